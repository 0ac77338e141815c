/- The printed functions of comments and classes against the plain function on lists of bytes. -/
import Derived.Test.YtajefkjcfmfjkaaDoorPTokenPiecesx1
import Derived.Test.YtajefkjcfmfjkaaDoorLexS
import Derived.IntWalk
namespace Go.Proofs.YtajefkjcfmfjkaaDoor
open Go.RowKit Go.Proofs.YtajefkjcfmfjkaaDoorW.PrintWords Go.Proofs.YtajefkjcfmfjkaaDoor.PTokenPieces

theorem w64 {x : Int} (h : -9223372036854775808 ≤ x) (h2 : x ≤ 9223372036854775807) : wrap64 x = x := by unfold wrap64; omega

def cmtR (s : ByteArray) (q : Option (List UInt8)) : Int := match q with
  | some q => ((s.size - q.length : Nat) : Int)
  | none => -1

theorem two_list (s : ByteArray) (i : Nat) (h : i + 1 < s.size) : (s.extract i (i + 2)).toList = [s[i], s[i + 1]] := by
  rw [Lib.toList_data, extract_list, sfx_cons s i (by omega), sfx_cons s (i + 1) h]
  rw [show i + 2 - i = 2 by omega]
  rfl

theorem ite_c {α : Type} {p q : Prop} [Decidable p] [Decidable q] (h : p = q) (a b : α) : (if p then a else b) = (if q then a else b) := by
  subst h
  congr

theorem two_eq (s : ByteArray) (i : Nat) (h : i + 1 < s.size) (a b : UInt8) : ((s.extract i (i + 2)).toList = [a, b]) = (s[i] = a ∧ s[i + 1] = b) := by
  rw [two_list s i h]
  simp

theorem comment_l0 (s : ByteArray) (hs : s.size ≤ 4611686018427387904) (n : Nat) : ∀ (i d k : Nat), s.size - i ≤ n → n < k → 1 ≤ d → d ≤ i → i ≤ s.size →
    token_comment.l0 k s (i : Int) (d : Int) = some (cmtR s (cmtL (sfx s i) d)) := by
  induction n using Nat.strongRecOn with
  | _ n ih =>
    intro i d k hn hk hd hdi his
    obtain ⟨k, rfl⟩ : ∃ m, k = m + 1 := ⟨k - 1, by omega⟩
    simp only [token_comment.l0]
    rw [w64 (x := (i : Int) + 1) (by omega) (by omega)]
    by_cases h1 : i + 1 < s.size
    · rw [if_pos (by omega), if_pos (by omega)]
      rw [w64 (x := (i : Int) + 2) (by omega) (by omega)]
      rw [if_pos (by omega), if_pos (by omega)]
      rw [w64 (x := (d : Int) + 1) (by omega) (by omega), w64 (x := (d : Int) - 1) (by omega) (by omega)]
      have e2 : ((i : Int) + 2).toNat = i + 2 := by omega
      have e1 : ((i : Int)).toNat = i := by omega
      rw [e1, e2, ite_c (two_eq s i h1 37 123), ite_c (two_eq s i h1 125 37)]
      have hc : cmtL (sfx s i) d = (if s[i] = 37 ∧ s[i+1] = 123 then cmtL (sfx s (i + 2)) (d + 1) else if s[i] = 125 ∧ s[i+1] = 37 then (if d = 1 then some (sfx s (i + 2)) else cmtL (sfx s (i + 2)) (d - 1)) else cmtL (sfx s (i + 1)) d) := by
        rw [sfx_cons s i (by omega), sfx_cons s (i + 1) h1]
        rfl
      rw [hc]
      by_cases c1 : s[i] = 37 ∧ s[i+1] = 123
      · rw [if_pos c1, if_pos c1, if_neg (by omega)]
        exact ih (n - 1) (by omega) (i + 2) (d + 1) k (by omega) (by omega) (by omega) (by omega) (by omega)
      · rw [if_neg c1, if_neg c1]
        by_cases c2 : s[i] = 125 ∧ s[i+1] = 37
        · rw [if_pos c2, if_pos c2]
          by_cases c3 : d = 1
          · rw [if_pos (by omega), if_pos c3]
            simp only [cmtR, sfx_len]
            congr 1
            omega
          · rw [if_neg (by omega), if_neg c3]
            have := ih (n - 1) (by omega) (i + 2) (d - 1) k (by omega) (by omega) (by omega) (by omega) (by omega)
            rw [show ((d - 1 : Nat) : Int) = (d : Int) - 1 by omega] at this
            exact this
        · rw [if_neg c2, if_neg c2, if_neg (by omega)]
          exact ih (n - 1) (by omega) (i + 1) d k (by omega) (by omega) (by omega) (by omega) (by omega)
    · rw [if_neg (by omega)]
      have : cmtL (sfx s i) d = none := by
        rcases Nat.lt_or_ge i s.size with h2 | h2
        · rw [sfx_cons s i h2, sfx_nil s (i + 1) (by omega)]
          rfl
        · rw [sfx_nil s i h2]
          rfl
      rw [this]
      rfl

/-- at a percent sign and a brace -/
theorem comment_f (s : ByteArray) (hs : s.size ≤ 4611686018427387904) (i : Nat) (h1 : i + 1 < s.size) (c1 : s[i] = 37 ∧ s[i+1] = 123) :
    ∃ k, token_comment.f k s (i : Int) = some (cmtR s (cmtL (sfx s (i + 2)) 1)) := by
  obtain ⟨k0, hk0⟩ : ∃ k0 : Nat, k0 = s.size + 2 := ⟨_, rfl⟩
  refine ⟨k0 + 1, ?_⟩
  unfold token_comment.f
  simp only [token_comment.l0]
  rw [w64 (x := (i : Int) + 1) (by omega) (by omega), if_pos (by omega), if_pos (by omega), w64 (x := (i : Int) + 2) (by omega) (by omega), if_pos (by omega), if_pos (by omega)]
  have e2 : ((i : Int) + 2).toNat = i + 2 := by omega
  have e1 : ((i : Int)).toNat = i := by omega
  rw [e1, e2, ite_c (two_eq s i h1 37 123), if_pos c1, w64 (x := (0 : Int) + 1) (by omega) (by omega), if_neg (by omega)]
  exact comment_l0 s hs s.size (i + 2) 1 k0 (by omega) (by omega) (by omega) (by omega) (by omega)

/-- the test for a block comment -/
def opens (s : ByteArray) (i : Nat) : Bool := decide ((sfx s (i + 1)).head? = some 123)
theorem prefix_f (s : ByteArray) (i : Nat) (h1 : i < s.size) (c1 : s[i] = 37) :
    strings_HasPrefix.f (s.extract i s.size) ⟨#[37, 123]⟩ = some (opens s i) := by
  have hsz : (s.extract i s.size).size = s.size - i := by simp [ByteArray.size_extract]
  have h2 : ((⟨#[37, 123]⟩ : ByteArray).size) = 2 := rfl
  unfold strings_HasPrefix.f stringslite_HasPrefix.f
  rw [hsz, h2]
  have e2 : (((2 : Nat) : Int)).toNat = 2 := rfl
  by_cases h3 : i + 1 < s.size
  · rw [if_pos (by omega), if_pos (by omega), if_pos (by omega)]
    simp only [Option.bind_some, e2]
    congr 1
    have e3 : ((s.extract i s.size).extract 0 2).toList = [s[i], s[i+1]] := by
      rw [Lib.toList_data, extract_list]
      unfold sfx
      rw [extract_list, sfx_cons s i h1, sfx_cons s (i + 1) h3, show s.size - i = (s.size - i - 2) + 2 by omega]
      rfl
    rw [e3, c1]
    unfold opens
    rw [sfx_cons s (i + 1) h3]
    have : (⟨#[37, 123]⟩ : ByteArray).toList = [37, 123] := by rw [Lib.toList_data]
    rw [this, Bool.eq_iff_iff]
    simp
  · rw [if_neg (by omega)]
    simp only [Option.bind_some]
    unfold opens
    rw [sfx_nil s (i + 1) (by omega)]
    rfl

theorem reserved_f (s : ByteArray) : token_reserved.f s = some (isRes s.data.toList) := by
  unfold token_reserved.f isRes
  rw [Lib.toList_data]
  generalize s.data.toList = l
  split
  · rename_i h; subst h; rfl
  · rename_i h1
    split
    · rename_i h; subst h; rfl
    · split
      · rename_i h; subst h; rfl
      · split
        · rename_i h; subst h; rfl
        · split
          · rename_i h; subst h; rfl
          · congr 1; simp [*]

end Go.Proofs.YtajefkjcfmfjkaaDoor
