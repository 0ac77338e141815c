/- SameTokens, awake, same: what each computes. -/
import Derived.Test.YtajefkjcfmfjkaaDoorTokF
import Derived.Test.YtajefkjcfmfjkaaDoorTokG
namespace Go.Proofs.YtajefkjcfmfjkaaDoor
open Go.RowKit Go.Proofs.YtajefkjcfmfjkaaDoorW.PrintWords Go.Proofs.YtajefkjcfmfjkaaDoor.PTokenPieces

/-! ### names on lists -/
def nameL (l : List UInt8) : Bool := decide (0 < l.length) && decide (l.length ≤ 64) && l.all isName && !isRes l && l.head? != some 64
def freeL (l : List UInt8) : Bool := nameL l && (match l.head? with | some c => decide (65 ≤ c.toNat) && decide (c.toNat ≤ 90) || c == 95 | none => false)
theorem sfx_zero (s : ByteArray) : sfx s 0 = s.data.toList := by simp [sfx]
theorem tw_all (p : UInt8 → Bool) : ∀ l : List UInt8, (l.takeWhile p).length = l.length ↔ l.all p = true
  | [] => by simp
  | c :: r => by
    have ih := tw_all p r
    cases hp : p c with
    | true => rw [List.takeWhile_cons_of_pos hp, List.length_cons, List.length_cons, List.all_cons, hp, Bool.true_and, ← ih]; omega
    | false => rw [List.takeWhile_cons_of_neg (by rw [hp]; exact Bool.false_ne_true), List.all_cons, hp]; simp
theorem run_all (s : ByteArray) : (runEnd isName s 0 == s.size) = s.data.toList.all isName := by
  obtain ⟨h1, h2, h3, h4⟩ := runEnd_sfx isName s 0 (Nat.zero_le _)
  rw [sfx_zero] at h3 h4
  have hl : (s.data.toList.takeWhile isName).length = runEnd isName s 0 := by
    rw [← h4, List.length_take, len_data]; omega
  rw [Bool.eq_iff_iff, beq_iff_eq, ← tw_all, hl, len_data]
theorem nameS_L (s : ByteArray) : nameS s = nameL s.data.toList := by
  unfold nameS nameL
  rw [run_all, sfx_zero, len_data]
theorem freeS_L (s : ByteArray) : freeS s = freeL s.data.toList := by
  unfold freeS freeL
  rw [nameS_L, sfx_zero]
  cases s.data.toList.head? <;> rfl

/-! ### the tokens, by so many steps -/
def lexN : Nat → Nat → List UInt8 → Nat → List Tk × Nat × Nat
  | 0, _, _, _ => ([], 0, 0)
  | n + 1, o, l, cnt => match l with
    | [] => ([], 0, o)
    | c :: r => match nextL (c :: r) with
      | .err e => ([], e, o)
      | .skip q => lexN n (o + ((c :: r).length - q.length)) q cnt
      | .tok k t q => if cnt = 20000 then ([], 7, o) else
          let x := lexN n (o + ((c :: r).length - q.length)) q (cnt + 1)
          if x.2.1 = 0 then (⟨k, t, o⟩ :: x.1, x.2) else ([], x.2)
theorem lexN_cons (n o : Nat) (c : UInt8) (r : List UInt8) (cnt : Nat) : lexN (n + 1) o (c :: r) cnt = match nextL (c :: r) with
      | .err e => ([], e, o)
      | .skip q => lexN n (o + ((c :: r).length - q.length)) q cnt
      | .tok k t q => if cnt = 20000 then ([], 7, o) else
          if (lexN n (o + ((c :: r).length - q.length)) q (cnt + 1)).2.1 = 0 then (⟨k, t, o⟩ :: (lexN n (o + ((c :: r).length - q.length)) q (cnt + 1)).1, (lexN n (o + ((c :: r).length - q.length)) q (cnt + 1)).2) else ([], (lexN n (o + ((c :: r).length - q.length)) q (cnt + 1)).2) := rfl
theorem lexN_eq : ∀ (n o : Nat) (l : List UInt8) (cnt : Nat), l.length < n → lexN n o l cnt = lexL o l cnt
  | 0, _, _, _, h => by omega
  | n + 1, o, [], cnt, _ => by rw [lexL_nil]; rfl
  | n + 1, o, c :: r, cnt, h => by
    have hl := nextL_less c r
    rw [lexN_cons]
    cases hn : nextL (c :: r) with
    | err e => rw [lexL_err hn]
    | skip q =>
      rw [hn] at hl
      simp only [Stp.less] at hl
      rw [lexL_skip hn]
      exact lexN_eq n _ q cnt (by simp at hl h; omega)
    | tok k t q =>
      rw [hn] at hl
      simp only [Stp.less] at hl
      by_cases hc : cnt = 20000
      · subst hc
        rw [lexL_many hn]
        simp only [if_true]
      · rw [lexL_tok hn hc, ← lexN_eq n _ q (cnt + 1) (by simp at hl h; omega)]
        simp only [if_neg hc]

/-! ### awake -/
def awB : ByteArray := ⟨#[97, 32, 58, 32, 116, 121, 112, 101, 46, 32, 37, 109, 111, 100, 101, 32, 102, 32, 43, 46, 32, 37, 32, 120, 10, 37, 123, 32, 98, 32, 37, 123, 32, 99, 32, 125, 37, 32, 125, 37]⟩
def awT : List Tk := [⟨1, [97], 0⟩, ⟨2, [58], 2⟩, ⟨2, [116, 121, 112, 101], 4⟩, ⟨2, [46], 8⟩, ⟨3, [109, 111, 100, 101], 10⟩, ⟨1, [102], 16⟩, ⟨1, [43], 18⟩, ⟨2, [46], 19⟩]
theorem aw_lex : lexS awB = (awT, 0, 40) := by
  unfold lexS
  rw [if_neg (by decide), sfx_zero, ← lexN_eq 41 0 awB.data.toList 0 (by decide)]
  kernel_rfl

/-- what 'same' looks at in a token -/
def tkKey (at_ : Bool) (x : S35) : Int × List UInt8 × Int := (x.f0, x.f1.data.toList, if at_ then x.f2 else 0)
theorem sameT_l0 (a b : List S35) (at_ : Bool) (hab : a.length = b.length) (hl : a.length ≤ 1000000) (n : Nat) : ∀ (i k : Nat), i ≤ a.length → a.length - i ≤ n → n < k →
    lfcheckref01_SameTokens.l0 k a b at_ (i : Int) = some (decide ((a.drop i).map (tkKey at_) = (b.drop i).map (tkKey at_))) := by
  induction n with
  | zero =>
    intro i k hi hn hk
    obtain ⟨k, rfl⟩ : ∃ m, k = m + 1 := ⟨k - 1, by omega⟩
    simp only [lfcheckref01_SameTokens.l0]
    rw [if_neg (by omega), List.drop_eq_nil_of_le (by omega), List.drop_eq_nil_of_le (by omega)]
    simp
  | succ n ih =>
    intro i k hi hn hk
    obtain ⟨k, rfl⟩ : ∃ m, k = m + 1 := ⟨k - 1, by omega⟩
    by_cases hlt : i < a.length
    · have hlb : i < b.length := by omega
      have h1 := ih (i + 1) k (by omega) (by omega) (by omega)
      rw [show ((i + 1 : Nat) : Int) = (i : Int) + 1 by omega] at h1
      simp only [lfcheckref01_SameTokens.l0]
      rw [if_pos (by omega), if_pos (by omega), if_pos (by omega), w64 (by omega) (by omega), h1]
      have ea : rd_T35 a (i : Int) = a[i] := by simp [rd_T35, List.getElem?_eq_getElem hlt]
      have eb : rd_T35 b (i : Int) = b[i] := by simp [rd_T35, List.getElem?_eq_getElem hlb]
      rw [ea, eb, List.drop_eq_getElem_cons hlt, List.drop_eq_getElem_cons hlb, List.map_cons, List.map_cons, Lib.toList_data, Lib.toList_data]
      simp only [List.cons.injEq, tkKey, Prod.mk.injEq]
      by_cases c0 : (a[i]).f0 = (b[i]).f0
      · rw [if_pos c0]
        by_cases c1 : (a[i]).f1.data.toList = (b[i]).f1.data.toList
        · rw [if_pos c1]
          cases at_ with
          | true =>
            rw [if_pos rfl]
            by_cases c2 : (a[i]).f2 = (b[i]).f2
            · rw [if_pos c2]; simp [c0, c1, c2]
            · rw [if_neg c2]; simp [c2]
          | false =>
            rw [if_neg (by decide)]; simp [c0, c1]
        · rw [if_neg c1]; simp [c1]
      · rw [if_neg c0]; simp [c0]
    · simp only [lfcheckref01_SameTokens.l0]
      rw [if_neg (by omega), List.drop_eq_nil_of_le (by omega), List.drop_eq_nil_of_le (by omega)]
      simp

def sameT (a b : List S35) (at_ : Bool) : Bool := decide (a.map (tkKey at_) = b.map (tkKey at_))
theorem sameT_any (a b : List S35) (at_ : Bool) (A B : Option Addr) (c d : Nat) (w : World) (hl : a.length ≤ 1000000) (ha : Kd.C k35 w A a.length a) (hb : Kd.C k35 w B b.length b) (hc : a.length ≤ c) (hd : b.length ≤ d) :
    Calls Tryd.prog 26 #[.slice A a.length c, .slice B b.length d, .bool at_] w fun e w' => e = .returned (.bool (sameT a b at_)) ∧ Drawn0 w w' := by
  refine lfcheckref01_SameTokens.calls (a.length + 1) A c a B d b at_ _ w ha hc hb hd ?_
  unfold lfcheckref01_SameTokens.f sameT
  by_cases h : a.length = b.length
  · rw [if_pos (by omega)]
    have := sameT_l0 a b at_ h hl a.length 0 (a.length + 1) (by omega) (by omega) (by omega)
    exact this
  · rw [if_neg (by omega)]
    have : a.map (tkKey at_) ≠ b.map (tkKey at_) := by
      intro h2
      have := congrArg List.length h2
      simp at this
      exact h this
    simp [this]

end Go.Proofs.YtajefkjcfmfjkaaDoor
