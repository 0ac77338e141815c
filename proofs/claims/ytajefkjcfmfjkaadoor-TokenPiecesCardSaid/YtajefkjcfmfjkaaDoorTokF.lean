/- The text of a law: what it is (the walk). -/
import Derived.Test.YtajefkjcfmfjkaaDoorTokE
import Derived.StillTailTactics
namespace Go.Proofs.YtajefkjcfmfjkaaDoor
open Go.RowKit Go.Proofs.YtajefkjcfmfjkaaDoorW.PrintWords Go.Proofs.YtajefkjcfmfjkaaDoor.PTokenPieces

/-- a number cut to less than n -/
def cutN (x : Int) (n : Nat) : Nat := (x % 18446744073709551616).toNat % n
theorem cutN_lt (x : Int) {n : Nat} (h : 0 < n) : cutN x n < n := Nat.mod_lt _ h

theorem cut_any (x : Int) (n : Nat) (w : World) (h0 : 0 < n) (h1 : n ≤ 1000000) :
    Calls Tryd.prog 27 #[.int .i64 x, .int .i64 n] w fun e w' => e = .returned (.int .i64 (cutN x n)) ∧ w' = w := by
  have e1 : IntKind.u64.wrap (n : Int) = n := by
    show (n : Int) % 18446744073709551616 = n
    omega
  have e0 : ((n : Int) == 0) = false := by rw [beq_eq_false_iff_ne]; omega
  have e2 : wrap64 (Int.tmod (IntKind.u64.wrap x) (n : Int)) = (cutN x n : Nat) := by
    have h2 : IntKind.u64.wrap x = x % 18446744073709551616 := rfl
    rw [h2]
    unfold cutN
    have h3 : 0 ≤ x % 18446744073709551616 := by omega
    obtain ⟨m, hm⟩ := Int.eq_ofNat_of_zero_le h3
    rw [hm]
    have h4 : Int.tmod (m : Int) (n : Int) = ((m % n : Nat) : Int) := rfl
    rw [h4, Int.toNat_natCast]
    have := Nat.mod_lt m h0
    unfold wrap64
    omega
  go_enter Tryd.func27, Tryd.ntmps27
  go_wp2
  go_ret
  exact ⟨ret_int e2, rfl⟩

/-- the pieces of texts -/
def pcL : List (List UInt8) := [[97], [78], [116, 121, 112, 101], [45, 62], [60, 45], [61], [95], [95, 120], [40], [41], [91], [93], [123], [125], [58], [46], [32], [10], [9], [37, 32, 99], [37], [37, 123], [125, 37], [37, 109, 111, 100, 101], [37, 37], [64, 99], [97, 45, 62, 98], [0], [127], [195, 169], [43], List.replicate 64 97]
def pcAt (j : Nat) : List UInt8 := pcL.getD j []
/-- the variable of the pieces holds them -/
structure PcAt (w : World) : Prop where
  mk :: (out : ∃ ad c, w.cell? ⟨0, 0, none⟩ = some (.slice (some ad) 32 c) ∧ ∀ j, j < 32 → w.cell? (ad.add j) = some (.string ⟨(pcAt j).toArray⟩))
theorem PcAt.below {w w1 : World} (h : PcAt w) (hb : Below w.heap.size w w1) : PcAt w1 := by
  obtain ⟨ad, c, h1, h2⟩ := h.out
  exact ⟨ad, c, pw_cell_below hb h1, fun j hj => pw_cell_below hb (h2 j hj)⟩

/-- the bytes of a text of numbers -/
def textL (l : List Int) : List UInt8 := (l.take 300).flatMap fun x => pcAt (cutN x 32)
def ints (l : List UInt8) : List Int := l.map fun b => (b.toNat : Int)
theorem ints_bytes (l : List UInt8) : bytesOf ⟨l.toArray⟩ = ints l := by simp [bytesOf, ints]
theorem str_ints (l : List UInt8) : strOfNums (ints l) = ⟨l.toArray⟩ := by
  unfold strOfNums ints
  congr 2
  rw [List.map_map]
  conv => rhs; rw [← List.map_id l]
  apply List.map_congr_left
  intro b _
  simp

theorem info5 : (Tryd.prog.info? 5).map (fun i => (i.zero, i.size, i.bytes)) = some (some (.int .u8 0), 1, 1) := by kernel_rfl

theorem pc_len (j : Nat) : (pcAt j).length ≤ 64 := by
  rcases Nat.lt_or_ge j 32 with h | h
  · revert j; decide
  · have hl : pcL.length ≤ j := h
    unfold pcAt
    rw [List.getD_eq_getElem?_getD, List.getElem?_eq_none hl]
    simp

theorem text_len (l : List Int) : (textL l).length ≤ 19200 := by
  have : ∀ (l : List Int) (n : Nat), ((l.take n).flatMap fun x => pcAt (cutN x 32)).length ≤ n * 64 := by
    intro l
    induction l with
    | nil => intro n; simp
    | cons a r ih =>
      intro n
      cases n with
      | zero => simp
      | succ n =>
        have h1 := ih n
        have h2 := pc_len (cutN a 32)
        simp only [List.take_succ_cons, List.flatMap_cons, List.length_append]
        omega
  have h := this l 300
  unfold textL
  omega

theorem text_take (l : List Int) (k : Nat) (h : k < l.length) (h3 : k < 300) : textL (l.take (k + 1)) = textL (l.take k) ++ pcAt (cutN (rd l k) 32) := by
  unfold textL
  rw [List.take_take, List.take_take, Nat.min_eq_right (by omega), Nat.min_eq_right (by omega), List.take_succ_eq_append_getElem h, List.flatMap_append]
  simp [rd, List.getElem?_eq_getElem h]
theorem text_all (l : List Int) (k : Nat) (h : k = l.length ∨ k = 300) : textL (l.take k) = textL l := by
  unfold textL
  rw [List.take_take]
  rcases h with h | h
  · rw [h]; congr 1
    rcases Nat.le_total 300 l.length with h2 | h2
    · rw [Nat.min_eq_left h2]
    · rw [Nat.min_eq_right h2, List.take_length, List.take_of_length_le h2]
  · rw [h, Nat.min_self]

set_option maxHeartbeats 4000000 in
set_option maxRecDepth 100000 in
theorem text_any (l : List Int) (A : Option Addr) (c : Nat) (w : World) (hl : l.length ≤ 9223372036854775807) (hr : Kd.C (Kd.int .i64) w A l.length l) (hp : PcAt w) :
    Calls Tryd.prog 18 #[.slice A l.length c] w fun e w' => e = .returned (.string ⟨(textL l).toArray⟩) ∧ Below w.heap.size w w' := by
  have HS := Aside0.mk hr
  have HP := Aside0.mk hp
  clear hr hp
  go_enter Tryd.func18, Tryd.ntmps18
  go_wp2
  go_loopw [3, 4] (fun v x w' => ∃ (k : Nat) (A1 : Option Addr) (c1 : Nat), k ≤ l.length ∧ k ≤ 300 ∧ x = .int .i64 k ∧ v = .slice A1 (ints (textL (l.take k))).length c1 ∧ Aside0 (w'.ownsRow w.heap.size 5 1 (.slice A1 (ints (textL (l.take k))).length c1) (ints (textL (l.take k))).length (nums .u8 (ints (textL (l.take k))))) ∧ Aside0 (Below w.heap.size w w')) (fun _ x _ => l.length - (intOf x).toNat)
  case atStart => exact ⟨0, none, 0, by omega, by omega, rfl, rfl, ⟨own_nil _ _ _ _⟩, ⟨Below.refl _ _⟩⟩
  case round =>
    obtain ⟨k, A1, c1, hk, hk3, rfl, rfl, HO, HB⟩ := hrel
    by_cases hlt : k < l.length
    · by_cases h3 : k < 300
      · have hlti : (k : Int) < (l.length : Int) := by omega
        have h3i : decide ((k : Int) < 300) = true := decide_eq_true (by omega)
        obtain ⟨ad, e1, hx0⟩ := Kd.at_int HS.out (k : Int) (by omega) (by omega)
        have hx : wr.cell? (ad.add k) = some (.int .i64 (rd l k)) := by
          have := pw_cell_below HB.out hx0
          rwa [Int.toNat_natCast] at this
        subst e1
        obtain ⟨pd, pc, hg0, hp0⟩ := HP.out.out
        have hg := pw_cell_below HB.out hg0
        have hq := pw_cell_below HB.out (hp0 (cutN (rd l k) 32) (cutN_lt _ (by omega)))
        have hcl : ((cutN (rd l k) 32 : Nat) : Int) < 32 := by have := cutN_lt (rd l k) (n := 32) (by omega); omega
        have hcut := fun W => cut_any (rd l k) 32 W (by omega) (by omega)
        clear hg0 hp0 hx0
        go_wp2
        refine wp_region_still_tail 11 (by kernel_rfl) (by kernel_rfl) ?_
        simp only [List.take_succ_cons, List.take_zero, List.drop_succ_cons, List.drop_zero]
        rw [show ({ heap := wr.heap, tape := wr.tape, drawn := wr.drawn + 1, os := wr.os, output := wr.output } : World) = wr.drew from rfl]
        have hg2 : wr.drew.cell? ⟨0, 0, none⟩ = some (.slice (some pd) 32 pc) := hg
        have hq2 : wr.drew.cell? (pd.add (cutN (rd l k) 32)) = some (.string ⟨(pcAt (cutN (rd l k) 32)).toArray⟩) := hq
        have hx2 : wr.drew.cell? (ad.add k) = some (.int .i64 (rd l k)) := hx
        clear hg hq hx
        have HO2 : Aside0 (wr.drew.ownsRow w.heap.size 5 1 (.slice A1 (ints (textL (l.take k))).length c1) (ints (textL (l.take k))).length (nums .u8 (ints (textL (l.take k))))) := ⟨own_drew HO.out⟩
        have HB2 : Aside0 (Below w.heap.size w wr.drew) := ⟨below_drew1 HB.out⟩
        clear HO HB
        generalize wr.drew = w2 at hg2 hq2 hx2 HO2 HB2 ⊢
        still_step
        still_step
        still_step
        still_step
        still_step
        still_step
        still_step
        still_step
        still_call (hcut _)
        still_step
        still_step
        refine wpStill_nil ?_
        have hlen : Aside0 ((ints (textL (l.take k))).length + (⟨(pcAt (cutN (rd l k) 32)).toArray⟩ : ByteArray).size ≤ 140737488355328) := by
          constructor
          have h1 := text_len (l.take k)
          have h2 := pc_len (cutN (rd l k) 32)
          have h3 : (⟨(pcAt (cutN (rd l k) 32)).toArray⟩ : ByteArray).size = (pcAt (cutN (rd l k) 32)).length := rfl
          have h4 : (ints (textL (l.take k))).length = (textL (l.take k)).length := by simp [ints]
          omega
        have hnext : Aside0 (ints (textL (l.take k)) ++ bytesOf ⟨(pcAt (cutN (rd l k) 32)).toArray⟩ = ints (textL (l.take (k + 1)))) := by
          constructor
          rw [ints_bytes, text_take l k hlt h3]
          simp [ints]
        go_wp2_with (at_builtin; refine print_append_str (w0 := w) w.heap.size rfl (.tmp 15) (.tmp 25) 37 9 5 rfl Tryd.underlying37 Tryd.underlying9 info5 (.slice A1 (ints (textL (l.take k))).length c1) (ints (textL (l.take k))) ⟨(pcAt (cutN (rd l k) 32)).toArray⟩ rfl rfl HO2.out HB2.out (below_size HB2.out) hlen.out ?_; intro v1 w1 ho hb hg; rw [hnext.out] at ho; have HO3 := Aside0.mk ho; have HB3 := Aside0.mk hb; clear ho hb hg)
        obtain ⟨A2, c2, ev⟩ := own_slice HO3.out
        subst ev
        go_roundw
        case rel => exact ⟨k + 1, A2, c2, by omega, by omega, by go_num, rfl, HO3, HB3⟩
        case measure => simp [intOf]; omega
      · have h3i : decide ((k : Int) < 300) = false := decide_eq_false (by omega)
        have hlti : (k : Int) < (l.length : Int) := by omega
        have hcv := fun (W : World) (h : W.ownsRow w.heap.size 5 1 (.slice A1 (ints (textL (l.take k))).length c1) (ints (textL (l.take k))).length (nums .u8 (ints (textL (l.take k))))) => own_string (P := Tryd.prog) (src := 37) (dst := 9) Tryd.underlying37 Tryd.underlying5 Tryd.underlying9 h
        have hcv1 := hcv wr HO.out
        rw [str_ints] at hcv1
        have HE := Aside0.mk (text_all l k (.inr (by omega)))
        clear hcv
        go_wp2
        go_ret
        exact ⟨by rw [← HE.out]; rfl, HB.out⟩
    · have hlti : ¬ (k : Int) < (l.length : Int) := by omega
      have hcv := fun (W : World) (h : W.ownsRow w.heap.size 5 1 (.slice A1 (ints (textL (l.take k))).length c1) (ints (textL (l.take k))).length (nums .u8 (ints (textL (l.take k))))) => own_string (P := Tryd.prog) (src := 37) (dst := 9) Tryd.underlying37 Tryd.underlying5 Tryd.underlying9 h
      have hcv1 := hcv wr HO.out
      rw [str_ints] at hcv1
      have HE := Aside0.mk (text_all l k (.inl (by omega)))
      clear hcv
      go_wp2
      go_ret
      exact ⟨by rw [← HE.out]; rfl, HB.out⟩
end Go.Proofs.YtajefkjcfmfjkaaDoor
