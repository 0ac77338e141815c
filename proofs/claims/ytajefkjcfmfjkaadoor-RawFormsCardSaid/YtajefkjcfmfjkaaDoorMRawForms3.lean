/- The texts of the proof of 'RawForms', joined: each part is a text of its own in wip; what the law does not use is left out. -/
import Derived.Test.YtajefkjcfmfjkaaDoorMRawForms2
namespace Go.Proofs.YtajefkjcfmfjkaaDoor
section
set_option linter.unusedVariables false
set_option linter.unusedSimpArgs false
set_option linter.deprecated false
open Go.RowKit Go.Proofs.YtajefkjcfmfjkaaDoorW.PrintWords Go.Proofs.YtajefkjcfmfjkaaDoor.PRawForms
set_option linter.unusedVariables false
attribute [local go_sem ↓] Go.wp_at_zero Go.wp_at_succ
theorem cells4 {w : World} {b : Nat} {c0 c1 c2 c3 : Value} (h : w.heap[b]? = some (.cells #[c0, c1, c2, c3] 42 (0, 0))) :
    w.cell? ⟨b, 0, none⟩ = some c0 ∧ w.cell? ⟨b, 1, none⟩ = some c1 ∧ w.cell? ⟨b, 2, none⟩ = some c2 ∧ w.cell? ⟨b, 3, none⟩ = some c3 :=
  ⟨(blk_cell h 0).trans rfl, (blk_cell h 1).trans rfl, (blk_cell h 2).trans rfl, (blk_cell h 3).trans rfl⟩
theorem Foot.set4 {lo lo' b : Nat} {w : World} {A : Option Addr} {l : List S42} (h : Foot lo w A l) (hlo : lo' ≤ lo) (hb : b < lo) (v0 v1 v2 v3 : Value) :
    Foot lo' ((((w.setCell ⟨b, 0, none⟩ v0).setCell ⟨b, 1, none⟩ v1).setCell ⟨b, 2, none⟩ v2).setCell ⟨b, 3, none⟩ v3) A l := by
  refine h.step hlo (Nat.le_of_eq (by simp [World.setCell])) (fun k h1 h2 => ?_)
  have hne : k ≠ b := by omega
  exact (Below.heap_setCell _ ⟨b, 3, none⟩ v3 k hne).trans ((Below.heap_setCell _ ⟨b, 2, none⟩ v2 k hne).trans ((Below.heap_setCell _ ⟨b, 1, none⟩ v1 k hne).trans (Below.heap_setCell _ ⟨b, 0, none⟩ v0 k hne)))
theorem Tp.grown {w0 W W1 : World} {g : Nat} {row : Option Nat} (h : Tp w0 W g) (hg : W.grownBy W1 row) (hne : some g ≠ row) (hr : ∀ k, row = some k → w0.heap.size ≤ k) : Tp w0 W1 g := by
  obtain ⟨h0, zs, k, hI, h1, h2, h3⟩ := h
  exact ⟨h0.grown hg (below_size h0) hr, zs, k, hI.grown hg hne, h1, h2, h3⟩
theorem keep_grown {W W1 W2 : World} {g : Nat} {row : Option Nat} (h : KeepBut W W1 g none) (hg : W1.grownBy W2 row) (hr : ∀ k, row = some k → W.heap.size ≤ k) : KeepBut W W2 g none :=
  ⟨Nat.le_trans h.1 hg.size, fun i hi hn _ => (hg.block i (Nat.lt_of_lt_of_le hi h.1) (fun e => by have := hr i e.symm; omega)).trans (h.2 i hi hn (by simp))⟩
def nmL4 : List ByteArray := [⟨#[97]⟩, ⟨#[78]⟩, ⟨#[120]⟩, ⟨#[95]⟩]
theorem nmL4_ok : ∀ n ∈ nmL4, (nameS n || eqB n ⟨#[95]⟩) = true ∧ n.size ≤ 64 := by decide +kernel
theorem madeB1 (i : Nat) (k o : Int) (n : ByteArray) (x : S42) (h : k = 7 ∨ k = 8) (hn : (nameS n || eqB n ⟨#[95]⟩) = true) (hs : n.size ≤ 64) (hx : Made i x) : Made (i + 1) ⟨k, n, o, [x]⟩ := by
  obtain ⟨a1, a2, a3, a4⟩ := hx
  refine ⟨?_, ?_, ?_, ?_⟩
  · rw [fmT_eq]; unfold nodeS; rw [if_neg (by simp only; omega), if_neg (by simp only; omega), if_neg (by simp only; omega), if_pos h]; simp only [hn]; simp [fmL, a1]
  · rw [nmT_eq]; simp [nmL, hs, a2]
  · rw [szT_eq]; simp only [szL]; rw [Nat.pow_succ 2 (i + 1)]; omega
  · rw [dpT]; simp only [dpL]; omega
theorem madeB2 (i : Nat) (k o : Int) (n : ByteArray) (x y : S42) (h : k = 7 ∨ k = 8) (hn : (nameS n || eqB n ⟨#[95]⟩) = true) (hs : n.size ≤ 64) (hx : Made i x) (hy : Made i y) : Made (i + 1) ⟨k, n, o, [x, y]⟩ := by
  obtain ⟨a1, a2, a3, a4⟩ := hx
  obtain ⟨b1, b2, b3, b4⟩ := hy
  refine ⟨?_, ?_, ?_, ?_⟩
  · rw [fmT_eq]; unfold nodeS; rw [if_neg (by simp only; omega), if_neg (by simp only; omega), if_neg (by simp only; omega), if_pos h]; simp only [hn]; simp [fmL, a1, b1]
  · rw [nmT_eq]; simp [nmL, hs, a2, b2]
  · rw [szT_eq]; simp only [szL]; rw [Nat.pow_succ 2 (i + 1)]; omega
  · rw [dpT]; simp only [dpL]; omega
theorem made2 (i : Nat) (k o : Int) (x y : S42) (h : k = 5 ∨ k = 6 ∨ k = 9) (hx : Made i x) (hy : Made i y) : Made (i + 1) ⟨k, ⟨#[]⟩, o, [x, y]⟩ := by
  obtain ⟨a1, a2, a3, a4⟩ := hx
  obtain ⟨b1, b2, b3, b4⟩ := hy
  refine ⟨?_, ?_, ?_, ?_⟩
  · rw [fmT_eq]; unfold nodeS; rw [if_neg (by simp only; omega), if_neg (by simp only; omega), if_pos h]; simp [fmL, eqB_self, a1, b1]
  · rw [nmT_eq]; simp [nmL, ByteArray.size, a2, b2]
  · rw [szT_eq]; simp only [szL]; rw [Nat.pow_succ 2 (i + 1)]; omega
  · rw [dpT]; simp only [dpL]; omega
set_option maxHeartbeats 4000000 in
set_option maxRecDepth 100000 in
theorem raw_succ (w0 : World) (hw : WdAt w0) (g : Nat) (i : Nat) (hi : i ≤ 100) (W : World) (hT : Tp w0 W g) (HI : ∀ W, Tp w0 W g → Calls Tryd.prog 59 #[.pointer (some ⟨g, 0, none⟩), .int .i64 i] W (RawPost w0 g i W)) :
    Calls Tryd.prog 59 #[.pointer (some ⟨g, 0, none⟩), .int .i64 ((i : Int) + 1)] W (RawPost w0 g (i + 1) W) := by
  have hu42 := Tryd.underlying42
  have NX : Aside0 (∀ (n : Int) (W' : World), Tp w0 W' g → 0 < n → n ≤ 1000000 → Calls Tryd.prog 76 #[.pointer (some ⟨g, 0, none⟩), .int .i64 n] W' fun e w' => ∃ r : Nat, (r : Int) < n ∧ e = .returned (.int .i64 r) ∧ Tp w0 w' g ∧ KeepBut W' w' g none) := ⟨fun n W' h h0 h1 => tnext_int w0 W' g n h h0 h1⟩
  have T0 := Aside0.mk hT
  obtain ⟨ad, cw, hg, he⟩ := hw.out
  have WG := Aside0.mk hg
  have WE := Aside0.mk he
  have GA : Aside0 (∀ W', Below w0.heap.size w0 W' → W'.cell? ⟨1, 0, none⟩ = some (.slice (some ad) 13 cw) ∧ ∀ j, j < 13 → W'.cell? (ad.add j) = some (.string (wdB j))) := ⟨fun W' h => ⟨pw_cell_below h hg, fun j hj => pw_cell_below h (he j hj)⟩⟩
  clear hT hw hg he
  go_enter Tryd.func59, Tryd.ntmps59
  go_wp2_with fail
  go_at_call 76
  refine (NX.out 9 _ ?t1 (by omega) (by omega)).mono ?_
  case t1 => exact T0.out.keep (by repeat (first | (with_reducible first | exact Below.refl _ _ | apply below_alloc | apply pw_below_drewN | apply below_drew1 | refine below_set ?_ (Nat.le_refl _)) | assumption))
  rintro e w1 ⟨r, hr, rfl, h1, k1⟩
  have T1 := Aside0.mk h1
  have K1 : Aside0 (KeepBut W w1 g none) := ⟨(KeepBut.of_below (below_alloc (Below.refl _ W) _) g none).trans k1 (.inl rfl)⟩
  have BX1 : Aside0 (w1.heap[W.heap.size]? = some (.cells #[.int .i64 0, .string ⟨#[]⟩, .int .i64 0, .slice none 0 0] 42 (0, 0))) := ⟨k1.blk (heap_alloc_new _ _) (Nat.ne_of_gt (Tp.lt T0.out)) (by simp)⟩
  clear h1 k1
  have HS1 : Aside0 (W.heap.size < w1.heap.size) := ⟨blk_lt BX1.out⟩
  have GL : Aside0 (g < W.heap.size) := ⟨T0.out.lt⟩
  have HWW : Aside0 (w0.heap.size ≤ W.heap.size) := ⟨below_size T0.out.1⟩
  have H59 := Aside0.mk HI
  clear HI
  have q7 := eq_false (show ¬ ((i : Int) + 1 ≤ 0) by omega)
  have q8 : IntKind.i64.wrap ((i : Int) + 1 - 1) = i := by rw [show (i : Int) + 1 - 1 = i by omega]; exact IntWalk.i64_in _ (by omega)
  have q8' : IntKind.i64.wrap (i : Int) = i := IntWalk.i64_in _ (by omega)
  obtain ⟨k, hk⟩ : ∃ k : Int, k = 1 + (r : Int) := ⟨_, rfl⟩
  have q9 : IntKind.i64.wrap (1 + (r : Int)) = k := by rw [hk]; exact IntWalk.i64_in _ (by omega)
  have HK : Aside0 ((k = 1 ∨ k = 2) ∨ (k = 3 ∨ k = 4) ∨ (k = 5 ∨ k = 6 ∨ k = 9) ∨ (k = 7 ∨ k = 8)) := ⟨by omega⟩
  clear hk hr
  have T2 := T1
  have K2 := K1
  have BX2 := BX1
  go_wp2_with fail
  go_at_call 76
  refine (NX.out 100 _ ?t3 (by omega) (by omega)).mono ?_
  case t3 => exact T2.out.keep (by repeat (first | (with_reducible first | exact Below.refl _ _ | apply below_alloc | apply pw_below_drewN | apply below_drew1 | refine below_set ?_ (Nat.le_refl _)) | assumption))
  rintro e w3 ⟨r3, hr3, rfl, h1, k1⟩
  have T3 := Aside0.mk h1
  have K3 := Aside0.mk (K2.out.trans k1 (.inl rfl))
  have BX3 : Aside0 (w3.heap[W.heap.size]? = some (.cells #[.int .i64 0, .string ⟨#[]⟩, .int .i64 0, .slice none 0 0] 42 (0, 0))) := ⟨k1.blk BX2.out (Nat.ne_of_gt GL.out) (by simp)⟩
  clear h1 k1 K2 BX2 q9 hr3 T2
  rcases HK.out with hk | hk | hk | hk
  · rcases hk with rfl | rfl
    all_goals
      clear HK
      go_wp2_with fail
      have HW3 : Aside0 (w0.heap.size ≤ w3.heap.size) := ⟨below_size T3.out.1⟩
      go_region_held2 (fun W' => W'.cell? ⟨1, 0, none⟩ = some (.slice (some ad) 13 cw) ∧ ∀ j, j < 13 → W'.cell? (ad.add j) = some (.string (wdB j))) ((first | exact GA.out _ (below_drew (below_alloc T3.out.1 _)) | exact GA.out _ T4.out.1 | exact GA.out _ (T4.out.1.setCell (p := ⟨w3.heap.size, 1, none⟩) HW3.out _))) ((go_at_call 76; (with_reducible refine (NX.out 10 _ ?t4 (by omega) (by omega)).mono ?_); (case t4 => exact T3.out.keep (by repeat (first | (with_reducible first | exact Below.refl _ _ | apply below_alloc | apply pw_below_drewN | apply below_drew1 | refine below_set ?_ (Nat.le_refl _)) | assumption))); rintro e w4 ⟨r4, hr4, rfl, h1, k1⟩; have T4 := Aside0.mk h1; have B6 : Aside0 (w4.heap[w3.heap.size]? = some (.cells #[.int .i64 _, .string ⟨#[]⟩, .int .i64 r3, .slice none 0 0] 42 (0, 0))) := ⟨k1.blk (heap_alloc_new _ _) (Nat.ne_of_gt (Tp.lt T3.out)) (by simp)⟩; have BX4 : Aside0 (w4.heap[W.heap.size]? = some (.cells #[.int .i64 0, .string ⟨#[]⟩, .int .i64 0, .slice none 0 0] 42 (0, 0))) := ⟨k1.blk ((al_old _ _ (blk_lt BX3.out)).trans BX3.out) (Nat.ne_of_gt GL.out) (by simp)⟩; have K4 : Aside0 (KeepBut W w4 g none) := ⟨K3.out.trans ((KeepBut.of_below (below_alloc (Below.refl _ w3) _) g none).trans k1 (.inl rfl)) (.inl rfl)⟩; have q2 := eq_true (show r4 < 13 by omega); have q0 := eq_true (show (0 : Int) ≤ (r4 : Int) by omega); have q1 := eq_true (show (r4 : Int) < 13 by omega); have R4 := Aside0.mk hr4; have z0 : w4.cell? ⟨W.heap.size, 0, none⟩ = some (.int .i64 0) := (blk_cell BX4.out 0).trans rfl; have z1 : w4.cell? ⟨W.heap.size, 1, none⟩ = some (.string ⟨#[]⟩) := (blk_cell BX4.out 1).trans rfl; have z2 : w4.cell? ⟨W.heap.size, 2, none⟩ = some (.int .i64 0) := (blk_cell BX4.out 2).trans rfl; have z3 : w4.cell? ⟨W.heap.size, 3, none⟩ = some (.slice none 0 0) := (blk_cell BX4.out 3).trans rfl; have y0 := blk_frozen BX4.out 0; have y1 := blk_frozen BX4.out 1; have y2 := blk_frozen BX4.out 2; have y3 := blk_frozen BX4.out 3; have hlw4 : W.heap.size < w4.heap.size := blk_lt BX4.out; have u0 : w4.cell? ⟨w3.heap.size, 0, none⟩ = some (.int .i64 _) := (blk_cell B6.out 0).trans rfl; have u1 : w4.cell? ⟨w3.heap.size, 1, none⟩ = some (.string ⟨#[]⟩) := (blk_cell B6.out 1).trans rfl; have u2 : w4.cell? ⟨w3.heap.size, 2, none⟩ = some (.int .i64 r3) := (blk_cell B6.out 2).trans rfl; have u3 : w4.cell? ⟨w3.heap.size, 3, none⟩ = some (.slice none 0 0) := (blk_cell B6.out 3).trans rfl; have v0 := blk_frozen B6.out 0; have v1 := blk_frozen B6.out 1; have v2 := blk_frozen B6.out 2; have v3 := blk_frozen B6.out 3; have hl6 : w3.heap.size < w4.heap.size := blk_lt B6.out; clear h1 k1 hr4))
      have GW3 : Aside0 (g < w3.heap.size ∧ W.heap.size < w3.heap.size) := ⟨⟨T3.out.lt, blk_lt BX3.out⟩⟩
      have T5 := Aside0.mk (T4.out.set HW3.out (Nat.ne_of_lt GW3.out.1) 1 (.string (wdB r4)))
      have K5 := Aside0.mk (keep_set K4.out (Nat.le_of_lt GW3.out.2) 1 (.string (wdB r4)))
      have BX5 := Aside0.mk (blk_far BX4.out (p := ⟨w3.heap.size, 1, none⟩) (Nat.ne_of_lt GW3.out.2) (.string (wdB r4)))
      have B65 : Aside0 ((w4.setCell ⟨w3.heap.size, 1, none⟩ (.string (wdB r4))).heap[w3.heap.size]? = some (.cells #[.int .i64 _, .string (wdB r4), .int .i64 r3, .slice none 0 0] 42 (0, 0))) := ⟨blk_put B6.out 1 _ rfl⟩
      clear z0 z1 z2 z3 y0 y1 y2 y3 u0 u1 u2 u3 v0 v1 v2 v3 q0 q1 q2 hl6 hlw4 B6 BX4 K4 T4
      generalize w4.setCell ⟨w3.heap.size, 1, none⟩ (.string (wdB r4)) = w5 at *
      have z0 : w5.cell? ⟨W.heap.size, 0, none⟩ = some (.int .i64 0) := (blk_cell BX5.out 0).trans rfl
      have z1 : w5.cell? ⟨W.heap.size, 1, none⟩ = some (.string ⟨#[]⟩) := (blk_cell BX5.out 1).trans rfl
      have z2 : w5.cell? ⟨W.heap.size, 2, none⟩ = some (.int .i64 0) := (blk_cell BX5.out 2).trans rfl
      have z3 : w5.cell? ⟨W.heap.size, 3, none⟩ = some (.slice none 0 0) := (blk_cell BX5.out 3).trans rfl
      have y0 := blk_frozen BX5.out 0
      have y1 := blk_frozen BX5.out 1
      have y2 := blk_frozen BX5.out 2
      have y3 := blk_frozen BX5.out 3
      have hlw5 : W.heap.size < w5.heap.size := blk_lt BX5.out
      have u0 : w5.cell? ⟨w3.heap.size, 0, none⟩ = some (.int .i64 _) := (blk_cell B65.out 0).trans rfl
      have u1 : w5.cell? ⟨w3.heap.size, 1, none⟩ = some (.string (wdB r4)) := (blk_cell B65.out 1).trans rfl
      have u2 : w5.cell? ⟨w3.heap.size, 2, none⟩ = some (.int .i64 r3) := (blk_cell B65.out 2).trans rfl
      have u3 : w5.cell? ⟨w3.heap.size, 3, none⟩ = some (.slice none 0 0) := (blk_cell B65.out 3).trans rfl
      have hl6 : w3.heap.size < w5.heap.size := blk_lt B65.out
      have HL5 := Aside0.mk hlw5
      go_wp2_with fail
      refine bodyPost_ret (results_cell_row rfl _ _ W.heap.size 42 #[.int .i64 _, .string (wdB r4), .int .i64 r3, .slice none 0 0] (0, 0) _ rfl (by first | (with_reducible exact box_set4 BX5.out _ _ _ _) | (rw [al_old _ _ (by simpa [World.setCell] using HL5.out)]; exact box_set4 BX5.out _ _ _ _)) Tryd.underlying42 rfl (by kernel_rfl)) rfl ?_
      refine ⟨⟨_, (wdB r4), r3, []⟩, none, 0, rfl, made12 (i + 1) _ _ _ (by omega) (wdB_name r4 (by have := R4.out; omega)) (wdB_len r4), Nat.le_refl _, ?_, ?_, Foot.nil _ _⟩
      · with_reducible first | exact set4_tp T5.out HWW.out (Nat.ne_of_lt GL.out) _ _ _ _ | exact (set4_tp T5.out HWW.out (Nat.ne_of_lt GL.out) _ _ _ _).alloc _
      · with_reducible first | exact set4_keep K5.out (Nat.le_refl _) _ _ _ _ | exact keep_alloc (set4_keep K5.out (Nat.le_refl _) _ _ _ _) _
  · rcases hk with rfl | rfl
    all_goals
      clear HK
      have z0 : w3.cell? ⟨W.heap.size, 0, none⟩ = some (.int .i64 0) := (blk_cell BX3.out 0).trans rfl
      have z1 : w3.cell? ⟨W.heap.size, 1, none⟩ = some (.string ⟨#[]⟩) := (blk_cell BX3.out 1).trans rfl
      have z2 : w3.cell? ⟨W.heap.size, 2, none⟩ = some (.int .i64 0) := (blk_cell BX3.out 2).trans rfl
      have z3 : w3.cell? ⟨W.heap.size, 3, none⟩ = some (.slice none 0 0) := (blk_cell BX3.out 3).trans rfl
      have y0 := blk_frozen BX3.out 0
      have y1 := blk_frozen BX3.out 1
      have y2 := blk_frozen BX3.out 2
      have y3 := blk_frozen BX3.out 3
      have hlw3 : W.heap.size < w3.heap.size := blk_lt BX3.out
      have HL3 := Aside0.mk hlw3
      go_wp2_with fail
      refine bodyPost_ret (results_cell_row rfl _ _ W.heap.size 42 #[.int .i64 _, .string ⟨#[]⟩, .int .i64 r3, .slice none 0 0] (0, 0) _ rfl (by first | (with_reducible exact box_set4 BX3.out _ _ _ _) | (rw [al_old _ _ (by simpa [World.setCell] using HL3.out)]; exact box_set4 BX3.out _ _ _ _)) Tryd.underlying42 rfl (by kernel_rfl)) rfl ?_
      refine ⟨⟨_, ⟨#[]⟩, r3, []⟩, none, 0, rfl, made34 (i + 1) _ _ (by omega), Nat.le_refl _, ?_, ?_, Foot.nil _ _⟩
      · with_reducible first | exact set4_tp T3.out HWW.out (Nat.ne_of_lt GL.out) _ _ _ _ | exact (set4_tp T3.out HWW.out (Nat.ne_of_lt GL.out) _ _ _ _).alloc _
      · with_reducible first | exact set4_keep K3.out (Nat.le_refl _) _ _ _ _ | exact keep_alloc (set4_keep K3.out (Nat.le_refl _) _ _ _ _) _
  · rcases hk with rfl | rfl | rfl
    all_goals
      clear HK
      go_wp2_with fail
      go_at_call 59
      refine (H59.out _ ?t4).mono ?_
      case t4 => exact T3.out.keep (by repeat (first | (with_reducible first | exact Below.refl _ _ | apply below_alloc | apply pw_below_drewN | apply below_drew1 | refine below_set ?_ (Nat.le_refl _)) | assumption))
      rintro e w4 ⟨t1, A1, c1, rfl, md1, hc1, h1, k1, f1⟩
      have T4 := Aside0.mk h1
      have B6 : Aside0 (w4.heap[w3.heap.size]? = some (.cells #[.int .i64 _, .string ⟨#[]⟩, .int .i64 r3, .slice none 0 0] 42 (0, 0))) := ⟨k1.blk (heap_alloc_new _ _) (Nat.ne_of_gt (Tp.lt T3.out)) (by simp)⟩
      have BX4 : Aside0 (w4.heap[W.heap.size]? = some (.cells #[.int .i64 0, .string ⟨#[]⟩, .int .i64 0, .slice none 0 0] 42 (0, 0))) := ⟨k1.blk ((al_old _ _ (blk_lt BX3.out)).trans BX3.out) (Nat.ne_of_gt GL.out) (by simp)⟩
      have K4 : Aside0 (KeepBut W w4 g none) := ⟨K3.out.trans ((KeepBut.of_below (below_alloc (Below.refl _ w3) _) g none).trans k1 (.inl rfl)) (.inl rfl)⟩
      have M1 := Aside0.mk md1
      have F1 : Aside0 (Foot (w3.heap.size + 1) w4 A1 t1.f3) := ⟨by rw [← alloc_size1 w3 (.cells #[.int .i64 _, .string ⟨#[]⟩, .int .i64 r3, .slice none 0 0] 42)]; exact f1⟩
      have C1 := Aside0.mk hc1
      clear h1 k1 md1 hc1 f1
      go_wp2_with fail
      have G4 : Aside0 ((w4.alloc (.cells #[.int .i64 t1.f0, .string t1.f1, .int .i64 t1.f2, .slice A1 t1.f3.length c1] 42)).heap[w4.heap.size]? = some (.cells #[.int .i64 t1.f0, .string t1.f1, .int .i64 t1.f2, .slice A1 t1.f3.length c1] 42 (0, 0))) := ⟨heap_alloc_new _ _⟩
      have NE : Aside0 (w4.heap.size ≠ w3.heap.size) := ⟨Nat.ne_of_gt (blk_lt B6.out)⟩
      go_region_held2 (fun W' => W'.cell? ⟨w4.heap.size, 0, none⟩ = some (.int .i64 t1.f0) ∧ W'.cell? ⟨w4.heap.size, 1, none⟩ = some (.string t1.f1) ∧ W'.cell? ⟨w4.heap.size, 2, none⟩ = some (.int .i64 t1.f2) ∧ W'.cell? ⟨w4.heap.size, 3, none⟩ = some (.slice A1 t1.f3.length c1)) ((first | exact cells4 G4.out | exact cells4 B7.out | exact cells4 ((al_old _ _ (blk_lt B7.out)).trans B7.out) | exact cells4 (blk_alloc (blk_far (p := ⟨w3.heap.size, 3, none⟩) B7.out NE.out _) _))) ((go_at_call 59; refine (H59.out _ ?t5).mono ?_; (case t5 => exact T4.out.keep (by repeat (first | (with_reducible first | exact Below.refl _ _ | apply below_alloc | apply pw_below_drewN | apply below_drew1 | refine below_set ?_ (Nat.le_refl _)) | assumption))); rintro e w5 ⟨t2, A2, c2, rfl, md2, hc2, h1, k1, f2⟩; have T5 := Aside0.mk h1; have B7 : Aside0 (w5.heap[w4.heap.size]? = some (.cells #[.int .i64 t1.f0, .string t1.f1, .int .i64 t1.f2, .slice A1 t1.f3.length c1] 42 (0, 0))) := ⟨k1.blk (heap_alloc_new _ _) (Nat.ne_of_gt (Tp.lt T4.out)) (by simp)⟩; have B65 : Aside0 (w5.heap[w3.heap.size]? = some (.cells #[.int .i64 _, .string ⟨#[]⟩, .int .i64 r3, .slice none 0 0] 42 (0, 0))) := ⟨k1.blk ((al_old _ _ (blk_lt B6.out)).trans B6.out) (Nat.ne_of_gt (Tp.lt T3.out)) (by simp)⟩; have BX5 : Aside0 (w5.heap[W.heap.size]? = some (.cells #[.int .i64 0, .string ⟨#[]⟩, .int .i64 0, .slice none 0 0] 42 (0, 0))) := ⟨k1.blk ((al_old _ _ (blk_lt BX4.out)).trans BX4.out) (Nat.ne_of_gt GL.out) (by simp)⟩; have KK : Aside0 (KeepBut w4 w5 g none) := ⟨(KeepBut.of_below (below_alloc (Below.refl _ w4) _) g none).trans k1 (.inl rfl)⟩; have K5 : Aside0 (KeepBut W w5 g none) := ⟨K4.out.trans KK.out (.inl rfl)⟩; have M2 := Aside0.mk md2; have F2 := Aside0.mk f2; have C2 := Aside0.mk hc2; have u0 : w5.cell? ⟨w3.heap.size, 0, none⟩ = some (.int .i64 _) := (blk_cell B65.out 0).trans rfl; have u1 : w5.cell? ⟨w3.heap.size, 1, none⟩ = some (.string ⟨#[]⟩) := (blk_cell B65.out 1).trans rfl; have u2 : w5.cell? ⟨w3.heap.size, 2, none⟩ = some (.int .i64 r3) := (blk_cell B65.out 2).trans rfl; have u3 : w5.cell? ⟨w3.heap.size, 3, none⟩ = some (.slice none 0 0) := (blk_cell B65.out 3).trans rfl; have v0 := blk_frozen B65.out 0; have v1 := blk_frozen B65.out 1; have v2 := blk_frozen B65.out 2; have v3 := blk_frozen B65.out 3; have hl6 : w3.heap.size < w5.heap.size := blk_lt B65.out; clear h1 k1 md2 hc2 f2))
      have HW3 : Aside0 (w0.heap.size ≤ w3.heap.size ∧ g < w3.heap.size ∧ W.heap.size < w3.heap.size ∧ w3.heap.size < w4.heap.size ∧ w4.heap.size < w5.heap.size) := ⟨⟨below_size T3.out.1, T3.out.lt, blk_lt BX3.out, blk_lt B6.out, blk_lt B7.out⟩⟩
      have T6 := Aside0.mk ((T5.out.set HW3.out.1 (Nat.ne_of_lt HW3.out.2.1) 3 (.slice (some ⟨w5.heap.size, 0, none⟩) 2 2)).alloc (.cells #[.int .i64 t1.f0, .string t1.f1, .int .i64 t1.f2, .slice A1 t1.f3.length c1, .int .i64 t2.f0, .string t2.f1, .int .i64 t2.f2, .slice A2 t2.f3.length c2] 42))
      have K6 := Aside0.mk (keep_alloc (keep_set K5.out (Nat.le_of_lt HW3.out.2.2.1) 3 (.slice (some ⟨w5.heap.size, 0, none⟩) 2 2)) (.cells #[.int .i64 t1.f0, .string t1.f1, .int .i64 t1.f2, .slice A1 t1.f3.length c1, .int .i64 t2.f0, .string t2.f1, .int .i64 t2.f2, .slice A2 t2.f3.length c2] 42))
      have BX6 := Aside0.mk (blk_alloc (blk_far BX5.out (p := ⟨w3.heap.size, 3, none⟩) (Nat.ne_of_lt HW3.out.2.2.1) (.slice (some ⟨w5.heap.size, 0, none⟩) 2 2)) (.cells #[.int .i64 t1.f0, .string t1.f1, .int .i64 t1.f2, .slice A1 t1.f3.length c1, .int .i64 t2.f0, .string t2.f1, .int .i64 t2.f2, .slice A2 t2.f3.length c2] 42))
      have B66 : Aside0 (((w5.setCell ⟨w3.heap.size, 3, none⟩ (.slice (some ⟨w5.heap.size, 0, none⟩) 2 2)).alloc (.cells #[.int .i64 t1.f0, .string t1.f1, .int .i64 t1.f2, .slice A1 t1.f3.length c1, .int .i64 t2.f0, .string t2.f1, .int .i64 t2.f2, .slice A2 t2.f3.length c2] 42)).heap[w3.heap.size]? = some (.cells #[.int .i64 _, .string ⟨#[]⟩, .int .i64 r3, .slice (some ⟨w5.heap.size, 0, none⟩) 2 2] 42 (0, 0))) := ⟨blk_alloc (blk_put B65.out 3 _ rfl) _⟩
      have BR : Aside0 (((w5.setCell ⟨w3.heap.size, 3, none⟩ (.slice (some ⟨w5.heap.size, 0, none⟩) 2 2)).alloc (.cells #[.int .i64 t1.f0, .string t1.f1, .int .i64 t1.f2, .slice A1 t1.f3.length c1, .int .i64 t2.f0, .string t2.f1, .int .i64 t2.f2, .slice A2 t2.f3.length c2] 42)).heap[w5.heap.size]? = some (.cells #[.int .i64 t1.f0, .string t1.f1, .int .i64 t1.f2, .slice A1 t1.f3.length c1, .int .i64 t2.f0, .string t2.f1, .int .i64 t2.f2, .slice A2 t2.f3.length c2] 42 (0, 0))) := ⟨al_new _ _ (by simp [World.setCell])⟩
      have AG : Aside0 (∀ k, k < w5.heap.size → k ≠ w3.heap.size → ((w5.setCell ⟨w3.heap.size, 3, none⟩ (.slice (some ⟨w5.heap.size, 0, none⟩) 2 2)).alloc (.cells #[.int .i64 t1.f0, .string t1.f1, .int .i64 t1.f2, .slice A1 t1.f3.length c1, .int .i64 t2.f0, .string t2.f1, .int .i64 t2.f2, .slice A2 t2.f3.length c2] 42)).heap[k]? = w5.heap[k]?) := ⟨fun k h1 h2 => (al_old _ _ (by simpa [World.setCell] using h1)).trans (Below.heap_setCell w5 ⟨w3.heap.size, 3, none⟩ _ k h2)⟩
      clear u0 u1 u2 u3 v0 v1 v2 v3 hl6 B65 BX5 K5 T5 G4 NE
      generalize (w5.setCell ⟨w3.heap.size, 3, none⟩ (.slice (some ⟨w5.heap.size, 0, none⟩) 2 2)).alloc (.cells #[.int .i64 t1.f0, .string t1.f1, .int .i64 t1.f2, .slice A1 t1.f3.length c1, .int .i64 t2.f0, .string t2.f1, .int .i64 t2.f2, .slice A2 t2.f3.length c2] 42) = w6 at *
      have FT : Aside0 (Foot (w3.heap.size + 1) w6 (some ⟨w5.heap.size, 0, none⟩) [t1, t2]) := ⟨fun W' hW => by
        obtain ⟨o1, o2, o3, o4, o5⟩ := HW3.out
        have hs6 : w5.heap.size < w6.heap.size := blk_lt BR.out
        refine k42_C2 ((hW _ (by omega) hs6).trans BR.out) C1.out (F1.out W' (fun k h1 h2 => ?_)) C2.out (F2.out W' (fun k h1 h2 => ?_))
        · exact (hW k h1 (by omega)).trans ((AG.out k (by omega) (by omega)).trans (KK.out.2 k h2 (by omega) (by simp)))
        · have h1' : w4.heap.size + 1 ≤ k := by rw [← alloc_size1 w4 (.cells #[.int .i64 t1.f0, .string t1.f1, .int .i64 t1.f2, .slice A1 t1.f3.length c1] 42)]; exact h1
          exact (hW k (by omega) (by omega)).trans (AG.out k h2 (by omega))⟩
      have M2' := Aside0.mk (fun (k : Int) (hk : k = 5 ∨ k = 6 ∨ k = 9) => made2 i k r3 t1 t2 hk M1.out M2.out)
      clear AG KK F1 F2 B7 B6 BX4 BR
      have z0 : w6.cell? ⟨W.heap.size, 0, none⟩ = some (.int .i64 0) := (blk_cell BX6.out 0).trans rfl
      have z1 : w6.cell? ⟨W.heap.size, 1, none⟩ = some (.string ⟨#[]⟩) := (blk_cell BX6.out 1).trans rfl
      have z2 : w6.cell? ⟨W.heap.size, 2, none⟩ = some (.int .i64 0) := (blk_cell BX6.out 2).trans rfl
      have z3 : w6.cell? ⟨W.heap.size, 3, none⟩ = some (.slice none 0 0) := (blk_cell BX6.out 3).trans rfl
      have y0 := blk_frozen BX6.out 0
      have y1 := blk_frozen BX6.out 1
      have y2 := blk_frozen BX6.out 2
      have y3 := blk_frozen BX6.out 3
      have hlw6 : W.heap.size < w6.heap.size := blk_lt BX6.out
      have u0 : w6.cell? ⟨w3.heap.size, 0, none⟩ = some (.int .i64 _) := (blk_cell B66.out 0).trans rfl
      have u1 : w6.cell? ⟨w3.heap.size, 1, none⟩ = some (.string ⟨#[]⟩) := (blk_cell B66.out 1).trans rfl
      have u2 : w6.cell? ⟨w3.heap.size, 2, none⟩ = some (.int .i64 r3) := (blk_cell B66.out 2).trans rfl
      have u3 : w6.cell? ⟨w3.heap.size, 3, none⟩ = some (.slice (some ⟨w5.heap.size, 0, none⟩) 2 2) := (blk_cell B66.out 3).trans rfl
      have hl6 : w3.heap.size < w6.heap.size := blk_lt B66.out
      have HL6 := Aside0.mk hlw6
      go_wp2_with fail
      refine bodyPost_ret (results_cell_row rfl _ _ W.heap.size 42 #[.int .i64 _, .string ⟨#[]⟩, .int .i64 r3, .slice (some ⟨w5.heap.size, 0, none⟩) 2 2] (0, 0) _ rfl (by first | (with_reducible exact box_set4 BX6.out _ _ _ _) | (rw [al_old _ _ (by simpa [World.setCell] using HL6.out)]; exact box_set4 BX6.out _ _ _ _)) Tryd.underlying42 rfl (by kernel_rfl)) rfl ?_
      refine ⟨⟨_, ⟨#[]⟩, r3, [t1, t2]⟩, (some ⟨w5.heap.size, 0, none⟩), 2, rfl, M2'.out _ (by omega), Nat.le_refl _, ?_, ?_, FT.out.set4 (by have := HW3.out; omega) (by have := HW3.out; omega) _ _ _ _⟩
      · with_reducible first | exact set4_tp T6.out HWW.out (Nat.ne_of_lt GL.out) _ _ _ _ | exact (set4_tp T6.out HWW.out (Nat.ne_of_lt GL.out) _ _ _ _).alloc _
      · with_reducible first | exact set4_keep K6.out (Nat.le_refl _) _ _ _ _ | exact keep_alloc (set4_keep K6.out (Nat.le_refl _) _ _ _ _) _
  · rcases hk with rfl | rfl
    all_goals
      clear HK
      go_wp2_with fail
      go_at_call 76
      refine (NX.out 4 _ ?t4 (by omega) (by omega)).mono ?_
      case t4 => exact T3.out.keep (by repeat (first | (with_reducible first | exact Below.refl _ _ | apply below_alloc | apply pw_below_drewN | apply below_drew1 | refine below_set ?_ (Nat.le_refl _)) | assumption))
      rintro e w4 ⟨r4, hr4, rfl, h1, k1⟩
      have T4 := Aside0.mk h1
      have B6 : Aside0 (w4.heap[w3.heap.size]? = some (.cells #[.int .i64 _, .string ⟨#[]⟩, .int .i64 r3, .slice none 0 0] 42 (0, 0))) := ⟨k1.blk ((al_old _ _ (by simp)).trans (heap_alloc_new _ _)) (Nat.ne_of_gt (Tp.lt T3.out)) (by simp)⟩
      have BN : Aside0 (w4.heap[w3.heap.size + 1]? = some (.cells #[.string ⟨#[97]⟩, .string ⟨#[78]⟩, .string ⟨#[120]⟩, .string ⟨#[95]⟩] 9 (0, 0))) := ⟨k1.blk (heap_alloc_new2 _ _ _) (by have := Tp.lt T3.out; omega) (by simp)⟩
      have BX4 : Aside0 (w4.heap[W.heap.size]? = some (.cells #[.int .i64 0, .string ⟨#[]⟩, .int .i64 0, .slice none 0 0] 42 (0, 0))) := ⟨k1.blk ((al_old _ _ (by simp; have := blk_lt BX3.out; omega)).trans ((al_old _ _ (blk_lt BX3.out)).trans BX3.out)) (Nat.ne_of_gt GL.out) (by simp)⟩
      have K4 : Aside0 (KeepBut W w4 g none) := ⟨K3.out.trans ((KeepBut.of_below (below_alloc (below_alloc (Below.refl _ w3) _) _) g none).trans k1 (.inl rfl)) (.inl rfl)⟩
      clear h1 k1
      obtain ⟨nm, hnm, hx⟩ : ∃ nm : ByteArray, nm ∈ nmL4 ∧ w4.cell? ⟨w3.heap.size + 1, r4, none⟩ = some (.string nm) := by
        rw [blk_cell BN.out r4]
        have : r4 = 0 ∨ r4 = 1 ∨ r4 = 2 ∨ r4 = 3 := by omega
        rcases this with rfl | rfl | rfl | rfl
        · exact ⟨_, by simp [nmL4], rfl⟩
        · exact ⟨_, by simp [nmL4], rfl⟩
        · exact ⟨_, by simp [nmL4], rfl⟩
        · exact ⟨_, by simp [nmL4], rfl⟩
      have NM := Aside0.mk (nmL4_ok nm hnm)
      have q0 := eq_true (show (0 : Int) ≤ (r4 : Int) by omega)
      have q1 := eq_true (show (r4 : Int) < 4 by omega)
      clear hnm hr4
      have HW3 : Aside0 (w0.heap.size ≤ w3.heap.size ∧ g < w3.heap.size ∧ W.heap.size < w3.heap.size) := ⟨⟨below_size T3.out.1, T3.out.lt, blk_lt BX3.out⟩⟩
      have u0 : w4.cell? ⟨w3.heap.size, 0, none⟩ = some (.int .i64 _) := (blk_cell B6.out 0).trans rfl
      have u1 : w4.cell? ⟨w3.heap.size, 1, none⟩ = some (.string ⟨#[]⟩) := (blk_cell B6.out 1).trans rfl
      have u2 : w4.cell? ⟨w3.heap.size, 2, none⟩ = some (.int .i64 r3) := (blk_cell B6.out 2).trans rfl
      have u3 : w4.cell? ⟨w3.heap.size, 3, none⟩ = some (.slice none 0 0) := (blk_cell B6.out 3).trans rfl
      have v0 := blk_frozen B6.out 0
      have v1 := blk_frozen B6.out 1
      have v2 := blk_frozen B6.out 2
      have v3 := blk_frozen B6.out 3
      have hl6 : w3.heap.size < w4.heap.size := blk_lt B6.out
      go_wp2_with fail
      have T5 := Aside0.mk (T4.out.set HW3.out.1 (Nat.ne_of_lt HW3.out.2.1) 1 (.string nm))
      have K5 := Aside0.mk (keep_set K4.out (Nat.le_of_lt HW3.out.2.2) 1 (.string nm))
      have BX5 := Aside0.mk (blk_far BX4.out (p := ⟨w3.heap.size, 1, none⟩) (Nat.ne_of_lt HW3.out.2.2) (.string nm))
      have B5 : Aside0 ((w4.setCell ⟨w3.heap.size, 1, none⟩ (.string nm)).heap[w3.heap.size]? = some (.cells #[.int .i64 _, .string nm, .int .i64 r3, .slice none 0 0] 42 (0, 0))) := ⟨blk_put B6.out 1 _ rfl⟩
      clear u0 u1 u2 u3 v0 v1 v2 v3 hx q0 q1 hl6 BN B6 BX4 K4 T4
      generalize w4.setCell ⟨w3.heap.size, 1, none⟩ (.string nm) = w5 at *
      go_at_call 76
      refine (NX.out 3 _ ?t5 (by omega) (by omega)).mono ?_
      case t5 => exact T5.out.keep (by repeat (first | (with_reducible first | exact Below.refl _ _ | apply below_alloc | apply pw_below_drewN | apply below_drew1 | refine below_set ?_ (Nat.le_refl _)) | assumption))
      rintro e w6 ⟨r6, hr6, rfl, h1, k1⟩
      have Tw6 := Aside0.mk h1
      have Bw6 : Aside0 (w6.heap[w3.heap.size]? = some (.cells #[.int .i64 _, .string nm, .int .i64 r3, .slice none 0 0] 42 (0, 0))) := ⟨k1.blk B5.out (Nat.ne_of_gt HW3.out.2.1) (by simp)⟩
      have BXw6 : Aside0 (w6.heap[W.heap.size]? = some (.cells #[.int .i64 0, .string ⟨#[]⟩, .int .i64 0, .slice none 0 0] 42 (0, 0))) := ⟨k1.blk BX5.out (Nat.ne_of_gt GL.out) (by simp)⟩
      have Kw6 := Aside0.mk (K5.out.trans k1 (.inl rfl))
      have HS6 : Aside0 (w3.heap.size < w6.heap.size) := ⟨blk_lt Bw6.out⟩
      clear h1 k1 T5 K5 B5 BX5 hr6
      rcases Nat.eq_zero_or_pos r6 with rfl | h6
      · clear hi
        have u3 : w6.cell? ⟨w3.heap.size, 3, none⟩ = some (.slice none 0 0) := (blk_cell Bw6.out 3).trans rfl
        have hl6 : w3.heap.size < w6.heap.size := blk_lt Bw6.out
        go_wp2_with fail
        go_region_law ((first | (go_simp; go_at_call 59; refine (H59.out _ ?tc).mono ?_; (case tc => exact Tw6.out.keep (by repeat (first | (with_reducible first | exact Below.refl _ _ | apply below_alloc | apply pw_below_drewN | apply below_drew1 | refine below_set ?_ (Nat.le_refl _)) | assumption))); rintro e w7 ⟨t1, A1, c1, rfl, md, hc, h1, k1, f1⟩; have Tw7 := Aside0.mk h1; have KK1 : Aside0 (KeepBut w6 w7 g none) := ⟨k1⟩; have Bw7 : Aside0 (w7.heap[w3.heap.size]? = some (.cells #[.int .i64 _, .string nm, .int .i64 r3, .slice none 0 0] 42 (0, 0))) := ⟨k1.blk Bw6.out (Nat.ne_of_gt HW3.out.2.1) (by simp)⟩; have BXw7 : Aside0 (w7.heap[W.heap.size]? = some (.cells #[.int .i64 0, .string ⟨#[]⟩, .int .i64 0, .slice none 0 0] 42 (0, 0))) := ⟨k1.blk BXw6.out (Nat.ne_of_gt GL.out) (by simp)⟩; have Kw7 := Aside0.mk (Kw6.out.trans k1 (.inl rfl)); have M1 := Aside0.mk md; have C1 := Aside0.mk hc; have F1 : Aside0 (Foot w6.heap.size w7 A1 t1.f3) := ⟨f1⟩; have u3 : w7.cell? ⟨w3.heap.size, 3, none⟩ = some (.slice none 0 0) := (blk_cell Bw7.out 3).trans rfl; have hl6 : w3.heap.size < w7.heap.size := blk_lt Bw7.out; clear h1 k1 md hc f1) | (refine ts_tree (W := w7) (by rfl) (.tmp 69) (.tmp 74) rfl w7.heap.size 0 (.slice none 0 0) [] _ _ _ _ rfl rfl ⟨rfl, .inl ⟨rfl, rfl⟩⟩ (Nat.le_refl _) (by omega) ⟨rfl, rfl, rfl, rfl⟩ ?_; intro v1 w8 ho hg hat; have GR1 : Aside0 (w7.grownBy w8 none) := ⟨hg⟩; have Tw8 := Aside0.mk (Tw7.out.grown GR1.out (by simp) (fun k e => by cases e)); have Kw8 := Aside0.mk (keep_grown Kw7.out GR1.out (fun k e => by cases e)); have Bw8 : Aside0 (w8.heap[w3.heap.size]? = some (.cells #[.int .i64 _, .string nm, .int .i64 r3, .slice none 0 0] 42 (0, 0))) := ⟨(GR1.out.block _ (blk_lt Bw7.out) (by simp)).trans Bw7.out⟩; have BXw8 : Aside0 (w8.heap[W.heap.size]? = some (.cells #[.int .i64 0, .string ⟨#[]⟩, .int .i64 0, .slice none 0 0] 42 (0, 0))) := ⟨(GR1.out.block _ (blk_lt BXw7.out) (by simp)).trans BXw7.out⟩; obtain ⟨R1, cc1, cur1, rfl, hcc, hbs, hcur, htk⟩ := own_tree1 ho; have HOc1 := Aside0.mk ho; have CUR1 := Aside0.mk hcur; have TK1 := Aside0.mk htk; have CC1 := Aside0.mk hcc; have BS1 := Aside0.mk hbs; have u0 : w8.cell? ⟨w3.heap.size, 0, none⟩ = some (.int .i64 _) := (blk_cell Bw8.out 0).trans rfl; have u1 : w8.cell? ⟨w3.heap.size, 1, none⟩ = some (.string nm) := (blk_cell Bw8.out 1).trans rfl; have u2 : w8.cell? ⟨w3.heap.size, 2, none⟩ = some (.int .i64 r3) := (blk_cell Bw8.out 2).trans rfl; have u3 : w8.cell? ⟨w3.heap.size, 3, none⟩ = some (.slice none 0 0) := (blk_cell Bw8.out 3).trans rfl; have v0 := blk_frozen Bw8.out 0; have v1 := blk_frozen Bw8.out 1; have v2 := blk_frozen Bw8.out 2; have v3 := blk_frozen Bw8.out 3; have hl7 : w3.heap.size < w8.heap.size := blk_lt Bw8.out; clear ho hg hat hcc hbs hcur htk)))
        all_goals
          have Tw9 := Aside0.mk (Tw8.out.set HW3.out.1 (Nat.ne_of_lt HW3.out.2.1) 3 (.slice (some ⟨R1, 0, none⟩) 1 cc1))
          have Kw9 := Aside0.mk (keep_set Kw8.out (Nat.le_of_lt HW3.out.2.2) 3 (.slice (some ⟨R1, 0, none⟩) 1 cc1))
          have BXw9 := Aside0.mk (blk_far BXw8.out (p := ⟨w3.heap.size, 3, none⟩) (Nat.ne_of_lt HW3.out.2.2) (.slice (some ⟨R1, 0, none⟩) 1 cc1))
          have Bw9 : Aside0 ((w8.setCell ⟨w3.heap.size, 3, none⟩ (.slice (some ⟨R1, 0, none⟩) 1 cc1)).heap[w3.heap.size]? = some (.cells #[.int .i64 _, .string nm, .int .i64 r3, .slice (some ⟨R1, 0, none⟩) 1 cc1] 42 (0, 0))) := ⟨blk_put Bw8.out 3 _ rfl⟩
          have L7 : Aside0 (w3.heap.size < w7.heap.size) := ⟨blk_lt Bw7.out⟩
          have CUR9 := Aside0.mk (blk_far CUR1.out (p := ⟨w3.heap.size, 3, none⟩) (show R1 ≠ w3.heap.size by have := L7.out; have := BS1.out; omega) (.slice (some ⟨R1, 0, none⟩) 1 cc1))
          have HO9 := Aside0.mk (own_setCell HOc1.out (p := ⟨w3.heap.size, 3, none⟩) (by have := L7.out; have := BS1.out; intro e; have e2 : w3.heap.size = R1 := Option.some.inj e; omega) (.slice (some ⟨R1, 0, none⟩) 1 cc1))
          have AG9 : Aside0 (∀ k, k < w7.heap.size → k ≠ w3.heap.size → (w8.setCell ⟨w3.heap.size, 3, none⟩ (.slice (some ⟨R1, 0, none⟩) 1 cc1)).heap[k]? = w7.heap[k]?) := ⟨fun k h1 h2 => (Below.heap_setCell w8 ⟨w3.heap.size, 3, none⟩ _ k h2).trans (GR1.out.block k h1 (by simp))⟩
          clear u0 u1 u2 u3 v0 v1 v2 v3 hl7 Tw8 Kw8 BXw8 Bw8 HOc1 CUR1 GR1
          generalize w8.setCell ⟨w3.heap.size, 3, none⟩ (.slice (some ⟨R1, 0, none⟩) 1 cc1) = w9 at *
          have NG : Aside0 (g < R1 ∧ W.heap.size < R1 ∧ w0.heap.size ≤ R1 ∧ w3.heap.size < R1 ∧ w7.heap.size ≤ R1 ∧ R1 < w9.heap.size ∧ w6.heap.size ≤ w7.heap.size) := ⟨by have a1 := L7.out; have a2 := BS1.out; have a3 := HW3.out; have a4 := KK1.out.1; have a5 : w6.heap.size ≤ w7.heap.size := a4; have a6 := blk_lt CUR9.out; omega⟩
          have FT : Aside0 (Foot (w3.heap.size + 1) w9 (some ⟨R1, 0, none⟩) [t1]) := ⟨fun W' hW => k42_T1 ((hW R1 (by have := NG.out; omega) (by have := NG.out; omega)).trans CUR9.out) TK1.out C1.out (F1.out W' (fun k h1 h2 => by have a1 := NG.out; have a2 := HS6.out; exact (hW k (by omega) (by omega)).trans (AG9.out k h2 (by omega))))⟩
          have z0 : w9.cell? ⟨W.heap.size, 0, none⟩ = some (.int .i64 0) := (blk_cell BXw9.out 0).trans rfl
          have z1 : w9.cell? ⟨W.heap.size, 1, none⟩ = some (.string ⟨#[]⟩) := (blk_cell BXw9.out 1).trans rfl
          have z2 : w9.cell? ⟨W.heap.size, 2, none⟩ = some (.int .i64 0) := (blk_cell BXw9.out 2).trans rfl
          have z3 : w9.cell? ⟨W.heap.size, 3, none⟩ = some (.slice none 0 0) := (blk_cell BXw9.out 3).trans rfl
          have y0 := blk_frozen BXw9.out 0
          have y1 := blk_frozen BXw9.out 1
          have y2 := blk_frozen BXw9.out 2
          have y3 := blk_frozen BXw9.out 3
          have hlw9 : W.heap.size < w9.heap.size := blk_lt BXw9.out
          have u0 : w9.cell? ⟨w3.heap.size, 0, none⟩ = some (.int .i64 _) := (blk_cell Bw9.out 0).trans rfl
          have u1 : w9.cell? ⟨w3.heap.size, 1, none⟩ = some (.string nm) := (blk_cell Bw9.out 1).trans rfl
          have u2 : w9.cell? ⟨w3.heap.size, 2, none⟩ = some (.int .i64 r3) := (blk_cell Bw9.out 2).trans rfl
          have u3 : w9.cell? ⟨w3.heap.size, 3, none⟩ = some (.slice (some ⟨R1, 0, none⟩) 1 cc1) := (blk_cell Bw9.out 3).trans rfl
          have hl6 : w3.heap.size < w9.heap.size := blk_lt Bw9.out
          have HLx := Aside0.mk hlw9
          go_wp2_with fail
          refine bodyPost_ret (results_cell_row rfl _ _ W.heap.size 42 #[.int .i64 _, .string nm, .int .i64 r3, .slice (some ⟨R1, 0, none⟩) 1 cc1] (0, 0) _ rfl (by first | (with_reducible exact box_set4 BXw9.out _ _ _ _) | (rw [al_old _ _ (by simpa [World.setCell] using HLx.out)]; exact box_set4 BXw9.out _ _ _ _)) Tryd.underlying42 rfl (by kernel_rfl)) rfl ?_
          refine ⟨⟨_, nm, r3, [t1]⟩, (some ⟨R1, 0, none⟩), cc1, rfl, madeB1 i _ r3 nm t1 (by omega) NM.out.1 NM.out.2 M1.out, CC1.out, ?_, ?_, FT.out.set4 (by have := HW3.out; omega) (by have := HW3.out; omega) _ _ _ _⟩
          · with_reducible first | exact set4_tp Tw9.out HWW.out (Nat.ne_of_lt GL.out) _ _ _ _ | exact (set4_tp Tw9.out HWW.out (Nat.ne_of_lt GL.out) _ _ _ _).alloc _
          · with_reducible first | exact set4_keep Kw9.out (Nat.le_refl _) _ _ _ _ | exact keep_alloc (set4_keep Kw9.out (Nat.le_refl _) _ _ _ _) _
      · have q6 := eq_true (show (0 : Int) < (r6 : Int) by omega)
        have q6' := eq_true h6
        clear hi
        have u3 : w6.cell? ⟨w3.heap.size, 3, none⟩ = some (.slice none 0 0) := (blk_cell Bw6.out 3).trans rfl
        have hl6 : w3.heap.size < w6.heap.size := blk_lt Bw6.out
        go_wp2_with fail
        go_region_law ((first | (go_simp; go_at_call 59; refine (H59.out _ ?tc).mono ?_; (case tc => exact Tw6.out.keep (by repeat (first | (with_reducible first | exact Below.refl _ _ | apply below_alloc | apply pw_below_drewN | apply below_drew1 | refine below_set ?_ (Nat.le_refl _)) | assumption))); rintro e w7 ⟨t1, A1, c1, rfl, md, hc, h1, k1, f1⟩; have Tw7 := Aside0.mk h1; have KK1 : Aside0 (KeepBut w6 w7 g none) := ⟨k1⟩; have Bw7 : Aside0 (w7.heap[w3.heap.size]? = some (.cells #[.int .i64 _, .string nm, .int .i64 r3, .slice none 0 0] 42 (0, 0))) := ⟨k1.blk Bw6.out (Nat.ne_of_gt HW3.out.2.1) (by simp)⟩; have BXw7 : Aside0 (w7.heap[W.heap.size]? = some (.cells #[.int .i64 0, .string ⟨#[]⟩, .int .i64 0, .slice none 0 0] 42 (0, 0))) := ⟨k1.blk BXw6.out (Nat.ne_of_gt GL.out) (by simp)⟩; have Kw7 := Aside0.mk (Kw6.out.trans k1 (.inl rfl)); have M1 := Aside0.mk md; have C1 := Aside0.mk hc; have F1 : Aside0 (Foot w6.heap.size w7 A1 t1.f3) := ⟨f1⟩; have u3 : w7.cell? ⟨w3.heap.size, 3, none⟩ = some (.slice none 0 0) := (blk_cell Bw7.out 3).trans rfl; have hl6 : w3.heap.size < w7.heap.size := blk_lt Bw7.out; clear h1 k1 md hc f1) | (refine ts_tree (W := w7) (by rfl) (.tmp 60) (.tmp 65) rfl w7.heap.size 0 (.slice none 0 0) [] _ _ _ _ rfl rfl ⟨rfl, .inl ⟨rfl, rfl⟩⟩ (Nat.le_refl _) (by omega) ⟨rfl, rfl, rfl, rfl⟩ ?_; intro v1 w8 ho hg hat; have GR1 : Aside0 (w7.grownBy w8 none) := ⟨hg⟩; have Tw8 := Aside0.mk (Tw7.out.grown GR1.out (by simp) (fun k e => by cases e)); have Kw8 := Aside0.mk (keep_grown Kw7.out GR1.out (fun k e => by cases e)); have Bw8 : Aside0 (w8.heap[w3.heap.size]? = some (.cells #[.int .i64 _, .string nm, .int .i64 r3, .slice none 0 0] 42 (0, 0))) := ⟨(GR1.out.block _ (blk_lt Bw7.out) (by simp)).trans Bw7.out⟩; have BXw8 : Aside0 (w8.heap[W.heap.size]? = some (.cells #[.int .i64 0, .string ⟨#[]⟩, .int .i64 0, .slice none 0 0] 42 (0, 0))) := ⟨(GR1.out.block _ (blk_lt BXw7.out) (by simp)).trans BXw7.out⟩; obtain ⟨R1, cc1, cur1, rfl, hcc, hbs, hcur, htk⟩ := own_tree1 ho; have HOc1 := Aside0.mk ho; have CUR1 := Aside0.mk hcur; have TK1 := Aside0.mk htk; have CC1 := Aside0.mk hcc; have BS1 := Aside0.mk hbs; have u0 : w8.cell? ⟨w3.heap.size, 0, none⟩ = some (.int .i64 _) := (blk_cell Bw8.out 0).trans rfl; have u1 : w8.cell? ⟨w3.heap.size, 1, none⟩ = some (.string nm) := (blk_cell Bw8.out 1).trans rfl; have u2 : w8.cell? ⟨w3.heap.size, 2, none⟩ = some (.int .i64 r3) := (blk_cell Bw8.out 2).trans rfl; have u3 : w8.cell? ⟨w3.heap.size, 3, none⟩ = some (.slice none 0 0) := (blk_cell Bw8.out 3).trans rfl; have v0 := blk_frozen Bw8.out 0; have v1 := blk_frozen Bw8.out 1; have v2 := blk_frozen Bw8.out 2; have v3 := blk_frozen Bw8.out 3; have hl7 : w3.heap.size < w8.heap.size := blk_lt Bw8.out; clear ho hg hat hcc hbs hcur htk)))
        all_goals
          have Tw9 := Aside0.mk (Tw8.out.set HW3.out.1 (Nat.ne_of_lt HW3.out.2.1) 3 (.slice (some ⟨R1, 0, none⟩) 1 cc1))
          have Kw9 := Aside0.mk (keep_set Kw8.out (Nat.le_of_lt HW3.out.2.2) 3 (.slice (some ⟨R1, 0, none⟩) 1 cc1))
          have BXw9 := Aside0.mk (blk_far BXw8.out (p := ⟨w3.heap.size, 3, none⟩) (Nat.ne_of_lt HW3.out.2.2) (.slice (some ⟨R1, 0, none⟩) 1 cc1))
          have Bw9 : Aside0 ((w8.setCell ⟨w3.heap.size, 3, none⟩ (.slice (some ⟨R1, 0, none⟩) 1 cc1)).heap[w3.heap.size]? = some (.cells #[.int .i64 _, .string nm, .int .i64 r3, .slice (some ⟨R1, 0, none⟩) 1 cc1] 42 (0, 0))) := ⟨blk_put Bw8.out 3 _ rfl⟩
          have L7 : Aside0 (w3.heap.size < w7.heap.size) := ⟨blk_lt Bw7.out⟩
          have CUR9 := Aside0.mk (blk_far CUR1.out (p := ⟨w3.heap.size, 3, none⟩) (show R1 ≠ w3.heap.size by have := L7.out; have := BS1.out; omega) (.slice (some ⟨R1, 0, none⟩) 1 cc1))
          have HO9 := Aside0.mk (own_setCell HOc1.out (p := ⟨w3.heap.size, 3, none⟩) (by have := L7.out; have := BS1.out; intro e; have e2 : w3.heap.size = R1 := Option.some.inj e; omega) (.slice (some ⟨R1, 0, none⟩) 1 cc1))
          have AG9 : Aside0 (∀ k, k < w7.heap.size → k ≠ w3.heap.size → (w8.setCell ⟨w3.heap.size, 3, none⟩ (.slice (some ⟨R1, 0, none⟩) 1 cc1)).heap[k]? = w7.heap[k]?) := ⟨fun k h1 h2 => (Below.heap_setCell w8 ⟨w3.heap.size, 3, none⟩ _ k h2).trans (GR1.out.block k h1 (by simp))⟩
          clear u0 u1 u2 u3 v0 v1 v2 v3 hl7 Tw8 Kw8 BXw8 Bw8 HOc1 CUR1 GR1
          generalize w8.setCell ⟨w3.heap.size, 3, none⟩ (.slice (some ⟨R1, 0, none⟩) 1 cc1) = w9 at *
          have NG : Aside0 (g < R1 ∧ W.heap.size < R1 ∧ w0.heap.size ≤ R1 ∧ w3.heap.size < R1 ∧ w7.heap.size ≤ R1 ∧ R1 < w9.heap.size ∧ w6.heap.size ≤ w7.heap.size) := ⟨by have a1 := L7.out; have a2 := BS1.out; have a3 := HW3.out; have a4 := KK1.out.1; have a5 : w6.heap.size ≤ w7.heap.size := a4; have a6 := blk_lt CUR9.out; omega⟩
          have FT : Aside0 (Foot (w3.heap.size + 1) w9 (some ⟨R1, 0, none⟩) [t1]) := ⟨fun W' hW => k42_T1 ((hW R1 (by have := NG.out; omega) (by have := NG.out; omega)).trans CUR9.out) TK1.out C1.out (F1.out W' (fun k h1 h2 => by have a1 := NG.out; have a2 := HS6.out; exact (hW k (by omega) (by omega)).trans (AG9.out k h2 (by omega))))⟩
          have HOw9 : Aside0 (w9.ownsRow w7.heap.size 42 4 (.slice (some ⟨R1, 0, none⟩) 1 cc1) 1 [.int .i64 t1.f0, .string t1.f1, .int .i64 t1.f2, .slice A1 t1.f3.length c1]) := ⟨HO9.out⟩
          clear HO9
          have u3 : w9.cell? ⟨w3.heap.size, 3, none⟩ = some (.slice (some ⟨R1, 0, none⟩) 1 cc1) := (blk_cell Bw9.out 3).trans rfl
          have hl6 : w3.heap.size < w9.heap.size := blk_lt Bw9.out
          go_wp2_with fail
          go_region_law ((first | (go_simp; go_at_call 59; refine (H59.out _ ?tc).mono ?_; (case tc => exact Tw9.out.keep (by repeat (first | (with_reducible first | exact Below.refl _ _ | apply below_alloc | apply pw_below_drewN | apply below_drew1 | refine below_set ?_ (Nat.le_refl _)) | assumption))); rintro e w10 ⟨t2, A2, c2, rfl, md, hc, h1, k1, f1⟩; have Tw10 := Aside0.mk h1; have KK2 : Aside0 (KeepBut w9 w10 g none) := ⟨k1⟩; have Bw10 : Aside0 (w10.heap[w3.heap.size]? = some (.cells #[.int .i64 _, .string nm, .int .i64 r3, .slice (some ⟨R1, 0, none⟩) 1 cc1] 42 (0, 0))) := ⟨k1.blk Bw9.out (Nat.ne_of_gt HW3.out.2.1) (by simp)⟩; have BXw10 : Aside0 (w10.heap[W.heap.size]? = some (.cells #[.int .i64 0, .string ⟨#[]⟩, .int .i64 0, .slice none 0 0] 42 (0, 0))) := ⟨k1.blk BXw9.out (Nat.ne_of_gt GL.out) (by simp)⟩; have Kw10 := Aside0.mk (Kw9.out.trans k1 (.inl rfl)); have M2 := Aside0.mk md; have C2 := Aside0.mk hc; have F2 : Aside0 (Foot w9.heap.size w10 A2 t2.f3) := ⟨f1⟩; have u3 : w10.cell? ⟨w3.heap.size, 3, none⟩ = some (.slice (some ⟨R1, 0, none⟩) 1 cc1) := (blk_cell Bw10.out 3).trans rfl; have hl6 : w3.heap.size < w10.heap.size := blk_lt Bw10.out; have HOw10 := Aside0.mk (KeepBut.own k1 HOw9.out (fun e => by have := NG.out; have e2 : R1 = g := Option.some.inj e; omega) (.inr (by simp [Value.ownBlock]))); clear h1 k1 md hc f1) | (refine ts_tree (W := w10) (by rfl) (.tmp 69) (.tmp 74) rfl w7.heap.size 1 (.slice (some ⟨R1, 0, none⟩) 1 cc1) [.int .i64 t1.f0, .string t1.f1, .int .i64 t1.f2, .slice A1 t1.f3.length c1] _ _ _ _ rfl rfl HOw10.out (by have := NG.out; have := KK2.out.1; omega) (by omega) ⟨rfl, rfl, rfl, rfl⟩ ?_; intro v1 w11 ho hg hat; have GR2 : Aside0 (w10.grownBy w11 (some R1)) := ⟨hg⟩; have Tw11 := Aside0.mk (Tw10.out.grown GR2.out (fun e => by have := NG.out; have := HW3.out; injection e with e; omega) (fun k e => by have := NG.out; injection e with e; omega)); have Kw11 := Aside0.mk (keep_grown Kw10.out GR2.out (fun k e => by have := NG.out; injection e with e; omega)); have Bw11 : Aside0 (w11.heap[w3.heap.size]? = some (.cells #[.int .i64 _, .string nm, .int .i64 r3, .slice (some ⟨R1, 0, none⟩) 1 cc1] 42 (0, 0))) := ⟨(GR2.out.block _ (blk_lt Bw10.out) (fun e => by have := NG.out; have := HW3.out; injection e with e; omega)).trans Bw10.out⟩; have BXw11 : Aside0 (w11.heap[W.heap.size]? = some (.cells #[.int .i64 0, .string ⟨#[]⟩, .int .i64 0, .slice none 0 0] 42 (0, 0))) := ⟨(GR2.out.block _ (blk_lt BXw10.out) (fun e => by have := NG.out; have := HW3.out; injection e with e; omega)).trans BXw10.out⟩; obtain ⟨R2, cc2, cur2, rfl, hcc, hbs, hcur, htk⟩ := own_tree2 ho; have HOc2 := Aside0.mk ho; have CUR2 := Aside0.mk hcur; have TK2 := Aside0.mk htk; have CC2 := Aside0.mk hcc; have BS2 := Aside0.mk hbs; have u0 : w11.cell? ⟨w3.heap.size, 0, none⟩ = some (.int .i64 _) := (blk_cell Bw11.out 0).trans rfl; have u1 : w11.cell? ⟨w3.heap.size, 1, none⟩ = some (.string nm) := (blk_cell Bw11.out 1).trans rfl; have u2 : w11.cell? ⟨w3.heap.size, 2, none⟩ = some (.int .i64 r3) := (blk_cell Bw11.out 2).trans rfl; have u3 : w11.cell? ⟨w3.heap.size, 3, none⟩ = some (.slice (some ⟨R1, 0, none⟩) 1 cc1) := (blk_cell Bw11.out 3).trans rfl; have v0 := blk_frozen Bw11.out 0; have v1 := blk_frozen Bw11.out 1; have v2 := blk_frozen Bw11.out 2; have v3 := blk_frozen Bw11.out 3; have hl7 : w3.heap.size < w11.heap.size := blk_lt Bw11.out; clear ho hg hat hcc hbs hcur htk)))
          all_goals
            have Tw12 := Aside0.mk (Tw11.out.set HW3.out.1 (Nat.ne_of_lt HW3.out.2.1) 3 (.slice (some ⟨R2, 0, none⟩) 2 cc2))
            have Kw12 := Aside0.mk (keep_set Kw11.out (Nat.le_of_lt HW3.out.2.2) 3 (.slice (some ⟨R2, 0, none⟩) 2 cc2))
            have BXw12 := Aside0.mk (blk_far BXw11.out (p := ⟨w3.heap.size, 3, none⟩) (Nat.ne_of_lt HW3.out.2.2) (.slice (some ⟨R2, 0, none⟩) 2 cc2))
            have Bw12 : Aside0 ((w11.setCell ⟨w3.heap.size, 3, none⟩ (.slice (some ⟨R2, 0, none⟩) 2 cc2)).heap[w3.heap.size]? = some (.cells #[.int .i64 _, .string nm, .int .i64 r3, .slice (some ⟨R2, 0, none⟩) 2 cc2] 42 (0, 0))) := ⟨blk_put Bw11.out 3 _ rfl⟩
            have CUR12 := Aside0.mk (blk_far CUR2.out (p := ⟨w3.heap.size, 3, none⟩) (show R2 ≠ w3.heap.size by have := L7.out; have := BS2.out; omega) (.slice (some ⟨R2, 0, none⟩) 2 cc2))
            have AG12 : Aside0 (∀ k, k < w10.heap.size → k ≠ w3.heap.size → k ≠ R1 → (w11.setCell ⟨w3.heap.size, 3, none⟩ (.slice (some ⟨R2, 0, none⟩) 2 cc2)).heap[k]? = w10.heap[k]?) := ⟨fun k h1 h2 h3 => (Below.heap_setCell w11 ⟨w3.heap.size, 3, none⟩ _ k h2).trans (GR2.out.block k h1 (fun e => by injection e with e; exact h3 e))⟩
            have S11 := Aside0.mk GR2.out.size
            have S12 : Aside0 (w11.heap.size = (w11.setCell ⟨w3.heap.size, 3, none⟩ (.slice (some ⟨R2, 0, none⟩) 2 cc2)).heap.size) := ⟨by simp [World.setCell]⟩
            clear u0 u1 u2 u3 v0 v1 v2 v3 hl7 Tw11 Kw11 BXw11 Bw11 CUR2 GR2 HOc2 HOw10
            generalize w11.setCell ⟨w3.heap.size, 3, none⟩ (.slice (some ⟨R2, 0, none⟩) 2 cc2) = w12 at *
            have NG2 : Aside0 (w3.heap.size < R2 ∧ R2 < w12.heap.size ∧ w9.heap.size ≤ w10.heap.size ∧ w10.heap.size ≤ w12.heap.size) := ⟨by have a1 := L7.out; have a2 := BS2.out; have a3 : w9.heap.size ≤ w10.heap.size := KK2.out.1; have a4 := S11.out; have a5 := S12.out; have a6 := blk_lt CUR12.out; omega⟩
            have FT2 : Aside0 (Foot (w3.heap.size + 1) w12 (some ⟨R2, 0, none⟩) [t1, t2]) := ⟨fun W' hW => k42_T2 ((hW R2 (by have := NG2.out; omega) (by have := NG2.out; omega)).trans CUR12.out) TK2.out C1.out (F1.out W' (fun k h1 h2 => by have a1 := NG.out; have a2 := HS6.out; have a3 := NG2.out; have a4 := HW3.out; exact (hW k (by omega) (by omega)).trans ((AG12.out k (by omega) (by omega) (by omega)).trans ((KK2.out.2 k (show k < w9.heap.size by omega) (by omega) (by simp)).trans (AG9.out k h2 (by omega)))))) C2.out (F2.out W' (fun k h1 h2 => by have a1 := NG.out; have a2 := HS6.out; have a3 := NG2.out; exact (hW k (by omega) (by omega)).trans (AG12.out k h2 (by omega) (by omega))))⟩
            have z0 : w12.cell? ⟨W.heap.size, 0, none⟩ = some (.int .i64 0) := (blk_cell BXw12.out 0).trans rfl
            have z1 : w12.cell? ⟨W.heap.size, 1, none⟩ = some (.string ⟨#[]⟩) := (blk_cell BXw12.out 1).trans rfl
            have z2 : w12.cell? ⟨W.heap.size, 2, none⟩ = some (.int .i64 0) := (blk_cell BXw12.out 2).trans rfl
            have z3 : w12.cell? ⟨W.heap.size, 3, none⟩ = some (.slice none 0 0) := (blk_cell BXw12.out 3).trans rfl
            have y0 := blk_frozen BXw12.out 0
            have y1 := blk_frozen BXw12.out 1
            have y2 := blk_frozen BXw12.out 2
            have y3 := blk_frozen BXw12.out 3
            have hlw12 : W.heap.size < w12.heap.size := blk_lt BXw12.out
            have u0 : w12.cell? ⟨w3.heap.size, 0, none⟩ = some (.int .i64 _) := (blk_cell Bw12.out 0).trans rfl
            have u1 : w12.cell? ⟨w3.heap.size, 1, none⟩ = some (.string nm) := (blk_cell Bw12.out 1).trans rfl
            have u2 : w12.cell? ⟨w3.heap.size, 2, none⟩ = some (.int .i64 r3) := (blk_cell Bw12.out 2).trans rfl
            have u3 : w12.cell? ⟨w3.heap.size, 3, none⟩ = some (.slice (some ⟨R2, 0, none⟩) 2 cc2) := (blk_cell Bw12.out 3).trans rfl
            have hl6 : w3.heap.size < w12.heap.size := blk_lt Bw12.out
            have HLx := Aside0.mk hlw12
            go_wp2_with fail
            refine bodyPost_ret (results_cell_row rfl _ _ W.heap.size 42 #[.int .i64 _, .string nm, .int .i64 r3, .slice (some ⟨R2, 0, none⟩) 2 cc2] (0, 0) _ rfl (by first | (with_reducible exact box_set4 BXw12.out _ _ _ _) | (rw [al_old _ _ (by simpa [World.setCell] using HLx.out)]; exact box_set4 BXw12.out _ _ _ _)) Tryd.underlying42 rfl (by kernel_rfl)) rfl ?_
            refine ⟨⟨_, nm, r3, [t1, t2]⟩, (some ⟨R2, 0, none⟩), cc2, rfl, madeB2 i _ r3 nm t1 t2 (by omega) NM.out.1 NM.out.2 M1.out M2.out, CC2.out, ?_, ?_, FT2.out.set4 (by have := HW3.out; omega) (by have := HW3.out; omega) _ _ _ _⟩
            · with_reducible first | exact set4_tp Tw12.out HWW.out (Nat.ne_of_lt GL.out) _ _ _ _ | exact (set4_tp Tw12.out HWW.out (Nat.ne_of_lt GL.out) _ _ _ _).alloc _
            · with_reducible first | exact set4_keep Kw12.out (Nat.le_refl _) _ _ _ _ | exact keep_alloc (set4_keep Kw12.out (Nat.le_refl _) _ _ _ _) _
end
end Go.Proofs.YtajefkjcfmfjkaaDoor
