/- The texts of the proof of 'RawBinds', joined: each part is a text of its own in wip; what the law does not use is left out. -/
import Derived.Test.YtajefkjcfmfjkaaDoorMRawBinds1
namespace Go.Proofs.YtajefkjcfmfjkaaDoor
section
set_option linter.unusedVariables false
set_option linter.unusedSimpArgs false
set_option linter.deprecated false
open Go.RowKit Go.Proofs.YtajefkjcfmfjkaaDoorW.PrintWords Go.Proofs.YtajefkjcfmfjkaaDoor.POperatorResolves
set_option linter.unusedVariables false
def Made (i : Nat) (t : S42) : Prop := fmT t = true ∧ nmT t = true ∧ szT t + 1 ≤ 2 ^ (i + 1) ∧ dpT t ≤ i + 1
/-- a row of trees that lies in blocks from 'lo' on -/
def Foot (lo : Nat) (w : World) (A : Option Addr) (l : List S42) : Prop := ∀ W', (∀ k, lo ≤ k → k < w.heap.size → W'.heap[k]? = w.heap[k]?) → Kd.C k42 W' A l.length l
theorem Foot.nil (lo : Nat) (w : World) : Foot lo w none [] := fun W' _ => Kd.C_nil _ _
theorem Foot.step {lo lo' : Nat} {w w' : World} {A : Option Addr} {l : List S42} (h : Foot lo w A l) (hlo : lo' ≤ lo) (hsz : w.heap.size ≤ w'.heap.size) (hk : ∀ k, lo ≤ k → k < w.heap.size → w'.heap[k]? = w.heap[k]?) : Foot lo' w' A l :=
  fun W' hW => h W' (fun k h1 h2 => (hW k (by omega) (by omega)).trans (hk k h1 h2))
def RawPost (w0 : World) (g i : Nat) (W : World) (e : Ending) (w' : World) : Prop :=
  ∃ (t : S42) (A : Option Addr) (c : Nat), e = .returned (.agg #[.int .i64 t.f0, .string t.f1, .int .i64 t.f2, .slice A t.f3.length c]) ∧ Made i t ∧ t.f3.length ≤ c ∧ Tp w0 w' g ∧ KeepBut W w' g none ∧ Foot W.heap.size w' A t.f3
theorem Tp.lt {w0 W : World} {g : Nat} (h : Tp w0 W g) : g < W.heap.size := by
  obtain ⟨_, zs, k, hI, _⟩ := h
  exact hI.lt
theorem Tp.set {w0 W : World} {g b : Nat} (h : Tp w0 W g) (hb : w0.heap.size ≤ b) (hne : g ≠ b) (i : Nat) (v : Value) : Tp w0 (W.setCell ⟨b, i, none⟩ v) g := by
  obtain ⟨h0, zs, k, hI, h1, h2, h3⟩ := h
  exact ⟨h0.setCell (p := ⟨b, i, none⟩) hb _, zs, k, hI.far (p := ⟨b, i, none⟩) hne v, h1, h2, h3⟩
theorem keep_set {W W1 : World} {g b : Nat} (h : KeepBut W W1 g none) (hb : W.heap.size ≤ b) (i : Nat) (v : Value) : KeepBut W (W1.setCell ⟨b, i, none⟩ v) g none :=
  ⟨by simpa [World.setCell] using h.1, fun j hj hg hr => (Below.heap_setCell W1 ⟨b, i, none⟩ v j (show j ≠ b by omega)).trans (h.2 j hj hg hr)⟩
theorem Tp.alloc {w0 W : World} {g : Nat} (h : Tp w0 W g) (o : Obj) : Tp w0 (W.alloc o) g := h.keep (below_alloc (Below.refl _ _) o)
theorem box_set4 {w : World} {b : Nat} {c0 c1 c2 c3 : Value} (h : w.heap[b]? = some (.cells #[c0, c1, c2, c3] 42 (0, 0))) (v0 v1 v2 v3 : Value) :
    ((((w.setCell ⟨b, 0, none⟩ v0).setCell ⟨b, 1, none⟩ v1).setCell ⟨b, 2, none⟩ v2).setCell ⟨b, 3, none⟩ v3).heap[b]? = some (.cells #[v0, v1, v2, v3] 42 (0, 0)) := by
  refine blk_put (cs := #[v0, v1, v2, c3]) ?_ 3 _ rfl
  refine blk_put (cs := #[v0, v1, c2, c3]) ?_ 2 _ rfl
  refine blk_put (cs := #[v0, c1, c2, c3]) ?_ 1 _ rfl
  exact blk_put (cs := #[c0, c1, c2, c3]) h 0 _ rfl
/-- the same four cells, stored: what stays -/
theorem set4_tp {w0 w : World} {g b : Nat} (h : Tp w0 w g) (hb : w0.heap.size ≤ b) (hne : g ≠ b) (v0 v1 v2 v3 : Value) : Tp w0 ((((w.setCell ⟨b, 0, none⟩ v0).setCell ⟨b, 1, none⟩ v1).setCell ⟨b, 2, none⟩ v2).setCell ⟨b, 3, none⟩ v3) g :=
  (((h.set hb hne _ _).set hb hne _ _).set hb hne _ _).set hb hne _ _
theorem set4_keep {W w : World} {g b : Nat} (h : KeepBut W w g none) (hb : W.heap.size ≤ b) (v0 v1 v2 v3 : Value) : KeepBut W ((((w.setCell ⟨b, 0, none⟩ v0).setCell ⟨b, 1, none⟩ v1).setCell ⟨b, 2, none⟩ v2).setCell ⟨b, 3, none⟩ v3) g none :=
  keep_set (keep_set (keep_set (keep_set h hb _ _) hb _ _) hb _ _) hb _ _
theorem made34 (i : Nat) (k o : Int) (h : k = 3 ∨ k = 4) : Made i ⟨k, ⟨#[]⟩, o, []⟩ := by
  have hp : 1 ≤ 2 ^ i := Nat.one_le_two_pow
  refine ⟨?_, ?_, ?_, ?_⟩
  · rw [fmT_eq]; unfold nodeS; rw [if_neg (by simp only; omega), if_pos h]; simp [fmL, eqB_self]
  · rw [nmT_eq]; simp [nmL, ByteArray.size]
  · rw [szT_eq]; simp only [szL]; rw [Nat.pow_succ]; omega
  · rw [dpT]; simp only [dpL]; omega
theorem made12 (i : Nat) (k o : Int) (n : ByteArray) (h : k = 1 ∨ k = 2) (hn : nameS n = true) (hs : n.size ≤ 64) : Made i ⟨k, n, o, []⟩ := by
  have hp : 1 ≤ 2 ^ i := Nat.one_le_two_pow
  refine ⟨?_, ?_, ?_, ?_⟩
  · rw [fmT_eq]; unfold nodeS; rw [if_pos h]; simp [fmL, hn]
  · rw [nmT_eq]; simp [nmL, hs]
  · rw [szT_eq]; simp only [szL]; rw [Nat.pow_succ]; omega
  · rw [dpT]; simp only [dpL]; omega
theorem tnext_int (w0 W : World) (g : Nat) (n : Int) (h : Tp w0 W g) (h0 : 0 < n) (h1 : n ≤ 1000000) :
    Calls Tryd.prog 76 #[.pointer (some ⟨g, 0, none⟩), .int .i64 n] W fun e w' => ∃ r : Nat, (r : Int) < n ∧ e = .returned (.int .i64 r) ∧ Tp w0 w' g ∧ KeepBut W w' g none := by
  obtain ⟨m, rfl⟩ := Int.eq_ofNat_of_zero_le (Int.le_of_lt h0)
  refine (tnext_any w0 W g m h (by omega) (by omega)).mono ?_
  rintro e w' ⟨r, hr, h⟩
  exact ⟨r, by omega, h⟩
set_option maxHeartbeats 4000000 in
set_option maxRecDepth 100000 in
theorem raw_zero (w0 : World) (hw : WdAt w0) (g : Nat) (W : World) (hT : Tp w0 W g) :
    Calls Tryd.prog 59 #[.pointer (some ⟨g, 0, none⟩), .int .i64 0] W (RawPost w0 g 0 W) := by
  have hu42 := Tryd.underlying42
  have NX : Aside0 (∀ (n : Int) (W' : World), Tp w0 W' g → 0 < n → n ≤ 1000000 → Calls Tryd.prog 76 #[.pointer (some ⟨g, 0, none⟩), .int .i64 n] W' fun e w' => ∃ r : Nat, (r : Int) < n ∧ e = .returned (.int .i64 r) ∧ Tp w0 w' g ∧ KeepBut W' w' g none) := ⟨fun n W' h h0 h1 => tnext_int w0 W' g n h h0 h1⟩
  have T0 := Aside0.mk hT
  obtain ⟨ad, cw, hg, he⟩ := hw.out
  have WG := Aside0.mk hg
  have WE := Aside0.mk he
  have GA : Aside0 (∀ W', Below w0.heap.size w0 W' → W'.cell? ⟨1, 0, none⟩ = some (.slice (some ad) 13 cw) ∧ ∀ j, j < 13 → W'.cell? (ad.add j) = some (.string (wdB j))) := ⟨fun W' h => ⟨pw_cell_below h hg, fun j hj => pw_cell_below h (he j hj)⟩⟩
  clear hT hw hg he
  go_enter Tryd.func59, Tryd.ntmps59
  go_wp2_with fail
  go_at_call 76
  refine (NX.out 9 _ ?t1 (by omega) (by omega)).mono ?_
  case t1 => exact T0.out.keep (by repeat (first | (with_reducible first | exact Below.refl _ _ | apply below_alloc | apply pw_below_drewN | apply below_drew1 | refine below_set ?_ (Nat.le_refl _)) | assumption))
  rintro e w1 ⟨r, hr, rfl, h1, k1⟩
  have T1 := Aside0.mk h1
  have K1 : Aside0 (KeepBut W w1 g none) := ⟨(KeepBut.of_below (below_alloc (Below.refl _ W) _) g none).trans k1 (.inl rfl)⟩
  have BX1 : Aside0 (w1.heap[W.heap.size]? = some (.cells #[.int .i64 0, .string ⟨#[]⟩, .int .i64 0, .slice none 0 0] 42 (0, 0))) := ⟨k1.blk (heap_alloc_new _ _) (Nat.ne_of_gt (Tp.lt T0.out)) (by simp)⟩
  clear h1 k1
  have HS1 : Aside0 (W.heap.size < w1.heap.size) := ⟨blk_lt BX1.out⟩
  have GL : Aside0 (g < W.heap.size) := ⟨T0.out.lt⟩
  have HWW : Aside0 (w0.heap.size ≤ W.heap.size) := ⟨below_size T0.out.1⟩
  have q9 : IntKind.i64.wrap (1 + (r : Int)) = 1 + (r : Int) := IntWalk.i64_in _ (by omega)
  go_wp2_with fail
  go_at_call 76
  refine (NX.out 5 _ ?t2 (by omega) (by omega)).mono ?_
  case t2 => exact T1.out.keep (by repeat (first | (with_reducible first | exact Below.refl _ _ | apply below_alloc | apply pw_below_drewN | apply below_drew1 | refine below_set ?_ (Nat.le_refl _)) | assumption))
  rintro e w2 ⟨r2, hr2, rfl, h1, k1⟩
  have T2 := Aside0.mk h1
  have K2 : Aside0 (KeepBut W w2 g none) := ⟨K1.out.trans ((KeepBut.of_below (below_alloc (Below.refl _ w1) _) g none).trans k1 (.inl rfl)) (.inl rfl)⟩
  have BI : Aside0 (w2.heap[w1.heap.size]? = some (.cells #[.int .i64 1, .int .i64 1, .int .i64 3, .int .i64 4, .int .i64 2] 3 (0, 0))) := ⟨k1.blk (heap_alloc_new _ _) (Nat.ne_of_gt (Tp.lt T1.out)) (by simp)⟩
  have BX2 : Aside0 (w2.heap[W.heap.size]? = some (.cells #[.int .i64 0, .string ⟨#[]⟩, .int .i64 0, .slice none 0 0] 42 (0, 0))) := ⟨k1.blk ((al_old _ _ (blk_lt BX1.out)).trans BX1.out) (Nat.ne_of_gt GL.out) (by simp)⟩
  clear h1 k1 K1 BX1 q9
  obtain ⟨k, hk, hx⟩ : ∃ k : Int, (k = 1 ∨ k = 2 ∨ k = 3 ∨ k = 4) ∧ w2.cell? ⟨w1.heap.size, r2, none⟩ = some (.int .i64 k) := by
    rw [blk_cell BI.out r2]
    have : r2 = 0 ∨ r2 = 1 ∨ r2 = 2 ∨ r2 = 3 ∨ r2 = 4 := by omega
    rcases this with rfl | rfl | rfl | rfl | rfl
    · exact ⟨1, by simp, rfl⟩
    · exact ⟨1, by simp, rfl⟩
    · exact ⟨3, by simp, rfl⟩
    · exact ⟨4, by simp, rfl⟩
    · exact ⟨2, by simp, rfl⟩
  have HK := Aside0.mk hk
  have q0 := eq_true (show (0 : Int) ≤ (r2 : Int) by omega)
  have q1 := eq_true (show (r2 : Int) < 5 by omega)
  clear hk hr hr2
  go_wp2_with fail
  go_at_call 76
  refine (NX.out 100 _ ?t3 (by omega) (by omega)).mono ?_
  case t3 => exact T2.out.keep (by repeat (first | (with_reducible first | exact Below.refl _ _ | apply below_alloc | apply pw_below_drewN | apply below_drew1 | refine below_set ?_ (Nat.le_refl _)) | assumption))
  rintro e w3 ⟨r3, hr3, rfl, h1, k1⟩
  have T3 := Aside0.mk h1
  have K3 := Aside0.mk (K2.out.trans k1 (.inl rfl))
  have BX3 : Aside0 (w3.heap[W.heap.size]? = some (.cells #[.int .i64 0, .string ⟨#[]⟩, .int .i64 0, .slice none 0 0] 42 (0, 0))) := ⟨k1.blk BX2.out (Nat.ne_of_gt GL.out) (by simp)⟩
  clear h1 k1 K2 BX2 hx q0 q1 hr3 BI T2
  rcases HK.out with rfl | rfl | rfl | rfl
  · clear HK
    go_wp2_with fail
    have HW3 : Aside0 (w0.heap.size ≤ w3.heap.size) := ⟨below_size T3.out.1⟩
    go_region_held2 (fun W' => W'.cell? ⟨1, 0, none⟩ = some (.slice (some ad) 13 cw) ∧ ∀ j, j < 13 → W'.cell? (ad.add j) = some (.string (wdB j))) ((first | exact GA.out _ (below_drew (below_alloc T3.out.1 _)) | exact GA.out _ T4.out.1 | exact GA.out _ (T4.out.1.setCell (p := ⟨w3.heap.size, 1, none⟩) HW3.out _))) ((go_at_call 76; (with_reducible refine (NX.out 10 _ ?t4 (by omega) (by omega)).mono ?_); (case t4 => exact T3.out.keep (by repeat (first | (with_reducible first | exact Below.refl _ _ | apply below_alloc | apply pw_below_drewN | apply below_drew1 | refine below_set ?_ (Nat.le_refl _)) | assumption))); rintro e w4 ⟨r4, hr4, rfl, h1, k1⟩; have T4 := Aside0.mk h1; have B6 : Aside0 (w4.heap[w3.heap.size]? = some (.cells #[.int .i64 1, .string ⟨#[]⟩, .int .i64 r3, .slice none 0 0] 42 (0, 0))) := ⟨k1.blk (heap_alloc_new _ _) (Nat.ne_of_gt (Tp.lt T3.out)) (by simp)⟩; have BX4 : Aside0 (w4.heap[W.heap.size]? = some (.cells #[.int .i64 0, .string ⟨#[]⟩, .int .i64 0, .slice none 0 0] 42 (0, 0))) := ⟨k1.blk ((al_old _ _ (blk_lt BX3.out)).trans BX3.out) (Nat.ne_of_gt GL.out) (by simp)⟩; have K4 : Aside0 (KeepBut W w4 g none) := ⟨K3.out.trans ((KeepBut.of_below (below_alloc (Below.refl _ w3) _) g none).trans k1 (.inl rfl)) (.inl rfl)⟩; have q2 := eq_true (show r4 < 13 by omega); have q0 := eq_true (show (0 : Int) ≤ (r4 : Int) by omega); have q1 := eq_true (show (r4 : Int) < 13 by omega); have R4 := Aside0.mk hr4; have z0 : w4.cell? ⟨W.heap.size, 0, none⟩ = some (.int .i64 0) := (blk_cell BX4.out 0).trans rfl; have z1 : w4.cell? ⟨W.heap.size, 1, none⟩ = some (.string ⟨#[]⟩) := (blk_cell BX4.out 1).trans rfl; have z2 : w4.cell? ⟨W.heap.size, 2, none⟩ = some (.int .i64 0) := (blk_cell BX4.out 2).trans rfl; have z3 : w4.cell? ⟨W.heap.size, 3, none⟩ = some (.slice none 0 0) := (blk_cell BX4.out 3).trans rfl; have y0 := blk_frozen BX4.out 0; have y1 := blk_frozen BX4.out 1; have y2 := blk_frozen BX4.out 2; have y3 := blk_frozen BX4.out 3; have hlw4 : W.heap.size < w4.heap.size := blk_lt BX4.out; have u0 : w4.cell? ⟨w3.heap.size, 0, none⟩ = some (.int .i64 1) := (blk_cell B6.out 0).trans rfl; have u1 : w4.cell? ⟨w3.heap.size, 1, none⟩ = some (.string ⟨#[]⟩) := (blk_cell B6.out 1).trans rfl; have u2 : w4.cell? ⟨w3.heap.size, 2, none⟩ = some (.int .i64 r3) := (blk_cell B6.out 2).trans rfl; have u3 : w4.cell? ⟨w3.heap.size, 3, none⟩ = some (.slice none 0 0) := (blk_cell B6.out 3).trans rfl; have v0 := blk_frozen B6.out 0; have v1 := blk_frozen B6.out 1; have v2 := blk_frozen B6.out 2; have v3 := blk_frozen B6.out 3; have hl6 : w3.heap.size < w4.heap.size := blk_lt B6.out; clear h1 k1 hr4))
    have GW3 : Aside0 (g < w3.heap.size ∧ W.heap.size < w3.heap.size) := ⟨⟨T3.out.lt, blk_lt BX3.out⟩⟩
    have T5 := Aside0.mk (T4.out.set HW3.out (Nat.ne_of_lt GW3.out.1) 1 (.string (wdB r4)))
    have K5 := Aside0.mk (keep_set K4.out (Nat.le_of_lt GW3.out.2) 1 (.string (wdB r4)))
    have BX5 := Aside0.mk (blk_far BX4.out (p := ⟨w3.heap.size, 1, none⟩) (Nat.ne_of_lt GW3.out.2) (.string (wdB r4)))
    have B65 : Aside0 ((w4.setCell ⟨w3.heap.size, 1, none⟩ (.string (wdB r4))).heap[w3.heap.size]? = some (.cells #[.int .i64 1, .string (wdB r4), .int .i64 r3, .slice none 0 0] 42 (0, 0))) := ⟨blk_put B6.out 1 _ rfl⟩
    clear z0 z1 z2 z3 y0 y1 y2 y3 u0 u1 u2 u3 v0 v1 v2 v3 q0 q1 q2 hl6 hlw4 B6 BX4 K4 T4
    generalize w4.setCell ⟨w3.heap.size, 1, none⟩ (.string (wdB r4)) = w5 at *
    have z0 : w5.cell? ⟨W.heap.size, 0, none⟩ = some (.int .i64 0) := (blk_cell BX5.out 0).trans rfl
    have z1 : w5.cell? ⟨W.heap.size, 1, none⟩ = some (.string ⟨#[]⟩) := (blk_cell BX5.out 1).trans rfl
    have z2 : w5.cell? ⟨W.heap.size, 2, none⟩ = some (.int .i64 0) := (blk_cell BX5.out 2).trans rfl
    have z3 : w5.cell? ⟨W.heap.size, 3, none⟩ = some (.slice none 0 0) := (blk_cell BX5.out 3).trans rfl
    have y0 := blk_frozen BX5.out 0
    have y1 := blk_frozen BX5.out 1
    have y2 := blk_frozen BX5.out 2
    have y3 := blk_frozen BX5.out 3
    have hlw5 : W.heap.size < w5.heap.size := blk_lt BX5.out
    have u0 : w5.cell? ⟨w3.heap.size, 0, none⟩ = some (.int .i64 1) := (blk_cell B65.out 0).trans rfl
    have u1 : w5.cell? ⟨w3.heap.size, 1, none⟩ = some (.string (wdB r4)) := (blk_cell B65.out 1).trans rfl
    have u2 : w5.cell? ⟨w3.heap.size, 2, none⟩ = some (.int .i64 r3) := (blk_cell B65.out 2).trans rfl
    have u3 : w5.cell? ⟨w3.heap.size, 3, none⟩ = some (.slice none 0 0) := (blk_cell B65.out 3).trans rfl
    have hl6 : w3.heap.size < w5.heap.size := blk_lt B65.out
    have HL5 := Aside0.mk hlw5
    go_wp2_with fail
    refine bodyPost_ret (results_cell_row rfl _ _ W.heap.size 42 #[.int .i64 1, .string (wdB r4), .int .i64 r3, .slice none 0 0] (0, 0) _ rfl ?hp Tryd.underlying42 rfl (by kernel_rfl)) rfl ?_
    case hp => first | (with_reducible exact box_set4 BX5.out _ _ _ _) | (rw [al_old _ _ (by simpa [World.setCell] using HL5.out)]; exact box_set4 BX5.out _ _ _ _)
    refine ⟨⟨1, (wdB r4), r3, []⟩, none, 0, rfl, made12 0 1 _ _ (by omega) (wdB_name r4 (by have := R4.out; omega)) (wdB_len r4), Nat.le_refl _, ?_, ?_, Foot.nil _ _⟩
    · with_reducible first | exact set4_tp T5.out HWW.out (Nat.ne_of_lt GL.out) _ _ _ _ | exact (set4_tp T5.out HWW.out (Nat.ne_of_lt GL.out) _ _ _ _).alloc _
    · with_reducible first | exact set4_keep K5.out (Nat.le_refl _) _ _ _ _ | exact keep_alloc (set4_keep K5.out (Nat.le_refl _) _ _ _ _) _
  · clear HK
    go_wp2_with fail
    have HW3 : Aside0 (w0.heap.size ≤ w3.heap.size) := ⟨below_size T3.out.1⟩
    go_region_held2 (fun W' => W'.cell? ⟨1, 0, none⟩ = some (.slice (some ad) 13 cw) ∧ ∀ j, j < 13 → W'.cell? (ad.add j) = some (.string (wdB j))) ((first | exact GA.out _ (below_drew (below_alloc T3.out.1 _)) | exact GA.out _ T4.out.1 | exact GA.out _ (T4.out.1.setCell (p := ⟨w3.heap.size, 1, none⟩) HW3.out _))) ((go_at_call 76; (with_reducible refine (NX.out 10 _ ?t4 (by omega) (by omega)).mono ?_); (case t4 => exact T3.out.keep (by repeat (first | (with_reducible first | exact Below.refl _ _ | apply below_alloc | apply pw_below_drewN | apply below_drew1 | refine below_set ?_ (Nat.le_refl _)) | assumption))); rintro e w4 ⟨r4, hr4, rfl, h1, k1⟩; have T4 := Aside0.mk h1; have B6 : Aside0 (w4.heap[w3.heap.size]? = some (.cells #[.int .i64 2, .string ⟨#[]⟩, .int .i64 r3, .slice none 0 0] 42 (0, 0))) := ⟨k1.blk (heap_alloc_new _ _) (Nat.ne_of_gt (Tp.lt T3.out)) (by simp)⟩; have BX4 : Aside0 (w4.heap[W.heap.size]? = some (.cells #[.int .i64 0, .string ⟨#[]⟩, .int .i64 0, .slice none 0 0] 42 (0, 0))) := ⟨k1.blk ((al_old _ _ (blk_lt BX3.out)).trans BX3.out) (Nat.ne_of_gt GL.out) (by simp)⟩; have K4 : Aside0 (KeepBut W w4 g none) := ⟨K3.out.trans ((KeepBut.of_below (below_alloc (Below.refl _ w3) _) g none).trans k1 (.inl rfl)) (.inl rfl)⟩; have q2 := eq_true (show r4 < 13 by omega); have q0 := eq_true (show (0 : Int) ≤ (r4 : Int) by omega); have q1 := eq_true (show (r4 : Int) < 13 by omega); have R4 := Aside0.mk hr4; have z0 : w4.cell? ⟨W.heap.size, 0, none⟩ = some (.int .i64 0) := (blk_cell BX4.out 0).trans rfl; have z1 : w4.cell? ⟨W.heap.size, 1, none⟩ = some (.string ⟨#[]⟩) := (blk_cell BX4.out 1).trans rfl; have z2 : w4.cell? ⟨W.heap.size, 2, none⟩ = some (.int .i64 0) := (blk_cell BX4.out 2).trans rfl; have z3 : w4.cell? ⟨W.heap.size, 3, none⟩ = some (.slice none 0 0) := (blk_cell BX4.out 3).trans rfl; have y0 := blk_frozen BX4.out 0; have y1 := blk_frozen BX4.out 1; have y2 := blk_frozen BX4.out 2; have y3 := blk_frozen BX4.out 3; have hlw4 : W.heap.size < w4.heap.size := blk_lt BX4.out; have u0 : w4.cell? ⟨w3.heap.size, 0, none⟩ = some (.int .i64 2) := (blk_cell B6.out 0).trans rfl; have u1 : w4.cell? ⟨w3.heap.size, 1, none⟩ = some (.string ⟨#[]⟩) := (blk_cell B6.out 1).trans rfl; have u2 : w4.cell? ⟨w3.heap.size, 2, none⟩ = some (.int .i64 r3) := (blk_cell B6.out 2).trans rfl; have u3 : w4.cell? ⟨w3.heap.size, 3, none⟩ = some (.slice none 0 0) := (blk_cell B6.out 3).trans rfl; have v0 := blk_frozen B6.out 0; have v1 := blk_frozen B6.out 1; have v2 := blk_frozen B6.out 2; have v3 := blk_frozen B6.out 3; have hl6 : w3.heap.size < w4.heap.size := blk_lt B6.out; clear h1 k1 hr4))
    have GW3 : Aside0 (g < w3.heap.size ∧ W.heap.size < w3.heap.size) := ⟨⟨T3.out.lt, blk_lt BX3.out⟩⟩
    have T5 := Aside0.mk (T4.out.set HW3.out (Nat.ne_of_lt GW3.out.1) 1 (.string (wdB r4)))
    have K5 := Aside0.mk (keep_set K4.out (Nat.le_of_lt GW3.out.2) 1 (.string (wdB r4)))
    have BX5 := Aside0.mk (blk_far BX4.out (p := ⟨w3.heap.size, 1, none⟩) (Nat.ne_of_lt GW3.out.2) (.string (wdB r4)))
    have B65 : Aside0 ((w4.setCell ⟨w3.heap.size, 1, none⟩ (.string (wdB r4))).heap[w3.heap.size]? = some (.cells #[.int .i64 2, .string (wdB r4), .int .i64 r3, .slice none 0 0] 42 (0, 0))) := ⟨blk_put B6.out 1 _ rfl⟩
    clear z0 z1 z2 z3 y0 y1 y2 y3 u0 u1 u2 u3 v0 v1 v2 v3 q0 q1 q2 hl6 hlw4 B6 BX4 K4 T4
    generalize w4.setCell ⟨w3.heap.size, 1, none⟩ (.string (wdB r4)) = w5 at *
    have z0 : w5.cell? ⟨W.heap.size, 0, none⟩ = some (.int .i64 0) := (blk_cell BX5.out 0).trans rfl
    have z1 : w5.cell? ⟨W.heap.size, 1, none⟩ = some (.string ⟨#[]⟩) := (blk_cell BX5.out 1).trans rfl
    have z2 : w5.cell? ⟨W.heap.size, 2, none⟩ = some (.int .i64 0) := (blk_cell BX5.out 2).trans rfl
    have z3 : w5.cell? ⟨W.heap.size, 3, none⟩ = some (.slice none 0 0) := (blk_cell BX5.out 3).trans rfl
    have y0 := blk_frozen BX5.out 0
    have y1 := blk_frozen BX5.out 1
    have y2 := blk_frozen BX5.out 2
    have y3 := blk_frozen BX5.out 3
    have hlw5 : W.heap.size < w5.heap.size := blk_lt BX5.out
    have u0 : w5.cell? ⟨w3.heap.size, 0, none⟩ = some (.int .i64 2) := (blk_cell B65.out 0).trans rfl
    have u1 : w5.cell? ⟨w3.heap.size, 1, none⟩ = some (.string (wdB r4)) := (blk_cell B65.out 1).trans rfl
    have u2 : w5.cell? ⟨w3.heap.size, 2, none⟩ = some (.int .i64 r3) := (blk_cell B65.out 2).trans rfl
    have u3 : w5.cell? ⟨w3.heap.size, 3, none⟩ = some (.slice none 0 0) := (blk_cell B65.out 3).trans rfl
    have hl6 : w3.heap.size < w5.heap.size := blk_lt B65.out
    have HL5 := Aside0.mk hlw5
    go_wp2_with fail
    refine bodyPost_ret (results_cell_row rfl _ _ W.heap.size 42 #[.int .i64 2, .string (wdB r4), .int .i64 r3, .slice none 0 0] (0, 0) _ rfl ?hp Tryd.underlying42 rfl (by kernel_rfl)) rfl ?_
    case hp => first | (with_reducible exact box_set4 BX5.out _ _ _ _) | (rw [al_old _ _ (by simpa [World.setCell] using HL5.out)]; exact box_set4 BX5.out _ _ _ _)
    refine ⟨⟨2, (wdB r4), r3, []⟩, none, 0, rfl, made12 0 2 _ _ (by omega) (wdB_name r4 (by have := R4.out; omega)) (wdB_len r4), Nat.le_refl _, ?_, ?_, Foot.nil _ _⟩
    · with_reducible first | exact set4_tp T5.out HWW.out (Nat.ne_of_lt GL.out) _ _ _ _ | exact (set4_tp T5.out HWW.out (Nat.ne_of_lt GL.out) _ _ _ _).alloc _
    · with_reducible first | exact set4_keep K5.out (Nat.le_refl _) _ _ _ _ | exact keep_alloc (set4_keep K5.out (Nat.le_refl _) _ _ _ _) _
  · clear HK
    have z0 : w3.cell? ⟨W.heap.size, 0, none⟩ = some (.int .i64 0) := (blk_cell BX3.out 0).trans rfl
    have z1 : w3.cell? ⟨W.heap.size, 1, none⟩ = some (.string ⟨#[]⟩) := (blk_cell BX3.out 1).trans rfl
    have z2 : w3.cell? ⟨W.heap.size, 2, none⟩ = some (.int .i64 0) := (blk_cell BX3.out 2).trans rfl
    have z3 : w3.cell? ⟨W.heap.size, 3, none⟩ = some (.slice none 0 0) := (blk_cell BX3.out 3).trans rfl
    have y0 := blk_frozen BX3.out 0
    have y1 := blk_frozen BX3.out 1
    have y2 := blk_frozen BX3.out 2
    have y3 := blk_frozen BX3.out 3
    have hlw3 : W.heap.size < w3.heap.size := blk_lt BX3.out
    have HL3 := Aside0.mk hlw3
    go_wp2_with fail
    refine bodyPost_ret (results_cell_row rfl _ _ W.heap.size 42 #[.int .i64 3, .string ⟨#[]⟩, .int .i64 r3, .slice none 0 0] (0, 0) _ rfl ?hp Tryd.underlying42 rfl (by kernel_rfl)) rfl ?_
    case hp => first | (with_reducible exact box_set4 BX3.out _ _ _ _) | (rw [al_old _ _ (by simpa [World.setCell] using HL3.out)]; exact box_set4 BX3.out _ _ _ _)
    refine ⟨⟨3, ⟨#[]⟩, r3, []⟩, none, 0, rfl, made34 0 3 _ (by omega), Nat.le_refl _, ?_, ?_, Foot.nil _ _⟩
    · with_reducible first | exact set4_tp T3.out HWW.out (Nat.ne_of_lt GL.out) _ _ _ _ | exact (set4_tp T3.out HWW.out (Nat.ne_of_lt GL.out) _ _ _ _).alloc _
    · with_reducible first | exact set4_keep K3.out (Nat.le_refl _) _ _ _ _ | exact keep_alloc (set4_keep K3.out (Nat.le_refl _) _ _ _ _) _
  · clear HK
    have z0 : w3.cell? ⟨W.heap.size, 0, none⟩ = some (.int .i64 0) := (blk_cell BX3.out 0).trans rfl
    have z1 : w3.cell? ⟨W.heap.size, 1, none⟩ = some (.string ⟨#[]⟩) := (blk_cell BX3.out 1).trans rfl
    have z2 : w3.cell? ⟨W.heap.size, 2, none⟩ = some (.int .i64 0) := (blk_cell BX3.out 2).trans rfl
    have z3 : w3.cell? ⟨W.heap.size, 3, none⟩ = some (.slice none 0 0) := (blk_cell BX3.out 3).trans rfl
    have y0 := blk_frozen BX3.out 0
    have y1 := blk_frozen BX3.out 1
    have y2 := blk_frozen BX3.out 2
    have y3 := blk_frozen BX3.out 3
    have hlw3 : W.heap.size < w3.heap.size := blk_lt BX3.out
    have HL3 := Aside0.mk hlw3
    go_wp2_with fail
    refine bodyPost_ret (results_cell_row rfl _ _ W.heap.size 42 #[.int .i64 4, .string ⟨#[]⟩, .int .i64 r3, .slice none 0 0] (0, 0) _ rfl ?hp Tryd.underlying42 rfl (by kernel_rfl)) rfl ?_
    case hp => first | (with_reducible exact box_set4 BX3.out _ _ _ _) | (rw [al_old _ _ (by simpa [World.setCell] using HL3.out)]; exact box_set4 BX3.out _ _ _ _)
    refine ⟨⟨4, ⟨#[]⟩, r3, []⟩, none, 0, rfl, made34 0 4 _ (by omega), Nat.le_refl _, ?_, ?_, Foot.nil _ _⟩
    · with_reducible first | exact set4_tp T3.out HWW.out (Nat.ne_of_lt GL.out) _ _ _ _ | exact (set4_tp T3.out HWW.out (Nat.ne_of_lt GL.out) _ _ _ _).alloc _
    · with_reducible first | exact set4_keep K3.out (Nat.le_refl _) _ _ _ _ | exact keep_alloc (set4_keep K3.out (Nat.le_refl _) _ _ _ _) _
end
end Go.Proofs.YtajefkjcfmfjkaaDoor
namespace Go.Proofs.YtajefkjcfmfjkaaDoor
section
set_option linter.unusedVariables false
set_option linter.unusedSimpArgs false
set_option linter.deprecated false
open Go.RowKit Go.Proofs.YtajefkjcfmfjkaaDoorW.PrintWords Go.Proofs.YtajefkjcfmfjkaaDoor.POperatorResolves
set_option linter.unusedVariables false
theorem tree_run (W : World) (base ty n : Nat) (v : Value) (xs : List Value) (c0 c1 c2 c3 : Value) (HO : W.ownsRow base 42 4 v n xs) (hbase : base ≤ W.heap.size) (hn : n ≤ 100000000)
    (h1 : c0.oneCell' = true ∧ c1.oneCell' = true ∧ c2.oneCell' = true ∧ c3.oneCell' = true) :
    ∃ v1 w1, (Builtin.append_ #[40, 40] ty #[v, .slice (some ⟨W.heap.size, 0, none⟩) 1 1]).run Tryd.prog (W.alloc (.cells #[c0, c1, c2, c3] 42)) = .ok v1 w1 ∧ w1.ownsRow base 42 4 v1 (n + 1) (xs ++ [c0, c1, c2, c3]) ∧ W.grownBy w1 v.ownBlock ∧ (v1.ownBlock = v.ownBlock ∨ ∃ b, v1.ownBlock = some b ∧ W.heap.size ≤ b) := by
  obtain ⟨i0, hi, hz0, hz1, hz2⟩ := info_parts info42
  obtain ⟨v1, w1, hr, hown, hg, _, hat⟩ := run_append_own_at (P := Tryd.prog) (W.alloc (.cells #[c0, c1, c2, c3] 42)) base 40 ty 42 i0 _ 4 _ Tryd.underlying40 hi hz0 hz1 hz2 rfl (by decide) v n xs (HO.alloc _) ⟨W.heap.size, 0, none⟩ 1 1 [c0, c1, c2, c3]
    rfl (World.news_of_block (cs := #[c0, c1, c2, c3]) (t := 42) (fr := (0, 0)) (heap_alloc_new W _)) (by simpa using h1) (by simp only [maxLen]; omega) (by omega) (by simp; omega)
  refine ⟨v1, w1, hr, hown, World.grownBy.trans (World.grownBy_alloc W _ _) hg, ?_⟩
  rcases hat with hat | hat
  · exact .inl hat
  · exact .inr ⟨_, hat, by simp⟩
section
variable {ops : Array Oper} {o : Oper} {a : Act} {Q : Exit → Act → World → Prop} {K : Act → World → Prop} {W : World}
/-- append of a tree, in a region that draws its order -/
theorem ts_tree (hw : Region.wanted o (yielded ops a.tmps) = true) (s x : Operand) (ho : o.op = .call { callee := .builtin .append, args := #[s, x], argTypes := #[40, 40] }) (base n : Nat) (v : Value) (xs : List Value) (c0 c1 c2 c3 : Value) (hs : a.eval s = v) (hx : a.eval x = .slice (some ⟨W.heap.size, 0, none⟩) 1 1)
    (HO : W.ownsRow base 42 4 v n xs) (hbase : base ≤ W.heap.size) (hn : n ≤ 100000000) (h1 : c0.oneCell' = true ∧ c1.oneCell' = true ∧ c2.oneCell' = true ∧ c3.oneCell' = true)
    (h : ∀ v1 w1, w1.ownsRow base 42 4 v1 (n + 1) (xs ++ [c0, c1, c2, c3]) → W.grownBy w1 v.ownBlock → (v1.ownBlock = v.ownBlock ∨ ∃ b, v1.ownBlock = some b ∧ W.heap.size ≤ b) → K (a.put o.dst v1) w1) :
    if Region.wanted o (yielded ops a.tmps) = true then Oper.wp Tryd.prog o a (W.alloc (.cells #[c0, c1, c2, c3] 42)) K Q else K (a.put o.dst undef) (W.alloc (.cells #[c0, c1, c2, c3] 42)) := by
  obtain ⟨v1, w1, hr, h2, h3, h4⟩ := tree_run W base o.type n v xs c0 c1 c2 c3 HO hbase hn h1
  rw [if_pos hw]
  unfold Oper.wp execOp
  simp only [ho, resolve, invoke, builtin, Sem.run_bind, Sem.run_pure, Result.andThen_ok, List.map_toArray, List.map_cons, List.map_nil, hs, hx, hr]
  exact h v1 w1 h2 h3 h4
end
/-- a row of its own that holds one tree, and two: as it is read -/
theorem own_tree1 {W : World} {base : Nat} {v : Value} {c0 c1 c2 c3 : Value} (h : W.ownsRow base 42 4 v 1 [c0, c1, c2, c3]) :
    ∃ B c cur, v = .slice (some ⟨B, 0, none⟩) 1 c ∧ 1 ≤ c ∧ base ≤ B ∧ W.heap[B]? = some (.cells cur 42 (0, 0)) ∧ cur.toList.take 4 = [c0, c1, c2, c3] := by
  obtain ⟨_, ⟨_, h0⟩ | ⟨g, cap, cur, rfl, h1, h2, h3, _, h4, h5⟩⟩ := h
  · omega
  · exact ⟨g, cap, cur, rfl, h3, h1, h2, h5⟩
theorem own_tree2 {W : World} {base : Nat} {v : Value} {xs : List Value} (h : W.ownsRow base 42 4 v 2 xs) :
    ∃ B c cur, v = .slice (some ⟨B, 0, none⟩) 2 c ∧ 2 ≤ c ∧ base ≤ B ∧ W.heap[B]? = some (.cells cur 42 (0, 0)) ∧ cur.toList.take 8 = xs := by
  obtain ⟨_, ⟨_, h0⟩ | ⟨g, cap, cur, rfl, h1, h2, h3, _, h4, h5⟩⟩ := h
  · omega
  · exact ⟨g, cap, cur, rfl, h3, h1, h2, h5⟩
theorem take_get {cur : Array Value} {n : Nat} {xs : List Value} (h : cur.toList.take n = xs) {i : Nat} (hi : i < n) : cur[i]? = xs[i]? := by
  rw [← h, List.getElem?_take, if_pos hi]; simp
theorem k42_T1 {w : World} {B : Nat} {cur : Array Value} {x : S42} {A : Option Addr} {c : Nat} (hb : w.heap[B]? = some (.cells cur 42 (0, 0))) (ht : cur.toList.take 4 = [.int .i64 x.f0, .string x.f1, .int .i64 x.f2, .slice A x.f3.length c]) (hc : x.f3.length ≤ c) (hC : Kd.C k42 w A x.f3.length x.f3) :
    Kd.C k42 w (some ⟨B, 0, none⟩) 1 [x] := by
  refine ⟨rfl, by omega, fun _ => ⟨_, rfl, fun j p hj => ?_⟩⟩
  match j, hj with
  | 0, hj =>
    obtain rfl : x = p := by simpa using hj
    refine ⟨_, rfl, k42_mk w x hc hC, fun i u hu => ?_⟩
    have e : (⟨B, 0, none⟩ : Addr).add (0 * k42.sz + i) = ⟨B, i, none⟩ := by rw [Nat.zero_mul, Nat.zero_add, add_nat42]
    have hi : i < 4 := by have := (List.getElem?_eq_some_iff.1 hu).1; simpa using this
    rw [e, blk_cell hb i, take_get ht hi]
    exact hu
theorem k42_T2 {w : World} {B : Nat} {cur : Array Value} {x y : S42} {A A' : Option Addr} {c c' : Nat} (hb : w.heap[B]? = some (.cells cur 42 (0, 0))) (ht : cur.toList.take 8 = [.int .i64 x.f0, .string x.f1, .int .i64 x.f2, .slice A x.f3.length c] ++ [.int .i64 y.f0, .string y.f1, .int .i64 y.f2, .slice A' y.f3.length c']) (hc : x.f3.length ≤ c) (hC : Kd.C k42 w A x.f3.length x.f3) (hc' : y.f3.length ≤ c') (hC' : Kd.C k42 w A' y.f3.length y.f3) :
    Kd.C k42 w (some ⟨B, 0, none⟩) 2 [x, y] := by
  refine ⟨rfl, by omega, fun _ => ⟨_, rfl, fun j p hj => ?_⟩⟩
  match j, hj with
  | 0, hj =>
    obtain rfl : x = p := by simpa using hj
    refine ⟨_, rfl, k42_mk w x hc hC, fun i u hu => ?_⟩
    have e : (⟨B, 0, none⟩ : Addr).add (0 * k42.sz + i) = ⟨B, i, none⟩ := by rw [Nat.zero_mul, Nat.zero_add, add_nat42]
    have hi : i < 4 := by have := (List.getElem?_eq_some_iff.1 hu).1; simpa using this
    rw [e, blk_cell hb i, take_get ht (by omega), List.getElem?_append_left (by simpa using hi)]
    exact hu
  | 1, hj =>
    obtain rfl : y = p := by simpa using hj
    refine ⟨_, rfl, k42_mk w y hc' hC', fun i u hu => ?_⟩
    have e : (⟨B, 0, none⟩ : Addr).add (1 * k42.sz + i) = ⟨B, 4 + i, none⟩ := by rw [add_nat42]; rfl
    have hi : i < 4 := by have := (List.getElem?_eq_some_iff.1 hu).1; simpa using this
    rw [e, blk_cell hb (4 + i), take_get ht (by omega), List.getElem?_append_right (by simp)]
    simpa using hu
end
end Go.Proofs.YtajefkjcfmfjkaaDoor
namespace Go.Proofs.YtajefkjcfmfjkaaDoor
section
set_option linter.unusedVariables false
set_option linter.unusedSimpArgs false
set_option linter.deprecated false
open Go.RowKit Go.Proofs.YtajefkjcfmfjkaaDoorW.PrintWords Go.Proofs.YtajefkjcfmfjkaaDoor.POperatorResolves
set_option linter.unusedVariables false
/-- a node and where its own row lies -/
structure Nd where
  t : S42
  A : Option Addr
  c : Nat
def Nd.cs (d : Nd) : List Value := [.int .i64 d.t.f0, .string d.t.f1, .int .i64 d.t.f2, .slice d.A d.t.f3.length d.c]
def Nd.ok (W : World) (d : Nd) : Prop := d.t.f3.length ≤ d.c ∧ Kd.C k42 W d.A d.t.f3.length d.t.f3
def ndCs : List Nd → List Value
  | [] => []
  | d :: ds => d.cs ++ ndCs ds
theorem ndCs_len (ds : List Nd) : (ndCs ds).length = ds.length * 4 := by
  induction ds with
  | nil => rfl
  | cons d ds ih => rw [ndCs, List.length_append, ih]; simp [Nd.cs]; omega
theorem ndCs_app (a b : List Nd) : ndCs (a ++ b) = ndCs a ++ ndCs b := by
  induction a with
  | nil => rfl
  | cons d ds ih => rw [List.cons_append, ndCs, ndCs, ih, List.append_assoc]
theorem ndCs_get (ds : List Nd) (j : Nat) (d : Nd) (h : ds[j]? = some d) (i : Nat) (hi : i < 4) : (ndCs ds)[j * 4 + i]? = d.cs[i]? := by
  induction ds generalizing j with
  | nil => simp at h
  | cons e es ih =>
    rw [ndCs]
    cases j with
    | zero =>
      obtain rfl : e = d := by simpa using h
      rw [Nat.zero_mul, Nat.zero_add, List.getElem?_append_left (by simpa [Nd.cs] using hi)]
    | succ j =>
      rw [List.getElem?_append_right (by simp [Nd.cs]; omega)]
      have e1 : (j + 1) * 4 + i - e.cs.length = j * 4 + i := by simp [Nd.cs]; omega
      rw [e1]
      exact ih j (by simpa using h)
/-- a readable row of trees is such a list -/
theorem nd_of {W : World} {A : Option Addr} {n : Nat} {xs : List S42} (h : Kd.C k42 W A n xs) :
    ∃ ds : List Nd, ds.map Nd.t = xs ∧ (∀ d ∈ ds, d.ok W) ∧ (0 < n → ∃ ad, A = some ad ∧ ∀ j u, (ndCs ds)[j]? = some u → W.cell? (ad.add j) = some u) := by
  have hlen := Kd.C_len h
  have hat : ∀ k, k < n → ∃ A3 c3, ∃ ad, A = some ad ∧ (Nd.mk (rd_T42 xs k) A3 c3).ok W ∧ ∀ i u, (Nd.mk (rd_T42 xs k) A3 c3).cs[i]? = some u → W.cell? (ad.add (k * 4 + i)) = some u := by
    intro k hk
    obtain ⟨ad, c, e, hs, hK, hc0⟩ := Kd.C_get h z42 (k : Int) (by omega) (by omega)
    rw [Int.toNat_natCast] at hK hc0
    obtain ⟨A3, c3, rfl, l3, g3⟩ := k42_open hK
    refine ⟨A3, c3, ad, e, ⟨l3, g3⟩, fun i u hu => hc0 i u hu⟩
  have step : ∀ m, m ≤ n → ∃ ds : List Nd, ds.map Nd.t = xs.take m ∧ (∀ d ∈ ds, d.ok W) ∧ ∀ j d, ds[j]? = some d → ∃ ad, A = some ad ∧ ∀ i u, d.cs[i]? = some u → W.cell? (ad.add (j * 4 + i)) = some u := by
    intro m
    induction m with
    | zero => intro _; exact ⟨[], by simp, by simp, by simp⟩
    | succ m ih =>
      intro hm
      obtain ⟨ds, h1, h2, h3⟩ := ih (by omega)
      obtain ⟨A3, c3, ad, e, h4, h5⟩ := hat m (by omega)
      have hl : ds.length = m := by
        have := congrArg List.length h1
        rw [List.length_map, List.length_take] at this
        omega
      refine ⟨ds ++ [⟨rd_T42 xs m, A3, c3⟩], ?_, ?_, ?_⟩
      · rw [List.map_append, h1, List.take_add_one, rdT_get (by omega : m < xs.length), List.getElem?_eq_getElem (by omega : m < xs.length)]
        rfl
      · intro d hd
        rcases List.mem_append.1 hd with hd | hd
        · exact h2 d hd
        · obtain rfl : d = _ := by simpa using hd
          exact h4
      · intro j d hj
        rcases Nat.lt_or_ge j m with hlt | hge
        · rw [List.getElem?_append_left (by omega)] at hj
          exact h3 j d hj
        · rw [List.getElem?_append_right (by omega), hl] at hj
          have : j = m := by
            have := (List.getElem?_eq_some_iff.1 hj).1
            simp at this
            omega
          subst this
          simp at hj
          subst hj
          exact ⟨ad, e, h5⟩
  obtain ⟨ds, h1, h2, h3⟩ := step n (Nat.le_refl _)
  rw [List.take_of_length_le (by omega)] at h1
  have hl : ds.length = n := by rw [← hlen, ← h1, List.length_map]
  refine ⟨ds, h1, h2, fun hn => ?_⟩
  obtain ⟨_, _, ad, e, _, _⟩ := hat 0 hn
  refine ⟨ad, e, fun j u hj => ?_⟩
  have hj4 : j < n * 4 := by
    have := (List.getElem?_eq_some_iff.1 hj).1
    rw [ndCs_len, hl] at this
    exact this
  have hd : j / 4 < ds.length := by omega
  obtain ⟨ad', e', h6⟩ := h3 (j / 4) ds[j / 4] (List.getElem?_eq_getElem hd)
  obtain rfl := Option.some.inj (e.symm.trans e')
  have h7 := ndCs_get ds (j / 4) ds[j / 4] (List.getElem?_eq_getElem hd) (j % 4) (by omega)
  rw [show j / 4 * 4 + j % 4 = j by omega, hj] at h7
  have := h6 (j % 4) u h7.symm
  rwa [show j / 4 * 4 + j % 4 = j by omega] at this
end
end Go.Proofs.YtajefkjcfmfjkaaDoor
namespace Go.Proofs.YtajefkjcfmfjkaaDoor
section
set_option linter.unusedVariables false
set_option linter.unusedSimpArgs false
set_option linter.deprecated false
open Go.RowKit Go.Proofs.YtajefkjcfmfjkaaDoorW.PrintWords Go.Proofs.YtajefkjcfmfjkaaDoor.POperatorResolves
set_option linter.unusedVariables false
theorem nd_drop (ds : List Nd) : ndCs (ds.drop 1) = (ndCs ds).drop 4 := by
  cases ds with
  | nil => rfl
  | cons d ds => simp [ndCs, Nd.cs]
theorem szL_map_set (ds : List Nd) (i : Nat) (d : Nd) (hi : i < ds.length) (h : szT d.t ≤ szT ds[i].t + 1) : szL ((ds.set i d).map Nd.t) ≤ szL (ds.map Nd.t) + 1 := by
  induction ds generalizing i with
  | nil => simp at hi
  | cons e es ih =>
    cases i with
    | zero => simp only [List.set_cons_zero, List.map_cons, szL]; simp only [List.getElem_cons_zero] at h; omega
    | succ i =>
      simp only [List.set_cons_succ, List.map_cons, szL]
      have := ih i (by simpa using hi) (by simpa using h)
      omega
theorem nmL_map_set (ds : List Nd) (i : Nat) (d : Nd) (h : nmT d.t = true) (hl : nmL (ds.map Nd.t) = true) : nmL ((ds.set i d).map Nd.t) = true := by
  rw [nmL_all] at hl ⊢
  rw [List.all_eq_true] at hl ⊢
  intro x hx
  obtain ⟨e, he, rfl⟩ := List.mem_map.1 hx
  rcases List.mem_or_eq_of_mem_set he with he | rfl
  · exact hl _ (List.mem_map_of_mem he)
  · exact h
end
end Go.Proofs.YtajefkjcfmfjkaaDoor
namespace Go.Proofs.YtajefkjcfmfjkaaDoor
section
set_option linter.unusedVariables false
set_option linter.unusedSimpArgs false
set_option linter.deprecated false
open Go.RowKit Go.Proofs.YtajefkjcfmfjkaaDoorW.PrintWords Go.Proofs.YtajefkjcfmfjkaaDoor.POperatorResolves
set_option linter.unusedVariables false
theorem ndCs_one (ds : List Nd) : ∀ u ∈ ndCs ds, u.oneCell' = true := by
  induction ds with
  | nil => simp [ndCs]
  | cons d ds ih =>
    intro u hu
    rw [ndCs] at hu
    rcases List.mem_append.1 hu with hu | hu
    · simp only [Nd.cs, List.mem_cons, List.not_mem_nil, or_false] at hu
      rcases hu with rfl | rfl | rfl | rfl <;> rfl
    · exact ih u hu
theorem copy_run (W : World) (ty n c : Nat) (A : Option Addr) (ds : List Nd) (hl : ds.length = n) (hn : n ≤ 100000000) (hc : 0 < n → ∃ ad, A = some ad ∧ ∀ j u, (ndCs ds)[j]? = some u → W.cell? (ad.add j) = some u) :
    ∃ v1 w1, (Builtin.append_ #[40, 40] ty #[.slice none 0 0, .slice A n c]).run Tryd.prog W = .ok v1 w1 ∧ w1.ownsRow W.heap.size 42 4 v1 n (ndCs ds) ∧ W.grownBy w1 none ∧ (v1.ownBlock = none ∨ v1.ownBlock = some W.heap.size) := by
  obtain ⟨i0, hi, hz0, hz1, hz2⟩ := info_parts info42
  have HO : W.ownsRow W.heap.size 42 4 (.slice none 0 0) 0 [] := ⟨rfl, .inl ⟨rfl, rfl⟩⟩
  rcases A with _ | ad
  · have hn0 : n = 0 := by
      rcases Nat.eq_zero_or_pos n with h | h
      · exact h
      · obtain ⟨ad, h, _⟩ := hc h
        cases h
    obtain rfl : ds = [] := List.eq_nil_of_length_eq_zero (by omega)
    subst hn0
    refine ⟨.slice none 0 0, W, ?_, HO, World.grownBy.refl W _, .inl rfl⟩
    simp [Builtin.append_, run_underlying Tryd.underlying40, sizeOf, typeInfo, hi, Builtin.lenOf, Builtin.firstCells]
  · have hcells : ∀ j u, (ndCs ds)[j]? = some u → W.cell? (ad.add j) = some u := by
      intro j u hu
      have hp : 0 < n := by
        have := (List.getElem?_eq_some_iff.1 hu).1
        rw [ndCs_len] at this
        omega
      obtain ⟨ad', h', hh⟩ := hc hp
      obtain rfl := Option.some.inj h'
      exact hh j u hu
    obtain ⟨v1, w1, hr, h2, h3, _, h5⟩ := run_append_own_at (P := Tryd.prog) W W.heap.size 40 ty 42 i0 _ 4 _ Tryd.underlying40 hi hz0 hz1 hz2 rfl (by decide) (.slice none 0 0) 0 [] HO ad n c (ndCs ds) (by rw [ndCs_len, hl]) hcells (ndCs_one ds) (by simp only [maxLen]; omega) (by omega) (Nat.le_refl _)
    rw [Nat.zero_add, List.nil_append] at h2
    exact ⟨v1, w1, hr, h2, h3, h5⟩
section
variable {ops : Array Oper} {o : Oper} {a : Act} {Q : Exit → Act → World → Prop} {K : Act → World → Prop} {W : World}
/-- the copy, in a region that draws its order -/
theorem ts_copy (hw : Region.wanted o (yielded ops a.tmps) = true) (s x : Operand) (ho : o.op = .call { callee := .builtin .append, args := #[s, x], argTypes := #[40, 40] }) (n c : Nat) (A : Option Addr) (ds : List Nd) (hs : a.eval s = .slice none 0 0) (hx : a.eval x = .slice A n c)
    (hl : ds.length = n) (hn : n ≤ 100000000) (hc : 0 < n → ∃ ad, A = some ad ∧ ∀ j u, (ndCs ds)[j]? = some u → W.cell? (ad.add j) = some u)
    (h : ∀ v1 w1, w1.ownsRow W.heap.size 42 4 v1 n (ndCs ds) → W.grownBy w1 none → (v1.ownBlock = none ∨ v1.ownBlock = some W.heap.size) → K (a.put o.dst v1) w1) :
    if Region.wanted o (yielded ops a.tmps) = true then Oper.wp Tryd.prog o a W K Q else K (a.put o.dst undef) W := by
  obtain ⟨v1, w1, hr, h2, h3, h4⟩ := copy_run W o.type n c A ds hl hn hc
  rw [if_pos hw]
  unfold Oper.wp execOp
  simp only [ho, resolve, invoke, builtin, Sem.run_bind, Sem.run_pure, Result.andThen_ok, List.map_toArray, List.map_cons, List.map_nil, hs, hx, hr]
  exact h v1 w1 h2 h3 h4
end
end
end Go.Proofs.YtajefkjcfmfjkaaDoor
namespace Go.Proofs.YtajefkjcfmfjkaaDoor
section
set_option linter.unusedVariables false
set_option linter.unusedSimpArgs false
set_option linter.deprecated false
open Go.RowKit Go.Proofs.YtajefkjcfmfjkaaDoorW.PrintWords Go.Proofs.YtajefkjcfmfjkaaDoor.POperatorResolves
set_option linter.unusedVariables false
inductive RowF (P : Nat → Prop) (w : World) : Option Addr → List S42 → Prop
  | mk (A : Option Addr) (ds : List Nd) (hl : ds.length ≤ 9223372036854775807)
      (hc : 0 < ds.length → ∃ ad, A = some ad ∧ P ad.block ∧ ∀ j u, (ndCs ds)[j]? = some u → w.cell? (ad.add j) = some u)
      (hk : ∀ d ∈ ds, d.t.f3.length ≤ d.c) (hr : ∀ d ∈ ds, RowF P w d.A d.t.f3) : RowF P w A (ds.map Nd.t)
theorem RowF.inv {P : Nat → Prop} {w : World} {A : Option Addr} {l : List S42} (h : RowF P w A l) :
    ∃ ds : List Nd, ds.map Nd.t = l ∧ ds.length ≤ 9223372036854775807 ∧ (0 < ds.length → ∃ ad, A = some ad ∧ P ad.block ∧ ∀ j u, (ndCs ds)[j]? = some u → w.cell? (ad.add j) = some u) ∧ ∀ d ∈ ds, d.t.f3.length ≤ d.c ∧ RowF P w d.A d.t.f3 := by
  cases h with
  | mk A ds hl hc hk hr => exact ⟨ds, rfl, hl, hc, fun d hd => ⟨hk d hd, hr d hd⟩⟩
theorem add_block (a : Addr) (j : Nat) : (a.add j).block = a.block := by unfold Addr.add; split <;> rfl
theorem cell_heap {w w' : World} {a : Addr} (h : w'.heap[a.block]? = w.heap[a.block]?) : w'.cell? a = w.cell? a := by unfold World.cell?; rw [h]
theorem RowF.nil (P : Nat → Prop) (w : World) (A : Option Addr) : RowF P w A [] := RowF.mk A [] (by simp) (fun h => absurd h (by simp)) (by simp) (by simp)
theorem ndCs_ne {ds : List Nd} (h : 0 < ds.length) : ∃ u, (ndCs ds)[0]? = some u := by
  have : 0 < (ndCs ds).length := by rw [ndCs_len]; omega
  exact ⟨_, List.getElem?_eq_getElem this⟩
theorem RowF.step {P : Nat → Prop} {w w' : World} {A : Option Addr} {l : List S42} (h : RowF P w A l) (hk : ∀ k, P k → k < w.heap.size → w'.heap[k]? = w.heap[k]?) : RowF P w' A l := by
  induction h with
  | mk A ds hl hc hk' hr ih =>
    refine RowF.mk A ds hl (fun hp => ?_) hk' ih
    obtain ⟨ad, e, hP, hh⟩ := hc hp
    obtain ⟨u0, h0⟩ := ndCs_ne hp
    have hlt := World.block_lt_of_cell? w _ (hh 0 u0 h0)
    rw [add_block] at hlt
    refine ⟨ad, e, hP, fun j u hu => ?_⟩
    rw [cell_heap (w := w) (by rw [add_block]; exact hk _ hP hlt)]
    exact hh j u hu
theorem RowF.mono {P Q : Nat → Prop} {w : World} {A : Option Addr} {l : List S42} (h : RowF P w A l) (hPQ : ∀ k, P k → Q k) : RowF Q w A l := by
  induction h with
  | mk A ds hl hc hk hr ih =>
    refine RowF.mk A ds hl (fun hp => ?_) hk ih
    obtain ⟨ad, e, hP, hh⟩ := hc hp
    exact ⟨ad, e, hPQ _ hP, hh⟩
theorem nd_toC {w : World} {ad : Addr} {ds : List Nd} (hok : ∀ d ∈ ds, d.ok w) (hl : ds.length ≤ 9223372036854775807) (hc : ∀ j u, (ndCs ds)[j]? = some u → w.cell? (ad.add j) = some u) :
    Kd.C k42 w (some ad) (ds.map Nd.t).length (ds.map Nd.t) := by
  refine ⟨rfl, by rw [List.length_map]; omega, fun _ => ⟨_, rfl, fun j p hj => ?_⟩⟩
  rw [List.getElem?_map] at hj
  obtain ⟨d, hd, rfl⟩ := Option.map_eq_some_iff.1 hj
  have hm := List.mem_of_getElem? hd
  refine ⟨_, rfl, k42_mk w d.t (hok d hm).1 (hok d hm).2, fun i u hu => ?_⟩
  have hi : i < 4 := by have := (List.getElem?_eq_some_iff.1 hu).1; simpa using this
  have h7 := ndCs_get ds j d hd i hi
  exact hc (j * 4 + i) u (h7.trans hu)
theorem RowF.toC {P : Nat → Prop} {w : World} {A : Option Addr} {l : List S42} (h : RowF P w A l) : Kd.C k42 w A l.length l := by
  induction h with
  | mk A ds hl hc hk hr ih =>
    rcases Nat.eq_zero_or_pos ds.length with h0 | hp
    · obtain rfl : ds = [] := List.eq_nil_of_length_eq_zero h0
      exact ⟨rfl, by simp, fun h => absurd h (by simp)⟩
    · obtain ⟨ad, rfl, _, hh⟩ := hc hp
      exact nd_toC (fun d hd => ⟨hk d hd, ih d hd⟩) hl hh
theorem RowF.ofC (w : World) (i : Nat) : ∀ (A : Option Addr) (l : List S42), szL l ≤ i → Kd.C k42 w A l.length l → RowF (fun k => k < w.heap.size) w A l := by
  induction i with
  | zero =>
    intro A l h hC
    have := szL_len l
    obtain rfl : l = [] := List.eq_nil_of_length_eq_zero (by omega)
    exact RowF.nil _ _ _
  | succ i ih =>
    intro A l h hC
    obtain ⟨ds, rfl, hok, hc⟩ := nd_of hC
    have hl : ds.length ≤ 9223372036854775807 := by have := hC.2.1; rw [List.length_map] at this; exact this
    refine RowF.mk A ds hl (fun hp => ?_) (fun d hd => (hok d hd).1) (fun d hd => ?_)
    · obtain ⟨ad, e, hh⟩ := hc (by rw [List.length_map]; exact hp)
      obtain ⟨u0, h0⟩ := ndCs_ne hp
      have hlt := World.block_lt_of_cell? w _ (hh 0 u0 h0)
      rw [add_block] at hlt
      exact ⟨ad, e, hlt, hh⟩
    · have h1 := szL_mem (List.mem_map_of_mem (f := Nd.t) hd)
      have h2 := szT_eq d.t
      exact ih d.A d.t.f3 (by omega) (hok d hd).2
theorem RowF.keep {P : Nat → Prop} {w w' : World} {A : Option Addr} {l : List S42} (h : RowF P w A l) (hb : Below w.heap.size w w') : RowF P w' A l := h.step fun k _ hk => hb.block k hk
/-- a row of its own is such a row -/
theorem own_rowF {Q : Nat → Prop} {base n c : Nat} {w : World} {A : Option Addr} {ds : List Nd} (h : w.ownsRow base 42 4 (.slice A n c) n (ndCs ds)) (hl : ds.length = n) (hb : ∀ k, base ≤ k → Q k) (hn : n ≤ 1000000) (hok : ∀ d ∈ ds, d.t.f3.length ≤ d.c ∧ RowF Q w d.A d.t.f3) :
    RowF Q w A (ds.map Nd.t) ∧ n ≤ c := by
  obtain ⟨_, ⟨hv, h0⟩ | ⟨g, cap, cur, hv, h1, h2, h3, _, h4, h5⟩⟩ := h
  · injection hv with e1 e2 e3
    subst e1 e2 e3
    obtain rfl : ds = [] := List.eq_nil_of_length_eq_zero (by omega)
    exact ⟨RowF.nil _ _ _, Nat.le_refl _⟩
  · injection hv with e1 e2 e3
    subst e1 e3
    refine ⟨RowF.mk _ ds (by omega) (fun _ => ⟨_, rfl, hb g h1, fun j u hu => ?_⟩) (fun d hd => (hok d hd).1) (fun d hd => (hok d hd).2), h3⟩
    have hj : j < n * 4 := by
      have := (List.getElem?_eq_some_iff.1 hu).1
      rw [ndCs_len, hl] at this
      exact this
    rw [add_plain, blk_cell h2 j, take_get h5 hj]
    exact hu
/-- the same without its first element -/
theorem drop_rowF {Q : Nat → Prop} {base n c : Nat} {w : World} {A : Option Addr} {ds : List Nd} (h : w.ownsRow base 42 4 (.slice A n c) n (ndCs ds)) (hl : ds.length = n) (hb : ∀ k, base ≤ k → Q k) (hn : n ≤ 1000000) (hok : ∀ d ∈ ds, d.t.f3.length ≤ d.c ∧ RowF Q w d.A d.t.f3) :
    RowF Q w (A.map fun x => ⟨x.block, x.off + 4, none⟩) ((ds.drop 1).map Nd.t) := by
  obtain ⟨_, ⟨hv, h0⟩ | ⟨g, cap, cur, hv, h1, h2, h3, _, h4, h5⟩⟩ := h
  · injection hv with e1 e2 e3
    subst e1 e2 e3
    obtain rfl : ds = [] := List.eq_nil_of_length_eq_zero (by omega)
    exact RowF.nil _ _ _
  · injection hv with e1 e2 e3
    subst e1 e3
    refine RowF.mk _ (ds.drop 1) (by rw [List.length_drop]; omega) (fun _ => ⟨_, rfl, hb g h1, fun j u hu => ?_⟩) (fun d hd => (hok d (List.mem_of_mem_drop hd)).1) (fun d hd => (hok d (List.mem_of_mem_drop hd)).2)
    rw [nd_drop, List.getElem?_drop] at hu
    have hj : 4 + j < n * 4 := by
      have := (List.getElem?_eq_some_iff.1 hu).1
      rw [ndCs_len, hl] at this
      exact this
    have e : (⟨g, 0 + 4, none⟩ : Addr).add j = ⟨g, 4 + j, none⟩ := by rw [Addr.add_plain2]
    rw [e, blk_cell h2, take_get h5 hj]
    exact hu
end
end Go.Proofs.YtajefkjcfmfjkaaDoor
namespace Go.Proofs.YtajefkjcfmfjkaaDoor
section
set_option linter.unusedVariables false
set_option linter.unusedSimpArgs false
set_option linter.deprecated false
open Go.RowKit Go.Proofs.YtajefkjcfmfjkaaDoorW.PrintWords Go.Proofs.YtajefkjcfmfjkaaDoor.POperatorResolves
set_option linter.unusedVariables false
attribute [local go_sem ↓] Go.wp_at_zero Go.wp_at_succ
theorem cells4h {w : World} {b : Nat} {c0 c1 c2 c3 : Value} (h : w.heap[b]? = some (.cells #[c0, c1, c2, c3] 42 (0, 0))) :
    w.cell? ⟨b, 0, none⟩ = some c0 ∧ w.cell? ⟨b, 1, none⟩ = some c1 ∧ w.cell? ⟨b, 2, none⟩ = some c2 ∧ w.cell? ⟨b, 3, none⟩ = some c3 :=
  ⟨(blk_cell h 0).trans rfl, (blk_cell h 1).trans rfl, (blk_cell h 2).trans rfl, (blk_cell h 3).trans rfl⟩
theorem set4_blk {w : World} {b b' : Nat} {cs : Array Value} {ty : TypeId} (h : w.heap[b]? = some (.cells cs ty (0, 0))) (hne : b ≠ b') (v0 v1 v2 v3 : Value) :
    ((((w.setCell ⟨b', 0, none⟩ v0).setCell ⟨b', 1, none⟩ v1).setCell ⟨b', 2, none⟩ v2).setCell ⟨b', 3, none⟩ v3).heap[b]? = some (.cells cs ty (0, 0)) :=
  blk_far (blk_far (blk_far (blk_far h hne _) hne _) hne _) hne _
theorem cut_ex (x n : Int) (w : World) (h0 : 0 < n) (h1 : n ≤ 1000000) : Calls Tryd.prog 27 #[.int .i64 x, .int .i64 n] w fun e w' => ∃ r : Nat, (r : Int) < n ∧ e = .returned (.int .i64 r) ∧ w = w' := by
  obtain ⟨m, rfl⟩ := Int.eq_ofNat_of_zero_le (Int.le_of_lt h0)
  refine (cut_any x m w (by omega) (by omega)).mono ?_
  rintro e w' ⟨rfl, rfl⟩
  exact ⟨_, by have := cutN_lt x (n := m) (by omega); omega, rfl, rfl⟩
def SpPost (t : S42) (P : Nat → Prop) (W : World) (e : Ending) (w' : World) : Prop :=
  ∃ (t' : S42) (A : Option Addr) (c : Nat), e = .returned (.agg #[.int .i64 t'.f0, .string t'.f1, .int .i64 t'.f2, .slice A t'.f3.length c]) ∧ nmT t' = true ∧ szT t' ≤ szT t + 1 ∧ t'.f3.length ≤ c ∧ RowF (fun k => P k ∨ W.heap.size ≤ k) w' A t'.f3 ∧ Below W.heap.size W w'
def MidP (t : S42) (W : World) (ds : List Nd) (s7 : Value) (wx : World) : Prop :=
  ∃ b v1, s7 = .pointer (some ⟨b, 0, none⟩) ∧ W.heap.size + 2 ≤ b ∧ wx.heap[b]? = some (.cells #[.int .i64 t.f0, .string t.f1, .int .i64 t.f2, v1] 42 (0, 0)) ∧ wx.ownsRow (W.heap.size + 2) 42 4 v1 t.f3.length (ndCs ds) ∧ v1.ownBlock ≠ some b ∧ Below W.heap.size W wx ∧
    wx.heap[W.heap.size + 1]? = some (.cells #[.int .i64 0, .string ⟨#[]⟩, .int .i64 0, .slice none 0 0] 42 (0, 0))
theorem own_set4 {w : World} {b base n : Nat} {v : Value} {xs : List Value} (h : w.ownsRow base 42 4 v n xs) (hne : v.ownBlock ≠ some b) (v0 v1 v2 v3 : Value) :
    ((((w.setCell ⟨b, 0, none⟩ v0).setCell ⟨b, 1, none⟩ v1).setCell ⟨b, 2, none⟩ v2).setCell ⟨b, 3, none⟩ v3).ownsRow base 42 4 v n xs :=
  own_setCell (own_setCell (own_setCell (own_setCell h (p := ⟨b, 0, none⟩) (fun e => hne e.symm) _) (p := ⟨b, 1, none⟩) (fun e => hne e.symm) _) (p := ⟨b, 2, none⟩) (fun e => hne e.symm) _) (p := ⟨b, 3, none⟩) (fun e => hne e.symm) _
theorem below_set4 {B : Nat} {a w : World} {b : Nat} (h : Below B a w) (hb : B ≤ b) (v0 v1 v2 v3 : Value) :
    Below B a ((((w.setCell ⟨b, 0, none⟩ v0).setCell ⟨b, 1, none⟩ v1).setCell ⟨b, 2, none⟩ v2).setCell ⟨b, 3, none⟩ v3) :=
  (((h.setCell (p := ⟨b, 0, none⟩) hb _).setCell (p := ⟨b, 1, none⟩) hb _).setCell (p := ⟨b, 2, none⟩) hb _).setCell (p := ⟨b, 3, none⟩) hb _
theorem mid_mk {t : S42} {W w2 : World} {ds : List Nd} {b : Nat} {v1 z0 z1 z2 z3 : Value} (hb : W.heap.size + 2 ≤ b) (hbox : w2.heap[b]? = some (.cells #[z0, z1, z2, z3] 42 (0, 0))) (ho : w2.ownsRow (W.heap.size + 2) 42 4 v1 t.f3.length (ndCs ds)) (hne : v1.ownBlock ≠ some b) (hB : Below W.heap.size W w2)
    (hz : w2.heap[W.heap.size + 1]? = some (.cells #[.int .i64 0, .string ⟨#[]⟩, .int .i64 0, .slice none 0 0] 42 (0, 0))) :
    MidP t W ds (.pointer (some ⟨b, 0, none⟩)) ((((w2.setCell ⟨b, 0, none⟩ (.int .i64 t.f0)).setCell ⟨b, 1, none⟩ (.string t.f1)).setCell ⟨b, 2, none⟩ (.int .i64 t.f2)).setCell ⟨b, 3, none⟩ v1) :=
  ⟨b, v1, rfl, hb, box_set4 hbox _ _ _ _, own_set4 ho hne _ _ _ _, hne, below_set4 hB (by omega) _ _ _ _, set4_blk hz (by omega) _ _ _ _⟩
/-- a tree in the box b, ready to be handed out -/
def EndP (t : S42) (P : Nat → Prop) (W : World) (b : Nat) (wx : World) : Prop :=
  ∃ (k o : Int) (n : ByteArray) (l : List S42) (A : Option Addr) (c : Nat), wx.heap[b]? = some (.cells #[.int .i64 k, .string n, .int .i64 o, .slice A l.length c] 42 (0, 0)) ∧ n.size ≤ 64 ∧ nmL l = true ∧ szL l ≤ szL t.f3 + 1 ∧ l.length ≤ c ∧
    RowF (fun k => P k ∨ W.heap.size + 2 ≤ k) wx A l ∧ Below W.heap.size W wx ∧
    wx.heap[W.heap.size + 1]? = some (.cells #[.int .i64 0, .string ⟨#[]⟩, .int .i64 0, .slice none 0 0] 42 (0, 0))
/-- behind the last store, into the box of the result -/
theorem row_end {P : Nat → Prop} {W wx : World} {A : Option Addr} {l : List S42} (hP : ∀ k, P k → k < W.heap.size) (h : RowF (fun k => P k ∨ W.heap.size + 2 ≤ k) wx A l) (v0 v1 v2 v3 : Value) :
    RowF (fun k => P k ∨ W.heap.size ≤ k) ((((wx.setCell ⟨W.heap.size + 1, 0, none⟩ v0).setCell ⟨W.heap.size + 1, 1, none⟩ v1).setCell ⟨W.heap.size + 1, 2, none⟩ v2).setCell ⟨W.heap.size + 1, 3, none⟩ v3) A l := by
  refine (h.step fun k hk _ => ?_).mono fun k hk => hk.imp id (by omega)
  have hne : k ≠ W.heap.size + 1 := by
    rcases hk with hk | hk
    · have := hP k hk; omega
    · omega
  exact (Below.heap_setCell _ ⟨W.heap.size + 1, 3, none⟩ v3 k hne).trans ((Below.heap_setCell _ ⟨W.heap.size + 1, 2, none⟩ v2 k hne).trans ((Below.heap_setCell _ ⟨W.heap.size + 1, 1, none⟩ v1 k hne).trans (Below.heap_setCell _ ⟨W.heap.size + 1, 0, none⟩ v0 k hne)))
def OkF (P : Nat → Prop) (W : World) (ds : List Nd) : Prop := ∀ d ∈ ds, d.t.f3.length ≤ d.c ∧ RowF P W d.A d.t.f3
theorem OkF.later {P : Nat → Prop} {W wx : World} {ds : List Nd} (h : OkF P W ds) (hB : Below W.heap.size W wx) : ∀ d ∈ ds, d.t.f3.length ≤ d.c ∧ RowF (fun k => P k ∨ W.heap.size + 2 ≤ k) wx d.A d.t.f3 :=
  fun d hd => ⟨(h d hd).1, ((h d hd).2.keep hB).mono fun k hk => .inl hk⟩
theorem end_own {t : S42} {P : Nat → Prop} {W wx : World} {b m c : Nat} {k o : Int} {n : ByteArray} {A : Option Addr} {ds : List Nd} (hok : OkF P W ds) (hbx : wx.heap[b]? = some (.cells #[.int .i64 k, .string n, .int .i64 o, .slice A m c] 42 (0, 0)))
    (ho : wx.ownsRow (W.heap.size + 2) 42 4 (.slice A m c) m (ndCs ds)) (hl : ds.length = m) (hn : n.size ≤ 64) (hnm : nmL (ds.map Nd.t) = true) (hsz : szL (ds.map Nd.t) ≤ szL t.f3 + 1) (hm : m ≤ 1000000) (hB : Below W.heap.size W wx)
    (hz : wx.heap[W.heap.size + 1]? = some (.cells #[.int .i64 0, .string ⟨#[]⟩, .int .i64 0, .slice none 0 0] 42 (0, 0))) : EndP t P W b wx := by
  have e : (ds.map Nd.t).length = m := by rw [List.length_map, hl]
  refine ⟨k, o, n, ds.map Nd.t, A, c, by rw [e]; exact hbx, hn, hnm, hsz, ?_, ?_, hB, hz⟩
  · rw [e]; exact own_le ho
  · exact (own_rowF ho hl (fun k hk => .inr hk) hm (hok.later hB)).1
theorem own_ne1 {w : World} {base n b : Nat} {v : Value} {xs : List Value} (h : w.ownsRow base 42 4 v n xs) (hb : b < base) : v.ownBlock ≠ some b := fun e => by have := own_base h _ e; omega
theorem szL_app (a b : List S42) : szL (a ++ b) = szL a + szL b := by
  induction a with
  | nil => simp [szL]
  | cons x xs ih => rw [List.cons_append, szL, szL, ih]; omega
theorem end_drop {t : S42} {P : Nat → Prop} {W wx : World} {b m c c' : Nat} {k o : Int} {n : ByteArray} {A A' : Option Addr} {ds : List Nd} (ht : ds.map Nd.t = t.f3) (hok : OkF P W ds) (hbx : wx.heap[b]? = some (.cells #[.int .i64 k, .string n, .int .i64 o, .slice A' (m - 1) c'] 42 (0, 0)))
    (ho : wx.ownsRow (W.heap.size + 2) 42 4 (.slice A m c) m (ndCs ds)) (hl : ds.length = m) (hc' : m - 1 ≤ c') (hA : A' = (A.map fun x => ⟨x.block, x.off + 4, none⟩) ∨ m - 1 = 0) (hn : n.size ≤ 64) (hnm : nmL t.f3 = true) (hm : m ≤ 1000000) (hB : Below W.heap.size W wx)
    (hz : wx.heap[W.heap.size + 1]? = some (.cells #[.int .i64 0, .string ⟨#[]⟩, .int .i64 0, .slice none 0 0] 42 (0, 0))) : EndP t P W b wx := by
  have e : ((ds.drop 1).map Nd.t).length = m - 1 := by rw [List.length_map, List.length_drop, hl]
  have e2 : (ds.drop 1).map Nd.t = t.f3.drop 1 := by rw [List.map_drop, ht]
  refine ⟨k, o, n, (ds.drop 1).map Nd.t, A', c', by rw [e]; exact hbx, hn, ?_, ?_, by rw [e]; exact hc', ?_, hB, hz⟩
  · rw [e2, nmL_all]
    rw [nmL_all, List.all_eq_true] at hnm
    exact List.all_eq_true.2 fun x hx => hnm x (List.mem_of_mem_drop hx)
  · rw [e2]
    cases t.f3 with
    | nil => simp [szL]
    | cons x xs => simp only [List.drop_one, List.tail_cons, szL]; omega
  · have hf := drop_rowF (Q := fun k => P k ∨ W.heap.size + 2 ≤ k) ho hl (fun k hk => .inr hk) hm (hok.later hB)
    rcases hA with rfl | hA
    · exact hf
    · have : (ds.drop 1).map Nd.t = [] := List.eq_nil_of_length_eq_zero (by omega)
      rw [this]
      exact RowF.nil _ _ _
theorem ndCs_set (ds : List Nd) (j : Nat) (hj : j < ds.length) (d : Nd) (c0 c1 c2 c3 : Value) (hd : d.cs = [c0, c1, c2, c3]) :
    ((((ndCs ds).set (j * 4) c0).set (j * 4 + 1) c1).set (j * 4 + 2) c2).set (j * 4 + 3) c3 = ndCs (ds.set j d) := by
  induction ds generalizing j with
  | nil => simp at hj
  | cons e es ih =>
    cases j with
    | zero => rw [List.set_cons_zero, ndCs, ndCs, hd]; rfl
    | succ j =>
      rw [List.set_cons_succ, ndCs, ndCs, ← ih j (by simpa using hj)]
      have e1 : (j + 1) * 4 = j * 4 + 4 := by omega
      simp only [Nd.cs, e1, List.cons_append, List.nil_append, List.set_cons_succ]
theorem own_put4 {w : World} {base g n cap j : Nat} {ds : List Nd} (h : w.ownsRow base 42 4 (.slice (some ⟨g, 0, none⟩) n cap) n (ndCs ds)) (hj : j < ds.length) (d : Nd) :
    ((((w.setCell ⟨g, j * 4, none⟩ (.int .i64 d.t.f0)).setCell ⟨g, j * 4 + 1, none⟩ (.string d.t.f1)).setCell ⟨g, j * 4 + 2, none⟩ (.int .i64 d.t.f2)).setCell ⟨g, j * 4 + 3, none⟩ (.slice d.A d.t.f3.length d.c)).ownsRow base 42 4 (.slice (some ⟨g, 0, none⟩) n cap) n (ndCs (ds.set j d)) := by
  rw [← ndCs_set ds j hj d _ _ _ _ rfl]
  exact ((((h.stored (j * 4) _).1.stored (j * 4 + 1) _).1.stored (j * 4 + 2) _).1.stored (j * 4 + 3) _).1
theorem put4_blk {w : World} {b g o0 o1 o2 o3 : Nat} {cs : Array Value} {ty : TypeId} (h : w.heap[b]? = some (.cells cs ty (0, 0))) (hne : b ≠ g) (v0 v1 v2 v3 : Value) :
    ((((w.setCell ⟨g, o0, none⟩ v0).setCell ⟨g, o1, none⟩ v1).setCell ⟨g, o2, none⟩ v2).setCell ⟨g, o3, none⟩ v3).heap[b]? = some (.cells cs ty (0, 0)) :=
  blk_far (blk_far (blk_far (blk_far h hne _) hne _) hne _) hne _
theorem put4_below {B : Nat} {a w : World} {g o0 o1 o2 o3 : Nat} (h : Below B a w) (hb : B ≤ g) (v0 v1 v2 v3 : Value) :
    Below B a ((((w.setCell ⟨g, o0, none⟩ v0).setCell ⟨g, o1, none⟩ v1).setCell ⟨g, o2, none⟩ v2).setCell ⟨g, o3, none⟩ v3) :=
  (((h.setCell (p := ⟨g, o0, none⟩) hb _).setCell (p := ⟨g, o1, none⟩) hb _).setCell (p := ⟨g, o2, none⟩) hb _).setCell (p := ⟨g, o3, none⟩) hb _
theorem put4_keep {w : World} {g o0 o1 o2 o3 k : Nat} (hne : k ≠ g) (v0 v1 v2 v3 : Value) :
    ((((w.setCell ⟨g, o0, none⟩ v0).setCell ⟨g, o1, none⟩ v1).setCell ⟨g, o2, none⟩ v2).setCell ⟨g, o3, none⟩ v3).heap[k]? = w.heap[k]? :=
  (Below.heap_setCell _ ⟨g, o3, none⟩ v3 k hne).trans ((Below.heap_setCell _ ⟨g, o2, none⟩ v2 k hne).trans ((Below.heap_setCell _ ⟨g, o1, none⟩ v1 k hne).trans (Below.heap_setCell _ ⟨g, o0, none⟩ v0 k hne)))
/-- behind the call on a child and the store of what it gave -/
theorem end_set {t : S42} {P : Nat → Prop} {W wx : World} {b g j m c : Nat} {k o : Int} {n : ByteArray} {ds : List Nd} {d d2 : Nd} (ht : ds.map Nd.t = t.f3) (hok : OkF P W ds) (hd : ds[j]? = some d)
    (hbx : wx.heap[b]? = some (.cells #[.int .i64 k, .string n, .int .i64 o, .slice (some ⟨g, 0, none⟩) m c] 42 (0, 0)))
    (ho : wx.ownsRow (W.heap.size + 2) 42 4 (.slice (some ⟨g, 0, none⟩) m c) m (ndCs (ds.set j d2))) (hl : ds.length = m) (hn : n.size ≤ 64) (hnm : nmL t.f3 = true) (hm : m ≤ 1000000) (hB : Below W.heap.size W wx)
    (hz : wx.heap[W.heap.size + 1]? = some (.cells #[.int .i64 0, .string ⟨#[]⟩, .int .i64 0, .slice none 0 0] 42 (0, 0)))
    (hn2 : nmT d2.t = true) (hs2 : szT d2.t ≤ szT d.t + 1) (hc2 : d2.t.f3.length ≤ d2.c) (hf2 : RowF (fun k => P k ∨ W.heap.size + 2 ≤ k) wx d2.A d2.t.f3) : EndP t P W b wx := by
  have hj : j < ds.length := (List.getElem?_eq_some_iff.1 hd).1
  have hdj : ds[j] = d := (List.getElem?_eq_some_iff.1 hd).2
  have e : ((ds.set j d2).map Nd.t).length = m := by rw [List.length_map, List.length_set, hl]
  refine ⟨k, o, n, (ds.set j d2).map Nd.t, some ⟨g, 0, none⟩, c, by rw [e]; exact hbx, hn, nmL_map_set ds j d2 hn2 (by rw [ht]; exact hnm), ?_, ?_, ?_, hB, hz⟩
  · have := szL_map_set ds j d2 hj (by rw [hdj]; exact hs2)
    rw [ht] at this
    exact this
  · rw [e]; exact own_le ho
  · refine (own_rowF ho (by rw [List.length_set, hl]) (fun k hk => .inr hk) hm (fun x hx => ?_)).1
    rcases List.mem_or_eq_of_mem_set hx with hx | rfl
    · exact hok.later hB x hx
    · exact ⟨hc2, hf2⟩
set_option maxHeartbeats 4000000 in
set_option maxRecDepth 100000 in
theorem spoil_one (p q : Int) (t : S42) (A : Option Addr) (c : Nat) (P : Nat → Prop) (W : World) (hn : nmT t = true) (hsz : szT t ≤ 1000000) (hr0 : RowF P W A t.f3) (hP : ∀ k, P k → k < W.heap.size) (hc : t.f3.length ≤ c) (hw : WdAt W)
    (HI : ∀ x ∈ t.f3, ∀ (p q : Int) (A : Option Addr) (c : Nat) (W : World), nmT x = true → RowF P W A x.f3 → (∀ k, P k → k < W.heap.size) → x.f3.length ≤ c → WdAt W → Calls Tryd.prog 48 #[.agg #[.int .i64 x.f0, .string x.f1, .int .i64 x.f2, .slice A x.f3.length c], .int .i64 p, .int .i64 q] W (SpPost x P W)) :
    Calls Tryd.prog 48 #[.agg #[.int .i64 t.f0, .string t.f1, .int .i64 t.f2, .slice A t.f3.length c], .int .i64 p, .int .i64 q] W (SpPost t P W) := by
  have hu42 := Tryd.underlying42
  have HI1 := Aside0.mk HI
  clear HI
  obtain ⟨ds, hd1, _, hd3, hd2⟩ := hr0.inv
  have hll := szL_len t.f3
  rw [szT_eq] at hsz
  have HD : Aside0 (ds.length = t.f3.length) := ⟨by rw [← hd1, List.length_map]⟩
  have HN : Aside0 (t.f3.length ≤ 1000000) := ⟨by omega⟩
  have HC3 := Aside0.mk hd3
  have HD1 := Aside0.mk hd1
  have HD2 : Aside0 (OkF P W ds) := ⟨hd2⟩
  have HPW := Aside0.mk hP
  have HSZ := Aside0.mk hsz
  have HW := Aside0.mk hw
  have HNM := Aside0.mk hn
  have B0 : Aside0 ((W.alloc (.cells #[.int .i64 t.f0, .string t.f1, .int .i64 t.f2, .slice A t.f3.length c] 42)).heap[W.heap.size]? = some (.cells #[.int .i64 t.f0, .string t.f1, .int .i64 t.f2, .slice A t.f3.length c] 42 (0, 0))) := ⟨heap_alloc_new _ _⟩
  have CI : Aside0 (∀ (x n : Int) (w : World), 0 < n → n ≤ 1000000 → Calls Tryd.prog 27 #[.int .i64 x, .int .i64 n] w fun e w' => ∃ r : Nat, (r : Int) < n ∧ e = .returned (.int .i64 r) ∧ w = w') := ⟨fun x n w a b => cut_ex x n w a b⟩
  have CZ : Aside0 (∀ (x n : Int) (w : World), 0 < n → n ≤ 1000000 → Calls Tryd.prog 27 #[.int .i64 x, .int .i64 n] w fun e w' => ∃ r : Int, 0 ≤ r ∧ r < n ∧ e = .returned (.int .i64 r) ∧ w = w') := ⟨fun x n w a b => (cut_ex x n w a b).mono fun e w' ⟨r, h1, h2, h3⟩ => ⟨(r : Int), by omega, h1, h2, h3⟩⟩
  clear hd3 hll hd1 hd2 hr0 hP hsz hw hn
  go_enter Tryd.func48, Tryd.ntmps48
  go_upto_region 1 with fail
  have BZ : Aside0 (((W.alloc (.cells #[.int .i64 t.f0, .string t.f1, .int .i64 t.f2, .slice A t.f3.length c] 42)).alloc (.cells #[.int .i64 0, .string ⟨#[]⟩, .int .i64 0, .slice none 0 0] 42)).heap[W.heap.size + 1]? = some (.cells #[.int .i64 0, .string ⟨#[]⟩, .int .i64 0, .slice none 0 0] 42 (0, 0))) := ⟨heap_alloc_new2 _ _ _⟩
  have BP : Aside0 (((W.alloc (.cells #[.int .i64 t.f0, .string t.f1, .int .i64 t.f2, .slice A t.f3.length c] 42)).alloc (.cells #[.int .i64 0, .string ⟨#[]⟩, .int .i64 0, .slice none 0 0] 42)).heap[W.heap.size]? = some (.cells #[.int .i64 t.f0, .string t.f1, .int .i64 t.f2, .slice A t.f3.length c] 42 (0, 0))) := ⟨blk_alloc B0.out _⟩
  have HB : Aside0 (Below W.heap.size W ((W.alloc (.cells #[.int .i64 t.f0, .string t.f1, .int .i64 t.f2, .slice A t.f3.length c] 42)).alloc (.cells #[.int .i64 0, .string ⟨#[]⟩, .int .i64 0, .slice none 0 0] 42))) := ⟨(by repeat (first | (with_reducible first | exact Below.refl _ _ | apply below_alloc | apply pw_below_drewN | apply below_drew1 | refine below_set ?_ (Nat.le_refl _)) | assumption))⟩
  have HS1 : Aside0 (((W.alloc (.cells #[.int .i64 t.f0, .string t.f1, .int .i64 t.f2, .slice A t.f3.length c] 42)).alloc (.cells #[.int .i64 0, .string ⟨#[]⟩, .int .i64 0, .slice none 0 0] 42)).heap.size = W.heap.size + 2) := ⟨by simp⟩
  clear B0
  generalize (W.alloc (.cells #[.int .i64 t.f0, .string t.f1, .int .i64 t.f2, .slice A t.f3.length c] 42)).alloc (.cells #[.int .i64 0, .string ⟨#[]⟩, .int .i64 0, .slice none 0 0] 42) = w1 at *
  go_cut [7] (fun s7 wx => MidP t W ds s7 wx)
  case first =>
    as_aux_lemma =>
      have RD : Aside0 (∀ W', Below w1.heap.size w1 W' → 0 < t.f3.length → ∃ ad, A = some ad ∧ ∀ j u, (ndCs ds)[j]? = some u → W'.cell? (ad.add j) = some u) := ⟨fun W' h hp => by
        obtain ⟨ad, e, _, hh⟩ := HC3.out (by have := HD.out; omega)
        exact ⟨ad, e, fun j u hu => pw_cell_below (below_step HB.out h) (hh j u hu)⟩⟩
      have B2 := BP
      go_region_held3 (fun W' => W'.cell? ⟨W.heap.size, 0, none⟩ = some (.int .i64 t.f0) ∧ W'.cell? ⟨W.heap.size, 1, none⟩ = some (.string t.f1) ∧ W'.cell? ⟨W.heap.size, 2, none⟩ = some (.int .i64 t.f2) ∧ W'.cell? ⟨W.heap.size, 3, none⟩ = some (.slice A t.f3.length c)) (with_reducible first | exact cells4h BP.out | exact cells4h (blk_drew BP.out) | exact cells4h (blk_alloc BP.out _) | exact cells4h (blk_drew (blk_alloc BP.out _)) | exact cells4h B2.out | exact cells4h (blk_alloc B2.out _) | exact cells4h (set4_blk (blk_alloc B2.out _) (Nat.ne_of_lt (blk_lt B2.out)) _ _ _ _) | exact cells4h (set4_blk B2.out (Nat.ne_of_lt (blk_lt BP.out)) _ _ _ _) | fail) ((refine ts_copy (by rfl) (.const (.slice none 0 0)) (.tmp 16) rfl t.f3.length c A ds rfl rfl HD.out (by have := HN.out; omega) (RD.out _ (by repeat (first | (with_reducible first | exact Below.refl _ _ | apply below_alloc | apply pw_below_drewN | apply below_drew1 | refine below_set ?_ (Nat.le_refl _)) | assumption))) ?_; intro v1 w2 ho hg hat; obtain ⟨A7, c7, ev⟩ := own_slice ho; subst ev; have B2 : Aside0 (w2.heap[W.heap.size]? = some (.cells #[.int .i64 t.f0, .string t.f1, .int .i64 t.f2, .slice A t.f3.length c] 42 (0, 0))) := ⟨(hg.block _ (by first | exact blk_lt BP.out | exact blk_lt (blk_alloc BP.out _)) (by simp)).trans (by first | exact BP.out | exact blk_alloc BP.out _)⟩; first | (have B7 : w2.heap[w1.heap.size]? = some (.cells #[.int .i64 0, .string ⟨#[]⟩, .int .i64 0, .slice none 0 0] 42 (0, 0)) := (hg.block _ (by simp) (by simp)).trans (heap_alloc_new _ _); obtain ⟨z0, z1, z2, z3⟩ := cells4h B7; have y0 := blk_frozen B7 0; have y1 := blk_frozen B7 1; have y2 := blk_frozen B7 2; have y3 := blk_frozen B7 3) | skip))
      · go_wp2_with fail
        go_meet
        case rel =>
          have e1 := HS1.out
          have hs : w1.drew.heap.size ≤ w2.heap.size := hg.size
          have e2 : w1.drew.heap.size = w1.heap.size := rfl
          have hB := pw_below_grown (below_drew HB.out) none (below_size (below_drew HB.out)) hg (by simp)
          have hz := blk_grown (blk_drew BZ.out) hg (by simp)
          have ho' := own_weaken (base' := W.heap.size + 2) ho (by omega)
          have hne : (Value.slice A7 t.f3.length c7).ownBlock ≠ some w2.heap.size := fun e => absurd (own_lt ho _ e) (by omega)
          exact ⟨w2.heap.size, _, rfl, by omega, heap_alloc_new _ _, World.ownsRow.alloc ho' _, hne, below_alloc hB _, blk_alloc hz _⟩
      · go_wp2_with fail
        go_meet
        case rel =>
          have e1 := HS1.out
          have e2 : (w1.alloc (.cells #[.int .i64 0, .string ⟨#[]⟩, .int .i64 0, .slice none 0 0] 42)).drew.heap.size = w1.heap.size + 1 := alloc_size1 w1 _
          have hB := pw_below_grown (below_drew (below_alloc HB.out _)) none (below_size (below_drew (below_alloc HB.out _))) hg (by simp)
          have hz := blk_grown (blk_drew (blk_alloc BZ.out _)) hg (by simp)
          have ho' := own_weaken (base' := W.heap.size + 2) ho (by omega)
          have hne : (Value.slice A7 t.f3.length c7).ownBlock ≠ some w1.heap.size := fun e => by
            rcases hat with h | h
            · rw [h] at e; cases e
            · rw [h, e2] at e
              have := Option.some.inj e
              omega
          with_reducible exact mid_mk (by omega) B7 ho' hne hB hz
  case rest =>
    as_aux_lemma =>
      obtain ⟨b, v1, rfl, hb2, hbx, hown, hne, hbel, hz⟩ := hcut
      obtain ⟨A7, c7, rfl⟩ := own_slice hown
      have BX := Aside0.mk hbx
      have OW := Aside0.mk hown
      have NE := Aside0.mk hne
      have BB := Aside0.mk hbel
      have ZX := Aside0.mk hz
      have HB2 := Aside0.mk hb2
      obtain ⟨c0, c1, c2, c3⟩ := cells4h hbx
      have f0 := blk_frozen hbx 0
      have f1 := blk_frozen hbx 1
      have f2 := blk_frozen hbx 2
      have f3 := blk_frozen hbx 3
      obtain ⟨z0, z1, z2, z3⟩ := cells4h hz
      have y0 := blk_frozen hz 0
      have y1 := blk_frozen hz 1
      have y2 := blk_frozen hz 2
      have y3 := blk_frozen hz 3
      clear hbx hown hne hbel hz hb2
      go_upto_block 0 with (go_at_call 27; (with_reducible refine (CZ.out _ _ _ (by have := HN.out; omega) (by have := HN.out; omega)).mono ?_); rintro e w' ⟨r, hr0, hr, rfl, rfl⟩)
      ·
        as_aux_lemma =>
          obtain ⟨j, rfl⟩ := Int.eq_ofNat_of_zero_le hr0
          have hj : j < t.f3.length := by omega
          have hjd : j < ds.length := by have := HD.out; omega
          obtain ⟨g, hg7⟩ : ∃ g, A7 = some ⟨g, 0, none⟩ := by
            obtain ⟨g, cap, e, _⟩ := World.ownsRow.form OW.out (by omega)
            exact ⟨g, by injection e⟩
          subst hg7
          obtain ⟨d, hd⟩ : ∃ d, ds[j]? = some d := ⟨_, List.getElem?_eq_getElem hjd⟩
          have CJ : ∀ i, i < 4 → wc.cell? ⟨g, j * 4 + i, none⟩ = d.cs[i]? := fun i hi => by
            rw [World.ownsRow.cellAt OW.out _ (by omega)]
            exact ndCs_get ds j d hd i hi
          have FJ : ∀ i, wc.frozen? ⟨g, i, none⟩ = false := fun i => World.ownsRow.frozenAt OW.out i
          have J0 : wc.cell? ⟨g, j * 4, none⟩ = some (.int .i64 d.t.f0) := (CJ 0 (by omega)).trans rfl
          have J1 : wc.cell? ⟨g, j * 4 + 1, none⟩ = some (.string d.t.f1) := (CJ 1 (by omega)).trans rfl
          have J2 : wc.cell? ⟨g, j * 4 + 2, none⟩ = some (.int .i64 d.t.f2) := (CJ 2 (by omega)).trans rfl
          have J3 : wc.cell? ⟨g, j * 4 + 3, none⟩ = some (.slice d.A d.t.f3.length d.c) := (CJ 3 (by omega)).trans rfl
          have HM : Aside0 (d ∈ ds) := ⟨List.mem_of_getElem? hd⟩
          have HMT : Aside0 (d.t ∈ t.f3) := ⟨by rw [← HD1.out]; exact List.mem_map_of_mem HM.out⟩
          have HOK : Aside0 (d.t.f3.length ≤ d.c ∧ RowF P wc.drew d.A d.t.f3) := ⟨(HD2.out d HM.out).1, (HD2.out d HM.out).2.keep (below_drew BB.out)⟩
          have HPC : Aside0 (∀ k, P k → k < wc.drew.heap.size) := ⟨fun k hk => Nat.lt_of_lt_of_le (HPW.out k hk) (below_size (below_drew BB.out))⟩
          have HNT : Aside0 (nmT d.t = true) := ⟨by
            have h1 := HNM.out
            rw [nmT_eq, Bool.and_eq_true, nmL_all, List.all_eq_true] at h1
            exact h1.2 _ HMT.out⟩
          have HBD : Aside0 (Below W.heap.size W wc.drew) := ⟨below_drew BB.out⟩
          have HWD : Aside0 (WdAt wc.drew) := ⟨HW.out.below HBD.out⟩
          have HGB : Aside0 (b ≠ g) := ⟨fun e => NE.out (by rw [e]; rfl)⟩
          have HG2 : Aside0 (W.heap.size + 2 ≤ g ∧ g < wc.heap.size) := ⟨own_base OW.out g rfl, own_lt OW.out g rfl⟩
          have HJ := Aside0.mk hj
          have HJD := Aside0.mk hd
          have q0 : (0 : Int) ≤ (j : Int) := by omega
          have q1 : (j : Int) < (t.f3.length : Int) := by omega
          clear CJ FJ hj hjd hd hr0 hr
          go_cut [7] (fun s7 wx => s7 = .pointer (some ⟨b, 0, none⟩) ∧ EndP t P W b wx)
          case rest =>
            obtain ⟨rfl, k', o', n', l', A', c', e1, e2, e3, e4, e5, e6, e7, e8⟩ := hcut
            have E1 := Aside0.mk e1
            have E2 := Aside0.mk e2
            have E3 := Aside0.mk e3
            have E4 := Aside0.mk e4
            have E5 := Aside0.mk e5
            have E6 := Aside0.mk e6
            have E7 := Aside0.mk e7
            have E8 := Aside0.mk e8
            clear e1 e2 e3 e4 e5 e6 e7 e8 c0 c1 c2 c3 f0 f1 f2 f3 z0 z1 z2 z3 y0 y1 y2 y3 J0 J1 J2 J3 q0 q1
            rename_i wd
            obtain ⟨c0, c1, c2, c3⟩ := cells4h E1.out
            obtain ⟨z0, z1, z2, z3⟩ := cells4h E8.out
            have y0 := blk_frozen E8.out 0
            have y1 := blk_frozen E8.out 1
            have y2 := blk_frozen E8.out 2
            have y3 := blk_frozen E8.out 3
            go_wp2_with fail
            refine bodyPost_ret (results_cell_row rfl _ _ (W.heap.size + 1) 42 #[.int .i64 k', .string n', .int .i64 o', .slice A' l'.length c'] (0, 0) _ rfl ?hp Tryd.underlying42 rfl (by kernel_rfl)) rfl ?_
            case hp => with_reducible exact box_set4 E8.out _ _ _ _
            refine ⟨⟨k', n', o', l'⟩, A', c', rfl, ?_, ?_, E5.out, row_end HPW.out E6.out _ _ _ _, below_set4 E7.out (by omega) _ _ _ _⟩
            · rw [nmT_eq, Bool.and_eq_true, decide_eq_true_eq]; exact ⟨E2.out, E3.out⟩
            · rw [szT_eq, szT_eq]; have := E4.out; simp only; omega
          case first =>
            have SD : Aside0 (wc.drew.cell? ⟨b, 3, none⟩ = some (.slice (some ⟨g, 0, none⟩) t.f3.length c7)) := ⟨c3⟩
            clear c0 c1 c2 f0 f1 f2 f3 z0 z1 z2 z3 y0 y1 y2 y3
            refine wp_region_noPanic ?_
            refine wp_region_held_drew (S := fun W' => W'.cell? ⟨b, 3, none⟩ = some (.slice (some ⟨g, 0, none⟩) t.f3.length c7)) (by kernel_rfl) SD.out (fun hHeld => ?_)
            refine wpAnyH_take (i := 0) (oi := ({ dst := some 34, op := Op.fieldAddr 42 (Operand.tmp 7) 3, type := 0, pos := "raw.go:39", after := #[], guard := none } : Oper)) (v := ?v0) rfl (by kernel_rfl) (by kernel_rfl) (by kernel_rfl) (fun _ _ _ h => h) (Or.inl ⟨by rfl, ?y0⟩) (by assumption) ?r0
            case y0 => (intro w hSw; (try dsimp only at hSw); first | (go_simp; done) | (go_simp; with_reducible rfl))
            try simp only [Act.put, List.setIfInBounds_toArray, List.set_cons_zero, List.set_cons_succ]
            refine wpAnyH_take (i := 1) (oi := ({ dst := some 35, op := Op.load 40 (Operand.tmp 34), type := 40, pos := "raw.go:39", after := #[{ on := 0, ground := Ground.data }], guard := none } : Oper)) (v := ?v1) rfl (by kernel_rfl) (by kernel_rfl) (by kernel_rfl) (fun _ _ _ h => h) (Or.inl ⟨by rfl, ?y1⟩) (by assumption) ?r1
            case y1 => (intro w hSw; (try dsimp only at hSw); first | (go_simp; done) | (go_simp; with_reducible rfl))
            try simp only [Act.put, List.setIfInBounds_toArray, List.set_cons_zero, List.set_cons_succ]
            refine wpAnyH_take (i := 2) (oi := ({ dst := some 36, op := Op.move (Operand.tmp 8), type := 3, pos := "raw.go:39", after := #[], guard := none } : Oper)) (v := ?v2) rfl (by kernel_rfl) (by kernel_rfl) (by kernel_rfl) (fun _ _ _ h => h) (Or.inl ⟨by rfl, ?y2⟩) (by assumption) ?r2
            case y2 => (intro w hSw; (try dsimp only at hSw); first | (go_simp; done) | (go_simp; with_reducible rfl))
            try simp only [Act.put, List.setIfInBounds_toArray, List.set_cons_zero, List.set_cons_succ]
            refine wpAnyH_take (i := 3) (oi := ({ dst := some 37, op := Op.fieldAddr 42 (Operand.tmp 7) 3, type := 0, pos := "raw.go:39", after := #[], guard := none } : Oper)) (v := ?v3) rfl (by kernel_rfl) (by kernel_rfl) (by kernel_rfl) (fun _ _ _ h => h) (Or.inl ⟨by rfl, ?y3⟩) (by assumption) ?r3
            case y3 => (intro w hSw; (try dsimp only at hSw); first | (go_simp; done) | (go_simp; with_reducible rfl))
            try simp only [Act.put, List.setIfInBounds_toArray, List.set_cons_zero, List.set_cons_succ]
            refine wpAnyH_take (i := 4) (oi := ({ dst := some 38, op := Op.load 40 (Operand.tmp 37), type := 40, pos := "raw.go:39", after := #[{ on := 3, ground := Ground.data }], guard := none } : Oper)) (v := ?v4) rfl (by kernel_rfl) (by kernel_rfl) (by kernel_rfl) (fun _ _ _ h => h) (Or.inl ⟨by rfl, ?y4⟩) (by assumption) ?r4
            case y4 => (intro w hSw; (try dsimp only at hSw); first | (go_simp; done) | (go_simp; with_reducible rfl))
            try simp only [Act.put, List.setIfInBounds_toArray, List.set_cons_zero, List.set_cons_succ]
            refine wpAnyH_take (i := 5) (oi := ({ dst := some 39, op := Op.move (Operand.tmp 8), type := 3, pos := "raw.go:39", after := #[], guard := none } : Oper)) (v := ?v5) rfl (by kernel_rfl) (by kernel_rfl) (by kernel_rfl) (fun _ _ _ h => h) (Or.inl ⟨by rfl, ?y5⟩) (by assumption) ?r5
            case y5 => (intro w hSw; (try dsimp only at hSw); first | (go_simp; done) | (go_simp; with_reducible rfl))
            try simp only [Act.put, List.setIfInBounds_toArray, List.set_cons_zero, List.set_cons_succ]
            refine wpAnyH_take (i := 6) (oi := ({ dst := some 40, op := Op.indexAddr 40 (Operand.tmp 38) (Operand.tmp 39), type := 0, pos := "raw.go:39", after := #[{ on := 4, ground := Ground.data }, { on := 5, ground := Ground.data }], guard := none } : Oper)) (v := ?v6) rfl (by kernel_rfl) (by kernel_rfl) (by kernel_rfl) (fun _ _ _ h => h) (Or.inl ⟨by rfl, ?y6⟩) (by assumption) ?r6
            case y6 => (intro w hSw; (try dsimp only at hSw); first | (go_simp; done) | (go_simp; with_reducible rfl))
            try simp only [Act.put, List.setIfInBounds_toArray, List.set_cons_zero, List.set_cons_succ]
            refine wpAnyH_take (i := 8) (oi := ({ dst := some 42, op := Op.move (Operand.tmp 1), type := 3, pos := "raw.go:39", after := #[], guard := none } : Oper)) (v := ?v8) rfl (by kernel_rfl) (by kernel_rfl) (by kernel_rfl) (fun _ _ _ h => h) (Or.inl ⟨by rfl, ?y8⟩) (by assumption) ?r8
            case y8 => (intro w hSw; (try dsimp only at hSw); first | (go_simp; done) | (go_simp; with_reducible rfl))
            try simp only [Act.put, List.setIfInBounds_toArray, List.set_cons_zero, List.set_cons_succ]
            refine wpAnyH_take (i := 9) (oi := ({ dst := some 43, op := Op.binOp BinOp.quo 3 (Operand.tmp 42) (Operand.const (Value.int IntKind.i64 9)) 3, type := 3, pos := "raw.go:39", after := #[{ on := 8, ground := Ground.data }], guard := none } : Oper)) (v := ?v9) rfl (by kernel_rfl) (by kernel_rfl) (by kernel_rfl) (fun _ _ _ h => h) (Or.inl ⟨by rfl, ?y9⟩) (by assumption) ?r9
            case y9 => (intro w hSw; (try dsimp only at hSw); first | (go_simp; done) | (go_simp; with_reducible rfl))
            try simp only [Act.put, List.setIfInBounds_toArray, List.set_cons_zero, List.set_cons_succ]
            refine wpAnyH_take (i := 10) (oi := ({ dst := some 44, op := Op.move (Operand.tmp 2), type := 3, pos := "raw.go:39", after := #[], guard := none } : Oper)) (v := ?v10) rfl (by kernel_rfl) (by kernel_rfl) (by kernel_rfl) (fun _ _ _ h => h) (Or.inl ⟨by rfl, ?y10⟩) (by assumption) ?r10
            case y10 => (intro w hSw; (try dsimp only at hSw); first | (go_simp; done) | (go_simp; with_reducible rfl))
            try simp only [Act.put, List.setIfInBounds_toArray, List.set_cons_zero, List.set_cons_succ]
            refine wpAnyH_ready (rs := [7]) (by kernel_rfl) (by simp) ?_
            refine AllReadyH.cons (o := ({ dst := some 41, op := Op.load 42 (Operand.tmp 40), type := 42, pos := "raw.go:39", after := #[{ on := 6, ground := Ground.data }], guard := none } : Oper)) rfl (fun K hK => ?_) AllReadyH.nil
            go_simp
            refine hK.out _ _ (SD.out) (fun hHeld => ?_)
            clear hK K
            try simp only [Act.put, List.setIfInBounds_toArray, List.set_cons_zero, List.set_cons_succ]
            refine wpAnyH_ready (rs := [11]) (by kernel_rfl) (by simp) ?_
            refine AllReadyH.cons (o := ({ dst := some 45, op := Op.call { callee := Callee.value (Operand.func 48), args := #[Operand.tmp 41, Operand.tmp 43, Operand.tmp 44], argTypes := #[42, 3, 3] }, type := 42, pos := "raw.go:39", after := #[{ on := 7, ground := Ground.data }, { on := 9, ground := Ground.data }, { on := 10, ground := Ground.data }], guard := none } : Oper)) rfl (fun K hK => ?_) AllReadyH.nil
            go_simp
            go_at_call 48; (with_reducible refine (HI1.out d.t HMT.out _ _ _ _ _ HNT.out HOK.out.2 HPC.out HOK.out.1 HWD.out).mono ?_); rintro e w3 ⟨t2, A2, k2, rfl, n2, s2, l2, ft2, b2⟩; have BX3 := Aside0.mk (blk_below (blk_drew BX.out) b2); have OW3 := Aside0.mk (pw_own_below (World.ownsRow.drew OW.out) b2); have ZX3 := Aside0.mk (blk_below (blk_drew ZX.out) b2); have BB3 := Aside0.mk (below_step HBD.out b2); have J0' := pw_cell_below b2 (show wc.drew.cell? _ = _ from J0); have J1' := pw_cell_below b2 (show wc.drew.cell? _ = _ from J1); have J2' := pw_cell_below b2 (show wc.drew.cell? _ = _ from J2); have J3' := pw_cell_below b2 (show wc.drew.cell? _ = _ from J3); have F0' := World.ownsRow.frozenAt OW3.out (j * 4); have F1' := World.ownsRow.frozenAt OW3.out (j * 4 + 1); have F2' := World.ownsRow.frozenAt OW3.out (j * 4 + 2); have F3' := World.ownsRow.frozenAt OW3.out (j * 4 + 3); have SD3 : Aside0 (w3.cell? ⟨b, 3, none⟩ = some (.slice (some ⟨g, 0, none⟩) t.f3.length c7)) := ⟨(cells4h BX3.out).2.2.2⟩; have HN2 := Aside0.mk n2; have HS2 := Aside0.mk s2; have HL2 := Aside0.mk l2; have HF2 := Aside0.mk ft2; have HB2' := Aside0.mk b2; clear n2 s2 l2 ft2 b2
            refine hK.out _ _ (SD3.out) (fun hHeld => ?_)
            clear hK K
            try simp only [Act.put, List.setIfInBounds_toArray, List.set_cons_zero, List.set_cons_succ]
            refine wpAnyH_take (i := 12) (oi := ({ dst := some 46, op := Op.indexAddr 40 (Operand.tmp 35) (Operand.tmp 36), type := 0, pos := "raw.go:39", after := #[{ on := 1, ground := Ground.data }, { on := 2, ground := Ground.data }, { on := 0, ground := Ground.phase }, { on := 1, ground := Ground.phase }, { on := 2, ground := Ground.phase }, { on := 3, ground := Ground.phase }, { on := 4, ground := Ground.phase }, { on := 5, ground := Ground.phase }, { on := 6, ground := Ground.phase }, { on := 7, ground := Ground.phase }, { on := 8, ground := Ground.phase }, { on := 9, ground := Ground.phase }, { on := 10, ground := Ground.phase }, { on := 11, ground := Ground.phase }], guard := none } : Oper)) (v := ?v12) rfl (by kernel_rfl) (by kernel_rfl) (by kernel_rfl) (fun _ _ _ h => h) (Or.inl ⟨by rfl, ?y12⟩) (by assumption) ?r12
            case y12 => (intro w hSw; (try dsimp only at hSw); first | (go_simp; done) | (go_simp; with_reducible rfl))
            try simp only [Act.put, List.setIfInBounds_toArray, List.set_cons_zero, List.set_cons_succ]
            refine wpAnyH_ready (rs := [13]) (by kernel_rfl) (by simp) ?_
            refine AllReadyH.cons (o := ({ dst := none, op := Op.store 42 (Operand.tmp 46) (Operand.tmp 45), type := 0, pos := "raw.go:39", after := #[{ on := 12, ground := Ground.data }, { on := 11, ground := Ground.data }, { on := 11, ground := Ground.chain }, { on := 0, ground := Ground.phase }, { on := 1, ground := Ground.phase }, { on := 2, ground := Ground.phase }, { on := 3, ground := Ground.phase }, { on := 4, ground := Ground.phase }, { on := 5, ground := Ground.phase }, { on := 6, ground := Ground.phase }, { on := 7, ground := Ground.phase }, { on := 8, ground := Ground.phase }, { on := 9, ground := Ground.phase }, { on := 10, ground := Ground.phase }, { on := 11, ground := Ground.phase }], guard := none } : Oper)) rfl (fun K hK => ?_) AllReadyH.nil
            go_simp
            refine hK.out _ _ ((cells4h (put4_blk BX3.out HGB.out _ _ _ _)).2.2.2) (fun hHeld => ?_)
            clear hK K
            try simp only [Act.put, List.setIfInBounds_toArray, List.set_cons_zero, List.set_cons_succ]
            refine wpAnyH_done (by kernel_rfl) ?_ _
            refine NoPanic.normal ?_
            have BX4 := Aside0.mk (put4_blk (o0 := j * 4) (o1 := j * 4 + 1) (o2 := j * 4 + 2) (o3 := j * 4 + 3) BX3.out HGB.out (.int .i64 t2.f0) (.string t2.f1) (.int .i64 t2.f2) (.slice A2 t2.f3.length k2))
            have ZX4 := Aside0.mk (put4_blk (o0 := j * 4) (o1 := j * 4 + 1) (o2 := j * 4 + 2) (o3 := j * 4 + 3) ZX3.out (show W.heap.size + 1 ≠ g by have := HG2.out; omega) (.int .i64 t2.f0) (.string t2.f1) (.int .i64 t2.f2) (.slice A2 t2.f3.length k2))
            have BB4 := Aside0.mk (put4_below (o0 := j * 4) (o1 := j * 4 + 1) (o2 := j * 4 + 2) (o3 := j * 4 + 3) BB3.out (by have := HG2.out; omega : W.heap.size ≤ g) (.int .i64 t2.f0) (.string t2.f1) (.int .i64 t2.f2) (.slice A2 t2.f3.length k2))
            have OW4 := Aside0.mk (own_put4 OW3.out (by have := HJ.out; have := HD.out; omega : j < ds.length) ⟨t2, A2, k2⟩)
            have SE4 : Aside0 (RowF (fun k => P k ∨ W.heap.size + 2 ≤ k) ((((w3.setCell ⟨g, j * 4, none⟩ (.int .i64 t2.f0)).setCell ⟨g, j * 4 + 1, none⟩ (.string t2.f1)).setCell ⟨g, j * 4 + 2, none⟩ (.int .i64 t2.f2)).setCell ⟨g, j * 4 + 3, none⟩ (.slice A2 t2.f3.length k2)) A2 t2.f3) := ⟨by
              have hg2 := HG2.out
              have hs : wc.drew.heap.size = wc.heap.size := rfl
              refine (HF2.out.step fun k hk _ => put4_keep ?_ _ _ _ _).mono fun k hk => hk.imp id (by omega)
              rcases hk with hk | hk
              · have := HPW.out k hk; omega
              · omega⟩
            clear SD SD3 J0 J1 J2 J3 J0' J1' J2' J3' F0' F1' F2' F3' c3
            go_wp2_with fail
            go_meet
            case rel =>
              obtain ⟨hnm1, hnm2⟩ := by simpa [nmT_eq] using HNM.out
              exact ⟨rfl, end_set (d2 := ⟨t2, A2, k2⟩) HD1.out HD2.out HJD.out BX4.out OW4.out HD.out hnm1 hnm2 HN.out BB4.out ZX4.out HN2.out HS2.out HL2.out SE4.out⟩
      all_goals
        as_aux_lemma =>
          go_cut [7] (fun s7 wx => s7 = .pointer (some ⟨b, 0, none⟩) ∧ EndP t P W b wx)
          case rest =>
            obtain ⟨rfl, k', o', n', l', A', c', e1, e2, e3, e4, e5, e6, e7, e8⟩ := hcut
            have E1 := Aside0.mk e1
            have E2 := Aside0.mk e2
            have E3 := Aside0.mk e3
            have E4 := Aside0.mk e4
            have E5 := Aside0.mk e5
            have E6 := Aside0.mk e6
            have E7 := Aside0.mk e7
            have E8 := Aside0.mk e8
            clear e1 e2 e3 e4 e5 e6 e7 e8 c0 c1 c2 c3 f0 f1 f2 f3 z0 z1 z2 z3 y0 y1 y2 y3
            rename_i wd
            obtain ⟨c0, c1, c2, c3⟩ := cells4h E1.out
            obtain ⟨z0, z1, z2, z3⟩ := cells4h E8.out
            have y0 := blk_frozen E8.out 0
            have y1 := blk_frozen E8.out 1
            have y2 := blk_frozen E8.out 2
            have y3 := blk_frozen E8.out 3
            go_wp2_with fail
            refine bodyPost_ret (results_cell_row rfl _ _ (W.heap.size + 1) 42 #[.int .i64 k', .string n', .int .i64 o', .slice A' l'.length c'] (0, 0) _ rfl ?hp Tryd.underlying42 rfl (by kernel_rfl)) rfl ?_
            case hp => with_reducible exact box_set4 E8.out _ _ _ _
            refine ⟨⟨k', n', o', l'⟩, A', c', rfl, ?_, ?_, E5.out, row_end HPW.out E6.out _ _ _ _, below_set4 E7.out (by omega) _ _ _ _⟩
            · rw [nmT_eq, Bool.and_eq_true, decide_eq_true_eq]; exact ⟨E2.out, E3.out⟩
            · rw [szT_eq, szT_eq]; have := E4.out; simp only; omega
          case first =>
            have h6 : r = 0 ∨ r = 1 ∨ r = 2 ∨ r = 3 ∨ r = 4 ∨ r = 5 := by omega
            clear hr0 hr z0 z1 z2 z3 y0 y1 y2 y3
            rcases h6 with rfl | rfl | rfl | rfl | rfl | rfl
            · go_wp2_with (go_at_call 27; (with_reducible refine (CZ.out _ _ _ (by omega) (by omega)).mono ?_); rintro e w' ⟨k, hk0, hk, rfl, rfl⟩)
              go_meet
              case rel =>
                obtain ⟨hnm1, hnm2⟩ := by simpa [nmT_eq] using HNM.out
                exact ⟨rfl, end_own HD2.out (blk_put BX.out 0 _ rfl) (own_setCell OW.out (p := ⟨b, 0, none⟩) (fun e => NE.out e.symm) _) HD.out hnm1 (by rw [HD1.out]; exact hnm2) (by rw [HD1.out]; omega) HN.out (BB.out.setCell (p := ⟨b, 0, none⟩) (by have := HB2.out; show W.heap.size ≤ b; omega) _) (blk_far ZX.out (p := ⟨b, 0, none⟩) (by have := HB2.out; show _ ≠ b; omega) _)⟩
            · obtain ⟨ad, cw, hwd1, hwd2⟩ := HW.out.out
              have GA : Aside0 (∀ W', Below W.heap.size W W' → W'.cell? ⟨1, 0, none⟩ = some (.slice (some ad) 13 cw) ∧ ∀ j, j < 13 → W'.cell? (ad.add j) = some (.string (wdB j))) := ⟨fun W' h => ⟨pw_cell_below h hwd1, fun j hj => pw_cell_below h (hwd2 j hj)⟩⟩
              have B1 : Aside0 (Below W.heap.size W wc.drew) := ⟨below_drew BB.out⟩
              have B2 : Aside0 (∀ v, Below W.heap.size W (wc.drew.setCell ⟨b, 1, none⟩ v)) := ⟨fun v => Below.setCell (below_drew BB.out) (p := ⟨b, 1, none⟩) (by have := HB2.out; show W.heap.size ≤ b; omega) v⟩
              have B3 : Aside0 (∀ v, Below W.heap.size W (wc.setCell ⟨b, 1, none⟩ v).drew) := ⟨B2.out⟩
              clear hwd1 hwd2
              go_upto_region 10 with fail
              go_region_held3 (fun W' => W'.cell? ⟨1, 0, none⟩ = some (.slice (some ad) 13 cw) ∧ ∀ j, j < 13 → W'.cell? (ad.add j) = some (.string (wdB j))) (with_reducible first | exact GA.out _ B1.out | exact GA.out _ (B2.out _) | exact GA.out _ (B3.out _) | fail) ((go_at_call 27; (with_reducible refine (CI.out _ _ _ (by omega) (by omega)).mono ?_); rintro e w' ⟨k, hk, rfl, rfl⟩; have q0 := eq_true (show (0 : Int) ≤ (k : Int) by omega); have q1 := eq_true (show (k : Int) < 13 by omega); have q2 := eq_true (show k < 13 by omega)))
              go_wp2_with fail
              go_meet
              case rel =>
                obtain ⟨hnm1, hnm2⟩ := by simpa [nmT_eq] using HNM.out
                have hb2 := HB2.out
                refine ⟨rfl, end_own (wx := (wc.drew.setCell ⟨b, 1, none⟩ (.string (wdB k)))) HD2.out (blk_put (blk_drew BX.out) 1 _ rfl) (own_setCell (World.ownsRow.drew OW.out) (p := ⟨b, 1, none⟩) (fun e => NE.out e.symm) _) HD.out (wdB_len k) (by rw [HD1.out]; exact hnm2) (by rw [HD1.out]; omega) HN.out (Below.setCell (below_drew BB.out) (p := ⟨b, 1, none⟩) (by show W.heap.size ≤ b; omega) _) (blk_far (blk_drew ZX.out) (p := ⟨b, 1, none⟩) (by show _ ≠ b; omega) _)⟩
            · go_wp2_with (at_builtin; refine print_append_cells (w0 := wc) (W.heap.size + 2) rfl (.tmp 70) (.tmp 72) 40 42 _ 4 _ rfl Tryd.underlying40 info42 rfl (by decide) (by decide) (.slice A7 t.f3.length c7) t.f3.length (ndCs ds) [.int .i64 3, .string ⟨#[]⟩, .int .i64 0, .slice none 0 0] rfl rfl rfl (by simp [Value.oneCell']) OW.out (Below.refl _ _) (by have := blk_lt BX.out; have := HB2.out; omega) (by have := HN.out; omega) ?_; intro v1 w1 ho hb hg hat; obtain ⟨A8, c8, ev⟩ := own_slice ho; subst ev; have BX1 := Aside0.mk (blk_grown BX.out hg (fun e => NE.out e.symm)); have OW1 := Aside0.mk ho; have GG := Aside0.mk hg; have HAT := Aside0.mk hat; clear ho hb hg hat c0 c1 c2 c3 f0 f1 f2 f3; obtain ⟨c0, c1, c2, c3⟩ := cells4h BX1.out; have f3 := blk_frozen BX1.out 3)
              go_meet
              case rel =>
                obtain ⟨hnm1, hnm2⟩ := by simpa [nmT_eq] using HNM.out
                have hb2 := HB2.out
                have hbl := blk_lt BX.out
                have hB := pw_below_grown BB.out _ (below_size BB.out) GG.out (fun k hk => by have := own_base OW.out k hk; omega)
                have hz1 := blk_grown ZX.out GG.out (fun e => own_ne1 OW.out (by omega) e.symm)
                have hne1 : (Value.slice A8 (t.f3.length + 1) c8).ownBlock ≠ some b := fun e => by
                  rcases HAT.out with h | ⟨j, h, hj⟩
                  · rw [h] at e; exact NE.out e
                  · rw [h] at e; have := Option.some.inj e; omega
                have hnd : ndCs (ds ++ [⟨⟨3, ⟨#[]⟩, 0, []⟩, none, 0⟩]) = ndCs ds ++ [.int .i64 3, .string ⟨#[]⟩, .int .i64 0, .slice none 0 0] := by rw [ndCs_app]; rfl
                refine ⟨rfl, end_own (ds := ds ++ [⟨⟨3, ⟨#[]⟩, 0, []⟩, none, 0⟩]) ?_ (blk_put BX1.out 3 _ rfl) (own_setCell (hnd ▸ OW1.out) (p := ⟨b, 3, none⟩) (fun e => hne1 e.symm) _) ?_ hnm1 ?_ ?_ ?_ (hB.setCell (p := ⟨b, 3, none⟩) (by show W.heap.size ≤ b; omega) _) (blk_far hz1 (p := ⟨b, 3, none⟩) (by show _ ≠ b; omega) _)⟩
                · intro d hd
                  rcases List.mem_append.1 hd with hd | hd
                  · exact HD2.out d hd
                  · obtain rfl : d = _ := by simpa using hd
                    exact ⟨Nat.le_refl _, RowF.nil _ _ _⟩
                · have := HD.out; simp [this]
                · rw [List.map_append, HD1.out, nmL_all, List.all_append, ← nmL_all, hnm2]; rfl
                · rw [List.map_append, HD1.out, szL_app]; simp [szL, szT]
                · have := HN.out; have := HSZ.out; have := szL_len t.f3; omega
            · by_cases hn0 : t.f3.length = 0
              · try (exfalso; omega)
                all_goals
                  have HN0 := Aside0.mk hn0
                  have hq : decide (0 < t.f3.length) = false := by simp [hn0]
                  clear hn0
                  go_wp2_with fail
                  go_meet
                  case rel =>
                    obtain ⟨hnm1, hnm2⟩ := by simpa [nmT_eq] using HNM.out
                    exact ⟨rfl, end_own HD2.out BX.out OW.out HD.out hnm1 (by rw [HD1.out]; exact hnm2) (by rw [HD1.out]; omega) HN.out BB.out ZX.out⟩
              · try (exfalso; omega)
                all_goals
                  have hq := Nat.pos_of_ne_zero hn0
                  have HC7 : Aside0 (t.f3.length ≤ c7) := ⟨own_le OW.out⟩
                  clear hn0
                  go_wp2_with fail
                  all_goals go_meet
                  all_goals
                    case rel =>
                      obtain ⟨hnm1, hnm2⟩ := by simpa [nmT_eq] using HNM.out
                      have hb2 := HB2.out
                      have hc7 := HC7.out
                      refine ⟨rfl, end_drop HD1.out HD2.out (blk_put BX.out 3 _ rfl) (own_setCell OW.out (p := ⟨b, 3, none⟩) (fun e => NE.out e.symm) _) HD.out (by omega) ?_ hnm1 hnm2 HN.out (BB.out.setCell (p := ⟨b, 3, none⟩) (by show W.heap.size ≤ b; omega) _) (blk_far ZX.out (p := ⟨b, 3, none⟩) (by show _ ≠ b; omega) _)⟩
                      first | exact .inl rfl | (exact .inr (by omega))
            · go_wp2_with (go_at_call 27; (with_reducible refine (CZ.out _ _ _ (by omega) (by omega)).mono ?_); rintro e w' ⟨k, hk0, hk, rfl, rfl⟩)
              go_meet
              case rel =>
                obtain ⟨hnm1, hnm2⟩ := by simpa [nmT_eq] using HNM.out
                exact ⟨rfl, end_own HD2.out (blk_put BX.out 2 _ rfl) (own_setCell OW.out (p := ⟨b, 2, none⟩) (fun e => NE.out e.symm) _) HD.out hnm1 (by rw [HD1.out]; exact hnm2) (by rw [HD1.out]; omega) HN.out (BB.out.setCell (p := ⟨b, 2, none⟩) (by have := HB2.out; show W.heap.size ≤ b; omega) _) (blk_far ZX.out (p := ⟨b, 2, none⟩) (by have := HB2.out; show _ ≠ b; omega) _)⟩
            · go_wp2_with fail
              go_meet
              case rel =>
                have hb2 := HB2.out
                have hB := below_set4 (b := b) BB.out (by omega) (.int .i64 3) (.string ⟨#[]⟩) (.int .i64 0) (.slice none 0 0)
                exact ⟨rfl, 3, 0, ⟨#[]⟩, [], none, 0, box_set4 BX.out _ _ _ _, by decide, rfl, by simp [szL], Nat.le_refl _, RowF.nil _ _ _, hB, set4_blk ZX.out (by omega) _ _ _ _⟩
theorem spoil_any (P : Nat → Prop) (i : Nat) : ∀ t : S42, szT t ≤ i → ∀ (p q : Int) (A : Option Addr) (c : Nat) (W : World), nmT t = true → szT t ≤ 1000000 → RowF P W A t.f3 → (∀ k, P k → k < W.heap.size) → t.f3.length ≤ c → WdAt W →
    Calls Tryd.prog 48 #[.agg #[.int .i64 t.f0, .string t.f1, .int .i64 t.f2, .slice A t.f3.length c], .int .i64 p, .int .i64 q] W (SpPost t P W) := by
  induction i with
  | zero => intro t h; have := szT_pos t; omega
  | succ i ih =>
    intro t h p q A c W hn hsz hr hP hc hw
    refine spoil_one p q t A c P W hn hsz hr hP hc hw (fun x hx p q A c W hn hr hP hc hw => ?_)
    have := szL_mem hx
    rw [szT_eq] at h hsz
    exact ih x (by omega) p q A c W hn (by omega) hr hP hc hw
end
end Go.Proofs.YtajefkjcfmfjkaaDoor
namespace Go.Proofs.YtajefkjcfmfjkaaDoor
section
set_option linter.unusedVariables false
set_option linter.unusedSimpArgs false
set_option linter.deprecated false
open Go.RowKit Go.Proofs.YtajefkjcfmfjkaaDoorW.PrintWords Go.Proofs.YtajefkjcfmfjkaaDoor.POperatorResolves
set_option linter.unusedVariables false
attribute [local go_sem ↓] Go.wp_at_zero Go.wp_at_succ
theorem cells4 {w : World} {b : Nat} {c0 c1 c2 c3 : Value} (h : w.heap[b]? = some (.cells #[c0, c1, c2, c3] 42 (0, 0))) :
    w.cell? ⟨b, 0, none⟩ = some c0 ∧ w.cell? ⟨b, 1, none⟩ = some c1 ∧ w.cell? ⟨b, 2, none⟩ = some c2 ∧ w.cell? ⟨b, 3, none⟩ = some c3 :=
  ⟨(blk_cell h 0).trans rfl, (blk_cell h 1).trans rfl, (blk_cell h 2).trans rfl, (blk_cell h 3).trans rfl⟩
theorem Foot.set4 {lo lo' b : Nat} {w : World} {A : Option Addr} {l : List S42} (h : Foot lo w A l) (hlo : lo' ≤ lo) (hb : b < lo) (v0 v1 v2 v3 : Value) :
    Foot lo' ((((w.setCell ⟨b, 0, none⟩ v0).setCell ⟨b, 1, none⟩ v1).setCell ⟨b, 2, none⟩ v2).setCell ⟨b, 3, none⟩ v3) A l := by
  refine h.step hlo (Nat.le_of_eq (by simp [World.setCell])) (fun k h1 h2 => ?_)
  have hne : k ≠ b := by omega
  exact (Below.heap_setCell _ ⟨b, 3, none⟩ v3 k hne).trans ((Below.heap_setCell _ ⟨b, 2, none⟩ v2 k hne).trans ((Below.heap_setCell _ ⟨b, 1, none⟩ v1 k hne).trans (Below.heap_setCell _ ⟨b, 0, none⟩ v0 k hne)))
theorem Tp.grown {w0 W W1 : World} {g : Nat} {row : Option Nat} (h : Tp w0 W g) (hg : W.grownBy W1 row) (hne : some g ≠ row) (hr : ∀ k, row = some k → w0.heap.size ≤ k) : Tp w0 W1 g := by
  obtain ⟨h0, zs, k, hI, h1, h2, h3⟩ := h
  exact ⟨h0.grown hg (below_size h0) hr, zs, k, hI.grown hg hne, h1, h2, h3⟩
theorem keep_grown {W W1 W2 : World} {g : Nat} {row : Option Nat} (h : KeepBut W W1 g none) (hg : W1.grownBy W2 row) (hr : ∀ k, row = some k → W.heap.size ≤ k) : KeepBut W W2 g none :=
  ⟨Nat.le_trans h.1 hg.size, fun i hi hn _ => (hg.block i (Nat.lt_of_lt_of_le hi h.1) (fun e => by have := hr i e.symm; omega)).trans (h.2 i hi hn (by simp))⟩
def nmL4 : List ByteArray := [⟨#[97]⟩, ⟨#[78]⟩, ⟨#[120]⟩, ⟨#[95]⟩]
theorem nmL4_ok : ∀ n ∈ nmL4, (nameS n || eqB n ⟨#[95]⟩) = true ∧ n.size ≤ 64 := by decide +kernel
theorem madeB1 (i : Nat) (k o : Int) (n : ByteArray) (x : S42) (h : k = 7 ∨ k = 8) (hn : (nameS n || eqB n ⟨#[95]⟩) = true) (hs : n.size ≤ 64) (hx : Made i x) : Made (i + 1) ⟨k, n, o, [x]⟩ := by
  obtain ⟨a1, a2, a3, a4⟩ := hx
  refine ⟨?_, ?_, ?_, ?_⟩
  · rw [fmT_eq]; unfold nodeS; rw [if_neg (by simp only; omega), if_neg (by simp only; omega), if_neg (by simp only; omega), if_pos h]; simp only [hn]; simp [fmL, a1]
  · rw [nmT_eq]; simp [nmL, hs, a2]
  · rw [szT_eq]; simp only [szL]; rw [Nat.pow_succ 2 (i + 1)]; omega
  · rw [dpT]; simp only [dpL]; omega
theorem madeB2 (i : Nat) (k o : Int) (n : ByteArray) (x y : S42) (h : k = 7 ∨ k = 8) (hn : (nameS n || eqB n ⟨#[95]⟩) = true) (hs : n.size ≤ 64) (hx : Made i x) (hy : Made i y) : Made (i + 1) ⟨k, n, o, [x, y]⟩ := by
  obtain ⟨a1, a2, a3, a4⟩ := hx
  obtain ⟨b1, b2, b3, b4⟩ := hy
  refine ⟨?_, ?_, ?_, ?_⟩
  · rw [fmT_eq]; unfold nodeS; rw [if_neg (by simp only; omega), if_neg (by simp only; omega), if_neg (by simp only; omega), if_pos h]; simp only [hn]; simp [fmL, a1, b1]
  · rw [nmT_eq]; simp [nmL, hs, a2, b2]
  · rw [szT_eq]; simp only [szL]; rw [Nat.pow_succ 2 (i + 1)]; omega
  · rw [dpT]; simp only [dpL]; omega
theorem made2 (i : Nat) (k o : Int) (x y : S42) (h : k = 5 ∨ k = 6 ∨ k = 9) (hx : Made i x) (hy : Made i y) : Made (i + 1) ⟨k, ⟨#[]⟩, o, [x, y]⟩ := by
  obtain ⟨a1, a2, a3, a4⟩ := hx
  obtain ⟨b1, b2, b3, b4⟩ := hy
  refine ⟨?_, ?_, ?_, ?_⟩
  · rw [fmT_eq]; unfold nodeS; rw [if_neg (by simp only; omega), if_neg (by simp only; omega), if_pos h]; simp [fmL, eqB_self, a1, b1]
  · rw [nmT_eq]; simp [nmL, ByteArray.size, a2, b2]
  · rw [szT_eq]; simp only [szL]; rw [Nat.pow_succ 2 (i + 1)]; omega
  · rw [dpT]; simp only [dpL]; omega
set_option maxHeartbeats 4000000 in
set_option maxRecDepth 100000 in
theorem raw_succ (w0 : World) (hw : WdAt w0) (g : Nat) (i : Nat) (hi : i ≤ 100) (W : World) (hT : Tp w0 W g) (HI : ∀ W, Tp w0 W g → Calls Tryd.prog 59 #[.pointer (some ⟨g, 0, none⟩), .int .i64 i] W (RawPost w0 g i W)) :
    Calls Tryd.prog 59 #[.pointer (some ⟨g, 0, none⟩), .int .i64 ((i : Int) + 1)] W (RawPost w0 g (i + 1) W) := by
  have hu42 := Tryd.underlying42
  have NX : Aside0 (∀ (n : Int) (W' : World), Tp w0 W' g → 0 < n → n ≤ 1000000 → Calls Tryd.prog 76 #[.pointer (some ⟨g, 0, none⟩), .int .i64 n] W' fun e w' => ∃ r : Nat, (r : Int) < n ∧ e = .returned (.int .i64 r) ∧ Tp w0 w' g ∧ KeepBut W' w' g none) := ⟨fun n W' h h0 h1 => tnext_int w0 W' g n h h0 h1⟩
  have T0 := Aside0.mk hT
  obtain ⟨ad, cw, hg, he⟩ := hw.out
  have WG := Aside0.mk hg
  have WE := Aside0.mk he
  have GA : Aside0 (∀ W', Below w0.heap.size w0 W' → W'.cell? ⟨1, 0, none⟩ = some (.slice (some ad) 13 cw) ∧ ∀ j, j < 13 → W'.cell? (ad.add j) = some (.string (wdB j))) := ⟨fun W' h => ⟨pw_cell_below h hg, fun j hj => pw_cell_below h (he j hj)⟩⟩
  clear hT hw hg he
  go_enter Tryd.func59, Tryd.ntmps59
  go_wp2_with fail
  go_at_call 76
  refine (NX.out 9 _ ?t1 (by omega) (by omega)).mono ?_
  case t1 => exact T0.out.keep (by repeat (first | (with_reducible first | exact Below.refl _ _ | apply below_alloc | apply pw_below_drewN | apply below_drew1 | refine below_set ?_ (Nat.le_refl _)) | assumption))
  rintro e w1 ⟨r, hr, rfl, h1, k1⟩
  have T1 := Aside0.mk h1
  have K1 : Aside0 (KeepBut W w1 g none) := ⟨(KeepBut.of_below (below_alloc (Below.refl _ W) _) g none).trans k1 (.inl rfl)⟩
  have BX1 : Aside0 (w1.heap[W.heap.size]? = some (.cells #[.int .i64 0, .string ⟨#[]⟩, .int .i64 0, .slice none 0 0] 42 (0, 0))) := ⟨k1.blk (heap_alloc_new _ _) (Nat.ne_of_gt (Tp.lt T0.out)) (by simp)⟩
  clear h1 k1
  have HS1 : Aside0 (W.heap.size < w1.heap.size) := ⟨blk_lt BX1.out⟩
  have GL : Aside0 (g < W.heap.size) := ⟨T0.out.lt⟩
  have HWW : Aside0 (w0.heap.size ≤ W.heap.size) := ⟨below_size T0.out.1⟩
  have H59 := Aside0.mk HI
  clear HI
  have q7 := eq_false (show ¬ ((i : Int) + 1 ≤ 0) by omega)
  have q8 : IntKind.i64.wrap ((i : Int) + 1 - 1) = i := by rw [show (i : Int) + 1 - 1 = i by omega]; exact IntWalk.i64_in _ (by omega)
  have q8' : IntKind.i64.wrap (i : Int) = i := IntWalk.i64_in _ (by omega)
  obtain ⟨k, hk⟩ : ∃ k : Int, k = 1 + (r : Int) := ⟨_, rfl⟩
  have q9 : IntKind.i64.wrap (1 + (r : Int)) = k := by rw [hk]; exact IntWalk.i64_in _ (by omega)
  have HK : Aside0 ((k = 1 ∨ k = 2) ∨ (k = 3 ∨ k = 4) ∨ (k = 5 ∨ k = 6 ∨ k = 9) ∨ (k = 7 ∨ k = 8)) := ⟨by omega⟩
  clear hk hr
  have T2 := T1
  have K2 := K1
  have BX2 := BX1
  go_wp2_with fail
  go_at_call 76
  refine (NX.out 100 _ ?t3 (by omega) (by omega)).mono ?_
  case t3 => exact T2.out.keep (by repeat (first | (with_reducible first | exact Below.refl _ _ | apply below_alloc | apply pw_below_drewN | apply below_drew1 | refine below_set ?_ (Nat.le_refl _)) | assumption))
  rintro e w3 ⟨r3, hr3, rfl, h1, k1⟩
  have T3 := Aside0.mk h1
  have K3 := Aside0.mk (K2.out.trans k1 (.inl rfl))
  have BX3 : Aside0 (w3.heap[W.heap.size]? = some (.cells #[.int .i64 0, .string ⟨#[]⟩, .int .i64 0, .slice none 0 0] 42 (0, 0))) := ⟨k1.blk BX2.out (Nat.ne_of_gt GL.out) (by simp)⟩
  clear h1 k1 K2 BX2 q9 hr3 T2
  rcases HK.out with hk | hk | hk | hk
  · rcases hk with rfl | rfl
    all_goals
      clear HK
      go_wp2_with fail
      have HW3 : Aside0 (w0.heap.size ≤ w3.heap.size) := ⟨below_size T3.out.1⟩
      go_region_held2 (fun W' => W'.cell? ⟨1, 0, none⟩ = some (.slice (some ad) 13 cw) ∧ ∀ j, j < 13 → W'.cell? (ad.add j) = some (.string (wdB j))) ((first | exact GA.out _ (below_drew (below_alloc T3.out.1 _)) | exact GA.out _ T4.out.1 | exact GA.out _ (T4.out.1.setCell (p := ⟨w3.heap.size, 1, none⟩) HW3.out _))) ((go_at_call 76; (with_reducible refine (NX.out 10 _ ?t4 (by omega) (by omega)).mono ?_); (case t4 => exact T3.out.keep (by repeat (first | (with_reducible first | exact Below.refl _ _ | apply below_alloc | apply pw_below_drewN | apply below_drew1 | refine below_set ?_ (Nat.le_refl _)) | assumption))); rintro e w4 ⟨r4, hr4, rfl, h1, k1⟩; have T4 := Aside0.mk h1; have B6 : Aside0 (w4.heap[w3.heap.size]? = some (.cells #[.int .i64 _, .string ⟨#[]⟩, .int .i64 r3, .slice none 0 0] 42 (0, 0))) := ⟨k1.blk (heap_alloc_new _ _) (Nat.ne_of_gt (Tp.lt T3.out)) (by simp)⟩; have BX4 : Aside0 (w4.heap[W.heap.size]? = some (.cells #[.int .i64 0, .string ⟨#[]⟩, .int .i64 0, .slice none 0 0] 42 (0, 0))) := ⟨k1.blk ((al_old _ _ (blk_lt BX3.out)).trans BX3.out) (Nat.ne_of_gt GL.out) (by simp)⟩; have K4 : Aside0 (KeepBut W w4 g none) := ⟨K3.out.trans ((KeepBut.of_below (below_alloc (Below.refl _ w3) _) g none).trans k1 (.inl rfl)) (.inl rfl)⟩; have q2 := eq_true (show r4 < 13 by omega); have q0 := eq_true (show (0 : Int) ≤ (r4 : Int) by omega); have q1 := eq_true (show (r4 : Int) < 13 by omega); have R4 := Aside0.mk hr4; have z0 : w4.cell? ⟨W.heap.size, 0, none⟩ = some (.int .i64 0) := (blk_cell BX4.out 0).trans rfl; have z1 : w4.cell? ⟨W.heap.size, 1, none⟩ = some (.string ⟨#[]⟩) := (blk_cell BX4.out 1).trans rfl; have z2 : w4.cell? ⟨W.heap.size, 2, none⟩ = some (.int .i64 0) := (blk_cell BX4.out 2).trans rfl; have z3 : w4.cell? ⟨W.heap.size, 3, none⟩ = some (.slice none 0 0) := (blk_cell BX4.out 3).trans rfl; have y0 := blk_frozen BX4.out 0; have y1 := blk_frozen BX4.out 1; have y2 := blk_frozen BX4.out 2; have y3 := blk_frozen BX4.out 3; have hlw4 : W.heap.size < w4.heap.size := blk_lt BX4.out; have u0 : w4.cell? ⟨w3.heap.size, 0, none⟩ = some (.int .i64 _) := (blk_cell B6.out 0).trans rfl; have u1 : w4.cell? ⟨w3.heap.size, 1, none⟩ = some (.string ⟨#[]⟩) := (blk_cell B6.out 1).trans rfl; have u2 : w4.cell? ⟨w3.heap.size, 2, none⟩ = some (.int .i64 r3) := (blk_cell B6.out 2).trans rfl; have u3 : w4.cell? ⟨w3.heap.size, 3, none⟩ = some (.slice none 0 0) := (blk_cell B6.out 3).trans rfl; have v0 := blk_frozen B6.out 0; have v1 := blk_frozen B6.out 1; have v2 := blk_frozen B6.out 2; have v3 := blk_frozen B6.out 3; have hl6 : w3.heap.size < w4.heap.size := blk_lt B6.out; clear h1 k1 hr4))
      have GW3 : Aside0 (g < w3.heap.size ∧ W.heap.size < w3.heap.size) := ⟨⟨T3.out.lt, blk_lt BX3.out⟩⟩
      have T5 := Aside0.mk (T4.out.set HW3.out (Nat.ne_of_lt GW3.out.1) 1 (.string (wdB r4)))
      have K5 := Aside0.mk (keep_set K4.out (Nat.le_of_lt GW3.out.2) 1 (.string (wdB r4)))
      have BX5 := Aside0.mk (blk_far BX4.out (p := ⟨w3.heap.size, 1, none⟩) (Nat.ne_of_lt GW3.out.2) (.string (wdB r4)))
      have B65 : Aside0 ((w4.setCell ⟨w3.heap.size, 1, none⟩ (.string (wdB r4))).heap[w3.heap.size]? = some (.cells #[.int .i64 _, .string (wdB r4), .int .i64 r3, .slice none 0 0] 42 (0, 0))) := ⟨blk_put B6.out 1 _ rfl⟩
      clear z0 z1 z2 z3 y0 y1 y2 y3 u0 u1 u2 u3 v0 v1 v2 v3 q0 q1 q2 hl6 hlw4 B6 BX4 K4 T4
      generalize w4.setCell ⟨w3.heap.size, 1, none⟩ (.string (wdB r4)) = w5 at *
      have z0 : w5.cell? ⟨W.heap.size, 0, none⟩ = some (.int .i64 0) := (blk_cell BX5.out 0).trans rfl
      have z1 : w5.cell? ⟨W.heap.size, 1, none⟩ = some (.string ⟨#[]⟩) := (blk_cell BX5.out 1).trans rfl
      have z2 : w5.cell? ⟨W.heap.size, 2, none⟩ = some (.int .i64 0) := (blk_cell BX5.out 2).trans rfl
      have z3 : w5.cell? ⟨W.heap.size, 3, none⟩ = some (.slice none 0 0) := (blk_cell BX5.out 3).trans rfl
      have y0 := blk_frozen BX5.out 0
      have y1 := blk_frozen BX5.out 1
      have y2 := blk_frozen BX5.out 2
      have y3 := blk_frozen BX5.out 3
      have hlw5 : W.heap.size < w5.heap.size := blk_lt BX5.out
      have u0 : w5.cell? ⟨w3.heap.size, 0, none⟩ = some (.int .i64 _) := (blk_cell B65.out 0).trans rfl
      have u1 : w5.cell? ⟨w3.heap.size, 1, none⟩ = some (.string (wdB r4)) := (blk_cell B65.out 1).trans rfl
      have u2 : w5.cell? ⟨w3.heap.size, 2, none⟩ = some (.int .i64 r3) := (blk_cell B65.out 2).trans rfl
      have u3 : w5.cell? ⟨w3.heap.size, 3, none⟩ = some (.slice none 0 0) := (blk_cell B65.out 3).trans rfl
      have hl6 : w3.heap.size < w5.heap.size := blk_lt B65.out
      have HL5 := Aside0.mk hlw5
      go_wp2_with fail
      refine bodyPost_ret (results_cell_row rfl _ _ W.heap.size 42 #[.int .i64 _, .string (wdB r4), .int .i64 r3, .slice none 0 0] (0, 0) _ rfl (by first | (with_reducible exact box_set4 BX5.out _ _ _ _) | (rw [al_old _ _ (by simpa [World.setCell] using HL5.out)]; exact box_set4 BX5.out _ _ _ _)) Tryd.underlying42 rfl (by kernel_rfl)) rfl ?_
      refine ⟨⟨_, (wdB r4), r3, []⟩, none, 0, rfl, made12 (i + 1) _ _ _ (by omega) (wdB_name r4 (by have := R4.out; omega)) (wdB_len r4), Nat.le_refl _, ?_, ?_, Foot.nil _ _⟩
      · with_reducible first | exact set4_tp T5.out HWW.out (Nat.ne_of_lt GL.out) _ _ _ _ | exact (set4_tp T5.out HWW.out (Nat.ne_of_lt GL.out) _ _ _ _).alloc _
      · with_reducible first | exact set4_keep K5.out (Nat.le_refl _) _ _ _ _ | exact keep_alloc (set4_keep K5.out (Nat.le_refl _) _ _ _ _) _
  · rcases hk with rfl | rfl
    all_goals
      clear HK
      have z0 : w3.cell? ⟨W.heap.size, 0, none⟩ = some (.int .i64 0) := (blk_cell BX3.out 0).trans rfl
      have z1 : w3.cell? ⟨W.heap.size, 1, none⟩ = some (.string ⟨#[]⟩) := (blk_cell BX3.out 1).trans rfl
      have z2 : w3.cell? ⟨W.heap.size, 2, none⟩ = some (.int .i64 0) := (blk_cell BX3.out 2).trans rfl
      have z3 : w3.cell? ⟨W.heap.size, 3, none⟩ = some (.slice none 0 0) := (blk_cell BX3.out 3).trans rfl
      have y0 := blk_frozen BX3.out 0
      have y1 := blk_frozen BX3.out 1
      have y2 := blk_frozen BX3.out 2
      have y3 := blk_frozen BX3.out 3
      have hlw3 : W.heap.size < w3.heap.size := blk_lt BX3.out
      have HL3 := Aside0.mk hlw3
      go_wp2_with fail
      refine bodyPost_ret (results_cell_row rfl _ _ W.heap.size 42 #[.int .i64 _, .string ⟨#[]⟩, .int .i64 r3, .slice none 0 0] (0, 0) _ rfl (by first | (with_reducible exact box_set4 BX3.out _ _ _ _) | (rw [al_old _ _ (by simpa [World.setCell] using HL3.out)]; exact box_set4 BX3.out _ _ _ _)) Tryd.underlying42 rfl (by kernel_rfl)) rfl ?_
      refine ⟨⟨_, ⟨#[]⟩, r3, []⟩, none, 0, rfl, made34 (i + 1) _ _ (by omega), Nat.le_refl _, ?_, ?_, Foot.nil _ _⟩
      · with_reducible first | exact set4_tp T3.out HWW.out (Nat.ne_of_lt GL.out) _ _ _ _ | exact (set4_tp T3.out HWW.out (Nat.ne_of_lt GL.out) _ _ _ _).alloc _
      · with_reducible first | exact set4_keep K3.out (Nat.le_refl _) _ _ _ _ | exact keep_alloc (set4_keep K3.out (Nat.le_refl _) _ _ _ _) _
  · rcases hk with rfl | rfl | rfl
    all_goals
      clear HK
      go_wp2_with fail
      go_at_call 59
      refine (H59.out _ ?t4).mono ?_
      case t4 => exact T3.out.keep (by repeat (first | (with_reducible first | exact Below.refl _ _ | apply below_alloc | apply pw_below_drewN | apply below_drew1 | refine below_set ?_ (Nat.le_refl _)) | assumption))
      rintro e w4 ⟨t1, A1, c1, rfl, md1, hc1, h1, k1, f1⟩
      have T4 := Aside0.mk h1
      have B6 : Aside0 (w4.heap[w3.heap.size]? = some (.cells #[.int .i64 _, .string ⟨#[]⟩, .int .i64 r3, .slice none 0 0] 42 (0, 0))) := ⟨k1.blk (heap_alloc_new _ _) (Nat.ne_of_gt (Tp.lt T3.out)) (by simp)⟩
      have BX4 : Aside0 (w4.heap[W.heap.size]? = some (.cells #[.int .i64 0, .string ⟨#[]⟩, .int .i64 0, .slice none 0 0] 42 (0, 0))) := ⟨k1.blk ((al_old _ _ (blk_lt BX3.out)).trans BX3.out) (Nat.ne_of_gt GL.out) (by simp)⟩
      have K4 : Aside0 (KeepBut W w4 g none) := ⟨K3.out.trans ((KeepBut.of_below (below_alloc (Below.refl _ w3) _) g none).trans k1 (.inl rfl)) (.inl rfl)⟩
      have M1 := Aside0.mk md1
      have F1 : Aside0 (Foot (w3.heap.size + 1) w4 A1 t1.f3) := ⟨by rw [← alloc_size1 w3 (.cells #[.int .i64 _, .string ⟨#[]⟩, .int .i64 r3, .slice none 0 0] 42)]; exact f1⟩
      have C1 := Aside0.mk hc1
      clear h1 k1 md1 hc1 f1
      go_wp2_with fail
      have G4 : Aside0 ((w4.alloc (.cells #[.int .i64 t1.f0, .string t1.f1, .int .i64 t1.f2, .slice A1 t1.f3.length c1] 42)).heap[w4.heap.size]? = some (.cells #[.int .i64 t1.f0, .string t1.f1, .int .i64 t1.f2, .slice A1 t1.f3.length c1] 42 (0, 0))) := ⟨heap_alloc_new _ _⟩
      have NE : Aside0 (w4.heap.size ≠ w3.heap.size) := ⟨Nat.ne_of_gt (blk_lt B6.out)⟩
      go_region_held2 (fun W' => W'.cell? ⟨w4.heap.size, 0, none⟩ = some (.int .i64 t1.f0) ∧ W'.cell? ⟨w4.heap.size, 1, none⟩ = some (.string t1.f1) ∧ W'.cell? ⟨w4.heap.size, 2, none⟩ = some (.int .i64 t1.f2) ∧ W'.cell? ⟨w4.heap.size, 3, none⟩ = some (.slice A1 t1.f3.length c1)) ((first | exact cells4 G4.out | exact cells4 B7.out | exact cells4 ((al_old _ _ (blk_lt B7.out)).trans B7.out) | exact cells4 (blk_alloc (blk_far (p := ⟨w3.heap.size, 3, none⟩) B7.out NE.out _) _))) ((go_at_call 59; refine (H59.out _ ?t5).mono ?_; (case t5 => exact T4.out.keep (by repeat (first | (with_reducible first | exact Below.refl _ _ | apply below_alloc | apply pw_below_drewN | apply below_drew1 | refine below_set ?_ (Nat.le_refl _)) | assumption))); rintro e w5 ⟨t2, A2, c2, rfl, md2, hc2, h1, k1, f2⟩; have T5 := Aside0.mk h1; have B7 : Aside0 (w5.heap[w4.heap.size]? = some (.cells #[.int .i64 t1.f0, .string t1.f1, .int .i64 t1.f2, .slice A1 t1.f3.length c1] 42 (0, 0))) := ⟨k1.blk (heap_alloc_new _ _) (Nat.ne_of_gt (Tp.lt T4.out)) (by simp)⟩; have B65 : Aside0 (w5.heap[w3.heap.size]? = some (.cells #[.int .i64 _, .string ⟨#[]⟩, .int .i64 r3, .slice none 0 0] 42 (0, 0))) := ⟨k1.blk ((al_old _ _ (blk_lt B6.out)).trans B6.out) (Nat.ne_of_gt (Tp.lt T3.out)) (by simp)⟩; have BX5 : Aside0 (w5.heap[W.heap.size]? = some (.cells #[.int .i64 0, .string ⟨#[]⟩, .int .i64 0, .slice none 0 0] 42 (0, 0))) := ⟨k1.blk ((al_old _ _ (blk_lt BX4.out)).trans BX4.out) (Nat.ne_of_gt GL.out) (by simp)⟩; have KK : Aside0 (KeepBut w4 w5 g none) := ⟨(KeepBut.of_below (below_alloc (Below.refl _ w4) _) g none).trans k1 (.inl rfl)⟩; have K5 : Aside0 (KeepBut W w5 g none) := ⟨K4.out.trans KK.out (.inl rfl)⟩; have M2 := Aside0.mk md2; have F2 := Aside0.mk f2; have C2 := Aside0.mk hc2; have u0 : w5.cell? ⟨w3.heap.size, 0, none⟩ = some (.int .i64 _) := (blk_cell B65.out 0).trans rfl; have u1 : w5.cell? ⟨w3.heap.size, 1, none⟩ = some (.string ⟨#[]⟩) := (blk_cell B65.out 1).trans rfl; have u2 : w5.cell? ⟨w3.heap.size, 2, none⟩ = some (.int .i64 r3) := (blk_cell B65.out 2).trans rfl; have u3 : w5.cell? ⟨w3.heap.size, 3, none⟩ = some (.slice none 0 0) := (blk_cell B65.out 3).trans rfl; have v0 := blk_frozen B65.out 0; have v1 := blk_frozen B65.out 1; have v2 := blk_frozen B65.out 2; have v3 := blk_frozen B65.out 3; have hl6 : w3.heap.size < w5.heap.size := blk_lt B65.out; clear h1 k1 md2 hc2 f2))
      have HW3 : Aside0 (w0.heap.size ≤ w3.heap.size ∧ g < w3.heap.size ∧ W.heap.size < w3.heap.size ∧ w3.heap.size < w4.heap.size ∧ w4.heap.size < w5.heap.size) := ⟨⟨below_size T3.out.1, T3.out.lt, blk_lt BX3.out, blk_lt B6.out, blk_lt B7.out⟩⟩
      have T6 := Aside0.mk ((T5.out.set HW3.out.1 (Nat.ne_of_lt HW3.out.2.1) 3 (.slice (some ⟨w5.heap.size, 0, none⟩) 2 2)).alloc (.cells #[.int .i64 t1.f0, .string t1.f1, .int .i64 t1.f2, .slice A1 t1.f3.length c1, .int .i64 t2.f0, .string t2.f1, .int .i64 t2.f2, .slice A2 t2.f3.length c2] 42))
      have K6 := Aside0.mk (keep_alloc (keep_set K5.out (Nat.le_of_lt HW3.out.2.2.1) 3 (.slice (some ⟨w5.heap.size, 0, none⟩) 2 2)) (.cells #[.int .i64 t1.f0, .string t1.f1, .int .i64 t1.f2, .slice A1 t1.f3.length c1, .int .i64 t2.f0, .string t2.f1, .int .i64 t2.f2, .slice A2 t2.f3.length c2] 42))
      have BX6 := Aside0.mk (blk_alloc (blk_far BX5.out (p := ⟨w3.heap.size, 3, none⟩) (Nat.ne_of_lt HW3.out.2.2.1) (.slice (some ⟨w5.heap.size, 0, none⟩) 2 2)) (.cells #[.int .i64 t1.f0, .string t1.f1, .int .i64 t1.f2, .slice A1 t1.f3.length c1, .int .i64 t2.f0, .string t2.f1, .int .i64 t2.f2, .slice A2 t2.f3.length c2] 42))
      have B66 : Aside0 (((w5.setCell ⟨w3.heap.size, 3, none⟩ (.slice (some ⟨w5.heap.size, 0, none⟩) 2 2)).alloc (.cells #[.int .i64 t1.f0, .string t1.f1, .int .i64 t1.f2, .slice A1 t1.f3.length c1, .int .i64 t2.f0, .string t2.f1, .int .i64 t2.f2, .slice A2 t2.f3.length c2] 42)).heap[w3.heap.size]? = some (.cells #[.int .i64 _, .string ⟨#[]⟩, .int .i64 r3, .slice (some ⟨w5.heap.size, 0, none⟩) 2 2] 42 (0, 0))) := ⟨blk_alloc (blk_put B65.out 3 _ rfl) _⟩
      have BR : Aside0 (((w5.setCell ⟨w3.heap.size, 3, none⟩ (.slice (some ⟨w5.heap.size, 0, none⟩) 2 2)).alloc (.cells #[.int .i64 t1.f0, .string t1.f1, .int .i64 t1.f2, .slice A1 t1.f3.length c1, .int .i64 t2.f0, .string t2.f1, .int .i64 t2.f2, .slice A2 t2.f3.length c2] 42)).heap[w5.heap.size]? = some (.cells #[.int .i64 t1.f0, .string t1.f1, .int .i64 t1.f2, .slice A1 t1.f3.length c1, .int .i64 t2.f0, .string t2.f1, .int .i64 t2.f2, .slice A2 t2.f3.length c2] 42 (0, 0))) := ⟨al_new _ _ (by simp [World.setCell])⟩
      have AG : Aside0 (∀ k, k < w5.heap.size → k ≠ w3.heap.size → ((w5.setCell ⟨w3.heap.size, 3, none⟩ (.slice (some ⟨w5.heap.size, 0, none⟩) 2 2)).alloc (.cells #[.int .i64 t1.f0, .string t1.f1, .int .i64 t1.f2, .slice A1 t1.f3.length c1, .int .i64 t2.f0, .string t2.f1, .int .i64 t2.f2, .slice A2 t2.f3.length c2] 42)).heap[k]? = w5.heap[k]?) := ⟨fun k h1 h2 => (al_old _ _ (by simpa [World.setCell] using h1)).trans (Below.heap_setCell w5 ⟨w3.heap.size, 3, none⟩ _ k h2)⟩
      clear u0 u1 u2 u3 v0 v1 v2 v3 hl6 B65 BX5 K5 T5 G4 NE
      generalize (w5.setCell ⟨w3.heap.size, 3, none⟩ (.slice (some ⟨w5.heap.size, 0, none⟩) 2 2)).alloc (.cells #[.int .i64 t1.f0, .string t1.f1, .int .i64 t1.f2, .slice A1 t1.f3.length c1, .int .i64 t2.f0, .string t2.f1, .int .i64 t2.f2, .slice A2 t2.f3.length c2] 42) = w6 at *
      have FT : Aside0 (Foot (w3.heap.size + 1) w6 (some ⟨w5.heap.size, 0, none⟩) [t1, t2]) := ⟨fun W' hW => by
        obtain ⟨o1, o2, o3, o4, o5⟩ := HW3.out
        have hs6 : w5.heap.size < w6.heap.size := blk_lt BR.out
        refine k42_C2 ((hW _ (by omega) hs6).trans BR.out) C1.out (F1.out W' (fun k h1 h2 => ?_)) C2.out (F2.out W' (fun k h1 h2 => ?_))
        · exact (hW k h1 (by omega)).trans ((AG.out k (by omega) (by omega)).trans (KK.out.2 k h2 (by omega) (by simp)))
        · have h1' : w4.heap.size + 1 ≤ k := by rw [← alloc_size1 w4 (.cells #[.int .i64 t1.f0, .string t1.f1, .int .i64 t1.f2, .slice A1 t1.f3.length c1] 42)]; exact h1
          exact (hW k (by omega) (by omega)).trans (AG.out k h2 (by omega))⟩
      have M2' := Aside0.mk (fun (k : Int) (hk : k = 5 ∨ k = 6 ∨ k = 9) => made2 i k r3 t1 t2 hk M1.out M2.out)
      clear AG KK F1 F2 B7 B6 BX4 BR
      have z0 : w6.cell? ⟨W.heap.size, 0, none⟩ = some (.int .i64 0) := (blk_cell BX6.out 0).trans rfl
      have z1 : w6.cell? ⟨W.heap.size, 1, none⟩ = some (.string ⟨#[]⟩) := (blk_cell BX6.out 1).trans rfl
      have z2 : w6.cell? ⟨W.heap.size, 2, none⟩ = some (.int .i64 0) := (blk_cell BX6.out 2).trans rfl
      have z3 : w6.cell? ⟨W.heap.size, 3, none⟩ = some (.slice none 0 0) := (blk_cell BX6.out 3).trans rfl
      have y0 := blk_frozen BX6.out 0
      have y1 := blk_frozen BX6.out 1
      have y2 := blk_frozen BX6.out 2
      have y3 := blk_frozen BX6.out 3
      have hlw6 : W.heap.size < w6.heap.size := blk_lt BX6.out
      have u0 : w6.cell? ⟨w3.heap.size, 0, none⟩ = some (.int .i64 _) := (blk_cell B66.out 0).trans rfl
      have u1 : w6.cell? ⟨w3.heap.size, 1, none⟩ = some (.string ⟨#[]⟩) := (blk_cell B66.out 1).trans rfl
      have u2 : w6.cell? ⟨w3.heap.size, 2, none⟩ = some (.int .i64 r3) := (blk_cell B66.out 2).trans rfl
      have u3 : w6.cell? ⟨w3.heap.size, 3, none⟩ = some (.slice (some ⟨w5.heap.size, 0, none⟩) 2 2) := (blk_cell B66.out 3).trans rfl
      have hl6 : w3.heap.size < w6.heap.size := blk_lt B66.out
      have HL6 := Aside0.mk hlw6
      go_wp2_with fail
      refine bodyPost_ret (results_cell_row rfl _ _ W.heap.size 42 #[.int .i64 _, .string ⟨#[]⟩, .int .i64 r3, .slice (some ⟨w5.heap.size, 0, none⟩) 2 2] (0, 0) _ rfl (by first | (with_reducible exact box_set4 BX6.out _ _ _ _) | (rw [al_old _ _ (by simpa [World.setCell] using HL6.out)]; exact box_set4 BX6.out _ _ _ _)) Tryd.underlying42 rfl (by kernel_rfl)) rfl ?_
      refine ⟨⟨_, ⟨#[]⟩, r3, [t1, t2]⟩, (some ⟨w5.heap.size, 0, none⟩), 2, rfl, M2'.out _ (by omega), Nat.le_refl _, ?_, ?_, FT.out.set4 (by have := HW3.out; omega) (by have := HW3.out; omega) _ _ _ _⟩
      · with_reducible first | exact set4_tp T6.out HWW.out (Nat.ne_of_lt GL.out) _ _ _ _ | exact (set4_tp T6.out HWW.out (Nat.ne_of_lt GL.out) _ _ _ _).alloc _
      · with_reducible first | exact set4_keep K6.out (Nat.le_refl _) _ _ _ _ | exact keep_alloc (set4_keep K6.out (Nat.le_refl _) _ _ _ _) _
  · rcases hk with rfl | rfl
    all_goals
      clear HK
      go_wp2_with fail
      go_at_call 76
      refine (NX.out 4 _ ?t4 (by omega) (by omega)).mono ?_
      case t4 => exact T3.out.keep (by repeat (first | (with_reducible first | exact Below.refl _ _ | apply below_alloc | apply pw_below_drewN | apply below_drew1 | refine below_set ?_ (Nat.le_refl _)) | assumption))
      rintro e w4 ⟨r4, hr4, rfl, h1, k1⟩
      have T4 := Aside0.mk h1
      have B6 : Aside0 (w4.heap[w3.heap.size]? = some (.cells #[.int .i64 _, .string ⟨#[]⟩, .int .i64 r3, .slice none 0 0] 42 (0, 0))) := ⟨k1.blk ((al_old _ _ (by simp)).trans (heap_alloc_new _ _)) (Nat.ne_of_gt (Tp.lt T3.out)) (by simp)⟩
      have BN : Aside0 (w4.heap[w3.heap.size + 1]? = some (.cells #[.string ⟨#[97]⟩, .string ⟨#[78]⟩, .string ⟨#[120]⟩, .string ⟨#[95]⟩] 9 (0, 0))) := ⟨k1.blk (heap_alloc_new2 _ _ _) (by have := Tp.lt T3.out; omega) (by simp)⟩
      have BX4 : Aside0 (w4.heap[W.heap.size]? = some (.cells #[.int .i64 0, .string ⟨#[]⟩, .int .i64 0, .slice none 0 0] 42 (0, 0))) := ⟨k1.blk ((al_old _ _ (by simp; have := blk_lt BX3.out; omega)).trans ((al_old _ _ (blk_lt BX3.out)).trans BX3.out)) (Nat.ne_of_gt GL.out) (by simp)⟩
      have K4 : Aside0 (KeepBut W w4 g none) := ⟨K3.out.trans ((KeepBut.of_below (below_alloc (below_alloc (Below.refl _ w3) _) _) g none).trans k1 (.inl rfl)) (.inl rfl)⟩
      clear h1 k1
      obtain ⟨nm, hnm, hx⟩ : ∃ nm : ByteArray, nm ∈ nmL4 ∧ w4.cell? ⟨w3.heap.size + 1, r4, none⟩ = some (.string nm) := by
        rw [blk_cell BN.out r4]
        have : r4 = 0 ∨ r4 = 1 ∨ r4 = 2 ∨ r4 = 3 := by omega
        rcases this with rfl | rfl | rfl | rfl
        · exact ⟨_, by simp [nmL4], rfl⟩
        · exact ⟨_, by simp [nmL4], rfl⟩
        · exact ⟨_, by simp [nmL4], rfl⟩
        · exact ⟨_, by simp [nmL4], rfl⟩
      have NM := Aside0.mk (nmL4_ok nm hnm)
      have q0 := eq_true (show (0 : Int) ≤ (r4 : Int) by omega)
      have q1 := eq_true (show (r4 : Int) < 4 by omega)
      clear hnm hr4
      have HW3 : Aside0 (w0.heap.size ≤ w3.heap.size ∧ g < w3.heap.size ∧ W.heap.size < w3.heap.size) := ⟨⟨below_size T3.out.1, T3.out.lt, blk_lt BX3.out⟩⟩
      have u0 : w4.cell? ⟨w3.heap.size, 0, none⟩ = some (.int .i64 _) := (blk_cell B6.out 0).trans rfl
      have u1 : w4.cell? ⟨w3.heap.size, 1, none⟩ = some (.string ⟨#[]⟩) := (blk_cell B6.out 1).trans rfl
      have u2 : w4.cell? ⟨w3.heap.size, 2, none⟩ = some (.int .i64 r3) := (blk_cell B6.out 2).trans rfl
      have u3 : w4.cell? ⟨w3.heap.size, 3, none⟩ = some (.slice none 0 0) := (blk_cell B6.out 3).trans rfl
      have v0 := blk_frozen B6.out 0
      have v1 := blk_frozen B6.out 1
      have v2 := blk_frozen B6.out 2
      have v3 := blk_frozen B6.out 3
      have hl6 : w3.heap.size < w4.heap.size := blk_lt B6.out
      go_wp2_with fail
      have T5 := Aside0.mk (T4.out.set HW3.out.1 (Nat.ne_of_lt HW3.out.2.1) 1 (.string nm))
      have K5 := Aside0.mk (keep_set K4.out (Nat.le_of_lt HW3.out.2.2) 1 (.string nm))
      have BX5 := Aside0.mk (blk_far BX4.out (p := ⟨w3.heap.size, 1, none⟩) (Nat.ne_of_lt HW3.out.2.2) (.string nm))
      have B5 : Aside0 ((w4.setCell ⟨w3.heap.size, 1, none⟩ (.string nm)).heap[w3.heap.size]? = some (.cells #[.int .i64 _, .string nm, .int .i64 r3, .slice none 0 0] 42 (0, 0))) := ⟨blk_put B6.out 1 _ rfl⟩
      clear u0 u1 u2 u3 v0 v1 v2 v3 hx q0 q1 hl6 BN B6 BX4 K4 T4
      generalize w4.setCell ⟨w3.heap.size, 1, none⟩ (.string nm) = w5 at *
      go_at_call 76
      refine (NX.out 3 _ ?t5 (by omega) (by omega)).mono ?_
      case t5 => exact T5.out.keep (by repeat (first | (with_reducible first | exact Below.refl _ _ | apply below_alloc | apply pw_below_drewN | apply below_drew1 | refine below_set ?_ (Nat.le_refl _)) | assumption))
      rintro e w6 ⟨r6, hr6, rfl, h1, k1⟩
      have Tw6 := Aside0.mk h1
      have Bw6 : Aside0 (w6.heap[w3.heap.size]? = some (.cells #[.int .i64 _, .string nm, .int .i64 r3, .slice none 0 0] 42 (0, 0))) := ⟨k1.blk B5.out (Nat.ne_of_gt HW3.out.2.1) (by simp)⟩
      have BXw6 : Aside0 (w6.heap[W.heap.size]? = some (.cells #[.int .i64 0, .string ⟨#[]⟩, .int .i64 0, .slice none 0 0] 42 (0, 0))) := ⟨k1.blk BX5.out (Nat.ne_of_gt GL.out) (by simp)⟩
      have Kw6 := Aside0.mk (K5.out.trans k1 (.inl rfl))
      have HS6 : Aside0 (w3.heap.size < w6.heap.size) := ⟨blk_lt Bw6.out⟩
      clear h1 k1 T5 K5 B5 BX5 hr6
      rcases Nat.eq_zero_or_pos r6 with rfl | h6
      · clear hi
        have u3 : w6.cell? ⟨w3.heap.size, 3, none⟩ = some (.slice none 0 0) := (blk_cell Bw6.out 3).trans rfl
        have hl6 : w3.heap.size < w6.heap.size := blk_lt Bw6.out
        go_wp2_with fail
        go_region_law ((first | (go_simp; go_at_call 59; refine (H59.out _ ?tc).mono ?_; (case tc => exact Tw6.out.keep (by repeat (first | (with_reducible first | exact Below.refl _ _ | apply below_alloc | apply pw_below_drewN | apply below_drew1 | refine below_set ?_ (Nat.le_refl _)) | assumption))); rintro e w7 ⟨t1, A1, c1, rfl, md, hc, h1, k1, f1⟩; have Tw7 := Aside0.mk h1; have KK1 : Aside0 (KeepBut w6 w7 g none) := ⟨k1⟩; have Bw7 : Aside0 (w7.heap[w3.heap.size]? = some (.cells #[.int .i64 _, .string nm, .int .i64 r3, .slice none 0 0] 42 (0, 0))) := ⟨k1.blk Bw6.out (Nat.ne_of_gt HW3.out.2.1) (by simp)⟩; have BXw7 : Aside0 (w7.heap[W.heap.size]? = some (.cells #[.int .i64 0, .string ⟨#[]⟩, .int .i64 0, .slice none 0 0] 42 (0, 0))) := ⟨k1.blk BXw6.out (Nat.ne_of_gt GL.out) (by simp)⟩; have Kw7 := Aside0.mk (Kw6.out.trans k1 (.inl rfl)); have M1 := Aside0.mk md; have C1 := Aside0.mk hc; have F1 : Aside0 (Foot w6.heap.size w7 A1 t1.f3) := ⟨f1⟩; have u3 : w7.cell? ⟨w3.heap.size, 3, none⟩ = some (.slice none 0 0) := (blk_cell Bw7.out 3).trans rfl; have hl6 : w3.heap.size < w7.heap.size := blk_lt Bw7.out; clear h1 k1 md hc f1) | (refine ts_tree (W := w7) (by rfl) (.tmp 69) (.tmp 74) rfl w7.heap.size 0 (.slice none 0 0) [] _ _ _ _ rfl rfl ⟨rfl, .inl ⟨rfl, rfl⟩⟩ (Nat.le_refl _) (by omega) ⟨rfl, rfl, rfl, rfl⟩ ?_; intro v1 w8 ho hg hat; have GR1 : Aside0 (w7.grownBy w8 none) := ⟨hg⟩; have Tw8 := Aside0.mk (Tw7.out.grown GR1.out (by simp) (fun k e => by cases e)); have Kw8 := Aside0.mk (keep_grown Kw7.out GR1.out (fun k e => by cases e)); have Bw8 : Aside0 (w8.heap[w3.heap.size]? = some (.cells #[.int .i64 _, .string nm, .int .i64 r3, .slice none 0 0] 42 (0, 0))) := ⟨(GR1.out.block _ (blk_lt Bw7.out) (by simp)).trans Bw7.out⟩; have BXw8 : Aside0 (w8.heap[W.heap.size]? = some (.cells #[.int .i64 0, .string ⟨#[]⟩, .int .i64 0, .slice none 0 0] 42 (0, 0))) := ⟨(GR1.out.block _ (blk_lt BXw7.out) (by simp)).trans BXw7.out⟩; obtain ⟨R1, cc1, cur1, rfl, hcc, hbs, hcur, htk⟩ := own_tree1 ho; have HOc1 := Aside0.mk ho; have CUR1 := Aside0.mk hcur; have TK1 := Aside0.mk htk; have CC1 := Aside0.mk hcc; have BS1 := Aside0.mk hbs; have u0 : w8.cell? ⟨w3.heap.size, 0, none⟩ = some (.int .i64 _) := (blk_cell Bw8.out 0).trans rfl; have u1 : w8.cell? ⟨w3.heap.size, 1, none⟩ = some (.string nm) := (blk_cell Bw8.out 1).trans rfl; have u2 : w8.cell? ⟨w3.heap.size, 2, none⟩ = some (.int .i64 r3) := (blk_cell Bw8.out 2).trans rfl; have u3 : w8.cell? ⟨w3.heap.size, 3, none⟩ = some (.slice none 0 0) := (blk_cell Bw8.out 3).trans rfl; have v0 := blk_frozen Bw8.out 0; have v1 := blk_frozen Bw8.out 1; have v2 := blk_frozen Bw8.out 2; have v3 := blk_frozen Bw8.out 3; have hl7 : w3.heap.size < w8.heap.size := blk_lt Bw8.out; clear ho hg hat hcc hbs hcur htk)))
        all_goals
          have Tw9 := Aside0.mk (Tw8.out.set HW3.out.1 (Nat.ne_of_lt HW3.out.2.1) 3 (.slice (some ⟨R1, 0, none⟩) 1 cc1))
          have Kw9 := Aside0.mk (keep_set Kw8.out (Nat.le_of_lt HW3.out.2.2) 3 (.slice (some ⟨R1, 0, none⟩) 1 cc1))
          have BXw9 := Aside0.mk (blk_far BXw8.out (p := ⟨w3.heap.size, 3, none⟩) (Nat.ne_of_lt HW3.out.2.2) (.slice (some ⟨R1, 0, none⟩) 1 cc1))
          have Bw9 : Aside0 ((w8.setCell ⟨w3.heap.size, 3, none⟩ (.slice (some ⟨R1, 0, none⟩) 1 cc1)).heap[w3.heap.size]? = some (.cells #[.int .i64 _, .string nm, .int .i64 r3, .slice (some ⟨R1, 0, none⟩) 1 cc1] 42 (0, 0))) := ⟨blk_put Bw8.out 3 _ rfl⟩
          have L7 : Aside0 (w3.heap.size < w7.heap.size) := ⟨blk_lt Bw7.out⟩
          have CUR9 := Aside0.mk (blk_far CUR1.out (p := ⟨w3.heap.size, 3, none⟩) (show R1 ≠ w3.heap.size by have := L7.out; have := BS1.out; omega) (.slice (some ⟨R1, 0, none⟩) 1 cc1))
          have HO9 := Aside0.mk (own_setCell HOc1.out (p := ⟨w3.heap.size, 3, none⟩) (by have := L7.out; have := BS1.out; intro e; have e2 : w3.heap.size = R1 := Option.some.inj e; omega) (.slice (some ⟨R1, 0, none⟩) 1 cc1))
          have AG9 : Aside0 (∀ k, k < w7.heap.size → k ≠ w3.heap.size → (w8.setCell ⟨w3.heap.size, 3, none⟩ (.slice (some ⟨R1, 0, none⟩) 1 cc1)).heap[k]? = w7.heap[k]?) := ⟨fun k h1 h2 => (Below.heap_setCell w8 ⟨w3.heap.size, 3, none⟩ _ k h2).trans (GR1.out.block k h1 (by simp))⟩
          clear u0 u1 u2 u3 v0 v1 v2 v3 hl7 Tw8 Kw8 BXw8 Bw8 HOc1 CUR1 GR1
          generalize w8.setCell ⟨w3.heap.size, 3, none⟩ (.slice (some ⟨R1, 0, none⟩) 1 cc1) = w9 at *
          have NG : Aside0 (g < R1 ∧ W.heap.size < R1 ∧ w0.heap.size ≤ R1 ∧ w3.heap.size < R1 ∧ w7.heap.size ≤ R1 ∧ R1 < w9.heap.size ∧ w6.heap.size ≤ w7.heap.size) := ⟨by have a1 := L7.out; have a2 := BS1.out; have a3 := HW3.out; have a4 := KK1.out.1; have a5 : w6.heap.size ≤ w7.heap.size := a4; have a6 := blk_lt CUR9.out; omega⟩
          have FT : Aside0 (Foot (w3.heap.size + 1) w9 (some ⟨R1, 0, none⟩) [t1]) := ⟨fun W' hW => k42_T1 ((hW R1 (by have := NG.out; omega) (by have := NG.out; omega)).trans CUR9.out) TK1.out C1.out (F1.out W' (fun k h1 h2 => by have a1 := NG.out; have a2 := HS6.out; exact (hW k (by omega) (by omega)).trans (AG9.out k h2 (by omega))))⟩
          have z0 : w9.cell? ⟨W.heap.size, 0, none⟩ = some (.int .i64 0) := (blk_cell BXw9.out 0).trans rfl
          have z1 : w9.cell? ⟨W.heap.size, 1, none⟩ = some (.string ⟨#[]⟩) := (blk_cell BXw9.out 1).trans rfl
          have z2 : w9.cell? ⟨W.heap.size, 2, none⟩ = some (.int .i64 0) := (blk_cell BXw9.out 2).trans rfl
          have z3 : w9.cell? ⟨W.heap.size, 3, none⟩ = some (.slice none 0 0) := (blk_cell BXw9.out 3).trans rfl
          have y0 := blk_frozen BXw9.out 0
          have y1 := blk_frozen BXw9.out 1
          have y2 := blk_frozen BXw9.out 2
          have y3 := blk_frozen BXw9.out 3
          have hlw9 : W.heap.size < w9.heap.size := blk_lt BXw9.out
          have u0 : w9.cell? ⟨w3.heap.size, 0, none⟩ = some (.int .i64 _) := (blk_cell Bw9.out 0).trans rfl
          have u1 : w9.cell? ⟨w3.heap.size, 1, none⟩ = some (.string nm) := (blk_cell Bw9.out 1).trans rfl
          have u2 : w9.cell? ⟨w3.heap.size, 2, none⟩ = some (.int .i64 r3) := (blk_cell Bw9.out 2).trans rfl
          have u3 : w9.cell? ⟨w3.heap.size, 3, none⟩ = some (.slice (some ⟨R1, 0, none⟩) 1 cc1) := (blk_cell Bw9.out 3).trans rfl
          have hl6 : w3.heap.size < w9.heap.size := blk_lt Bw9.out
          have HLx := Aside0.mk hlw9
          go_wp2_with fail
          refine bodyPost_ret (results_cell_row rfl _ _ W.heap.size 42 #[.int .i64 _, .string nm, .int .i64 r3, .slice (some ⟨R1, 0, none⟩) 1 cc1] (0, 0) _ rfl (by first | (with_reducible exact box_set4 BXw9.out _ _ _ _) | (rw [al_old _ _ (by simpa [World.setCell] using HLx.out)]; exact box_set4 BXw9.out _ _ _ _)) Tryd.underlying42 rfl (by kernel_rfl)) rfl ?_
          refine ⟨⟨_, nm, r3, [t1]⟩, (some ⟨R1, 0, none⟩), cc1, rfl, madeB1 i _ r3 nm t1 (by omega) NM.out.1 NM.out.2 M1.out, CC1.out, ?_, ?_, FT.out.set4 (by have := HW3.out; omega) (by have := HW3.out; omega) _ _ _ _⟩
          · with_reducible first | exact set4_tp Tw9.out HWW.out (Nat.ne_of_lt GL.out) _ _ _ _ | exact (set4_tp Tw9.out HWW.out (Nat.ne_of_lt GL.out) _ _ _ _).alloc _
          · with_reducible first | exact set4_keep Kw9.out (Nat.le_refl _) _ _ _ _ | exact keep_alloc (set4_keep Kw9.out (Nat.le_refl _) _ _ _ _) _
      · have q6 := eq_true (show (0 : Int) < (r6 : Int) by omega)
        have q6' := eq_true h6
        clear hi
        have u3 : w6.cell? ⟨w3.heap.size, 3, none⟩ = some (.slice none 0 0) := (blk_cell Bw6.out 3).trans rfl
        have hl6 : w3.heap.size < w6.heap.size := blk_lt Bw6.out
        go_wp2_with fail
        go_region_law ((first | (go_simp; go_at_call 59; refine (H59.out _ ?tc).mono ?_; (case tc => exact Tw6.out.keep (by repeat (first | (with_reducible first | exact Below.refl _ _ | apply below_alloc | apply pw_below_drewN | apply below_drew1 | refine below_set ?_ (Nat.le_refl _)) | assumption))); rintro e w7 ⟨t1, A1, c1, rfl, md, hc, h1, k1, f1⟩; have Tw7 := Aside0.mk h1; have KK1 : Aside0 (KeepBut w6 w7 g none) := ⟨k1⟩; have Bw7 : Aside0 (w7.heap[w3.heap.size]? = some (.cells #[.int .i64 _, .string nm, .int .i64 r3, .slice none 0 0] 42 (0, 0))) := ⟨k1.blk Bw6.out (Nat.ne_of_gt HW3.out.2.1) (by simp)⟩; have BXw7 : Aside0 (w7.heap[W.heap.size]? = some (.cells #[.int .i64 0, .string ⟨#[]⟩, .int .i64 0, .slice none 0 0] 42 (0, 0))) := ⟨k1.blk BXw6.out (Nat.ne_of_gt GL.out) (by simp)⟩; have Kw7 := Aside0.mk (Kw6.out.trans k1 (.inl rfl)); have M1 := Aside0.mk md; have C1 := Aside0.mk hc; have F1 : Aside0 (Foot w6.heap.size w7 A1 t1.f3) := ⟨f1⟩; have u3 : w7.cell? ⟨w3.heap.size, 3, none⟩ = some (.slice none 0 0) := (blk_cell Bw7.out 3).trans rfl; have hl6 : w3.heap.size < w7.heap.size := blk_lt Bw7.out; clear h1 k1 md hc f1) | (refine ts_tree (W := w7) (by rfl) (.tmp 60) (.tmp 65) rfl w7.heap.size 0 (.slice none 0 0) [] _ _ _ _ rfl rfl ⟨rfl, .inl ⟨rfl, rfl⟩⟩ (Nat.le_refl _) (by omega) ⟨rfl, rfl, rfl, rfl⟩ ?_; intro v1 w8 ho hg hat; have GR1 : Aside0 (w7.grownBy w8 none) := ⟨hg⟩; have Tw8 := Aside0.mk (Tw7.out.grown GR1.out (by simp) (fun k e => by cases e)); have Kw8 := Aside0.mk (keep_grown Kw7.out GR1.out (fun k e => by cases e)); have Bw8 : Aside0 (w8.heap[w3.heap.size]? = some (.cells #[.int .i64 _, .string nm, .int .i64 r3, .slice none 0 0] 42 (0, 0))) := ⟨(GR1.out.block _ (blk_lt Bw7.out) (by simp)).trans Bw7.out⟩; have BXw8 : Aside0 (w8.heap[W.heap.size]? = some (.cells #[.int .i64 0, .string ⟨#[]⟩, .int .i64 0, .slice none 0 0] 42 (0, 0))) := ⟨(GR1.out.block _ (blk_lt BXw7.out) (by simp)).trans BXw7.out⟩; obtain ⟨R1, cc1, cur1, rfl, hcc, hbs, hcur, htk⟩ := own_tree1 ho; have HOc1 := Aside0.mk ho; have CUR1 := Aside0.mk hcur; have TK1 := Aside0.mk htk; have CC1 := Aside0.mk hcc; have BS1 := Aside0.mk hbs; have u0 : w8.cell? ⟨w3.heap.size, 0, none⟩ = some (.int .i64 _) := (blk_cell Bw8.out 0).trans rfl; have u1 : w8.cell? ⟨w3.heap.size, 1, none⟩ = some (.string nm) := (blk_cell Bw8.out 1).trans rfl; have u2 : w8.cell? ⟨w3.heap.size, 2, none⟩ = some (.int .i64 r3) := (blk_cell Bw8.out 2).trans rfl; have u3 : w8.cell? ⟨w3.heap.size, 3, none⟩ = some (.slice none 0 0) := (blk_cell Bw8.out 3).trans rfl; have v0 := blk_frozen Bw8.out 0; have v1 := blk_frozen Bw8.out 1; have v2 := blk_frozen Bw8.out 2; have v3 := blk_frozen Bw8.out 3; have hl7 : w3.heap.size < w8.heap.size := blk_lt Bw8.out; clear ho hg hat hcc hbs hcur htk)))
        all_goals
          have Tw9 := Aside0.mk (Tw8.out.set HW3.out.1 (Nat.ne_of_lt HW3.out.2.1) 3 (.slice (some ⟨R1, 0, none⟩) 1 cc1))
          have Kw9 := Aside0.mk (keep_set Kw8.out (Nat.le_of_lt HW3.out.2.2) 3 (.slice (some ⟨R1, 0, none⟩) 1 cc1))
          have BXw9 := Aside0.mk (blk_far BXw8.out (p := ⟨w3.heap.size, 3, none⟩) (Nat.ne_of_lt HW3.out.2.2) (.slice (some ⟨R1, 0, none⟩) 1 cc1))
          have Bw9 : Aside0 ((w8.setCell ⟨w3.heap.size, 3, none⟩ (.slice (some ⟨R1, 0, none⟩) 1 cc1)).heap[w3.heap.size]? = some (.cells #[.int .i64 _, .string nm, .int .i64 r3, .slice (some ⟨R1, 0, none⟩) 1 cc1] 42 (0, 0))) := ⟨blk_put Bw8.out 3 _ rfl⟩
          have L7 : Aside0 (w3.heap.size < w7.heap.size) := ⟨blk_lt Bw7.out⟩
          have CUR9 := Aside0.mk (blk_far CUR1.out (p := ⟨w3.heap.size, 3, none⟩) (show R1 ≠ w3.heap.size by have := L7.out; have := BS1.out; omega) (.slice (some ⟨R1, 0, none⟩) 1 cc1))
          have HO9 := Aside0.mk (own_setCell HOc1.out (p := ⟨w3.heap.size, 3, none⟩) (by have := L7.out; have := BS1.out; intro e; have e2 : w3.heap.size = R1 := Option.some.inj e; omega) (.slice (some ⟨R1, 0, none⟩) 1 cc1))
          have AG9 : Aside0 (∀ k, k < w7.heap.size → k ≠ w3.heap.size → (w8.setCell ⟨w3.heap.size, 3, none⟩ (.slice (some ⟨R1, 0, none⟩) 1 cc1)).heap[k]? = w7.heap[k]?) := ⟨fun k h1 h2 => (Below.heap_setCell w8 ⟨w3.heap.size, 3, none⟩ _ k h2).trans (GR1.out.block k h1 (by simp))⟩
          clear u0 u1 u2 u3 v0 v1 v2 v3 hl7 Tw8 Kw8 BXw8 Bw8 HOc1 CUR1 GR1
          generalize w8.setCell ⟨w3.heap.size, 3, none⟩ (.slice (some ⟨R1, 0, none⟩) 1 cc1) = w9 at *
          have NG : Aside0 (g < R1 ∧ W.heap.size < R1 ∧ w0.heap.size ≤ R1 ∧ w3.heap.size < R1 ∧ w7.heap.size ≤ R1 ∧ R1 < w9.heap.size ∧ w6.heap.size ≤ w7.heap.size) := ⟨by have a1 := L7.out; have a2 := BS1.out; have a3 := HW3.out; have a4 := KK1.out.1; have a5 : w6.heap.size ≤ w7.heap.size := a4; have a6 := blk_lt CUR9.out; omega⟩
          have FT : Aside0 (Foot (w3.heap.size + 1) w9 (some ⟨R1, 0, none⟩) [t1]) := ⟨fun W' hW => k42_T1 ((hW R1 (by have := NG.out; omega) (by have := NG.out; omega)).trans CUR9.out) TK1.out C1.out (F1.out W' (fun k h1 h2 => by have a1 := NG.out; have a2 := HS6.out; exact (hW k (by omega) (by omega)).trans (AG9.out k h2 (by omega))))⟩
          have HOw9 : Aside0 (w9.ownsRow w7.heap.size 42 4 (.slice (some ⟨R1, 0, none⟩) 1 cc1) 1 [.int .i64 t1.f0, .string t1.f1, .int .i64 t1.f2, .slice A1 t1.f3.length c1]) := ⟨HO9.out⟩
          clear HO9
          have u3 : w9.cell? ⟨w3.heap.size, 3, none⟩ = some (.slice (some ⟨R1, 0, none⟩) 1 cc1) := (blk_cell Bw9.out 3).trans rfl
          have hl6 : w3.heap.size < w9.heap.size := blk_lt Bw9.out
          go_wp2_with fail
          go_region_law ((first | (go_simp; go_at_call 59; refine (H59.out _ ?tc).mono ?_; (case tc => exact Tw9.out.keep (by repeat (first | (with_reducible first | exact Below.refl _ _ | apply below_alloc | apply pw_below_drewN | apply below_drew1 | refine below_set ?_ (Nat.le_refl _)) | assumption))); rintro e w10 ⟨t2, A2, c2, rfl, md, hc, h1, k1, f1⟩; have Tw10 := Aside0.mk h1; have KK2 : Aside0 (KeepBut w9 w10 g none) := ⟨k1⟩; have Bw10 : Aside0 (w10.heap[w3.heap.size]? = some (.cells #[.int .i64 _, .string nm, .int .i64 r3, .slice (some ⟨R1, 0, none⟩) 1 cc1] 42 (0, 0))) := ⟨k1.blk Bw9.out (Nat.ne_of_gt HW3.out.2.1) (by simp)⟩; have BXw10 : Aside0 (w10.heap[W.heap.size]? = some (.cells #[.int .i64 0, .string ⟨#[]⟩, .int .i64 0, .slice none 0 0] 42 (0, 0))) := ⟨k1.blk BXw9.out (Nat.ne_of_gt GL.out) (by simp)⟩; have Kw10 := Aside0.mk (Kw9.out.trans k1 (.inl rfl)); have M2 := Aside0.mk md; have C2 := Aside0.mk hc; have F2 : Aside0 (Foot w9.heap.size w10 A2 t2.f3) := ⟨f1⟩; have u3 : w10.cell? ⟨w3.heap.size, 3, none⟩ = some (.slice (some ⟨R1, 0, none⟩) 1 cc1) := (blk_cell Bw10.out 3).trans rfl; have hl6 : w3.heap.size < w10.heap.size := blk_lt Bw10.out; have HOw10 := Aside0.mk (KeepBut.own k1 HOw9.out (fun e => by have := NG.out; have e2 : R1 = g := Option.some.inj e; omega) (.inr (by simp [Value.ownBlock]))); clear h1 k1 md hc f1) | (refine ts_tree (W := w10) (by rfl) (.tmp 69) (.tmp 74) rfl w7.heap.size 1 (.slice (some ⟨R1, 0, none⟩) 1 cc1) [.int .i64 t1.f0, .string t1.f1, .int .i64 t1.f2, .slice A1 t1.f3.length c1] _ _ _ _ rfl rfl HOw10.out (by have := NG.out; have := KK2.out.1; omega) (by omega) ⟨rfl, rfl, rfl, rfl⟩ ?_; intro v1 w11 ho hg hat; have GR2 : Aside0 (w10.grownBy w11 (some R1)) := ⟨hg⟩; have Tw11 := Aside0.mk (Tw10.out.grown GR2.out (fun e => by have := NG.out; have := HW3.out; injection e with e; omega) (fun k e => by have := NG.out; injection e with e; omega)); have Kw11 := Aside0.mk (keep_grown Kw10.out GR2.out (fun k e => by have := NG.out; injection e with e; omega)); have Bw11 : Aside0 (w11.heap[w3.heap.size]? = some (.cells #[.int .i64 _, .string nm, .int .i64 r3, .slice (some ⟨R1, 0, none⟩) 1 cc1] 42 (0, 0))) := ⟨(GR2.out.block _ (blk_lt Bw10.out) (fun e => by have := NG.out; have := HW3.out; injection e with e; omega)).trans Bw10.out⟩; have BXw11 : Aside0 (w11.heap[W.heap.size]? = some (.cells #[.int .i64 0, .string ⟨#[]⟩, .int .i64 0, .slice none 0 0] 42 (0, 0))) := ⟨(GR2.out.block _ (blk_lt BXw10.out) (fun e => by have := NG.out; have := HW3.out; injection e with e; omega)).trans BXw10.out⟩; obtain ⟨R2, cc2, cur2, rfl, hcc, hbs, hcur, htk⟩ := own_tree2 ho; have HOc2 := Aside0.mk ho; have CUR2 := Aside0.mk hcur; have TK2 := Aside0.mk htk; have CC2 := Aside0.mk hcc; have BS2 := Aside0.mk hbs; have u0 : w11.cell? ⟨w3.heap.size, 0, none⟩ = some (.int .i64 _) := (blk_cell Bw11.out 0).trans rfl; have u1 : w11.cell? ⟨w3.heap.size, 1, none⟩ = some (.string nm) := (blk_cell Bw11.out 1).trans rfl; have u2 : w11.cell? ⟨w3.heap.size, 2, none⟩ = some (.int .i64 r3) := (blk_cell Bw11.out 2).trans rfl; have u3 : w11.cell? ⟨w3.heap.size, 3, none⟩ = some (.slice (some ⟨R1, 0, none⟩) 1 cc1) := (blk_cell Bw11.out 3).trans rfl; have v0 := blk_frozen Bw11.out 0; have v1 := blk_frozen Bw11.out 1; have v2 := blk_frozen Bw11.out 2; have v3 := blk_frozen Bw11.out 3; have hl7 : w3.heap.size < w11.heap.size := blk_lt Bw11.out; clear ho hg hat hcc hbs hcur htk)))
          all_goals
            have Tw12 := Aside0.mk (Tw11.out.set HW3.out.1 (Nat.ne_of_lt HW3.out.2.1) 3 (.slice (some ⟨R2, 0, none⟩) 2 cc2))
            have Kw12 := Aside0.mk (keep_set Kw11.out (Nat.le_of_lt HW3.out.2.2) 3 (.slice (some ⟨R2, 0, none⟩) 2 cc2))
            have BXw12 := Aside0.mk (blk_far BXw11.out (p := ⟨w3.heap.size, 3, none⟩) (Nat.ne_of_lt HW3.out.2.2) (.slice (some ⟨R2, 0, none⟩) 2 cc2))
            have Bw12 : Aside0 ((w11.setCell ⟨w3.heap.size, 3, none⟩ (.slice (some ⟨R2, 0, none⟩) 2 cc2)).heap[w3.heap.size]? = some (.cells #[.int .i64 _, .string nm, .int .i64 r3, .slice (some ⟨R2, 0, none⟩) 2 cc2] 42 (0, 0))) := ⟨blk_put Bw11.out 3 _ rfl⟩
            have CUR12 := Aside0.mk (blk_far CUR2.out (p := ⟨w3.heap.size, 3, none⟩) (show R2 ≠ w3.heap.size by have := L7.out; have := BS2.out; omega) (.slice (some ⟨R2, 0, none⟩) 2 cc2))
            have AG12 : Aside0 (∀ k, k < w10.heap.size → k ≠ w3.heap.size → k ≠ R1 → (w11.setCell ⟨w3.heap.size, 3, none⟩ (.slice (some ⟨R2, 0, none⟩) 2 cc2)).heap[k]? = w10.heap[k]?) := ⟨fun k h1 h2 h3 => (Below.heap_setCell w11 ⟨w3.heap.size, 3, none⟩ _ k h2).trans (GR2.out.block k h1 (fun e => by injection e with e; exact h3 e))⟩
            have S11 := Aside0.mk GR2.out.size
            have S12 : Aside0 (w11.heap.size = (w11.setCell ⟨w3.heap.size, 3, none⟩ (.slice (some ⟨R2, 0, none⟩) 2 cc2)).heap.size) := ⟨by simp [World.setCell]⟩
            clear u0 u1 u2 u3 v0 v1 v2 v3 hl7 Tw11 Kw11 BXw11 Bw11 CUR2 GR2 HOc2 HOw10
            generalize w11.setCell ⟨w3.heap.size, 3, none⟩ (.slice (some ⟨R2, 0, none⟩) 2 cc2) = w12 at *
            have NG2 : Aside0 (w3.heap.size < R2 ∧ R2 < w12.heap.size ∧ w9.heap.size ≤ w10.heap.size ∧ w10.heap.size ≤ w12.heap.size) := ⟨by have a1 := L7.out; have a2 := BS2.out; have a3 : w9.heap.size ≤ w10.heap.size := KK2.out.1; have a4 := S11.out; have a5 := S12.out; have a6 := blk_lt CUR12.out; omega⟩
            have FT2 : Aside0 (Foot (w3.heap.size + 1) w12 (some ⟨R2, 0, none⟩) [t1, t2]) := ⟨fun W' hW => k42_T2 ((hW R2 (by have := NG2.out; omega) (by have := NG2.out; omega)).trans CUR12.out) TK2.out C1.out (F1.out W' (fun k h1 h2 => by have a1 := NG.out; have a2 := HS6.out; have a3 := NG2.out; have a4 := HW3.out; exact (hW k (by omega) (by omega)).trans ((AG12.out k (by omega) (by omega) (by omega)).trans ((KK2.out.2 k (show k < w9.heap.size by omega) (by omega) (by simp)).trans (AG9.out k h2 (by omega)))))) C2.out (F2.out W' (fun k h1 h2 => by have a1 := NG.out; have a2 := HS6.out; have a3 := NG2.out; exact (hW k (by omega) (by omega)).trans (AG12.out k h2 (by omega) (by omega))))⟩
            have z0 : w12.cell? ⟨W.heap.size, 0, none⟩ = some (.int .i64 0) := (blk_cell BXw12.out 0).trans rfl
            have z1 : w12.cell? ⟨W.heap.size, 1, none⟩ = some (.string ⟨#[]⟩) := (blk_cell BXw12.out 1).trans rfl
            have z2 : w12.cell? ⟨W.heap.size, 2, none⟩ = some (.int .i64 0) := (blk_cell BXw12.out 2).trans rfl
            have z3 : w12.cell? ⟨W.heap.size, 3, none⟩ = some (.slice none 0 0) := (blk_cell BXw12.out 3).trans rfl
            have y0 := blk_frozen BXw12.out 0
            have y1 := blk_frozen BXw12.out 1
            have y2 := blk_frozen BXw12.out 2
            have y3 := blk_frozen BXw12.out 3
            have hlw12 : W.heap.size < w12.heap.size := blk_lt BXw12.out
            have u0 : w12.cell? ⟨w3.heap.size, 0, none⟩ = some (.int .i64 _) := (blk_cell Bw12.out 0).trans rfl
            have u1 : w12.cell? ⟨w3.heap.size, 1, none⟩ = some (.string nm) := (blk_cell Bw12.out 1).trans rfl
            have u2 : w12.cell? ⟨w3.heap.size, 2, none⟩ = some (.int .i64 r3) := (blk_cell Bw12.out 2).trans rfl
            have u3 : w12.cell? ⟨w3.heap.size, 3, none⟩ = some (.slice (some ⟨R2, 0, none⟩) 2 cc2) := (blk_cell Bw12.out 3).trans rfl
            have hl6 : w3.heap.size < w12.heap.size := blk_lt Bw12.out
            have HLx := Aside0.mk hlw12
            go_wp2_with fail
            refine bodyPost_ret (results_cell_row rfl _ _ W.heap.size 42 #[.int .i64 _, .string nm, .int .i64 r3, .slice (some ⟨R2, 0, none⟩) 2 cc2] (0, 0) _ rfl (by first | (with_reducible exact box_set4 BXw12.out _ _ _ _) | (rw [al_old _ _ (by simpa [World.setCell] using HLx.out)]; exact box_set4 BXw12.out _ _ _ _)) Tryd.underlying42 rfl (by kernel_rfl)) rfl ?_
            refine ⟨⟨_, nm, r3, [t1, t2]⟩, (some ⟨R2, 0, none⟩), cc2, rfl, madeB2 i _ r3 nm t1 t2 (by omega) NM.out.1 NM.out.2 M1.out M2.out, CC2.out, ?_, ?_, FT2.out.set4 (by have := HW3.out; omega) (by have := HW3.out; omega) _ _ _ _⟩
            · with_reducible first | exact set4_tp Tw12.out HWW.out (Nat.ne_of_lt GL.out) _ _ _ _ | exact (set4_tp Tw12.out HWW.out (Nat.ne_of_lt GL.out) _ _ _ _).alloc _
            · with_reducible first | exact set4_keep Kw12.out (Nat.le_refl _) _ _ _ _ | exact keep_alloc (set4_keep Kw12.out (Nat.le_refl _) _ _ _ _) _
end
end Go.Proofs.YtajefkjcfmfjkaaDoor
