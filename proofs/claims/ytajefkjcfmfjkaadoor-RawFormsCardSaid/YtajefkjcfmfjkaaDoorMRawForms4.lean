/- The texts of the proof of 'RawForms', joined: each part is a text of its own in wip; what the law does not use is left out. -/
import Derived.Test.YtajefkjcfmfjkaaDoorMRawForms3
import Derived.Test.YtajefkjcfmfjkaaDoorRows
namespace Go.Proofs.YtajefkjcfmfjkaaDoor
section
set_option linter.unusedVariables false
set_option linter.unusedSimpArgs false
set_option linter.deprecated false
open Go.RowKit Go.Proofs.YtajefkjcfmfjkaaDoorW.PrintWords Go.Proofs.YtajefkjcfmfjkaaDoor.PRawForms
theorem raw_any (w0 : World) (hw : WdAt w0) (g : Nat) : ∀ (i : Nat), i ≤ 100 → ∀ W, Tp w0 W g → Calls Tryd.prog 59 #[.pointer (some ⟨g, 0, none⟩), .int .i64 i] W (RawPost w0 g i W) := by
  intro i
  induction i with
  | zero => intro _ W h; exact raw_zero w0 hw g W h
  | succ i ih =>
    intro hi W h
    rw [show (((i + 1 : Nat) : Int)) = (i : Int) + 1 by omega]
    exact raw_succ w0 hw g i (by omega) W h (fun W h => ih (by omega) W h)
end
end Go.Proofs.YtajefkjcfmfjkaaDoor
namespace Go.Proofs.YtajefkjcfmfjkaaDoor
section
set_option linter.unusedVariables false
set_option linter.unusedSimpArgs false
set_option linter.deprecated false
open Go.RowKit Go.Proofs.YtajefkjcfmfjkaaDoorW.PrintWords Go.Proofs.YtajefkjcfmfjkaaDoor.PRawForms
set_option linter.unusedVariables false
attribute [local go_sem ↓] Go.wp_at_zero Go.wp_at_succ
theorem RowF.lt {P : Nat → Prop} {w : World} {A : Option Addr} {l : List S42} (h : RowF P w A l) : RowF (fun k => P k ∧ k < w.heap.size) w A l := by
  induction h with
  | mk A ds hl hc hk hr ih =>
    refine RowF.mk A ds hl (fun hp => ?_) hk ih
    obtain ⟨ad, e, hP, hh⟩ := hc hp
    obtain ⟨u0, h0⟩ := ndCs_ne hp
    have hlt := World.block_lt_of_cell? w _ (hh 0 u0 h0)
    rw [add_block] at hlt
    exact ⟨ad, e, ⟨hP, hlt⟩, hh⟩
theorem RowF.live {P : Nat → Prop} {w : World} {A : Option Addr} {l : List S42} (h : RowF P w A l) : RowF (fun k => P k ∧ ∃ a : Addr, a.block = k ∧ (w.cell? a).isSome = true) w A l := by
  induction h with
  | mk A ds hl hc hk hr ih =>
    refine RowF.mk A ds hl (fun hp => ?_) hk ih
    obtain ⟨ad, e, hP, hh⟩ := hc hp
    obtain ⟨u0, h0⟩ := ndCs_ne hp
    exact ⟨ad, e, ⟨hP, ad.add 0, add_block _ _, by rw [hh 0 u0 h0]; rfl⟩, hh⟩
/-- w with nothing in the blocks below lo -/
def wiped (lo : Nat) (w : World) : World := { w with heap := w.heap.mapIdx fun i o => if i < lo then .cells #[] 42 (0, 0) else o }
theorem wiped_at (lo : Nat) (w : World) (k : Nat) : (wiped lo w).heap[k]? = (w.heap[k]?).map fun o => if k < lo then .cells #[] 42 (0, 0) else o := by
  unfold wiped
  rw [Array.getElem?_mapIdx]
theorem foot_row {lo : Nat} {w : World} {A : Option Addr} {l : List S42} (h : Foot lo w A l) : RowF (fun k => lo ≤ k ∧ k < w.heap.size) w A l := by
  have hs : (wiped lo w).heap.size = w.heap.size := by simp [wiped]
  have hg : ∀ k, lo ≤ k → (wiped lo w).heap[k]? = w.heap[k]? := fun k hk => by
    rw [wiped_at]
    cases w.heap[k]? with
    | none => rfl
    | some o => simp only [Option.map_some]; rw [if_neg (by omega)]
  have h1 := h (wiped lo w) (fun k hk _ => hg k hk)
  have h2 : RowF (fun k => lo ≤ k ∧ k < w.heap.size) (wiped lo w) A l := by
    refine (RowF.ofC _ _ A l (Nat.le_refl _) h1).live.mono fun k hk => ?_
    obtain ⟨hk1, a, rfl, ha⟩ := hk
    refine ⟨?_, by omega⟩
    rcases Nat.lt_or_ge a.block lo with hlo | hlo
    · exfalso
      unfold World.cell? at ha
      rw [wiped_at] at ha
      cases ho : w.heap[a.block]? with
      | none => rw [ho] at ha; simp at ha
      | some o => rw [ho] at ha; simp [hlo] at ha
    · exact hlo
  exact h2.step fun k hk _ => (hg k hk.1).symm
def MkPost (n i : Nat) (w : World) (e : Ending) (w' : World) : Prop := ∃ (t : S42) (A : Option Addr) (c : Nat), e = .returned (.agg #[.int .i64 t.f0, .string t.f1, .int .i64 t.f2, .slice A t.f3.length c]) ∧ Made i t ∧ t.f3.length ≤ c ∧ RowF (fun k => n ≤ k ∧ k < w'.heap.size) w' A t.f3 ∧ Below n w w'
theorem raw_new (w : World) (hw : WdAt w) (i : Nat) (hi : i ≤ 100) (A : Option Addr) (c : Nat) (l : List Int) (ha : Kd.C (Kd.int .i64) w A l.length l) :
    Calls Tryd.prog 59 #[.pointer (some ⟨w.heap.size, 0, none⟩), .int .i64 i] (w.alloc (.cells #[.slice A l.length c, .int .i64 0] 59)) (MkPost w.heap.size i w) := by
  refine (raw_any w hw w.heap.size i hi _ ⟨below_alloc (Below.refl _ _) _, l, 0, ⟨A, c, heap_alloc_new _ _, Nat.le_refl _, ha⟩, by omega, by omega, ?_⟩).mono ?_
  · have := ha.2.1
    omega
  · rintro e w' ⟨t, A2, c2, rfl, h1, h2, h3, _, h4⟩
    exact ⟨t, A2, c2, rfl, h1, h2, (foot_row h4).mono fun k hk => ⟨by have := hk.1; rw [alloc_size1] at this; omega, hk.2⟩, h3.1⟩
def TreePost (m : List Int) (W : World) (e : Ending) (w' : World) : Prop :=
  ∃ (t : S42) (A : Option Addr) (c : Nat), e = .returned (.agg #[.int .i64 t.f0, .string t.f1, .int .i64 t.f2, .slice A t.f3.length c]) ∧ nmT t = true ∧ szT t ≤ 1000 ∧ (m = [] → Made 4 t) ∧ t.f3.length ≤ c ∧ Kd.C k42 w' A t.f3.length t.f3 ∧ Below W.heap.size W w'
def TrR (m : List Int) (W : World) (b : Nat) (k : Nat) (wr : World) : Prop :=
  ∃ (t : S42) (A : Option Addr) (c : Nat), wr.heap[b]? = some (.cells #[.int .i64 t.f0, .string t.f1, .int .i64 t.f2, .slice A t.f3.length c] 42 (0, 0)) ∧ wr.heap[W.heap.size]? = some (.cells #[.int .i64 0, .string ⟨#[]⟩, .int .i64 0, .slice none 0 0] 42 (0, 0)) ∧ nmT t = true ∧ szT t ≤ 100 + k ∧ (m = [] → Made 4 t) ∧ t.f3.length ≤ c ∧
    RowF (fun j => j ≠ W.heap.size ∧ j ≠ b ∧ j < wr.heap.size) wr A t.f3 ∧ Below W.heap.size W wr
theorem tree_end {m : List Int} {W wr : World} {b k : Nat} {t2 : S42} {A2 : Option Addr} {c2 : Nat}
    (h : wr.heap[b]? = some (.cells #[.int .i64 t2.f0, .string t2.f1, .int .i64 t2.f2, .slice A2 t2.f3.length c2] 42 (0, 0)) ∧ wr.heap[W.heap.size]? = some (.cells #[.int .i64 0, .string ⟨#[]⟩, .int .i64 0, .slice none 0 0] 42 (0, 0)) ∧ nmT t2 = true ∧ szT t2 ≤ 100 + k ∧ (m = [] → Made 4 t2) ∧ t2.f3.length ≤ c2 ∧
      RowF (fun j => j ≠ W.heap.size ∧ j ≠ b ∧ j < wr.heap.size) wr A2 t2.f3 ∧ Below W.heap.size W wr) (hk : k ≤ 7) :
    TreePost m W (.returned (.agg #[.int .i64 t2.f0, .string t2.f1, .int .i64 t2.f2, .slice A2 t2.f3.length c2])) ((((wr.setCell ⟨W.heap.size, 0, none⟩ (.int .i64 t2.f0)).setCell ⟨W.heap.size, 1, none⟩ (.string t2.f1)).setCell ⟨W.heap.size, 2, none⟩ (.int .i64 t2.f2)).setCell ⟨W.heap.size, 3, none⟩ (.slice A2 t2.f3.length c2)) := by
  obtain ⟨_, _, h3, h4, h5, h6, h7, h8⟩ := h
  exact ⟨t2, A2, c2, rfl, h3, by omega, h5, h6, (h7.step fun j hj _ => put4_keep hj.1 _ _ _ _).toC, below_set4 h8 (Nat.le_refl _) _ _ _ _⟩
set_option maxHeartbeats 4000000 in
set_option maxRecDepth 100000 in
theorem tree_any (W : World) (hw : WdAt W) (A : Option Addr) (c : Nat) (l : List Int) (ha : Kd.C (Kd.int .i64) W A l.length l) (B : Option Addr) (d : Nat) (m : List Int) (hb : Kd.C (Kd.int .i64) W B m.length m) :
    Calls Tryd.prog 28 #[.slice A l.length c, .slice B m.length d] W (TreePost m W) := by
  have hu42 := Tryd.underlying42
  have HW := Aside0.mk hw
  have HA := Aside0.mk ha
  have HM := Aside0.mk hb
  have HML : Aside0 (m.length ≤ 9223372036854775807) := ⟨by have := hb.2.1; omega⟩
  clear ha hb hw
  go_enter Tryd.func28, Tryd.ntmps28
  have B0 : Aside0 ((W.alloc (.cells #[.int .i64 0, .string ⟨#[]⟩, .int .i64 0, .slice none 0 0] 42)).heap[W.heap.size]? = some (.cells #[.int .i64 0, .string ⟨#[]⟩, .int .i64 0, .slice none 0 0] 42 (0, 0))) := ⟨heap_alloc_new _ _⟩
  have L0 : Aside0 (Below W.heap.size W (W.alloc (.cells #[.int .i64 0, .string ⟨#[]⟩, .int .i64 0, .slice none 0 0] 42))) := ⟨below_alloc (Below.refl _ _) _⟩
  have S0 : Aside0 ((W.alloc (.cells #[.int .i64 0, .string ⟨#[]⟩, .int .i64 0, .slice none 0 0] 42)).heap.size = W.heap.size + 1) := ⟨alloc_size1 _ _⟩
  go_upto_region 1 with fail
  generalize W.alloc (.cells #[.int .i64 0, .string ⟨#[]⟩, .int .i64 0, .slice none 0 0] 42) = w0 at *
  have HR : Aside0 (Calls Tryd.prog 59 #[.pointer (some ⟨w0.heap.size, 0, none⟩), .int .i64 (4 : Nat)] (w0.alloc (.cells #[.slice A l.length c, .int .i64 0] 59)) (MkPost w0.heap.size 4 w0)) := ⟨raw_new w0 (HW.out.below L0.out) 4 (by omega) A c l (Kd.C_below HA.out L0.out)⟩
  go_wp2_with (go_at_call 59; refine (HR.out).mono ?_; rintro e w1 ⟨t, A1, c1, rfl, md, hc1, h1, b1⟩; have MD := Aside0.mk md; have HC1 := Aside0.mk hc1; have HK1 := Aside0.mk h1; have BL1 := Aside0.mk b1; clear md hc1 h1 b1)
  have BW : Aside0 (W.heap.size < w1.heap.size) := ⟨by have := below_size BL1.out; have := S0.out; omega⟩
  have BLW : Aside0 (Below W.heap.size W w1) := ⟨below_step L0.out BL1.out⟩
  have B01 : Aside0 (w1.heap[W.heap.size]? = some (.cells #[.int .i64 0, .string ⟨#[]⟩, .int .i64 0, .slice none 0 0] 42 (0, 0))) := ⟨blk_below B0.out BL1.out⟩
  have HB1 : Aside0 (W.heap.size ≤ w1.heap.size) := ⟨Nat.le_of_lt BW.out⟩
  have hat : Aside0 (TrR m W w1.heap.size 0 (w1.alloc (.cells #[.int .i64 t.f0, .string t.f1, .int .i64 t.f2, .slice A1 t.f3.length c1] 42))) := ⟨by
    obtain ⟨m1, m2, m3, m4⟩ := MD.out
    refine ⟨t, A1, c1, heap_alloc_new _ _, blk_alloc B01.out _, m2, by omega, fun _ => MD.out, HC1.out, ?_, below_alloc BLW.out _⟩
    refine (HK1.out.keep (below_alloc (Below.refl _ _) _)).mono fun k hk => ?_
    have := alloc_size1 w1 (.cells #[.int .i64 t.f0, .string t.f1, .int .i64 t.f2, .slice A1 t.f3.length c1] 42)
    have h2 := S0.out
    exact ⟨by omega, by omega, by omega⟩⟩
  clear HR MD HC1 HK1 BL1 B0 L0 S0 BLW B01
  generalize w1.alloc (.cells #[.int .i64 t.f0, .string t.f1, .int .i64 t.f2, .slice A1 t.f3.length c1] 42) = w2 at *
  generalize w1.heap.size = b at *
  go_loopw [6] (fun i wr => ∃ k : Nat, k ≤ 7 ∧ i = .int .i64 k ∧ Aside0 (TrR m W b k wr)) (fun i _ => 6 - (intOf i).toNat)
  case atStart => exact ⟨0, by omega, rfl, hat⟩
  case round =>
    obtain ⟨k, hk, rfl, HTR⟩ := hrel
    rename_i wr
    clear hat
    obtain ⟨t2, A2, c2, e1, e2, e3, e4, e5, e6, e7, e8⟩ := HTR.out
    have E1 := Aside0.mk e1
    have E2 := Aside0.mk e2
    have E3 := Aside0.mk e3
    have E4 := Aside0.mk e4
    have E5 := Aside0.mk e5
    have E6 := Aside0.mk e6
    have E7 := Aside0.mk e7
    have E8 := Aside0.mk e8
    clear e1 e2 e3 e4 e5 e6 e7 e8
    have HK6 := Aside0.mk hk
    have q2 : IntKind.i64.wrap ((k : Int) + 1) = (k : Int) + 1 := IntWalk.i64_in _ (by omega)
    by_cases hlt : k + 1 < m.length ∧ k < 6
    ·
      as_aux_lemma =>
        obtain ⟨ad, rfl, m0⟩ := Kd.at_int HM.out (k : Int) (by omega) (by omega)
        obtain ⟨ad', h', m1⟩ := Kd.at_int HM.out ((k : Int) + 1) (by omega) (by omega)
        obtain rfl := Option.some.inj h'
        clear h'
        rw [Int.toNat_natCast] at m0
        rw [show ((k : Int) + 1).toNat = k + 1 by omega, Addr.add_succ'] at m1
        generalize rd m (k : Int) = x0 at m0
        generalize rd m ((k : Int) + 1) = x1 at m1
        have SM : Aside0 (∀ W', Below W.heap.size W W' → W'.cell? (ad.add k) = some (.int .i64 x0) ∧ W'.cell? ⟨ad.block, ad.off + (k + 1), none⟩ = some (.int .i64 x1)) := ⟨fun W' h => ⟨pw_cell_below h m0, pw_cell_below h m1⟩⟩
        have HLT := Aside0.mk hlt
        have q0 := eq_true (show (0 : Int) ≤ (k : Int) by omega)
        have q1 := eq_true (show (k : Int) < (m.length : Int) by omega)
        have q3 := eq_true (show (0 : Int) ≤ (k : Int) + 1 by omega)
        have q4 := eq_true (show (k : Int) + 1 < (m.length : Int) by omega)
        have q5 := eq_true (show (k : Int) < 6 by omega)
        have q6 := eq_true (show k < 6 by omega)
        have q7 := eq_true (show k + 1 < m.length by omega)
        have q8 := eq_true (show k < m.length by omega)
        have q9 : IntKind.i64.wrap ((k : Int) + 2) = (k : Int) + 2 := IntWalk.i64_in _ (by omega)
        have q10 : ((k : Int) + 1).toNat = k + 1 := by omega
        clear m0 m1 hlt hk
        obtain ⟨c0, c1, c2', c3⟩ := cells4h E1.out
        have f0 := blk_frozen E1.out 0
        have f1 := blk_frozen E1.out 1
        have f2 := blk_frozen E1.out 2
        have f3 := blk_frozen E1.out 3
        have HSP : Aside0 (∀ p q : Int, Calls Tryd.prog 48 #[.agg #[.int .i64 t2.f0, .string t2.f1, .int .i64 t2.f2, .slice A2 t2.f3.length c2], .int .i64 p, .int .i64 q] wr.drew (SpPost t2 (fun j => j ≠ W.heap.size ∧ j ≠ b ∧ j < wr.heap.size) wr.drew)) := ⟨fun p q =>
          spoil_any _ _ t2 (Nat.le_refl _) p q A2 c2 wr.drew E3.out (by have := E4.out; have := HLT.out; omega) (E7.out.step fun _ _ _ => rfl) (fun k hk => hk.2.2) E6.out (HW.out.below (below_drew E8.out))⟩
        go_upto_region 5 with fail
        obtain ⟨k0, k1⟩ := SM.out wr E8.out
        go_still_tail 10, (by kernel_rfl)
        change wpList _ _ _ _ _ wr.drew
        clear c0 c1 c2' c3 f0 f1 f2 f3 k0 k1
        go_wp2_with (go_at_call 48; (with_reducible refine (HSP.out _ _).mono ?_); rintro e w3 ⟨t3, A3, k3, rfl, n3, s3, l3, ft3, b3⟩; have BX3 := Aside0.mk (blk_below (blk_drew E1.out) b3); have BB3 := Aside0.mk (below_step (below_drew E8.out) b3); obtain ⟨z0, z1, z2, z3⟩ := cells4h BX3.out; have y0 := blk_frozen BX3.out 0; have y1 := blk_frozen BX3.out 1; have y2 := blk_frozen BX3.out 2; have y3 := blk_frozen BX3.out 3; have N3 := Aside0.mk n3; have S3 := Aside0.mk s3; have L3 := Aside0.mk l3; have F3 := Aside0.mk ft3; have B3 := Aside0.mk b3; clear n3 s3 l3 ft3 b3)
        have TR4 : Aside0 (TrR m W b (k + 2) ((((w3.setCell ⟨b, 0, none⟩ (.int .i64 t3.f0)).setCell ⟨b, 1, none⟩ (.string t3.f1)).setCell ⟨b, 2, none⟩ (.int .i64 t3.f2)).setCell ⟨b, 3, none⟩ (.slice A3 t3.f3.length k3))) := ⟨by
          have hs : wr.drew.heap.size = wr.heap.size := rfl
          have hb := blk_lt E1.out
          refine ⟨t3, A3, k3, box_set4 BX3.out _ _ _ _, set4_blk (blk_below (blk_drew E2.out) B3.out) (Nat.ne_of_lt BW.out) _ _ _ _, N3.out, by have := S3.out; have := E4.out; omega, fun h => ?_, L3.out, ?_, below_set4 BB3.out HB1.out _ _ _ _⟩
          · have := HLT.out.1; rw [h] at this; simp at this
          · refine ((F3.out.lt).step fun j hj _ => put4_keep (fun e => ?_) _ _ _ _).mono fun j hj => ⟨?_, ?_⟩
            · rcases hj with ⟨⟨_, hj, _⟩ | hj, _⟩
              · exact hj e
              · omega
            · rcases hj with ⟨⟨hj, _, _⟩ | hj, _⟩
              · exact hj
              · have := BW.out; omega
            · refine ⟨?_, ?_⟩
              · rcases hj with ⟨⟨_, hj, _⟩ | hj, _⟩
                · exact hj
                · omega
              · have := hj.2
                simpa [World.setCell] using this⟩
        go_roundw
        case rel => exact ⟨k + 2, by have := HLT.out; omega, by go_num, TR4⟩
        case measure => have := HLT.out; simp [intOf]; omega
    ·
      as_aux_lemma =>
        have q3 : decide ((k : Int) + 1 < (m.length : Int)) = decide (k + 1 < m.length) := by rw [decide_eq_decide]; omega
        rcases Nat.lt_or_ge (k + 1) m.length with h1 | h1
        · have q5 := eq_false (show ¬ ((k : Int) < 6) by omega)
          have q6 := eq_false (show ¬ (k < 6) by omega)
          have q7 := eq_true h1
          have q4 := eq_true (show (k : Int) + 1 < (m.length : Int) by omega)
          clear h1 hlt hk q3
          obtain ⟨c0, c1, c2', c3⟩ := cells4h E1.out
          obtain ⟨z0, z1, z2, z3⟩ := cells4h E2.out
          have y0 := blk_frozen E2.out 0
          have y1 := blk_frozen E2.out 1
          have y2 := blk_frozen E2.out 2
          have y3 := blk_frozen E2.out 3
          go_wp2_with fail
          refine bodyPost_ret (results_cell_row rfl _ _ W.heap.size 42 #[.int .i64 t2.f0, .string t2.f1, .int .i64 t2.f2, .slice A2 t2.f3.length c2] (0, 0) _ rfl ?hp Tryd.underlying42 rfl (by kernel_rfl)) rfl ?_
          case hp => with_reducible exact box_set4 E2.out _ _ _ _
          exact tree_end ⟨E1.out, E2.out, E3.out, E4.out, E5.out, E6.out, E7.out, E8.out⟩ HK6.out
        · have q7 := eq_false (show ¬ (k + 1 < m.length) by omega)
          have q4 := eq_false (show ¬ ((k : Int) + 1 < (m.length : Int)) by omega)
          clear h1 hlt hk q3
          obtain ⟨c0, c1, c2', c3⟩ := cells4h E1.out
          obtain ⟨z0, z1, z2, z3⟩ := cells4h E2.out
          have y0 := blk_frozen E2.out 0
          have y1 := blk_frozen E2.out 1
          have y2 := blk_frozen E2.out 2
          have y3 := blk_frozen E2.out 3
          go_wp2_with fail
          refine bodyPost_ret (results_cell_row rfl _ _ W.heap.size 42 #[.int .i64 t2.f0, .string t2.f1, .int .i64 t2.f2, .slice A2 t2.f3.length c2] (0, 0) _ rfl ?hp Tryd.underlying42 rfl (by kernel_rfl)) rfl ?_
          case hp => with_reducible exact box_set4 E2.out _ _ _ _
          exact tree_end ⟨E1.out, E2.out, E3.out, E4.out, E5.out, E6.out, E7.out, E8.out⟩ HK6.out
end
end Go.Proofs.YtajefkjcfmfjkaaDoor
namespace Go.Proofs.YtajefkjcfmfjkaaDoor
section
set_option linter.unusedVariables false
set_option linter.unusedSimpArgs false
set_option linter.deprecated false
open Go.RowKit Go.Proofs.YtajefkjcfmfjkaaDoorW.PrintWords Go.Proofs.YtajefkjcfmfjkaaDoor.PRawForms
set_option linter.unusedVariables false
set_option linter.unusedSimpArgs false
set_option maxHeartbeats 4000000 in
set_option maxRecDepth 100000 in
theorem rbind71 (w0 : World) (qA : Option Addr) (qc : Nat) (ql : List ByteArray) (N : Nat) (hN : N ≤ 100000000) (n : ByteArray) (o : Int) (y : S42) (A : Option Addr) (c : Nat) (l : List UInt8) (v : Value) (W : World)
    (hs : RfSt w0 v l W) (hr : Kd.C k42 w0 A 1 [y]) (hy : RfC w0 qA qc ql N y) (hn : n.size ≤ 64)
    (hN1 : l.length + 6 + n.size + 80 * szT y ≤ N) (hly : (fxT ql y).length ≤ 80 * szT y) (post : List UInt8) (hp : l ++ post = l ++ [40, 123] ++ n.data.toList ++ [125, 32] ++ fxT ql y ++ [41]) :
    Calls Tryd.prog 71 #[v, .agg #[.int .i64 7, .string n, .int .i64 o, .slice A 1 c], .slice qA ql.length qc] W (RfPost w0 (l ++ post) W) := by
  have RS0 := Aside0.mk (hs.alloc (.cells #[.int .i64 7, .string n, .int .i64 o, .slice A 1 c] 42))
  have BX0 : Aside0 ((W.alloc (.cells #[.int .i64 7, .string n, .int .i64 o, .slice A 1 c] 42)).heap[W.heap.size]? = some (.cells #[.int .i64 7, .string n, .int .i64 o, .slice A 1 c] 42 (0, 0))) := ⟨heap_alloc_new _ _⟩
  have OK0 : Aside0 (Lib.OthersKept 5 none W (W.alloc (.cells #[.int .i64 7, .string n, .int .i64 o, .slice A 1 c] 42))) := ⟨(Lib.OthersKept.refl _ _ W).alloc _⟩
  have ln : n.data.toList.length = n.size := len_data n
  obtain ⟨ad, A1, c1, hA, f0, f1, f2, f3, hc1, hC1⟩ := atn42 hr 0 (by omega)
  subst hA
  rw [show rd_T42 [y] ((0 : Nat) : Int) = y from rfl] at f0 f1 f2 f3 hc1 hC1
  rw [show ad.add (0 * 4) = ad from Addr.add_zero42 ad] at f0 f1 f2 f3
  have F0 := Aside0.mk (And.intro f0 (And.intro f1 (And.intro f2 f3)))
  have C1 := Aside0.mk (And.intro hc1 hC1)
  have HL0 : Aside0 (l.length + 2 ≤ 100000000000) := ⟨by omega⟩
  have HL1 : Aside0 ((l ++ [40, 123]).length + n.size ≤ 100000000000) := ⟨by simp only [List.length_append, List.length_cons, List.length_nil, ln]; omega⟩
  have HL2 : Aside0 ((l ++ [40, 123] ++ n.data.toList).length + 2 ≤ 100000000000) := ⟨by simp only [List.length_append, List.length_cons, List.length_nil, ln]; omega⟩
  have HL3 : Aside0 ((l ++ [40, 123] ++ n.data.toList ++ [125, 32]).length + 80 * szT y ≤ N) := ⟨by simp only [List.length_append, List.length_cons, List.length_nil, ln]; omega⟩
  have HL4 : Aside0 ((l ++ [40, 123] ++ n.data.toList ++ [125, 32] ++ fxT ql y).length + 1 ≤ 100000000000) := ⟨by simp only [List.length_append, List.length_cons, List.length_nil, ln]; omega⟩
  have HE := Aside0.mk hp
  have HY := Aside0.mk hy
  have hu42 := Tryd.underlying42
  have q1 : IntKind.i64.wrap 0 = 0 := by decide
  have OKb := Aside0.mk (Lib.OthersKept.refl 5 none (W.alloc (.cells #[.int .i64 7, .string n, .int .i64 o, .slice (some ad) 1 c] 42)))
  have L1 : Aside0 (LitC ((W.alloc (.cells #[.int .i64 7, .string n, .int .i64 o, .slice (some ad) 1 c] 42)).alloc (.cells #[.int .u8 40, .int .u8 123] 5)) (W.heap.size + 1) [40, 123]) := ⟨lit2 _ 40 123 _ (by simp)⟩
  clear f0 f1 f2 f3 hc1 hC1 hs hr hy hN1 hly hN hp ln hn
  go_enter Tryd.func71, Tryd.ntmps71
  go_wp2_with fail
  go_region_held2 (fun W' => W'.cell? ⟨W.heap.size, 1, none⟩ = some (.string n)) ((first | exact (ok_none_cell OKb.out.drew BX0.out (by decide)).trans rfl | exact (ok_none_cell (OKb.out.alloc _).drew BX0.out (by decide)).trans rfl | exact (ok_none_cell OK1.out BX0.out (by decide)).trans rfl | exact (ok_none_cell OK2.out BX0.out (by decide)).trans rfl)) ((first | (refine rfs_lit (by rfl) (.tmp 67) (.tmp 69) rfl [40, 123] 2 2 rfl rfl rfl (RS0.out.alloc _).drew L1.out.drew HL0.out ?_; intro v1 w1 r1 o1 _; have RS1 := Aside0.mk r1; have OK1 := Aside0.mk ((OKb.out.alloc _).drew.trans o1); clear r1 o1) | (refine rfs_str (by rfl) (.tmp 70) (.tmp 72) rfl n rfl rfl RS1.out HL1.out ?_; intro v2 w2 r1 o1 _; have RS2 := Aside0.mk r1; have OK2 := Aside0.mk (OK1.out.trans o1); clear r1 o1)))
  clear RS0 RS1 OK1 L1 OKb
  have m3 : w2.cell? ⟨W.heap.size, 3, none⟩ = some (.slice (some ad) 1 c) := (ok_none_cell OK2.out BX0.out (by decide)).trans rfl
  go_wp2_with fail
  clear m3
  have L3 : Aside0 (LitC (w2.alloc (.cells #[.int .u8 125, .int .u8 32] 5)) w2.heap.size [125, 32]) := ⟨lit2 _ 125 32 _ rfl⟩
  go_region_held2 (fun W' => W'.cell? ⟨W.heap.size, 3, none⟩ = some (.slice (some ad) 1 c) ∧ W'.cell? ad = some (.int .i64 y.f0) ∧ W'.cell? ⟨ad.block, ad.off + 1, none⟩ = some (.string y.f1) ∧ W'.cell? ⟨ad.block, ad.off + 2, none⟩ = some (.int .i64 y.f2) ∧ W'.cell? ⟨ad.block, ad.off + 3, none⟩ = some (.slice A1 y.f3.length c1)) ((first | exact keepS (a := ad) RS2.out.drew OK2.out.drew BX0.out F0.out | exact keepS (a := ad) (RS2.out.alloc _).drew (OK2.out.alloc _).drew BX0.out F0.out | exact keepS (a := ad) RS5.out OK5.out BX0.out F0.out | exact keepS (a := ad) RS6.out OK6.out BX0.out F0.out)) ((first | (refine rfs_lit (by rfl) (.tmp 87) (.tmp 89) rfl [125, 32] 2 2 rfl rfl rfl (RS2.out.alloc _).drew L3.out.drew HL2.out ?_; intro v5 w5 r1 o1 _; have RS5 := Aside0.mk r1; have OK5 := Aside0.mk ((OK2.out.alloc _).drew.trans o1); clear r1 o1) | (go_at_call 71; refine (HY.out A1 c1 _ _ _ RS5.out C1.out.2 C1.out.1 HL3.out).mono ?_; rintro e w6 ⟨v6, rfl, r2, o2⟩; have RS6 := Aside0.mk r2; have OK6 := Aside0.mk (OK5.out.trans o2); clear r2 o2)))
  clear RS2 OK2 RS5 OK5 L3
  have L4 : Aside0 (LitC (w6.alloc (.cells #[.int .u8 41] 5)) w6.heap.size [41]) := ⟨lit1 _ 41 _ rfl⟩
  go_wp2_with (at_builtin; refine rf_lit rfl (.tmp 101) (.tmp 102) rfl [41] 1 1 rfl rfl rfl (RS6.out.alloc _) L4.out HL4.out ?_; intro v7 w7 r1 o1; have RS7 := Aside0.mk r1; have OK7 := Aside0.mk ((OK6.out.alloc _).trans o1); clear r1 o1)
  obtain ⟨A9, N9, c9, rfl⟩ := own_slice3 RS7.out.row
  go_wp2_with fail
  go_ret
  exact ⟨_, rfl, by rw [HE.out]; exact RS7.out, OK0.out.trans OK7.out⟩
set_option maxHeartbeats 4000000 in
set_option maxRecDepth 100000 in
theorem rbind72 (w0 : World) (qA : Option Addr) (qc : Nat) (ql : List ByteArray) (N : Nat) (hN : N ≤ 100000000) (n : ByteArray) (o : Int) (x y : S42) (A : Option Addr) (c : Nat) (l : List UInt8) (v : Value) (W : World)
    (hs : RfSt w0 v l W) (hr : Kd.C k42 w0 A 2 [x, y]) (hx : RfC w0 qA qc ql N x) (hy : RfC w0 qA qc ql N y) (hn : n.size ≤ 64)
    (hN1 : l.length + 6 + n.size + 80 * szT x + 80 * szT y ≤ N) (hlx : (fxT ql x).length ≤ 80 * szT x) (hly : (fxT ql y).length ≤ 80 * szT y) (post : List UInt8) (hp : l ++ post = l ++ [40, 123] ++ n.data.toList ++ [58] ++ fxT ql x ++ [125, 32] ++ fxT ql y ++ [41]) :
    Calls Tryd.prog 71 #[v, .agg #[.int .i64 7, .string n, .int .i64 o, .slice A 2 c], .slice qA ql.length qc] W (RfPost w0 (l ++ post) W) := by
  have RS0 := Aside0.mk (hs.alloc (.cells #[.int .i64 7, .string n, .int .i64 o, .slice A 2 c] 42))
  have BX0 : Aside0 ((W.alloc (.cells #[.int .i64 7, .string n, .int .i64 o, .slice A 2 c] 42)).heap[W.heap.size]? = some (.cells #[.int .i64 7, .string n, .int .i64 o, .slice A 2 c] 42 (0, 0))) := ⟨heap_alloc_new _ _⟩
  have OK0 : Aside0 (Lib.OthersKept 5 none W (W.alloc (.cells #[.int .i64 7, .string n, .int .i64 o, .slice A 2 c] 42))) := ⟨(Lib.OthersKept.refl _ _ W).alloc _⟩
  have ln : n.data.toList.length = n.size := len_data n
  obtain ⟨ad, A0, c0, hA, e0, e1, e2, e3, hc0, hC0⟩ := atn42 hr 0 (by omega)
  obtain ⟨ad', A1, c1, hA', f0, f1, f2, f3, hc1, hC1⟩ := atn42 hr 1 (by omega)
  subst hA
  obtain rfl := Option.some.inj hA'
  rw [show rd_T42 [x, y] ((0 : Nat) : Int) = x from rfl] at e0 e1 e2 e3 hc0 hC0
  rw [show ad.add (0 * 4) = ad from Addr.add_zero42 ad] at e0 e1 e2 e3
  rw [show rd_T42 [x, y] ((1 : Nat) : Int) = y from rfl] at f0 f1 f2 f3 hc1 hC1
  rw [Addr.add_one42 ad] at f0 f1 f2 f3
  simp only at f1 f2 f3
  have E0 := Aside0.mk (And.intro e0 (And.intro e1 (And.intro e2 e3)))
  have F0 := Aside0.mk (And.intro f0 (And.intro f1 (And.intro f2 f3)))
  have C0 := Aside0.mk (And.intro hc0 hC0)
  have C1 := Aside0.mk (And.intro hc1 hC1)
  have HX := Aside0.mk hx
  clear e0 e1 e2 e3 hc0 hC0 hx
  have HL0 : Aside0 (l.length + 2 ≤ 100000000000) := ⟨by omega⟩
  have HL1 : Aside0 ((l ++ [40, 123]).length + n.size ≤ 100000000000) := ⟨by simp only [List.length_append, List.length_cons, List.length_nil, ln]; omega⟩
  have HL2 : Aside0 ((l ++ [40, 123] ++ n.data.toList).length + 1 ≤ 100000000000) := ⟨by simp only [List.length_append, List.length_cons, List.length_nil, ln]; omega⟩
  have HL3 : Aside0 ((l ++ [40, 123] ++ n.data.toList ++ [58]).length + 80 * szT x ≤ N) := ⟨by simp only [List.length_append, List.length_cons, List.length_nil, ln]; omega⟩
  have HL4 : Aside0 ((l ++ [40, 123] ++ n.data.toList ++ [58] ++ fxT ql x).length + 2 ≤ 100000000000) := ⟨by simp only [List.length_append, List.length_cons, List.length_nil, ln]; omega⟩
  have HL5 : Aside0 ((l ++ [40, 123] ++ n.data.toList ++ [58] ++ fxT ql x ++ [125, 32]).length + 80 * szT y ≤ N) := ⟨by simp only [List.length_append, List.length_cons, List.length_nil, ln]; omega⟩
  have HL6 : Aside0 ((l ++ [40, 123] ++ n.data.toList ++ [58] ++ fxT ql x ++ [125, 32] ++ fxT ql y).length + 1 ≤ 100000000000) := ⟨by simp only [List.length_append, List.length_cons, List.length_nil, ln]; omega⟩
  have HE := Aside0.mk hp
  have HY := Aside0.mk hy
  have hu42 := Tryd.underlying42
  have q1 : IntKind.i64.wrap 1 = 1 := by decide
  have OKb := Aside0.mk (Lib.OthersKept.refl 5 none (W.alloc (.cells #[.int .i64 7, .string n, .int .i64 o, .slice (some ad) 2 c] 42)))
  have L1 : Aside0 (LitC ((W.alloc (.cells #[.int .i64 7, .string n, .int .i64 o, .slice (some ad) 2 c] 42)).alloc (.cells #[.int .u8 40, .int .u8 123] 5)) (W.heap.size + 1) [40, 123]) := ⟨lit2 _ 40 123 _ (by simp)⟩
  clear f0 f1 f2 f3 hc1 hC1 hs hr hy hN1 hly hN hp ln hn hlx
  go_enter Tryd.func71, Tryd.ntmps71
  go_wp2_with fail
  go_region_held2 (fun W' => W'.cell? ⟨W.heap.size, 1, none⟩ = some (.string n)) ((first | exact (ok_none_cell OKb.out.drew BX0.out (by decide)).trans rfl | exact (ok_none_cell (OKb.out.alloc _).drew BX0.out (by decide)).trans rfl | exact (ok_none_cell OK1.out BX0.out (by decide)).trans rfl | exact (ok_none_cell OK2.out BX0.out (by decide)).trans rfl)) ((first | (refine rfs_lit (by rfl) (.tmp 67) (.tmp 69) rfl [40, 123] 2 2 rfl rfl rfl (RS0.out.alloc _).drew L1.out.drew HL0.out ?_; intro v1 w1 r1 o1 _; have RS1 := Aside0.mk r1; have OK1 := Aside0.mk ((OKb.out.alloc _).drew.trans o1); clear r1 o1) | (refine rfs_str (by rfl) (.tmp 70) (.tmp 72) rfl n rfl rfl RS1.out HL1.out ?_; intro v2 w2 r1 o1 _; have RS2 := Aside0.mk r1; have OK2 := Aside0.mk (OK1.out.trans o1); clear r1 o1)))
  clear RS0 RS1 OK1 L1 OKb
  have m3 : w2.cell? ⟨W.heap.size, 3, none⟩ = some (.slice (some ad) 2 c) := (ok_none_cell OK2.out BX0.out (by decide)).trans rfl
  go_wp2_with fail
  clear m3
  have L2 : Aside0 (LitC (w2.alloc (.cells #[.int .u8 58] 5)) w2.heap.size [58]) := ⟨lit1 _ 58 _ rfl⟩
  go_region_held2 (fun W' => W'.cell? ⟨W.heap.size, 3, none⟩ = some (.slice (some ad) 2 c) ∧ W'.cell? ad = some (.int .i64 x.f0) ∧ W'.cell? ⟨ad.block, ad.off + 1, none⟩ = some (.string x.f1) ∧ W'.cell? ⟨ad.block, ad.off + 2, none⟩ = some (.int .i64 x.f2) ∧ W'.cell? ⟨ad.block, ad.off + 3, none⟩ = some (.slice A0 x.f3.length c0)) ((first | exact keepS RS2.out.drew OK2.out.drew BX0.out E0.out | exact keepS (RS2.out.alloc _).drew (OK2.out.alloc _).drew BX0.out E0.out | exact keepS RS3.out OK3.out BX0.out E0.out | exact keepS RS4.out OK4.out BX0.out E0.out)) ((first | (refine rfs_lit (by rfl) (.tmp 78) (.tmp 79) rfl [58] 1 1 rfl rfl rfl (RS2.out.alloc _).drew L2.out.drew HL2.out ?_; intro v3 w3 r1 o1 _; have RS3 := Aside0.mk r1; have OK3 := Aside0.mk ((OK2.out.alloc _).drew.trans o1); clear r1 o1) | (go_at_call 71; refine (HX.out A0 c0 _ _ _ RS3.out C0.out.2 C0.out.1 HL3.out).mono ?_; rintro e w4 ⟨v4, rfl, r2, o2⟩; have RS4 := Aside0.mk r2; have OK4 := Aside0.mk (OK3.out.trans o2); clear r2 o2)))
  clear RS2 OK2 RS3 OK3 L2
  go_wp2_with fail
  have L3 : Aside0 (LitC (w4.alloc (.cells #[.int .u8 125, .int .u8 32] 5)) w4.heap.size [125, 32]) := ⟨lit2 _ 125 32 _ rfl⟩
  go_region_held2 (fun W' => W'.cell? ⟨W.heap.size, 3, none⟩ = some (.slice (some ad) 2 c) ∧ W'.cell? ⟨ad.block, ad.off + 4, none⟩ = some (.int .i64 y.f0) ∧ W'.cell? ⟨ad.block, ad.off + 4 + 1, none⟩ = some (.string y.f1) ∧ W'.cell? ⟨ad.block, ad.off + 4 + 2, none⟩ = some (.int .i64 y.f2) ∧ W'.cell? ⟨ad.block, ad.off + 4 + 3, none⟩ = some (.slice A1 y.f3.length c1)) ((first | exact keepS (a := ⟨ad.block, ad.off + 4, none⟩) RS4.out.drew OK4.out.drew BX0.out F0.out | exact keepS (a := ⟨ad.block, ad.off + 4, none⟩) (RS4.out.alloc _).drew (OK4.out.alloc _).drew BX0.out F0.out | exact keepS (a := ⟨ad.block, ad.off + 4, none⟩) RS5.out OK5.out BX0.out F0.out | exact keepS (a := ⟨ad.block, ad.off + 4, none⟩) RS6.out OK6.out BX0.out F0.out)) ((first | (refine rfs_lit (by rfl) (.tmp 87) (.tmp 89) rfl [125, 32] 2 2 rfl rfl rfl (RS4.out.alloc _).drew L3.out.drew HL4.out ?_; intro v5 w5 r1 o1 _; have RS5 := Aside0.mk r1; have OK5 := Aside0.mk ((OK4.out.alloc _).drew.trans o1); clear r1 o1) | (go_at_call 71; refine (HY.out A1 c1 _ _ _ RS5.out C1.out.2 C1.out.1 HL5.out).mono ?_; rintro e w6 ⟨v6, rfl, r2, o2⟩; have RS6 := Aside0.mk r2; have OK6 := Aside0.mk (OK5.out.trans o2); clear r2 o2)))
  clear RS4 OK4 RS5 OK5 L3
  have L4 : Aside0 (LitC (w6.alloc (.cells #[.int .u8 41] 5)) w6.heap.size [41]) := ⟨lit1 _ 41 _ rfl⟩
  go_wp2_with (at_builtin; refine rf_lit rfl (.tmp 101) (.tmp 102) rfl [41] 1 1 rfl rfl rfl (RS6.out.alloc _) L4.out HL6.out ?_; intro v7 w7 r1 o1; have RS7 := Aside0.mk r1; have OK7 := Aside0.mk ((OK6.out.alloc _).trans o1); clear r1 o1)
  obtain ⟨A9, N9, c9, rfl⟩ := own_slice3 RS7.out.row
  go_wp2_with fail
  go_ret
  exact ⟨_, rfl, by rw [HE.out]; exact RS7.out, OK0.out.trans OK7.out⟩
set_option maxHeartbeats 4000000 in
set_option maxRecDepth 100000 in
theorem rbind81 (w0 : World) (qA : Option Addr) (qc : Nat) (ql : List ByteArray) (N : Nat) (hN : N ≤ 100000000) (n : ByteArray) (o : Int) (y : S42) (A : Option Addr) (c : Nat) (l : List UInt8) (v : Value) (W : World)
    (hs : RfSt w0 v l W) (hr : Kd.C k42 w0 A 1 [y]) (hy : RfC w0 qA qc ql N y) (hn : n.size ≤ 64)
    (hN1 : l.length + 6 + n.size + 80 * szT y ≤ N) (hly : (fxT ql y).length ≤ 80 * szT y) (post : List UInt8) (hp : l ++ post = l ++ [40, 91] ++ n.data.toList ++ [93, 32] ++ fxT ql y ++ [41]) :
    Calls Tryd.prog 71 #[v, .agg #[.int .i64 8, .string n, .int .i64 o, .slice A 1 c], .slice qA ql.length qc] W (RfPost w0 (l ++ post) W) := by
  have RS0 := Aside0.mk (hs.alloc (.cells #[.int .i64 8, .string n, .int .i64 o, .slice A 1 c] 42))
  have BX0 : Aside0 ((W.alloc (.cells #[.int .i64 8, .string n, .int .i64 o, .slice A 1 c] 42)).heap[W.heap.size]? = some (.cells #[.int .i64 8, .string n, .int .i64 o, .slice A 1 c] 42 (0, 0))) := ⟨heap_alloc_new _ _⟩
  have OK0 : Aside0 (Lib.OthersKept 5 none W (W.alloc (.cells #[.int .i64 8, .string n, .int .i64 o, .slice A 1 c] 42))) := ⟨(Lib.OthersKept.refl _ _ W).alloc _⟩
  have ln : n.data.toList.length = n.size := len_data n
  obtain ⟨ad, A1, c1, hA, f0, f1, f2, f3, hc1, hC1⟩ := atn42 hr 0 (by omega)
  subst hA
  rw [show rd_T42 [y] ((0 : Nat) : Int) = y from rfl] at f0 f1 f2 f3 hc1 hC1
  rw [show ad.add (0 * 4) = ad from Addr.add_zero42 ad] at f0 f1 f2 f3
  have F0 := Aside0.mk (And.intro f0 (And.intro f1 (And.intro f2 f3)))
  have C1 := Aside0.mk (And.intro hc1 hC1)
  have HL0 : Aside0 (l.length + 2 ≤ 100000000000) := ⟨by omega⟩
  have HL1 : Aside0 ((l ++ [40, 91]).length + n.size ≤ 100000000000) := ⟨by simp only [List.length_append, List.length_cons, List.length_nil, ln]; omega⟩
  have HL2 : Aside0 ((l ++ [40, 91] ++ n.data.toList).length + 2 ≤ 100000000000) := ⟨by simp only [List.length_append, List.length_cons, List.length_nil, ln]; omega⟩
  have HL3 : Aside0 ((l ++ [40, 91] ++ n.data.toList ++ [93, 32]).length + 80 * szT y ≤ N) := ⟨by simp only [List.length_append, List.length_cons, List.length_nil, ln]; omega⟩
  have HL4 : Aside0 ((l ++ [40, 91] ++ n.data.toList ++ [93, 32] ++ fxT ql y).length + 1 ≤ 100000000000) := ⟨by simp only [List.length_append, List.length_cons, List.length_nil, ln]; omega⟩
  have HE := Aside0.mk hp
  have HY := Aside0.mk hy
  have hu42 := Tryd.underlying42
  have q1 : IntKind.i64.wrap 0 = 0 := by decide
  have OKb := Aside0.mk (Lib.OthersKept.refl 5 none (W.alloc (.cells #[.int .i64 8, .string n, .int .i64 o, .slice (some ad) 1 c] 42)))
  have L1 : Aside0 (LitC ((W.alloc (.cells #[.int .i64 8, .string n, .int .i64 o, .slice (some ad) 1 c] 42)).alloc (.cells #[.int .u8 40, .int .u8 91] 5)) (W.heap.size + 1) [40, 91]) := ⟨lit2 _ 40 91 _ (by simp)⟩
  clear f0 f1 f2 f3 hc1 hC1 hs hr hy hN1 hly hN hp ln hn
  go_enter Tryd.func71, Tryd.ntmps71
  go_wp2_with fail
  go_region_held2 (fun W' => W'.cell? ⟨W.heap.size, 1, none⟩ = some (.string n)) ((first | exact (ok_none_cell OKb.out.drew BX0.out (by decide)).trans rfl | exact (ok_none_cell (OKb.out.alloc _).drew BX0.out (by decide)).trans rfl | exact (ok_none_cell OK1.out BX0.out (by decide)).trans rfl | exact (ok_none_cell OK2.out BX0.out (by decide)).trans rfl)) ((first | (refine rfs_lit (by rfl) (.tmp 67) (.tmp 69) rfl [40, 91] 2 2 rfl rfl rfl (RS0.out.alloc _).drew L1.out.drew HL0.out ?_; intro v1 w1 r1 o1 _; have RS1 := Aside0.mk r1; have OK1 := Aside0.mk ((OKb.out.alloc _).drew.trans o1); clear r1 o1) | (refine rfs_str (by rfl) (.tmp 70) (.tmp 72) rfl n rfl rfl RS1.out HL1.out ?_; intro v2 w2 r1 o1 _; have RS2 := Aside0.mk r1; have OK2 := Aside0.mk (OK1.out.trans o1); clear r1 o1)))
  clear RS0 RS1 OK1 L1 OKb
  have m3 : w2.cell? ⟨W.heap.size, 3, none⟩ = some (.slice (some ad) 1 c) := (ok_none_cell OK2.out BX0.out (by decide)).trans rfl
  go_wp2_with fail
  clear m3
  have L3 : Aside0 (LitC (w2.alloc (.cells #[.int .u8 93, .int .u8 32] 5)) w2.heap.size [93, 32]) := ⟨lit2 _ 93 32 _ rfl⟩
  go_region_held2 (fun W' => W'.cell? ⟨W.heap.size, 3, none⟩ = some (.slice (some ad) 1 c) ∧ W'.cell? ad = some (.int .i64 y.f0) ∧ W'.cell? ⟨ad.block, ad.off + 1, none⟩ = some (.string y.f1) ∧ W'.cell? ⟨ad.block, ad.off + 2, none⟩ = some (.int .i64 y.f2) ∧ W'.cell? ⟨ad.block, ad.off + 3, none⟩ = some (.slice A1 y.f3.length c1)) ((first | exact keepS (a := ad) RS2.out.drew OK2.out.drew BX0.out F0.out | exact keepS (a := ad) (RS2.out.alloc _).drew (OK2.out.alloc _).drew BX0.out F0.out | exact keepS (a := ad) RS5.out OK5.out BX0.out F0.out | exact keepS (a := ad) RS6.out OK6.out BX0.out F0.out)) ((first | (refine rfs_lit (by rfl) (.tmp 87) (.tmp 89) rfl [93, 32] 2 2 rfl rfl rfl (RS2.out.alloc _).drew L3.out.drew HL2.out ?_; intro v5 w5 r1 o1 _; have RS5 := Aside0.mk r1; have OK5 := Aside0.mk ((OK2.out.alloc _).drew.trans o1); clear r1 o1) | (go_at_call 71; refine (HY.out A1 c1 _ _ _ RS5.out C1.out.2 C1.out.1 HL3.out).mono ?_; rintro e w6 ⟨v6, rfl, r2, o2⟩; have RS6 := Aside0.mk r2; have OK6 := Aside0.mk (OK5.out.trans o2); clear r2 o2)))
  clear RS2 OK2 RS5 OK5 L3
  have L4 : Aside0 (LitC (w6.alloc (.cells #[.int .u8 41] 5)) w6.heap.size [41]) := ⟨lit1 _ 41 _ rfl⟩
  go_wp2_with (at_builtin; refine rf_lit rfl (.tmp 101) (.tmp 102) rfl [41] 1 1 rfl rfl rfl (RS6.out.alloc _) L4.out HL4.out ?_; intro v7 w7 r1 o1; have RS7 := Aside0.mk r1; have OK7 := Aside0.mk ((OK6.out.alloc _).trans o1); clear r1 o1)
  obtain ⟨A9, N9, c9, rfl⟩ := own_slice3 RS7.out.row
  go_wp2_with fail
  go_ret
  exact ⟨_, rfl, by rw [HE.out]; exact RS7.out, OK0.out.trans OK7.out⟩
set_option maxHeartbeats 4000000 in
set_option maxRecDepth 100000 in
theorem rbind82 (w0 : World) (qA : Option Addr) (qc : Nat) (ql : List ByteArray) (N : Nat) (hN : N ≤ 100000000) (n : ByteArray) (o : Int) (x y : S42) (A : Option Addr) (c : Nat) (l : List UInt8) (v : Value) (W : World)
    (hs : RfSt w0 v l W) (hr : Kd.C k42 w0 A 2 [x, y]) (hx : RfC w0 qA qc ql N x) (hy : RfC w0 qA qc ql N y) (hn : n.size ≤ 64)
    (hN1 : l.length + 6 + n.size + 80 * szT x + 80 * szT y ≤ N) (hlx : (fxT ql x).length ≤ 80 * szT x) (hly : (fxT ql y).length ≤ 80 * szT y) (post : List UInt8) (hp : l ++ post = l ++ [40, 91] ++ n.data.toList ++ [58] ++ fxT ql x ++ [93, 32] ++ fxT ql y ++ [41]) :
    Calls Tryd.prog 71 #[v, .agg #[.int .i64 8, .string n, .int .i64 o, .slice A 2 c], .slice qA ql.length qc] W (RfPost w0 (l ++ post) W) := by
  have RS0 := Aside0.mk (hs.alloc (.cells #[.int .i64 8, .string n, .int .i64 o, .slice A 2 c] 42))
  have BX0 : Aside0 ((W.alloc (.cells #[.int .i64 8, .string n, .int .i64 o, .slice A 2 c] 42)).heap[W.heap.size]? = some (.cells #[.int .i64 8, .string n, .int .i64 o, .slice A 2 c] 42 (0, 0))) := ⟨heap_alloc_new _ _⟩
  have OK0 : Aside0 (Lib.OthersKept 5 none W (W.alloc (.cells #[.int .i64 8, .string n, .int .i64 o, .slice A 2 c] 42))) := ⟨(Lib.OthersKept.refl _ _ W).alloc _⟩
  have ln : n.data.toList.length = n.size := len_data n
  obtain ⟨ad, A0, c0, hA, e0, e1, e2, e3, hc0, hC0⟩ := atn42 hr 0 (by omega)
  obtain ⟨ad', A1, c1, hA', f0, f1, f2, f3, hc1, hC1⟩ := atn42 hr 1 (by omega)
  subst hA
  obtain rfl := Option.some.inj hA'
  rw [show rd_T42 [x, y] ((0 : Nat) : Int) = x from rfl] at e0 e1 e2 e3 hc0 hC0
  rw [show ad.add (0 * 4) = ad from Addr.add_zero42 ad] at e0 e1 e2 e3
  rw [show rd_T42 [x, y] ((1 : Nat) : Int) = y from rfl] at f0 f1 f2 f3 hc1 hC1
  rw [Addr.add_one42 ad] at f0 f1 f2 f3
  simp only at f1 f2 f3
  have E0 := Aside0.mk (And.intro e0 (And.intro e1 (And.intro e2 e3)))
  have F0 := Aside0.mk (And.intro f0 (And.intro f1 (And.intro f2 f3)))
  have C0 := Aside0.mk (And.intro hc0 hC0)
  have C1 := Aside0.mk (And.intro hc1 hC1)
  have HX := Aside0.mk hx
  clear e0 e1 e2 e3 hc0 hC0 hx
  have HL0 : Aside0 (l.length + 2 ≤ 100000000000) := ⟨by omega⟩
  have HL1 : Aside0 ((l ++ [40, 91]).length + n.size ≤ 100000000000) := ⟨by simp only [List.length_append, List.length_cons, List.length_nil, ln]; omega⟩
  have HL2 : Aside0 ((l ++ [40, 91] ++ n.data.toList).length + 1 ≤ 100000000000) := ⟨by simp only [List.length_append, List.length_cons, List.length_nil, ln]; omega⟩
  have HL3 : Aside0 ((l ++ [40, 91] ++ n.data.toList ++ [58]).length + 80 * szT x ≤ N) := ⟨by simp only [List.length_append, List.length_cons, List.length_nil, ln]; omega⟩
  have HL4 : Aside0 ((l ++ [40, 91] ++ n.data.toList ++ [58] ++ fxT ql x).length + 2 ≤ 100000000000) := ⟨by simp only [List.length_append, List.length_cons, List.length_nil, ln]; omega⟩
  have HL5 : Aside0 ((l ++ [40, 91] ++ n.data.toList ++ [58] ++ fxT ql x ++ [93, 32]).length + 80 * szT y ≤ N) := ⟨by simp only [List.length_append, List.length_cons, List.length_nil, ln]; omega⟩
  have HL6 : Aside0 ((l ++ [40, 91] ++ n.data.toList ++ [58] ++ fxT ql x ++ [93, 32] ++ fxT ql y).length + 1 ≤ 100000000000) := ⟨by simp only [List.length_append, List.length_cons, List.length_nil, ln]; omega⟩
  have HE := Aside0.mk hp
  have HY := Aside0.mk hy
  have hu42 := Tryd.underlying42
  have q1 : IntKind.i64.wrap 1 = 1 := by decide
  have OKb := Aside0.mk (Lib.OthersKept.refl 5 none (W.alloc (.cells #[.int .i64 8, .string n, .int .i64 o, .slice (some ad) 2 c] 42)))
  have L1 : Aside0 (LitC ((W.alloc (.cells #[.int .i64 8, .string n, .int .i64 o, .slice (some ad) 2 c] 42)).alloc (.cells #[.int .u8 40, .int .u8 91] 5)) (W.heap.size + 1) [40, 91]) := ⟨lit2 _ 40 91 _ (by simp)⟩
  clear f0 f1 f2 f3 hc1 hC1 hs hr hy hN1 hly hN hp ln hn hlx
  go_enter Tryd.func71, Tryd.ntmps71
  go_wp2_with fail
  go_region_held2 (fun W' => W'.cell? ⟨W.heap.size, 1, none⟩ = some (.string n)) ((first | exact (ok_none_cell OKb.out.drew BX0.out (by decide)).trans rfl | exact (ok_none_cell (OKb.out.alloc _).drew BX0.out (by decide)).trans rfl | exact (ok_none_cell OK1.out BX0.out (by decide)).trans rfl | exact (ok_none_cell OK2.out BX0.out (by decide)).trans rfl)) ((first | (refine rfs_lit (by rfl) (.tmp 67) (.tmp 69) rfl [40, 91] 2 2 rfl rfl rfl (RS0.out.alloc _).drew L1.out.drew HL0.out ?_; intro v1 w1 r1 o1 _; have RS1 := Aside0.mk r1; have OK1 := Aside0.mk ((OKb.out.alloc _).drew.trans o1); clear r1 o1) | (refine rfs_str (by rfl) (.tmp 70) (.tmp 72) rfl n rfl rfl RS1.out HL1.out ?_; intro v2 w2 r1 o1 _; have RS2 := Aside0.mk r1; have OK2 := Aside0.mk (OK1.out.trans o1); clear r1 o1)))
  clear RS0 RS1 OK1 L1 OKb
  have m3 : w2.cell? ⟨W.heap.size, 3, none⟩ = some (.slice (some ad) 2 c) := (ok_none_cell OK2.out BX0.out (by decide)).trans rfl
  go_wp2_with fail
  clear m3
  have L2 : Aside0 (LitC (w2.alloc (.cells #[.int .u8 58] 5)) w2.heap.size [58]) := ⟨lit1 _ 58 _ rfl⟩
  go_region_held2 (fun W' => W'.cell? ⟨W.heap.size, 3, none⟩ = some (.slice (some ad) 2 c) ∧ W'.cell? ad = some (.int .i64 x.f0) ∧ W'.cell? ⟨ad.block, ad.off + 1, none⟩ = some (.string x.f1) ∧ W'.cell? ⟨ad.block, ad.off + 2, none⟩ = some (.int .i64 x.f2) ∧ W'.cell? ⟨ad.block, ad.off + 3, none⟩ = some (.slice A0 x.f3.length c0)) ((first | exact keepS RS2.out.drew OK2.out.drew BX0.out E0.out | exact keepS (RS2.out.alloc _).drew (OK2.out.alloc _).drew BX0.out E0.out | exact keepS RS3.out OK3.out BX0.out E0.out | exact keepS RS4.out OK4.out BX0.out E0.out)) ((first | (refine rfs_lit (by rfl) (.tmp 78) (.tmp 79) rfl [58] 1 1 rfl rfl rfl (RS2.out.alloc _).drew L2.out.drew HL2.out ?_; intro v3 w3 r1 o1 _; have RS3 := Aside0.mk r1; have OK3 := Aside0.mk ((OK2.out.alloc _).drew.trans o1); clear r1 o1) | (go_at_call 71; refine (HX.out A0 c0 _ _ _ RS3.out C0.out.2 C0.out.1 HL3.out).mono ?_; rintro e w4 ⟨v4, rfl, r2, o2⟩; have RS4 := Aside0.mk r2; have OK4 := Aside0.mk (OK3.out.trans o2); clear r2 o2)))
  clear RS2 OK2 RS3 OK3 L2
  go_wp2_with fail
  have L3 : Aside0 (LitC (w4.alloc (.cells #[.int .u8 93, .int .u8 32] 5)) w4.heap.size [93, 32]) := ⟨lit2 _ 93 32 _ rfl⟩
  go_region_held2 (fun W' => W'.cell? ⟨W.heap.size, 3, none⟩ = some (.slice (some ad) 2 c) ∧ W'.cell? ⟨ad.block, ad.off + 4, none⟩ = some (.int .i64 y.f0) ∧ W'.cell? ⟨ad.block, ad.off + 4 + 1, none⟩ = some (.string y.f1) ∧ W'.cell? ⟨ad.block, ad.off + 4 + 2, none⟩ = some (.int .i64 y.f2) ∧ W'.cell? ⟨ad.block, ad.off + 4 + 3, none⟩ = some (.slice A1 y.f3.length c1)) ((first | exact keepS (a := ⟨ad.block, ad.off + 4, none⟩) RS4.out.drew OK4.out.drew BX0.out F0.out | exact keepS (a := ⟨ad.block, ad.off + 4, none⟩) (RS4.out.alloc _).drew (OK4.out.alloc _).drew BX0.out F0.out | exact keepS (a := ⟨ad.block, ad.off + 4, none⟩) RS5.out OK5.out BX0.out F0.out | exact keepS (a := ⟨ad.block, ad.off + 4, none⟩) RS6.out OK6.out BX0.out F0.out)) ((first | (refine rfs_lit (by rfl) (.tmp 87) (.tmp 89) rfl [93, 32] 2 2 rfl rfl rfl (RS4.out.alloc _).drew L3.out.drew HL4.out ?_; intro v5 w5 r1 o1 _; have RS5 := Aside0.mk r1; have OK5 := Aside0.mk ((OK4.out.alloc _).drew.trans o1); clear r1 o1) | (go_at_call 71; refine (HY.out A1 c1 _ _ _ RS5.out C1.out.2 C1.out.1 HL5.out).mono ?_; rintro e w6 ⟨v6, rfl, r2, o2⟩; have RS6 := Aside0.mk r2; have OK6 := Aside0.mk (OK5.out.trans o2); clear r2 o2)))
  clear RS4 OK4 RS5 OK5 L3
  have L4 : Aside0 (LitC (w6.alloc (.cells #[.int .u8 41] 5)) w6.heap.size [41]) := ⟨lit1 _ 41 _ rfl⟩
  go_wp2_with (at_builtin; refine rf_lit rfl (.tmp 101) (.tmp 102) rfl [41] 1 1 rfl rfl rfl (RS6.out.alloc _) L4.out HL6.out ?_; intro v7 w7 r1 o1; have RS7 := Aside0.mk r1; have OK7 := Aside0.mk ((OK6.out.alloc _).trans o1); clear r1 o1)
  obtain ⟨A9, N9, c9, rfl⟩ := own_slice3 RS7.out.row
  go_wp2_with fail
  go_ret
  exact ⟨_, rfl, by rw [HE.out]; exact RS7.out, OK0.out.trans OK7.out⟩
end
end Go.Proofs.YtajefkjcfmfjkaaDoor
namespace Go.Proofs.YtajefkjcfmfjkaaDoor
section
set_option linter.unusedVariables false
set_option linter.unusedSimpArgs false
set_option linter.deprecated false
open Go.RowKit Go.Proofs.YtajefkjcfmfjkaaDoorW.PrintWords Go.Proofs.YtajefkjcfmfjkaaDoor.PRawForms
set_option linter.unusedVariables false
set_option linter.unusedSimpArgs false
theorem fxL_sum (ql : List ByteArray) (l : List S42) (h : nmL l = true) : ∀ x ∈ l, (fxT ql x).length ≤ 80 * szT x := by
  intro x hx
  rw [nmL_all] at h
  exact fxT_len ql _ x (Nat.le_refl _) (List.all_eq_true.1 h x hx)
theorem rfmt_any (w0 : World) (qA : Option Addr) (qc : Nat) (ql : List ByteArray) (hq : Kd.C Kd.string w0 qA ql.length ql) (hql : ql.length ≤ 1000) (hqc : ql.length ≤ qc) (N : Nat) (hN : N ≤ 100000000) (i : Nat) :
    ∀ t : S42, szT t ≤ i → fmT t = true → nmT t = true → RfC w0 qA qc ql N t := by
  induction i with
  | zero => intro t h; have := szT_pos t; omega
  | succ i ih =>
    intro t hsz hf hn A c l v W hs hr hc hb
    rw [szT_eq] at hsz hb
    rw [fmT_eq, Bool.and_eq_true] at hf
    rw [nmT_eq, Bool.and_eq_true, decide_eq_true_eq] at hn
    obtain ⟨hf1, hf2⟩ := hf
    obtain ⟨hn1, hn2⟩ := hn
    have hx : ∀ x ∈ t.f3, RfC w0 qA qc ql N x := by
      intro x hx
      rw [fmL_all] at hf2
      have hn3 := hn2
      rw [nmL_all] at hn3
      exact ih x (Nat.le_trans (szL_mem hx) (by omega)) (List.all_eq_true.1 hf2 x hx) (List.all_eq_true.1 hn3 x hx)
    have hfx := fxL_sum ql t.f3 hn2
    have hlen := form_len _ _ _ hf1
    rw [fxT_eq]
    clear ih hf1 hf2 hn2
    obtain ⟨k, n, o, args⟩ := t
    simp only at hlen hn1 hb hx hfx hr hc ⊢
    have hl : l.length ≤ 100000000 := by omega
    have hTp : args.length = 2 → ∀ (k : Int) (mid : ByteArray) (W' : World), mid.size ≤ 4 → RfSt w0 v l W' →
        Calls Tryd.prog 96 #[v, .agg #[.int .i64 k, .string n, .int .i64 o, .slice A args.length c], .slice qA ql.length qc, .string mid] W' (RfPost w0 (l ++ twoS [40] mid.data.toList [41] (fxL ql args)) W') := by
      intro hm k mid W' hmid hs'
      match args, hm with
      | [x, y], _ =>
        rw [szL, szL, szL] at hb
        have h1 := hfx x (by simp)
        have h2 := hfx y (by simp)
        rw [fxL, fxL, fxL]
        exact rtwo_any w0 qA qc ql N hN k n o x y A c mid l v W' hs' hr (hx x (by simp)) (hx y (by simp)) (by omega) (by omega) h1 h2
    rcases hlen with (rfl | rfl | rfl | rfl) | ⟨rfl | rfl | rfl, hm⟩ | ⟨rfl | rfl, hm⟩
    · cases hi : inQ ql n with
      | true => exact rfmt1t w0 qA qc ql n o A _ c l v W hs hn1 hl hq hi hql hqc _ (by unfold nodeX; rw [if_pos rfl, hi, if_pos rfl]; simp)
      | false => exact rfmt1f w0 qA qc ql n o A _ c l v W hs hn1 hl _ (by unfold nodeX; rw [if_pos rfl, hi, if_neg (by simp)]) hq hi hql hqc
    · exact rfmt2 w0 qA qc ql n o A _ c l v W hs hn1 hl _ (by rw [show nodeX ql 2 n (fxL ql args) = [64] ++ n.data.toList from rfl, List.append_assoc])
    · exact rfmt3 w0 qA qc ql n o A _ c l v W hs hn1 hl _ rfl
    · exact rfmt4 w0 qA qc ql n o A _ c l v W hs hn1 hl _ rfl
    · exact rfmt5 w0 qA qc ql n o A _ c l v W hs hn1 hl _ (fun W' h => hTp hm 5 _ W' (by decide) h)
    · exact rfmt6 w0 qA qc ql n o A _ c l v W hs hn1 hl _ (fun W' h => hTp hm 6 _ W' (by decide) h)
    · exact rfmt9 w0 qA qc ql n o A _ c l v W hs hn1 hl _ (fun W' h => hTp hm 9 _ W' (by decide) h)

    · match args, hm with
      | [y], _ =>
        rw [szL, szL] at hb
        have h2 := hfx y (by simp)
        exact rbind71 w0 qA qc ql N hN n o y A c l v W hs hr (hx y (by simp)) hn1 (by omega) h2 _ (by
          rw [fxL, fxL, show nodeX ql 7 n [fxT ql y] = bindS [123] [125] n.data.toList [fxT ql y] from rfl]
          simp [bindS, twoS])
      | [x, y], _ =>
        rw [szL, szL, szL] at hb
        have h1 := hfx x (by simp)
        have h2 := hfx y (by simp)
        exact rbind72 w0 qA qc ql N hN n o x y A c l v W hs hr (hx x (by simp)) (hx y (by simp)) hn1 (by omega) h1 h2 _ (by
          rw [fxL, fxL, fxL, show nodeX ql 7 n [fxT ql x, fxT ql y] = bindS [123] [125] n.data.toList [fxT ql x, fxT ql y] from rfl]
          simp [bindS, twoS])
    · match args, hm with
      | [y], _ =>
        rw [szL, szL] at hb
        have h2 := hfx y (by simp)
        exact rbind81 w0 qA qc ql N hN n o y A c l v W hs hr (hx y (by simp)) hn1 (by omega) h2 _ (by
          rw [fxL, fxL, show nodeX ql 8 n [fxT ql y] = bindS [91] [93] n.data.toList [fxT ql y] from rfl]
          simp [bindS, twoS])
      | [x, y], _ =>
        rw [szL, szL, szL] at hb
        have h1 := hfx x (by simp)
        have h2 := hfx y (by simp)
        exact rbind82 w0 qA qc ql N hN n o x y A c l v W hs hr (hx x (by simp)) (hx y (by simp)) hn1 (by omega) h1 h2 _ (by
          rw [fxL, fxL, fxL, show nodeX ql 8 n [fxT ql x, fxT ql y] = bindS [91] [93] n.data.toList [fxT ql x, fxT ql y] from rfl]
          simp [bindS, twoS])
theorem byteCells_nums (l : List UInt8) : Lib.byteCells l = nums .u8 (l.map fun b => (b.toNat : Int)) := by simp [Lib.byteCells, nums]
theorem str_of_bytes (l : List UInt8) : strOfNums (l.map fun b => (b.toNat : Int)) = ⟨l.toArray⟩ := by
  unfold strOfNums
  congr 2
  rw [List.map_map]
  conv => rhs; rw [← List.map_id l]
  apply List.map_congr_left
  intro b _
  simp
set_option maxHeartbeats 4000000 in
set_option maxRecDepth 100000 in
theorem rformat_any (t : S42) (A : Option Addr) (c : Nat) (qA : Option Addr) (qc : Nat) (ql : List ByteArray) (w : World) (hsz : szT t ≤ 1000000) (hnm : nmT t = true) (hr : Kd.C k42 w A t.f3.length t.f3) (hc : t.f3.length ≤ c) (hq : Kd.C Kd.string w qA ql.length ql) (hql : ql.length ≤ 1000) (hqc : ql.length ≤ qc) :
    Calls Tryd.prog 36 #[.agg #[.int .i64 t.f0, .string t.f1, .int .i64 t.f2, .slice A t.f3.length c], .slice qA ql.length qc] w fun e w' => e = .returned (.string ⟨(fmtS ql t).toArray⟩) ∧ Below w.heap.size w w' := by
  have HW : Aside0 (∀ W : World, Below w.heap.size w W → Calls Tryd.prog 30 #[.agg #[.int .i64 t.f0, .string t.f1, .int .i64 t.f2, .slice A t.f3.length c]] W fun e w' => e = .returned (.int .i64 (wfS t)) ∧ Below W.heap.size W w') :=
    ⟨fun W hW => rwf_any t A c W (by omega) (Kd.C_below hr hW) hc⟩
  have hu42 := Tryd.underlying42
  by_cases hw : wfS t = 0
  · have hF : fmtS ql t = fxT ql t := if_pos hw
    have hf : fmT t = true := by
      unfold wfS at hw
      cases hf : fmT t with
      | true => rfl
      | false => rw [hf] at hw; simp at hw
    have HX : Aside0 (∀ (W : World), Below w.heap.size w W → Calls Tryd.prog 71 #[.slice none 0 0, .agg #[.int .i64 t.f0, .string t.f1, .int .i64 t.f2, .slice A t.f3.length c], .slice qA ql.length qc] W (RfPost w ([] ++ fxT ql t) W)) :=
      ⟨fun W h => rfmt_any w qA qc ql hq hql hqc 100000000 (by omega) 1000000 t hsz hf hnm A c [] _ W (RfSt.nil w h) hr hc (by simp; omega)⟩
    rw [hw] at HW
    rw [hF]
    rw [List.nil_append] at HX
    clear hF hf hw hr hc hq hnm hsz hql hqc
    generalize fxT ql t = tx at *
    go_enter Tryd.func36, Tryd.ntmps36
    go_wp2_with (first | (go_at_call 30; (with_reducible refine (HW.out _ ?b1).mono ?_); (case b1 => exact (by repeat (first | (with_reducible first | exact Below.refl _ _ | apply below_alloc | apply pw_below_drewN | apply below_drew1 | refine below_set ?_ (Nat.le_refl _)) | assumption))); rintro e w1 ⟨rfl, hb⟩; have HB : Aside0 (Below w.heap.size w w1) := ⟨below_step (by repeat (first | (with_reducible first | exact Below.refl _ _ | apply below_alloc | apply pw_below_drewN | apply below_drew1 | refine below_set ?_ (Nat.le_refl _)) | assumption)) hb⟩; have m0 := pw_cell_below hb (a := ⟨w.heap.size, 0, none⟩) (v := .int .i64 t.f0) (by go_simp); have m1 := pw_cell_below hb (a := ⟨w.heap.size, 1, none⟩) (v := .string t.f1) (by go_simp); have m2 := pw_cell_below hb (a := ⟨w.heap.size, 2, none⟩) (v := .int .i64 t.f2) (by go_simp); have m3 := pw_cell_below hb (a := ⟨w.heap.size, 3, none⟩) (v := .slice A t.f3.length c) (by go_simp); clear hb) | (go_at_call 71; (with_reducible refine (HX.out _ ?b2).mono ?_); (case b2 => exact HB.out); rintro e w2 ⟨v2, rfl, r2, o2⟩; have RS := Aside0.mk r2; have hcv := own_string (P := Tryd.prog) (src := 37) (dst := 9) Tryd.underlying37 Tryd.underlying5 Tryd.underlying9 (byteCells_nums tx ▸ r2.row); clear r2 o2; obtain ⟨A9, N9, c9, rfl⟩ := own_slice3 RS.out.row; rw [str_of_bytes] at hcv))
    go_ret
    exact ⟨rfl, RS.out.be⟩
  · have hF : fmtS ql t = [] := if_neg hw
    rw [hF]
    have hne : ((wfS t) != 0) = true := by rw [bne_iff_ne]; exact hw
    clear hF hw hr hc hq hnm hsz
    go_enter Tryd.func36, Tryd.ntmps36
    go_wp2_with (go_at_call 30; (with_reducible refine (HW.out _ ?b1).mono ?_); (case b1 => exact (by repeat (first | (with_reducible first | exact Below.refl _ _ | apply below_alloc | apply pw_below_drewN | apply below_drew1 | refine below_set ?_ (Nat.le_refl _)) | assumption))); rintro e w1 ⟨rfl, hb⟩; have HB : Aside0 (Below w.heap.size w w1) := ⟨below_step (by repeat (first | (with_reducible first | exact Below.refl _ _ | apply below_alloc | apply pw_below_drewN | apply below_drew1 | refine below_set ?_ (Nat.le_refl _)) | assumption)) hb⟩; clear hb)
    go_ret
    exact ⟨rfl, HB.out⟩
end
end Go.Proofs.YtajefkjcfmfjkaaDoor
namespace Go.Proofs.YtajefkjcfmfjkaaDoor
section
set_option linter.unusedVariables false
set_option linter.unusedSimpArgs false
set_option linter.deprecated false
open Go.RowKit Go.Proofs.YtajefkjcfmfjkaaDoorW.PrintWords Go.Proofs.YtajefkjcfmfjkaaDoor.PRawForms
set_option linter.unusedVariables false
attribute [local go_sem ↓] Go.wp_at_zero Go.wp_at_succ
theorem kstr3 {w : World} {b : Nat} {x y z : ByteArray} (h : w.heap[b]? = some (.cells #[.string x, .string y, .string z] 9 (0, 0))) : Kd.C Kd.string w (some ⟨b, 0, none⟩) 3 [x, y, z] := by
  refine ⟨rfl, by omega, fun _ => ⟨_, rfl, fun j p hj => ⟨[.string p], rfl, rfl, fun i u hu => ?_⟩⟩⟩
  have hi : i = 0 := by
    have := (List.getElem?_eq_some_iff.1 hu).1
    simp at this
    exact this
  subst hi
  obtain rfl : Value.string p = u := by simpa using hu
  have e : (⟨b, 0, none⟩ : Addr).add (j * 1 + 0) = ⟨b, j, none⟩ := by rw [Nat.mul_one, Nat.add_zero, add_plain]
  show w.cell? ((⟨b, 0, none⟩ : Addr).add (j * 1 + 0)) = _
  rw [e, blk_cell h j]
  have hj3 : j < 3 := (List.getElem?_eq_some_iff.1 hj).1
  match j, hj3 with
  | 0, _ => obtain rfl : x = p := by simpa using hj
            rfl
  | 1, _ => obtain rfl : y = p := by simpa using hj
            rfl
  | 2, _ => obtain rfl : z = p := by simpa using hj
            rfl
theorem freeT_len (t : S42) : (freeT t).length ≤ szT t := by
  unfold freeT
  split
  · have := frT_len _ t (Nat.le_refl _) [] []
    simpa using this
  · simp
/-- what is quoted -/
def QuP (w3 : World) (s8 : Value) (wx : World) : Prop := ∃ (qA : Option Addr) (qc : Nat) (ql : List ByteArray), s8 = .slice qA ql.length qc ∧ ql.length ≤ qc ∧ ql.length ≤ 1000 ∧ Kd.C Kd.string wx qA ql.length ql ∧ Below w3.heap.size w3 wx
set_option maxHeartbeats 4000000 in
set_option maxRecDepth 100000 in
theorem rawForms_walk (W : World) (A : Option Addr) (c : Nat) (l : List Int) (ha : Kd.C (Kd.int .i64) W A l.length l) (B : Option Addr) (d : Nat) (m : List Int) (hb : Kd.C (Kd.int .i64) W B m.length m) (q : Int) (hq : (Lit.int .i64 q).wf = true) (hw : WdAt W) :
    Calls Tryd.prog 10 #[.slice A l.length c, .slice B m.length d, .int .i64 q] W fun e w' => e = .returned (.bool true) ∧ Below W.heap.size W w' := by
  have hu42 := Tryd.underlying42
  have TA1 : Aside0 (Calls Tryd.prog 28 #[.slice A l.length c, .slice B m.length d] W (TreePost m W)) := ⟨tree_any W hw A c l ha B d m hb⟩
  have CZ : Aside0 (∀ (x n : Int) (w : World), 0 < n → n ≤ 1000000 → Calls Tryd.prog 27 #[.int .i64 x, .int .i64 n] w fun e w' => ∃ r : Int, 0 ≤ r ∧ r < n ∧ e = .returned (.int .i64 r) ∧ w = w') := ⟨fun x n w a b => (cut_ex x n w a b).mono fun e w' ⟨r, h1, h2, h3⟩ => ⟨(r : Int), by omega, h1, h2, h3⟩⟩
  clear ha hb hw hq
  go_enter Tryd.func10, Tryd.ntmps10
  go_upto_region 3 with (go_at_call 28; (with_reducible refine TA1.out.mono ?_); rintro e w1 ⟨t1, A1, c1, rfl, n1, s1, -, l1, r1, b1⟩; have N1 := Aside0.mk n1; have S1 := Aside0.mk s1; have L1 := Aside0.mk l1; have R1 := Aside0.mk r1; have B1 := Aside0.mk b1; clear n1 s1 l1 r1 b1)
  have X1 : Aside0 ((w1.alloc (.cells #[.int .i64 t1.f0, .string t1.f1, .int .i64 t1.f2, .slice A1 t1.f3.length c1] 42)).heap[w1.heap.size]? = some (.cells #[.int .i64 t1.f0, .string t1.f1, .int .i64 t1.f2, .slice A1 t1.f3.length c1] 42 (0, 0))) := ⟨heap_alloc_new _ _⟩
  have X3 : Aside0 (Below w1.heap.size w1 (w1.alloc (.cells #[.int .i64 t1.f0, .string t1.f1, .int .i64 t1.f2, .slice A1 t1.f3.length c1] 42))) := ⟨below_alloc (Below.refl _ _) _⟩
  generalize w1.alloc (.cells #[.int .i64 t1.f0, .string t1.f1, .int .i64 t1.f2, .slice A1 t1.f3.length c1] 42) = w3 at *
  have B3 : Aside0 (Below W.heap.size W w3) := ⟨below_step B1.out X3.out⟩
  generalize hbb : w1.heap.size = b at X1 ⊢
  have R3 : Aside0 (Kd.C k42 w3 A1 t1.f3.length t1.f3) := ⟨Kd.C_below R1.out X3.out⟩
  clear R1 X3 hbb TA1
  go_upto_if 15 with (go_at_call 27; (with_reducible refine (CZ.out _ _ _ (by omega) (by omega)).mono ?_); rintro e w' ⟨r, hr0, hr, rfl, rfl⟩)
  go_cut [8] (fun s8 wx => QuP w3 s8 wx)
  case first =>
    go_wp2_with fail
    · go_meet
      case rel => exact ⟨some ⟨w3.heap.size, 0, none⟩, 3, [⟨#[43]⟩, ⟨#[97]⟩, ⟨#[110, 97, 116]⟩], rfl, by simp, by simp, kstr3 (heap_alloc_new _ _), below_alloc (Below.refl _ _) _⟩
    · go_meet
      case rel => exact ⟨none, 0, [], rfl, by simp, by simp, Kd.C_nil _ _, Below.refl _ _⟩
  case rest =>
    obtain ⟨qA, qc, ql, rfl, q1, q2, q3, q4⟩ := hcut
    have SA : Aside0 (∀ W', Below wc.heap.size wc W' → W'.cell? ⟨b, 0, none⟩ = some (.int .i64 t1.f0) ∧ W'.cell? ⟨b, 1, none⟩ = some (.string t1.f1) ∧ W'.cell? ⟨b, 2, none⟩ = some (.int .i64 t1.f2) ∧ W'.cell? ⟨b, 3, none⟩ = some (.slice A1 t1.f3.length c1)) :=
      ⟨fun W' h => cells4h (blk_below (blk_below X1.out q4) h)⟩
    have C1 : Aside0 (∀ W', Below wc.heap.size wc W' → Kd.C k42 W' A1 t1.f3.length t1.f3) := ⟨fun W' h => Kd.C_below (Kd.C_below R3.out q4) h⟩
    have Q3 : Aside0 (∀ W', Below wc.heap.size wc W' → Kd.C Kd.string W' qA ql.length ql) := ⟨fun W' h => Kd.C_below q3 h⟩
    have Q1 := Aside0.mk q1
    have Q2 := Aside0.mk q2
    have B4 : Aside0 (Below W.heap.size W wc) := ⟨below_step B3.out q4⟩
    clear q1 q2 q3 q4 B3 X1 R3
    have F1 : Aside0 (∀ W', Below wc.heap.size wc W' → Calls Tryd.prog 29 #[.agg #[.int .i64 t1.f0, .string t1.f1, .int .i64 t1.f2, .slice A1 t1.f3.length c1]] W' fun e w' => e = .returned (.int .i64 (wfS t1)) ∧ Below W'.heap.size W' w') := ⟨fun W' h => wf_any formed_any t1 A1 c1 W' (by have := S1.out; omega) N1.out (C1.out W' h) L1.out⟩
    have F2 : Aside0 (∀ W', Below wc.heap.size wc W' → Calls Tryd.prog 30 #[.agg #[.int .i64 t1.f0, .string t1.f1, .int .i64 t1.f2, .slice A1 t1.f3.length c1]] W' fun e w' => e = .returned (.int .i64 (wfS t1)) ∧ Below W'.heap.size W' w') := ⟨fun W' h => rwf_any t1 A1 c1 W' (by have := S1.out; omega) (C1.out W' h) L1.out⟩
    have F3 : Aside0 (∀ W', Below wc.heap.size wc W' → Calls Tryd.prog 31 #[.agg #[.int .i64 t1.f0, .string t1.f1, .int .i64 t1.f2, .slice A1 t1.f3.length c1]] W' fun e w' => e = .returned (.int .i64 (szT t1)) ∧ Below W'.heap.size W' w') := ⟨fun W' h => size_any t1 A1 c1 W' (by have := S1.out; omega) (C1.out W' h) L1.out⟩
    have F4 : Aside0 (∀ W', Below wc.heap.size wc W' → Calls Tryd.prog 32 #[.agg #[.int .i64 t1.f0, .string t1.f1, .int .i64 t1.f2, .slice A1 t1.f3.length c1]] W' fun e w' => e = .returned (.int .i64 (szT t1)) ∧ Below W'.heap.size W' w') := ⟨fun W' h => rsize_any t1 A1 c1 W' (by have := S1.out; omega) (C1.out W' h) L1.out⟩
    have F5 : Aside0 (∀ W', Below wc.heap.size wc W' → Calls Tryd.prog 33 #[.agg #[.int .i64 t1.f0, .string t1.f1, .int .i64 t1.f2, .slice A1 t1.f3.length c1]] W' fun e w' => e = .returned (.int .i64 (dpT t1)) ∧ Below W'.heap.size W' w') := ⟨fun W' h => depth_any t1 A1 c1 W' (by have := S1.out; omega) (C1.out W' h) L1.out⟩
    have F6 : Aside0 (∀ W', Below wc.heap.size wc W' → Calls Tryd.prog 34 #[.agg #[.int .i64 t1.f0, .string t1.f1, .int .i64 t1.f2, .slice A1 t1.f3.length c1]] W' fun e w' => e = .returned (.int .i64 (dpT t1)) ∧ Below W'.heap.size W' w') := ⟨fun W' h => rdepth_any t1 A1 c1 W' (by have := S1.out; omega) (C1.out W' h) L1.out⟩
    have G1 : Aside0 (∀ W', Below wc.heap.size wc W' → Calls Tryd.prog 35 #[.agg #[.int .i64 t1.f0, .string t1.f1, .int .i64 t1.f2, .slice A1 t1.f3.length c1], .slice qA ql.length qc] W' fun e w' => e = .returned (.string ⟨(fmtS ql t1).toArray⟩) ∧ Below W'.heap.size W' w') := ⟨fun W' h => format_any t1 A1 c1 qA qc ql W' (by have := S1.out; omega) N1.out (C1.out W' h) L1.out (Q3.out W' h)⟩
    have G2 : Aside0 (∀ W', Below wc.heap.size wc W' → Calls Tryd.prog 36 #[.agg #[.int .i64 t1.f0, .string t1.f1, .int .i64 t1.f2, .slice A1 t1.f3.length c1], .slice qA ql.length qc] W' fun e w' => e = .returned (.string ⟨(fmtS ql t1).toArray⟩) ∧ Below W'.heap.size W' w') := ⟨fun W' h => rformat_any t1 A1 c1 qA qc ql W' (by have := S1.out; omega) N1.out (C1.out W' h) L1.out (Q3.out W' h) Q2.out Q1.out⟩
    have G3 : Aside0 (∀ W', Below wc.heap.size wc W' → Calls Tryd.prog 38 #[.agg #[.int .i64 t1.f0, .string t1.f1, .int .i64 t1.f2, .slice A1 t1.f3.length c1]] W' fun e w' => ∃ A2 c2, e = .returned (.slice A2 (freeT t1).length c2) ∧ Kd.C Kd.string w' A2 (freeT t1).length (freeT t1) ∧ Below W'.heap.size W' w') := ⟨fun W' h => free_any t1 A1 c1 W' (by have := S1.out; omega) N1.out (C1.out W' h) L1.out⟩
    have G4 : Aside0 (∀ W', Below wc.heap.size wc W' → Calls Tryd.prog 39 #[.agg #[.int .i64 t1.f0, .string t1.f1, .int .i64 t1.f2, .slice A1 t1.f3.length c1]] W' fun e w' => ∃ A2 c2, e = .returned (.slice A2 (freeT t1).length c2) ∧ Kd.C Kd.string w' A2 (freeT t1).length (freeT t1) ∧ Below W'.heap.size W' w') := ⟨fun W' h => rfree_any t1 A1 c1 W' (by have := S1.out; omega) N1.out (C1.out W' h) L1.out⟩
    have G5 : Aside0 (∀ W', Calls Tryd.prog 40 #[] W' fun e w' => e = .returned (.bool true) ∧ Below W'.heap.size W' w') := ⟨fun W' => awake_any W'⟩
    have HFL : Aside0 ((freeT t1).length ≤ 1000000000) := ⟨by have := freeT_len t1; have := S1.out; omega⟩
    have HB : Aside0 (Below wc.heap.size wc wc.drew) := ⟨below_drew (Below.refl _ _)⟩
    generalize wfS t1 = x1 at F1 F2
    generalize szT t1 = x2 at F3 F4
    generalize dpT t1 = x3 at F5 F6
    generalize fmtS ql t1 = x4 at G1 G2
    go_upto_region 5 with fail
    go_region_held3 (fun W' => W'.cell? ⟨b, 0, none⟩ = some (.int .i64 t1.f0) ∧ W'.cell? ⟨b, 1, none⟩ = some (.string t1.f1) ∧ W'.cell? ⟨b, 2, none⟩ = some (.int .i64 t1.f2) ∧ W'.cell? ⟨b, 3, none⟩ = some (.slice A1 t1.f3.length c1)) (with_reducible first | exact SA.out _ HB.out | fail) (((first | (go_at_call 29; (with_reducible refine (F1.out _ HB.out).mono ?_); rintro e w4 ⟨rfl, b4⟩; have n4 := Aside0.mk (below_step HB.out b4); clear HB b4; have HB := n4; clear n4) | (go_at_call 30; (with_reducible refine (F2.out _ HB.out).mono ?_); rintro e w4 ⟨rfl, b4⟩; have n4 := Aside0.mk (below_step HB.out b4); clear HB b4; have HB := n4; clear n4) | (go_at_call 31; (with_reducible refine (F3.out _ HB.out).mono ?_); rintro e w4 ⟨rfl, b4⟩; have n4 := Aside0.mk (below_step HB.out b4); clear HB b4; have HB := n4; clear n4) | (go_at_call 32; (with_reducible refine (F4.out _ HB.out).mono ?_); rintro e w4 ⟨rfl, b4⟩; have n4 := Aside0.mk (below_step HB.out b4); clear HB b4; have HB := n4; clear n4) | (go_at_call 33; (with_reducible refine (F5.out _ HB.out).mono ?_); rintro e w4 ⟨rfl, b4⟩; have n4 := Aside0.mk (below_step HB.out b4); clear HB b4; have HB := n4; clear n4) | (go_at_call 34; (with_reducible refine (F6.out _ HB.out).mono ?_); rintro e w4 ⟨rfl, b4⟩; have n4 := Aside0.mk (below_step HB.out b4); clear HB b4; have HB := n4; clear n4))))
    go_upto_region 6 with fail
    have h9 := Aside0.mk (below_drew HB.out)
    clear HB
    have HB := h9
    clear h9
    go_region_held3 (fun W' => W'.cell? ⟨b, 0, none⟩ = some (.int .i64 t1.f0) ∧ W'.cell? ⟨b, 1, none⟩ = some (.string t1.f1) ∧ W'.cell? ⟨b, 2, none⟩ = some (.int .i64 t1.f2) ∧ W'.cell? ⟨b, 3, none⟩ = some (.slice A1 t1.f3.length c1)) (with_reducible first | exact SA.out _ HB.out | fail) (((first | (go_at_call 35; (with_reducible refine (G1.out _ HB.out).mono ?_); rintro e w4 ⟨rfl, b4⟩; have n4 := Aside0.mk (below_step HB.out b4); clear HB b4; have HB := n4; clear n4) | (go_at_call 36; (with_reducible refine (G2.out _ HB.out).mono ?_); rintro e w4 ⟨rfl, b4⟩; have n4 := Aside0.mk (below_step HB.out b4); clear HB b4; have HB := n4; clear n4) | (go_at_call 38; (with_reducible refine (G3.out _ HB.out).mono ?_); rintro e w4 ⟨A5, c5, rfl, k5, b4⟩; have K5 := Aside0.mk k5; have n4 := Aside0.mk (below_step HB.out b4); clear HB b4 k5; have HB := n4; clear n4) | (go_at_call 39; (with_reducible refine (G4.out _ HB.out).mono ?_); rintro e w5 ⟨A6, c6, rfl, k6, b4⟩; have K6 := Aside0.mk k6; have K7 := Aside0.mk (Kd.C_below K5.out b4); have n4 := Aside0.mk (below_step HB.out b4); clear HB b4 k6; have HB := n4; clear n4) | (go_at_call 37; (with_reducible refine (samen_any (freeT t1) _ _ _ _ _ HFL.out K7.out K6.out).mono ?_); rintro e w4 ⟨rfl, b4⟩; have n4 := Aside0.mk (below_step HB.out b4); clear HB b4; have HB := n4; clear n4) | (go_at_call 40; (with_reducible refine (G5.out _).mono ?_); rintro e w4 ⟨rfl, b4⟩; have n4 := Aside0.mk (below_step HB.out b4); clear HB b4; have HB := n4; clear n4))))
    go_wp2_with fail
    go_ret
    exact ⟨rfl, below_step B4.out HB.out⟩
end
end Go.Proofs.YtajefkjcfmfjkaaDoor
namespace Go.Proofs.YtajefkjcfmfjkaaDoor
section
set_option linter.unusedVariables false
set_option linter.unusedSimpArgs false
set_option linter.deprecated false
open Go.ChangeShapes Go.WideShapes Go.ChangeAt Go.WideMaps Go.WideElems Go.RowKit
def laidWd : List (String × DataW Unit) := [("lfcheck/lfcheckmade.words", Rows.laid_lfcheck_lfcheckmade_words)]
theorem own : ownKnob Tryd.prog.godebug = none := by kernel_rfl
theorem laidOut : laidOutB Tryd.prog = true := by kernel_rfl
theorem gWd : Tryd.prog.globalNamed "lfcheck/lfcheckmade.words" = some 1 := by kernel_rfl
theorem tWd : (Tryd.prog.globals[1]?).map (·.type) = some 38 := by kernel_rfl
theorem cells9 : Tryd.prog.cellsOf 9 = 1 := by kernel_rfl
theorem doorWd_met (os : Os) (args : Array Value) : laidMetH Tryd.prog laidWd ((World.doorLaid Tryd.prog 19 os).forCall (fun _ _ => 0) ⟨#[], args, []⟩).memory :=
  laidMetH_of_parts3 (fuel := 8) (laidMet_of_run' 8 (by kernel_rfl) (by kernel_rfl)) (by kernel_rfl) (by kernel_rfl)
theorem of_laidWd {W : World} (h : laidMetH Tryd.prog laidWd W) : WdAt W := by
  rw [MakeChecks.laidMetH_plain _ _ _ (by kernel_rfl)] at h
  obtain ⟨ps, ⟨g0, t0, cs0, f0, p0, q0, hg0, ht0, hv0, hd0, _, _⟩, _, _⟩ := h
  obtain rfl := Option.some.inj (gWd.symm.trans hg0)
  obtain rfl := Option.some.inj (tWd.symm.trans ht0)
  rcases open_strings Tryd.underlying38 Tryd.underlying9 cells9 hd0 with ⟨_, hx⟩ | ⟨a, len, cap, ss, hcs, _, hl, hm, hz, hx, hcell, hws⟩
  · simp [Rows.laid_lfcheck_lfcheckmade_words] at hx
  have hv := World.var?_cell hg0 hv0 0
  have hD : (Rows.laid_lfcheck_lfcheckmade_words : DataW Unit) = .slice (wdL.map fun l => .lit (.string l)) [] := rfl
  rw [hD] at hx
  simp only [Prod.mk.injEq, DataW.slice.injEq] at hx
  obtain ⟨⟨hx1, _⟩, _⟩ := hx
  have h1 : (ss.take len).map (fun s => s.data.toList) = wdL := by
    have := congrArg (List.map fun d : DataW Unit => match d with | .lit (.string l) => l | _ => []) hx1
    simp only [strs, List.map_map] at this
    have e1 : ((fun d : DataW Unit => match d with | .lit (.string l) => l | _ => []) ∘ fun s : ByteArray => DataW.lit (.string s.data.toList)) = fun s => s.data.toList := rfl
    have e2 : ((fun d : DataW Unit => match d with | .lit (.string l) => l | _ => []) ∘ fun l : List UInt8 => DataW.lit (.string l)) = id := rfl
    rw [e1, e2, List.map_id] at this
    exact this.symm
  have h2 : (ss.take len).length = 13 := by
    have := congrArg List.length h1
    rw [List.length_map] at this
    exact this
  rw [List.length_take] at h2
  have hlen : len = 13 := by
    rcases Nat.le_total len ss.length with h | h
    · omega
    · have : ss.length = 13 := by omega
      split at hz <;> omega
  subst hlen
  refine ⟨⟨a, cap, ?_, fun j hj => ?_⟩⟩
  · rw [Array.eq_one_of_toList hcs] at hv
    simpa using hv
  · rw [hcell j (by omega)]
    have h3 : ss.getD j ByteArray.empty = wdB j := by
      have h4 := congrArg (fun l => l[j]?) h1
      simp only [List.getElem?_map, List.getElem?_take, hj, if_true] at h4
      rw [List.getElem?_eq_getElem (show j < ss.length by omega)] at h4
      simp only [Option.map_some] at h4
      rw [List.getD_eq_getElem?_getD, List.getElem?_eq_getElem (show j < ss.length by omega), Option.getD_some]
      unfold wdB wdAt
      rw [List.getD_eq_getElem?_getD, ← h4, Option.getD_some]
    rw [h3]
end
end Go.Proofs.YtajefkjcfmfjkaaDoor
namespace Go.Proofs.YtajefkjcfmfjkaaDoor
section
set_option linter.unusedVariables false
set_option linter.unusedSimpArgs false
set_option linter.deprecated false
open Go.ChangeShapes Go.WideShapes Go.ChangeAt Go.RowKit Go.Proofs.YtajefkjcfmfjkaaDoorW.PrintWords
theorem kd_ints {w : World} {x : Addr} {len cap : Nat} {zs : List Int} (hl : len ≤ cap) (hm : cap ≤ maxLen) (hz : zs.length = cap)
    (hc : ∀ i, i < zs.length → w.cell? (x.add i) = some (.int .i64 (zs.getD i 0))) : (zs.take len).length = len ∧ Kd.C (Kd.int .i64) w (some x) len (zs.take len) := by
  have h1 : (zs.take len).length = len := by rw [List.length_take]; omega
  unfold maxLen at hm
  refine ⟨h1, h1, by omega, fun _ => ⟨x, rfl, fun j p hp => ?_⟩⟩
  have hj : j < (zs.take len).length := (List.getElem?_eq_some_iff.1 hp).1
  have hj2 : j < zs.length := by rw [h1] at hj; omega
  refine ⟨[.int .i64 p], rfl, rfl, fun i u hu => ?_⟩
  have hi : i = 0 := by
    have := (List.getElem?_eq_some_iff.1 hu).1
    simp at this
    exact this
  subst hi
  simp only [List.getElem?_cons_zero, Option.some.injEq] at hu
  subst hu
  have h2 := hc j hj2
  have h3 : zs.getD j 0 = p := by
    rw [List.getElem?_take] at hp
    rw [h1] at hj
    simp only [hj, if_true] at hp
    rw [List.getD_eq_getElem?_getD, hp, Option.getD_some]
  rw [h3] at h2
  show w.cell? (x.add (j * 1 + 0)) = some (Value.int IntKind.i64 p)
  rw [Nat.mul_one, Nat.add_zero]
  exact h2
theorem kd_none (w : World) : Kd.C (Kd.int .i64) w none 0 [] := ⟨rfl, by omega, fun h => absurd h (by omega)⟩
end
end Go.Proofs.YtajefkjcfmfjkaaDoor
