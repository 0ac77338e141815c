/- The texts of the proof of 'RawTexts', joined: each part is a text of its own in wip; what the law does not use is left out. -/
import Derived.Test.YtajefkjcfmfjkaaDoorMRawTexts2
import Derived.Test.YtajefkjcfmfjkaaDoorRows
namespace Go.Proofs.YtajefkjcfmfjkaaDoor
section
set_option linter.unusedVariables false
set_option linter.unusedSimpArgs false
set_option linter.deprecated false
open Go.RowKit Go.Proofs.YtajefkjcfmfjkaaDoorW.PrintWords Go.Proofs.YtajefkjcfmfjkaaDoor.POperatorResolves
theorem raw_any (w0 : World) (hw : WdAt w0) (g : Nat) : ∀ (i : Nat), i ≤ 100 → ∀ W, Tp w0 W g → Calls Tryd.prog 59 #[.pointer (some ⟨g, 0, none⟩), .int .i64 i] W (RawPost w0 g i W) := by
  intro i
  induction i with
  | zero => intro _ W h; exact raw_zero w0 hw g W h
  | succ i ih =>
    intro hi W h
    rw [show (((i + 1 : Nat) : Int)) = (i : Int) + 1 by omega]
    exact raw_succ w0 hw g i (by omega) W h (fun W h => ih (by omega) W h)
end
end Go.Proofs.YtajefkjcfmfjkaaDoor
namespace Go.Proofs.YtajefkjcfmfjkaaDoor
section
set_option linter.unusedVariables false
set_option linter.unusedSimpArgs false
set_option linter.deprecated false
open Go.RowKit Go.Proofs.YtajefkjcfmfjkaaDoorW.PrintWords Go.Proofs.YtajefkjcfmfjkaaDoor.POperatorResolves
set_option linter.unusedVariables false
attribute [local go_sem ↓] Go.wp_at_zero Go.wp_at_succ
theorem RowF.lt {P : Nat → Prop} {w : World} {A : Option Addr} {l : List S42} (h : RowF P w A l) : RowF (fun k => P k ∧ k < w.heap.size) w A l := by
  induction h with
  | mk A ds hl hc hk hr ih =>
    refine RowF.mk A ds hl (fun hp => ?_) hk ih
    obtain ⟨ad, e, hP, hh⟩ := hc hp
    obtain ⟨u0, h0⟩ := ndCs_ne hp
    have hlt := World.block_lt_of_cell? w _ (hh 0 u0 h0)
    rw [add_block] at hlt
    exact ⟨ad, e, ⟨hP, hlt⟩, hh⟩
theorem RowF.live {P : Nat → Prop} {w : World} {A : Option Addr} {l : List S42} (h : RowF P w A l) : RowF (fun k => P k ∧ ∃ a : Addr, a.block = k ∧ (w.cell? a).isSome = true) w A l := by
  induction h with
  | mk A ds hl hc hk hr ih =>
    refine RowF.mk A ds hl (fun hp => ?_) hk ih
    obtain ⟨ad, e, hP, hh⟩ := hc hp
    obtain ⟨u0, h0⟩ := ndCs_ne hp
    exact ⟨ad, e, ⟨hP, ad.add 0, add_block _ _, by rw [hh 0 u0 h0]; rfl⟩, hh⟩
/-- w with nothing in the blocks below lo -/
def wiped (lo : Nat) (w : World) : World := { w with heap := w.heap.mapIdx fun i o => if i < lo then .cells #[] 42 (0, 0) else o }
theorem wiped_at (lo : Nat) (w : World) (k : Nat) : (wiped lo w).heap[k]? = (w.heap[k]?).map fun o => if k < lo then .cells #[] 42 (0, 0) else o := by
  unfold wiped
  rw [Array.getElem?_mapIdx]
theorem foot_row {lo : Nat} {w : World} {A : Option Addr} {l : List S42} (h : Foot lo w A l) : RowF (fun k => lo ≤ k ∧ k < w.heap.size) w A l := by
  have hs : (wiped lo w).heap.size = w.heap.size := by simp [wiped]
  have hg : ∀ k, lo ≤ k → (wiped lo w).heap[k]? = w.heap[k]? := fun k hk => by
    rw [wiped_at]
    cases w.heap[k]? with
    | none => rfl
    | some o => simp only [Option.map_some]; rw [if_neg (by omega)]
  have h1 := h (wiped lo w) (fun k hk _ => hg k hk)
  have h2 : RowF (fun k => lo ≤ k ∧ k < w.heap.size) (wiped lo w) A l := by
    refine (RowF.ofC _ _ A l (Nat.le_refl _) h1).live.mono fun k hk => ?_
    obtain ⟨hk1, a, rfl, ha⟩ := hk
    refine ⟨?_, by omega⟩
    rcases Nat.lt_or_ge a.block lo with hlo | hlo
    · exfalso
      unfold World.cell? at ha
      rw [wiped_at] at ha
      cases ho : w.heap[a.block]? with
      | none => rw [ho] at ha; simp at ha
      | some o => rw [ho] at ha; simp [hlo] at ha
    · exact hlo
  exact h2.step fun k hk _ => (hg k hk.1).symm
def MkPost (n i : Nat) (w : World) (e : Ending) (w' : World) : Prop := ∃ (t : S42) (A : Option Addr) (c : Nat), e = .returned (.agg #[.int .i64 t.f0, .string t.f1, .int .i64 t.f2, .slice A t.f3.length c]) ∧ Made i t ∧ t.f3.length ≤ c ∧ RowF (fun k => n ≤ k ∧ k < w'.heap.size) w' A t.f3 ∧ Below n w w'
theorem raw_new (w : World) (hw : WdAt w) (i : Nat) (hi : i ≤ 100) (A : Option Addr) (c : Nat) (l : List Int) (ha : Kd.C (Kd.int .i64) w A l.length l) :
    Calls Tryd.prog 59 #[.pointer (some ⟨w.heap.size, 0, none⟩), .int .i64 i] (w.alloc (.cells #[.slice A l.length c, .int .i64 0] 59)) (MkPost w.heap.size i w) := by
  refine (raw_any w hw w.heap.size i hi _ ⟨below_alloc (Below.refl _ _) _, l, 0, ⟨A, c, heap_alloc_new _ _, Nat.le_refl _, ha⟩, by omega, by omega, ?_⟩).mono ?_
  · have := ha.2.1
    omega
  · rintro e w' ⟨t, A2, c2, rfl, h1, h2, h3, _, h4⟩
    exact ⟨t, A2, c2, rfl, h1, h2, (foot_row h4).mono fun k hk => ⟨by have := hk.1; rw [alloc_size1] at this; omega, hk.2⟩, h3.1⟩
def TreePost (m : List Int) (W : World) (e : Ending) (w' : World) : Prop :=
  ∃ (t : S42) (A : Option Addr) (c : Nat), e = .returned (.agg #[.int .i64 t.f0, .string t.f1, .int .i64 t.f2, .slice A t.f3.length c]) ∧ nmT t = true ∧ szT t ≤ 1000 ∧ (m = [] → Made 4 t) ∧ t.f3.length ≤ c ∧ Kd.C k42 w' A t.f3.length t.f3 ∧ Below W.heap.size W w'
def TrR (m : List Int) (W : World) (b : Nat) (k : Nat) (wr : World) : Prop :=
  ∃ (t : S42) (A : Option Addr) (c : Nat), wr.heap[b]? = some (.cells #[.int .i64 t.f0, .string t.f1, .int .i64 t.f2, .slice A t.f3.length c] 42 (0, 0)) ∧ wr.heap[W.heap.size]? = some (.cells #[.int .i64 0, .string ⟨#[]⟩, .int .i64 0, .slice none 0 0] 42 (0, 0)) ∧ nmT t = true ∧ szT t ≤ 100 + k ∧ (m = [] → Made 4 t) ∧ t.f3.length ≤ c ∧
    RowF (fun j => j ≠ W.heap.size ∧ j ≠ b ∧ j < wr.heap.size) wr A t.f3 ∧ Below W.heap.size W wr
theorem tree_end {m : List Int} {W wr : World} {b k : Nat} {t2 : S42} {A2 : Option Addr} {c2 : Nat}
    (h : wr.heap[b]? = some (.cells #[.int .i64 t2.f0, .string t2.f1, .int .i64 t2.f2, .slice A2 t2.f3.length c2] 42 (0, 0)) ∧ wr.heap[W.heap.size]? = some (.cells #[.int .i64 0, .string ⟨#[]⟩, .int .i64 0, .slice none 0 0] 42 (0, 0)) ∧ nmT t2 = true ∧ szT t2 ≤ 100 + k ∧ (m = [] → Made 4 t2) ∧ t2.f3.length ≤ c2 ∧
      RowF (fun j => j ≠ W.heap.size ∧ j ≠ b ∧ j < wr.heap.size) wr A2 t2.f3 ∧ Below W.heap.size W wr) (hk : k ≤ 7) :
    TreePost m W (.returned (.agg #[.int .i64 t2.f0, .string t2.f1, .int .i64 t2.f2, .slice A2 t2.f3.length c2])) ((((wr.setCell ⟨W.heap.size, 0, none⟩ (.int .i64 t2.f0)).setCell ⟨W.heap.size, 1, none⟩ (.string t2.f1)).setCell ⟨W.heap.size, 2, none⟩ (.int .i64 t2.f2)).setCell ⟨W.heap.size, 3, none⟩ (.slice A2 t2.f3.length c2)) := by
  obtain ⟨_, _, h3, h4, h5, h6, h7, h8⟩ := h
  exact ⟨t2, A2, c2, rfl, h3, by omega, h5, h6, (h7.step fun j hj _ => put4_keep hj.1 _ _ _ _).toC, below_set4 h8 (Nat.le_refl _) _ _ _ _⟩
set_option maxHeartbeats 4000000 in
set_option maxRecDepth 100000 in
theorem tree_any (W : World) (hw : WdAt W) (A : Option Addr) (c : Nat) (l : List Int) (ha : Kd.C (Kd.int .i64) W A l.length l) (B : Option Addr) (d : Nat) (m : List Int) (hb : Kd.C (Kd.int .i64) W B m.length m) :
    Calls Tryd.prog 28 #[.slice A l.length c, .slice B m.length d] W (TreePost m W) := by
  have hu42 := Tryd.underlying42
  have HW := Aside0.mk hw
  have HA := Aside0.mk ha
  have HM := Aside0.mk hb
  have HML : Aside0 (m.length ≤ 9223372036854775807) := ⟨by have := hb.2.1; omega⟩
  clear ha hb hw
  go_enter Tryd.func28, Tryd.ntmps28
  have B0 : Aside0 ((W.alloc (.cells #[.int .i64 0, .string ⟨#[]⟩, .int .i64 0, .slice none 0 0] 42)).heap[W.heap.size]? = some (.cells #[.int .i64 0, .string ⟨#[]⟩, .int .i64 0, .slice none 0 0] 42 (0, 0))) := ⟨heap_alloc_new _ _⟩
  have L0 : Aside0 (Below W.heap.size W (W.alloc (.cells #[.int .i64 0, .string ⟨#[]⟩, .int .i64 0, .slice none 0 0] 42))) := ⟨below_alloc (Below.refl _ _) _⟩
  have S0 : Aside0 ((W.alloc (.cells #[.int .i64 0, .string ⟨#[]⟩, .int .i64 0, .slice none 0 0] 42)).heap.size = W.heap.size + 1) := ⟨alloc_size1 _ _⟩
  go_upto_region 1 with fail
  generalize W.alloc (.cells #[.int .i64 0, .string ⟨#[]⟩, .int .i64 0, .slice none 0 0] 42) = w0 at *
  have HR : Aside0 (Calls Tryd.prog 59 #[.pointer (some ⟨w0.heap.size, 0, none⟩), .int .i64 (4 : Nat)] (w0.alloc (.cells #[.slice A l.length c, .int .i64 0] 59)) (MkPost w0.heap.size 4 w0)) := ⟨raw_new w0 (HW.out.below L0.out) 4 (by omega) A c l (Kd.C_below HA.out L0.out)⟩
  go_wp2_with (go_at_call 59; refine (HR.out).mono ?_; rintro e w1 ⟨t, A1, c1, rfl, md, hc1, h1, b1⟩; have MD := Aside0.mk md; have HC1 := Aside0.mk hc1; have HK1 := Aside0.mk h1; have BL1 := Aside0.mk b1; clear md hc1 h1 b1)
  have BW : Aside0 (W.heap.size < w1.heap.size) := ⟨by have := below_size BL1.out; have := S0.out; omega⟩
  have BLW : Aside0 (Below W.heap.size W w1) := ⟨below_step L0.out BL1.out⟩
  have B01 : Aside0 (w1.heap[W.heap.size]? = some (.cells #[.int .i64 0, .string ⟨#[]⟩, .int .i64 0, .slice none 0 0] 42 (0, 0))) := ⟨blk_below B0.out BL1.out⟩
  have HB1 : Aside0 (W.heap.size ≤ w1.heap.size) := ⟨Nat.le_of_lt BW.out⟩
  have hat : Aside0 (TrR m W w1.heap.size 0 (w1.alloc (.cells #[.int .i64 t.f0, .string t.f1, .int .i64 t.f2, .slice A1 t.f3.length c1] 42))) := ⟨by
    obtain ⟨m1, m2, m3, m4⟩ := MD.out
    refine ⟨t, A1, c1, heap_alloc_new _ _, blk_alloc B01.out _, m2, by omega, fun _ => MD.out, HC1.out, ?_, below_alloc BLW.out _⟩
    refine (HK1.out.keep (below_alloc (Below.refl _ _) _)).mono fun k hk => ?_
    have := alloc_size1 w1 (.cells #[.int .i64 t.f0, .string t.f1, .int .i64 t.f2, .slice A1 t.f3.length c1] 42)
    have h2 := S0.out
    exact ⟨by omega, by omega, by omega⟩⟩
  clear HR MD HC1 HK1 BL1 B0 L0 S0 BLW B01
  generalize w1.alloc (.cells #[.int .i64 t.f0, .string t.f1, .int .i64 t.f2, .slice A1 t.f3.length c1] 42) = w2 at *
  generalize w1.heap.size = b at *
  go_loopw [6] (fun i wr => ∃ k : Nat, k ≤ 7 ∧ i = .int .i64 k ∧ Aside0 (TrR m W b k wr)) (fun i _ => 6 - (intOf i).toNat)
  case atStart => exact ⟨0, by omega, rfl, hat⟩
  case round =>
    obtain ⟨k, hk, rfl, HTR⟩ := hrel
    rename_i wr
    clear hat
    obtain ⟨t2, A2, c2, e1, e2, e3, e4, e5, e6, e7, e8⟩ := HTR.out
    have E1 := Aside0.mk e1
    have E2 := Aside0.mk e2
    have E3 := Aside0.mk e3
    have E4 := Aside0.mk e4
    have E5 := Aside0.mk e5
    have E6 := Aside0.mk e6
    have E7 := Aside0.mk e7
    have E8 := Aside0.mk e8
    clear e1 e2 e3 e4 e5 e6 e7 e8
    have HK6 := Aside0.mk hk
    have q2 : IntKind.i64.wrap ((k : Int) + 1) = (k : Int) + 1 := IntWalk.i64_in _ (by omega)
    by_cases hlt : k + 1 < m.length ∧ k < 6
    ·
      as_aux_lemma =>
        obtain ⟨ad, rfl, m0⟩ := Kd.at_int HM.out (k : Int) (by omega) (by omega)
        obtain ⟨ad', h', m1⟩ := Kd.at_int HM.out ((k : Int) + 1) (by omega) (by omega)
        obtain rfl := Option.some.inj h'
        clear h'
        rw [Int.toNat_natCast] at m0
        rw [show ((k : Int) + 1).toNat = k + 1 by omega, Addr.add_succ'] at m1
        generalize rd m (k : Int) = x0 at m0
        generalize rd m ((k : Int) + 1) = x1 at m1
        have SM : Aside0 (∀ W', Below W.heap.size W W' → W'.cell? (ad.add k) = some (.int .i64 x0) ∧ W'.cell? ⟨ad.block, ad.off + (k + 1), none⟩ = some (.int .i64 x1)) := ⟨fun W' h => ⟨pw_cell_below h m0, pw_cell_below h m1⟩⟩
        have HLT := Aside0.mk hlt
        have q0 := eq_true (show (0 : Int) ≤ (k : Int) by omega)
        have q1 := eq_true (show (k : Int) < (m.length : Int) by omega)
        have q3 := eq_true (show (0 : Int) ≤ (k : Int) + 1 by omega)
        have q4 := eq_true (show (k : Int) + 1 < (m.length : Int) by omega)
        have q5 := eq_true (show (k : Int) < 6 by omega)
        have q6 := eq_true (show k < 6 by omega)
        have q7 := eq_true (show k + 1 < m.length by omega)
        have q8 := eq_true (show k < m.length by omega)
        have q9 : IntKind.i64.wrap ((k : Int) + 2) = (k : Int) + 2 := IntWalk.i64_in _ (by omega)
        have q10 : ((k : Int) + 1).toNat = k + 1 := by omega
        clear m0 m1 hlt hk
        obtain ⟨c0, c1, c2', c3⟩ := cells4h E1.out
        have f0 := blk_frozen E1.out 0
        have f1 := blk_frozen E1.out 1
        have f2 := blk_frozen E1.out 2
        have f3 := blk_frozen E1.out 3
        have HSP : Aside0 (∀ p q : Int, Calls Tryd.prog 48 #[.agg #[.int .i64 t2.f0, .string t2.f1, .int .i64 t2.f2, .slice A2 t2.f3.length c2], .int .i64 p, .int .i64 q] wr.drew (SpPost t2 (fun j => j ≠ W.heap.size ∧ j ≠ b ∧ j < wr.heap.size) wr.drew)) := ⟨fun p q =>
          spoil_any _ _ t2 (Nat.le_refl _) p q A2 c2 wr.drew E3.out (by have := E4.out; have := HLT.out; omega) (E7.out.step fun _ _ _ => rfl) (fun k hk => hk.2.2) E6.out (HW.out.below (below_drew E8.out))⟩
        go_upto_region 5 with fail
        obtain ⟨k0, k1⟩ := SM.out wr E8.out
        go_still_tail 10, (by kernel_rfl)
        change wpList _ _ _ _ _ wr.drew
        clear c0 c1 c2' c3 f0 f1 f2 f3 k0 k1
        go_wp2_with (go_at_call 48; (with_reducible refine (HSP.out _ _).mono ?_); rintro e w3 ⟨t3, A3, k3, rfl, n3, s3, l3, ft3, b3⟩; have BX3 := Aside0.mk (blk_below (blk_drew E1.out) b3); have BB3 := Aside0.mk (below_step (below_drew E8.out) b3); obtain ⟨z0, z1, z2, z3⟩ := cells4h BX3.out; have y0 := blk_frozen BX3.out 0; have y1 := blk_frozen BX3.out 1; have y2 := blk_frozen BX3.out 2; have y3 := blk_frozen BX3.out 3; have N3 := Aside0.mk n3; have S3 := Aside0.mk s3; have L3 := Aside0.mk l3; have F3 := Aside0.mk ft3; have B3 := Aside0.mk b3; clear n3 s3 l3 ft3 b3)
        have TR4 : Aside0 (TrR m W b (k + 2) ((((w3.setCell ⟨b, 0, none⟩ (.int .i64 t3.f0)).setCell ⟨b, 1, none⟩ (.string t3.f1)).setCell ⟨b, 2, none⟩ (.int .i64 t3.f2)).setCell ⟨b, 3, none⟩ (.slice A3 t3.f3.length k3))) := ⟨by
          have hs : wr.drew.heap.size = wr.heap.size := rfl
          have hb := blk_lt E1.out
          refine ⟨t3, A3, k3, box_set4 BX3.out _ _ _ _, set4_blk (blk_below (blk_drew E2.out) B3.out) (Nat.ne_of_lt BW.out) _ _ _ _, N3.out, by have := S3.out; have := E4.out; omega, fun h => ?_, L3.out, ?_, below_set4 BB3.out HB1.out _ _ _ _⟩
          · have := HLT.out.1; rw [h] at this; simp at this
          · refine ((F3.out.lt).step fun j hj _ => put4_keep (fun e => ?_) _ _ _ _).mono fun j hj => ⟨?_, ?_⟩
            · rcases hj with ⟨⟨_, hj, _⟩ | hj, _⟩
              · exact hj e
              · omega
            · rcases hj with ⟨⟨hj, _, _⟩ | hj, _⟩
              · exact hj
              · have := BW.out; omega
            · refine ⟨?_, ?_⟩
              · rcases hj with ⟨⟨_, hj, _⟩ | hj, _⟩
                · exact hj
                · omega
              · have := hj.2
                simpa [World.setCell] using this⟩
        go_roundw
        case rel => exact ⟨k + 2, by have := HLT.out; omega, by go_num, TR4⟩
        case measure => have := HLT.out; simp [intOf]; omega
    ·
      as_aux_lemma =>
        have q3 : decide ((k : Int) + 1 < (m.length : Int)) = decide (k + 1 < m.length) := by rw [decide_eq_decide]; omega
        rcases Nat.lt_or_ge (k + 1) m.length with h1 | h1
        · have q5 := eq_false (show ¬ ((k : Int) < 6) by omega)
          have q6 := eq_false (show ¬ (k < 6) by omega)
          have q7 := eq_true h1
          have q4 := eq_true (show (k : Int) + 1 < (m.length : Int) by omega)
          clear h1 hlt hk q3
          obtain ⟨c0, c1, c2', c3⟩ := cells4h E1.out
          obtain ⟨z0, z1, z2, z3⟩ := cells4h E2.out
          have y0 := blk_frozen E2.out 0
          have y1 := blk_frozen E2.out 1
          have y2 := blk_frozen E2.out 2
          have y3 := blk_frozen E2.out 3
          go_wp2_with fail
          refine bodyPost_ret (results_cell_row rfl _ _ W.heap.size 42 #[.int .i64 t2.f0, .string t2.f1, .int .i64 t2.f2, .slice A2 t2.f3.length c2] (0, 0) _ rfl ?hp Tryd.underlying42 rfl (by kernel_rfl)) rfl ?_
          case hp => with_reducible exact box_set4 E2.out _ _ _ _
          exact tree_end ⟨E1.out, E2.out, E3.out, E4.out, E5.out, E6.out, E7.out, E8.out⟩ HK6.out
        · have q7 := eq_false (show ¬ (k + 1 < m.length) by omega)
          have q4 := eq_false (show ¬ ((k : Int) + 1 < (m.length : Int)) by omega)
          clear h1 hlt hk q3
          obtain ⟨c0, c1, c2', c3⟩ := cells4h E1.out
          obtain ⟨z0, z1, z2, z3⟩ := cells4h E2.out
          have y0 := blk_frozen E2.out 0
          have y1 := blk_frozen E2.out 1
          have y2 := blk_frozen E2.out 2
          have y3 := blk_frozen E2.out 3
          go_wp2_with fail
          refine bodyPost_ret (results_cell_row rfl _ _ W.heap.size 42 #[.int .i64 t2.f0, .string t2.f1, .int .i64 t2.f2, .slice A2 t2.f3.length c2] (0, 0) _ rfl ?hp Tryd.underlying42 rfl (by kernel_rfl)) rfl ?_
          case hp => with_reducible exact box_set4 E2.out _ _ _ _
          exact tree_end ⟨E1.out, E2.out, E3.out, E4.out, E5.out, E6.out, E7.out, E8.out⟩ HK6.out
end
end Go.Proofs.YtajefkjcfmfjkaaDoor
namespace Go.Proofs.YtajefkjcfmfjkaaDoor
section
set_option linter.unusedVariables false
set_option linter.unusedSimpArgs false
set_option linter.deprecated false
open Go.RowKit Go.Proofs.YtajefkjcfmfjkaaDoorW.PrintWords Go.Proofs.YtajefkjcfmfjkaaDoor.PTokenPieces
theorem sfx_zero (s : ByteArray) : sfx s 0 = s.data.toList := by simp [sfx]
theorem tw_all (p : UInt8 → Bool) : ∀ l : List UInt8, (l.takeWhile p).length = l.length ↔ l.all p = true
  | [] => by simp
  | c :: r => by
    have ih := tw_all p r
    cases hp : p c with
    | true => rw [List.takeWhile_cons_of_pos hp, List.length_cons, List.length_cons, List.all_cons, hp, Bool.true_and, ← ih]; omega
    | false => rw [List.takeWhile_cons_of_neg (by rw [hp]; exact Bool.false_ne_true), List.all_cons, hp]; simp
theorem run_all (s : ByteArray) : (runEnd isName s 0 == s.size) = s.data.toList.all isName := by
  obtain ⟨h1, h2, h3, h4⟩ := runEnd_sfx isName s 0 (Nat.zero_le _)
  rw [sfx_zero] at h3 h4
  have hl : (s.data.toList.takeWhile isName).length = runEnd isName s 0 := by
    rw [← h4, List.length_take, len_data]; omega
  rw [Bool.eq_iff_iff, beq_iff_eq, ← tw_all, hl, len_data]
end
end Go.Proofs.YtajefkjcfmfjkaaDoor
namespace Go.Proofs.YtajefkjcfmfjkaaDoor
section
set_option linter.unusedVariables false
set_option linter.unusedSimpArgs false
set_option linter.deprecated false
open Go.RowKit Go.Proofs.YtajefkjcfmfjkaaDoorW.PrintWords Go.Proofs.YtajefkjcfmfjkaaDoor.POperatorResolves
set_option linter.unusedVariables false
def stops (r : List UInt8) : Bool := match r with | [] => true | c :: _ => !isName c
theorem word_split (a b r s : List UInt8) (ha : a.all isName = true) (hb : b.all isName = true) (hr : stops r = true) (hs : stops s = true) (h : a ++ r = b ++ s) : a = b ∧ r = s := by
  induction a generalizing b with
  | nil =>
    cases b with
    | nil => exact ⟨rfl, h⟩
    | cons c b =>
      simp only [List.nil_append] at h
      rw [h] at hr
      simp only [List.all_cons, Bool.and_eq_true] at hb
      simp [stops, hb.1] at hr
  | cons d a ih =>
    cases b with
    | nil =>
      simp only [List.nil_append] at h
      rw [← h] at hs
      simp only [List.all_cons, Bool.and_eq_true] at ha
      simp [stops, ha.1] at hs
    | cons c b =>
      simp only [List.cons_append, List.cons.injEq] at h
      simp only [List.all_cons, Bool.and_eq_true] at ha hb
      obtain ⟨h1, h2⟩ := ih b ha.2 hb.2 h.2
      exact ⟨by rw [h.1, h1], h2⟩
theorem nameS_all {s : ByteArray} (h : nameS s = true) : s.data.toList.all isName = true := by
  unfold nameS at h
  simp only [Bool.and_eq_true] at h
  rw [← run_all]
  exact h.1.1.2
theorem nameS_res {s : ByteArray} (h : nameS s = true) : isRes s.data.toList = false := by
  unfold nameS at h
  simp only [Bool.and_eq_true] at h
  simpa using h.1.2
theorem nameS_64 {s : ByteArray} (h : nameS s = true) : ∃ c l, s.data.toList = c :: l ∧ c ≠ 64 ∧ isName c = true := by
  have hp := nameS_pos h
  have ha := nameS_all h
  unfold nameS at h
  simp only [Bool.and_eq_true] at h
  have h2 := h.2
  rw [sfx, List.drop_zero] at h2
  cases hl : s.data.toList with
  | nil =>
    have := len_data s
    rw [hl] at this
    simp at this
    omega
  | cons c l =>
    rw [hl] at h2 ha
    simp only [List.all_cons, Bool.and_eq_true] at ha
    refine ⟨c, l, rfl, ?_, ha.1⟩
    rintro rfl
    simp at h2
theorem bytes_ext {a b : ByteArray} (h : a.data.toList = b.data.toList) : a = b := by
  cases a; cases b; simp at h; rw [h]
/-- the words -/
structure AtomF (t : S42) (w : List UInt8) : Prop where
  text : fxT [] t = w
  all : w.all isName = true
  ne : w ≠ []
  leaf : t.f3 = []
  kind : (t.f0 = 1 ∧ w = t.f1.data.toList ∧ nameS t.f1 = true) ∨ (t.f0 = 2 ∧ w = 64 :: t.f1.data.toList ∧ nameS t.f1 = true) ∨ (t.f0 = 3 ∧ w = [95] ∧ t.f1 = ⟨#[]⟩) ∨ (t.f0 = 4 ∧ w = [116, 121, 112, 101] ∧ t.f1 = ⟨#[]⟩)
structure PairF (t a b : S42) (mid : List UInt8) : Prop where
  text : fxT [] t = 40 :: (fxT [] a ++ (32 :: (mid ++ (fxT [] b ++ [41]))))
  args : t.f3 = [a, b]
  fa : fmT a = true
  fb : fmT b = true
  name : t.f1 = ⟨#[]⟩
  kind : (t.f0 = 5 ∧ mid = []) ∨ (t.f0 = 6 ∧ mid = [45, 62, 32]) ∨ (t.f0 = 9 ∧ mid = [58, 32])
structure Bind1F (t b : S42) (o e : UInt8) : Prop where
  text : fxT [] t = 40 :: o :: (t.f1.data.toList ++ (e :: 32 :: (fxT [] b ++ [41])))
  args : t.f3 = [b]
  fb : fmT b = true
  all : t.f1.data.toList.all isName = true
  kind : (t.f0 = 7 ∧ o = 123 ∧ e = 125) ∨ (t.f0 = 8 ∧ o = 91 ∧ e = 93)
structure Bind2F (t a b : S42) (o e : UInt8) : Prop where
  text : fxT [] t = 40 :: o :: (t.f1.data.toList ++ (58 :: (fxT [] a ++ (e :: 32 :: (fxT [] b ++ [41])))))
  args : t.f3 = [a, b]
  fa : fmT a = true
  fb : fmT b = true
  all : t.f1.data.toList.all isName = true
  kind : (t.f0 = 7 ∧ o = 123 ∧ e = 125) ∨ (t.f0 = 8 ∧ o = 91 ∧ e = 93)
theorem len0 {l : List S42} (h : (l.length == 0) = true) : l = [] := by cases l with | nil => rfl | cons => simp at h
theorem len1 {l : List S42} (h : (l.length == 1) = true) : ∃ a, l = [a] := by
  match l, h with
  | [a], _ => exact ⟨a, rfl⟩
theorem len2 {l : List S42} (h : (l.length == 2) = true) : ∃ a b, l = [a, b] := by
  match l, h with
  | [a, b], _ => exact ⟨a, b, rfl⟩
theorem bind_all {n : ByteArray} (h : (nameS n || eqB n ⟨#[95]⟩) = true) : n.data.toList.all isName = true := by
  rcases Bool.or_eq_true_iff.1 h with h | h
  · exact nameS_all h
  · rw [(eqB_iff _ _).1 h]; decide
theorem form_cases {t : S42} (h : fmT t = true) : (∃ w, AtomF t w) ∨ (∃ a b mid, PairF t a b mid) ∨ (∃ b o e, Bind1F t b o e) ∨ (∃ a b o e, Bind2F t a b o e) := by
  obtain ⟨k, n, at_, l⟩ := t
  rw [fmT_eq] at h
  simp only [Bool.and_eq_true] at h
  obtain ⟨h1, h2⟩ := h
  unfold nodeS at h1
  by_cases hk : k = 1 ∨ k = 2
  · rw [if_pos hk] at h1
    simp only [Bool.and_eq_true] at h1
    obtain rfl := len0 h1.2
    obtain ⟨c, l0, hl0, _, _⟩ := nameS_64 h1.1
    left
    rcases hk with rfl | rfl
    · exact ⟨n.data.toList, by rw [fxT_eq]; rfl, nameS_all h1.1, by rw [hl0]; simp, rfl, .inl ⟨rfl, rfl, h1.1⟩⟩
    · exact ⟨64 :: n.data.toList, by rw [fxT_eq]; rfl, by rw [List.all_cons, nameS_all h1.1]; decide, by simp, rfl, .inr (.inl ⟨rfl, rfl, h1.1⟩)⟩
  rw [if_neg hk] at h1
  by_cases hk2 : k = 3 ∨ k = 4
  · rw [if_pos hk2] at h1
    simp only [Bool.and_eq_true] at h1
    obtain rfl := len0 h1.2
    have hn := (eqB_iff _ _).1 h1.1
    left
    rcases hk2 with rfl | rfl
    · exact ⟨[95], by rw [fxT_eq]; rfl, by decide, by simp, rfl, .inr (.inr (.inl ⟨rfl, rfl, hn⟩))⟩
    · exact ⟨[116, 121, 112, 101], by rw [fxT_eq]; rfl, by decide, by simp, rfl, .inr (.inr (.inr ⟨rfl, rfl, hn⟩))⟩
  rw [if_neg hk2] at h1
  by_cases hk3 : k = 5 ∨ k = 6 ∨ k = 9
  · rw [if_pos hk3] at h1
    simp only [Bool.and_eq_true] at h1
    obtain ⟨a, b, rfl⟩ := len2 h1.2
    have hn := (eqB_iff _ _).1 h1.1
    simp only [fmL, Bool.and_eq_true] at h2
    right; left
    rcases hk3 with rfl | rfl | rfl
    · exact ⟨a, b, [], by rw [fxT_eq]; simp [nodeX, twoS, fxL], rfl, h2.1, h2.2.1, hn, .inl ⟨rfl, rfl⟩⟩
    · exact ⟨a, b, [45, 62, 32], by rw [fxT_eq]; simp [nodeX, twoS, fxL], rfl, h2.1, h2.2.1, hn, .inr (.inl ⟨rfl, rfl⟩)⟩
    · exact ⟨a, b, [58, 32], by rw [fxT_eq]; simp [nodeX, twoS, fxL], rfl, h2.1, h2.2.1, hn, .inr (.inr ⟨rfl, rfl⟩)⟩
  rw [if_neg hk3] at h1
  by_cases hk4 : k = 7 ∨ k = 8
  · rw [if_pos hk4] at h1
    simp only [Bool.and_eq_true] at h1
    have hn := bind_all h1.1
    right; right
    rcases Bool.or_eq_true_iff.1 h1.2 with h3 | h3
    · obtain ⟨b, rfl⟩ := len1 h3
      simp only [fmL, Bool.and_eq_true] at h2
      left
      rcases hk4 with rfl | rfl
      · exact ⟨b, 123, 125, by rw [fxT_eq]; simp [nodeX, bindS, twoS, fxL], rfl, h2.1, hn, .inl ⟨rfl, rfl, rfl⟩⟩
      · exact ⟨b, 91, 93, by rw [fxT_eq]; simp [nodeX, bindS, twoS, fxL], rfl, h2.1, hn, .inr ⟨rfl, rfl, rfl⟩⟩
    · obtain ⟨a, b, rfl⟩ := len2 h3
      simp only [fmL, Bool.and_eq_true] at h2
      right
      rcases hk4 with rfl | rfl
      · exact ⟨a, b, 123, 125, by rw [fxT_eq]; simp [nodeX, bindS, twoS, fxL], rfl, h2.1, h2.2.1, hn, .inl ⟨rfl, rfl, rfl⟩⟩
      · exact ⟨a, b, 91, 93, by rw [fxT_eq]; simp [nodeX, bindS, twoS, fxL], rfl, h2.1, h2.2.1, hn, .inr ⟨rfl, rfl, rfl⟩⟩
  · rw [if_neg hk4] at h1
    cases h1
/-- a text begins with '(' or a letter of a name -/
theorem fx_start {t : S42} (h : fmT t = true) : ∃ c l, fxT [] t = c :: l ∧ (c = 40 ∨ isName c = true) := by
  rcases form_cases h with ⟨w, hw⟩ | ⟨a, b, mid, hw⟩ | ⟨b, o, e, hw⟩ | ⟨a, b, o, e, hw⟩
  · cases hl : w with
    | nil => exact absurd hl hw.ne
    | cons c l =>
      have := hw.all
      rw [hl, List.all_cons, Bool.and_eq_true] at this
      exact ⟨c, l, by rw [hw.text, hl], .inr this.1⟩
  · exact ⟨40, _, hw.text, .inl rfl⟩
  · exact ⟨40, _, hw.text, .inl rfl⟩
  · exact ⟨40, _, hw.text, .inl rfl⟩
theorem fx_not {t : S42} (h : fmT t = true) (c : UInt8) (hc : c ≠ 40) (hn : isName c = false) (r s : List UInt8) : fxT [] t ++ r ≠ c :: s := by
  obtain ⟨d, l, hl, hd⟩ := fx_start h
  rw [hl, List.cons_append]
  intro e
  obtain rfl := (List.cons.inj e).1
  rcases hd with hd | hd
  · exact hc hd
  · rw [hn] at hd; cases hd
theorem fx_arrow {t : S42} (h : fmT t = true) (r s : List UInt8) : fxT [] t ++ (41 :: r) ≠ 45 :: 62 :: 32 :: s := by
  intro e
  rcases form_cases h with ⟨w, hw⟩ | ⟨a, b, mid, hw⟩ | ⟨b, o, e', hw⟩ | ⟨a, b, o, e', hw⟩
  · rw [hw.text] at e
    have := word_split w [45, 62] (41 :: r) (32 :: s) hw.all (by decide) rfl rfl e
    exact absurd (List.cons.inj this.2).1 (by decide)
  · rw [hw.text] at e; exact absurd (List.cons.inj e).1 (by decide)
  · rw [hw.text] at e; exact absurd (List.cons.inj e).1 (by decide)
  · rw [hw.text] at e; exact absurd (List.cons.inj e).1 (by decide)
theorem atom_paren {t : S42} {w : List UInt8} (h : AtomF t w) (r s : List UInt8) : fxT [] t ++ r ≠ 40 :: s := by
  intro e
  rw [h.text] at e
  cases hl : w with
  | nil => exact h.ne hl
  | cons c l =>
    rw [hl] at e
    have h1 := (List.cons.inj e).1
    have h2 := h.all
    rw [hl, h1] at h2
    simp [isName, isPunct] at h2
theorem res_ne {s : ByteArray} (h : nameS s = true) (l : List UInt8) (hr : isRes l = true) : s.data.toList ≠ l := fun e => by
  have := nameS_res h
  rw [e, hr] at this
  cases this
theorem head_ne {s : ByteArray} (h : nameS s = true) (l : List UInt8) : s.data.toList ≠ 64 :: l := fun e => by
  obtain ⟨c, l0, hl, hc, _⟩ := nameS_64 h
  rw [hl] at e
  exact hc (List.cons.inj e).1
theorem sm_atom {t u : S42} {w : List UInt8} (h : AtomF t w) (g : AtomF u w) : smT false t u = true := by
  have hk : t.f0 = u.f0 ∧ t.f1 = u.f1 := by
    rcases h.kind with ⟨h1, h2, h3⟩ | ⟨h1, h2, h3⟩ | ⟨h1, h2, h3⟩ | ⟨h1, h2, h3⟩ <;> rcases g.kind with ⟨g1, g2, g3⟩ | ⟨g1, g2, g3⟩ | ⟨g1, g2, g3⟩ | ⟨g1, g2, g3⟩
    · exact ⟨by rw [h1, g1], bytes_ext (h2.symm.trans g2)⟩
    · exact absurd (h2.symm.trans g2) (head_ne h3 _)
    · exact absurd (h2.symm.trans g2) (res_ne h3 _ (by decide))
    · exact absurd (h2.symm.trans g2) (res_ne h3 _ (by decide))
    · exact absurd (g2.symm.trans h2) (head_ne g3 _)
    · exact ⟨by rw [h1, g1], bytes_ext (List.cons.inj (h2.symm.trans g2)).2⟩
    · exact absurd (List.cons.inj (h2.symm.trans g2)).1 (by decide)
    · exact absurd (List.cons.inj (h2.symm.trans g2)).1 (by decide)
    · exact absurd (g2.symm.trans h2) (res_ne g3 _ (by decide))
    · exact absurd (List.cons.inj (h2.symm.trans g2)).1 (by decide)
    · exact ⟨by rw [h1, g1], by rw [h3, g3]⟩
    · exact absurd (List.cons.inj (h2.symm.trans g2)).1 (by decide)
    · exact absurd (g2.symm.trans h2) (res_ne g3 _ (by decide))
    · exact absurd (List.cons.inj (h2.symm.trans g2)).1 (by decide)
    · exact absurd (List.cons.inj (h2.symm.trans g2)).1 (by decide)
    · exact ⟨by rw [h1, g1], by rw [h3, g3]⟩
  rw [smT_eq, h.leaf, g.leaf, hk.1, hk.2]
  simp [smL, eqB_self]
theorem fx_inj (i : Nat) : ∀ t u : S42, szT t ≤ i → fmT t = true → fmT u = true → ∀ r s, stops r = true → stops s = true → fxT [] t ++ r = fxT [] u ++ s → smT false t u = true ∧ r = s := by
  induction i with
  | zero => intro t u h; have := szT_pos t; omega
  | succ i ih =>
    intro t u hi ht hu r s hr hs h
    rw [szT_eq] at hi
    have s41 : ∀ x : List UInt8, stops (41 :: x) = true := fun x => rfl
    have s32 : ∀ x : List UInt8, stops (32 :: x) = true := fun x => rfl
    rcases form_cases ht with ⟨w, F⟩ | ⟨a, b, mid, F⟩ | ⟨b, o, e, F⟩ | ⟨a, b, o, e, F⟩ <;> rcases form_cases hu with ⟨w', G⟩ | ⟨a', b', mid', G⟩ | ⟨b', o', e', G⟩ | ⟨a', b', o', e', G⟩
    · rw [F.text, G.text] at h
      obtain ⟨rfl, h2⟩ := word_split _ _ _ _ F.all G.all hr hs h
      exact ⟨sm_atom F G, h2⟩
    · rw [G.text] at h; exact absurd h (atom_paren F _ _)
    · rw [G.text] at h; exact absurd h (atom_paren F _ _)
    · rw [G.text] at h; exact absurd h (atom_paren F _ _)
    · rw [F.text] at h; exact absurd h.symm (atom_paren G _ _)
    · have za := szL_mem (show a ∈ t.f3 by rw [F.args]; simp)
      have zb := szL_mem (show b ∈ t.f3 by rw [F.args]; simp)
      rw [F.text, G.text] at h
      simp only [List.cons_append, List.append_assoc, List.cons.injEq, true_and] at h
      obtain ⟨e1, e2⟩ := ih a a' (by omega) F.fa G.fa _ _ (s32 _) (s32 _) h
      simp only [List.cons.injEq, true_and] at e2
      have fin : mid = mid' → t.f0 = u.f0 → smT false t u = true ∧ r = s := by
        rintro rfl hk
        have e3 := List.append_cancel_left e2
        simp only [List.nil_append] at e3
        obtain ⟨e4, e5⟩ := ih b b' (by omega) F.fb G.fb _ _ (s41 _) (s41 _) e3
        refine ⟨?_, (List.cons.inj e5).2⟩
        rw [smT_eq, F.args, G.args, F.name, G.name, hk]
        simp [smL, e1, e4, eqB_self]
      rcases F.kind with ⟨f1, f2⟩ | ⟨f1, f2⟩ | ⟨f1, f2⟩ <;> rcases G.kind with ⟨g1, g2⟩ | ⟨g1, g2⟩ | ⟨g1, g2⟩
      · exact fin (by rw [f2, g2]) (by rw [f1, g1])
      · rw [f2, g2] at e2; exact absurd e2 (fx_arrow F.fb _ _)
      · rw [f2, g2] at e2; exact absurd e2 (fx_not F.fb 58 (by decide) (by decide) _ _)
      · rw [f2, g2] at e2; exact absurd e2.symm (fx_arrow G.fb _ _)
      · exact fin (by rw [f2, g2]) (by rw [f1, g1])
      · rw [f2, g2] at e2; exact absurd (List.cons.inj e2).1 (by decide)
      · rw [f2, g2] at e2; exact absurd e2.symm (fx_not G.fb 58 (by decide) (by decide) _ _)
      · rw [f2, g2] at e2; exact absurd (List.cons.inj e2).1 (by decide)
      · exact fin (by rw [f2, g2]) (by rw [f1, g1])
    · rw [F.text, G.text] at h
      simp only [List.cons_append, List.append_assoc, List.cons.injEq, true_and] at h
      rcases G.kind with ⟨_, rfl, _⟩ | ⟨_, rfl, _⟩ <;> exact absurd h (fx_not F.fa _ (by decide) (by decide) _ _)
    · rw [F.text, G.text] at h
      simp only [List.cons_append, List.append_assoc, List.cons.injEq, true_and] at h
      rcases G.kind with ⟨_, rfl, _⟩ | ⟨_, rfl, _⟩ <;> exact absurd h (fx_not F.fa _ (by decide) (by decide) _ _)
    · rw [F.text] at h; exact absurd h.symm (atom_paren G _ _)
    · rw [F.text, G.text] at h
      simp only [List.cons_append, List.append_assoc, List.cons.injEq, true_and] at h
      rcases F.kind with ⟨_, rfl, _⟩ | ⟨_, rfl, _⟩ <;> exact absurd h.symm (fx_not G.fa _ (by decide) (by decide) _ _)
    · have zb := szL_mem (show b ∈ t.f3 by rw [F.args]; simp)
      rw [F.text, G.text] at h
      simp only [List.cons_append, List.append_assoc, List.cons.injEq, true_and] at h
      obtain ⟨ho, h⟩ := h
      have hke : t.f0 = u.f0 ∧ e = e' ∧ isName e = false := by
        rcases F.kind with ⟨f1, f2, f3⟩ | ⟨f1, f2, f3⟩ <;> rcases G.kind with ⟨g1, g2, g3⟩ | ⟨g1, g2, g3⟩
        · exact ⟨by rw [f1, g1], by rw [f3, g3], by rw [f3]; decide⟩
        · rw [f2, g2] at ho; exact absurd ho (by decide)
        · rw [f2, g2] at ho; exact absurd ho (by decide)
        · exact ⟨by rw [f1, g1], by rw [f3, g3], by rw [f3]; decide⟩
      obtain ⟨hk, rfl, hne⟩ := hke
      have se : ∀ x : List UInt8, stops (e :: x) = true := fun x => by simp [stops, hne]
      obtain ⟨e1, e2⟩ := word_split _ _ _ _ F.all G.all (se _) (se _) h
      simp only [List.cons.injEq, true_and, List.nil_append] at e2
      obtain ⟨e4, e5⟩ := ih b b' (by omega) F.fb G.fb _ _ (s41 _) (s41 _) e2
      refine ⟨?_, (List.cons.inj e5).2⟩
      rw [smT_eq, F.args, G.args, bytes_ext e1, hk]
      simp [smL, e4, eqB_self]
    · rw [F.text, G.text] at h
      simp only [List.cons_append, List.append_assoc, List.cons.injEq, true_and] at h
      obtain ⟨ho, h⟩ := h
      have hke : isName e = false ∧ e ≠ 58 := by
        rcases F.kind with ⟨f1, f2, f3⟩ | ⟨f1, f2, f3⟩ <;> rw [f3] <;> decide
      have se : ∀ x : List UInt8, stops (e :: x) = true := fun x => by simp [stops, hke.1]
      obtain ⟨e1, e2⟩ := word_split _ _ _ _ F.all G.all (se _) rfl h
      exact absurd (List.cons.inj e2).1 hke.2
    · rw [F.text] at h; exact absurd h.symm (atom_paren G _ _)
    · rw [F.text, G.text] at h
      simp only [List.cons_append, List.append_assoc, List.cons.injEq, true_and] at h
      rcases F.kind with ⟨_, rfl, _⟩ | ⟨_, rfl, _⟩ <;> exact absurd h.symm (fx_not G.fa _ (by decide) (by decide) _ _)
    · rw [F.text, G.text] at h
      simp only [List.cons_append, List.append_assoc, List.cons.injEq, true_and] at h
      obtain ⟨ho, h⟩ := h
      have hke : isName e' = false ∧ e' ≠ 58 := by
        rcases G.kind with ⟨f1, f2, f3⟩ | ⟨f1, f2, f3⟩ <;> rw [f3] <;> decide
      have se : ∀ x : List UInt8, stops (e' :: x) = true := fun x => by simp [stops, hke.1]
      obtain ⟨e1, e2⟩ := word_split _ _ _ _ F.all G.all rfl (se _) h
      exact absurd (List.cons.inj e2).1.symm hke.2
    · have za := szL_mem (show a ∈ t.f3 by rw [F.args]; simp)
      have zb := szL_mem (show b ∈ t.f3 by rw [F.args]; simp)
      rw [F.text, G.text] at h
      simp only [List.cons_append, List.append_assoc, List.cons.injEq, true_and] at h
      obtain ⟨ho, h⟩ := h
      have hke : t.f0 = u.f0 ∧ e = e' ∧ isName e = false := by
        rcases F.kind with ⟨f1, f2, f3⟩ | ⟨f1, f2, f3⟩ <;> rcases G.kind with ⟨g1, g2, g3⟩ | ⟨g1, g2, g3⟩
        · exact ⟨by rw [f1, g1], by rw [f3, g3], by rw [f3]; decide⟩
        · rw [f2, g2] at ho; exact absurd ho (by decide)
        · rw [f2, g2] at ho; exact absurd ho (by decide)
        · exact ⟨by rw [f1, g1], by rw [f3, g3], by rw [f3]; decide⟩
      obtain ⟨hk, rfl, hne⟩ := hke
      have se : ∀ x : List UInt8, stops (e :: x) = true := fun x => by simp [stops, hne]
      obtain ⟨e1, e2⟩ := word_split _ _ _ _ F.all G.all rfl rfl h
      simp only [List.cons.injEq, true_and] at e2
      obtain ⟨e3, e6⟩ := ih a a' (by omega) F.fa G.fa _ _ (se _) (se _) e2
      simp only [List.cons.injEq, true_and, List.nil_append] at e6
      obtain ⟨e4, e5⟩ := ih b b' (by omega) F.fb G.fb _ _ (s41 _) (s41 _) e6
      refine ⟨?_, (List.cons.inj e5).2⟩
      rw [smT_eq, F.args, G.args, bytes_ext e1, hk]
      simp [smL, e3, e4, eqB_self]
theorem fx_same (i : Nat) : ∀ t u : S42, szT t ≤ i → smT false t u = true → fxT [] t = fxT [] u := by
  induction i with
  | zero => intro t u h; have := szT_pos t; omega
  | succ i ih =>
    intro t u hi h
    rw [szT_eq] at hi
    rw [smT_eq] at h
    simp only [Bool.and_eq_true, beq_iff_eq] at h
    obtain ⟨⟨⟨h1, h2⟩, _⟩, h3⟩ := h
    have hl : ∀ l m : List S42, szL l ≤ i → smL false l m = true → fxL [] l = fxL [] m := by
      intro l
      induction l with
      | nil => intro m _ hm; cases m with
        | nil => rfl
        | cons => simp [smL] at hm
      | cons x xs ihx => intro m hz hm; cases m with
        | nil => simp [smL] at hm
        | cons y ys =>
          rw [szL] at hz
          rw [smL, Bool.and_eq_true] at hm
          rw [fxL, fxL, ih x y (by omega) hm.1, ihx ys (by omega) hm.2]
    rw [fxT_eq, fxT_eq, h1, (eqB_iff _ _).1 h2, hl _ _ (by omega) h3]
theorem texts_iff (t u : S42) (ht : fmT t = true) (hu : fmT u = true) : fxT [] t = fxT [] u ↔ smT false t u = true := by
  constructor
  · intro h
    exact (fx_inj _ t u (Nat.le_refl _) ht hu [] [] rfl rfl (by rw [h])).1
  · exact fx_same _ t u (Nat.le_refl _)
end
end Go.Proofs.YtajefkjcfmfjkaaDoor
namespace Go.Proofs.YtajefkjcfmfjkaaDoor
section
set_option linter.unusedVariables false
set_option linter.unusedSimpArgs false
set_option linter.deprecated false
open Go.RowKit Go.Proofs.YtajefkjcfmfjkaaDoorW.PrintWords Go.Proofs.YtajefkjcfmfjkaaDoor.POperatorResolves
set_option linter.unusedVariables false
attribute [local go_sem ↓] Go.wp_at_zero Go.wp_at_succ
theorem made_wf {t : S42} (h : Made 4 t) : wfS t = 0 := by
  obtain ⟨h1, _, h3, h4⟩ := h
  unfold wfS
  rw [h1, if_pos rfl, if_neg (by omega), if_neg (by omega)]
theorem wf_fm {t : S42} (h : wfS t = 0) : fmT t = true := by
  unfold wfS at h
  cases hf : fmT t with
  | true => rfl
  | false => rw [hf, if_neg (by simp)] at h; omega
theorem wf_012 (t : S42) : wfS t = 0 ∨ wfS t = 1 ∨ wfS t = 2 := by
  unfold wfS
  split
  · split
    · exact .inr (.inr rfl)
    · split
      · exact .inr (.inr rfl)
      · exact .inl rfl
  · exact .inr (.inl rfl)
theorem fmt_wf {q : List ByteArray} {t : S42} (h : wfS t = 0) : fmtS q t = fxT q t := by unfold fmtS; rw [if_pos h]
theorem fmt_no {q : List ByteArray} {t : S42} (h : wfS t ≠ 0) : fmtS q t = [] := by unfold fmtS; rw [if_neg h]
set_option maxHeartbeats 4000000 in
set_option maxRecDepth 100000 in
theorem rawTexts_walk (W : World) (A : Option Addr) (c : Nat) (l : List Int) (ha : Kd.C (Kd.int .i64) W A l.length l) (B : Option Addr) (d : Nat) (m : List Int) (hb : Kd.C (Kd.int .i64) W B m.length m) (hw : WdAt W) :
    Calls Tryd.prog 12 #[.slice A l.length c, .slice B m.length d] W fun e w' => e = .returned (.bool true) ∧ Below W.heap.size W w' := by
  have hu42 := Tryd.underlying42
  have TA1 : Aside0 (Calls Tryd.prog 28 #[.slice A l.length c, .slice none 0 0] W (TreePost [] W)) := ⟨tree_any W hw A c l ha none 0 [] (Kd.C_nil _ _)⟩
  have TA2 : Aside0 (∀ W', Below W.heap.size W W' → Calls Tryd.prog 28 #[.slice A l.length c, .slice B m.length d] W' (TreePost m W')) := ⟨fun W' h => tree_any W' (hw.below h) A c l (Kd.C_below ha h) B d m (Kd.C_below hb h)⟩
  clear ha hb hw
  go_enter Tryd.func12, Tryd.ntmps12
  go_wp2_with (go_at_call 28; (with_reducible refine TA1.out.mono ?_); rintro e w1 ⟨t1, A1, c1, rfl, n1, s1, md1, l1, r1, b1⟩; have N1 := Aside0.mk n1; have S1 := Aside0.mk s1; have L1 := Aside0.mk l1; have R1 := Aside0.mk r1; have B1 := Aside0.mk b1; have M1 := Aside0.mk (made_wf (md1 rfl)); clear n1 s1 l1 r1 b1 md1)
  go_upto_region 2 with (go_at_call 28; (with_reducible refine (TA2.out _ B1.out).mono ?_); rintro e w2 ⟨t2, A2, c2, rfl, n2, s2, -, l2, r2, b2⟩; have N2 := Aside0.mk n2; have S2 := Aside0.mk s2; have L2 := Aside0.mk l2; have R2 := Aside0.mk r2; have B2 := Aside0.mk b2; clear n2 s2 l2 r2 b2)
  have X1 : Aside0 (((w2.alloc (.cells #[.int .i64 t1.f0, .string t1.f1, .int .i64 t1.f2, .slice A1 t1.f3.length c1] 42)).alloc (.cells #[.int .i64 t2.f0, .string t2.f1, .int .i64 t2.f2, .slice A2 t2.f3.length c2] 42)).heap[w2.heap.size]? = some (.cells #[.int .i64 t1.f0, .string t1.f1, .int .i64 t1.f2, .slice A1 t1.f3.length c1] 42 (0, 0))) := ⟨blk_alloc (heap_alloc_new _ _) _⟩
  have X2 : Aside0 (((w2.alloc (.cells #[.int .i64 t1.f0, .string t1.f1, .int .i64 t1.f2, .slice A1 t1.f3.length c1] 42)).alloc (.cells #[.int .i64 t2.f0, .string t2.f1, .int .i64 t2.f2, .slice A2 t2.f3.length c2] 42)).heap[w2.heap.size + 1]? = some (.cells #[.int .i64 t2.f0, .string t2.f1, .int .i64 t2.f2, .slice A2 t2.f3.length c2] 42 (0, 0))) := ⟨heap_alloc_new2 _ _ _⟩
  have X3 : Aside0 (Below w2.heap.size w2 ((w2.alloc (.cells #[.int .i64 t1.f0, .string t1.f1, .int .i64 t1.f2, .slice A1 t1.f3.length c1] 42)).alloc (.cells #[.int .i64 t2.f0, .string t2.f1, .int .i64 t2.f2, .slice A2 t2.f3.length c2] 42))) := ⟨below_alloc (below_alloc (Below.refl _ _) _) _⟩
  generalize (w2.alloc (.cells #[.int .i64 t1.f0, .string t1.f1, .int .i64 t1.f2, .slice A1 t1.f3.length c1] 42)).alloc (.cells #[.int .i64 t2.f0, .string t2.f1, .int .i64 t2.f2, .slice A2 t2.f3.length c2] 42) = w3 at *
  have B3 : Aside0 (Below W.heap.size W w3) := ⟨below_step (below_step B1.out B2.out) X3.out⟩
  have SA : Aside0 (∀ W', Below w3.heap.size w3 W' → (W'.cell? ⟨w2.heap.size, 0, none⟩ = some (.int .i64 t1.f0) ∧ W'.cell? ⟨w2.heap.size, 1, none⟩ = some (.string t1.f1) ∧ W'.cell? ⟨w2.heap.size, 2, none⟩ = some (.int .i64 t1.f2) ∧ W'.cell? ⟨w2.heap.size, 3, none⟩ = some (.slice A1 t1.f3.length c1)) ∧ (W'.cell? ⟨w2.heap.size + 1, 0, none⟩ = some (.int .i64 t2.f0) ∧ W'.cell? ⟨w2.heap.size + 1, 1, none⟩ = some (.string t2.f1) ∧ W'.cell? ⟨w2.heap.size + 1, 2, none⟩ = some (.int .i64 t2.f2) ∧ W'.cell? ⟨w2.heap.size + 1, 3, none⟩ = some (.slice A2 t2.f3.length c2))) :=
    ⟨fun W' h => ⟨cells4h (blk_below X1.out h), cells4h (blk_below X2.out h)⟩⟩
  have C1 : Aside0 (∀ W', Below w3.heap.size w3 W' → Kd.C k42 W' A1 t1.f3.length t1.f3) := ⟨fun W' h => Kd.C_below (Kd.C_below (Kd.C_below R1.out B2.out) X3.out) h⟩
  have C2 : Aside0 (∀ W', Below w3.heap.size w3 W' → Kd.C k42 W' A2 t2.f3.length t2.f3) := ⟨fun W' h => Kd.C_below (Kd.C_below R2.out X3.out) h⟩
  have F1 : Aside0 (∀ W', Below w3.heap.size w3 W' → Calls Tryd.prog 29 #[.agg #[.int .i64 t1.f0, .string t1.f1, .int .i64 t1.f2, .slice A1 t1.f3.length c1]] W' fun e w' => e = .returned (.int .i64 0) ∧ Below W'.heap.size W' w') :=
    ⟨fun W' h => M1.out ▸ wf_any formed_any t1 A1 c1 W' (by have := S1.out; omega) N1.out (C1.out W' h) L1.out⟩
  have F2 : Aside0 (∀ W', Below w3.heap.size w3 W' → Calls Tryd.prog 29 #[.agg #[.int .i64 t2.f0, .string t2.f1, .int .i64 t2.f2, .slice A2 t2.f3.length c2]] W' fun e w' => e = .returned (.int .i64 (wfS t2)) ∧ Below W'.heap.size W' w') :=
    ⟨fun W' h => wf_any formed_any t2 A2 c2 W' (by have := S2.out; omega) N2.out (C2.out W' h) L2.out⟩
  have F3 : Aside0 (∀ W', Below w3.heap.size w3 W' → Calls Tryd.prog 35 #[.agg #[.int .i64 t1.f0, .string t1.f1, .int .i64 t1.f2, .slice A1 t1.f3.length c1], .slice none 0 0] W' fun e w' => e = .returned (.string ⟨(fmtS [] t1).toArray⟩) ∧ Below W'.heap.size W' w') :=
    ⟨fun W' h => format_any t1 A1 c1 none 0 [] W' (by have := S1.out; omega) N1.out (C1.out W' h) L1.out (Kd.C_nil _ _)⟩
  have F4 : Aside0 (∀ W', Below w3.heap.size w3 W' → Calls Tryd.prog 35 #[.agg #[.int .i64 t2.f0, .string t2.f1, .int .i64 t2.f2, .slice A2 t2.f3.length c2], .slice none 0 0] W' fun e w' => e = .returned (.string ⟨(fmtS [] t2).toArray⟩) ∧ Below W'.heap.size W' w') :=
    ⟨fun W' h => format_any t2 A2 c2 none 0 [] W' (by have := S2.out; omega) N2.out (C2.out W' h) L2.out (Kd.C_nil _ _)⟩
  have F5 : Aside0 (∀ W', Calls Tryd.prog 40 #[] W' fun e w' => e = .returned (.bool true) ∧ Below W'.heap.size W' w') := ⟨fun W' => awake_any W'⟩
  obtain ⟨v, hv⟩ : ∃ v, smT false t1 t2 = v := ⟨_, rfl⟩
  have HV := Aside0.mk hv
  have F6 : Aside0 (∀ W', Below w3.heap.size w3 W' → Calls Tryd.prog 42 #[.agg #[.int .i64 t1.f0, .string t1.f1, .int .i64 t1.f2, .slice A1 t1.f3.length c1], .agg #[.int .i64 t2.f0, .string t2.f1, .int .i64 t2.f2, .slice A2 t2.f3.length c2], .bool false] W' fun e w' => e = .returned (.bool v) ∧ Below W'.heap.size W' w') :=
    ⟨fun W' h => hv ▸ rsame_any t1 t2 A1 A2 c1 c2 false W' (by have := S1.out; omega) (C1.out W' h) L1.out (C2.out W' h) L2.out⟩
  have HB : Aside0 (Below w3.heap.size w3 w3) := ⟨Below.refl _ _⟩
  clear TA1 TA2 X1 X2 hv
  have HX := Aside0.mk (wf_012 t2)
  obtain ⟨⟨c0, c1', c2', c3⟩, d0, d1, d2, d3⟩ := SA.out _ HB.out
  obtain ⟨x, hx⟩ : ∃ x, wfS t2 = x := ⟨_, rfl⟩
  rw [hx] at F2 HX
  have HX2 := Aside0.mk hx
  clear hx
  rcases HX.out with rfl | rfl | rfl
  · have e1 := (texts_iff t1 t2 (wf_fm M1.out) (wf_fm HX2.out))
    rw [fmt_wf M1.out] at F3
    rw [fmt_wf HX2.out] at F4
    rw [HV.out] at e1
    have E1 := Aside0.mk e1
    clear e1
    go_upto_region 4 with ((first | (go_at_call 29; (with_reducible first | refine (F1.out _ HB.out).mono ?_ | refine (F2.out _ HB.out).mono ?_)) | (go_at_call 35; (with_reducible first | refine (F3.out _ HB.out).mono ?_ | refine (F4.out _ HB.out).mono ?_)) | (go_at_call 42; (with_reducible refine (F6.out _ HB.out).mono ?_)) | (go_at_call 40; (with_reducible refine (F5.out _).mono ?_))); rintro e w4 ⟨rfl, b4⟩; have n4 := Aside0.mk (below_step HB.out b4); clear HB b4; have HB := n4; clear n4; clear c0 c1' c2' c3 d0 d1 d2 d3; obtain ⟨⟨c0, c1', c2', c3⟩, d0, d1, d2, d3⟩ := SA.out _ HB.out)
    rename_i wq
    have h9 := Aside0.mk (below_drew HB.out)
    clear HB
    have HB := h9
    clear h9
    generalize fxT [] t1 = x1 at *
    generalize fxT [] t2 = x2 at *
    rcases v with _ | _
    · have hne : ¬ x1 = x2 := fun h => absurd (E1.out.1 h) (by decide)
      have q0 : (x1 == x2) = false := by rw [beq_eq_false_iff_ne]; exact hne
      have q1 : (x1 = x2) = False := eq_false hne
      clear hne
      go_region_held3 (fun W' => (W'.cell? ⟨w2.heap.size, 0, none⟩ = some (.int .i64 t1.f0) ∧ W'.cell? ⟨w2.heap.size, 1, none⟩ = some (.string t1.f1) ∧ W'.cell? ⟨w2.heap.size, 2, none⟩ = some (.int .i64 t1.f2) ∧ W'.cell? ⟨w2.heap.size, 3, none⟩ = some (.slice A1 t1.f3.length c1)) ∧ (W'.cell? ⟨w2.heap.size + 1, 0, none⟩ = some (.int .i64 t2.f0) ∧ W'.cell? ⟨w2.heap.size + 1, 1, none⟩ = some (.string t2.f1) ∧ W'.cell? ⟨w2.heap.size + 1, 2, none⟩ = some (.int .i64 t2.f2) ∧ W'.cell? ⟨w2.heap.size + 1, 3, none⟩ = some (.slice A2 t2.f3.length c2))) (with_reducible first | exact SA.out _ HB.out | fail) ((((first | (go_at_call 29; (with_reducible first | refine (F1.out _ HB.out).mono ?_ | refine (F2.out _ HB.out).mono ?_)) | (go_at_call 35; (with_reducible first | refine (F3.out _ HB.out).mono ?_ | refine (F4.out _ HB.out).mono ?_)) | (go_at_call 42; (with_reducible refine (F6.out _ HB.out).mono ?_)) | (go_at_call 40; (with_reducible refine (F5.out _).mono ?_))); rintro e w4 ⟨rfl, b4⟩; have n4 := Aside0.mk (below_step HB.out b4); clear HB b4; have HB := n4; clear n4)))
      go_wp2_with fail
      go_ret
      exact ⟨rfl, below_step B3.out HB.out⟩
    · obtain rfl : x1 = x2 := E1.out.2 rfl
      go_region_held3 (fun W' => (W'.cell? ⟨w2.heap.size, 0, none⟩ = some (.int .i64 t1.f0) ∧ W'.cell? ⟨w2.heap.size, 1, none⟩ = some (.string t1.f1) ∧ W'.cell? ⟨w2.heap.size, 2, none⟩ = some (.int .i64 t1.f2) ∧ W'.cell? ⟨w2.heap.size, 3, none⟩ = some (.slice A1 t1.f3.length c1)) ∧ (W'.cell? ⟨w2.heap.size + 1, 0, none⟩ = some (.int .i64 t2.f0) ∧ W'.cell? ⟨w2.heap.size + 1, 1, none⟩ = some (.string t2.f1) ∧ W'.cell? ⟨w2.heap.size + 1, 2, none⟩ = some (.int .i64 t2.f2) ∧ W'.cell? ⟨w2.heap.size + 1, 3, none⟩ = some (.slice A2 t2.f3.length c2))) (with_reducible first | exact SA.out _ HB.out | fail) ((((first | (go_at_call 29; (with_reducible first | refine (F1.out _ HB.out).mono ?_ | refine (F2.out _ HB.out).mono ?_)) | (go_at_call 35; (with_reducible first | refine (F3.out _ HB.out).mono ?_ | refine (F4.out _ HB.out).mono ?_)) | (go_at_call 42; (with_reducible refine (F6.out _ HB.out).mono ?_)) | (go_at_call 40; (with_reducible refine (F5.out _).mono ?_))); rintro e w4 ⟨rfl, b4⟩; have n4 := Aside0.mk (below_step HB.out b4); clear HB b4; have HB := n4; clear n4)))
      go_wp2_with fail
      go_ret
      exact ⟨rfl, below_step B3.out HB.out⟩
  · rw [fmt_no (by rw [HX2.out]; decide)] at F4
    go_wp2_with ((first | (go_at_call 29; (with_reducible first | refine (F1.out _ HB.out).mono ?_ | refine (F2.out _ HB.out).mono ?_)) | (go_at_call 35; (with_reducible first | refine (F3.out _ HB.out).mono ?_ | refine (F4.out _ HB.out).mono ?_)) | (go_at_call 42; (with_reducible refine (F6.out _ HB.out).mono ?_)) | (go_at_call 40; (with_reducible refine (F5.out _).mono ?_))); rintro e w4 ⟨rfl, b4⟩; have n4 := Aside0.mk (below_step HB.out b4); clear HB b4; have HB := n4; clear n4; clear c0 c1' c2' c3 d0 d1 d2 d3; obtain ⟨⟨c0, c1', c2', c3⟩, d0, d1, d2, d3⟩ := SA.out _ HB.out)
    go_ret
    exact ⟨rfl, below_step B3.out HB.out⟩
  · rw [fmt_no (by rw [HX2.out]; decide)] at F4
    go_wp2_with ((first | (go_at_call 29; (with_reducible first | refine (F1.out _ HB.out).mono ?_ | refine (F2.out _ HB.out).mono ?_)) | (go_at_call 35; (with_reducible first | refine (F3.out _ HB.out).mono ?_ | refine (F4.out _ HB.out).mono ?_)) | (go_at_call 42; (with_reducible refine (F6.out _ HB.out).mono ?_)) | (go_at_call 40; (with_reducible refine (F5.out _).mono ?_))); rintro e w4 ⟨rfl, b4⟩; have n4 := Aside0.mk (below_step HB.out b4); clear HB b4; have HB := n4; clear n4; clear c0 c1' c2' c3 d0 d1 d2 d3; obtain ⟨⟨c0, c1', c2', c3⟩, d0, d1, d2, d3⟩ := SA.out _ HB.out)
    go_ret
    exact ⟨rfl, below_step B3.out HB.out⟩
end
end Go.Proofs.YtajefkjcfmfjkaaDoor
namespace Go.Proofs.YtajefkjcfmfjkaaDoor
section
set_option linter.unusedVariables false
set_option linter.unusedSimpArgs false
set_option linter.deprecated false
open Go.ChangeShapes Go.WideShapes Go.ChangeAt Go.WideMaps Go.WideElems Go.RowKit
def laidWd : List (String × DataW Unit) := [("lfcheck/lfcheckmade.words", Rows.laid_lfcheck_lfcheckmade_words)]
theorem own : ownKnob Tryd.prog.godebug = none := by kernel_rfl
theorem laidOut : laidOutB Tryd.prog = true := by kernel_rfl
theorem gWd : Tryd.prog.globalNamed "lfcheck/lfcheckmade.words" = some 1 := by kernel_rfl
theorem tWd : (Tryd.prog.globals[1]?).map (·.type) = some 38 := by kernel_rfl
theorem cells9 : Tryd.prog.cellsOf 9 = 1 := by kernel_rfl
theorem doorWd_met (os : Os) (args : Array Value) : laidMetH Tryd.prog laidWd ((World.doorLaid Tryd.prog 19 os).forCall (fun _ _ => 0) ⟨#[], args, []⟩).memory :=
  laidMetH_of_parts3 (fuel := 8) (laidMet_of_run' 8 (by kernel_rfl) (by kernel_rfl)) (by kernel_rfl) (by kernel_rfl)
theorem of_laidWd {W : World} (h : laidMetH Tryd.prog laidWd W) : WdAt W := by
  rw [MakeChecks.laidMetH_plain _ _ _ (by kernel_rfl)] at h
  obtain ⟨ps, ⟨g0, t0, cs0, f0, p0, q0, hg0, ht0, hv0, hd0, _, _⟩, _, _⟩ := h
  obtain rfl := Option.some.inj (gWd.symm.trans hg0)
  obtain rfl := Option.some.inj (tWd.symm.trans ht0)
  rcases open_strings Tryd.underlying38 Tryd.underlying9 cells9 hd0 with ⟨_, hx⟩ | ⟨a, len, cap, ss, hcs, _, hl, hm, hz, hx, hcell, hws⟩
  · simp [Rows.laid_lfcheck_lfcheckmade_words] at hx
  have hv := World.var?_cell hg0 hv0 0
  have hD : (Rows.laid_lfcheck_lfcheckmade_words : DataW Unit) = .slice (wdL.map fun l => .lit (.string l)) [] := rfl
  rw [hD] at hx
  simp only [Prod.mk.injEq, DataW.slice.injEq] at hx
  obtain ⟨⟨hx1, _⟩, _⟩ := hx
  have h1 : (ss.take len).map (fun s => s.data.toList) = wdL := by
    have := congrArg (List.map fun d : DataW Unit => match d with | .lit (.string l) => l | _ => []) hx1
    simp only [strs, List.map_map] at this
    have e1 : ((fun d : DataW Unit => match d with | .lit (.string l) => l | _ => []) ∘ fun s : ByteArray => DataW.lit (.string s.data.toList)) = fun s => s.data.toList := rfl
    have e2 : ((fun d : DataW Unit => match d with | .lit (.string l) => l | _ => []) ∘ fun l : List UInt8 => DataW.lit (.string l)) = id := rfl
    rw [e1, e2, List.map_id] at this
    exact this.symm
  have h2 : (ss.take len).length = 13 := by
    have := congrArg List.length h1
    rw [List.length_map] at this
    exact this
  rw [List.length_take] at h2
  have hlen : len = 13 := by
    rcases Nat.le_total len ss.length with h | h
    · omega
    · have : ss.length = 13 := by omega
      split at hz <;> omega
  subst hlen
  refine ⟨⟨a, cap, ?_, fun j hj => ?_⟩⟩
  · rw [Array.eq_one_of_toList hcs] at hv
    simpa using hv
  · rw [hcell j (by omega)]
    have h3 : ss.getD j ByteArray.empty = wdB j := by
      have h4 := congrArg (fun l => l[j]?) h1
      simp only [List.getElem?_map, List.getElem?_take, hj, if_true] at h4
      rw [List.getElem?_eq_getElem (show j < ss.length by omega)] at h4
      simp only [Option.map_some] at h4
      rw [List.getD_eq_getElem?_getD, List.getElem?_eq_getElem (show j < ss.length by omega), Option.getD_some]
      unfold wdB wdAt
      rw [List.getD_eq_getElem?_getD, ← h4, Option.getD_some]
    rw [h3]
end
end Go.Proofs.YtajefkjcfmfjkaaDoor
namespace Go.Proofs.YtajefkjcfmfjkaaDoor
section
set_option linter.unusedVariables false
set_option linter.unusedSimpArgs false
set_option linter.deprecated false
open Go.ChangeShapes Go.WideShapes Go.ChangeAt Go.RowKit Go.Proofs.YtajefkjcfmfjkaaDoorW.PrintWords
theorem kd_ints {w : World} {x : Addr} {len cap : Nat} {zs : List Int} (hl : len ≤ cap) (hm : cap ≤ maxLen) (hz : zs.length = cap)
    (hc : ∀ i, i < zs.length → w.cell? (x.add i) = some (.int .i64 (zs.getD i 0))) : (zs.take len).length = len ∧ Kd.C (Kd.int .i64) w (some x) len (zs.take len) := by
  have h1 : (zs.take len).length = len := by rw [List.length_take]; omega
  unfold maxLen at hm
  refine ⟨h1, h1, by omega, fun _ => ⟨x, rfl, fun j p hp => ?_⟩⟩
  have hj : j < (zs.take len).length := (List.getElem?_eq_some_iff.1 hp).1
  have hj2 : j < zs.length := by rw [h1] at hj; omega
  refine ⟨[.int .i64 p], rfl, rfl, fun i u hu => ?_⟩
  have hi : i = 0 := by
    have := (List.getElem?_eq_some_iff.1 hu).1
    simp at this
    exact this
  subst hi
  simp only [List.getElem?_cons_zero, Option.some.injEq] at hu
  subst hu
  have h2 := hc j hj2
  have h3 : zs.getD j 0 = p := by
    rw [List.getElem?_take] at hp
    rw [h1] at hj
    simp only [hj, if_true] at hp
    rw [List.getD_eq_getElem?_getD, hp, Option.getD_some]
  rw [h3] at h2
  show w.cell? (x.add (j * 1 + 0)) = some (Value.int IntKind.i64 p)
  rw [Nat.mul_one, Nat.add_zero]
  exact h2
theorem kd_none (w : World) : Kd.C (Kd.int .i64) w none 0 [] := ⟨rfl, by omega, fun h => absurd h (by omega)⟩
end
end Go.Proofs.YtajefkjcfmfjkaaDoor
