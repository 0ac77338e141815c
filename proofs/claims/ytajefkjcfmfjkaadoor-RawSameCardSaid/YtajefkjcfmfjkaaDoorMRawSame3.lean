/- The texts of the proof of 'RawSame', joined: each part is a text of its own in wip; what the law does not use is left out. -/
import Derived.Test.YtajefkjcfmfjkaaDoorMRawSame2
import Derived.Test.YtajefkjcfmfjkaaDoorRows
namespace Go.Proofs.YtajefkjcfmfjkaaDoor
section
set_option linter.unusedVariables false
set_option linter.unusedSimpArgs false
set_option linter.deprecated false
open Go.RowKit Go.Proofs.YtajefkjcfmfjkaaDoorW.PrintWords Go.Proofs.YtajefkjcfmfjkaaDoor.POperatorResolves
theorem raw_any (w0 : World) (hw : WdAt w0) (g : Nat) : ∀ (i : Nat), i ≤ 100 → ∀ W, Tp w0 W g → Calls Tryd.prog 59 #[.pointer (some ⟨g, 0, none⟩), .int .i64 i] W (RawPost w0 g i W) := by
  intro i
  induction i with
  | zero => intro _ W h; exact raw_zero w0 hw g W h
  | succ i ih =>
    intro hi W h
    rw [show (((i + 1 : Nat) : Int)) = (i : Int) + 1 by omega]
    exact raw_succ w0 hw g i (by omega) W h (fun W h => ih (by omega) W h)
end
end Go.Proofs.YtajefkjcfmfjkaaDoor
namespace Go.Proofs.YtajefkjcfmfjkaaDoor
section
set_option linter.unusedVariables false
set_option linter.unusedSimpArgs false
set_option linter.deprecated false
open Go.RowKit Go.Proofs.YtajefkjcfmfjkaaDoorW.PrintWords Go.Proofs.YtajefkjcfmfjkaaDoor.POperatorResolves
set_option linter.unusedVariables false
attribute [local go_sem ↓] Go.wp_at_zero Go.wp_at_succ
theorem RowF.lt {P : Nat → Prop} {w : World} {A : Option Addr} {l : List S42} (h : RowF P w A l) : RowF (fun k => P k ∧ k < w.heap.size) w A l := by
  induction h with
  | mk A ds hl hc hk hr ih =>
    refine RowF.mk A ds hl (fun hp => ?_) hk ih
    obtain ⟨ad, e, hP, hh⟩ := hc hp
    obtain ⟨u0, h0⟩ := ndCs_ne hp
    have hlt := World.block_lt_of_cell? w _ (hh 0 u0 h0)
    rw [add_block] at hlt
    exact ⟨ad, e, ⟨hP, hlt⟩, hh⟩
theorem RowF.live {P : Nat → Prop} {w : World} {A : Option Addr} {l : List S42} (h : RowF P w A l) : RowF (fun k => P k ∧ ∃ a : Addr, a.block = k ∧ (w.cell? a).isSome = true) w A l := by
  induction h with
  | mk A ds hl hc hk hr ih =>
    refine RowF.mk A ds hl (fun hp => ?_) hk ih
    obtain ⟨ad, e, hP, hh⟩ := hc hp
    obtain ⟨u0, h0⟩ := ndCs_ne hp
    exact ⟨ad, e, ⟨hP, ad.add 0, add_block _ _, by rw [hh 0 u0 h0]; rfl⟩, hh⟩
/-- w with nothing in the blocks below lo -/
def wiped (lo : Nat) (w : World) : World := { w with heap := w.heap.mapIdx fun i o => if i < lo then .cells #[] 42 (0, 0) else o }
theorem wiped_at (lo : Nat) (w : World) (k : Nat) : (wiped lo w).heap[k]? = (w.heap[k]?).map fun o => if k < lo then .cells #[] 42 (0, 0) else o := by
  unfold wiped
  rw [Array.getElem?_mapIdx]
theorem foot_row {lo : Nat} {w : World} {A : Option Addr} {l : List S42} (h : Foot lo w A l) : RowF (fun k => lo ≤ k ∧ k < w.heap.size) w A l := by
  have hs : (wiped lo w).heap.size = w.heap.size := by simp [wiped]
  have hg : ∀ k, lo ≤ k → (wiped lo w).heap[k]? = w.heap[k]? := fun k hk => by
    rw [wiped_at]
    cases w.heap[k]? with
    | none => rfl
    | some o => simp only [Option.map_some]; rw [if_neg (by omega)]
  have h1 := h (wiped lo w) (fun k hk _ => hg k hk)
  have h2 : RowF (fun k => lo ≤ k ∧ k < w.heap.size) (wiped lo w) A l := by
    refine (RowF.ofC _ _ A l (Nat.le_refl _) h1).live.mono fun k hk => ?_
    obtain ⟨hk1, a, rfl, ha⟩ := hk
    refine ⟨?_, by omega⟩
    rcases Nat.lt_or_ge a.block lo with hlo | hlo
    · exfalso
      unfold World.cell? at ha
      rw [wiped_at] at ha
      cases ho : w.heap[a.block]? with
      | none => rw [ho] at ha; simp at ha
      | some o => rw [ho] at ha; simp [hlo] at ha
    · exact hlo
  exact h2.step fun k hk _ => (hg k hk.1).symm
def MkPost (n i : Nat) (w : World) (e : Ending) (w' : World) : Prop := ∃ (t : S42) (A : Option Addr) (c : Nat), e = .returned (.agg #[.int .i64 t.f0, .string t.f1, .int .i64 t.f2, .slice A t.f3.length c]) ∧ Made i t ∧ t.f3.length ≤ c ∧ RowF (fun k => n ≤ k ∧ k < w'.heap.size) w' A t.f3 ∧ Below n w w'
theorem raw_new (w : World) (hw : WdAt w) (i : Nat) (hi : i ≤ 100) (A : Option Addr) (c : Nat) (l : List Int) (ha : Kd.C (Kd.int .i64) w A l.length l) :
    Calls Tryd.prog 59 #[.pointer (some ⟨w.heap.size, 0, none⟩), .int .i64 i] (w.alloc (.cells #[.slice A l.length c, .int .i64 0] 59)) (MkPost w.heap.size i w) := by
  refine (raw_any w hw w.heap.size i hi _ ⟨below_alloc (Below.refl _ _) _, l, 0, ⟨A, c, heap_alloc_new _ _, Nat.le_refl _, ha⟩, by omega, by omega, ?_⟩).mono ?_
  · have := ha.2.1
    omega
  · rintro e w' ⟨t, A2, c2, rfl, h1, h2, h3, _, h4⟩
    exact ⟨t, A2, c2, rfl, h1, h2, (foot_row h4).mono fun k hk => ⟨by have := hk.1; rw [alloc_size1] at this; omega, hk.2⟩, h3.1⟩
def TreePost (m : List Int) (W : World) (e : Ending) (w' : World) : Prop :=
  ∃ (t : S42) (A : Option Addr) (c : Nat), e = .returned (.agg #[.int .i64 t.f0, .string t.f1, .int .i64 t.f2, .slice A t.f3.length c]) ∧ nmT t = true ∧ szT t ≤ 1000 ∧ (m = [] → Made 4 t) ∧ t.f3.length ≤ c ∧ Kd.C k42 w' A t.f3.length t.f3 ∧ Below W.heap.size W w'
def TrR (m : List Int) (W : World) (b : Nat) (k : Nat) (wr : World) : Prop :=
  ∃ (t : S42) (A : Option Addr) (c : Nat), wr.heap[b]? = some (.cells #[.int .i64 t.f0, .string t.f1, .int .i64 t.f2, .slice A t.f3.length c] 42 (0, 0)) ∧ wr.heap[W.heap.size]? = some (.cells #[.int .i64 0, .string ⟨#[]⟩, .int .i64 0, .slice none 0 0] 42 (0, 0)) ∧ nmT t = true ∧ szT t ≤ 100 + k ∧ (m = [] → Made 4 t) ∧ t.f3.length ≤ c ∧
    RowF (fun j => j ≠ W.heap.size ∧ j ≠ b ∧ j < wr.heap.size) wr A t.f3 ∧ Below W.heap.size W wr
theorem tree_end {m : List Int} {W wr : World} {b k : Nat} {t2 : S42} {A2 : Option Addr} {c2 : Nat}
    (h : wr.heap[b]? = some (.cells #[.int .i64 t2.f0, .string t2.f1, .int .i64 t2.f2, .slice A2 t2.f3.length c2] 42 (0, 0)) ∧ wr.heap[W.heap.size]? = some (.cells #[.int .i64 0, .string ⟨#[]⟩, .int .i64 0, .slice none 0 0] 42 (0, 0)) ∧ nmT t2 = true ∧ szT t2 ≤ 100 + k ∧ (m = [] → Made 4 t2) ∧ t2.f3.length ≤ c2 ∧
      RowF (fun j => j ≠ W.heap.size ∧ j ≠ b ∧ j < wr.heap.size) wr A2 t2.f3 ∧ Below W.heap.size W wr) (hk : k ≤ 7) :
    TreePost m W (.returned (.agg #[.int .i64 t2.f0, .string t2.f1, .int .i64 t2.f2, .slice A2 t2.f3.length c2])) ((((wr.setCell ⟨W.heap.size, 0, none⟩ (.int .i64 t2.f0)).setCell ⟨W.heap.size, 1, none⟩ (.string t2.f1)).setCell ⟨W.heap.size, 2, none⟩ (.int .i64 t2.f2)).setCell ⟨W.heap.size, 3, none⟩ (.slice A2 t2.f3.length c2)) := by
  obtain ⟨_, _, h3, h4, h5, h6, h7, h8⟩ := h
  exact ⟨t2, A2, c2, rfl, h3, by omega, h5, h6, (h7.step fun j hj _ => put4_keep hj.1 _ _ _ _).toC, below_set4 h8 (Nat.le_refl _) _ _ _ _⟩
set_option maxHeartbeats 4000000 in
set_option maxRecDepth 100000 in
theorem tree_any (W : World) (hw : WdAt W) (A : Option Addr) (c : Nat) (l : List Int) (ha : Kd.C (Kd.int .i64) W A l.length l) (B : Option Addr) (d : Nat) (m : List Int) (hb : Kd.C (Kd.int .i64) W B m.length m) :
    Calls Tryd.prog 28 #[.slice A l.length c, .slice B m.length d] W (TreePost m W) := by
  have hu42 := Tryd.underlying42
  have HW := Aside0.mk hw
  have HA := Aside0.mk ha
  have HM := Aside0.mk hb
  have HML : Aside0 (m.length ≤ 9223372036854775807) := ⟨by have := hb.2.1; omega⟩
  clear ha hb hw
  go_enter Tryd.func28, Tryd.ntmps28
  have B0 : Aside0 ((W.alloc (.cells #[.int .i64 0, .string ⟨#[]⟩, .int .i64 0, .slice none 0 0] 42)).heap[W.heap.size]? = some (.cells #[.int .i64 0, .string ⟨#[]⟩, .int .i64 0, .slice none 0 0] 42 (0, 0))) := ⟨heap_alloc_new _ _⟩
  have L0 : Aside0 (Below W.heap.size W (W.alloc (.cells #[.int .i64 0, .string ⟨#[]⟩, .int .i64 0, .slice none 0 0] 42))) := ⟨below_alloc (Below.refl _ _) _⟩
  have S0 : Aside0 ((W.alloc (.cells #[.int .i64 0, .string ⟨#[]⟩, .int .i64 0, .slice none 0 0] 42)).heap.size = W.heap.size + 1) := ⟨alloc_size1 _ _⟩
  go_upto_region 1 with fail
  generalize W.alloc (.cells #[.int .i64 0, .string ⟨#[]⟩, .int .i64 0, .slice none 0 0] 42) = w0 at *
  have HR : Aside0 (Calls Tryd.prog 59 #[.pointer (some ⟨w0.heap.size, 0, none⟩), .int .i64 (4 : Nat)] (w0.alloc (.cells #[.slice A l.length c, .int .i64 0] 59)) (MkPost w0.heap.size 4 w0)) := ⟨raw_new w0 (HW.out.below L0.out) 4 (by omega) A c l (Kd.C_below HA.out L0.out)⟩
  go_wp2_with (go_at_call 59; refine (HR.out).mono ?_; rintro e w1 ⟨t, A1, c1, rfl, md, hc1, h1, b1⟩; have MD := Aside0.mk md; have HC1 := Aside0.mk hc1; have HK1 := Aside0.mk h1; have BL1 := Aside0.mk b1; clear md hc1 h1 b1)
  have BW : Aside0 (W.heap.size < w1.heap.size) := ⟨by have := below_size BL1.out; have := S0.out; omega⟩
  have BLW : Aside0 (Below W.heap.size W w1) := ⟨below_step L0.out BL1.out⟩
  have B01 : Aside0 (w1.heap[W.heap.size]? = some (.cells #[.int .i64 0, .string ⟨#[]⟩, .int .i64 0, .slice none 0 0] 42 (0, 0))) := ⟨blk_below B0.out BL1.out⟩
  have HB1 : Aside0 (W.heap.size ≤ w1.heap.size) := ⟨Nat.le_of_lt BW.out⟩
  have hat : Aside0 (TrR m W w1.heap.size 0 (w1.alloc (.cells #[.int .i64 t.f0, .string t.f1, .int .i64 t.f2, .slice A1 t.f3.length c1] 42))) := ⟨by
    obtain ⟨m1, m2, m3, m4⟩ := MD.out
    refine ⟨t, A1, c1, heap_alloc_new _ _, blk_alloc B01.out _, m2, by omega, fun _ => MD.out, HC1.out, ?_, below_alloc BLW.out _⟩
    refine (HK1.out.keep (below_alloc (Below.refl _ _) _)).mono fun k hk => ?_
    have := alloc_size1 w1 (.cells #[.int .i64 t.f0, .string t.f1, .int .i64 t.f2, .slice A1 t.f3.length c1] 42)
    have h2 := S0.out
    exact ⟨by omega, by omega, by omega⟩⟩
  clear HR MD HC1 HK1 BL1 B0 L0 S0 BLW B01
  generalize w1.alloc (.cells #[.int .i64 t.f0, .string t.f1, .int .i64 t.f2, .slice A1 t.f3.length c1] 42) = w2 at *
  generalize w1.heap.size = b at *
  go_loopw [6] (fun i wr => ∃ k : Nat, k ≤ 7 ∧ i = .int .i64 k ∧ Aside0 (TrR m W b k wr)) (fun i _ => 6 - (intOf i).toNat)
  case atStart => exact ⟨0, by omega, rfl, hat⟩
  case round =>
    obtain ⟨k, hk, rfl, HTR⟩ := hrel
    rename_i wr
    clear hat
    obtain ⟨t2, A2, c2, e1, e2, e3, e4, e5, e6, e7, e8⟩ := HTR.out
    have E1 := Aside0.mk e1
    have E2 := Aside0.mk e2
    have E3 := Aside0.mk e3
    have E4 := Aside0.mk e4
    have E5 := Aside0.mk e5
    have E6 := Aside0.mk e6
    have E7 := Aside0.mk e7
    have E8 := Aside0.mk e8
    clear e1 e2 e3 e4 e5 e6 e7 e8
    have HK6 := Aside0.mk hk
    have q2 : IntKind.i64.wrap ((k : Int) + 1) = (k : Int) + 1 := IntWalk.i64_in _ (by omega)
    by_cases hlt : k + 1 < m.length ∧ k < 6
    ·
      as_aux_lemma =>
        obtain ⟨ad, rfl, m0⟩ := Kd.at_int HM.out (k : Int) (by omega) (by omega)
        obtain ⟨ad', h', m1⟩ := Kd.at_int HM.out ((k : Int) + 1) (by omega) (by omega)
        obtain rfl := Option.some.inj h'
        clear h'
        rw [Int.toNat_natCast] at m0
        rw [show ((k : Int) + 1).toNat = k + 1 by omega, Addr.add_succ'] at m1
        generalize rd m (k : Int) = x0 at m0
        generalize rd m ((k : Int) + 1) = x1 at m1
        have SM : Aside0 (∀ W', Below W.heap.size W W' → W'.cell? (ad.add k) = some (.int .i64 x0) ∧ W'.cell? ⟨ad.block, ad.off + (k + 1), none⟩ = some (.int .i64 x1)) := ⟨fun W' h => ⟨pw_cell_below h m0, pw_cell_below h m1⟩⟩
        have HLT := Aside0.mk hlt
        have q0 := eq_true (show (0 : Int) ≤ (k : Int) by omega)
        have q1 := eq_true (show (k : Int) < (m.length : Int) by omega)
        have q3 := eq_true (show (0 : Int) ≤ (k : Int) + 1 by omega)
        have q4 := eq_true (show (k : Int) + 1 < (m.length : Int) by omega)
        have q5 := eq_true (show (k : Int) < 6 by omega)
        have q6 := eq_true (show k < 6 by omega)
        have q7 := eq_true (show k + 1 < m.length by omega)
        have q8 := eq_true (show k < m.length by omega)
        have q9 : IntKind.i64.wrap ((k : Int) + 2) = (k : Int) + 2 := IntWalk.i64_in _ (by omega)
        have q10 : ((k : Int) + 1).toNat = k + 1 := by omega
        clear m0 m1 hlt hk
        obtain ⟨c0, c1, c2', c3⟩ := cells4h E1.out
        have f0 := blk_frozen E1.out 0
        have f1 := blk_frozen E1.out 1
        have f2 := blk_frozen E1.out 2
        have f3 := blk_frozen E1.out 3
        have HSP : Aside0 (∀ p q : Int, Calls Tryd.prog 48 #[.agg #[.int .i64 t2.f0, .string t2.f1, .int .i64 t2.f2, .slice A2 t2.f3.length c2], .int .i64 p, .int .i64 q] wr.drew (SpPost t2 (fun j => j ≠ W.heap.size ∧ j ≠ b ∧ j < wr.heap.size) wr.drew)) := ⟨fun p q =>
          spoil_any _ _ t2 (Nat.le_refl _) p q A2 c2 wr.drew E3.out (by have := E4.out; have := HLT.out; omega) (E7.out.step fun _ _ _ => rfl) (fun k hk => hk.2.2) E6.out (HW.out.below (below_drew E8.out))⟩
        go_upto_region 5 with fail
        obtain ⟨k0, k1⟩ := SM.out wr E8.out
        go_still_tail 10, (by kernel_rfl)
        change wpList _ _ _ _ _ wr.drew
        clear c0 c1 c2' c3 f0 f1 f2 f3 k0 k1
        go_wp2_with (go_at_call 48; (with_reducible refine (HSP.out _ _).mono ?_); rintro e w3 ⟨t3, A3, k3, rfl, n3, s3, l3, ft3, b3⟩; have BX3 := Aside0.mk (blk_below (blk_drew E1.out) b3); have BB3 := Aside0.mk (below_step (below_drew E8.out) b3); obtain ⟨z0, z1, z2, z3⟩ := cells4h BX3.out; have y0 := blk_frozen BX3.out 0; have y1 := blk_frozen BX3.out 1; have y2 := blk_frozen BX3.out 2; have y3 := blk_frozen BX3.out 3; have N3 := Aside0.mk n3; have S3 := Aside0.mk s3; have L3 := Aside0.mk l3; have F3 := Aside0.mk ft3; have B3 := Aside0.mk b3; clear n3 s3 l3 ft3 b3)
        have TR4 : Aside0 (TrR m W b (k + 2) ((((w3.setCell ⟨b, 0, none⟩ (.int .i64 t3.f0)).setCell ⟨b, 1, none⟩ (.string t3.f1)).setCell ⟨b, 2, none⟩ (.int .i64 t3.f2)).setCell ⟨b, 3, none⟩ (.slice A3 t3.f3.length k3))) := ⟨by
          have hs : wr.drew.heap.size = wr.heap.size := rfl
          have hb := blk_lt E1.out
          refine ⟨t3, A3, k3, box_set4 BX3.out _ _ _ _, set4_blk (blk_below (blk_drew E2.out) B3.out) (Nat.ne_of_lt BW.out) _ _ _ _, N3.out, by have := S3.out; have := E4.out; omega, fun h => ?_, L3.out, ?_, below_set4 BB3.out HB1.out _ _ _ _⟩
          · have := HLT.out.1; rw [h] at this; simp at this
          · refine ((F3.out.lt).step fun j hj _ => put4_keep (fun e => ?_) _ _ _ _).mono fun j hj => ⟨?_, ?_⟩
            · rcases hj with ⟨⟨_, hj, _⟩ | hj, _⟩
              · exact hj e
              · omega
            · rcases hj with ⟨⟨hj, _, _⟩ | hj, _⟩
              · exact hj
              · have := BW.out; omega
            · refine ⟨?_, ?_⟩
              · rcases hj with ⟨⟨_, hj, _⟩ | hj, _⟩
                · exact hj
                · omega
              · have := hj.2
                simpa [World.setCell] using this⟩
        go_roundw
        case rel => exact ⟨k + 2, by have := HLT.out; omega, by go_num, TR4⟩
        case measure => have := HLT.out; simp [intOf]; omega
    ·
      as_aux_lemma =>
        have q3 : decide ((k : Int) + 1 < (m.length : Int)) = decide (k + 1 < m.length) := by rw [decide_eq_decide]; omega
        rcases Nat.lt_or_ge (k + 1) m.length with h1 | h1
        · have q5 := eq_false (show ¬ ((k : Int) < 6) by omega)
          have q6 := eq_false (show ¬ (k < 6) by omega)
          have q7 := eq_true h1
          have q4 := eq_true (show (k : Int) + 1 < (m.length : Int) by omega)
          clear h1 hlt hk q3
          obtain ⟨c0, c1, c2', c3⟩ := cells4h E1.out
          obtain ⟨z0, z1, z2, z3⟩ := cells4h E2.out
          have y0 := blk_frozen E2.out 0
          have y1 := blk_frozen E2.out 1
          have y2 := blk_frozen E2.out 2
          have y3 := blk_frozen E2.out 3
          go_wp2_with fail
          refine bodyPost_ret (results_cell_row rfl _ _ W.heap.size 42 #[.int .i64 t2.f0, .string t2.f1, .int .i64 t2.f2, .slice A2 t2.f3.length c2] (0, 0) _ rfl ?hp Tryd.underlying42 rfl (by kernel_rfl)) rfl ?_
          case hp => with_reducible exact box_set4 E2.out _ _ _ _
          exact tree_end ⟨E1.out, E2.out, E3.out, E4.out, E5.out, E6.out, E7.out, E8.out⟩ HK6.out
        · have q7 := eq_false (show ¬ (k + 1 < m.length) by omega)
          have q4 := eq_false (show ¬ ((k : Int) + 1 < (m.length : Int)) by omega)
          clear h1 hlt hk q3
          obtain ⟨c0, c1, c2', c3⟩ := cells4h E1.out
          obtain ⟨z0, z1, z2, z3⟩ := cells4h E2.out
          have y0 := blk_frozen E2.out 0
          have y1 := blk_frozen E2.out 1
          have y2 := blk_frozen E2.out 2
          have y3 := blk_frozen E2.out 3
          go_wp2_with fail
          refine bodyPost_ret (results_cell_row rfl _ _ W.heap.size 42 #[.int .i64 t2.f0, .string t2.f1, .int .i64 t2.f2, .slice A2 t2.f3.length c2] (0, 0) _ rfl ?hp Tryd.underlying42 rfl (by kernel_rfl)) rfl ?_
          case hp => with_reducible exact box_set4 E2.out _ _ _ _
          exact tree_end ⟨E1.out, E2.out, E3.out, E4.out, E5.out, E6.out, E7.out, E8.out⟩ HK6.out
end
end Go.Proofs.YtajefkjcfmfjkaaDoor
namespace Go.Proofs.YtajefkjcfmfjkaaDoor
section
set_option linter.unusedVariables false
set_option linter.unusedSimpArgs false
set_option linter.deprecated false
open Go.RowKit Go.Proofs.YtajefkjcfmfjkaaDoorW.PrintWords Go.Proofs.YtajefkjcfmfjkaaDoor.POperatorResolves
set_option linter.unusedVariables false
attribute [local go_sem ↓] Go.wp_at_zero Go.wp_at_succ
theorem smL_refl (at_ : Bool) (l : List S42) (h : ∀ x ∈ l, smT at_ x x = true) : smL at_ l l = true := by
  induction l with
  | nil => rfl
  | cons x xs ih => rw [smL, h x (by simp), ih (fun y hy => h y (List.mem_cons_of_mem _ hy))]; rfl
theorem smT_refl (at_ : Bool) (i : Nat) : ∀ t : S42, szT t ≤ i → smT at_ t t = true := by
  induction i with
  | zero => intro t h; have := szT_pos t; omega
  | succ i ih =>
    intro t h
    rw [szT_eq] at h
    rw [smT_eq, smL_refl at_ t.f3 (fun x hx => ih x (by have := szL_mem hx; omega))]
    simp [eqB_self]
theorem eqB_comm (a b : ByteArray) : eqB a b = eqB b a := by
  rw [Bool.eq_iff_iff, eqB_iff, eqB_iff]; exact eq_comm
theorem smT_comm (at_ : Bool) (i : Nat) : ∀ t u : S42, szT t ≤ i → smT at_ t u = smT at_ u t := by
  induction i with
  | zero => intro t u h; have := szT_pos t; omega
  | succ i ih =>
    intro t u h
    rw [szT_eq] at h
    have hl : ∀ l m : List S42, szL l ≤ i → smL at_ l m = smL at_ m l := by
      intro l
      induction l with
      | nil => intro m _; cases m <;> rfl
      | cons x xs ihx => intro m hz; cases m with
        | nil => rfl
        | cons y ys => rw [szL] at hz; rw [smL, smL, ih x y (by omega), ihx ys (by omega)]
    rw [smT_eq, smT_eq, hl _ _ (by omega), eqB_comm t.f1 u.f1]
    have e1 : (t.f0 == u.f0) = (u.f0 == t.f0) := by rw [Bool.eq_iff_iff, beq_iff_eq, beq_iff_eq]; exact eq_comm
    have e2 : (t.f2 == u.f2) = (u.f2 == t.f2) := by rw [Bool.eq_iff_iff, beq_iff_eq, beq_iff_eq]; exact eq_comm
    rw [e1, e2]
set_option maxHeartbeats 4000000 in
set_option maxRecDepth 100000 in
theorem rawSame_walk (W : World) (A : Option Addr) (c : Nat) (l : List Int) (ha : Kd.C (Kd.int .i64) W A l.length l) (B : Option Addr) (d : Nat) (m : List Int) (hb : Kd.C (Kd.int .i64) W B m.length m) (C : Option Addr) (f : Nat) (k : List Int) (hc : Kd.C (Kd.int .i64) W C k.length k) (hw : WdAt W) :
    Calls Tryd.prog 11 #[.slice A l.length c, .slice B m.length d, .slice C k.length f] W fun e w' => e = .returned (.bool true) ∧ Below W.heap.size W w' := by
  have hu42 := Tryd.underlying42
  have TA1 : Aside0 (Calls Tryd.prog 28 #[.slice A l.length c, .slice B m.length d] W (TreePost m W)) := ⟨tree_any W hw A c l ha B d m hb⟩
  have TA2 : Aside0 (∀ W', Below W.heap.size W W' → Calls Tryd.prog 28 #[.slice A l.length c, .slice C k.length f] W' (TreePost k W')) := ⟨fun W' h => tree_any W' (hw.below h) A c l (Kd.C_below ha h) C f k (Kd.C_below hc h)⟩
  clear ha hb hc hw
  go_enter Tryd.func11, Tryd.ntmps11
  go_wp2_with (go_at_call 28; (with_reducible refine TA1.out.mono ?_); rintro e w1 ⟨t1, A1, c1, rfl, n1, s1, -, l1, r1, b1⟩; have N1 := Aside0.mk n1; have S1 := Aside0.mk s1; have L1 := Aside0.mk l1; have R1 := Aside0.mk r1; have B1 := Aside0.mk b1; clear n1 s1 l1 r1 b1)
  go_upto_region 2 with (go_at_call 28; (with_reducible refine (TA2.out _ B1.out).mono ?_); rintro e w2 ⟨t2, A2, c2, rfl, n2, s2, -, l2, r2, b2⟩; have N2 := Aside0.mk n2; have S2 := Aside0.mk s2; have L2 := Aside0.mk l2; have R2 := Aside0.mk r2; have B2 := Aside0.mk b2; clear n2 s2 l2 r2 b2)
  have X1 : Aside0 (((w2.alloc (.cells #[.int .i64 t1.f0, .string t1.f1, .int .i64 t1.f2, .slice A1 t1.f3.length c1] 42)).alloc (.cells #[.int .i64 t2.f0, .string t2.f1, .int .i64 t2.f2, .slice A2 t2.f3.length c2] 42)).heap[w2.heap.size]? = some (.cells #[.int .i64 t1.f0, .string t1.f1, .int .i64 t1.f2, .slice A1 t1.f3.length c1] 42 (0, 0))) := ⟨blk_alloc (heap_alloc_new _ _) _⟩
  have X2 : Aside0 (((w2.alloc (.cells #[.int .i64 t1.f0, .string t1.f1, .int .i64 t1.f2, .slice A1 t1.f3.length c1] 42)).alloc (.cells #[.int .i64 t2.f0, .string t2.f1, .int .i64 t2.f2, .slice A2 t2.f3.length c2] 42)).heap[w2.heap.size + 1]? = some (.cells #[.int .i64 t2.f0, .string t2.f1, .int .i64 t2.f2, .slice A2 t2.f3.length c2] 42 (0, 0))) := ⟨heap_alloc_new2 _ _ _⟩
  have X3 : Aside0 (Below w2.heap.size w2 ((w2.alloc (.cells #[.int .i64 t1.f0, .string t1.f1, .int .i64 t1.f2, .slice A1 t1.f3.length c1] 42)).alloc (.cells #[.int .i64 t2.f0, .string t2.f1, .int .i64 t2.f2, .slice A2 t2.f3.length c2] 42))) := ⟨below_alloc (below_alloc (Below.refl _ _) _) _⟩
  generalize (w2.alloc (.cells #[.int .i64 t1.f0, .string t1.f1, .int .i64 t1.f2, .slice A1 t1.f3.length c1] 42)).alloc (.cells #[.int .i64 t2.f0, .string t2.f1, .int .i64 t2.f2, .slice A2 t2.f3.length c2] 42) = w3 at *
  have B3 : Aside0 (Below W.heap.size W w3) := ⟨below_step (below_step B1.out B2.out) X3.out⟩
  have SA : Aside0 (∀ W', Below w3.heap.size w3 W' → (W'.cell? ⟨w2.heap.size, 0, none⟩ = some (.int .i64 t1.f0) ∧ W'.cell? ⟨w2.heap.size, 1, none⟩ = some (.string t1.f1) ∧ W'.cell? ⟨w2.heap.size, 2, none⟩ = some (.int .i64 t1.f2) ∧ W'.cell? ⟨w2.heap.size, 3, none⟩ = some (.slice A1 t1.f3.length c1)) ∧ (W'.cell? ⟨w2.heap.size + 1, 0, none⟩ = some (.int .i64 t2.f0) ∧ W'.cell? ⟨w2.heap.size + 1, 1, none⟩ = some (.string t2.f1) ∧ W'.cell? ⟨w2.heap.size + 1, 2, none⟩ = some (.int .i64 t2.f2) ∧ W'.cell? ⟨w2.heap.size + 1, 3, none⟩ = some (.slice A2 t2.f3.length c2))) :=
    ⟨fun W' h => ⟨cells4h (blk_below X1.out h), cells4h (blk_below X2.out h)⟩⟩
  have C1 : Aside0 (∀ W', Below w3.heap.size w3 W' → Kd.C k42 W' A1 t1.f3.length t1.f3) := ⟨fun W' h => Kd.C_below (Kd.C_below (Kd.C_below R1.out B2.out) X3.out) h⟩
  have C2 : Aside0 (∀ W', Below w3.heap.size w3 W' → Kd.C k42 W' A2 t2.f3.length t2.f3) := ⟨fun W' h => Kd.C_below (Kd.C_below R2.out X3.out) h⟩
  obtain ⟨v, hv⟩ : ∃ v, smT false t1 t2 = v := ⟨_, rfl⟩
  have F1 : Aside0 (∀ W', Below w3.heap.size w3 W' → Calls Tryd.prog 41 #[.agg #[.int .i64 t1.f0, .string t1.f1, .int .i64 t1.f2, .slice A1 t1.f3.length c1], .agg #[.int .i64 t2.f0, .string t2.f1, .int .i64 t2.f2, .slice A2 t2.f3.length c2]] W' (SmPost v W')) :=
    ⟨fun W' h => hv ▸ same42_any 1000000 t1 t2 A1 A2 c1 c2 W' (by have := S1.out; omega) (by omega) (by have := S2.out; omega) (C1.out W' h) L1.out (C2.out W' h) L2.out⟩
  have F2 : Aside0 (∀ W', Below w3.heap.size w3 W' → Calls Tryd.prog 41 #[.agg #[.int .i64 t1.f0, .string t1.f1, .int .i64 t1.f2, .slice A1 t1.f3.length c1], .agg #[.int .i64 t1.f0, .string t1.f1, .int .i64 t1.f2, .slice A1 t1.f3.length c1]] W' (SmPost true W')) :=
    ⟨fun W' h => smT_refl false _ t1 (Nat.le_refl _) ▸ same42_any 1000000 t1 t1 A1 A1 c1 c1 W' (by have := S1.out; omega) (by omega) (by have := S1.out; omega) (C1.out W' h) L1.out (C1.out W' h) L1.out⟩
  have F3 : Aside0 (∀ W', Below w3.heap.size w3 W' → Calls Tryd.prog 41 #[.agg #[.int .i64 t2.f0, .string t2.f1, .int .i64 t2.f2, .slice A2 t2.f3.length c2], .agg #[.int .i64 t1.f0, .string t1.f1, .int .i64 t1.f2, .slice A1 t1.f3.length c1]] W' (SmPost v W')) :=
    ⟨fun W' h => (smT_comm false _ t2 t1 (Nat.le_refl _)).trans hv ▸ same42_any 1000000 t2 t1 A2 A1 c2 c1 W' (by have := S2.out; omega) (by omega) (by have := S1.out; omega) (C2.out W' h) L2.out (C1.out W' h) L1.out⟩
  have F4 : Aside0 (∀ W', Below w3.heap.size w3 W' → Calls Tryd.prog 42 #[.agg #[.int .i64 t1.f0, .string t1.f1, .int .i64 t1.f2, .slice A1 t1.f3.length c1], .agg #[.int .i64 t2.f0, .string t2.f1, .int .i64 t2.f2, .slice A2 t2.f3.length c2], .bool false] W' (SmPost v W')) :=
    ⟨fun W' h => hv ▸ rsame_any t1 t2 A1 A2 c1 c2 false W' (by have := S1.out; omega) (C1.out W' h) L1.out (C2.out W' h) L2.out⟩
  have F5 : Aside0 (∀ W', Calls Tryd.prog 40 #[] W' (SmPost true W')) := ⟨fun W' => awake_any W'⟩
  have HB : Aside0 (Below w3.heap.size w3 w3.drew) := ⟨below_drew (Below.refl _ _)⟩
  clear TA1 TA2 X1 X2 hv
  go_region_held3 (fun W' => (W'.cell? ⟨w2.heap.size, 0, none⟩ = some (.int .i64 t1.f0) ∧ W'.cell? ⟨w2.heap.size, 1, none⟩ = some (.string t1.f1) ∧ W'.cell? ⟨w2.heap.size, 2, none⟩ = some (.int .i64 t1.f2) ∧ W'.cell? ⟨w2.heap.size, 3, none⟩ = some (.slice A1 t1.f3.length c1)) ∧ (W'.cell? ⟨w2.heap.size + 1, 0, none⟩ = some (.int .i64 t2.f0) ∧ W'.cell? ⟨w2.heap.size + 1, 1, none⟩ = some (.string t2.f1) ∧ W'.cell? ⟨w2.heap.size + 1, 2, none⟩ = some (.int .i64 t2.f2) ∧ W'.cell? ⟨w2.heap.size + 1, 3, none⟩ = some (.slice A2 t2.f3.length c2))) (with_reducible first | exact SA.out _ HB.out | fail) ((((first | (go_at_call 41; (with_reducible first | refine (F1.out _ HB.out).mono ?_ | refine (F2.out _ HB.out).mono ?_ | refine (F3.out _ HB.out).mono ?_)) | (go_at_call 42; (with_reducible refine (F4.out _ HB.out).mono ?_)) | (go_at_call 40; (with_reducible refine (F5.out _).mono ?_)))); (rintro e w4 ⟨rfl, b4⟩; have n4 := Aside0.mk (below_step HB.out b4); clear HB b4; have HB := n4; clear n4)))
  go_wp2_with fail
  go_ret
  exact ⟨rfl, below_step B3.out HB.out⟩
end
end Go.Proofs.YtajefkjcfmfjkaaDoor
namespace Go.Proofs.YtajefkjcfmfjkaaDoor
section
set_option linter.unusedVariables false
set_option linter.unusedSimpArgs false
set_option linter.deprecated false
open Go.ChangeShapes Go.WideShapes Go.ChangeAt Go.WideMaps Go.WideElems Go.RowKit
def laidWd : List (String × DataW Unit) := [("lfcheck/lfcheckmade.words", Rows.laid_lfcheck_lfcheckmade_words)]
theorem own : ownKnob Tryd.prog.godebug = none := by kernel_rfl
theorem laidOut : laidOutB Tryd.prog = true := by kernel_rfl
theorem gWd : Tryd.prog.globalNamed "lfcheck/lfcheckmade.words" = some 1 := by kernel_rfl
theorem tWd : (Tryd.prog.globals[1]?).map (·.type) = some 38 := by kernel_rfl
theorem cells9 : Tryd.prog.cellsOf 9 = 1 := by kernel_rfl
theorem doorWd_met (os : Os) (args : Array Value) : laidMetH Tryd.prog laidWd ((World.doorLaid Tryd.prog 19 os).forCall (fun _ _ => 0) ⟨#[], args, []⟩).memory :=
  laidMetH_of_parts3 (fuel := 8) (laidMet_of_run' 8 (by kernel_rfl) (by kernel_rfl)) (by kernel_rfl) (by kernel_rfl)
theorem of_laidWd {W : World} (h : laidMetH Tryd.prog laidWd W) : WdAt W := by
  rw [MakeChecks.laidMetH_plain _ _ _ (by kernel_rfl)] at h
  obtain ⟨ps, ⟨g0, t0, cs0, f0, p0, q0, hg0, ht0, hv0, hd0, _, _⟩, _, _⟩ := h
  obtain rfl := Option.some.inj (gWd.symm.trans hg0)
  obtain rfl := Option.some.inj (tWd.symm.trans ht0)
  rcases open_strings Tryd.underlying38 Tryd.underlying9 cells9 hd0 with ⟨_, hx⟩ | ⟨a, len, cap, ss, hcs, _, hl, hm, hz, hx, hcell, hws⟩
  · simp [Rows.laid_lfcheck_lfcheckmade_words] at hx
  have hv := World.var?_cell hg0 hv0 0
  have hD : (Rows.laid_lfcheck_lfcheckmade_words : DataW Unit) = .slice (wdL.map fun l => .lit (.string l)) [] := rfl
  rw [hD] at hx
  simp only [Prod.mk.injEq, DataW.slice.injEq] at hx
  obtain ⟨⟨hx1, _⟩, _⟩ := hx
  have h1 : (ss.take len).map (fun s => s.data.toList) = wdL := by
    have := congrArg (List.map fun d : DataW Unit => match d with | .lit (.string l) => l | _ => []) hx1
    simp only [strs, List.map_map] at this
    have e1 : ((fun d : DataW Unit => match d with | .lit (.string l) => l | _ => []) ∘ fun s : ByteArray => DataW.lit (.string s.data.toList)) = fun s => s.data.toList := rfl
    have e2 : ((fun d : DataW Unit => match d with | .lit (.string l) => l | _ => []) ∘ fun l : List UInt8 => DataW.lit (.string l)) = id := rfl
    rw [e1, e2, List.map_id] at this
    exact this.symm
  have h2 : (ss.take len).length = 13 := by
    have := congrArg List.length h1
    rw [List.length_map] at this
    exact this
  rw [List.length_take] at h2
  have hlen : len = 13 := by
    rcases Nat.le_total len ss.length with h | h
    · omega
    · have : ss.length = 13 := by omega
      split at hz <;> omega
  subst hlen
  refine ⟨⟨a, cap, ?_, fun j hj => ?_⟩⟩
  · rw [Array.eq_one_of_toList hcs] at hv
    simpa using hv
  · rw [hcell j (by omega)]
    have h3 : ss.getD j ByteArray.empty = wdB j := by
      have h4 := congrArg (fun l => l[j]?) h1
      simp only [List.getElem?_map, List.getElem?_take, hj, if_true] at h4
      rw [List.getElem?_eq_getElem (show j < ss.length by omega)] at h4
      simp only [Option.map_some] at h4
      rw [List.getD_eq_getElem?_getD, List.getElem?_eq_getElem (show j < ss.length by omega), Option.getD_some]
      unfold wdB wdAt
      rw [List.getD_eq_getElem?_getD, ← h4, Option.getD_some]
    rw [h3]
end
end Go.Proofs.YtajefkjcfmfjkaaDoor
namespace Go.Proofs.YtajefkjcfmfjkaaDoor
section
set_option linter.unusedVariables false
set_option linter.unusedSimpArgs false
set_option linter.deprecated false
open Go.ChangeShapes Go.WideShapes Go.ChangeAt Go.RowKit Go.Proofs.YtajefkjcfmfjkaaDoorW.PrintWords
theorem kd_ints {w : World} {x : Addr} {len cap : Nat} {zs : List Int} (hl : len ≤ cap) (hm : cap ≤ maxLen) (hz : zs.length = cap)
    (hc : ∀ i, i < zs.length → w.cell? (x.add i) = some (.int .i64 (zs.getD i 0))) : (zs.take len).length = len ∧ Kd.C (Kd.int .i64) w (some x) len (zs.take len) := by
  have h1 : (zs.take len).length = len := by rw [List.length_take]; omega
  unfold maxLen at hm
  refine ⟨h1, h1, by omega, fun _ => ⟨x, rfl, fun j p hp => ?_⟩⟩
  have hj : j < (zs.take len).length := (List.getElem?_eq_some_iff.1 hp).1
  have hj2 : j < zs.length := by rw [h1] at hj; omega
  refine ⟨[.int .i64 p], rfl, rfl, fun i u hu => ?_⟩
  have hi : i = 0 := by
    have := (List.getElem?_eq_some_iff.1 hu).1
    simp at this
    exact this
  subst hi
  simp only [List.getElem?_cons_zero, Option.some.injEq] at hu
  subst hu
  have h2 := hc j hj2
  have h3 : zs.getD j 0 = p := by
    rw [List.getElem?_take] at hp
    rw [h1] at hj
    simp only [hj, if_true] at hp
    rw [List.getD_eq_getElem?_getD, hp, Option.getD_some]
  rw [h3] at h2
  show w.cell? (x.add (j * 1 + 0)) = some (Value.int IntKind.i64 p)
  rw [Nat.mul_one, Nat.add_zero]
  exact h2
theorem kd_none (w : World) : Kd.C (Kd.int .i64) w none 0 [] := ⟨rfl, by omega, fun h => absurd h (by omega)⟩
end
end Go.Proofs.YtajefkjcfmfjkaaDoor
