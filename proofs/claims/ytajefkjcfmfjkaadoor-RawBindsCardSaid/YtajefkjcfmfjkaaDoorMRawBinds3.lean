/- The texts of the proof of 'RawBinds', joined: each part is a text of its own in wip; what the law does not use is left out. -/
import Derived.Test.YtajefkjcfmfjkaaDoorMRawBinds2
import Derived.Test.YtajefkjcfmfjkaaDoorRows
namespace Go.Proofs.YtajefkjcfmfjkaaDoor
section
set_option linter.unusedVariables false
set_option linter.unusedSimpArgs false
set_option linter.deprecated false
open Go.RowKit Go.Proofs.YtajefkjcfmfjkaaDoorW.PrintWords Go.Proofs.YtajefkjcfmfjkaaDoor.POperatorResolves
theorem raw_any (w0 : World) (hw : WdAt w0) (g : Nat) : ∀ (i : Nat), i ≤ 100 → ∀ W, Tp w0 W g → Calls Tryd.prog 59 #[.pointer (some ⟨g, 0, none⟩), .int .i64 i] W (RawPost w0 g i W) := by
  intro i
  induction i with
  | zero => intro _ W h; exact raw_zero w0 hw g W h
  | succ i ih =>
    intro hi W h
    rw [show (((i + 1 : Nat) : Int)) = (i : Int) + 1 by omega]
    exact raw_succ w0 hw g i (by omega) W h (fun W h => ih (by omega) W h)
end
end Go.Proofs.YtajefkjcfmfjkaaDoor
namespace Go.Proofs.YtajefkjcfmfjkaaDoor
section
set_option linter.unusedVariables false
set_option linter.unusedSimpArgs false
set_option linter.deprecated false
open Go.RowKit Go.Proofs.YtajefkjcfmfjkaaDoorW.PrintWords Go.Proofs.YtajefkjcfmfjkaaDoor.POperatorResolves
set_option linter.unusedVariables false
attribute [local go_sem ↓] Go.wp_at_zero Go.wp_at_succ
theorem RowF.lt {P : Nat → Prop} {w : World} {A : Option Addr} {l : List S42} (h : RowF P w A l) : RowF (fun k => P k ∧ k < w.heap.size) w A l := by
  induction h with
  | mk A ds hl hc hk hr ih =>
    refine RowF.mk A ds hl (fun hp => ?_) hk ih
    obtain ⟨ad, e, hP, hh⟩ := hc hp
    obtain ⟨u0, h0⟩ := ndCs_ne hp
    have hlt := World.block_lt_of_cell? w _ (hh 0 u0 h0)
    rw [add_block] at hlt
    exact ⟨ad, e, ⟨hP, hlt⟩, hh⟩
theorem RowF.live {P : Nat → Prop} {w : World} {A : Option Addr} {l : List S42} (h : RowF P w A l) : RowF (fun k => P k ∧ ∃ a : Addr, a.block = k ∧ (w.cell? a).isSome = true) w A l := by
  induction h with
  | mk A ds hl hc hk hr ih =>
    refine RowF.mk A ds hl (fun hp => ?_) hk ih
    obtain ⟨ad, e, hP, hh⟩ := hc hp
    obtain ⟨u0, h0⟩ := ndCs_ne hp
    exact ⟨ad, e, ⟨hP, ad.add 0, add_block _ _, by rw [hh 0 u0 h0]; rfl⟩, hh⟩
/-- w with nothing in the blocks below lo -/
def wiped (lo : Nat) (w : World) : World := { w with heap := w.heap.mapIdx fun i o => if i < lo then .cells #[] 42 (0, 0) else o }
theorem wiped_at (lo : Nat) (w : World) (k : Nat) : (wiped lo w).heap[k]? = (w.heap[k]?).map fun o => if k < lo then .cells #[] 42 (0, 0) else o := by
  unfold wiped
  rw [Array.getElem?_mapIdx]
theorem foot_row {lo : Nat} {w : World} {A : Option Addr} {l : List S42} (h : Foot lo w A l) : RowF (fun k => lo ≤ k ∧ k < w.heap.size) w A l := by
  have hs : (wiped lo w).heap.size = w.heap.size := by simp [wiped]
  have hg : ∀ k, lo ≤ k → (wiped lo w).heap[k]? = w.heap[k]? := fun k hk => by
    rw [wiped_at]
    cases w.heap[k]? with
    | none => rfl
    | some o => simp only [Option.map_some]; rw [if_neg (by omega)]
  have h1 := h (wiped lo w) (fun k hk _ => hg k hk)
  have h2 : RowF (fun k => lo ≤ k ∧ k < w.heap.size) (wiped lo w) A l := by
    refine (RowF.ofC _ _ A l (Nat.le_refl _) h1).live.mono fun k hk => ?_
    obtain ⟨hk1, a, rfl, ha⟩ := hk
    refine ⟨?_, by omega⟩
    rcases Nat.lt_or_ge a.block lo with hlo | hlo
    · exfalso
      unfold World.cell? at ha
      rw [wiped_at] at ha
      cases ho : w.heap[a.block]? with
      | none => rw [ho] at ha; simp at ha
      | some o => rw [ho] at ha; simp [hlo] at ha
    · exact hlo
  exact h2.step fun k hk _ => (hg k hk.1).symm
def MkPost (n i : Nat) (w : World) (e : Ending) (w' : World) : Prop := ∃ (t : S42) (A : Option Addr) (c : Nat), e = .returned (.agg #[.int .i64 t.f0, .string t.f1, .int .i64 t.f2, .slice A t.f3.length c]) ∧ Made i t ∧ t.f3.length ≤ c ∧ RowF (fun k => n ≤ k ∧ k < w'.heap.size) w' A t.f3 ∧ Below n w w'
theorem raw_new (w : World) (hw : WdAt w) (i : Nat) (hi : i ≤ 100) (A : Option Addr) (c : Nat) (l : List Int) (ha : Kd.C (Kd.int .i64) w A l.length l) :
    Calls Tryd.prog 59 #[.pointer (some ⟨w.heap.size, 0, none⟩), .int .i64 i] (w.alloc (.cells #[.slice A l.length c, .int .i64 0] 59)) (MkPost w.heap.size i w) := by
  refine (raw_any w hw w.heap.size i hi _ ⟨below_alloc (Below.refl _ _) _, l, 0, ⟨A, c, heap_alloc_new _ _, Nat.le_refl _, ha⟩, by omega, by omega, ?_⟩).mono ?_
  · have := ha.2.1
    omega
  · rintro e w' ⟨t, A2, c2, rfl, h1, h2, h3, _, h4⟩
    exact ⟨t, A2, c2, rfl, h1, h2, (foot_row h4).mono fun k hk => ⟨by have := hk.1; rw [alloc_size1] at this; omega, hk.2⟩, h3.1⟩
def TreePost (m : List Int) (W : World) (e : Ending) (w' : World) : Prop :=
  ∃ (t : S42) (A : Option Addr) (c : Nat), e = .returned (.agg #[.int .i64 t.f0, .string t.f1, .int .i64 t.f2, .slice A t.f3.length c]) ∧ nmT t = true ∧ szT t ≤ 1000 ∧ (m = [] → Made 4 t) ∧ t.f3.length ≤ c ∧ Kd.C k42 w' A t.f3.length t.f3 ∧ Below W.heap.size W w'
def TrR (m : List Int) (W : World) (b : Nat) (k : Nat) (wr : World) : Prop :=
  ∃ (t : S42) (A : Option Addr) (c : Nat), wr.heap[b]? = some (.cells #[.int .i64 t.f0, .string t.f1, .int .i64 t.f2, .slice A t.f3.length c] 42 (0, 0)) ∧ wr.heap[W.heap.size]? = some (.cells #[.int .i64 0, .string ⟨#[]⟩, .int .i64 0, .slice none 0 0] 42 (0, 0)) ∧ nmT t = true ∧ szT t ≤ 100 + k ∧ (m = [] → Made 4 t) ∧ t.f3.length ≤ c ∧
    RowF (fun j => j ≠ W.heap.size ∧ j ≠ b ∧ j < wr.heap.size) wr A t.f3 ∧ Below W.heap.size W wr
theorem tree_end {m : List Int} {W wr : World} {b k : Nat} {t2 : S42} {A2 : Option Addr} {c2 : Nat}
    (h : wr.heap[b]? = some (.cells #[.int .i64 t2.f0, .string t2.f1, .int .i64 t2.f2, .slice A2 t2.f3.length c2] 42 (0, 0)) ∧ wr.heap[W.heap.size]? = some (.cells #[.int .i64 0, .string ⟨#[]⟩, .int .i64 0, .slice none 0 0] 42 (0, 0)) ∧ nmT t2 = true ∧ szT t2 ≤ 100 + k ∧ (m = [] → Made 4 t2) ∧ t2.f3.length ≤ c2 ∧
      RowF (fun j => j ≠ W.heap.size ∧ j ≠ b ∧ j < wr.heap.size) wr A2 t2.f3 ∧ Below W.heap.size W wr) (hk : k ≤ 7) :
    TreePost m W (.returned (.agg #[.int .i64 t2.f0, .string t2.f1, .int .i64 t2.f2, .slice A2 t2.f3.length c2])) ((((wr.setCell ⟨W.heap.size, 0, none⟩ (.int .i64 t2.f0)).setCell ⟨W.heap.size, 1, none⟩ (.string t2.f1)).setCell ⟨W.heap.size, 2, none⟩ (.int .i64 t2.f2)).setCell ⟨W.heap.size, 3, none⟩ (.slice A2 t2.f3.length c2)) := by
  obtain ⟨_, _, h3, h4, h5, h6, h7, h8⟩ := h
  exact ⟨t2, A2, c2, rfl, h3, by omega, h5, h6, (h7.step fun j hj _ => put4_keep hj.1 _ _ _ _).toC, below_set4 h8 (Nat.le_refl _) _ _ _ _⟩
set_option maxHeartbeats 4000000 in
set_option maxRecDepth 100000 in
theorem tree_any (W : World) (hw : WdAt W) (A : Option Addr) (c : Nat) (l : List Int) (ha : Kd.C (Kd.int .i64) W A l.length l) (B : Option Addr) (d : Nat) (m : List Int) (hb : Kd.C (Kd.int .i64) W B m.length m) :
    Calls Tryd.prog 28 #[.slice A l.length c, .slice B m.length d] W (TreePost m W) := by
  have hu42 := Tryd.underlying42
  have HW := Aside0.mk hw
  have HA := Aside0.mk ha
  have HM := Aside0.mk hb
  have HML : Aside0 (m.length ≤ 9223372036854775807) := ⟨by have := hb.2.1; omega⟩
  clear ha hb hw
  go_enter Tryd.func28, Tryd.ntmps28
  have B0 : Aside0 ((W.alloc (.cells #[.int .i64 0, .string ⟨#[]⟩, .int .i64 0, .slice none 0 0] 42)).heap[W.heap.size]? = some (.cells #[.int .i64 0, .string ⟨#[]⟩, .int .i64 0, .slice none 0 0] 42 (0, 0))) := ⟨heap_alloc_new _ _⟩
  have L0 : Aside0 (Below W.heap.size W (W.alloc (.cells #[.int .i64 0, .string ⟨#[]⟩, .int .i64 0, .slice none 0 0] 42))) := ⟨below_alloc (Below.refl _ _) _⟩
  have S0 : Aside0 ((W.alloc (.cells #[.int .i64 0, .string ⟨#[]⟩, .int .i64 0, .slice none 0 0] 42)).heap.size = W.heap.size + 1) := ⟨alloc_size1 _ _⟩
  go_upto_region 1 with fail
  generalize W.alloc (.cells #[.int .i64 0, .string ⟨#[]⟩, .int .i64 0, .slice none 0 0] 42) = w0 at *
  have HR : Aside0 (Calls Tryd.prog 59 #[.pointer (some ⟨w0.heap.size, 0, none⟩), .int .i64 (4 : Nat)] (w0.alloc (.cells #[.slice A l.length c, .int .i64 0] 59)) (MkPost w0.heap.size 4 w0)) := ⟨raw_new w0 (HW.out.below L0.out) 4 (by omega) A c l (Kd.C_below HA.out L0.out)⟩
  go_wp2_with (go_at_call 59; refine (HR.out).mono ?_; rintro e w1 ⟨t, A1, c1, rfl, md, hc1, h1, b1⟩; have MD := Aside0.mk md; have HC1 := Aside0.mk hc1; have HK1 := Aside0.mk h1; have BL1 := Aside0.mk b1; clear md hc1 h1 b1)
  have BW : Aside0 (W.heap.size < w1.heap.size) := ⟨by have := below_size BL1.out; have := S0.out; omega⟩
  have BLW : Aside0 (Below W.heap.size W w1) := ⟨below_step L0.out BL1.out⟩
  have B01 : Aside0 (w1.heap[W.heap.size]? = some (.cells #[.int .i64 0, .string ⟨#[]⟩, .int .i64 0, .slice none 0 0] 42 (0, 0))) := ⟨blk_below B0.out BL1.out⟩
  have HB1 : Aside0 (W.heap.size ≤ w1.heap.size) := ⟨Nat.le_of_lt BW.out⟩
  have hat : Aside0 (TrR m W w1.heap.size 0 (w1.alloc (.cells #[.int .i64 t.f0, .string t.f1, .int .i64 t.f2, .slice A1 t.f3.length c1] 42))) := ⟨by
    obtain ⟨m1, m2, m3, m4⟩ := MD.out
    refine ⟨t, A1, c1, heap_alloc_new _ _, blk_alloc B01.out _, m2, by omega, fun _ => MD.out, HC1.out, ?_, below_alloc BLW.out _⟩
    refine (HK1.out.keep (below_alloc (Below.refl _ _) _)).mono fun k hk => ?_
    have := alloc_size1 w1 (.cells #[.int .i64 t.f0, .string t.f1, .int .i64 t.f2, .slice A1 t.f3.length c1] 42)
    have h2 := S0.out
    exact ⟨by omega, by omega, by omega⟩⟩
  clear HR MD HC1 HK1 BL1 B0 L0 S0 BLW B01
  generalize w1.alloc (.cells #[.int .i64 t.f0, .string t.f1, .int .i64 t.f2, .slice A1 t.f3.length c1] 42) = w2 at *
  generalize w1.heap.size = b at *
  go_loopw [6] (fun i wr => ∃ k : Nat, k ≤ 7 ∧ i = .int .i64 k ∧ Aside0 (TrR m W b k wr)) (fun i _ => 6 - (intOf i).toNat)
  case atStart => exact ⟨0, by omega, rfl, hat⟩
  case round =>
    obtain ⟨k, hk, rfl, HTR⟩ := hrel
    rename_i wr
    clear hat
    obtain ⟨t2, A2, c2, e1, e2, e3, e4, e5, e6, e7, e8⟩ := HTR.out
    have E1 := Aside0.mk e1
    have E2 := Aside0.mk e2
    have E3 := Aside0.mk e3
    have E4 := Aside0.mk e4
    have E5 := Aside0.mk e5
    have E6 := Aside0.mk e6
    have E7 := Aside0.mk e7
    have E8 := Aside0.mk e8
    clear e1 e2 e3 e4 e5 e6 e7 e8
    have HK6 := Aside0.mk hk
    have q2 : IntKind.i64.wrap ((k : Int) + 1) = (k : Int) + 1 := IntWalk.i64_in _ (by omega)
    by_cases hlt : k + 1 < m.length ∧ k < 6
    ·
      as_aux_lemma =>
        obtain ⟨ad, rfl, m0⟩ := Kd.at_int HM.out (k : Int) (by omega) (by omega)
        obtain ⟨ad', h', m1⟩ := Kd.at_int HM.out ((k : Int) + 1) (by omega) (by omega)
        obtain rfl := Option.some.inj h'
        clear h'
        rw [Int.toNat_natCast] at m0
        rw [show ((k : Int) + 1).toNat = k + 1 by omega, Addr.add_succ'] at m1
        generalize rd m (k : Int) = x0 at m0
        generalize rd m ((k : Int) + 1) = x1 at m1
        have SM : Aside0 (∀ W', Below W.heap.size W W' → W'.cell? (ad.add k) = some (.int .i64 x0) ∧ W'.cell? ⟨ad.block, ad.off + (k + 1), none⟩ = some (.int .i64 x1)) := ⟨fun W' h => ⟨pw_cell_below h m0, pw_cell_below h m1⟩⟩
        have HLT := Aside0.mk hlt
        have q0 := eq_true (show (0 : Int) ≤ (k : Int) by omega)
        have q1 := eq_true (show (k : Int) < (m.length : Int) by omega)
        have q3 := eq_true (show (0 : Int) ≤ (k : Int) + 1 by omega)
        have q4 := eq_true (show (k : Int) + 1 < (m.length : Int) by omega)
        have q5 := eq_true (show (k : Int) < 6 by omega)
        have q6 := eq_true (show k < 6 by omega)
        have q7 := eq_true (show k + 1 < m.length by omega)
        have q8 := eq_true (show k < m.length by omega)
        have q9 : IntKind.i64.wrap ((k : Int) + 2) = (k : Int) + 2 := IntWalk.i64_in _ (by omega)
        have q10 : ((k : Int) + 1).toNat = k + 1 := by omega
        clear m0 m1 hlt hk
        obtain ⟨c0, c1, c2', c3⟩ := cells4h E1.out
        have f0 := blk_frozen E1.out 0
        have f1 := blk_frozen E1.out 1
        have f2 := blk_frozen E1.out 2
        have f3 := blk_frozen E1.out 3
        have HSP : Aside0 (∀ p q : Int, Calls Tryd.prog 48 #[.agg #[.int .i64 t2.f0, .string t2.f1, .int .i64 t2.f2, .slice A2 t2.f3.length c2], .int .i64 p, .int .i64 q] wr.drew (SpPost t2 (fun j => j ≠ W.heap.size ∧ j ≠ b ∧ j < wr.heap.size) wr.drew)) := ⟨fun p q =>
          spoil_any _ _ t2 (Nat.le_refl _) p q A2 c2 wr.drew E3.out (by have := E4.out; have := HLT.out; omega) (E7.out.step fun _ _ _ => rfl) (fun k hk => hk.2.2) E6.out (HW.out.below (below_drew E8.out))⟩
        go_upto_region 5 with fail
        obtain ⟨k0, k1⟩ := SM.out wr E8.out
        go_still_tail 10, (by kernel_rfl)
        change wpList _ _ _ _ _ wr.drew
        clear c0 c1 c2' c3 f0 f1 f2 f3 k0 k1
        go_wp2_with (go_at_call 48; (with_reducible refine (HSP.out _ _).mono ?_); rintro e w3 ⟨t3, A3, k3, rfl, n3, s3, l3, ft3, b3⟩; have BX3 := Aside0.mk (blk_below (blk_drew E1.out) b3); have BB3 := Aside0.mk (below_step (below_drew E8.out) b3); obtain ⟨z0, z1, z2, z3⟩ := cells4h BX3.out; have y0 := blk_frozen BX3.out 0; have y1 := blk_frozen BX3.out 1; have y2 := blk_frozen BX3.out 2; have y3 := blk_frozen BX3.out 3; have N3 := Aside0.mk n3; have S3 := Aside0.mk s3; have L3 := Aside0.mk l3; have F3 := Aside0.mk ft3; have B3 := Aside0.mk b3; clear n3 s3 l3 ft3 b3)
        have TR4 : Aside0 (TrR m W b (k + 2) ((((w3.setCell ⟨b, 0, none⟩ (.int .i64 t3.f0)).setCell ⟨b, 1, none⟩ (.string t3.f1)).setCell ⟨b, 2, none⟩ (.int .i64 t3.f2)).setCell ⟨b, 3, none⟩ (.slice A3 t3.f3.length k3))) := ⟨by
          have hs : wr.drew.heap.size = wr.heap.size := rfl
          have hb := blk_lt E1.out
          refine ⟨t3, A3, k3, box_set4 BX3.out _ _ _ _, set4_blk (blk_below (blk_drew E2.out) B3.out) (Nat.ne_of_lt BW.out) _ _ _ _, N3.out, by have := S3.out; have := E4.out; omega, fun h => ?_, L3.out, ?_, below_set4 BB3.out HB1.out _ _ _ _⟩
          · have := HLT.out.1; rw [h] at this; simp at this
          · refine ((F3.out.lt).step fun j hj _ => put4_keep (fun e => ?_) _ _ _ _).mono fun j hj => ⟨?_, ?_⟩
            · rcases hj with ⟨⟨_, hj, _⟩ | hj, _⟩
              · exact hj e
              · omega
            · rcases hj with ⟨⟨hj, _, _⟩ | hj, _⟩
              · exact hj
              · have := BW.out; omega
            · refine ⟨?_, ?_⟩
              · rcases hj with ⟨⟨_, hj, _⟩ | hj, _⟩
                · exact hj
                · omega
              · have := hj.2
                simpa [World.setCell] using this⟩
        go_roundw
        case rel => exact ⟨k + 2, by have := HLT.out; omega, by go_num, TR4⟩
        case measure => have := HLT.out; simp [intOf]; omega
    ·
      as_aux_lemma =>
        have q3 : decide ((k : Int) + 1 < (m.length : Int)) = decide (k + 1 < m.length) := by rw [decide_eq_decide]; omega
        rcases Nat.lt_or_ge (k + 1) m.length with h1 | h1
        · have q5 := eq_false (show ¬ ((k : Int) < 6) by omega)
          have q6 := eq_false (show ¬ (k < 6) by omega)
          have q7 := eq_true h1
          have q4 := eq_true (show (k : Int) + 1 < (m.length : Int) by omega)
          clear h1 hlt hk q3
          obtain ⟨c0, c1, c2', c3⟩ := cells4h E1.out
          obtain ⟨z0, z1, z2, z3⟩ := cells4h E2.out
          have y0 := blk_frozen E2.out 0
          have y1 := blk_frozen E2.out 1
          have y2 := blk_frozen E2.out 2
          have y3 := blk_frozen E2.out 3
          go_wp2_with fail
          refine bodyPost_ret (results_cell_row rfl _ _ W.heap.size 42 #[.int .i64 t2.f0, .string t2.f1, .int .i64 t2.f2, .slice A2 t2.f3.length c2] (0, 0) _ rfl ?hp Tryd.underlying42 rfl (by kernel_rfl)) rfl ?_
          case hp => with_reducible exact box_set4 E2.out _ _ _ _
          exact tree_end ⟨E1.out, E2.out, E3.out, E4.out, E5.out, E6.out, E7.out, E8.out⟩ HK6.out
        · have q7 := eq_false (show ¬ (k + 1 < m.length) by omega)
          have q4 := eq_false (show ¬ ((k : Int) + 1 < (m.length : Int)) by omega)
          clear h1 hlt hk q3
          obtain ⟨c0, c1, c2', c3⟩ := cells4h E1.out
          obtain ⟨z0, z1, z2, z3⟩ := cells4h E2.out
          have y0 := blk_frozen E2.out 0
          have y1 := blk_frozen E2.out 1
          have y2 := blk_frozen E2.out 2
          have y3 := blk_frozen E2.out 3
          go_wp2_with fail
          refine bodyPost_ret (results_cell_row rfl _ _ W.heap.size 42 #[.int .i64 t2.f0, .string t2.f1, .int .i64 t2.f2, .slice A2 t2.f3.length c2] (0, 0) _ rfl ?hp Tryd.underlying42 rfl (by kernel_rfl)) rfl ?_
          case hp => with_reducible exact box_set4 E2.out _ _ _ _
          exact tree_end ⟨E1.out, E2.out, E3.out, E4.out, E5.out, E6.out, E7.out, E8.out⟩ HK6.out
end
end Go.Proofs.YtajefkjcfmfjkaaDoor
namespace Go.Proofs.YtajefkjcfmfjkaaDoor
section
set_option linter.unusedVariables false
set_option linter.unusedSimpArgs false
set_option linter.deprecated false
open Go.RowKit Go.Proofs.YtajefkjcfmfjkaaDoorW.PrintWords Go.Proofs.YtajefkjcfmfjkaaDoor.PTokenPieces
theorem info9 : (Tryd.prog.info? 9).map (fun i => (i.zero, i.size, i.bytes)) = some (some (.string ⟨#[]⟩), 1, 16) := by kernel_rfl
end
end Go.Proofs.YtajefkjcfmfjkaaDoor
namespace Go.Proofs.YtajefkjcfmfjkaaDoor
section
set_option linter.unusedVariables false
set_option linter.unusedSimpArgs false
set_option linter.deprecated false
open Go.RowKit Go.Proofs.YtajefkjcfmfjkaaDoorW.PrintWords Go.Proofs.YtajefkjcfmfjkaaDoor.POperatorResolves
set_option linter.unusedVariables false
attribute [local go_sem ↓] Go.wp_at_zero Go.wp_at_succ
theorem made_wf {t : S42} (h : Made 4 t) : wfS t = 0 := by
  obtain ⟨h1, _, h3, h4⟩ := h
  unfold wfS
  rw [h1, if_pos rfl, if_neg (by omega), if_neg (by omega)]
end
end Go.Proofs.YtajefkjcfmfjkaaDoor
namespace Go.Proofs.YtajefkjcfmfjkaaDoor
section
set_option linter.unusedVariables false
set_option linter.unusedSimpArgs false
set_option linter.deprecated false
open Go.RowKit Go.Proofs.YtajefkjcfmfjkaaDoorW.PrintWords Go.Proofs.YtajefkjcfmfjkaaDoor.POperatorResolves
set_option linter.unusedVariables false
attribute [local go_sem ↓] Go.wp_at_zero Go.wp_at_succ
theorem freeT_len (t : S42) : (freeT t).length ≤ szT t := by
  unfold freeT
  split
  · have := frT_len _ t (Nat.le_refl _) [] []
    simpa using this
  · simp
end
end Go.Proofs.YtajefkjcfmfjkaaDoor
namespace Go.Proofs.YtajefkjcfmfjkaaDoor
section
set_option linter.unusedVariables false
set_option linter.unusedSimpArgs false
set_option linter.deprecated false
open Go.RowKit Go.Proofs.YtajefkjcfmfjkaaDoorW.PrintWords Go.Proofs.YtajefkjcfmfjkaaDoor.POperatorResolves
set_option linter.unusedVariables false
mutual
/-- a RawExplicit of that name lies in the tree -/
def exT (m : ByteArray) : S42 → Bool
  | ⟨k, n, _, l⟩ => (k == 2 && eqB n m) || exL m l
def exL (m : ByteArray) : List S42 → Bool
  | [] => false
  | x :: xs => exT m x || exL m xs
end
theorem exT_eq (m : ByteArray) (t : S42) : exT m t = ((t.f0 == 2 && eqB t.f1 m) || exL m t.f3) := by cases t; rw [exT]
theorem exL_any (m : ByteArray) (l : List S42) : exL m l = l.any (exT m) := by
  induction l with
  | nil => rfl
  | cons y ys ih => rw [exL, ih]; rfl
def less (m : ByteArray) (l : List ByteArray) : List ByteArray := l.filter fun x => !eqB x m
theorem less_app (m : ByteArray) (a b : List ByteArray) : less m (a ++ b) = less m a ++ less m b := List.filter_append ..
theorem inQ_less (m n : ByteArray) (h : eqB m n = false) (l : List ByteArray) : inQ (less m l) n = inQ l n := by
  induction l with
  | nil => rfl
  | cons x xs ih =>
    unfold less inQ at ih ⊢
    rw [List.filter_cons]
    cases hx : eqB x m with
    | true =>
      obtain rfl := (eqB_iff _ _).1 hx
      rw [if_neg (by simp), ih, List.any_cons, h, Bool.false_or]
    | false =>
      rw [if_pos (by simp), List.any_cons, List.any_cons, ih]
theorem addN_less (m n : ByteArray) (h : eqB m n = false) (out : List ByteArray) : addN (less m out) n = less m (addN out n) := by
  unfold addN
  rw [inQ_less m n h]
  cases hq : inQ out n with
  | true => rfl
  | false =>
    have hn : eqB n m = false := by
      cases he : eqB n m with
      | false => rfl
      | true => obtain rfl := (eqB_iff _ _).1 he; rw [eqB_self] at h; cases h
    rw [if_neg (by simp), if_neg (by simp), less_app]
    simp [less, hn]
theorem less_self (m : ByteArray) (out : List ByteArray) : less m (addN out m) = less m out := by
  unfold addN
  split
  · rfl
  · rw [less_app]; simp [less, eqB_self]
def BdR (m : ByteArray) (bd bd' : List ByteArray) : Prop := ∀ n, inQ bd' n = (inQ bd n || eqB m n)
def LsF (m : ByteArray) (f : NmF) : Prop := ∀ bd bd' out, BdR m bd bd' → f bd' (less m out) = less m (f bd out)
theorem BdR.more {m : ByteArray} {bd bd' : List ByteArray} (h : BdR m bd bd') (n : ByteArray) : BdR m (bd ++ [n]) (bd' ++ [n]) := by
  intro x
  rw [inQ_app, inQ_app, h x]
  cases inQ bd x <;> cases eqB m x <;> cases eqB n x <;> rfl
theorem lsF_getD (m : ByteArray) (fs : List NmF) (h : ∀ f ∈ fs, LsF m f) (j : Nat) : LsF m (fs.getD j fun _ o => o) := by
  rw [List.getD_eq_getElem?_getD]
  cases hj : fs[j]? with
  | none => intro bd bd' out _; rfl
  | some f => exact h f (List.mem_of_getElem? hj)
theorem nodeF_less (m : ByteArray) (k : Int) (n : ByteArray) (fs : List NmF) (h : ∀ f ∈ fs, LsF m f) (hn : (k == 2 && eqB n m) = false) : LsF m (nodeF k n fs) := by
  intro bd bd' out hr
  unfold nodeF
  by_cases h1 : k = 1
  · rw [if_pos h1, if_pos h1, hr n]
    cases hb : inQ bd n with
    | true => rfl
    | false =>
      cases hm : eqB m n with
      | true =>
        obtain rfl := (eqB_iff _ _).1 hm
        rw [if_pos (by simp), if_neg (by simp), less_self]
      | false => rw [if_neg (by simp), if_neg (by simp), addN_less m n hm]
  rw [if_neg h1, if_neg h1]
  by_cases h2 : k = 2
  · rw [if_pos h2, if_pos h2]
    have hm : eqB m n = false := by
      cases he : eqB m n with
      | false => rfl
      | true => obtain rfl := (eqB_iff _ _).1 he; rw [h2, eqB_self] at hn; cases hn
    exact addN_less m n hm out
  rw [if_neg h2, if_neg h2]
  by_cases h7 : k = 7 ∨ k = 8
  · rw [if_pos h7, if_pos h7]
    unfold bindF
    by_cases hl : fs.length = 2
    · rw [if_pos hl, if_pos hl, lsF_getD m fs h 0 bd bd' out hr]
      exact lsF_getD m fs h _ _ _ _ (hr.more n)
    · rw [if_neg hl, if_neg hl]
      exact lsF_getD m fs h _ _ _ _ (hr.more n)
  rw [if_neg h7, if_neg h7]
  clear hn
  induction fs generalizing out with
  | nil => rfl
  | cons f fs ih =>
    rw [List.foldl_cons, List.foldl_cons, h f (by simp) bd bd' out hr]
    exact ih (fun g hg => h g (List.mem_cons_of_mem _ hg)) _
theorem fr_less (m : ByteArray) (i : Nat) : ∀ t : S42, szT t ≤ i → exT m t = false → LsF m (frT t) := by
  induction i with
  | zero => intro t h; have := szT_pos t; omega
  | succ i ih =>
    intro t h he
    rw [szT_eq] at h
    rw [exT_eq, Bool.or_eq_false_iff] at he
    rw [frT_eq]
    refine nodeF_less m _ _ _ ?_ he.1
    intro f hf
    rw [frL_map] at hf
    obtain ⟨x, hx, rfl⟩ := List.mem_map.1 hf
    have := szL_mem hx
    refine ih x (by omega) ?_
    have h3 := he.2
    rw [exL_any, List.any_eq_false] at h3
    simpa using h3 x hx
/-- the law: a binder takes away just its own name -/
theorem binds_law (m : ByteArray) (k o : Int) (r : S42) (hk : k = 7 ∨ k = 8) (h1 : wfS r = 0) (h2 : wfS ⟨k, m, o, [r]⟩ = 0) (he : exT m r = false) : freeT ⟨k, m, o, [r]⟩ = less m (freeT r) := by
  unfold freeT
  rw [if_pos h1, if_pos h2, frT_eq]
  have := fr_less m _ r (Nat.le_refl _) he [] [m] [] (fun n => by simp [inQ])
  rw [← this]
  unfold nodeF
  rw [if_neg (by simp only; omega), if_neg (by simp only; omega), if_pos hk]
  rfl
end
end Go.Proofs.YtajefkjcfmfjkaaDoor
namespace Go.Proofs.YtajefkjcfmfjkaaDoor
section
set_option linter.unusedVariables false
set_option linter.unusedSimpArgs false
set_option linter.deprecated false
open Go.RowKit Go.Proofs.YtajefkjcfmfjkaaDoorW.PrintWords Go.Proofs.YtajefkjcfmfjkaaDoor.POperatorResolves
set_option linter.unusedVariables false
attribute [local go_sem ↓] Go.wp_at_zero Go.wp_at_succ
structure ExSt (w0 : World) (be bn bw : Nat) (nm : ByteArray) (v : Bool) (W : World) : Prop where
  below : Below w0.heap.size w0 W
  he : W.heap[be]? = some (.cells #[.bool v] 4 (0, 0))
  hn : W.heap[bn]? = some (.cells #[.string nm] 9 (0, 0))
  hw : W.heap[bw]? = some (.cells #[.func (.func 43) #[] #[.pointer (some ⟨be, 0, none⟩), .pointer (some ⟨bn, 0, none⟩), .pointer (some ⟨bw, 0, none⟩)]] 53 (0, 0))
  lo : w0.heap.size ≤ be
section
variable {w0 W W' : World} {be bn bw : Nat} {nm : ByteArray} {v : Bool}
theorem ExSt.alloc (h : ExSt w0 be bn bw nm v W) (o : Obj) : ExSt w0 be bn bw nm v (W.alloc o) := ⟨below_alloc h.below _, blk_alloc h.he _, blk_alloc h.hn _, blk_alloc h.hw _, h.lo⟩
theorem ExSt.set (h : ExSt w0 be bn bw nm v W) (v' : Bool) : ExSt w0 be bn bw nm v' (W.setCell ⟨be, 0, none⟩ (.bool v')) :=
  ⟨h.below.setCell (p := ⟨be, 0, none⟩) h.lo _, blk_put h.he 0 _ rfl, blk_far h.hn (p := ⟨be, 0, none⟩) (fun e => by have := h.hn; rw [show bn = be from e, h.he] at this; simp at this) _, blk_far h.hw (p := ⟨be, 0, none⟩) (fun e => by have := h.hw; rw [show bw = be from e, h.he] at this; simp at this) _, h.lo⟩
end
def ExPost (w0 : World) (be bn bw : Nat) (nm : ByteArray) (v : Bool) (W : World) (e : Ending) (w' : World) : Prop :=
  e = .returned (.tuple #[]) ∧ ExSt w0 be bn bw nm v w' ∧ KeepBut W w' be none
def ExC (w0 : World) (be bn bw : Nat) (nm : ByteArray) (x : S42) : Prop :=
  ∀ (v : Bool) (A : Option Addr) (c : Nat) (W : World), ExSt w0 be bn bw nm v W → Kd.C k42 w0 A x.f3.length x.f3 → x.f3.length ≤ c →
    Calls Tryd.prog 43 #[.agg #[.int .i64 x.f0, .string x.f1, .int .i64 x.f2, .slice A x.f3.length c], .pointer (some ⟨be, 0, none⟩), .pointer (some ⟨bn, 0, none⟩), .pointer (some ⟨bw, 0, none⟩)] W (ExPost w0 be bn bw nm (v || exT nm x) W)
def exJ (nm : ByteArray) (v : Bool) (l : List S42) (j : Nat) : Bool := v || (l.take j).any (exT nm)
theorem exJ_zero (nm : ByteArray) (v : Bool) (l : List S42) : exJ nm v l 0 = v := by simp [exJ]
theorem exJ_succ (nm : ByteArray) (v : Bool) (l : List S42) (j : Nat) (h : j < l.length) : exJ nm v l (j + 1) = (exJ nm v l j || exT nm (rd_T42 l (j : Int))) := by
  unfold exJ
  rw [List.take_succ_eq_append_getElem h, List.any_append, rdT_get h]
  simp [Bool.or_assoc]
theorem exJ_all (nm : ByteArray) (v : Bool) (l : List S42) : exJ nm v l l.length = (v || exL nm l) := by
  unfold exJ
  rw [List.take_length, exL_any]
def BdMid (w0 : World) (be bn bw : Nat) (nm : ByteArray) (v : Bool) (W : World) (o : Obj) (wx : World) : Prop :=
  ExSt w0 be bn bw nm v wx ∧ KeepBut W wx be none ∧ wx.heap[W.heap.size]? = some o
set_option maxHeartbeats 4000000 in
set_option maxRecDepth 100000 in
theorem ex_one (w0 : World) (be bn bw : Nat) (nm : ByteArray) (v : Bool) (k : Int) (n : ByteArray) (o : Int) (l : List S42) (A : Option Addr) (c : Nat) (W : World)
    (hs : ExSt w0 be bn bw nm v W) (hr : Kd.C k42 w0 A l.length l) (hll : l.length ≤ 1000000) (hx : ∀ j, j < l.length → ExC w0 be bn bw nm (rd_T42 l (j : Int))) :
    Calls Tryd.prog 43 #[.agg #[.int .i64 k, .string n, .int .i64 o, .slice A l.length c], .pointer (some ⟨be, 0, none⟩), .pointer (some ⟨bn, 0, none⟩), .pointer (some ⟨bw, 0, none⟩)] W (ExPost w0 be bn bw nm ((v || (k == 2 && eqB n nm)) || exL nm l) W) := by
  have ST0 := Aside0.mk (hs.alloc (.cells #[.int .i64 k, .string n, .int .i64 o, .slice A l.length c] 42))
  have B0 : Aside0 ((W.alloc (.cells #[.int .i64 k, .string n, .int .i64 o, .slice A l.length c] 42)).heap[W.heap.size]? = some (.cells #[.int .i64 k, .string n, .int .i64 o, .slice A l.length c] 42 (0, 0))) := ⟨heap_alloc_new _ _⟩
  have K0 : Aside0 (KeepBut W (W.alloc (.cells #[.int .i64 k, .string n, .int .i64 o, .slice A l.length c] 42)) be none) := ⟨KeepBut.of_below (below_alloc (Below.refl _ W) _) be none⟩
  have HLT0 : Aside0 (be < W.heap.size) := ⟨blk_lt hs.he⟩
  have hu42 := Tryd.underlying42
  have HX := Aside0.mk hx
  have HR := Aside0.mk hr
  have HLL := Aside0.mk hll
  clear hs hr hx
  go_enter Tryd.func43, Tryd.ntmps43
  go_upto_region 1 with fail
  generalize W.alloc (.cells #[.int .i64 k, .string n, .int .i64 o, .slice A l.length c] 42) = w1 at *
  go_cut [] (fun wx => BdMid w0 be bn bw nm (v || (k == 2 && eqB n nm)) W (.cells #[.int .i64 k, .string n, .int .i64 o, .slice A l.length c] 42 (0, 0)) wx)
  case first =>
    have FIN : Aside0 (∀ v', BdMid w0 be bn bw nm v' W (.cells #[.int .i64 k, .string n, .int .i64 o, .slice A l.length c] 42 (0, 0)) (w1.setCell ⟨be, 0, none⟩ (.bool v'))) := ⟨fun v' => ⟨ST0.out.set v', K0.out.set_ 0 _, blk_far B0.out (p := ⟨be, 0, none⟩) (Nat.ne_of_gt HLT0.out) _⟩⟩
    have e0 : w1.cell? ⟨be, 0, none⟩ = some (.bool v) := (blk_cell ST0.out.he 0).trans rfl
    have e1 := blk_frozen ST0.out.he 0
    have e2 : w1.cell? ⟨bn, 0, none⟩ = some (.string nm) := (blk_cell ST0.out.hn 0).trans rfl
    obtain ⟨c0, c1, c2, c3⟩ := cells4h B0.out
    cases v with
    | true =>
      go_wp2_with fail
      go_meet
      case rel => exact FIN.out true
    | false =>
      by_cases hk : k = 2
      · subst hk
        by_cases hn : n = nm
        · subst hn
          have HV : Aside0 ((false || ((2 : Int) == 2 && eqB n n)) = true) := ⟨by rw [eqB_self]; rfl⟩
          go_wp2_with fail
          go_meet
          case rel => rw [HV.out]; exact FIN.out true
        · have HV : Aside0 ((false || ((2 : Int) == 2 && eqB n nm)) = false) := ⟨by rw [eqB_ne hn]; rfl⟩
          have q0 : (n.toList == nm.toList) = false := by rw [beq_eq_false_iff_ne]; exact fun h => hn ((str_eq_iff n nm).1 h)
          have q2 : decide (n = nm) = false := by simp [hn]
          have q1 : (n = nm) = False := eq_false hn
          clear hn
          go_wp2_with fail
          go_meet
          case rel => rw [HV.out]; exact FIN.out false
      · have HV : Aside0 ((false || (k == 2 && eqB n nm)) = false) := ⟨by rw [beq_eq_false_iff_ne.2 hk]; rfl⟩
        have q0 : (k == 2) = false := by rw [beq_eq_false_iff_ne]; exact hk
        have q1 : (k = 2) = False := eq_false hk
        clear hk
        go_wp2_with fail
        go_meet
        case rel => rw [HV.out]; exact FIN.out false
  case rest =>
    have HC := Aside0.mk hcut
    clear hcut
    generalize (v || (k == 2 && eqB n nm)) = v1 at *
    have HZ := Aside0.mk (exJ_zero nm v1 l)
    go_wp2_with fail
    go_loopw [5] (fun u w' => ∃ j : Nat, j ≤ l.length ∧ u = .int .i64 j ∧ Aside0 (BdMid w0 be bn bw nm (exJ nm v1 l j) W (.cells #[.int .i64 k, .string n, .int .i64 o, .slice A l.length c] 42 (0, 0)) w')) (fun u _ => l.length - (intOf u).toNat)
    case atStart => exact ⟨0, by omega, rfl, ⟨by rw [HZ.out]; exact HC.out⟩⟩
    case round =>
      obtain ⟨j, hj, rfl, HM⟩ := hrel
      clear HC
      have R1 := Aside0.mk HM.out.1
      have R2 := Aside0.mk HM.out.2.1
      have R3 := Aside0.mk HM.out.2.2
      obtain ⟨c0, c1, c2, c3⟩ := cells4h R3.out
      by_cases hlt : j < l.length
      · have hS := exJ_succ nm v1 l j hlt
        obtain ⟨ad, A3, c3', hA, h0, h1, h2, h3, hc3, hC3⟩ := atn42 HR.out j hlt
        subst hA
        have HMx := Aside0.mk (HX.out j hlt (exJ nm v1 l j) A3 c3')
        generalize rd_T42 l (j : Int) = x at *
        have g0 := h0
        have g1 := h1
        have g2 := h2
        have g3 := h3
        replace h0 := pw_cell_below R1.out.below h0
        replace h1 := pw_cell_below R1.out.below h1
        replace h2 := pw_cell_below R1.out.below h2
        replace h3 := pw_cell_below R1.out.below h3
        have mbw := (blk_cell R1.out.hw 0).trans (show (#[Value.func (.func 43) #[] #[.pointer (some ⟨be, 0, none⟩), .pointer (some ⟨bn, 0, none⟩), .pointer (some ⟨bw, 0, none⟩)]] : Array Value)[0]? = some (.func (.func 43) #[] #[.pointer (some ⟨be, 0, none⟩), .pointer (some ⟨bn, 0, none⟩), .pointer (some ⟨bw, 0, none⟩)]) from rfl)
        have q0 := eq_true (show (0 : Int) ≤ (j : Int) by omega)
        have q1 := eq_true (show (j : Int) < (l.length : Int) by omega)
        have q2 : IntKind.i64.wrap ((j : Int) + 1) = (j : Int) + 1 := IntWalk.i64_in _ (by omega)
        have HSU := Aside0.mk hS
        have HC3 := Aside0.mk hC3
        have Hc3 := Aside0.mk hc3
        have HLT := Aside0.mk hlt
        clear hS hC3 hc3 hj hll
        rename_i wr _
        have SZ : Aside0 (∀ W', Below w0.heap.size w0 W' → ∀ v', ExSt w0 be bn bw nm v' W' → W'.heap[W.heap.size]? = some (.cells #[.int .i64 k, .string n, .int .i64 o, .slice (some ad) l.length c] 42 (0, 0)) → W'.cell? ⟨bw, 0, none⟩ = some (.func (.func 43) #[] #[.pointer (some ⟨be, 0, none⟩), .pointer (some ⟨bn, 0, none⟩), .pointer (some ⟨bw, 0, none⟩)]) ∧ W'.cell? ⟨W.heap.size, 3, none⟩ = some (.slice (some ad) l.length c) ∧ W'.cell? (ad.add (j * 4)) = some (.int .i64 x.f0) ∧ W'.cell? ⟨(ad.add (j * 4)).block, (ad.add (j * 4)).off + 1, none⟩ = some (.string x.f1) ∧ W'.cell? ⟨(ad.add (j * 4)).block, (ad.add (j * 4)).off + 2, none⟩ = some (.int .i64 x.f2) ∧ W'.cell? ⟨(ad.add (j * 4)).block, (ad.add (j * 4)).off + 3, none⟩ = some (.slice A3 x.f3.length c3')) := ⟨fun W' hb v' he h4 => ⟨(blk_cell he.hw 0).trans rfl, (cells4h h4).2.2.2, pw_cell_below hb g0, pw_cell_below hb g1, pw_cell_below hb g2, pw_cell_below hb g3⟩⟩
        have RD : Aside0 (ExSt w0 be bn bw nm (exJ nm v1 l j) wr.drew) := ⟨⟨below_drew R1.out.below, R1.out.he, R1.out.hn, R1.out.hw, R1.out.lo⟩⟩
        have SA := Aside0.mk (SZ.out wr.drew RD.out.below _ RD.out R3.out)
        go_upto_region 5 with fail
        clear c0 c1 c2 c3 h0 h1 h2 h3 mbw g0 g1 g2 g3
        go_region_held3 (fun W' => W'.cell? ⟨bw, 0, none⟩ = some (.func (.func 43) #[] #[.pointer (some ⟨be, 0, none⟩), .pointer (some ⟨bn, 0, none⟩), .pointer (some ⟨bw, 0, none⟩)]) ∧ W'.cell? ⟨W.heap.size, 3, none⟩ = some (.slice (some ad) l.length c) ∧ W'.cell? (ad.add (j * 4)) = some (.int .i64 x.f0) ∧ W'.cell? ⟨(ad.add (j * 4)).block, (ad.add (j * 4)).off + 1, none⟩ = some (.string x.f1) ∧ W'.cell? ⟨(ad.add (j * 4)).block, (ad.add (j * 4)).off + 2, none⟩ = some (.int .i64 x.f2) ∧ W'.cell? ⟨(ad.add (j * 4)).block, (ad.add (j * 4)).off + 3, none⟩ = some (.slice A3 x.f3.length c3')) (with_reducible first | exact SA.out | exact SB.out | fail) ((go_at_call 43; (with_reducible refine (HMx.out _ RD.out HC3.out Hc3.out).mono ?_); rintro e w1 ⟨rfl, g1, g2⟩; have B4 := g2.blk (show wr.drew.heap[W.heap.size]? = _ from R3.out) (Nat.ne_of_gt HLT0.out) (by simp); have SB := Aside0.mk (SZ.out w1 g1.below _ g1 B4); have MID : Aside0 (BdMid w0 be bn bw nm (exJ nm v1 l (j + 1)) W (.cells #[.int .i64 k, .string n, .int .i64 o, .slice (some ad) l.length c] 42 (0, 0)) w1) := ⟨⟨HSU.out ▸ g1, R2.out.trans g2 (.inl rfl), B4⟩⟩; clear g1 g2 B4))
        go_wp2_with fail
        go_roundw
        case rel => exact ⟨j + 1, HLT.out, by go_num, MID⟩
        case measure => have := HLT.out; simp [intOf]; omega
      · have q1 := eq_false (show ¬ ((j : Int) < (l.length : Int)) by omega)
        have HJ : Aside0 (exJ nm v1 l j = (v1 || exL nm l)) := ⟨by rw [show j = l.length by omega]; exact exJ_all nm v1 l⟩
        clear hlt
        go_wp2_with fail
        go_end0
        exact ⟨rfl, HJ.out ▸ R1.out, R2.out⟩
theorem ex_any (w0 : World) (be bn bw : Nat) (nm : ByteArray) (i : Nat) : ∀ t : S42, szT t ≤ i → szT t ≤ 1000000 → ExC w0 be bn bw nm t := by
  induction i with
  | zero => intro t h; have := szT_pos t; omega
  | succ i ih =>
    intro t h hsz v A c W hs hr hc
    rw [szT_eq] at h hsz
    have hl := szL_len t.f3
    rw [exT_eq, ← Bool.or_assoc]
    refine ex_one w0 be bn bw nm v t.f0 t.f1 t.f2 t.f3 A c W hs hr (by omega) (fun j hj => ?_)
    have := szL_mem (rdT_mem hj)
    exact ih _ (by omega) (by omega)
end
end Go.Proofs.YtajefkjcfmfjkaaDoor
namespace Go.Proofs.YtajefkjcfmfjkaaDoor
section
set_option linter.unusedVariables false
set_option linter.unusedSimpArgs false
set_option linter.deprecated false
open Go.RowKit Go.Proofs.YtajefkjcfmfjkaaDoorW.PrintWords Go.Proofs.YtajefkjcfmfjkaaDoor.POperatorResolves
set_option linter.unusedVariables false
attribute [local go_sem ↓] Go.wp_at_zero Go.wp_at_succ
def nmL5 : List ByteArray := [⟨#[97]⟩, ⟨#[78]⟩, ⟨#[110, 97, 116]⟩, ⟨#[95]⟩, ⟨#[113]⟩]
theorem nmL5_ok : ∀ n ∈ nmL5, (nameS n || eqB n ⟨#[95]⟩) = true ∧ n.size ≤ 64 := by decide +kernel
theorem nm5_at {w : World} {b : Nat} (h : w.heap[b]? = some (.cells #[.string ⟨#[97]⟩, .string ⟨#[78]⟩, .string ⟨#[110, 97, 116]⟩, .string ⟨#[95]⟩, .string ⟨#[113]⟩] 9 (0, 0))) (r : Nat) (hr : r < 5) :
    ∃ nm, ((nameS nm || eqB nm ⟨#[95]⟩) = true ∧ nm.size ≤ 64) ∧ w.cell? ⟨b, r, none⟩ = some (.string nm) := by
  rw [blk_cell h r]
  have : r = 0 ∨ r = 1 ∨ r = 2 ∨ r = 3 ∨ r = 4 := by omega
  rcases this with rfl | rfl | rfl | rfl | rfl
  · exact ⟨_, nmL5_ok ⟨#[97]⟩ (by simp [nmL5]), rfl⟩
  · exact ⟨_, nmL5_ok ⟨#[78]⟩ (by simp [nmL5]), rfl⟩
  · exact ⟨_, nmL5_ok ⟨#[110, 97, 116]⟩ (by simp [nmL5]), rfl⟩
  · exact ⟨_, nmL5_ok ⟨#[95]⟩ (by simp [nmL5]), rfl⟩
  · exact ⟨_, nmL5_ok ⟨#[113]⟩ (by simp [nmL5]), rfl⟩
theorem lam_wf {t : S42} (h : Made 4 t) {nm : ByteArray} (hn : (nameS nm || eqB nm ⟨#[95]⟩) = true) (o : Int) : wfS ⟨8, nm, o, [t]⟩ = 0 := by
  obtain ⟨h1, _, h3, h4⟩ := h
  unfold wfS
  have hf : fmT ⟨8, nm, o, [t]⟩ = true := by rw [fmT_eq]; unfold nodeS; rw [if_neg (by simp only; omega), if_neg (by simp only; omega), if_neg (by simp only; omega), if_pos (.inr rfl), hn]; simp [fmL, h1]
  have hs : szT ⟨8, nm, o, [t]⟩ = 1 + szT t := by rw [szT_eq]; simp [szL]
  have hd : dpT ⟨8, nm, o, [t]⟩ = dpT t + 1 := by rw [dpT_eq]; simp [dpL]
  rw [hf, if_pos rfl, if_neg (by omega), if_neg (by omega)]
theorem less_succ (nm : ByteArray) (l : List ByteArray) (j : Nat) (h : j < l.length) : less nm (l.take (j + 1)) = less nm (l.take j) ++ (if eqB l[j] nm then [] else [l[j]]) := by
  rw [List.take_succ_eq_append_getElem h, less_app]
  congr 1
  unfold less
  cases h2 : eqB l[j] nm with
  | true => simp [h2]
  | false => simp [h2]
theorem less_len (nm : ByteArray) (l : List ByteArray) : (less nm l).length ≤ l.length := List.length_filter_le ..
def WtR (nm : ByteArray) (fr : List ByteArray) (w8 : World) (v : Value) (i : Value) (wr : World) : Prop :=
  ∃ j : Nat, j ≤ fr.length ∧ i = .int .i64 j ∧ wr.ownsRow w8.heap.size 9 1 v (less nm (fr.take j)).length (encs Value.string (less nm (fr.take j))) ∧ Below w8.heap.size w8 wr
set_option maxHeartbeats 4000000 in
set_option maxRecDepth 100000 in
theorem rawBinds_walk (W : World) (A : Option Addr) (c : Nat) (l : List Int) (ha : Kd.C (Kd.int .i64) W A l.length l) (q : Int) (hq : (Lit.int .i64 q).wf = true) (hw : WdAt W) :
    Calls Tryd.prog 13 #[.slice A l.length c, .int .i64 q] W fun e w' => e = .returned (.bool true) ∧ Below W.heap.size W w' := by
  have hu42 := Tryd.underlying42
  have TA1 : Aside0 (Calls Tryd.prog 28 #[.slice A l.length c, .slice none 0 0] W (TreePost [] W)) := ⟨tree_any W hw A c l ha none 0 [] (Kd.C_nil _ _)⟩
  have CI : Aside0 (∀ (x n : Int) (w : World), 0 < n → n ≤ 1000000 → Calls Tryd.prog 27 #[.int .i64 x, .int .i64 n] w fun e w' => ∃ r : Nat, (r : Int) < n ∧ e = .returned (.int .i64 r) ∧ w = w') := ⟨fun x n w a b => cut_ex x n w a b⟩
  clear ha hw hq
  go_enter Tryd.func13, Tryd.ntmps13
  go_upto_region 2 with (go_at_call 28; (with_reducible refine TA1.out.mono ?_); rintro e w1 ⟨t1, A1, c1, rfl, n1, s1, md1, l1, r1, b1⟩; have N1 := Aside0.mk n1; have S1 := Aside0.mk s1; have L1 := Aside0.mk l1; have R1 := Aside0.mk r1; have B1 := Aside0.mk b1; have M1 := Aside0.mk (md1 rfl); clear n1 s1 l1 r1 b1 md1)
  have X5 : Aside0 ((w1.alloc (.cells #[.int .i64 t1.f0, .string t1.f1, .int .i64 t1.f2, .slice A1 t1.f3.length c1] 42)).heap[w1.heap.size]? = some (.cells #[.int .i64 t1.f0, .string t1.f1, .int .i64 t1.f2, .slice A1 t1.f3.length c1] 42 (0, 0))) := ⟨heap_alloc_new _ _⟩
  have D2 : Aside0 (Below w1.heap.size w1 (w1.alloc (.cells #[.int .i64 t1.f0, .string t1.f1, .int .i64 t1.f2, .slice A1 t1.f3.length c1] 42))) := ⟨below_alloc (Below.refl _ _) _⟩
  generalize w1.alloc (.cells #[.int .i64 t1.f0, .string t1.f1, .int .i64 t1.f2, .slice A1 t1.f3.length c1] 42) = w2 at *
  generalize hb5 : w1.heap.size = b5 at X5 ⊢
  clear TA1
  go_upto_region 3 with (go_at_call 27; (with_reducible refine (CI.out _ _ _ (by omega) (by omega)).mono ?_); rintro e w' ⟨r, hr, rfl, rfl⟩; obtain ⟨nm, hnm, hx⟩ := nm5_at (heap_alloc_new w2 (.cells #[.string ⟨#[97]⟩, .string ⟨#[78]⟩, .string ⟨#[110, 97, 116]⟩, .string ⟨#[95]⟩, .string ⟨#[113]⟩] 9)) r (by omega); have q0 := eq_true (show (0 : Int) ≤ (r : Int) by omega); have q1 := eq_true (show (r : Int) < 5 by omega); have NM := Aside0.mk hnm; clear hnm hr)
  have X6 : Aside0 (((w2.alloc (.cells #[.string ⟨#[97]⟩, .string ⟨#[78]⟩, .string ⟨#[110, 97, 116]⟩, .string ⟨#[95]⟩, .string ⟨#[113]⟩] 9)).alloc (.cells #[.string nm] 9)).heap[w2.heap.size + 1]? = some (.cells #[.string nm] 9 (0, 0))) := ⟨heap_alloc_new2 _ _ _⟩
  have X53 : Aside0 (((w2.alloc (.cells #[.string ⟨#[97]⟩, .string ⟨#[78]⟩, .string ⟨#[110, 97, 116]⟩, .string ⟨#[95]⟩, .string ⟨#[113]⟩] 9)).alloc (.cells #[.string nm] 9)).heap[b5]? = some (.cells #[.int .i64 t1.f0, .string t1.f1, .int .i64 t1.f2, .slice A1 t1.f3.length c1] 42 (0, 0))) := ⟨blk_alloc (blk_alloc X5.out _) _⟩
  have D3 : Aside0 (Below w1.heap.size w1 ((w2.alloc (.cells #[.string ⟨#[97]⟩, .string ⟨#[78]⟩, .string ⟨#[110, 97, 116]⟩, .string ⟨#[95]⟩, .string ⟨#[113]⟩] 9)).alloc (.cells #[.string nm] 9))) := ⟨below_alloc (below_alloc D2.out _) _⟩
  clear hx q0 q1 X5 D2 CI
  generalize hw3 : (w2.alloc (.cells #[.string ⟨#[97]⟩, .string ⟨#[78]⟩, .string ⟨#[110, 97, 116]⟩, .string ⟨#[95]⟩, .string ⟨#[113]⟩] 9)).alloc (.cells #[.string nm] 9) = w3 at *
  generalize w2.heap.size + 1 = b6 at *
  clear hw3 hb5
  obtain ⟨c0, c1', c2', c3⟩ := cells4h X53.out
  have n0 : w3.cell? ⟨b6, 0, none⟩ = some (.string nm) := (blk_cell X6.out 0).trans rfl
  go_upto_region 4 with fail
  have X54 : Aside0 (((w3.alloc (.cells #[.int .i64 t1.f0, .string t1.f1, .int .i64 t1.f2, .slice A1 t1.f3.length c1] 42)).alloc (.cells #[.int .i64 8, .string nm, .int .i64 0, .slice (some ⟨w3.heap.size, 0, none⟩) 1 1] 42)).heap[b5]? = some (.cells #[.int .i64 t1.f0, .string t1.f1, .int .i64 t1.f2, .slice A1 t1.f3.length c1] 42 (0, 0))) := ⟨blk_alloc (blk_alloc X53.out _) _⟩
  have X64 : Aside0 (((w3.alloc (.cells #[.int .i64 t1.f0, .string t1.f1, .int .i64 t1.f2, .slice A1 t1.f3.length c1] 42)).alloc (.cells #[.int .i64 8, .string nm, .int .i64 0, .slice (some ⟨w3.heap.size, 0, none⟩) 1 1] 42)).heap[b6]? = some (.cells #[.string nm] 9 (0, 0))) := ⟨blk_alloc (blk_alloc X6.out _) _⟩
  have X7 : Aside0 (((w3.alloc (.cells #[.int .i64 t1.f0, .string t1.f1, .int .i64 t1.f2, .slice A1 t1.f3.length c1] 42)).alloc (.cells #[.int .i64 8, .string nm, .int .i64 0, .slice (some ⟨w3.heap.size, 0, none⟩) 1 1] 42)).heap[w3.heap.size + 1]? = some (.cells #[.int .i64 8, .string nm, .int .i64 0, .slice (some ⟨w3.heap.size, 0, none⟩) 1 1] 42 (0, 0))) := ⟨heap_alloc_new2 _ _ _⟩
  have XR : Aside0 (((w3.alloc (.cells #[.int .i64 t1.f0, .string t1.f1, .int .i64 t1.f2, .slice A1 t1.f3.length c1] 42)).alloc (.cells #[.int .i64 8, .string nm, .int .i64 0, .slice (some ⟨w3.heap.size, 0, none⟩) 1 1] 42)).heap[w3.heap.size]? = some (.cells #[.int .i64 t1.f0, .string t1.f1, .int .i64 t1.f2, .slice A1 t1.f3.length c1] 42 (0, 0))) := ⟨blk_alloc (heap_alloc_new _ _) _⟩
  have D4 : Aside0 (Below w1.heap.size w1 ((w3.alloc (.cells #[.int .i64 t1.f0, .string t1.f1, .int .i64 t1.f2, .slice A1 t1.f3.length c1] 42)).alloc (.cells #[.int .i64 8, .string nm, .int .i64 0, .slice (some ⟨w3.heap.size, 0, none⟩) 1 1] 42))) := ⟨below_alloc (below_alloc D3.out _) _⟩
  clear X53 X6 D3 c0 c1' c2' c3 n0
  generalize hw4 : (w3.alloc (.cells #[.int .i64 t1.f0, .string t1.f1, .int .i64 t1.f2, .slice A1 t1.f3.length c1] 42)).alloc (.cells #[.int .i64 8, .string nm, .int .i64 0, .slice (some ⟨w3.heap.size, 0, none⟩) 1 1] 42) = w4 at *
  generalize w3.heap.size = br at *
  clear hw4
  have RL : Aside0 (∀ W', Below w4.heap.size w4 W' → Kd.C k42 W' (some ⟨br, 0, none⟩) 1 [t1]) := ⟨fun W' h => k42_T1 (blk_below XR.out h) rfl L1.out (Kd.C_below (Kd.C_below R1.out D4.out) h)⟩
  have HWL : Aside0 (wfS ⟨8, nm, 0, [t1]⟩ = 0) := ⟨lam_wf M1.out NM.out.1 0⟩
  have HNL : Aside0 (nmT ⟨8, nm, 0, [t1]⟩ = true) := ⟨by rw [nmT_eq, Bool.and_eq_true, decide_eq_true_eq]; exact ⟨NM.out.2, by simp [nmL, N1.out]⟩⟩
  have HSL : Aside0 (szT ⟨8, nm, 0, [t1]⟩ ≤ 2000) := ⟨by rw [szT_eq]; simp only [szL]; have := S1.out; omega⟩
  have F1 : Aside0 (∀ W', Below w4.heap.size w4 W' → Calls Tryd.prog 29 #[.agg #[.int .i64 8, .string nm, .int .i64 0, .slice (some ⟨br, 0, none⟩) 1 1]] W' fun e w' => e = .returned (.int .i64 0) ∧ Below W'.heap.size W' w') :=
    ⟨fun W' h => by
      have h2 := wf_any formed_any ⟨8, nm, 0, [t1]⟩ (some ⟨br, 0, none⟩) 1 W' (by have := HSL.out; omega) HNL.out (RL.out W' h) (Nat.le_refl _)
      rw [HWL.out] at h2
      exact h2⟩
  have HB : Aside0 (Below w4.heap.size w4 w4) := ⟨Below.refl _ _⟩
  obtain ⟨l0, l1', l2', l3⟩ := cells4h X7.out
  go_upto_region 9 with (go_at_call 29; (with_reducible refine (F1.out _ HB.out).mono ?_); rintro e w5 ⟨rfl, b4⟩; have n4 := Aside0.mk (below_step HB.out b4); clear HB b4; have HB := n4; clear n4)
  have D6 : Aside0 (Below w4.heap.size w4 ((w5.alloc (.cells #[.bool false] 4)).alloc (.cells #[.func (.func 43) #[] #[.pointer (some ⟨w5.heap.size, 0, none⟩), .pointer (some ⟨b6, 0, none⟩), .pointer (some ⟨w5.heap.size + 1, 0, none⟩)]] 53))) := ⟨below_alloc (below_alloc HB.out _) _⟩
  have ES : Aside0 (ExSt w1 w5.heap.size b6 (w5.heap.size + 1) nm false ((w5.alloc (.cells #[.bool false] 4)).alloc (.cells #[.func (.func 43) #[] #[.pointer (some ⟨w5.heap.size, 0, none⟩), .pointer (some ⟨b6, 0, none⟩), .pointer (some ⟨w5.heap.size + 1, 0, none⟩)]] 53))) := ⟨⟨below_step D4.out D6.out, blk_alloc (heap_alloc_new _ _) _, blk_below X64.out D6.out, heap_alloc_new2 _ _ _, below_size (below_step D4.out HB.out)⟩⟩
  have X56 : Aside0 (((w5.alloc (.cells #[.bool false] 4)).alloc (.cells #[.func (.func 43) #[] #[.pointer (some ⟨w5.heap.size, 0, none⟩), .pointer (some ⟨b6, 0, none⟩), .pointer (some ⟨w5.heap.size + 1, 0, none⟩)]] 53)).heap[b5]? = some (.cells #[.int .i64 t1.f0, .string t1.f1, .int .i64 t1.f2, .slice A1 t1.f3.length c1] 42 (0, 0))) := ⟨blk_below X54.out D6.out⟩
  clear l0 l1' l2' l3
  generalize hw6 : ((w5.alloc (.cells #[.bool false] 4)).alloc (.cells #[.func (.func 43) #[] #[.pointer (some ⟨w5.heap.size, 0, none⟩), .pointer (some ⟨b6, 0, none⟩), .pointer (some ⟨w5.heap.size + 1, 0, none⟩)]] 53)) = w6 at *
  generalize w5.heap.size = be at *
  clear hw6
  have EX : Aside0 (Calls Tryd.prog 43 #[.agg #[.int .i64 t1.f0, .string t1.f1, .int .i64 t1.f2, .slice A1 t1.f3.length c1], .pointer (some ⟨be, 0, none⟩), .pointer (some ⟨b6, 0, none⟩), .pointer (some ⟨be + 1, 0, none⟩)] w6 (ExPost w1 be b6 (be + 1) nm (exT nm t1) w6)) := ⟨by
    have h := ex_any w1 be b6 (be + 1) nm _ t1 (Nat.le_refl _) (by have := S1.out; omega) false A1 c1 w6 ES.out R1.out L1.out
    rwa [Bool.false_or] at h⟩
  obtain ⟨c0, c1', c2', c3⟩ := cells4h X56.out
  have e0 : w6.cell? ⟨be + 1, 0, none⟩ = some (.func (.func 43) #[] #[.pointer (some ⟨be, 0, none⟩), .pointer (some ⟨b6, 0, none⟩), .pointer (some ⟨be + 1, 0, none⟩)]) := (blk_cell ES.out.hw 0).trans rfl
  have HLB : Aside0 (b5 ≠ be ∧ br ≠ be ∧ br + 1 ≠ be) := ⟨by
    have g1 := ES.out.he
    refine ⟨fun e => ?_, fun e => ?_, fun e => ?_⟩
    · rw [← e, X56.out] at g1; simp at g1
    · have g2 := blk_below XR.out D6.out
      rw [e, g1] at g2; simp at g2
    · have g2 := blk_below X7.out D6.out
      rw [e, g1] at g2; simp at g2⟩
  go_upto_region 10 with (go_at_call 43; (with_reducible refine EX.out.mono ?_); rintro e w7 ⟨rfl, g1, g2⟩; have ES7 := Aside0.mk g1; have KB := Aside0.mk g2; clear g1 g2)
  clear c0 c1' c2' c3 e0
  have X57 : Aside0 (w7.heap[b5]? = some (.cells #[.int .i64 t1.f0, .string t1.f1, .int .i64 t1.f2, .slice A1 t1.f3.length c1] 42 (0, 0))) := ⟨KB.out.blk X56.out HLB.out.1 (by simp)⟩
  have X77 : Aside0 (w7.heap[br + 1]? = some (.cells #[.int .i64 8, .string nm, .int .i64 0, .slice (some ⟨br, 0, none⟩) 1 1] 42 (0, 0))) := ⟨KB.out.blk (blk_below X7.out D6.out) HLB.out.2.2 (by simp)⟩
  have XR7 : Aside0 (w7.heap[br]? = some (.cells #[.int .i64 t1.f0, .string t1.f1, .int .i64 t1.f2, .slice A1 t1.f3.length c1] 42 (0, 0))) := ⟨KB.out.blk (blk_below XR.out D6.out) HLB.out.2.1 (by simp)⟩
  have D7 : Aside0 (Below W.heap.size W w7) := ⟨below_step B1.out ES7.out.below⟩
  have C7 : Aside0 (∀ W', Below w7.heap.size w7 W' → Kd.C k42 W' A1 t1.f3.length t1.f3) := ⟨fun W' h => Kd.C_below (Kd.C_below R1.out ES7.out.below) h⟩
  have RL7 : Aside0 (∀ W', Below w7.heap.size w7 W' → Kd.C k42 W' (some ⟨br, 0, none⟩) 1 [t1]) := ⟨fun W' h => k42_T1 (blk_below XR7.out h) rfl L1.out (C7.out W' h)⟩
  have BN7 : Aside0 (w7.heap[b6]? = some (.cells #[.string nm] 9 (0, 0))) := ⟨ES7.out.hn⟩
  have BE7 : Aside0 (w7.heap[be]? = some (.cells #[.bool (exT nm t1)] 4 (0, 0))) := ⟨ES7.out.he⟩
  clear ES EX D6 HB F1 RL R1 X56 X54 X64 X7 XR D4 KB ES7 HLB
  have FA : Aside0 (Calls Tryd.prog 38 #[.agg #[.int .i64 t1.f0, .string t1.f1, .int .i64 t1.f2, .slice A1 t1.f3.length c1]] w7 fun e w' => ∃ A2 c2, e = .returned (.slice A2 (freeT t1).length c2) ∧ Kd.C Kd.string w' A2 (freeT t1).length (freeT t1) ∧ Below w7.heap.size w7 w') :=
    ⟨free_any t1 A1 c1 w7 (by have := S1.out; omega) N1.out (C7.out w7 (Below.refl _ _)) L1.out⟩
  obtain ⟨c0, c1', c2', c3⟩ := cells4h X57.out
  have HFL : Aside0 ((freeT t1).length ≤ 2000) := ⟨by have := freeT_len t1; have := S1.out; omega⟩
  go_wp2_with (go_at_call 38; (with_reducible refine FA.out.mono ?_); rintro e w8 ⟨A5, c5, rfl, k5, b8⟩; have K5 := Aside0.mk k5; have B8 := Aside0.mk b8; clear k5 b8)
  have HFE : Aside0 (exT nm t1 = false → freeT ⟨8, nm, 0, [t1]⟩ = less nm (freeT t1)) := ⟨binds_law nm 8 0 t1 (.inr rfl) (made_wf M1.out) HWL.out⟩
  have FB : Aside0 (∀ W', Below w7.heap.size w7 W' → Calls Tryd.prog 38 #[.agg #[.int .i64 8, .string nm, .int .i64 0, .slice (some ⟨br, 0, none⟩) 1 1]] W' fun e w' => ∃ A2 c2, e = .returned (.slice A2 (freeT ⟨8, nm, 0, [t1]⟩).length c2) ∧ Kd.C Kd.string w' A2 (freeT ⟨8, nm, 0, [t1]⟩).length (freeT ⟨8, nm, 0, [t1]⟩) ∧ Below W'.heap.size W' w') :=
    ⟨fun W' h => free_any ⟨8, nm, 0, [t1]⟩ (some ⟨br, 0, none⟩) 1 W' (by have := HSL.out; omega) HNL.out (RL7.out W' h) (Nat.le_refl _)⟩
  have F5 : Aside0 (∀ W', Calls Tryd.prog 40 #[] W' fun e w' => e = .returned (.bool true) ∧ Below W'.heap.size W' w') := ⟨fun W' => awake_any W'⟩
  have X78 := Aside0.mk (blk_below X77.out B8.out)
  have BN8 := Aside0.mk (blk_below BN7.out B8.out)
  have BE8 := Aside0.mk (blk_below BE7.out B8.out)
  have D8 : Aside0 (Below W.heap.size W w8) := ⟨below_step D7.out B8.out⟩
  clear FA c0 c1' c2' c3 X57 X77 BN7 BE7
  generalize freeT t1 = fr at *
  generalize freeT ⟨8, nm, 0, [t1]⟩ = fl at *
  generalize exT nm t1 = ex at *
  go_loopw [10, 12] (fun v i wr => WtR nm fr w8 v i wr) (fun _ i _ => fr.length - (intOf i).toNat)
  case atStart => exact ⟨0, by omega, rfl, own_nil _ _ _ _, Below.refl _ _⟩
  case round =>
    obtain ⟨j, hj, rfl, ho, hb⟩ := hrel
    have HO := Aside0.mk ho
    have HB := Aside0.mk hb
    obtain ⟨A9, c9, ev⟩ := own_slice ho
    subst ev
    clear ho hb
    have n0 := (blk_cell (blk_below BN8.out HB.out) 0).trans (show (#[Value.string nm] : Array Value)[0]? = some (.string nm) from rfl)
    by_cases hlt : j < fr.length
    · have hS := less_succ nm fr j hlt
      obtain ⟨ad, hA, h0⟩ := Kd.at_string (Kd.C_below K5.out HB.out) (j : Int) (by omega) (by omega)
      subst hA
      rw [Int.toNat_natCast, rdOf, Int.toNat_natCast, List.getD_eq_getElem?_getD, List.getElem?_eq_getElem hlt, Option.getD_some] at h0
      generalize fr[j] = x at h0 hS
      have HS := Aside0.mk hS
      have HLT := Aside0.mk hlt
      have HJ := Aside0.mk hj
      have q0 := eq_true (show (0 : Int) ≤ (j : Int) by omega)
      have q1 := eq_true (show (j : Int) < (fr.length : Int) by omega)
      have q2 : IntKind.i64.wrap ((j : Int) + 1) = (j : Int) + 1 := IntWalk.i64_in _ (by have := HFL.out; omega)
      have HLL : Aside0 ((less nm (fr.take j)).length ≤ 2000) := ⟨by have h1 := less_len nm (fr.take j); have h2 := List.length_take_le j fr; have := HFL.out; omega⟩
      clear hS hlt hj
      cases hx : eqB x nm with
      | true =>
        obtain rfl := (eqB_iff _ _).1 hx
        have HS2 : Aside0 (less x (fr.take (j + 1)) = less x (fr.take j)) := ⟨by rw [HS.out, hx, if_pos rfl, List.append_nil]⟩
        clear hx
        go_wp2_with fail
        go_quiet (fail)
        go_wp2_with fail
        go_roundw
        case rel => exact ⟨j + 1, HLT.out, by go_num, HS2.out ▸ HO.out, pw_below_drewN HB.out _⟩
        case measure => have := HLT.out; simp [intOf]; omega
      | false =>
        have HS2 : Aside0 (less nm (fr.take (j + 1)) = less nm (fr.take j) ++ [x]) := ⟨by rw [HS.out, hx, if_neg (by simp)]⟩
        have q3 : (x.toList == nm.toList) = false := by rw [beq_eq_false_iff_ne]; intro h; rw [(str_eq_iff x nm).1 h, eqB_self] at hx; cases hx
        clear hx
        go_wp2_with fail
        go_quiet (fail)
        have HO2 : Aside0 ((wr.drewN nq).ownsRow w8.heap.size 9 1 (.slice A9 (less nm (fr.take j)).length c9) (less nm (fr.take j)).length (encs Value.string (less nm (fr.take j)))) := ⟨HO.out⟩
        have HB2 : Aside0 (Below w8.heap.size w8 (wr.drewN nq)) := ⟨pw_below_drewN HB.out _⟩
        go_wp2_with (at_builtin; refine print_append_of (w0 := w8) Value.string w8.heap.size rfl (.tmp 53) (.tmp 58) 38 9 _ 16 rfl Tryd.underlying38 info9 rfl (by decide) (.slice A9 (less nm (fr.take j)).length c9) (less nm (fr.take j)) x rfl rfl rfl HO2.out HB2.out (below_size HB2.out) (by have := HLL.out; omega) ?_; intro v1 w9 ho hb hg hat; have HO3 := Aside0.mk ho; have HB3 := Aside0.mk hb; clear ho hb hg hat)
        go_roundw
        case rel => exact ⟨j + 1, HLT.out, by go_num, HS2.out ▸ HO3.out, HB3.out⟩
        case measure => have := HLT.out; simp [intOf]; omega
    · have hS : less nm (fr.take j) = less nm fr := by rw [List.take_of_length_le (by omega)]
      rw [hS] at HO ⊢
      have q1 := eq_false (show ¬ ((j : Int) < (fr.length : Int)) by omega)
      clear hS hlt
      cases ex with
      | true =>
        have e0 := (blk_cell (blk_below BE8.out HB.out) 0).trans (show (#[Value.bool true] : Array Value)[0]? = some (.bool true) from rfl)
        go_wp2_with (go_at_call 40; (with_reducible refine (F5.out _).mono ?_); rintro e w9 ⟨rfl, b9⟩)
        go_ret
        exact ⟨rfl, below_step (below_step D8.out HB.out) b9⟩
      | false =>
        have e0 := (blk_cell (blk_below BE8.out HB.out) 0).trans (show (#[Value.bool false] : Array Value)[0]? = some (.bool false) from rfl)
        obtain ⟨l0, l1', l2', l3⟩ := cells4h (blk_below X78.out HB.out)
        have HB7 : Aside0 (Below w7.heap.size w7 wr) := ⟨below_step B8.out HB.out⟩
        have HL2 : Aside0 (fl = less nm fr) := ⟨HFE.out rfl⟩
        have KW : Aside0 (∀ W', Below wr.heap.size wr W' → Kd.C Kd.string W' A9 (less nm fr).length (less nm fr)) := ⟨fun W' h => by
          obtain ⟨A', c', ev, hrd⟩ := own_reads_of (enc := Value.string) (d := ByteArray.empty) HO.out
          injection ev with e1 e2 e3
          subst e1
          exact Kd.C_below (Kd.C_of_reads hrd) h⟩
        have HL3 : Aside0 ((less nm fr).length ≤ 1000000000) := ⟨by have := less_len nm fr; have := HFL.out; omega⟩
        rw [HL2.out] at FB
        go_wp2_with (first | (go_at_call 38; (with_reducible refine (FB.out _ HB7.out).mono ?_); rintro e w9 ⟨A10, c10, rfl, k10, b9⟩; have K10 := Aside0.mk k10; have B9 := Aside0.mk b9; clear k10 b9) | (go_at_call 37; (with_reducible refine (samen_any (less nm fr) _ _ _ _ _ HL3.out K10.out (KW.out _ B9.out)).mono ?_); rintro e w10 ⟨rfl, b10⟩; have B10 := Aside0.mk b10; clear b10) | (go_at_call 40; (with_reducible refine (F5.out _).mono ?_); rintro e w11 ⟨rfl, b11⟩; have B11 := Aside0.mk b11; clear b11))
        go_ret
        exact ⟨rfl, below_step (below_step (below_step (below_step D8.out HB.out) B9.out) B10.out) B11.out⟩
end
end Go.Proofs.YtajefkjcfmfjkaaDoor
namespace Go.Proofs.YtajefkjcfmfjkaaDoor
section
set_option linter.unusedVariables false
set_option linter.unusedSimpArgs false
set_option linter.deprecated false
open Go.ChangeShapes Go.WideShapes Go.ChangeAt Go.WideMaps Go.WideElems Go.RowKit
def laidWd : List (String × DataW Unit) := [("lfcheck/lfcheckmade.words", Rows.laid_lfcheck_lfcheckmade_words)]
theorem own : ownKnob Tryd.prog.godebug = none := by kernel_rfl
theorem laidOut : laidOutB Tryd.prog = true := by kernel_rfl
theorem gWd : Tryd.prog.globalNamed "lfcheck/lfcheckmade.words" = some 1 := by kernel_rfl
theorem tWd : (Tryd.prog.globals[1]?).map (·.type) = some 38 := by kernel_rfl
theorem cells9 : Tryd.prog.cellsOf 9 = 1 := by kernel_rfl
theorem doorWd_met (os : Os) (args : Array Value) : laidMetH Tryd.prog laidWd ((World.doorLaid Tryd.prog 19 os).forCall (fun _ _ => 0) ⟨#[], args, []⟩).memory :=
  laidMetH_of_parts3 (fuel := 8) (laidMet_of_run' 8 (by kernel_rfl) (by kernel_rfl)) (by kernel_rfl) (by kernel_rfl)
theorem of_laidWd {W : World} (h : laidMetH Tryd.prog laidWd W) : WdAt W := by
  rw [MakeChecks.laidMetH_plain _ _ _ (by kernel_rfl)] at h
  obtain ⟨ps, ⟨g0, t0, cs0, f0, p0, q0, hg0, ht0, hv0, hd0, _, _⟩, _, _⟩ := h
  obtain rfl := Option.some.inj (gWd.symm.trans hg0)
  obtain rfl := Option.some.inj (tWd.symm.trans ht0)
  rcases open_strings Tryd.underlying38 Tryd.underlying9 cells9 hd0 with ⟨_, hx⟩ | ⟨a, len, cap, ss, hcs, _, hl, hm, hz, hx, hcell, hws⟩
  · simp [Rows.laid_lfcheck_lfcheckmade_words] at hx
  have hv := World.var?_cell hg0 hv0 0
  have hD : (Rows.laid_lfcheck_lfcheckmade_words : DataW Unit) = .slice (wdL.map fun l => .lit (.string l)) [] := rfl
  rw [hD] at hx
  simp only [Prod.mk.injEq, DataW.slice.injEq] at hx
  obtain ⟨⟨hx1, _⟩, _⟩ := hx
  have h1 : (ss.take len).map (fun s => s.data.toList) = wdL := by
    have := congrArg (List.map fun d : DataW Unit => match d with | .lit (.string l) => l | _ => []) hx1
    simp only [strs, List.map_map] at this
    have e1 : ((fun d : DataW Unit => match d with | .lit (.string l) => l | _ => []) ∘ fun s : ByteArray => DataW.lit (.string s.data.toList)) = fun s => s.data.toList := rfl
    have e2 : ((fun d : DataW Unit => match d with | .lit (.string l) => l | _ => []) ∘ fun l : List UInt8 => DataW.lit (.string l)) = id := rfl
    rw [e1, e2, List.map_id] at this
    exact this.symm
  have h2 : (ss.take len).length = 13 := by
    have := congrArg List.length h1
    rw [List.length_map] at this
    exact this
  rw [List.length_take] at h2
  have hlen : len = 13 := by
    rcases Nat.le_total len ss.length with h | h
    · omega
    · have : ss.length = 13 := by omega
      split at hz <;> omega
  subst hlen
  refine ⟨⟨a, cap, ?_, fun j hj => ?_⟩⟩
  · rw [Array.eq_one_of_toList hcs] at hv
    simpa using hv
  · rw [hcell j (by omega)]
    have h3 : ss.getD j ByteArray.empty = wdB j := by
      have h4 := congrArg (fun l => l[j]?) h1
      simp only [List.getElem?_map, List.getElem?_take, hj, if_true] at h4
      rw [List.getElem?_eq_getElem (show j < ss.length by omega)] at h4
      simp only [Option.map_some] at h4
      rw [List.getD_eq_getElem?_getD, List.getElem?_eq_getElem (show j < ss.length by omega), Option.getD_some]
      unfold wdB wdAt
      rw [List.getD_eq_getElem?_getD, ← h4, Option.getD_some]
    rw [h3]
end
end Go.Proofs.YtajefkjcfmfjkaaDoor
namespace Go.Proofs.YtajefkjcfmfjkaaDoor
section
set_option linter.unusedVariables false
set_option linter.unusedSimpArgs false
set_option linter.deprecated false
open Go.ChangeShapes Go.WideShapes Go.ChangeAt Go.RowKit Go.Proofs.YtajefkjcfmfjkaaDoorW.PrintWords
theorem kd_ints {w : World} {x : Addr} {len cap : Nat} {zs : List Int} (hl : len ≤ cap) (hm : cap ≤ maxLen) (hz : zs.length = cap)
    (hc : ∀ i, i < zs.length → w.cell? (x.add i) = some (.int .i64 (zs.getD i 0))) : (zs.take len).length = len ∧ Kd.C (Kd.int .i64) w (some x) len (zs.take len) := by
  have h1 : (zs.take len).length = len := by rw [List.length_take]; omega
  unfold maxLen at hm
  refine ⟨h1, h1, by omega, fun _ => ⟨x, rfl, fun j p hp => ?_⟩⟩
  have hj : j < (zs.take len).length := (List.getElem?_eq_some_iff.1 hp).1
  have hj2 : j < zs.length := by rw [h1] at hj; omega
  refine ⟨[.int .i64 p], rfl, rfl, fun i u hu => ?_⟩
  have hi : i = 0 := by
    have := (List.getElem?_eq_some_iff.1 hu).1
    simp at this
    exact this
  subst hi
  simp only [List.getElem?_cons_zero, Option.some.injEq] at hu
  subst hu
  have h2 := hc j hj2
  have h3 : zs.getD j 0 = p := by
    rw [List.getElem?_take] at hp
    rw [h1] at hj
    simp only [hj, if_true] at hp
    rw [List.getD_eq_getElem?_getD, hp, Option.getD_some]
  rw [h3] at h2
  show w.cell? (x.add (j * 1 + 0)) = some (Value.int IntKind.i64 p)
  rw [Nat.mul_one, Nat.add_zero]
  exact h2
theorem kd_none (w : World) : Kd.C (Kd.int .i64) w none 0 [] := ⟨rfl, by omega, fun h => absurd h (by omega)⟩
end
end Go.Proofs.YtajefkjcfmfjkaaDoor
