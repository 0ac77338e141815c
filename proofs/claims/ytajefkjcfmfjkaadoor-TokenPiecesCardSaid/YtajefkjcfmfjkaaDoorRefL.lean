/- The reference's Lex: what it computes (the walk). -/
import Derived.Test.YtajefkjcfmfjkaaDoorTokD
import Derived.Test.YtajefkjcfmfjkaaDoorTokE
namespace Go.Proofs.YtajefkjcfmfjkaaDoor
open Go.RowKit Go.Proofs.YtajefkjcfmfjkaaDoorW.PrintWords Go.Proofs.YtajefkjcfmfjkaaDoor.PTokenPieces

theorem cmt_step (s : ByteArray) (j n : Nat) (hj : j < s.size) : cmtL (sfx s j) n =
    if h : j + 1 < s.size then (if s[j] = 37 ∧ s[j + 1] = 123 then cmtL (sfx s (j + 2)) (n + 1) else if s[j] = 125 ∧ s[j + 1] = 37 then (if n = 1 then some (sfx s (j + 2)) else cmtL (sfx s (j + 2)) (n - 1)) else cmtL (sfx s (j + 1)) n)
    else none := by
  by_cases h : j + 1 < s.size
  · rw [dif_pos h, sfx_cons s j hj, sfx_cons s (j + 1) h]
    rfl
  · rw [dif_neg h, sfx_cons s j hj, sfx_nil s (j + 1) (by omega)]
    rfl

theorem own_out {W : World} {base : Nat} {ok : Nat → Prop} {v : Value} {xs : List Tk} {t : Tk} {p : S35} (hp : tkS t = p) (h : Kd.R k35 35 W base ok v (xs.map tkS ++ [p])) :
    ∃ A c, v = .slice A (xs ++ [t]).length c ∧ Aside0 (Kd.R k35 35 W base (fun _ => True) (.slice A (xs ++ [t]).length c) ((xs ++ [t]).map tkS)) := by
  subst hp
  obtain ⟨A, c, ev⟩ := Kd.R_slice h
  have e2 : v = .slice A (xs ++ [t]).length c := by rw [ev]; simp
  refine ⟨A, c, e2, ⟨?_⟩⟩
  have h2 := Kd.R_mono h (ok' := fun _ => True) (fun _ _ => trivial)
  rw [e2] at h2
  simpa using h2

set_option maxHeartbeats 400000000 in
set_option maxRecDepth 100000 in
theorem rlex_any (s : ByteArray) (w : World) (hs : s.size ≤ 4611686018427387904) :
    Calls Tryd.prog 51 #[.string s] w (LexPost (lexS s) w) := by
  by_cases hbig : 65536 < s.size
  · have hd : decide ((65536 : Int) < (s.size : Int)) = true := decide_eq_true (by omega)
    have hL : lexS s = ([], 12, 0) := by unfold lexS; rw [if_pos hbig]
    rw [hL]
    go_enter Tryd.func51, Tryd.ntmps51
    go_wp2
    go_ret3
    exact ⟨none, 0, rfl, Nat.le_refl _, read_nil _, Below.refl _ _⟩
  · have hd : decide ((65536 : Int) < (s.size : Int)) = false := decide_eq_false (by omega)
    obtain ⟨R, hR⟩ : ∃ R, R = lexS s := ⟨_, rfl⟩
    have hL : R = ahead [] (lexL 0 (sfx s 0) 0) := by rw [hR]; unfold lexS; rw [if_neg hbig]
    rw [← hR]
    have HR := Aside0.mk hL
    clear hR hL
    go_enter Tryd.func51, Tryd.ntmps51
    go_wp2
    go_loopw [5, 6] (fun v x w' => ∃ (xs : List Tk) (i : Nat) (A : Option Addr) (c : Nat), i ≤ s.size ∧ x = .int .i64 i ∧ v = .slice A xs.length c ∧ xs.length ≤ 20000 ∧ Aside0 (R = ahead xs (lexL i (sfx s i) xs.length)) ∧ Aside0 (Kd.R k35 35 w' w.heap.size (fun _ => True) (.slice A xs.length c) (xs.map tkS)) ∧ Aside0 (Below w.heap.size w w')) (fun _ x _ => s.size - (intOf x).toNat)
    case atStart => exact ⟨[], 0, none, 0, Nat.zero_le _, rfl, rfl, by simp, HR, ⟨Kd.R_nil _ _ _ _ _⟩, ⟨Below.refl _ _⟩⟩
    case round =>
      clear HR
      obtain ⟨xs, i, A, c, hi, rfl, rfl, hx, HR, HO, HB⟩ := hrel
      by_cases hlt : i < s.size
      · have hP := congrArg nextL (sfx_cons s i hlt)
        rw [nextL_cons] at hP
        have CB := Aside0.mk (rblank_any s[i])
        have CS := Aside0.mk (rspecial_any s[i])
        have CN := Aside0.mk (rname_any s[i])
        cases hb : isBlank s[i] with
        | true =>
          rw [if_pos hb] at hP
          rw [hb] at CB
          obtain ⟨hs1, hs2⟩ := lex_skip s i hlt xs hP
          rw [sfx_len, show s.size - (s.size - (i + 1)) = i + 1 by omega] at hs1
          have HR2 := Aside0.mk (HR.out.trans hs1)
          clear hP hs1 hs2 HR CS CN hb
          go_wp2_with (first | (go_at_call 85; (with_reducible refine (CB.out _).mono ?_); rintro e w' ⟨rfl, ⟨nd, rfl⟩⟩))
          go_roundw
          case rel => exact ⟨xs, i + 1, A, c, by omega, by go_num, rfl, hx, HR2, ⟨Kd.R_drewN HO.out _⟩, ⟨pw_below_drewN HB.out _⟩⟩
          case measure => simp [intOf]; omega
        | false =>
          rw [if_neg (by rw [hb]; exact Bool.false_ne_true)] at hP
          rw [hb] at CB
          cases hp : isPunct s[i] with
          | true =>
            as_aux_lemma =>
              have h37 : s[i] ≠ 37 := by intro h; rw [h] at hp; revert hp; decide
              have hnn : isName s[i] = false := by simp [isName, hp]
              rw [if_neg h37, if_neg (by rw [hnn]; exact Bool.false_ne_true), if_pos hp] at hP
              rw [hp] at CS
              have hil : (i : Int) + 1 ≤ (s.size : Int) := by omega
              have hsl : ∀ w, (Instr.slice 9 (.string s) (some (.int .i64 (i : Int))) (some (.int .i64 ((i : Int) + 1))) none).run Tryd.prog w = .ok (.string ⟨[s[i]].toArray⟩) w := by
                intro w
                rw [run_slice_string w 9 s .i64 .i64 _ _ Tryd.underlying9 (by omega) (by omega) hil, Int.toNat_natCast, show ((i : Int) + 1).toNat = i + 1 by omega, extract_mk, sfx_cons s i hlt, show i + 1 - i = 1 by omega]
                rfl
              obtain ⟨hs1, hs2, hs3, hs4⟩ := lex_tok s i hlt xs hP
              obtain ⟨T, hT⟩ : ∃ T, T = [s[i]] := ⟨_, rfl⟩
              rw [← hT] at hsl hs2
              obtain ⟨B, hB⟩ : ∃ B : ByteArray, B = ⟨T.toArray⟩ := ⟨_, rfl⟩
              rw [← hB] at hsl
              have hTs : decide ((64 : Int) < (B.size : Int)) = false := by rw [hB, hT]; rfl
              have HBT := Aside0.mk hB
              clear hB
              rw [sfx_len, show s.size - (s.size - (i + 1)) = i + 1 by omega] at hs2
              clear hb hp hnn h37 CN hT hs3 hs4
              go_wp2_with (first | (go_at_call 85; (with_reducible refine (CB.out _).mono ?_); rintro e w' ⟨rfl, ⟨nd, rfl⟩⟩) | (go_at_call 86; (with_reducible refine (CS.out _).mono ?_); rintro e w' ⟨rfl, ⟨nd2, rfl⟩⟩) | ((with_reducible refine gate_dst (N := 9) rfl ?_); refine box_event ?hg (N := 9) ?hd (cs := #[.int .i64 0, .string ⟨#[]⟩, .int .i64 0]) (t := 35) ?hr ?_; (case hd => rfl); (case hg => rfl); (case hr => first | (go_simp; done) | (go_simp; rfl)); intro gb hg wb hbox hbb; have n0 := Aside0.mk (below_step (by repeat (first | (with_reducible first | exact HB.out | apply below_alloc | apply pw_below_drewN | apply below_drew1 | refine below_set ?_ GE.out) | exact HB.out)) hbb); have n1 := Aside0.mk hbox; have GE : Aside0 (w.heap.size ≤ gb) := ⟨by rw [hg]; exact below_size (by repeat (first | (with_reducible first | exact HB.out | apply below_alloc | apply pw_below_drewN | apply below_drew1 | refine below_set ?_ GE.out) | exact HB.out))⟩; have n3 := Aside0.mk (Kd.R_below (Kd.R_mono (ok' := fun k => k ≠ gb) (Kd.R_bound (by (with_reducible repeat (first | apply Kd.R_alloc | apply Kd.R_drewN | apply Kd.R_drew | refine Kd.R_far ?_ (fun _ hk => hk) _)); exact HO.out)) (fun k hk => Nat.ne_of_lt (by rw [hg]; exact hk.2.2.1))) hbb); clear HB HO hbb hbox hg; have HB := n0; have HO := n3; have BK := n1; clear n0 n1 n3; have c0 : wb.cell? ⟨gb, 0, none⟩ = some (.int .i64 0) := (blk_cell BK.out 0).trans rfl; have c1 : wb.cell? ⟨gb, 1, none⟩ = some (.string ⟨#[]⟩) := (blk_cell BK.out 1).trans rfl; have c2 : wb.cell? ⟨gb, 2, none⟩ = some (.int .i64 0) := (blk_cell BK.out 2).trans rfl; have f0 := blk_frozen BK.out 0; have f1 := blk_frozen BK.out 1; have f2 := blk_frozen BK.out 2))
              (have n0 : Aside0 ((((wb.setCell ⟨gb, 0, none⟩ (.int .i64 0)).setCell ⟨gb, 1, none⟩ (.string ⟨#[]⟩)).setCell ⟨gb, 2, none⟩ (.int .i64 (i : Int))).heap[gb]? = some (.cells #[.int .i64 0, .string ⟨#[]⟩, .int .i64 (i : Int)] 35 (0, 0))) := ⟨blk_put (blk_put (blk_put BK.out 0 _ rfl) 1 _ rfl) 2 _ rfl⟩; have n1 : Aside0 (Kd.R k35 35 (((wb.setCell ⟨gb, 0, none⟩ (.int .i64 0)).setCell ⟨gb, 1, none⟩ (.string ⟨#[]⟩)).setCell ⟨gb, 2, none⟩ (.int .i64 (i : Int))) w.heap.size (fun k => k ≠ gb) (.slice A xs.length c) (xs.map tkS)) := ⟨(by (with_reducible repeat (first | apply Kd.R_alloc | apply Kd.R_drewN | apply Kd.R_drew | refine Kd.R_far ?_ (fun _ hk => hk) _)); exact HO.out)⟩; have n2 : Aside0 (Below w.heap.size w (((wb.setCell ⟨gb, 0, none⟩ (.int .i64 0)).setCell ⟨gb, 1, none⟩ (.string ⟨#[]⟩)).setCell ⟨gb, 2, none⟩ (.int .i64 (i : Int)))) := ⟨(by repeat (first | (with_reducible first | exact HB.out | apply below_alloc | apply pw_below_drewN | apply below_drew1 | refine below_set ?_ GE.out) | exact HB.out))⟩; clear BK HO HB c0 c1 c2 f0 f1 f2; generalize (((wb.setCell ⟨gb, 0, none⟩ (.int .i64 0)).setCell ⟨gb, 1, none⟩ (.string ⟨#[]⟩)).setCell ⟨gb, 2, none⟩ (.int .i64 (i : Int))) = w16 at n0 n1 n2 ⊢; have BK := n0; have HO := n1; have HB := n2; clear n0 n1 n2)
              have c0 : w16.cell? ⟨gb, 0, none⟩ = some (.int .i64 0) := (blk_cell BK.out 0).trans rfl
              have c1 : w16.cell? ⟨gb, 1, none⟩ = some (.string ⟨#[]⟩) := (blk_cell BK.out 1).trans rfl
              have c2 : w16.cell? ⟨gb, 2, none⟩ = some (.int .i64 (i : Int)) := (blk_cell BK.out 2).trans rfl
              have f0 := blk_frozen BK.out 0
              have f1 := blk_frozen BK.out 1
              go_big_region
              by_cases hm : xs.length = 20000
              · have HR2 := HR.out.trans (hs1 hm)
                subst HR2
                have hm2 : (((xs.length : Nat) : Int) == 20000) = true := by rw [beq_iff_eq]; omega
                clear hs1 hs2 HR hm hP
                go_wp2
                go_ret3
                exact ⟨none, 0, rfl, Nat.le_refl _, read_nil _, (by repeat (first | (with_reducible first | exact HB.out | apply below_alloc | apply pw_below_drewN | apply below_drew1 | refine below_set ?_ GE.out) | exact HB.out))⟩
              · have HR2 := Aside0.mk (HR.out.trans (hs2 hm))
                have hm2 : (((xs.length : Nat) : Int) == 20000) = false := by rw [beq_eq_false_iff_ne]; omega
                have hm3 : xs.length < 20000 := by omega
                clear hs1 hs2 HR hm hP
                go_wp2_with (at_builtin; refine Kd.R_append k35 (w0 := w) w.heap.size rfl (.tmp 220) (.tmp 222) 28 35 (.agg #[(.int .i64 0), (.string ⟨#[]⟩), (.int .i64 0)]) 32 rfl Tryd.underlying28 info35 rfl (by decide) (by omega) (.slice A xs.length c) (xs.map tkS) (⟨2, B, i⟩ : S35) [.int .i64 2, .string B, .int .i64 i] (fun k => k ≠ gb) (fun _ => False) rfl ?aX ?aP (fun _ hk => hk.elim) ?aF ?aO ?aB ?aS ?aL ?_; (case aP => exact k35_mkM _ _ _ (⟨2, B, i⟩ : S35)); (case aX => simp [go_sem]); (case aF => intro k hk; have hlt2 := blk_lt BK.out; simp at hk; omega); (case aO => exact (by (with_reducible repeat (first | apply Kd.R_alloc | apply Kd.R_drewN | apply Kd.R_drew | refine Kd.R_far ?_ (fun _ hk => hk) _)); exact HO.out)); (case aB => exact (by repeat (first | (with_reducible first | exact HB.out | apply below_alloc | apply pw_below_drewN | apply below_drew1 | refine below_set ?_ GE.out) | exact HB.out))); (case aS => exact below_size (by repeat (first | (with_reducible first | exact HB.out | apply below_alloc | apply pw_below_drewN | apply below_drew1 | refine below_set ?_ GE.out) | exact HB.out))); (case aL => simp; omega); intro v1 w1 ho hb hg hat; have HO1 := Aside0.mk ho; have HB1 := Aside0.mk hb; clear ho hb hg hat)
                obtain ⟨A1, c3, ev2, HO2⟩ := own_out (t := ⟨2, T, i⟩) (by rw [HBT.out]; rfl) HO1.out
                subst ev2
                go_roundw
                case rel => exact ⟨xs ++ [⟨2, T, i⟩], i + 1, A1, c3, by omega, by go_num, rfl, by simp; omega, HR2, HO2, HB1⟩
                case measure => simp [intOf]; omega
          | false =>
            rw [hp] at CS
            have hpk := Aside0.mk hp
            clear hp hb
            by_cases h37 : s[i] = 37
            · rw [if_pos h37] at hP
              have hc37 : ((s[i].toNat : Int) == 37) = true := by rw [h37]; rfl
              by_cases ho : (sfx s (i + 1)).head? = some 123
              · have h1 : i + 1 < s.size := by
                  rcases Nat.lt_or_ge (i + 1) s.size with h | h
                  · exact h
                  · rw [sfx_nil s (i + 1) h] at ho; cases ho
                have hb1 : s[i + 1] = 123 := by rw [sfx_cons s (i + 1) h1] at ho; simpa using ho
                obtain ⟨Q, hQ⟩ : ∃ Q, Q = cmtL (sfx s i) 0 := ⟨_, rfl⟩
                have hQ2 : cmtL (sfx s (i + 1)).tail 1 = Q := by
                  rw [hQ, sfx_cons s i hlt, sfx_cons s (i + 1) h1, h37, hb1]; rfl
                have hP2 : nextL (sfx s i) = cmtStp Q := by
                  rw [hP, ← hQ2]; unfold pctL; rw [if_pos ho]; cases cmtL (sfx s (i + 1)).tail 1 <;> rfl
                have hc123 : ((s[i + 1].toNat : Int) == 123) = true := by rw [hb1]; rfl
                have h1i : (i : Int) + 1 < (s.size : Int) := by omega
                have HP2 := Aside0.mk hP2
                have HQ := Aside0.mk hQ
                have H0 := Aside0.mk (show s[i] = 37 ∧ s[i + 1] = 123 from ⟨h37, hb1⟩)
                clear hP hQ2 hP2 hQ ho CN hpk
                clear h37 hb1
                go_wp2_with (first | (go_at_call 85; (with_reducible refine (CB.out _).mono ?_); rintro e w' ⟨rfl, ⟨nd, rfl⟩⟩) | (go_at_call 86; (with_reducible refine (CS.out _).mono ?_); rintro e w' ⟨rfl, ⟨nd2, rfl⟩⟩) | ((with_reducible refine gate_dst (N := 9) rfl ?_); refine box_event ?hg (N := 9) ?hd (cs := #[.int .i64 0, .string ⟨#[]⟩, .int .i64 0]) (t := 35) ?hr ?_; (case hd => rfl); (case hg => rfl); (case hr => first | (go_simp; done) | (go_simp; rfl)); intro gb hg wb hbox hbb; have n0 := Aside0.mk (below_step (by repeat (first | (with_reducible first | exact HB.out | apply below_alloc | apply pw_below_drewN | apply below_drew1 | refine below_set ?_ GE.out) | exact HB.out)) hbb); have n1 := Aside0.mk hbox; have GE : Aside0 (w.heap.size ≤ gb) := ⟨by rw [hg]; exact below_size (by repeat (first | (with_reducible first | exact HB.out | apply below_alloc | apply pw_below_drewN | apply below_drew1 | refine below_set ?_ GE.out) | exact HB.out))⟩; have n3 := Aside0.mk (Kd.R_below (Kd.R_mono (ok' := fun k => k ≠ gb) (Kd.R_bound (by (with_reducible repeat (first | apply Kd.R_alloc | apply Kd.R_drewN | apply Kd.R_drew | refine Kd.R_far ?_ (fun _ hk => hk) _)); exact HO.out)) (fun k hk => Nat.ne_of_lt (by rw [hg]; exact hk.2.2.1))) hbb); clear HB HO hbb hbox hg; have HB := n0; have HO := n3; have BK := n1; clear n0 n1 n3; have c0 : wb.cell? ⟨gb, 0, none⟩ = some (.int .i64 0) := (blk_cell BK.out 0).trans rfl; have c1 : wb.cell? ⟨gb, 1, none⟩ = some (.string ⟨#[]⟩) := (blk_cell BK.out 1).trans rfl; have c2 : wb.cell? ⟨gb, 2, none⟩ = some (.int .i64 0) := (blk_cell BK.out 2).trans rfl; have f0 := blk_frozen BK.out 0; have f1 := blk_frozen BK.out 1; have f2 := blk_frozen BK.out 2))
                (have n0 : Aside0 ((((wb.setCell ⟨gb, 0, none⟩ (.int .i64 0)).setCell ⟨gb, 1, none⟩ (.string ⟨#[]⟩)).setCell ⟨gb, 2, none⟩ (.int .i64 (i : Int))).heap[gb]? = some (.cells #[.int .i64 0, .string ⟨#[]⟩, .int .i64 (i : Int)] 35 (0, 0))) := ⟨blk_put (blk_put (blk_put BK.out 0 _ rfl) 1 _ rfl) 2 _ rfl⟩; have n1 : Aside0 (Kd.R k35 35 (((wb.setCell ⟨gb, 0, none⟩ (.int .i64 0)).setCell ⟨gb, 1, none⟩ (.string ⟨#[]⟩)).setCell ⟨gb, 2, none⟩ (.int .i64 (i : Int))) w.heap.size (fun k => k ≠ gb) (.slice A xs.length c) (xs.map tkS)) := ⟨(by (with_reducible repeat (first | apply Kd.R_alloc | apply Kd.R_drewN | apply Kd.R_drew | refine Kd.R_far ?_ (fun _ hk => hk) _)); exact HO.out)⟩; have n2 : Aside0 (Below w.heap.size w (((wb.setCell ⟨gb, 0, none⟩ (.int .i64 0)).setCell ⟨gb, 1, none⟩ (.string ⟨#[]⟩)).setCell ⟨gb, 2, none⟩ (.int .i64 (i : Int)))) := ⟨(by repeat (first | (with_reducible first | exact HB.out | apply below_alloc | apply pw_below_drewN | apply below_drew1 | refine below_set ?_ GE.out) | exact HB.out))⟩; clear BK HO HB c0 c1 c2 f0 f1 f2; generalize (((wb.setCell ⟨gb, 0, none⟩ (.int .i64 0)).setCell ⟨gb, 1, none⟩ (.string ⟨#[]⟩)).setCell ⟨gb, 2, none⟩ (.int .i64 (i : Int))) = w16 at n0 n1 n2 ⊢; have BK := n0; have HO := n1; have HB := n2; clear n0 n1 n2)
                go_loop [6, 10, 11] (fun a b d => ∃ (j n : Nat) (dn : Bool), a = .int .i64 j ∧ b = .int .i64 n ∧ d = .bool dn ∧ j ≤ s.size ∧ n ≤ j ∧ i ≤ j ∧ Aside0 (dn = false → (1 ≤ n ∨ (n = 0 ∧ j = i)) ∧ cmtL (sfx s j) n = Q) ∧ Aside0 (dn = true → i < j ∧ Q = some (sfx s j))) (fun a _ _ => s.size - (intOf a).toNat)
                case atStart => exact ⟨i, 0, false, rfl, rfl, rfl, by omega, by omega, by omega, ⟨fun _ => ⟨.inr ⟨rfl, rfl⟩, HQ.out.symm⟩⟩, ⟨fun h => by cases h⟩⟩
                case round =>
                  obtain ⟨j, n, dn, rfl, rfl, rfl, hj, hn, hij, HA, HC⟩ := hrel
                  cases dn with
                  | true =>
                    as_aux_lemma =>
                      obtain ⟨hlt2, hq⟩ := HC.out rfl
                      have hP3 : nextL (sfx s i) = .skip (sfx s j) := by rw [HP2.out, hq]; rfl
                      obtain ⟨hs1, hs2⟩ := lex_skip s i hlt xs hP3
                      rw [sfx_len, show s.size - (s.size - j) = j by omega] at hs1
                      have HR2 := Aside0.mk (HR.out.trans hs1)
                      clear hs1 hs2 hP3 HR HA HC hq
                      by_cases hj2 : j < s.size
                      all_goals
                        go_wp2
                        go_roundw
                        case rel => exact ⟨xs, j, A, c, hj, rfl, rfl, hx, HR2, ⟨Kd.R_mono (by (with_reducible repeat (first | apply Kd.R_alloc | apply Kd.R_drewN | apply Kd.R_drew | refine Kd.R_far ?_ (fun _ hk => hk) _)); exact HO.out) (fun _ _ => trivial)⟩, ⟨(by repeat (first | (with_reducible first | exact HB.out | apply below_alloc | apply pw_below_drewN | apply below_drew1 | refine below_set ?_ GE.out) | exact HB.out))⟩⟩
                        case measure => simp [intOf]; omega
                  | false =>
                    obtain ⟨hn0, hq⟩ := HA.out rfl
                    by_cases hj2 : j < s.size
                    · have hst := cmt_step s j n hj2
                      rw [hq] at hst
                      clear HA HC
                      as_aux_lemma =>
                        by_cases hb2 : j + 1 < s.size
                        · rw [dif_pos hb2] at hst
                          have hb2i : (j : Int) + 1 < (s.size : Int) := by omega
                          by_cases a1 : s[j] = 37
                          · have t1 : ((s[j].toNat : Int) == 37) = true := by rw [a1]; rfl
                            by_cases c1 : s[j + 1] = 123
                            · have t2 : ((s[j + 1].toNat : Int) == 123) = true := by rw [c1]; rfl
                              rw [if_pos ⟨a1, c1⟩] at hst
                              have hdef := Aside0.mk hst.symm
                              clear hst a1 c1 hq hn0
                              go_wp2
                              refine ⟨⟨j + 2, n + 1, false, by go_num, by go_num, rfl, by omega, by omega, by omega, ⟨fun _ => ⟨.inl (by omega), hdef.out⟩⟩, ⟨fun h => by cases h⟩⟩, by simp [intOf]; omega⟩
                            · have hn1 : 1 ≤ n := by
                                rcases hn0 with h | ⟨_, h⟩
                                · exact h
                                · subst h; exact absurd H0.out.2 c1
                              have t2 : ((s[j + 1].toNat : Int) == 123) = false := by rw [beq_eq_false_iff_ne]; intro h; exact c1 (UInt8.toNat_inj.1 (by simpa using Int.ofNat.inj h))
                              have t3 : ((s[j].toNat : Int) == 125) = false := by rw [a1]; rfl
                              rw [if_neg (by simp [c1]), if_neg (by simp [a1])] at hst
                              have hdef := Aside0.mk hst.symm
                              clear hst a1 c1 hq hn0
                              go_wp2
                              refine ⟨⟨j + 1, n, false, by go_num, rfl, rfl, by omega, by omega, by omega, ⟨fun _ => ⟨.inl hn1, hdef.out⟩⟩, ⟨fun h => by cases h⟩⟩, by simp [intOf]; omega⟩
                          · have t1 : ((s[j].toNat : Int) == 37) = false := by rw [beq_eq_false_iff_ne]; intro h; exact a1 (UInt8.toNat_inj.1 (by simpa using Int.ofNat.inj h))
                            have hn1 : 1 ≤ n := by
                              rcases hn0 with h | ⟨_, h⟩
                              · exact h
                              · subst h; exact absurd H0.out.1 a1
                            rw [if_neg (by simp [a1])] at hst
                            by_cases a2 : s[j] = 125
                            · have t3 : ((s[j].toNat : Int) == 125) = true := by rw [a2]; rfl
                              by_cases c2 : s[j + 1] = 37
                              · have t4 : ((s[j + 1].toNat : Int) == 37) = true := by rw [c2]; rfl
                                rw [if_pos ⟨a2, c2⟩] at hst
                                obtain ⟨m, rfl⟩ : ∃ m, n = m + 1 := ⟨n - 1, by omega⟩
                                by_cases hm : m = 0
                                · subst hm
                                  rw [if_pos rfl] at hst
                                  have hdef := Aside0.mk hst
                                  clear hst a1 a2 c2 hq hn0 hn1
                                  go_wp2
                                  refine ⟨⟨j + 2, 0, true, by go_num, rfl, rfl, by omega, by omega, by omega, ⟨fun h => by cases h⟩, ⟨fun _ => ⟨by omega, hdef.out⟩⟩⟩, by simp [intOf]; omega⟩
                                · rw [if_neg (by omega)] at hst
                                  have hdef := Aside0.mk hst.symm
                                  have hm0 : ((m : Int) == 0) = false := by rw [beq_eq_false_iff_ne]; omega
                                  clear hst a1 a2 c2 hq hn0 hn1
                                  go_wp2
                                  refine ⟨⟨j + 2, m, false, by go_num, by go_num, rfl, by omega, by omega, by omega, ⟨fun _ => ⟨.inl (by omega), hdef.out⟩⟩, ⟨fun h => by cases h⟩⟩, by simp [intOf]; omega⟩
                              · have t4 : ((s[j + 1].toNat : Int) == 37) = false := by rw [beq_eq_false_iff_ne]; intro h; exact c2 (UInt8.toNat_inj.1 (by simpa using Int.ofNat.inj h))
                                rw [if_neg (by simp [c2])] at hst
                                have hdef := Aside0.mk hst.symm
                                clear hst a1 a2 c2 hq hn0
                                go_wp2
                                refine ⟨⟨j + 1, n, false, by go_num, rfl, rfl, by omega, by omega, by omega, ⟨fun _ => ⟨.inl hn1, hdef.out⟩⟩, ⟨fun h => by cases h⟩⟩, by simp [intOf]; omega⟩
                            · have t3 : ((s[j].toNat : Int) == 125) = false := by rw [beq_eq_false_iff_ne]; intro h; exact a2 (UInt8.toNat_inj.1 (by simpa using Int.ofNat.inj h))
                              rw [if_neg (by simp [a2])] at hst
                              have hdef := Aside0.mk hst.symm
                              clear hst a1 a2 hq hn0
                              go_wp2
                              refine ⟨⟨j + 1, n, false, by go_num, rfl, rfl, by omega, by omega, by omega, ⟨fun _ => ⟨.inl hn1, hdef.out⟩⟩, ⟨fun h => by cases h⟩⟩, by simp [intOf]; omega⟩
                        · rw [dif_neg hb2] at hst
                          have hb2d : decide ((j : Int) + 1 < (s.size : Int)) = false := decide_eq_false (by omega)
                          have hn1 : 1 ≤ n := by
                            rcases hn0 with h | ⟨_, h⟩
                            · exact h
                            · subst h; omega
                          have hdef : Aside0 (cmtL (sfx s (j + 1)) n = Q) := ⟨by rw [sfx_nil s (j + 1) (by omega)]; exact hst.symm⟩
                          clear hst hq hn0
                          by_cases a1 : s[j] = 37
                          · have t1 : ((s[j].toNat : Int) == 37) = true := by rw [a1]; rfl
                            have t3 : ((s[j].toNat : Int) == 125) = false := by rw [a1]; rfl
                            clear a1
                            go_wp2
                            refine ⟨⟨j + 1, n, false, by go_num, rfl, rfl, by omega, by omega, by omega, ⟨fun _ => ⟨.inl hn1, hdef.out⟩⟩, ⟨fun h => by cases h⟩⟩, by simp [intOf]; omega⟩
                          · have t1 : ((s[j].toNat : Int) == 37) = false := by rw [beq_eq_false_iff_ne]; intro h; exact a1 (UInt8.toNat_inj.1 (by simpa using Int.ofNat.inj h))
                            clear a1
                            by_cases a2 : s[j] = 125
                            · have t3 : ((s[j].toNat : Int) == 125) = true := by rw [a2]; rfl
                              clear a2
                              go_wp2
                              refine ⟨⟨j + 1, n, false, by go_num, rfl, rfl, by omega, by omega, by omega, ⟨fun _ => ⟨.inl hn1, hdef.out⟩⟩, ⟨fun h => by cases h⟩⟩, by simp [intOf]; omega⟩
                            · have t3 : ((s[j].toNat : Int) == 125) = false := by rw [beq_eq_false_iff_ne]; intro h; exact a2 (UInt8.toNat_inj.1 (by simpa using Int.ofNat.inj h))
                              clear a2
                              go_wp2
                              refine ⟨⟨j + 1, n, false, by go_num, rfl, rfl, by omega, by omega, by omega, ⟨fun _ => ⟨.inl hn1, hdef.out⟩⟩, ⟨fun h => by cases h⟩⟩, by simp [intOf]; omega⟩
                    · have hP3 : nextL (sfx s i) = .err 11 := by
                        rw [HP2.out, ← hq, sfx_nil s j (by omega)]; rfl
                      obtain ⟨hs1, hs2⟩ := lex_err s i hlt xs hP3
                      have HR2 := HR.out.trans hs1
                      subst HR2
                      clear hs1 hs2 hP3 HR HA HC hq hn0
                      go_wp2
                      go_ret3
                      exact ⟨none, 0, rfl, Nat.le_refl _, read_nil _, (by repeat (first | (with_reducible first | exact HB.out | apply below_alloc | apply pw_below_drewN | apply below_drew1 | refine below_set ?_ GE.out) | exact HB.out))⟩
              · have hPw : pctL (sfx s (i + 1)) = if (sfx s (i + 1)).takeWhile isLetter = [] then .skip ((sfx s (i + 1)).dropWhile notNl) else if 64 < ((sfx s (i + 1)).takeWhile isLetter).length then .err 12 else .tok 3 ((sfx s (i + 1)).takeWhile isLetter) ((sfx s (i + 1)).dropWhile isLetter) := by
                  unfold pctL; rw [if_neg ho]
                rw [hPw] at hP
                clear hPw
                by_cases h1 : i + 1 < s.size
                · have h1i : (i : Int) + 1 < (s.size : Int) := by omega
                  have hb1 : s[i + 1] ≠ 123 := by intro h; rw [sfx_cons s (i + 1) h1, h] at ho; exact ho rfl
                  have hc123 : ((s[i + 1].toNat : Int) == 123) = false := (by rw [beq_eq_false_iff_ne]; intro h; exact hb1 (UInt8.toNat_inj.1 (by simpa using Int.ofNat.inj h)))
                  clear hb1
                  cases hL : isLetter s[i + 1] with
                  | true =>
                    as_aux_lemma =>
                      have hL2 : decide ((97 : Int) ≤ (s[i + 1].toNat : Int)) = true ∧ decide ((s[i + 1].toNat : Int) ≤ 122) = true := by
                        simp [isLetter] at hL ⊢; omega
                      obtain ⟨hd1, hd2⟩ := hL2
                      have hne : (sfx s (i + 1)).takeWhile isLetter ≠ [] := by rw [sfx_cons s (i + 1) h1, List.takeWhile_cons_of_pos hL]; simp
                      rw [if_neg hne] at hP
                      obtain ⟨b1, b2, b3, b4⟩ := runEnd_sfx isLetter s (i + 1) (by omega)
                      obtain ⟨T, hT⟩ : ∃ T, T = (sfx s (i + 1)).takeWhile isLetter := ⟨_, rfl⟩
                      obtain ⟨r, hr⟩ : ∃ r, r = (sfx s (i + 1)).dropWhile isLetter := ⟨_, rfl⟩
                      obtain ⟨B, hB⟩ : ∃ B : ByteArray, B = ⟨T.toArray⟩ := ⟨_, rfl⟩
                      rw [← hT, ← hr] at hP
                      have HP2 := Aside0.mk hP
                      have HBS : Aside0 (B.size = T.length) := ⟨by rw [hB]; rfl⟩
                      have HBT := Aside0.mk hB
                      obtain ⟨E, hE⟩ : ∃ E, E = runEnd isLetter s (i + 1) := ⟨_, rfl⟩
                      have hsl : ∀ w, (Instr.slice 9 (.string s) (some (.int .i64 ((i : Int) + 1))) (some (.int .i64 (E : Nat))) none).run Tryd.prog w = .ok (.string B) w := by
                        intro w
                        rw [run_slice_string w 9 s .i64 .i64 _ _ Tryd.underlying9 (by omega) (by omega) (by omega), show ((i : Int) + 1).toNat = i + 1 by omega, Int.toNat_natCast, extract_mk, hE, b4, hB, hT]
                      have HE2 : Aside0 (s.size - r.length = E) := ⟨by rw [hr, ← b3, sfx_len, hE]; omega⟩
                      rw [← hE] at b1 b2
                      have HE := Aside0.mk hE
                      have HSL := Aside0.mk hsl
                      clear hP hT hr hB hE b3 b4 hne hL CN hpk ho h37 hsl
                      go_wp2_with (first | (go_at_call 85; (with_reducible refine (CB.out _).mono ?_); rintro e w' ⟨rfl, ⟨nd, rfl⟩⟩) | (go_at_call 86; (with_reducible refine (CS.out _).mono ?_); rintro e w' ⟨rfl, ⟨nd2, rfl⟩⟩) | ((with_reducible refine gate_dst (N := 9) rfl ?_); refine box_event ?hg (N := 9) ?hd (cs := #[.int .i64 0, .string ⟨#[]⟩, .int .i64 0]) (t := 35) ?hr ?_; (case hd => rfl); (case hg => rfl); (case hr => first | (go_simp; done) | (go_simp; rfl)); intro gb hg wb hbox hbb; have n0 := Aside0.mk (below_step (by repeat (first | (with_reducible first | exact HB.out | apply below_alloc | apply pw_below_drewN | apply below_drew1 | refine below_set ?_ GE.out) | exact HB.out)) hbb); have n1 := Aside0.mk hbox; have GE : Aside0 (w.heap.size ≤ gb) := ⟨by rw [hg]; exact below_size (by repeat (first | (with_reducible first | exact HB.out | apply below_alloc | apply pw_below_drewN | apply below_drew1 | refine below_set ?_ GE.out) | exact HB.out))⟩; have n3 := Aside0.mk (Kd.R_below (Kd.R_mono (ok' := fun k => k ≠ gb) (Kd.R_bound (by (with_reducible repeat (first | apply Kd.R_alloc | apply Kd.R_drewN | apply Kd.R_drew | refine Kd.R_far ?_ (fun _ hk => hk) _)); exact HO.out)) (fun k hk => Nat.ne_of_lt (by rw [hg]; exact hk.2.2.1))) hbb); clear HB HO hbb hbox hg; have HB := n0; have HO := n3; have BK := n1; clear n0 n1 n3; have c0 : wb.cell? ⟨gb, 0, none⟩ = some (.int .i64 0) := (blk_cell BK.out 0).trans rfl; have c1 : wb.cell? ⟨gb, 1, none⟩ = some (.string ⟨#[]⟩) := (blk_cell BK.out 1).trans rfl; have c2 : wb.cell? ⟨gb, 2, none⟩ = some (.int .i64 0) := (blk_cell BK.out 2).trans rfl; have f0 := blk_frozen BK.out 0; have f1 := blk_frozen BK.out 1; have f2 := blk_frozen BK.out 2))
                      (have n0 : Aside0 ((((wb.setCell ⟨gb, 0, none⟩ (.int .i64 0)).setCell ⟨gb, 1, none⟩ (.string ⟨#[]⟩)).setCell ⟨gb, 2, none⟩ (.int .i64 (i : Int))).heap[gb]? = some (.cells #[.int .i64 0, .string ⟨#[]⟩, .int .i64 (i : Int)] 35 (0, 0))) := ⟨blk_put (blk_put (blk_put BK.out 0 _ rfl) 1 _ rfl) 2 _ rfl⟩; have n1 : Aside0 (Kd.R k35 35 (((wb.setCell ⟨gb, 0, none⟩ (.int .i64 0)).setCell ⟨gb, 1, none⟩ (.string ⟨#[]⟩)).setCell ⟨gb, 2, none⟩ (.int .i64 (i : Int))) w.heap.size (fun k => k ≠ gb) (.slice A xs.length c) (xs.map tkS)) := ⟨(by (with_reducible repeat (first | apply Kd.R_alloc | apply Kd.R_drewN | apply Kd.R_drew | refine Kd.R_far ?_ (fun _ hk => hk) _)); exact HO.out)⟩; have n2 : Aside0 (Below w.heap.size w (((wb.setCell ⟨gb, 0, none⟩ (.int .i64 0)).setCell ⟨gb, 1, none⟩ (.string ⟨#[]⟩)).setCell ⟨gb, 2, none⟩ (.int .i64 (i : Int)))) := ⟨(by repeat (first | (with_reducible first | exact HB.out | apply below_alloc | apply pw_below_drewN | apply below_drew1 | refine below_set ?_ GE.out) | exact HB.out))⟩; clear BK HO HB c0 c1 c2 f0 f1 f2; generalize (((wb.setCell ⟨gb, 0, none⟩ (.int .i64 0)).setCell ⟨gb, 1, none⟩ (.string ⟨#[]⟩)).setCell ⟨gb, 2, none⟩ (.int .i64 (i : Int))) = w16 at n0 n1 n2 ⊢; have BK := n0; have HO := n1; have HB := n2; clear n0 n1 n2)
                      go_loop [6] (fun a => ∃ (j : Nat), a = .int .i64 j ∧ j ≤ s.size ∧ i + 1 ≤ j ∧ Aside0 (E = runEnd isLetter s j)) (fun a => s.size - (intOf a).toNat)
                      case atStart => exact ⟨i + 1, by go_num, by omega, by omega, HE⟩
                      case round =>
                        obtain ⟨j, rfl, hj, hij, HA⟩ := hrel
                        by_cases hj2 : j < s.size
                        · cases hLj : isLetter s[j] with
                          | true =>
                            have hL3 : decide ((97 : Int) ≤ (s[j].toNat : Int)) = true ∧ decide ((s[j].toNat : Int) ≤ 122) = true := by
                              simp [isLetter] at hLj ⊢; omega
                            obtain ⟨hd3, hd4⟩ := hL3
                            have HE3 := Aside0.mk (HA.out.trans (runEnd_yes (p := isLetter) hj2 hLj))
                            clear hLj HA
                            go_wp2
                            refine ⟨⟨j + 1, by go_num, by omega, by omega, HE3⟩, by simp [intOf]; omega⟩
                          | false =>
                            have hst := HA.out.trans (runEnd_no (p := isLetter) hj2 hLj)
                            rw [hst] at HSL HE2
                            have hL3 : (decide ((97 : Int) ≤ (s[j].toNat : Int)) = true ∧ decide ((s[j].toNat : Int) ≤ 122) = false) ∨ decide ((97 : Int) ≤ (s[j].toNat : Int)) = false := by
                              simp [isLetter] at hLj ⊢; omega
                            clear hLj HA HE hst b1 b2
                            rcases hL3 with ⟨hd3, hd4⟩ | hd3
                            · --
                              as_aux_lemma =>
                                (have c0 : w16.cell? ⟨gb, 0, none⟩ = some (.int .i64 0) := (blk_cell BK.out 0).trans rfl; have c1 : w16.cell? ⟨gb, 1, none⟩ = some (.string ⟨#[]⟩) := (blk_cell BK.out 1).trans rfl; have c2 : w16.cell? ⟨gb, 2, none⟩ = some (.int .i64 (i : Int)) := (blk_cell BK.out 2).trans rfl; have f0 := blk_frozen BK.out 0; have f1 := blk_frozen BK.out 1)
                                go_wp2_with fail
                                have hsl := HSL.out
                                go_big_region
                                by_cases h64 : 64 < B.size
                                · have hd64 : decide ((64 : Int) < (B.size : Int)) = true := decide_eq_true (by omega)
                                  have hP3 : nextL (sfx s i) = .err 12 := by rw [HP2.out, if_pos (by rw [← HBS.out]; exact h64)]
                                  obtain ⟨hs1, hs2⟩ := lex_err s i hlt xs hP3
                                  have HR2 := HR.out.trans hs1
                                  subst HR2
                                  clear hs1 hs2 hP3 HR h64
                                  go_wp2
                                  go_ret3
                                  exact ⟨none, 0, rfl, Nat.le_refl _, read_nil _, (by repeat (first | (with_reducible first | exact HB.out | apply below_alloc | apply pw_below_drewN | apply below_drew1 | refine below_set ?_ GE.out) | exact HB.out))⟩
                                · have hd64 : decide ((64 : Int) < (B.size : Int)) = false := decide_eq_false (by omega)
                                  have hP3 : nextL (sfx s i) = .tok 3 T r := by rw [HP2.out, if_neg (by rw [← HBS.out]; exact h64)]
                                  obtain ⟨hs1, hs2, hs3, hs4⟩ := lex_tok s i hlt xs hP3
                                  rw [HE2.out] at hs2 hs3
                                  by_cases hm : xs.length = 20000
                                  · have HR2 := HR.out.trans (hs1 hm)
                                    subst HR2
                                    have hm2 : (((xs.length : Nat) : Int) == 20000) = true := by rw [beq_iff_eq]; omega
                                    clear hs1 hs2 HR hm hP3 h64
                                    go_wp2
                                    go_ret3
                                    exact ⟨none, 0, rfl, Nat.le_refl _, read_nil _, (by repeat (first | (with_reducible first | exact HB.out | apply below_alloc | apply pw_below_drewN | apply below_drew1 | refine below_set ?_ GE.out) | exact HB.out))⟩
                                  · have HR2 := Aside0.mk (HR.out.trans (hs2 hm))
                                    have hm2 : (((xs.length : Nat) : Int) == 20000) = false := by rw [beq_eq_false_iff_ne]; omega
                                    have hm3 : xs.length < 20000 := by omega
                                    clear hs1 hs2 HR hm hP3 h64
                                    go_wp2_with (at_builtin; refine Kd.R_append k35 (w0 := w) w.heap.size rfl (.tmp 220) (.tmp 222) 28 35 (.agg #[(.int .i64 0), (.string ⟨#[]⟩), (.int .i64 0)]) 32 rfl Tryd.underlying28 info35 rfl (by decide) (by omega) (.slice A xs.length c) (xs.map tkS) (⟨3, B, i⟩ : S35) [.int .i64 3, .string B, .int .i64 i] (fun k => k ≠ gb) (fun _ => False) rfl ?aX ?aP (fun _ hk => hk.elim) ?aF ?aO ?aB ?aS ?aL ?_; (case aP => exact k35_mkM _ _ _ (⟨3, B, i⟩ : S35)); (case aX => simp [go_sem]); (case aF => intro k hk; have hlt2 := blk_lt BK.out; simp at hk; omega); (case aO => exact (by (with_reducible repeat (first | apply Kd.R_alloc | apply Kd.R_drewN | apply Kd.R_drew | refine Kd.R_far ?_ (fun _ hk => hk) _)); exact HO.out)); (case aB => exact (by repeat (first | (with_reducible first | exact HB.out | apply below_alloc | apply pw_below_drewN | apply below_drew1 | refine below_set ?_ GE.out) | exact HB.out))); (case aS => exact below_size (by repeat (first | (with_reducible first | exact HB.out | apply below_alloc | apply pw_below_drewN | apply below_drew1 | refine below_set ?_ GE.out) | exact HB.out))); (case aL => simp; omega); intro v1 w1 ho hb hg hat; have HO1 := Aside0.mk ho; have HB1 := Aside0.mk hb; clear ho hb hg hat)
                                    obtain ⟨A1, c3, ev2, HO2⟩ := own_out (t := ⟨3, T, i⟩) (by rw [HBT.out]; rfl) HO1.out
                                    subst ev2
                                    go_roundw
                                    case rel => exact ⟨xs ++ [⟨3, T, i⟩], j, A1, c3, by omega, rfl, rfl, by simp; omega, HR2, HO2, HB1⟩
                                    case measure => simp [intOf]; omega
                            · --
                              as_aux_lemma =>
                                (have c0 : w16.cell? ⟨gb, 0, none⟩ = some (.int .i64 0) := (blk_cell BK.out 0).trans rfl; have c1 : w16.cell? ⟨gb, 1, none⟩ = some (.string ⟨#[]⟩) := (blk_cell BK.out 1).trans rfl; have c2 : w16.cell? ⟨gb, 2, none⟩ = some (.int .i64 (i : Int)) := (blk_cell BK.out 2).trans rfl; have f0 := blk_frozen BK.out 0; have f1 := blk_frozen BK.out 1)
                                go_wp2_with fail
                                have hsl := HSL.out
                                go_big_region
                                by_cases h64 : 64 < B.size
                                · have hd64 : decide ((64 : Int) < (B.size : Int)) = true := decide_eq_true (by omega)
                                  have hP3 : nextL (sfx s i) = .err 12 := by rw [HP2.out, if_pos (by rw [← HBS.out]; exact h64)]
                                  obtain ⟨hs1, hs2⟩ := lex_err s i hlt xs hP3
                                  have HR2 := HR.out.trans hs1
                                  subst HR2
                                  clear hs1 hs2 hP3 HR h64
                                  go_wp2
                                  go_ret3
                                  exact ⟨none, 0, rfl, Nat.le_refl _, read_nil _, (by repeat (first | (with_reducible first | exact HB.out | apply below_alloc | apply pw_below_drewN | apply below_drew1 | refine below_set ?_ GE.out) | exact HB.out))⟩
                                · have hd64 : decide ((64 : Int) < (B.size : Int)) = false := decide_eq_false (by omega)
                                  have hP3 : nextL (sfx s i) = .tok 3 T r := by rw [HP2.out, if_neg (by rw [← HBS.out]; exact h64)]
                                  obtain ⟨hs1, hs2, hs3, hs4⟩ := lex_tok s i hlt xs hP3
                                  rw [HE2.out] at hs2 hs3
                                  by_cases hm : xs.length = 20000
                                  · have HR2 := HR.out.trans (hs1 hm)
                                    subst HR2
                                    have hm2 : (((xs.length : Nat) : Int) == 20000) = true := by rw [beq_iff_eq]; omega
                                    clear hs1 hs2 HR hm hP3 h64
                                    go_wp2
                                    go_ret3
                                    exact ⟨none, 0, rfl, Nat.le_refl _, read_nil _, (by repeat (first | (with_reducible first | exact HB.out | apply below_alloc | apply pw_below_drewN | apply below_drew1 | refine below_set ?_ GE.out) | exact HB.out))⟩
                                  · have HR2 := Aside0.mk (HR.out.trans (hs2 hm))
                                    have hm2 : (((xs.length : Nat) : Int) == 20000) = false := by rw [beq_eq_false_iff_ne]; omega
                                    have hm3 : xs.length < 20000 := by omega
                                    clear hs1 hs2 HR hm hP3 h64
                                    go_wp2_with (at_builtin; refine Kd.R_append k35 (w0 := w) w.heap.size rfl (.tmp 220) (.tmp 222) 28 35 (.agg #[(.int .i64 0), (.string ⟨#[]⟩), (.int .i64 0)]) 32 rfl Tryd.underlying28 info35 rfl (by decide) (by omega) (.slice A xs.length c) (xs.map tkS) (⟨3, B, i⟩ : S35) [.int .i64 3, .string B, .int .i64 i] (fun k => k ≠ gb) (fun _ => False) rfl ?aX ?aP (fun _ hk => hk.elim) ?aF ?aO ?aB ?aS ?aL ?_; (case aP => exact k35_mkM _ _ _ (⟨3, B, i⟩ : S35)); (case aX => simp [go_sem]); (case aF => intro k hk; have hlt2 := blk_lt BK.out; simp at hk; omega); (case aO => exact (by (with_reducible repeat (first | apply Kd.R_alloc | apply Kd.R_drewN | apply Kd.R_drew | refine Kd.R_far ?_ (fun _ hk => hk) _)); exact HO.out)); (case aB => exact (by repeat (first | (with_reducible first | exact HB.out | apply below_alloc | apply pw_below_drewN | apply below_drew1 | refine below_set ?_ GE.out) | exact HB.out))); (case aS => exact below_size (by repeat (first | (with_reducible first | exact HB.out | apply below_alloc | apply pw_below_drewN | apply below_drew1 | refine below_set ?_ GE.out) | exact HB.out))); (case aL => simp; omega); intro v1 w1 ho hb hg hat; have HO1 := Aside0.mk ho; have HB1 := Aside0.mk hb; clear ho hb hg hat)
                                    obtain ⟨A1, c3, ev2, HO2⟩ := own_out (t := ⟨3, T, i⟩) (by rw [HBT.out]; rfl) HO1.out
                                    subst ev2
                                    go_roundw
                                    case rel => exact ⟨xs ++ [⟨3, T, i⟩], j, A1, c3, by omega, rfl, rfl, by simp; omega, HR2, HO2, HB1⟩
                                    case measure => simp [intOf]; omega
                        · have hst := HA.out.trans (runEnd_stop (p := isLetter) (s := s) hj2)
                          rw [hst] at HSL HE2
                          clear HA HE hst b1 b2
                          as_aux_lemma =>
                            (have c0 : w16.cell? ⟨gb, 0, none⟩ = some (.int .i64 0) := (blk_cell BK.out 0).trans rfl; have c1 : w16.cell? ⟨gb, 1, none⟩ = some (.string ⟨#[]⟩) := (blk_cell BK.out 1).trans rfl; have c2 : w16.cell? ⟨gb, 2, none⟩ = some (.int .i64 (i : Int)) := (blk_cell BK.out 2).trans rfl; have f0 := blk_frozen BK.out 0; have f1 := blk_frozen BK.out 1)
                            go_wp2_with fail
                            have hsl := HSL.out
                            go_big_region
                            by_cases h64 : 64 < B.size
                            · have hd64 : decide ((64 : Int) < (B.size : Int)) = true := decide_eq_true (by omega)
                              have hP3 : nextL (sfx s i) = .err 12 := by rw [HP2.out, if_pos (by rw [← HBS.out]; exact h64)]
                              obtain ⟨hs1, hs2⟩ := lex_err s i hlt xs hP3
                              have HR2 := HR.out.trans hs1
                              subst HR2
                              clear hs1 hs2 hP3 HR h64
                              go_wp2
                              go_ret3
                              exact ⟨none, 0, rfl, Nat.le_refl _, read_nil _, (by repeat (first | (with_reducible first | exact HB.out | apply below_alloc | apply pw_below_drewN | apply below_drew1 | refine below_set ?_ GE.out) | exact HB.out))⟩
                            · have hd64 : decide ((64 : Int) < (B.size : Int)) = false := decide_eq_false (by omega)
                              have hP3 : nextL (sfx s i) = .tok 3 T r := by rw [HP2.out, if_neg (by rw [← HBS.out]; exact h64)]
                              obtain ⟨hs1, hs2, hs3, hs4⟩ := lex_tok s i hlt xs hP3
                              rw [HE2.out] at hs2 hs3
                              by_cases hm : xs.length = 20000
                              · have HR2 := HR.out.trans (hs1 hm)
                                subst HR2
                                have hm2 : (((xs.length : Nat) : Int) == 20000) = true := by rw [beq_iff_eq]; omega
                                clear hs1 hs2 HR hm hP3 h64
                                go_wp2
                                go_ret3
                                exact ⟨none, 0, rfl, Nat.le_refl _, read_nil _, (by repeat (first | (with_reducible first | exact HB.out | apply below_alloc | apply pw_below_drewN | apply below_drew1 | refine below_set ?_ GE.out) | exact HB.out))⟩
                              · have HR2 := Aside0.mk (HR.out.trans (hs2 hm))
                                have hm2 : (((xs.length : Nat) : Int) == 20000) = false := by rw [beq_eq_false_iff_ne]; omega
                                have hm3 : xs.length < 20000 := by omega
                                clear hs1 hs2 HR hm hP3 h64
                                go_wp2_with (at_builtin; refine Kd.R_append k35 (w0 := w) w.heap.size rfl (.tmp 220) (.tmp 222) 28 35 (.agg #[(.int .i64 0), (.string ⟨#[]⟩), (.int .i64 0)]) 32 rfl Tryd.underlying28 info35 rfl (by decide) (by omega) (.slice A xs.length c) (xs.map tkS) (⟨3, B, i⟩ : S35) [.int .i64 3, .string B, .int .i64 i] (fun k => k ≠ gb) (fun _ => False) rfl ?aX ?aP (fun _ hk => hk.elim) ?aF ?aO ?aB ?aS ?aL ?_; (case aP => exact k35_mkM _ _ _ (⟨3, B, i⟩ : S35)); (case aX => simp [go_sem]); (case aF => intro k hk; have hlt2 := blk_lt BK.out; simp at hk; omega); (case aO => exact (by (with_reducible repeat (first | apply Kd.R_alloc | apply Kd.R_drewN | apply Kd.R_drew | refine Kd.R_far ?_ (fun _ hk => hk) _)); exact HO.out)); (case aB => exact (by repeat (first | (with_reducible first | exact HB.out | apply below_alloc | apply pw_below_drewN | apply below_drew1 | refine below_set ?_ GE.out) | exact HB.out))); (case aS => exact below_size (by repeat (first | (with_reducible first | exact HB.out | apply below_alloc | apply pw_below_drewN | apply below_drew1 | refine below_set ?_ GE.out) | exact HB.out))); (case aL => simp; omega); intro v1 w1 ho hb hg hat; have HO1 := Aside0.mk ho; have HB1 := Aside0.mk hb; clear ho hb hg hat)
                                obtain ⟨A1, c3, ev2, HO2⟩ := own_out (t := ⟨3, T, i⟩) (by rw [HBT.out]; rfl) HO1.out
                                subst ev2
                                go_roundw
                                case rel => exact ⟨xs ++ [⟨3, T, i⟩], j, A1, c3, by omega, rfl, rfl, by simp; omega, HR2, HO2, HB1⟩
                                case measure => simp [intOf]; omega
                  | false =>
                    have h0 : (sfx s (i + 1)).takeWhile isLetter = [] := by rw [sfx_cons s (i + 1) h1, List.takeWhile_cons_of_neg (by rw [hL]; exact Bool.false_ne_true)]
                    rw [if_pos h0] at hP
                    as_aux_lemma =>
                      obtain ⟨n1, n2, n3, n4⟩ := runEnd_sfx notNl s i (by omega)
                      have hn : (sfx s i).dropWhile notNl = (sfx s (i + 1)).dropWhile notNl := by
                        rw [sfx_cons s i hlt, h37]; rfl
                      rw [hn] at n3
                      obtain ⟨hs1, hs2⟩ := lex_skip s i hlt xs hP
                      rw [← n3, sfx_len, show s.size - (s.size - runEnd notNl s i) = runEnd notNl s i by omega] at hs1
                      rw [← n3, sfx_len] at hs2
                      have HR2 := Aside0.mk (HR.out.trans hs1)
                      clear hs1 n3 n4 hn hP h37 CN hpk ho h0
                      have hL2 : (decide ((97 : Int) ≤ (s[i + 1].toNat : Int)) = true ∧ decide ((s[i + 1].toNat : Int) ≤ 122) = false) ∨ decide ((97 : Int) ≤ (s[i + 1].toNat : Int)) = false := by
                        simp [isLetter] at hL ⊢; omega
                      clear hL
                      rcases hL2 with ⟨hd1, hd2⟩ | hd1
                      all_goals
                        go_wp2_with (first | (go_at_call 85; (with_reducible refine (CB.out _).mono ?_); rintro e w' ⟨rfl, ⟨nd, rfl⟩⟩) | (go_at_call 86; (with_reducible refine (CS.out _).mono ?_); rintro e w' ⟨rfl, ⟨nd2, rfl⟩⟩) | ((with_reducible refine gate_dst (N := 9) rfl ?_); refine box_event ?hg (N := 9) ?hd (cs := #[.int .i64 0, .string ⟨#[]⟩, .int .i64 0]) (t := 35) ?hr ?_; (case hd => rfl); (case hg => rfl); (case hr => first | (go_simp; done) | (go_simp; rfl)); intro gb hg wb hbox hbb; have n0 := Aside0.mk (below_step (by repeat (first | (with_reducible first | exact HB.out | apply below_alloc | apply pw_below_drewN | apply below_drew1 | refine below_set ?_ GE.out) | exact HB.out)) hbb); have n1 := Aside0.mk hbox; have GE : Aside0 (w.heap.size ≤ gb) := ⟨by rw [hg]; exact below_size (by repeat (first | (with_reducible first | exact HB.out | apply below_alloc | apply pw_below_drewN | apply below_drew1 | refine below_set ?_ GE.out) | exact HB.out))⟩; have n3 := Aside0.mk (Kd.R_below (Kd.R_mono (ok' := fun k => k ≠ gb) (Kd.R_bound (by (with_reducible repeat (first | apply Kd.R_alloc | apply Kd.R_drewN | apply Kd.R_drew | refine Kd.R_far ?_ (fun _ hk => hk) _)); exact HO.out)) (fun k hk => Nat.ne_of_lt (by rw [hg]; exact hk.2.2.1))) hbb); clear HB HO hbb hbox hg; have HB := n0; have HO := n3; have BK := n1; clear n0 n1 n3; have c0 : wb.cell? ⟨gb, 0, none⟩ = some (.int .i64 0) := (blk_cell BK.out 0).trans rfl; have c1 : wb.cell? ⟨gb, 1, none⟩ = some (.string ⟨#[]⟩) := (blk_cell BK.out 1).trans rfl; have c2 : wb.cell? ⟨gb, 2, none⟩ = some (.int .i64 0) := (blk_cell BK.out 2).trans rfl; have f0 := blk_frozen BK.out 0; have f1 := blk_frozen BK.out 1; have f2 := blk_frozen BK.out 2))
                        (have n0 : Aside0 ((((wb.setCell ⟨gb, 0, none⟩ (.int .i64 0)).setCell ⟨gb, 1, none⟩ (.string ⟨#[]⟩)).setCell ⟨gb, 2, none⟩ (.int .i64 (i : Int))).heap[gb]? = some (.cells #[.int .i64 0, .string ⟨#[]⟩, .int .i64 (i : Int)] 35 (0, 0))) := ⟨blk_put (blk_put (blk_put BK.out 0 _ rfl) 1 _ rfl) 2 _ rfl⟩; have n1 : Aside0 (Kd.R k35 35 (((wb.setCell ⟨gb, 0, none⟩ (.int .i64 0)).setCell ⟨gb, 1, none⟩ (.string ⟨#[]⟩)).setCell ⟨gb, 2, none⟩ (.int .i64 (i : Int))) w.heap.size (fun k => k ≠ gb) (.slice A xs.length c) (xs.map tkS)) := ⟨(by (with_reducible repeat (first | apply Kd.R_alloc | apply Kd.R_drewN | apply Kd.R_drew | refine Kd.R_far ?_ (fun _ hk => hk) _)); exact HO.out)⟩; have n2 : Aside0 (Below w.heap.size w (((wb.setCell ⟨gb, 0, none⟩ (.int .i64 0)).setCell ⟨gb, 1, none⟩ (.string ⟨#[]⟩)).setCell ⟨gb, 2, none⟩ (.int .i64 (i : Int)))) := ⟨(by repeat (first | (with_reducible first | exact HB.out | apply below_alloc | apply pw_below_drewN | apply below_drew1 | refine below_set ?_ GE.out) | exact HB.out))⟩; clear BK HO HB c0 c1 c2 f0 f1 f2; generalize (((wb.setCell ⟨gb, 0, none⟩ (.int .i64 0)).setCell ⟨gb, 1, none⟩ (.string ⟨#[]⟩)).setCell ⟨gb, 2, none⟩ (.int .i64 (i : Int))) = w16 at n0 n1 n2 ⊢; have BK := n0; have HO := n1; have HB := n2; clear n0 n1 n2)
                        go_loop [6] (fun a => ∃ (j : Nat), a = .int .i64 j ∧ j ≤ s.size ∧ i ≤ j ∧ Aside0 (runEnd notNl s j = runEnd notNl s i)) (fun a => s.size - (intOf a).toNat)
                        case atStart => exact ⟨i, rfl, by omega, by omega, ⟨rfl⟩⟩
                        case round =>
                          obtain ⟨j, rfl, hj, hij, HA⟩ := hrel
                          by_cases hj2 : j < s.size
                          · by_cases a1 : s[j] = 10
                            · have t1 : ((s[j].toNat : Int) != 10) = false := by rw [a1]; rfl
                              have hst := runEnd_no (p := notNl) hj2 (by rw [a1]; rfl)
                              rw [HA.out] at hst
                              have HE := Aside0.mk hst
                              clear a1 hst
                              go_wp2
                              rw [HE.out] at HR2 hs2
                              go_roundw
                              case rel => exact ⟨xs, j, A, c, hj, rfl, rfl, hx, HR2, ⟨Kd.R_mono (by (with_reducible repeat (first | apply Kd.R_alloc | apply Kd.R_drewN | apply Kd.R_drew | refine Kd.R_far ?_ (fun _ hk => hk) _)); exact HO.out) (fun _ _ => trivial)⟩, ⟨(by repeat (first | (with_reducible first | exact HB.out | apply below_alloc | apply pw_below_drewN | apply below_drew1 | refine below_set ?_ GE.out) | exact HB.out))⟩⟩
                              case measure => simp [intOf]; omega
                            · have t1 : ((s[j].toNat : Int) != 10) = true := by rw [bne_iff_ne]; intro h; exact a1 (UInt8.toNat_inj.1 (by simpa using Int.ofNat.inj h))
                              have hst := runEnd_yes (p := notNl) hj2 (by simp [notNl, a1])
                              rw [HA.out] at hst
                              have HE := Aside0.mk hst.symm
                              clear a1 hst
                              go_wp2
                              refine ⟨⟨j + 1, by go_num, by omega, by omega, HE⟩, by simp [intOf]; omega⟩
                          · have hst := runEnd_stop (p := notNl) (s := s) hj2
                            rw [HA.out] at hst
                            have HE := Aside0.mk hst
                            clear hst
                            go_wp2
                            rw [HE.out] at HR2 hs2
                            go_roundw
                            case rel => exact ⟨xs, j, A, c, hj, rfl, rfl, hx, HR2, ⟨Kd.R_mono (by (with_reducible repeat (first | apply Kd.R_alloc | apply Kd.R_drewN | apply Kd.R_drew | refine Kd.R_far ?_ (fun _ hk => hk) _)); exact HO.out) (fun _ _ => trivial)⟩, ⟨(by repeat (first | (with_reducible first | exact HB.out | apply below_alloc | apply pw_below_drewN | apply below_drew1 | refine below_set ?_ GE.out) | exact HB.out))⟩⟩
                            case measure => simp [intOf]; omega
                · have h0 : (sfx s (i + 1)).takeWhile isLetter = [] := by rw [sfx_nil s (i + 1) (by omega)]; rfl
                  rw [if_pos h0] at hP
                  have h1d : decide ((i : Int) + 1 < (s.size : Int)) = false := decide_eq_false (by omega)
                  as_aux_lemma =>
                    obtain ⟨n1, n2, n3, n4⟩ := runEnd_sfx notNl s i (by omega)
                    have hn : (sfx s i).dropWhile notNl = (sfx s (i + 1)).dropWhile notNl := by
                      rw [sfx_cons s i hlt, h37]; rfl
                    rw [hn] at n3
                    obtain ⟨hs1, hs2⟩ := lex_skip s i hlt xs hP
                    rw [← n3, sfx_len, show s.size - (s.size - runEnd notNl s i) = runEnd notNl s i by omega] at hs1
                    rw [← n3, sfx_len] at hs2
                    have HR2 := Aside0.mk (HR.out.trans hs1)
                    clear hs1 n3 n4 hn hP h37 CN hpk ho h0
                    skip
                    all_goals
                      go_wp2_with (first | (go_at_call 85; (with_reducible refine (CB.out _).mono ?_); rintro e w' ⟨rfl, ⟨nd, rfl⟩⟩) | (go_at_call 86; (with_reducible refine (CS.out _).mono ?_); rintro e w' ⟨rfl, ⟨nd2, rfl⟩⟩) | ((with_reducible refine gate_dst (N := 9) rfl ?_); refine box_event ?hg (N := 9) ?hd (cs := #[.int .i64 0, .string ⟨#[]⟩, .int .i64 0]) (t := 35) ?hr ?_; (case hd => rfl); (case hg => rfl); (case hr => first | (go_simp; done) | (go_simp; rfl)); intro gb hg wb hbox hbb; have n0 := Aside0.mk (below_step (by repeat (first | (with_reducible first | exact HB.out | apply below_alloc | apply pw_below_drewN | apply below_drew1 | refine below_set ?_ GE.out) | exact HB.out)) hbb); have n1 := Aside0.mk hbox; have GE : Aside0 (w.heap.size ≤ gb) := ⟨by rw [hg]; exact below_size (by repeat (first | (with_reducible first | exact HB.out | apply below_alloc | apply pw_below_drewN | apply below_drew1 | refine below_set ?_ GE.out) | exact HB.out))⟩; have n3 := Aside0.mk (Kd.R_below (Kd.R_mono (ok' := fun k => k ≠ gb) (Kd.R_bound (by (with_reducible repeat (first | apply Kd.R_alloc | apply Kd.R_drewN | apply Kd.R_drew | refine Kd.R_far ?_ (fun _ hk => hk) _)); exact HO.out)) (fun k hk => Nat.ne_of_lt (by rw [hg]; exact hk.2.2.1))) hbb); clear HB HO hbb hbox hg; have HB := n0; have HO := n3; have BK := n1; clear n0 n1 n3; have c0 : wb.cell? ⟨gb, 0, none⟩ = some (.int .i64 0) := (blk_cell BK.out 0).trans rfl; have c1 : wb.cell? ⟨gb, 1, none⟩ = some (.string ⟨#[]⟩) := (blk_cell BK.out 1).trans rfl; have c2 : wb.cell? ⟨gb, 2, none⟩ = some (.int .i64 0) := (blk_cell BK.out 2).trans rfl; have f0 := blk_frozen BK.out 0; have f1 := blk_frozen BK.out 1; have f2 := blk_frozen BK.out 2))
                      (have n0 : Aside0 ((((wb.setCell ⟨gb, 0, none⟩ (.int .i64 0)).setCell ⟨gb, 1, none⟩ (.string ⟨#[]⟩)).setCell ⟨gb, 2, none⟩ (.int .i64 (i : Int))).heap[gb]? = some (.cells #[.int .i64 0, .string ⟨#[]⟩, .int .i64 (i : Int)] 35 (0, 0))) := ⟨blk_put (blk_put (blk_put BK.out 0 _ rfl) 1 _ rfl) 2 _ rfl⟩; have n1 : Aside0 (Kd.R k35 35 (((wb.setCell ⟨gb, 0, none⟩ (.int .i64 0)).setCell ⟨gb, 1, none⟩ (.string ⟨#[]⟩)).setCell ⟨gb, 2, none⟩ (.int .i64 (i : Int))) w.heap.size (fun k => k ≠ gb) (.slice A xs.length c) (xs.map tkS)) := ⟨(by (with_reducible repeat (first | apply Kd.R_alloc | apply Kd.R_drewN | apply Kd.R_drew | refine Kd.R_far ?_ (fun _ hk => hk) _)); exact HO.out)⟩; have n2 : Aside0 (Below w.heap.size w (((wb.setCell ⟨gb, 0, none⟩ (.int .i64 0)).setCell ⟨gb, 1, none⟩ (.string ⟨#[]⟩)).setCell ⟨gb, 2, none⟩ (.int .i64 (i : Int)))) := ⟨(by repeat (first | (with_reducible first | exact HB.out | apply below_alloc | apply pw_below_drewN | apply below_drew1 | refine below_set ?_ GE.out) | exact HB.out))⟩; clear BK HO HB c0 c1 c2 f0 f1 f2; generalize (((wb.setCell ⟨gb, 0, none⟩ (.int .i64 0)).setCell ⟨gb, 1, none⟩ (.string ⟨#[]⟩)).setCell ⟨gb, 2, none⟩ (.int .i64 (i : Int))) = w16 at n0 n1 n2 ⊢; have BK := n0; have HO := n1; have HB := n2; clear n0 n1 n2)
                      go_loop [6] (fun a => ∃ (j : Nat), a = .int .i64 j ∧ j ≤ s.size ∧ i ≤ j ∧ Aside0 (runEnd notNl s j = runEnd notNl s i)) (fun a => s.size - (intOf a).toNat)
                      case atStart => exact ⟨i, rfl, by omega, by omega, ⟨rfl⟩⟩
                      case round =>
                        obtain ⟨j, rfl, hj, hij, HA⟩ := hrel
                        by_cases hj2 : j < s.size
                        · by_cases a1 : s[j] = 10
                          · have t1 : ((s[j].toNat : Int) != 10) = false := by rw [a1]; rfl
                            have hst := runEnd_no (p := notNl) hj2 (by rw [a1]; rfl)
                            rw [HA.out] at hst
                            have HE := Aside0.mk hst
                            clear a1 hst
                            go_wp2
                            rw [HE.out] at HR2 hs2
                            go_roundw
                            case rel => exact ⟨xs, j, A, c, hj, rfl, rfl, hx, HR2, ⟨Kd.R_mono (by (with_reducible repeat (first | apply Kd.R_alloc | apply Kd.R_drewN | apply Kd.R_drew | refine Kd.R_far ?_ (fun _ hk => hk) _)); exact HO.out) (fun _ _ => trivial)⟩, ⟨(by repeat (first | (with_reducible first | exact HB.out | apply below_alloc | apply pw_below_drewN | apply below_drew1 | refine below_set ?_ GE.out) | exact HB.out))⟩⟩
                            case measure => simp [intOf]; omega
                          · have t1 : ((s[j].toNat : Int) != 10) = true := by rw [bne_iff_ne]; intro h; exact a1 (UInt8.toNat_inj.1 (by simpa using Int.ofNat.inj h))
                            have hst := runEnd_yes (p := notNl) hj2 (by simp [notNl, a1])
                            rw [HA.out] at hst
                            have HE := Aside0.mk hst.symm
                            clear a1 hst
                            go_wp2
                            refine ⟨⟨j + 1, by go_num, by omega, by omega, HE⟩, by simp [intOf]; omega⟩
                        · have hst := runEnd_stop (p := notNl) (s := s) hj2
                          rw [HA.out] at hst
                          have HE := Aside0.mk hst
                          clear hst
                          go_wp2
                          rw [HE.out] at HR2 hs2
                          go_roundw
                          case rel => exact ⟨xs, j, A, c, hj, rfl, rfl, hx, HR2, ⟨Kd.R_mono (by (with_reducible repeat (first | apply Kd.R_alloc | apply Kd.R_drewN | apply Kd.R_drew | refine Kd.R_far ?_ (fun _ hk => hk) _)); exact HO.out) (fun _ _ => trivial)⟩, ⟨(by repeat (first | (with_reducible first | exact HB.out | apply below_alloc | apply pw_below_drewN | apply below_drew1 | refine below_set ?_ GE.out) | exact HB.out))⟩⟩
                          case measure => simp [intOf]; omega
            · rw [if_neg h37] at hP
              have hc37 : ((s[i].toNat : Int) == 37) = false := (by rw [beq_eq_false_iff_ne]; intro h; exact h37 (UInt8.toNat_inj.1 (by simpa using Int.ofNat.inj h)))
              clear h37
              cases hn : isName s[i] with
              | false =>
                rw [if_neg (by rw [hn]; exact Bool.false_ne_true), if_neg (by rw [hpk.out]; exact Bool.false_ne_true)] at hP
                rw [hn] at CN
                as_aux_lemma =>
                  obtain ⟨hs1, hs2⟩ := lex_err s i hlt xs hP
                  have HR2 := HR.out.trans hs1
                  subst HR2
                  clear hs1 hs2 HR hn hpk hP
                  go_wp2_with (first | (go_at_call 85; (with_reducible refine (CB.out _).mono ?_); rintro e w' ⟨rfl, ⟨nd, rfl⟩⟩) | (go_at_call 86; (with_reducible refine (CS.out _).mono ?_); rintro e w' ⟨rfl, ⟨nd2, rfl⟩⟩) | ((with_reducible refine gate_dst (N := 9) rfl ?_); refine box_event ?hg (N := 9) ?hd (cs := #[.int .i64 0, .string ⟨#[]⟩, .int .i64 0]) (t := 35) ?hr ?_; (case hd => rfl); (case hg => rfl); (case hr => first | (go_simp; done) | (go_simp; rfl)); intro gb hg wb hbox hbb; have n0 := Aside0.mk (below_step (by repeat (first | (with_reducible first | exact HB.out | apply below_alloc | apply pw_below_drewN | apply below_drew1 | refine below_set ?_ GE.out) | exact HB.out)) hbb); have n1 := Aside0.mk hbox; have GE : Aside0 (w.heap.size ≤ gb) := ⟨by rw [hg]; exact below_size (by repeat (first | (with_reducible first | exact HB.out | apply below_alloc | apply pw_below_drewN | apply below_drew1 | refine below_set ?_ GE.out) | exact HB.out))⟩; have n3 := Aside0.mk (Kd.R_below (Kd.R_mono (ok' := fun k => k ≠ gb) (Kd.R_bound (by (with_reducible repeat (first | apply Kd.R_alloc | apply Kd.R_drewN | apply Kd.R_drew | refine Kd.R_far ?_ (fun _ hk => hk) _)); exact HO.out)) (fun k hk => Nat.ne_of_lt (by rw [hg]; exact hk.2.2.1))) hbb); clear HB HO hbb hbox hg; have HB := n0; have HO := n3; have BK := n1; clear n0 n1 n3; have c0 : wb.cell? ⟨gb, 0, none⟩ = some (.int .i64 0) := (blk_cell BK.out 0).trans rfl; have c1 : wb.cell? ⟨gb, 1, none⟩ = some (.string ⟨#[]⟩) := (blk_cell BK.out 1).trans rfl; have c2 : wb.cell? ⟨gb, 2, none⟩ = some (.int .i64 0) := (blk_cell BK.out 2).trans rfl; have f0 := blk_frozen BK.out 0; have f1 := blk_frozen BK.out 1; have f2 := blk_frozen BK.out 2) | (go_at_call 56; (with_reducible refine (CN.out _).mono ?_); rintro e w' ⟨rfl, ⟨nd3, rfl⟩⟩))
                  go_ret3
                  exact ⟨none, 0, rfl, Nat.le_refl _, read_nil _, (by repeat (first | (with_reducible first | exact HB.out | apply below_alloc | apply pw_below_drewN | apply below_drew1 | refine below_set ?_ GE.out) | exact HB.out))⟩
              | true =>
                as_aux_lemma =>
                  have hsN := sfx_cons s i hlt
                  rw [if_pos hn] at hP
                  rw [← hsN] at hP
                  rw [hn] at CN
                  obtain ⟨b1, b2, b3, b4⟩ := runEnd_sfx isName s i (by omega)
                  obtain ⟨T, hT⟩ : ∃ T, T = (sfx s i).takeWhile isName := ⟨_, rfl⟩
                  obtain ⟨r, hr⟩ : ∃ r, r = (sfx s i).dropWhile isName := ⟨_, rfl⟩
                  obtain ⟨B, hB⟩ : ∃ B : ByteArray, B = ⟨T.toArray⟩ := ⟨_, rfl⟩
                  rw [← hT, ← hr] at hP
                  have HP2 := Aside0.mk hP
                  have HBS : Aside0 (B.size = T.length) := ⟨by rw [hB]; rfl⟩
                  have HBT := Aside0.mk hB
                  have HRV := Aside0.mk (rreserved_any B)
                  rw [show B.data.toList = T by rw [hB]] at HRV
                  obtain ⟨E, hE⟩ : ∃ E, E = runEnd isName s i := ⟨_, rfl⟩
                  have hsl : ∀ w, (Instr.slice 9 (.string s) (some (.int .i64 (i : Int))) (some (.int .i64 (E : Nat))) none).run Tryd.prog w = .ok (.string B) w := by
                    intro w
                    rw [run_slice_string w 9 s .i64 .i64 _ _ Tryd.underlying9 (by omega) (by omega) (by omega), Int.toNat_natCast, Int.toNat_natCast, extract_mk, hE, b4, hB, hT]
                  have HE2 : Aside0 (s.size - r.length = E) := ⟨by rw [hr, ← b3, sfx_len, hE]; omega⟩
                  have HE := Aside0.mk hE
                  have HSL := Aside0.mk hsl
                  clear hP hT hr hB hE b1 b2 b3 b4 hn hpk hsN hsl
                  go_wp2_with (first | (go_at_call 85; (with_reducible refine (CB.out _).mono ?_); rintro e w' ⟨rfl, ⟨nd, rfl⟩⟩) | (go_at_call 86; (with_reducible refine (CS.out _).mono ?_); rintro e w' ⟨rfl, ⟨nd2, rfl⟩⟩) | ((with_reducible refine gate_dst (N := 9) rfl ?_); refine box_event ?hg (N := 9) ?hd (cs := #[.int .i64 0, .string ⟨#[]⟩, .int .i64 0]) (t := 35) ?hr ?_; (case hd => rfl); (case hg => rfl); (case hr => first | (go_simp; done) | (go_simp; rfl)); intro gb hg wb hbox hbb; have n0 := Aside0.mk (below_step (by repeat (first | (with_reducible first | exact HB.out | apply below_alloc | apply pw_below_drewN | apply below_drew1 | refine below_set ?_ GE.out) | exact HB.out)) hbb); have n1 := Aside0.mk hbox; have GE : Aside0 (w.heap.size ≤ gb) := ⟨by rw [hg]; exact below_size (by repeat (first | (with_reducible first | exact HB.out | apply below_alloc | apply pw_below_drewN | apply below_drew1 | refine below_set ?_ GE.out) | exact HB.out))⟩; have n3 := Aside0.mk (Kd.R_below (Kd.R_mono (ok' := fun k => k ≠ gb) (Kd.R_bound (by (with_reducible repeat (first | apply Kd.R_alloc | apply Kd.R_drewN | apply Kd.R_drew | refine Kd.R_far ?_ (fun _ hk => hk) _)); exact HO.out)) (fun k hk => Nat.ne_of_lt (by rw [hg]; exact hk.2.2.1))) hbb); clear HB HO hbb hbox hg; have HB := n0; have HO := n3; have BK := n1; clear n0 n1 n3; have c0 : wb.cell? ⟨gb, 0, none⟩ = some (.int .i64 0) := (blk_cell BK.out 0).trans rfl; have c1 : wb.cell? ⟨gb, 1, none⟩ = some (.string ⟨#[]⟩) := (blk_cell BK.out 1).trans rfl; have c2 : wb.cell? ⟨gb, 2, none⟩ = some (.int .i64 0) := (blk_cell BK.out 2).trans rfl; have f0 := blk_frozen BK.out 0; have f1 := blk_frozen BK.out 1; have f2 := blk_frozen BK.out 2) | (go_at_call 56; (with_reducible refine (CN.out _).mono ?_); rintro e w' ⟨rfl, ⟨nd3, rfl⟩⟩))
                  (have n0 : Aside0 ((((wb.setCell ⟨gb, 0, none⟩ (.int .i64 0)).setCell ⟨gb, 1, none⟩ (.string ⟨#[]⟩)).setCell ⟨gb, 2, none⟩ (.int .i64 (i : Int))).heap[gb]? = some (.cells #[.int .i64 0, .string ⟨#[]⟩, .int .i64 (i : Int)] 35 (0, 0))) := ⟨blk_put (blk_put (blk_put BK.out 0 _ rfl) 1 _ rfl) 2 _ rfl⟩; have n1 : Aside0 (Kd.R k35 35 (((wb.setCell ⟨gb, 0, none⟩ (.int .i64 0)).setCell ⟨gb, 1, none⟩ (.string ⟨#[]⟩)).setCell ⟨gb, 2, none⟩ (.int .i64 (i : Int))) w.heap.size (fun k => k ≠ gb) (.slice A xs.length c) (xs.map tkS)) := ⟨(by (with_reducible repeat (first | apply Kd.R_alloc | apply Kd.R_drewN | apply Kd.R_drew | refine Kd.R_far ?_ (fun _ hk => hk) _)); exact HO.out)⟩; have n2 : Aside0 (Below w.heap.size w (((wb.setCell ⟨gb, 0, none⟩ (.int .i64 0)).setCell ⟨gb, 1, none⟩ (.string ⟨#[]⟩)).setCell ⟨gb, 2, none⟩ (.int .i64 (i : Int)))) := ⟨(by repeat (first | (with_reducible first | exact HB.out | apply below_alloc | apply pw_below_drewN | apply below_drew1 | refine below_set ?_ GE.out) | exact HB.out))⟩; clear BK HO HB c0 c1 c2 f0 f1 f2; generalize (((wb.setCell ⟨gb, 0, none⟩ (.int .i64 0)).setCell ⟨gb, 1, none⟩ (.string ⟨#[]⟩)).setCell ⟨gb, 2, none⟩ (.int .i64 (i : Int))) = w16 at n0 n1 n2 ⊢; have BK := n0; have HO := n1; have HB := n2; clear n0 n1 n2)
                  go_loopw [6] (fun a w' => ∃ (j m : Nat), a = .int .i64 j ∧ j ≤ s.size ∧ i ≤ j ∧ Aside0 (E = runEnd isName s j) ∧ w' = w16.drewN m) (fun a _ => s.size - (intOf a).toNat)
                  case atStart => exact ⟨i, _, rfl, by omega, by omega, HE, rfl⟩
                  case round =>
                    obtain ⟨j, m, rfl, hj, hij, HA, rfl⟩ := hrel
                    by_cases hj2 : j < s.size
                    · have CJ := Aside0.mk (rname_any s[j])
                      cases hLj : isName s[j] with
                      | true =>
                        as_aux_lemma =>
                          rw [hLj] at CJ
                          have HE3 := Aside0.mk (HA.out.trans (runEnd_yes (p := isName) hj2 hLj))
                          clear hLj HA
                          go_wp2_with (go_at_call 56; (with_reducible refine (CJ.out _).mono ?_); rintro e w' ⟨rfl, ⟨nd4, rfl⟩⟩)
                          go_roundw
                          case rel => exact ⟨j + 1, _, by go_num, by omega, by omega, HE3, rfl⟩
                          case measure => simp [intOf]; omega
                      | false =>
                        as_aux_lemma =>
                          rw [hLj] at CJ
                          have hst := HA.out.trans (runEnd_no (p := isName) hj2 hLj)
                          rw [hst] at HSL HE2
                          clear hLj HA HE hst
                          go_wp2_with (go_at_call 56; (with_reducible refine (CJ.out _).mono ?_); rintro e w' ⟨rfl, ⟨nd4, rfl⟩⟩)
                          (have c0 : w16.cell? ⟨gb, 0, none⟩ = some (.int .i64 0) := (blk_cell BK.out 0).trans rfl; have c1 : w16.cell? ⟨gb, 1, none⟩ = some (.string ⟨#[]⟩) := (blk_cell BK.out 1).trans rfl; have c2 : w16.cell? ⟨gb, 2, none⟩ = some (.int .i64 (i : Int)) := (blk_cell BK.out 2).trans rfl; have f0 := blk_frozen BK.out 0; have f1 := blk_frozen BK.out 1)
                          cases hres : isRes T with
                          | true =>
                            rw [hres] at HRV HP2
                            clear hres
                            as_aux_lemma =>
                              have hsl := HSL.out
                              go_big_region
                              by_cases h64 : 64 < B.size
                              · have hd64 : decide ((64 : Int) < (B.size : Int)) = true := decide_eq_true (by omega)
                                have hP3 : nextL (sfx s i) = .err 12 := by rw [HP2.out, if_pos (by rw [← HBS.out]; exact h64)]
                                obtain ⟨hs1, hs2⟩ := lex_err s i hlt xs hP3
                                have HR2 := HR.out.trans hs1
                                subst HR2
                                clear hs1 hs2 hP3 HR h64
                                go_wp2_with (go_at_call 55; (with_reducible refine (HRV.out _).mono ?_); rintro e w' ⟨rfl, ⟨nd5, rfl⟩⟩)
                                go_ret3
                                exact ⟨none, 0, rfl, Nat.le_refl _, read_nil _, (by repeat (first | (with_reducible first | exact HB.out | apply below_alloc | apply pw_below_drewN | apply below_drew1 | refine below_set ?_ GE.out) | exact HB.out))⟩
                              · have hd64 : decide ((64 : Int) < (B.size : Int)) = false := decide_eq_false (by omega)
                                have hP3 : nextL (sfx s i) = .tok 2 T r := by rw [HP2.out, if_neg (by rw [← HBS.out]; exact h64)]; rfl
                                obtain ⟨hs1, hs2, hs3, hs4⟩ := lex_tok s i hlt xs hP3
                                rw [HE2.out] at hs2 hs3
                                by_cases hm : xs.length = 20000
                                · have HR2 := HR.out.trans (hs1 hm)
                                  subst HR2
                                  have hm2 : (((xs.length : Nat) : Int) == 20000) = true := by rw [beq_iff_eq]; omega
                                  clear hs1 hs2 HR hm hP3 h64
                                  go_wp2_with (go_at_call 55; (with_reducible refine (HRV.out _).mono ?_); rintro e w' ⟨rfl, ⟨nd5, rfl⟩⟩)
                                  go_ret3
                                  exact ⟨none, 0, rfl, Nat.le_refl _, read_nil _, (by repeat (first | (with_reducible first | exact HB.out | apply below_alloc | apply pw_below_drewN | apply below_drew1 | refine below_set ?_ GE.out) | exact HB.out))⟩
                                · have HR2 := Aside0.mk (HR.out.trans (hs2 hm))
                                  have hm2 : (((xs.length : Nat) : Int) == 20000) = false := by rw [beq_eq_false_iff_ne]; omega
                                  have hm3 : xs.length < 20000 := by omega
                                  clear hs1 hs2 HR hm hP3 h64
                                  go_wp2_with (first | (go_at_call 55; (with_reducible refine (HRV.out _).mono ?_); rintro e w' ⟨rfl, ⟨nd5, rfl⟩⟩) | (at_builtin; refine Kd.R_append k35 (w0 := w) w.heap.size rfl (.tmp 220) (.tmp 222) 28 35 (.agg #[(.int .i64 0), (.string ⟨#[]⟩), (.int .i64 0)]) 32 rfl Tryd.underlying28 info35 rfl (by decide) (by omega) (.slice A xs.length c) (xs.map tkS) (⟨2, B, i⟩ : S35) [.int .i64 2, .string B, .int .i64 i] (fun k => k ≠ gb) (fun _ => False) rfl ?aX ?aP (fun _ hk => hk.elim) ?aF ?aO ?aB ?aS ?aL ?_; (case aP => exact k35_mkM _ _ _ (⟨2, B, i⟩ : S35)); (case aX => simp [go_sem]); (case aF => intro k hk; have hlt2 := blk_lt BK.out; simp at hk; omega); (case aO => exact (by (with_reducible repeat (first | apply Kd.R_alloc | apply Kd.R_drewN | apply Kd.R_drew | refine Kd.R_far ?_ (fun _ hk => hk) _)); exact HO.out)); (case aB => exact (by repeat (first | (with_reducible first | exact HB.out | apply below_alloc | apply pw_below_drewN | apply below_drew1 | refine below_set ?_ GE.out) | exact HB.out))); (case aS => exact below_size (by repeat (first | (with_reducible first | exact HB.out | apply below_alloc | apply pw_below_drewN | apply below_drew1 | refine below_set ?_ GE.out) | exact HB.out))); (case aL => simp; omega); intro v1 w1 ho hb hg hat; have HO1 := Aside0.mk ho; have HB1 := Aside0.mk hb; clear ho hb hg hat))
                                  obtain ⟨A1, c3, ev2, HO2⟩ := own_out (t := ⟨2, T, i⟩) (by rw [HBT.out]; rfl) HO1.out
                                  subst ev2
                                  go_roundw
                                  case rel => exact ⟨xs ++ [⟨2, T, i⟩], j, A1, c3, by omega, rfl, rfl, by simp; omega, HR2, HO2, HB1⟩
                                  case measure => simp [intOf]; omega
                          | false =>
                            rw [hres] at HRV HP2
                            clear hres
                            as_aux_lemma =>
                              have hsl := HSL.out
                              go_big_region
                              by_cases h64 : 64 < B.size
                              · have hd64 : decide ((64 : Int) < (B.size : Int)) = true := decide_eq_true (by omega)
                                have hP3 : nextL (sfx s i) = .err 12 := by rw [HP2.out, if_pos (by rw [← HBS.out]; exact h64)]
                                obtain ⟨hs1, hs2⟩ := lex_err s i hlt xs hP3
                                have HR2 := HR.out.trans hs1
                                subst HR2
                                clear hs1 hs2 hP3 HR h64
                                go_wp2_with (go_at_call 55; (with_reducible refine (HRV.out _).mono ?_); rintro e w' ⟨rfl, ⟨nd5, rfl⟩⟩)
                                go_ret3
                                exact ⟨none, 0, rfl, Nat.le_refl _, read_nil _, (by repeat (first | (with_reducible first | exact HB.out | apply below_alloc | apply pw_below_drewN | apply below_drew1 | refine below_set ?_ GE.out) | exact HB.out))⟩
                              · have hd64 : decide ((64 : Int) < (B.size : Int)) = false := decide_eq_false (by omega)
                                have hP3 : nextL (sfx s i) = .tok 1 T r := by rw [HP2.out, if_neg (by rw [← HBS.out]; exact h64)]; rfl
                                obtain ⟨hs1, hs2, hs3, hs4⟩ := lex_tok s i hlt xs hP3
                                rw [HE2.out] at hs2 hs3
                                by_cases hm : xs.length = 20000
                                · have HR2 := HR.out.trans (hs1 hm)
                                  subst HR2
                                  have hm2 : (((xs.length : Nat) : Int) == 20000) = true := by rw [beq_iff_eq]; omega
                                  clear hs1 hs2 HR hm hP3 h64
                                  go_wp2_with (go_at_call 55; (with_reducible refine (HRV.out _).mono ?_); rintro e w' ⟨rfl, ⟨nd5, rfl⟩⟩)
                                  go_ret3
                                  exact ⟨none, 0, rfl, Nat.le_refl _, read_nil _, (by repeat (first | (with_reducible first | exact HB.out | apply below_alloc | apply pw_below_drewN | apply below_drew1 | refine below_set ?_ GE.out) | exact HB.out))⟩
                                · have HR2 := Aside0.mk (HR.out.trans (hs2 hm))
                                  have hm2 : (((xs.length : Nat) : Int) == 20000) = false := by rw [beq_eq_false_iff_ne]; omega
                                  have hm3 : xs.length < 20000 := by omega
                                  clear hs1 hs2 HR hm hP3 h64
                                  go_wp2_with (first | (go_at_call 55; (with_reducible refine (HRV.out _).mono ?_); rintro e w' ⟨rfl, ⟨nd5, rfl⟩⟩) | (at_builtin; refine Kd.R_append k35 (w0 := w) w.heap.size rfl (.tmp 220) (.tmp 222) 28 35 (.agg #[(.int .i64 0), (.string ⟨#[]⟩), (.int .i64 0)]) 32 rfl Tryd.underlying28 info35 rfl (by decide) (by omega) (.slice A xs.length c) (xs.map tkS) (⟨1, B, i⟩ : S35) [.int .i64 1, .string B, .int .i64 i] (fun k => k ≠ gb) (fun _ => False) rfl ?aX ?aP (fun _ hk => hk.elim) ?aF ?aO ?aB ?aS ?aL ?_; (case aP => exact k35_mkM _ _ _ (⟨1, B, i⟩ : S35)); (case aX => simp [go_sem]); (case aF => intro k hk; have hlt2 := blk_lt BK.out; simp at hk; omega); (case aO => exact (by (with_reducible repeat (first | apply Kd.R_alloc | apply Kd.R_drewN | apply Kd.R_drew | refine Kd.R_far ?_ (fun _ hk => hk) _)); exact HO.out)); (case aB => exact (by repeat (first | (with_reducible first | exact HB.out | apply below_alloc | apply pw_below_drewN | apply below_drew1 | refine below_set ?_ GE.out) | exact HB.out))); (case aS => exact below_size (by repeat (first | (with_reducible first | exact HB.out | apply below_alloc | apply pw_below_drewN | apply below_drew1 | refine below_set ?_ GE.out) | exact HB.out))); (case aL => simp; omega); intro v1 w1 ho hb hg hat; have HO1 := Aside0.mk ho; have HB1 := Aside0.mk hb; clear ho hb hg hat))
                                  obtain ⟨A1, c3, ev2, HO2⟩ := own_out (t := ⟨1, T, i⟩) (by rw [HBT.out]; rfl) HO1.out
                                  subst ev2
                                  go_roundw
                                  case rel => exact ⟨xs ++ [⟨1, T, i⟩], j, A1, c3, by omega, rfl, rfl, by simp; omega, HR2, HO2, HB1⟩
                                  case measure => simp [intOf]; omega
                    · --
                      as_aux_lemma =>
                        have hst := HA.out.trans (runEnd_stop (p := isName) (s := s) hj2)
                        rw [hst] at HSL HE2
                        clear HA HE hst
                        go_wp2_with fail
                        (have c0 : w16.cell? ⟨gb, 0, none⟩ = some (.int .i64 0) := (blk_cell BK.out 0).trans rfl; have c1 : w16.cell? ⟨gb, 1, none⟩ = some (.string ⟨#[]⟩) := (blk_cell BK.out 1).trans rfl; have c2 : w16.cell? ⟨gb, 2, none⟩ = some (.int .i64 (i : Int)) := (blk_cell BK.out 2).trans rfl; have f0 := blk_frozen BK.out 0; have f1 := blk_frozen BK.out 1)
                        cases hres : isRes T with
                        | true =>
                          rw [hres] at HRV HP2
                          clear hres
                          as_aux_lemma =>
                            have hsl := HSL.out
                            go_big_region
                            by_cases h64 : 64 < B.size
                            · have hd64 : decide ((64 : Int) < (B.size : Int)) = true := decide_eq_true (by omega)
                              have hP3 : nextL (sfx s i) = .err 12 := by rw [HP2.out, if_pos (by rw [← HBS.out]; exact h64)]
                              obtain ⟨hs1, hs2⟩ := lex_err s i hlt xs hP3
                              have HR2 := HR.out.trans hs1
                              subst HR2
                              clear hs1 hs2 hP3 HR h64
                              go_wp2_with (go_at_call 55; (with_reducible refine (HRV.out _).mono ?_); rintro e w' ⟨rfl, ⟨nd5, rfl⟩⟩)
                              go_ret3
                              exact ⟨none, 0, rfl, Nat.le_refl _, read_nil _, (by repeat (first | (with_reducible first | exact HB.out | apply below_alloc | apply pw_below_drewN | apply below_drew1 | refine below_set ?_ GE.out) | exact HB.out))⟩
                            · have hd64 : decide ((64 : Int) < (B.size : Int)) = false := decide_eq_false (by omega)
                              have hP3 : nextL (sfx s i) = .tok 2 T r := by rw [HP2.out, if_neg (by rw [← HBS.out]; exact h64)]; rfl
                              obtain ⟨hs1, hs2, hs3, hs4⟩ := lex_tok s i hlt xs hP3
                              rw [HE2.out] at hs2 hs3
                              by_cases hm : xs.length = 20000
                              · have HR2 := HR.out.trans (hs1 hm)
                                subst HR2
                                have hm2 : (((xs.length : Nat) : Int) == 20000) = true := by rw [beq_iff_eq]; omega
                                clear hs1 hs2 HR hm hP3 h64
                                go_wp2_with (go_at_call 55; (with_reducible refine (HRV.out _).mono ?_); rintro e w' ⟨rfl, ⟨nd5, rfl⟩⟩)
                                go_ret3
                                exact ⟨none, 0, rfl, Nat.le_refl _, read_nil _, (by repeat (first | (with_reducible first | exact HB.out | apply below_alloc | apply pw_below_drewN | apply below_drew1 | refine below_set ?_ GE.out) | exact HB.out))⟩
                              · have HR2 := Aside0.mk (HR.out.trans (hs2 hm))
                                have hm2 : (((xs.length : Nat) : Int) == 20000) = false := by rw [beq_eq_false_iff_ne]; omega
                                have hm3 : xs.length < 20000 := by omega
                                clear hs1 hs2 HR hm hP3 h64
                                go_wp2_with (first | (go_at_call 55; (with_reducible refine (HRV.out _).mono ?_); rintro e w' ⟨rfl, ⟨nd5, rfl⟩⟩) | (at_builtin; refine Kd.R_append k35 (w0 := w) w.heap.size rfl (.tmp 220) (.tmp 222) 28 35 (.agg #[(.int .i64 0), (.string ⟨#[]⟩), (.int .i64 0)]) 32 rfl Tryd.underlying28 info35 rfl (by decide) (by omega) (.slice A xs.length c) (xs.map tkS) (⟨2, B, i⟩ : S35) [.int .i64 2, .string B, .int .i64 i] (fun k => k ≠ gb) (fun _ => False) rfl ?aX ?aP (fun _ hk => hk.elim) ?aF ?aO ?aB ?aS ?aL ?_; (case aP => exact k35_mkM _ _ _ (⟨2, B, i⟩ : S35)); (case aX => simp [go_sem]); (case aF => intro k hk; have hlt2 := blk_lt BK.out; simp at hk; omega); (case aO => exact (by (with_reducible repeat (first | apply Kd.R_alloc | apply Kd.R_drewN | apply Kd.R_drew | refine Kd.R_far ?_ (fun _ hk => hk) _)); exact HO.out)); (case aB => exact (by repeat (first | (with_reducible first | exact HB.out | apply below_alloc | apply pw_below_drewN | apply below_drew1 | refine below_set ?_ GE.out) | exact HB.out))); (case aS => exact below_size (by repeat (first | (with_reducible first | exact HB.out | apply below_alloc | apply pw_below_drewN | apply below_drew1 | refine below_set ?_ GE.out) | exact HB.out))); (case aL => simp; omega); intro v1 w1 ho hb hg hat; have HO1 := Aside0.mk ho; have HB1 := Aside0.mk hb; clear ho hb hg hat))
                                obtain ⟨A1, c3, ev2, HO2⟩ := own_out (t := ⟨2, T, i⟩) (by rw [HBT.out]; rfl) HO1.out
                                subst ev2
                                go_roundw
                                case rel => exact ⟨xs ++ [⟨2, T, i⟩], j, A1, c3, by omega, rfl, rfl, by simp; omega, HR2, HO2, HB1⟩
                                case measure => simp [intOf]; omega
                        | false =>
                          rw [hres] at HRV HP2
                          clear hres
                          as_aux_lemma =>
                            have hsl := HSL.out
                            go_big_region
                            by_cases h64 : 64 < B.size
                            · have hd64 : decide ((64 : Int) < (B.size : Int)) = true := decide_eq_true (by omega)
                              have hP3 : nextL (sfx s i) = .err 12 := by rw [HP2.out, if_pos (by rw [← HBS.out]; exact h64)]
                              obtain ⟨hs1, hs2⟩ := lex_err s i hlt xs hP3
                              have HR2 := HR.out.trans hs1
                              subst HR2
                              clear hs1 hs2 hP3 HR h64
                              go_wp2_with (go_at_call 55; (with_reducible refine (HRV.out _).mono ?_); rintro e w' ⟨rfl, ⟨nd5, rfl⟩⟩)
                              go_ret3
                              exact ⟨none, 0, rfl, Nat.le_refl _, read_nil _, (by repeat (first | (with_reducible first | exact HB.out | apply below_alloc | apply pw_below_drewN | apply below_drew1 | refine below_set ?_ GE.out) | exact HB.out))⟩
                            · have hd64 : decide ((64 : Int) < (B.size : Int)) = false := decide_eq_false (by omega)
                              have hP3 : nextL (sfx s i) = .tok 1 T r := by rw [HP2.out, if_neg (by rw [← HBS.out]; exact h64)]; rfl
                              obtain ⟨hs1, hs2, hs3, hs4⟩ := lex_tok s i hlt xs hP3
                              rw [HE2.out] at hs2 hs3
                              by_cases hm : xs.length = 20000
                              · have HR2 := HR.out.trans (hs1 hm)
                                subst HR2
                                have hm2 : (((xs.length : Nat) : Int) == 20000) = true := by rw [beq_iff_eq]; omega
                                clear hs1 hs2 HR hm hP3 h64
                                go_wp2_with (go_at_call 55; (with_reducible refine (HRV.out _).mono ?_); rintro e w' ⟨rfl, ⟨nd5, rfl⟩⟩)
                                go_ret3
                                exact ⟨none, 0, rfl, Nat.le_refl _, read_nil _, (by repeat (first | (with_reducible first | exact HB.out | apply below_alloc | apply pw_below_drewN | apply below_drew1 | refine below_set ?_ GE.out) | exact HB.out))⟩
                              · have HR2 := Aside0.mk (HR.out.trans (hs2 hm))
                                have hm2 : (((xs.length : Nat) : Int) == 20000) = false := by rw [beq_eq_false_iff_ne]; omega
                                have hm3 : xs.length < 20000 := by omega
                                clear hs1 hs2 HR hm hP3 h64
                                go_wp2_with (first | (go_at_call 55; (with_reducible refine (HRV.out _).mono ?_); rintro e w' ⟨rfl, ⟨nd5, rfl⟩⟩) | (at_builtin; refine Kd.R_append k35 (w0 := w) w.heap.size rfl (.tmp 220) (.tmp 222) 28 35 (.agg #[(.int .i64 0), (.string ⟨#[]⟩), (.int .i64 0)]) 32 rfl Tryd.underlying28 info35 rfl (by decide) (by omega) (.slice A xs.length c) (xs.map tkS) (⟨1, B, i⟩ : S35) [.int .i64 1, .string B, .int .i64 i] (fun k => k ≠ gb) (fun _ => False) rfl ?aX ?aP (fun _ hk => hk.elim) ?aF ?aO ?aB ?aS ?aL ?_; (case aP => exact k35_mkM _ _ _ (⟨1, B, i⟩ : S35)); (case aX => simp [go_sem]); (case aF => intro k hk; have hlt2 := blk_lt BK.out; simp at hk; omega); (case aO => exact (by (with_reducible repeat (first | apply Kd.R_alloc | apply Kd.R_drewN | apply Kd.R_drew | refine Kd.R_far ?_ (fun _ hk => hk) _)); exact HO.out)); (case aB => exact (by repeat (first | (with_reducible first | exact HB.out | apply below_alloc | apply pw_below_drewN | apply below_drew1 | refine below_set ?_ GE.out) | exact HB.out))); (case aS => exact below_size (by repeat (first | (with_reducible first | exact HB.out | apply below_alloc | apply pw_below_drewN | apply below_drew1 | refine below_set ?_ GE.out) | exact HB.out))); (case aL => simp; omega); intro v1 w1 ho hb hg hat; have HO1 := Aside0.mk ho; have HB1 := Aside0.mk hb; clear ho hb hg hat))
                                obtain ⟨A1, c3, ev2, HO2⟩ := own_out (t := ⟨1, T, i⟩) (by rw [HBT.out]; rfl) HO1.out
                                subst ev2
                                go_roundw
                                case rel => exact ⟨xs ++ [⟨1, T, i⟩], j, A1, c3, by omega, rfl, rfl, by simp; omega, HR2, HO2, HB1⟩
                                case measure => simp [intOf]; omega
      · go_wp2
        go_ret3
        have hR := HR.out
        rw [sfx_nil s i (by omega), ahead_end] at hR
        subst hR
        have hr := read_own (xs := xs.map tkS) (by rw [List.length_map]; exact HO.out)
        rw [List.length_map] at hr
        have : i = s.size := by omega
        subst this
        exact ⟨A, c, rfl, hr.1, hr.2, HB.out⟩
end Go.Proofs.YtajefkjcfmfjkaaDoor
