/- next: what it computes (the walks). -/
import Derived.Test.YtajefkjcfmfjkaaDoorTokB
namespace Go.Proofs.YtajefkjcfmfjkaaDoor
open Go.RowKit Go.Proofs.YtajefkjcfmfjkaaDoorW.PrintWords Go.Proofs.YtajefkjcfmfjkaaDoor.PTokenPieces

theorem name_f (t : ByteArray) (i e : Int) : token_name.f t i e = some (if 64 < t.size then (0, ⟨#[]⟩, 0, i, 12) else (if isRes t.data.toList then 2 else 1, t, i, e, 0)) := by
  unfold token_name.f
  rw [reserved_f]
  by_cases h : 64 < t.size
  · rw [if_pos (by omega), if_pos h]
  · rw [if_neg (by omega), if_neg h]
    simp only [Option.bind_some]
    cases isRes t.data.toList <;> rfl

set_option maxHeartbeats 1600000 in
set_option maxRecDepth 100000 in
theorem next_blank (s : ByteArray) (i : Nat) (w : World) (hs : s.size ≤ 4611686018427387904) (hi : i < s.size) (hc : isBlank s[i] = true) :
    Calls Tryd.prog 57 #[.string s, .int .i64 i] w fun e w' => e = .returned (stpV s i (.skip (sfx s (i + 1)))) ∧ Below w.heap.size w w' := by
  have HB := Aside0.mk (blank_any s[i])
  rw [hc] at HB
  have hend : Aside0 (((s.size - (sfx s (i + 1)).length : Nat) : Int) = (i : Int) + 1) := by constructor; rw [sfx_len]; omega
  clear hc
  go_enter Tryd.func57, Tryd.ntmps57
  go_wp2_with (first | (go_at_call 88; (with_reducible refine (HB.out _).mono ?_); rintro e w' ⟨rfl, ⟨nd, rfl⟩⟩))
  refine bodyPost_ret (v := stpV s i (.skip (sfx s (i + 1)))) (by simp [stpV, results, Tryd.results57, go_sem, hend.out]) rfl ⟨rfl, (by repeat (first | (with_reducible first | exact Below.refl _ _ | apply below_alloc | apply pw_below_drewN | apply below_drew1 | refine below_set ?_ (Nat.le_refl _)) | assumption))⟩

set_option maxHeartbeats 1600000 in
set_option maxRecDepth 100000 in
theorem next_percent (s : ByteArray) (i : Nat) (w : World) (hs : s.size ≤ 4611686018427387904) (hi : i < s.size) (hc : s[i] = 37) :
    Calls Tryd.prog 57 #[.string s, .int .i64 i] w fun e w' => e = .returned (stpV s i (pctL (sfx s (i + 1)))) ∧ Below w.heap.size w w' := by
  have HB := Aside0.mk (blank_any s[i])
  have HP := Aside0.mk (fun W => percent_any s i W hs hi hc)
  have hb0 : isBlank s[i] = false := by rw [hc]; rfl
  rw [hb0] at HB
  have hc' : ((s[i].toNat : Int) == 37) = true := by rw [hc]; rfl
  clear hb0 hc
  cases hp : pctL (sfx s (i + 1)) with
  | skip r =>
    rw [hp] at HP
    simp only [stpV] at HP
    clear hp
    go_enter Tryd.func57, Tryd.ntmps57
    go_wp2_with (first | (go_at_call 88; (with_reducible refine (HB.out _).mono ?_); rintro e w' ⟨rfl, ⟨nd, rfl⟩⟩) | (go_at_call 89; (with_reducible refine (HP.out _).mono ?_); rintro e w' ⟨rfl, hb⟩; (have BK : Aside0 (w'.heap[w.heap.size]? = some (.cells #[.int .i64 0, .string ⟨#[]⟩, .int .i64 0] 35 (0, 0))) := ⟨blk_below (by (with_reducible repeat (first | refine blk_drewN ?_ _ | refine blk_drew ?_)); exact blk_new _ _) hb⟩; have hz : w.heap.size < w'.heap.size := blk_lt BK.out; have c0 : w'.cell? ⟨w.heap.size, 0, none⟩ = some (.int .i64 0) := (blk_cell BK.out 0).trans rfl; have c1 : w'.cell? ⟨w.heap.size, 1, none⟩ = some (.string ⟨#[]⟩) := (blk_cell BK.out 1).trans rfl; have c2 : w'.cell? ⟨w.heap.size, 2, none⟩ = some (.int .i64 0) := (blk_cell BK.out 2).trans rfl; have f0 := blk_frozen BK.out 0; have f1 := blk_frozen BK.out 1; have f2 := blk_frozen BK.out 2; have HW : Aside0 (Below w.heap.size w w') := ⟨below_step (by repeat (first | (with_reducible first | exact Below.refl _ _ | apply below_alloc | apply pw_below_drewN | apply below_drew1))) hb⟩; clear hb)))
    refine bodyPost_ret (v := stpV s i (.skip r)) (by simp [stpV, results, Tryd.results57, go_sem, c0, c1, c2]) rfl ⟨rfl, (by repeat (first | (with_reducible first | exact HW.out | apply below_alloc | apply pw_below_drewN | apply below_drew1 | refine below_set ?_ (Nat.le_refl _)) | assumption))⟩
  | tok k t r =>
    rw [hp] at HP
    simp only [stpV] at HP
    clear hp
    go_enter Tryd.func57, Tryd.ntmps57
    go_wp2_with (first | (go_at_call 88; (with_reducible refine (HB.out _).mono ?_); rintro e w' ⟨rfl, ⟨nd, rfl⟩⟩) | (go_at_call 89; (with_reducible refine (HP.out _).mono ?_); rintro e w' ⟨rfl, hb⟩; (have BK : Aside0 (w'.heap[w.heap.size]? = some (.cells #[.int .i64 0, .string ⟨#[]⟩, .int .i64 0] 35 (0, 0))) := ⟨blk_below (by (with_reducible repeat (first | refine blk_drewN ?_ _ | refine blk_drew ?_)); exact blk_new _ _) hb⟩; have hz : w.heap.size < w'.heap.size := blk_lt BK.out; have c0 : w'.cell? ⟨w.heap.size, 0, none⟩ = some (.int .i64 0) := (blk_cell BK.out 0).trans rfl; have c1 : w'.cell? ⟨w.heap.size, 1, none⟩ = some (.string ⟨#[]⟩) := (blk_cell BK.out 1).trans rfl; have c2 : w'.cell? ⟨w.heap.size, 2, none⟩ = some (.int .i64 0) := (blk_cell BK.out 2).trans rfl; have f0 := blk_frozen BK.out 0; have f1 := blk_frozen BK.out 1; have f2 := blk_frozen BK.out 2; have HW : Aside0 (Below w.heap.size w w') := ⟨below_step (by repeat (first | (with_reducible first | exact Below.refl _ _ | apply below_alloc | apply pw_below_drewN | apply below_drew1))) hb⟩; clear hb)))
    refine bodyPost_ret (v := stpV s i (.tok k t r)) (by simp [stpV, results, Tryd.results57, go_sem, c0, c1, c2]) rfl ⟨rfl, (by repeat (first | (with_reducible first | exact HW.out | apply below_alloc | apply pw_below_drewN | apply below_drew1 | refine below_set ?_ (Nat.le_refl _)) | assumption))⟩
  | err e =>
    rw [hp] at HP
    simp only [stpV] at HP
    clear hp
    go_enter Tryd.func57, Tryd.ntmps57
    go_wp2_with (first | (go_at_call 88; (with_reducible refine (HB.out _).mono ?_); rintro e w' ⟨rfl, ⟨nd, rfl⟩⟩) | (go_at_call 89; (with_reducible refine (HP.out _).mono ?_); rintro e w' ⟨rfl, hb⟩; (have BK : Aside0 (w'.heap[w.heap.size]? = some (.cells #[.int .i64 0, .string ⟨#[]⟩, .int .i64 0] 35 (0, 0))) := ⟨blk_below (by (with_reducible repeat (first | refine blk_drewN ?_ _ | refine blk_drew ?_)); exact blk_new _ _) hb⟩; have hz : w.heap.size < w'.heap.size := blk_lt BK.out; have c0 : w'.cell? ⟨w.heap.size, 0, none⟩ = some (.int .i64 0) := (blk_cell BK.out 0).trans rfl; have c1 : w'.cell? ⟨w.heap.size, 1, none⟩ = some (.string ⟨#[]⟩) := (blk_cell BK.out 1).trans rfl; have c2 : w'.cell? ⟨w.heap.size, 2, none⟩ = some (.int .i64 0) := (blk_cell BK.out 2).trans rfl; have f0 := blk_frozen BK.out 0; have f1 := blk_frozen BK.out 1; have f2 := blk_frozen BK.out 2; have HW : Aside0 (Below w.heap.size w w') := ⟨below_step (by repeat (first | (with_reducible first | exact Below.refl _ _ | apply below_alloc | apply pw_below_drewN | apply below_drew1))) hb⟩; clear hb)))
    refine bodyPost_ret (v := stpV s i (.err e)) (by simp [stpV, results, Tryd.results57, go_sem, c0, c1, c2]) rfl ⟨rfl, (by repeat (first | (with_reducible first | exact HW.out | apply below_alloc | apply pw_below_drewN | apply below_drew1 | refine below_set ?_ (Nat.le_refl _)) | assumption))⟩

set_option maxHeartbeats 1600000 in
set_option maxRecDepth 100000 in
theorem next_name (s : ByteArray) (i : Nat) (w : World) (hs : s.size ≤ 4611686018427387904) (hi : i < s.size) (hb0 : isBlank s[i] = false) (hc : s[i] ≠ 37) (hn : isName s[i] = true) :
    Calls Tryd.prog 57 #[.string s, .int .i64 i] w fun e w' => e = .returned (stpV s i (nextL (sfx s i))) ∧ Below w.heap.size w w' := by
  have HB := Aside0.mk (blank_any s[i])
  have HN := Aside0.mk (nameByte_any s[i])
  have HR := Aside0.mk (run_name s i (by omega) (by omega))
  obtain ⟨b1, b2, b3, b4⟩ := runEnd_sfx isName s i (by omega)
  have hex : s.extract i (runEnd isName s i) = ⟨((sfx s i).takeWhile isName).toArray⟩ := by rw [extract_mk, b4]
  have hlen : ((sfx s i).takeWhile isName).length = runEnd isName s i - i := by
    rw [← b4, List.length_take, sfx_len]; omega
  have hdl : ((sfx s i).dropWhile isName).length = s.size - runEnd isName s i := by
    rw [← b3, sfx_len]
  have hP : nextL (sfx s i) = if 64 < ((sfx s i).takeWhile isName).length then .err 12 else .tok (if isRes ((sfx s i).takeWhile isName) then 2 else 1) ((sfx s i).takeWhile isName) ((sfx s i).dropWhile isName) := by
    rw [sfx_cons s i hi, nextL_cons, if_neg (by rw [hb0]; exact Bool.false_ne_true), if_neg hc, if_pos hn]
  have hname := name_f ⟨((sfx s i).takeWhile isName).toArray⟩ (i : Int) (runEnd isName s i : Nat)
  have hsz : (⟨((sfx s i).takeWhile isName).toArray⟩ : ByteArray).size = ((sfx s i).takeWhile isName).length := rfl
  rw [hsz] at hname
  rw [hb0] at HB
  rw [hn] at HN
  have hc' : ((s[i].toNat : Int) == 37) = false := by
    rw [beq_eq_false_iff_ne]
    intro h
    exact hc (UInt8.toNat_inj.1 (by simpa using Int.ofNat.inj h))
  have hl1 : (i : Int) ≤ ((runEnd isName s i : Nat) : Int) := by omega
  have hl2 : ((runEnd isName s i : Nat) : Int) ≤ (s.size : Int) := by omega
  have hsl : ∀ w, (Instr.slice 9 (.string s) (some (.int .i64 (i : Int))) (some (.int .i64 (runEnd isName s i : Nat))) none).run Tryd.prog w = .ok (.string ⟨((sfx s i).takeWhile isName).toArray⟩) w := by
    intro w
    rw [run_slice_string w 9 s .i64 .i64 _ _ Tryd.underlying9 (by omega) hl1 hl2, Int.toNat_natCast, Int.toNat_natCast, hex]
  rw [hP]
  by_cases h64 : 64 < ((sfx s i).takeWhile isName).length
  · rw [if_pos h64] at hname ⊢
    have HM := Aside0.mk hname
    clear hname hP hex hlen hdl b3 b4 hb0 hc hn h64
    go_enter Tryd.func57, Tryd.ntmps57
    go_wp2_with (first | (go_at_call 88; (with_reducible refine (HB.out _).mono ?_); rintro e w' ⟨rfl, ⟨nd, rfl⟩⟩) | (go_at_call 53; (with_reducible refine (HN.out _).mono ?_); rintro e w' ⟨rfl, ⟨nd2, rfl⟩⟩) | (go_at_call 52; (with_reducible refine (HR.out _).mono ?_); rintro e w' ⟨rfl, ⟨nd3, rfl⟩⟩) | (go_at_call 90; (with_reducible refine (token_name.calls _ _ _ _ _ _ _ _ _ HM.out).mono ?_); rintro e w' ⟨rfl, hb⟩; (have BK : Aside0 (w'.heap[w.heap.size]? = some (.cells #[.int .i64 0, .string ⟨#[]⟩, .int .i64 0] 35 (0, 0))) := ⟨blk_below (by (with_reducible repeat (first | refine blk_drewN ?_ _ | refine blk_drew ?_)); exact blk_new _ _) hb⟩; have hz : w.heap.size < w'.heap.size := blk_lt BK.out; have c0 : w'.cell? ⟨w.heap.size, 0, none⟩ = some (.int .i64 0) := (blk_cell BK.out 0).trans rfl; have c1 : w'.cell? ⟨w.heap.size, 1, none⟩ = some (.string ⟨#[]⟩) := (blk_cell BK.out 1).trans rfl; have c2 : w'.cell? ⟨w.heap.size, 2, none⟩ = some (.int .i64 0) := (blk_cell BK.out 2).trans rfl; have f0 := blk_frozen BK.out 0; have f1 := blk_frozen BK.out 1; have f2 := blk_frozen BK.out 2; have HW : Aside0 (Below w.heap.size w w') := ⟨below_step (by repeat (first | (with_reducible first | exact Below.refl _ _ | apply below_alloc | apply pw_below_drewN | apply below_drew1))) hb⟩; clear hb)))
    refine bodyPost_ret (v := stpV s i (.err 12)) (by simp [stpV, results, Tryd.results57, go_sem, c0, c1, c2]) rfl ⟨rfl, (by repeat (first | (with_reducible first | exact HW.out | apply below_alloc | apply pw_below_drewN | apply below_drew1 | refine below_set ?_ (Nat.le_refl _)) | assumption))⟩
  · rw [if_neg h64] at hname ⊢
    have hend : Aside0 (((s.size - ((sfx s i).dropWhile isName).length : Nat) : Int) = (runEnd isName s i : Nat)) := by constructor; rw [hdl]; omega
    cases hr : isRes ((sfx s i).takeWhile isName) with
    | true =>
      rw [show ((⟨((sfx s i).takeWhile isName).toArray⟩ : ByteArray).data.toList) = (sfx s i).takeWhile isName by simp, hr] at hname
      have HM : Aside0 (token_name.f ⟨((sfx s i).takeWhile isName).toArray⟩ (i : Int) (runEnd isName s i : Nat) = some (2, ⟨((sfx s i).takeWhile isName).toArray⟩, (i : Int), ((runEnd isName s i : Nat) : Int), 0)) := ⟨hname⟩
      clear hname hP hex hlen hdl b3 b4 hb0 hc hn h64 hr
      go_enter Tryd.func57, Tryd.ntmps57
      go_wp2_with (first | (go_at_call 88; (with_reducible refine (HB.out _).mono ?_); rintro e w' ⟨rfl, ⟨nd, rfl⟩⟩) | (go_at_call 53; (with_reducible refine (HN.out _).mono ?_); rintro e w' ⟨rfl, ⟨nd2, rfl⟩⟩) | (go_at_call 52; (with_reducible refine (HR.out _).mono ?_); rintro e w' ⟨rfl, ⟨nd3, rfl⟩⟩) | (go_at_call 90; (with_reducible refine (token_name.calls _ _ _ _ _ _ _ _ _ HM.out).mono ?_); rintro e w' ⟨rfl, hb⟩; (have BK : Aside0 (w'.heap[w.heap.size]? = some (.cells #[.int .i64 0, .string ⟨#[]⟩, .int .i64 0] 35 (0, 0))) := ⟨blk_below (by (with_reducible repeat (first | refine blk_drewN ?_ _ | refine blk_drew ?_)); exact blk_new _ _) hb⟩; have hz : w.heap.size < w'.heap.size := blk_lt BK.out; have c0 : w'.cell? ⟨w.heap.size, 0, none⟩ = some (.int .i64 0) := (blk_cell BK.out 0).trans rfl; have c1 : w'.cell? ⟨w.heap.size, 1, none⟩ = some (.string ⟨#[]⟩) := (blk_cell BK.out 1).trans rfl; have c2 : w'.cell? ⟨w.heap.size, 2, none⟩ = some (.int .i64 0) := (blk_cell BK.out 2).trans rfl; have f0 := blk_frozen BK.out 0; have f1 := blk_frozen BK.out 1; have f2 := blk_frozen BK.out 2; have HW : Aside0 (Below w.heap.size w w') := ⟨below_step (by repeat (first | (with_reducible first | exact Below.refl _ _ | apply below_alloc | apply pw_below_drewN | apply below_drew1))) hb⟩; clear hb)))
      refine bodyPost_ret (v := stpV s i (.tok 2 ((sfx s i).takeWhile isName) ((sfx s i).dropWhile isName))) (by simp [stpV, results, Tryd.results57, go_sem, c0, c1, c2, hend.out]) rfl ⟨rfl, (by repeat (first | (with_reducible first | exact HW.out | apply below_alloc | apply pw_below_drewN | apply below_drew1 | refine below_set ?_ (Nat.le_refl _)) | assumption))⟩
    | false =>
      rw [show ((⟨((sfx s i).takeWhile isName).toArray⟩ : ByteArray).data.toList) = (sfx s i).takeWhile isName by simp, hr] at hname
      have HM : Aside0 (token_name.f ⟨((sfx s i).takeWhile isName).toArray⟩ (i : Int) (runEnd isName s i : Nat) = some (1, ⟨((sfx s i).takeWhile isName).toArray⟩, (i : Int), ((runEnd isName s i : Nat) : Int), 0)) := ⟨hname⟩
      clear hname hP hex hlen hdl b3 b4 hb0 hc hn h64 hr
      go_enter Tryd.func57, Tryd.ntmps57
      go_wp2_with (first | (go_at_call 88; (with_reducible refine (HB.out _).mono ?_); rintro e w' ⟨rfl, ⟨nd, rfl⟩⟩) | (go_at_call 53; (with_reducible refine (HN.out _).mono ?_); rintro e w' ⟨rfl, ⟨nd2, rfl⟩⟩) | (go_at_call 52; (with_reducible refine (HR.out _).mono ?_); rintro e w' ⟨rfl, ⟨nd3, rfl⟩⟩) | (go_at_call 90; (with_reducible refine (token_name.calls _ _ _ _ _ _ _ _ _ HM.out).mono ?_); rintro e w' ⟨rfl, hb⟩; (have BK : Aside0 (w'.heap[w.heap.size]? = some (.cells #[.int .i64 0, .string ⟨#[]⟩, .int .i64 0] 35 (0, 0))) := ⟨blk_below (by (with_reducible repeat (first | refine blk_drewN ?_ _ | refine blk_drew ?_)); exact blk_new _ _) hb⟩; have hz : w.heap.size < w'.heap.size := blk_lt BK.out; have c0 : w'.cell? ⟨w.heap.size, 0, none⟩ = some (.int .i64 0) := (blk_cell BK.out 0).trans rfl; have c1 : w'.cell? ⟨w.heap.size, 1, none⟩ = some (.string ⟨#[]⟩) := (blk_cell BK.out 1).trans rfl; have c2 : w'.cell? ⟨w.heap.size, 2, none⟩ = some (.int .i64 0) := (blk_cell BK.out 2).trans rfl; have f0 := blk_frozen BK.out 0; have f1 := blk_frozen BK.out 1; have f2 := blk_frozen BK.out 2; have HW : Aside0 (Below w.heap.size w w') := ⟨below_step (by repeat (first | (with_reducible first | exact Below.refl _ _ | apply below_alloc | apply pw_below_drewN | apply below_drew1))) hb⟩; clear hb)))
      refine bodyPost_ret (v := stpV s i (.tok 1 ((sfx s i).takeWhile isName) ((sfx s i).dropWhile isName))) (by simp [stpV, results, Tryd.results57, go_sem, c0, c1, c2, hend.out]) rfl ⟨rfl, (by repeat (first | (with_reducible first | exact HW.out | apply below_alloc | apply pw_below_drewN | apply below_drew1 | refine below_set ?_ (Nat.le_refl _)) | assumption))⟩

set_option maxHeartbeats 1600000 in
set_option maxRecDepth 100000 in
theorem next_other (s : ByteArray) (i : Nat) (w : World) (hs : s.size ≤ 4611686018427387904) (hi : i < s.size) (hb0 : isBlank s[i] = false) (hc : s[i] ≠ 37) (hn : isName s[i] = false) :
    Calls Tryd.prog 57 #[.string s, .int .i64 i] w fun e w' => e = .returned (stpV s i (if isPunct s[i] then .tok 2 [s[i]] (sfx s (i + 1)) else .err 10)) ∧ Below w.heap.size w w' := by
  have HB := Aside0.mk (blank_any s[i])
  have HN := Aside0.mk (nameByte_any s[i])
  have HX := Aside0.mk (Tryd.strings_IndexByte ⟨#[40, 41, 91, 93, 123, 125, 58, 46]⟩ s[i].toNat)
  have HXV : ∀ c : UInt8, decide (0 ≤ Lib.indexByte [40, 41, 91, 93, 123, 125, 58, 46] c) = isPunct c := by
    apply all_u8; decide +kernel
  have hx := HXV s[i]
  clear HXV
  have hend : Aside0 (((s.size - (sfx s (i + 1)).length : Nat) : Int) = (i : Int) + 1) := by constructor; rw [sfx_len]; omega
  rw [hb0] at HB
  rw [hn] at HN
  have hc' : ((s[i].toNat : Int) == 37) = false := by
    rw [beq_eq_false_iff_ne]
    intro h
    exact hc (UInt8.toNat_inj.1 (by simpa using Int.ofNat.inj h))
  have hil : (i : Int) + 1 ≤ (s.size : Int) := by omega
  have hsl : ∀ w, (Instr.slice 9 (.string s) (some (.int .i64 (i : Int))) (some (.int .i64 ((i : Int) + 1))) none).run Tryd.prog w = .ok (.string ⟨[s[i]].toArray⟩) w := by
    intro w
    rw [run_slice_string w 9 s .i64 .i64 _ _ Tryd.underlying9 (by omega) (by omega) hil, Int.toNat_natCast, show ((i : Int) + 1).toNat = i + 1 by omega, extract_mk, sfx_cons s i hi, show i + 1 - i = 1 by omega]
    rfl
  clear hc hn hb0
  cases hp : isPunct s[i] with
  | true =>
    rw [hp] at hx
    clear hp
    go_enter Tryd.func57, Tryd.ntmps57
    go_wp2_with (first | (go_at_call 88; (with_reducible refine (HB.out _).mono ?_); rintro e w' ⟨rfl, ⟨nd, rfl⟩⟩) | (go_at_call 53; (with_reducible refine (HN.out _).mono ?_); rintro e w' ⟨rfl, ⟨nd2, rfl⟩⟩) | (go_at_call 87; (with_reducible refine (HX.out _).mono ?_); rintro e w' ⟨rfl, rfl⟩))
    refine bodyPost_ret (v := stpV s i (.tok 2 [s[i]] (sfx s (i + 1)))) (by simp [stpV, results, Tryd.results57, go_sem, hend.out]) rfl ⟨rfl, (by repeat (first | (with_reducible first | exact Below.refl _ _ | apply below_alloc | apply pw_below_drewN | apply below_drew1 | refine below_set ?_ (Nat.le_refl _)) | assumption))⟩
  | false =>
    rw [hp] at hx
    clear hp
    go_enter Tryd.func57, Tryd.ntmps57
    go_wp2_with (first | (go_at_call 88; (with_reducible refine (HB.out _).mono ?_); rintro e w' ⟨rfl, ⟨nd, rfl⟩⟩) | (go_at_call 53; (with_reducible refine (HN.out _).mono ?_); rintro e w' ⟨rfl, ⟨nd2, rfl⟩⟩) | (go_at_call 87; (with_reducible refine (HX.out _).mono ?_); rintro e w' ⟨rfl, rfl⟩))
    refine bodyPost_ret (v := stpV s i (.err 10)) (by simp [stpV, results, Tryd.results57, go_sem]) rfl ⟨rfl, (by repeat (first | (with_reducible first | exact Below.refl _ _ | apply below_alloc | apply pw_below_drewN | apply below_drew1 | refine below_set ?_ (Nat.le_refl _)) | assumption))⟩

theorem next_any (s : ByteArray) (i : Nat) (w : World) (hs : s.size ≤ 4611686018427387904) (hi : i < s.size) :
    Calls Tryd.prog 57 #[.string s, .int .i64 i] w fun e w' => e = .returned (stpV s i (nextL (sfx s i))) ∧ Below w.heap.size w w' := by
  have hP := congrArg nextL (sfx_cons s i hi)
  rw [nextL_cons] at hP
  cases hb : isBlank s[i] with
  | true =>
    rw [if_pos hb] at hP
    rw [hP]
    exact next_blank s i w hs hi hb
  | false =>
    rw [if_neg (by rw [hb]; exact Bool.false_ne_true)] at hP
    by_cases hc : s[i] = 37
    · rw [if_pos hc] at hP
      rw [hP]
      exact next_percent s i w hs hi hc
    · rw [if_neg hc] at hP
      cases hn : isName s[i] with
      | true => exact next_name s i w hs hi hb hc hn
      | false =>
        rw [if_neg (by rw [hn]; exact Bool.false_ne_true)] at hP
        rw [hP]
        exact next_other s i w hs hi hb hc hn

end Go.Proofs.YtajefkjcfmfjkaaDoor
