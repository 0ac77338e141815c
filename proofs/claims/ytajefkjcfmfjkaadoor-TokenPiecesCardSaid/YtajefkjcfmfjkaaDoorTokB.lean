/- percent, next: what each computes (the walks). -/
import Derived.Test.YtajefkjcfmfjkaaDoorTokA
namespace Go.Proofs.YtajefkjcfmfjkaaDoor
open Go.RowKit Go.Proofs.YtajefkjcfmfjkaaDoorW.PrintWords Go.Proofs.YtajefkjcfmfjkaaDoor.PTokenPieces

/-- the values that next hands back for a step at a place -/
def stpV (s : ByteArray) (i : Nat) : Stp → Value
  | .skip r => .tuple #[.agg #[.int .i64 0, .string ⟨#[]⟩, .int .i64 0], .int .i64 ((s.size - r.length : Nat) : Int), .int .i64 0]
  | .tok k t r => .tuple #[.agg #[.int .i64 (k : Int), .string ⟨t.toArray⟩, .int .i64 (i : Int)], .int .i64 ((s.size - r.length : Nat) : Int), .int .i64 0]
  | .err e => .tuple #[.agg #[.int .i64 0, .string ⟨#[]⟩, .int .i64 0], .int .i64 (i : Int), .int .i64 (e : Int)]

def cmtStp : Option (List UInt8) → Stp
  | some q => .skip q
  | none => .err 11

theorem eg53 : ∀ args w, (callFunc 53 args).run Tryd.prog w = .ok (.enter 53 args) w := enters_of Tryd.func53 (by kernel_rfl) rfl
theorem eg109 : ∀ args w, (callFunc 109 args).run Tryd.prog w = .ok (.enter 109 args) w := enters_of Tryd.func109 (by kernel_rfl) rfl
theorem eg110 : ∀ args w, (callFunc 110 args).run Tryd.prog w = .ok (.enter 110 args) w := enters_of Tryd.func110 (by kernel_rfl) rfl

theorem run_name (s : ByteArray) (i : Nat) (hs : s.size ≤ 9223372036854775800) (hi : i ≤ s.size) (w : World) : Calls Tryd.prog 52 #[.string s, .int .i64 i, .func (.func 53) #[] #[]] w fun e w' => e = .returned (.int .i64 (runEnd isName s i)) ∧ Drawn0 w w' :=
  run_any isName 53 cls_name eg53 s i w hs hi
theorem run_letter (s : ByteArray) (i : Nat) (hs : s.size ≤ 9223372036854775800) (hi : i + 1 ≤ s.size) (w : World) : Calls Tryd.prog 52 #[.string s, .int .i64 ((i : Int) + 1), .func (.func 109) #[] #[]] w fun e w' => e = .returned (.int .i64 (runEnd isLetter s (i + 1))) ∧ Drawn0 w w' :=
  run_any isLetter 109 cls_letter eg109 s (i + 1) w hs hi
theorem run_notNl (s : ByteArray) (i : Nat) (hs : s.size ≤ 9223372036854775800) (hi : i ≤ s.size) (w : World) : Calls Tryd.prog 52 #[.string s, .int .i64 i, .func (.func 110) #[] #[]] w fun e w' => e = .returned (.int .i64 (runEnd notNl s i)) ∧ Drawn0 w w' :=
  run_any notNl 110 cls_notNl eg110 s i w hs hi

set_option maxHeartbeats 1600000 in
set_option maxRecDepth 100000 in
theorem percent_comment (s : ByteArray) (i : Nat) (w : World) (hs : s.size ≤ 4611686018427387904) (hi : i < s.size) (hc : s[i] = 37) (ho : (sfx s (i + 1)).head? = some 123) (Q : Option (List UInt8)) (hq : cmtL (sfx s (i + 1)).tail 1 = Q) :
    Calls Tryd.prog 89 #[.string s, .int .i64 i] w fun e w' => e = .returned (stpV s i (cmtStp Q)) ∧ Below w.heap.size w w' := by
  have hp := Aside0.mk (prefix_f s i hi hc)
  have h1 : Aside0 (i + 1 < s.size) := by
    constructor
    rcases Nat.lt_or_ge (i + 1) s.size with h | h
    · exact h
    · rw [sfx_nil s (i + 1) h] at ho; cases ho
  have ho' : opens s i = true := by unfold opens; rw [ho]; rfl
  rw [ho'] at hp
  have hcm : Aside0 (∃ k, token_comment.f k s (i : Int) = some (cmtR s Q)) := by
    constructor
    obtain ⟨k, hk⟩ := comment_f s hs i h1.out ⟨hc, by rw [sfx_cons s (i + 1) h1.out] at ho; simpa using ho⟩
    rw [sfx_cons s (i + 1) h1.out] at hq
    simp only [List.tail_cons] at hq
    rw [hq] at hk
    exact ⟨k, hk⟩
  obtain ⟨⟨kc, hkc0⟩⟩ := hcm
  have hkc := Aside0.mk hkc0
  clear hkc0 ho hq hc ho'
  have hil : (i : Int) ≤ (s.size : Int) := by omega
  cases Q with
  | some q =>
    simp only [cmtR] at hkc
    have hd : decide (((s.size - q.length : Nat) : Int) < 0) = false := decide_eq_false (by omega)
    go_enter Tryd.func89, Tryd.ntmps89
    go_wp2_with (first | (go_at_call 107; (with_reducible refine (strings_HasPrefix.calls _ _ _ _ hp.out).mono ?_); rintro e w' ⟨rfl, ⟨nd, rfl⟩⟩) | (go_at_call 108; (with_reducible refine (token_comment.calls _ _ _ _ _ hkc.out).mono ?_); rintro e w' ⟨rfl, ⟨nd2, rfl⟩⟩))
    refine bodyPost_ret (v := stpV s i (.skip q)) (by simp [stpV, results, Tryd.results89, go_sem]) rfl ⟨rfl, (by repeat (first | (with_reducible first | exact Below.refl _ _ | apply below_alloc | apply pw_below_drewN | apply below_drew1 | refine below_set ?_ (Nat.le_refl _)) | assumption))⟩
  | none =>
    simp only [cmtR] at hkc
    go_enter Tryd.func89, Tryd.ntmps89
    go_wp2_with (first | (go_at_call 107; (with_reducible refine (strings_HasPrefix.calls _ _ _ _ hp.out).mono ?_); rintro e w' ⟨rfl, ⟨nd, rfl⟩⟩) | (go_at_call 108; (with_reducible refine (token_comment.calls _ _ _ _ _ hkc.out).mono ?_); rintro e w' ⟨rfl, ⟨nd2, rfl⟩⟩))
    refine bodyPost_ret (v := stpV s i (.err 11)) (by simp [stpV, results, Tryd.results89, go_sem]) rfl ⟨rfl, (by repeat (first | (with_reducible first | exact Below.refl _ _ | apply below_alloc | apply pw_below_drewN | apply below_drew1 | refine below_set ?_ (Nat.le_refl _)) | assumption))⟩

set_option maxHeartbeats 1600000 in
set_option maxRecDepth 100000 in
theorem percent_word (s : ByteArray) (i : Nat) (w : World) (hs : s.size ≤ 4611686018427387904) (hi : i < s.size) (hc : s[i] = 37) (ho : (sfx s (i + 1)).head? ≠ some 123) :
    Calls Tryd.prog 89 #[.string s, .int .i64 i] w fun e w' => e = .returned (stpV s i (pctL (sfx s (i + 1)))) ∧ Below w.heap.size w w' := by
  have hp := Aside0.mk (prefix_f s i hi hc)
  have ho' : opens s i = false := by unfold opens; simp [ho]
  rw [ho'] at hp
  obtain ⟨b1, b2, b3, b4⟩ := runEnd_sfx isLetter s (i + 1) (by omega)
  have HR := Aside0.mk (run_letter s i (by omega) (by omega))
  have HN := Aside0.mk (run_notNl s i (by omega) (by omega))
  have hP : pctL (sfx s (i + 1)) = if (sfx s (i + 1)).takeWhile isLetter = [] then .skip ((sfx s (i + 1)).dropWhile notNl) else if 64 < ((sfx s (i + 1)).takeWhile isLetter).length then .err 12 else .tok 3 ((sfx s (i + 1)).takeWhile isLetter) ((sfx s (i + 1)).dropWhile isLetter) := by
    unfold pctL; rw [if_neg ho]
  have hlen : ((sfx s (i + 1)).takeWhile isLetter).length = runEnd isLetter s (i + 1) - (i + 1) := by
    rw [← b4, List.length_take, sfx_len]; omega
  have hdl : ((sfx s (i + 1)).dropWhile isLetter).length = s.size - runEnd isLetter s (i + 1) := by
    rw [← b3, sfx_len]
  by_cases h0 : runEnd isLetter s (i + 1) = i + 1
  · have e0 : (sfx s (i + 1)).takeWhile isLetter = [] := List.eq_nil_of_length_eq_zero (by rw [hlen]; omega)
    rw [if_pos e0] at hP
    obtain ⟨n1, n2, n3, n4⟩ := runEnd_sfx notNl s i (by omega)
    have hn : (sfx s i).dropWhile notNl = (sfx s (i + 1)).dropWhile notNl := by
      rw [sfx_cons s i hi, hc]; rfl
    rw [hn] at n3
    have hend : Aside0 (s.size - ((sfx s (i + 1)).dropWhile notNl).length = runEnd notNl s i) := by
      constructor; rw [← n3, sfx_len]; omega
    rw [hP]
    have ht : ((runEnd isLetter s (i + 1) : Nat) : Int) = (i : Int) + 1 := by rw [h0]; rfl
    rw [ht] at HR
    clear hlen hdl hP e0 b1 b2 b3 b4 n3 n4 hn ho ho' hc h0 ht
    have hil : (i : Int) ≤ (s.size : Int) := by omega
    go_enter Tryd.func89, Tryd.ntmps89
    go_wp2_with (first | (go_at_call 107; (with_reducible refine (strings_HasPrefix.calls _ _ _ _ hp.out).mono ?_); rintro e w' ⟨rfl, ⟨nd, rfl⟩⟩) | (go_at_call 52; first | ((with_reducible refine (HR.out _).mono ?_); rintro e w' ⟨rfl, ⟨nd2, rfl⟩⟩) | ((with_reducible refine (HN.out _).mono ?_); rintro e w' ⟨rfl, ⟨nd3, rfl⟩⟩)))
    refine bodyPost_ret (v := stpV s i (.skip ((sfx s (i + 1)).dropWhile notNl))) (by simp [stpV, results, Tryd.results89, go_sem, hend.out]) rfl ⟨rfl, (by repeat (first | (with_reducible first | exact Below.refl _ _ | apply below_alloc | apply pw_below_drewN | apply below_drew1 | refine below_set ?_ (Nat.le_refl _)) | assumption))⟩
  · have e0 : (sfx s (i + 1)).takeWhile isLetter ≠ [] := by intro h; rw [h] at hlen; simp at hlen; omega
    rw [if_neg e0] at hP
    have ht : (((runEnd isLetter s (i + 1) : Nat) : Int) == (i : Int) + 1) = false := by
      rw [beq_eq_false_iff_ne]; omega
    have hex : Aside0 (s.extract (i + 1) (runEnd isLetter s (i + 1)) = ⟨((sfx s (i + 1)).takeWhile isLetter).toArray⟩) := by
      constructor; rw [extract_mk, b4]
    have hend : Aside0 (s.size - ((sfx s (i + 1)).dropWhile isLetter).length = runEnd isLetter s (i + 1)) := by
      constructor; rw [hdl]; omega
    by_cases h64 : 64 < runEnd isLetter s (i + 1) - (i + 1)
    · rw [if_pos (by rw [hlen]; exact h64)] at hP
      rw [hP]
      have hd : decide ((64 : Int) < ((runEnd isLetter s (i + 1) : Nat) : Int) - i - 1) = true := decide_eq_true (by omega)
      clear hlen hdl hP e0 b3 b4 ho ho' hc h0
      have hil : (i : Int) ≤ (s.size : Int) := by omega
      have hl1 : (i : Int) + 1 ≤ ((runEnd isLetter s (i + 1) : Nat) : Int) := by omega
      have hl2 : ((runEnd isLetter s (i + 1) : Nat) : Int) ≤ (s.size : Int) := by omega
      have hsl : ∀ w, (Instr.slice 9 (.string s) (some (.int .i64 ((i : Int) + 1))) (some (.int .i64 (runEnd isLetter s (i + 1) : Nat))) none).run Tryd.prog w = .ok (.string ⟨((sfx s (i + 1)).takeWhile isLetter).toArray⟩) w := by
        intro w
        rw [run_slice_string w 9 s .i64 .i64 _ _ Tryd.underlying9 (by omega) hl1 hl2, show ((i : Int) + 1).toNat = i + 1 by omega, Int.toNat_natCast, hex.out]
      go_enter Tryd.func89, Tryd.ntmps89
      go_wp2_with (first | (go_at_call 107; (with_reducible refine (strings_HasPrefix.calls _ _ _ _ hp.out).mono ?_); rintro e w' ⟨rfl, ⟨nd, rfl⟩⟩) | (go_at_call 52; (with_reducible refine (HR.out _).mono ?_); rintro e w' ⟨rfl, ⟨nd2, rfl⟩⟩))
      refine bodyPost_ret (v := stpV s i (.err 12)) (by simp [stpV, results, Tryd.results89, go_sem]) rfl ⟨rfl, (by repeat (first | (with_reducible first | exact Below.refl _ _ | apply below_alloc | apply pw_below_drewN | apply below_drew1 | refine below_set ?_ (Nat.le_refl _)) | assumption))⟩
    · rw [if_neg (by rw [hlen]; exact h64)] at hP
      rw [hP]
      have hd : decide ((64 : Int) < ((runEnd isLetter s (i + 1) : Nat) : Int) - i - 1) = false := decide_eq_false (by omega)
      clear hlen hdl hP e0 b3 b4 ho ho' hc h0
      have hil : (i : Int) ≤ (s.size : Int) := by omega
      have hl1 : (i : Int) + 1 ≤ ((runEnd isLetter s (i + 1) : Nat) : Int) := by omega
      have hl2 : ((runEnd isLetter s (i + 1) : Nat) : Int) ≤ (s.size : Int) := by omega
      have hsl : ∀ w, (Instr.slice 9 (.string s) (some (.int .i64 ((i : Int) + 1))) (some (.int .i64 (runEnd isLetter s (i + 1) : Nat))) none).run Tryd.prog w = .ok (.string ⟨((sfx s (i + 1)).takeWhile isLetter).toArray⟩) w := by
        intro w
        rw [run_slice_string w 9 s .i64 .i64 _ _ Tryd.underlying9 (by omega) hl1 hl2, show ((i : Int) + 1).toNat = i + 1 by omega, Int.toNat_natCast, hex.out]
      go_enter Tryd.func89, Tryd.ntmps89
      go_wp2_with (first | (go_at_call 107; (with_reducible refine (strings_HasPrefix.calls _ _ _ _ hp.out).mono ?_); rintro e w' ⟨rfl, ⟨nd, rfl⟩⟩) | (go_at_call 52; (with_reducible refine (HR.out _).mono ?_); rintro e w' ⟨rfl, ⟨nd2, rfl⟩⟩))
      refine bodyPost_ret (v := stpV s i (.tok 3 ((sfx s (i + 1)).takeWhile isLetter) ((sfx s (i + 1)).dropWhile isLetter))) (by simp [stpV, results, Tryd.results89, go_sem, hend.out]) rfl ⟨rfl, (by repeat (first | (with_reducible first | exact Below.refl _ _ | apply below_alloc | apply pw_below_drewN | apply below_drew1 | refine below_set ?_ (Nat.le_refl _)) | assumption))⟩

theorem percent_any (s : ByteArray) (i : Nat) (w : World) (hs : s.size ≤ 4611686018427387904) (hi : i < s.size) (hc : s[i] = 37) :
    Calls Tryd.prog 89 #[.string s, .int .i64 i] w fun e w' => e = .returned (stpV s i (pctL (sfx s (i + 1)))) ∧ Below w.heap.size w w' := by
  by_cases ho : (sfx s (i + 1)).head? = some 123
  · have := percent_comment s i w hs hi hc ho _ rfl
    have hP : pctL (sfx s (i + 1)) = cmtStp (cmtL (sfx s (i + 1)).tail 1) := by
      unfold pctL; rw [if_pos ho]; cases cmtL (sfx s (i + 1)).tail 1 <;> rfl
    rw [hP]
    exact this
  · exact percent_word s i w hs hi hc ho
end Go.Proofs.YtajefkjcfmfjkaaDoor
