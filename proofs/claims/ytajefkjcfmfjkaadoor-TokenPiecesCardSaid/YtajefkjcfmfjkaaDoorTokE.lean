/- IsName, IsFree, the reference's; SameTokens; Cut; the text of a law. -/
import Derived.Test.YtajefkjcfmfjkaaDoorTokD
import Derived.Test.YtajefkjcfmfjkaaDoorPTokenPiecesx2
import Derived.Test.YtajefkjcfmfjkaaDoorPTokenPiecesx4
namespace Go.Proofs.YtajefkjcfmfjkaaDoor
open Go.RowKit Go.Proofs.YtajefkjcfmfjkaaDoorW.PrintWords Go.Proofs.YtajefkjcfmfjkaaDoor.PTokenPieces

/-- is a text a name -/
def nameS (s : ByteArray) : Bool := decide (0 < s.size) && decide (s.size ≤ 64) && (runEnd isName s 0 == s.size) && !isRes s.data.toList && (sfx s 0).head? != some 64

theorem reserved_any (s : ByteArray) (w : World) : Calls Tryd.prog 54 #[.string s] w fun e w' => e = .returned (.bool (isRes s.data.toList)) ∧ Drawn0 w w' :=
  token_reserved.calls s _ w (reserved_f s)

theorem size_zero {s : ByteArray} (h : s.size = 0) : s = ⟨#[]⟩ := by
  apply ByteArray.ext
  exact Array.eq_empty_of_size_eq_zero h
theorem toList_nil {s : ByteArray} (h : s.size ≠ 0) : s.toList ≠ [] := by
  rw [Lib.toList_data]
  intro h2
  apply h
  have := len_data s
  rw [h2] at this
  exact this.symm

theorem run_name0 (s : ByteArray) (hs : s.size ≤ 9223372036854775800) (w : World) : Calls Tryd.prog 52 #[.string s, .int .i64 0, .func (.func 53) #[] #[]] w fun e w' => e = .returned (.int .i64 (runEnd isName s 0)) ∧ Drawn0 w w' :=
  run_any isName 53 cls_name eg53 s 0 w hs (Nat.zero_le _)

set_option maxHeartbeats 1600000 in
set_option maxRecDepth 100000 in
theorem isName_any (s : ByteArray) (w : World) (hs : s.size ≤ 9223372036854775800) :
    Calls Tryd.prog 20 #[.string s] w fun e w' => e = .returned (.bool (nameS s)) ∧ Drawn0 w w' := by
  by_cases h0 : s.size = 0
  · have := size_zero h0
    subst this
    go_enter Tryd.func20, Tryd.ntmps20
    go_wp2
    go_ret
    exact ⟨rfl, Drawn0.refl _⟩
  · have h00 := toList_nil h0
    have h01 : s.toList.isEmpty = false := by cases h : s.toList with | nil => exact absurd h h00 | cons => rfl
    have h02 : (!s.toList.isEmpty) = true := by rw [h01]; rfl
    by_cases h1 : s.size ≤ 64
    · have hd1 : decide ((s.size : Int) ≤ 64) = true := decide_eq_true (by omega)
      have HR := Aside0.mk (run_name0 s hs)
      have HS := Aside0.mk (reserved_any s)
      have hp : 0 < s.size := by omega
      by_cases h2 : runEnd isName s 0 = s.size
      · have h3 : ((runEnd isName s 0 : Int) == (s.size : Int)) = true := by rw [h2, beq_self_eq_true]
        cases hr : isRes s.data.toList with
        | true =>
          rw [hr] at HS
          have hn : nameS s = false := by simp [nameS, hr]
          rw [hn]
          clear hn h2 h0 h00 hr
          go_enter Tryd.func20, Tryd.ntmps20
          go_wp2_with (first | (go_at_call 52; (with_reducible refine (HR.out _).mono ?_); rintro e w' ⟨rfl, ⟨nd, rfl⟩⟩) | (go_at_call 54; (with_reducible refine (HS.out _).mono ?_); rintro e w' ⟨rfl, ⟨nd2, rfl⟩⟩))
          go_ret
          exact ⟨rfl, by repeat (first | exact Drawn0.refl _ | apply Drawn0.step)⟩
        | false =>
          rw [hr] at HS
          have hn : nameS s = ((s[0].toNat : Int) != 64) := by
            simp only [nameS, hp, h1, h2, hr, sfx_cons s 0 hp, decide_true, Bool.true_and, beq_self_eq_true, Bool.not_false, List.head?_cons]
            rw [Bool.eq_iff_iff, bne_iff_ne, bne_iff_ne]
            constructor
            · intro h4 h5; exact h4 (by rw [UInt8.toNat_inj.1 (show s[0].toNat = (64 : UInt8).toNat by simpa using Int.ofNat.inj h5)])
            · intro h4 h5; apply h4; injection h5 with h5; rw [h5]; rfl
          rw [hn]
          clear hn h2 h0 h00 hr
          go_enter Tryd.func20, Tryd.ntmps20
          go_wp2_with (first | (go_at_call 52; (with_reducible refine (HR.out _).mono ?_); rintro e w' ⟨rfl, ⟨nd, rfl⟩⟩) | (go_at_call 54; (with_reducible refine (HS.out _).mono ?_); rintro e w' ⟨rfl, ⟨nd2, rfl⟩⟩))
          go_ret
          exact ⟨rfl, by repeat (first | exact Drawn0.refl _ | apply Drawn0.step)⟩
      · have h3 : ((runEnd isName s 0 : Int) == (s.size : Int)) = false := by rw [beq_eq_false_iff_ne]; omega
        have hn : nameS s = false := by simp [nameS, h2]
        rw [hn]
        clear hn h2 h0 h00
        go_enter Tryd.func20, Tryd.ntmps20
        go_wp2_with (first | (go_at_call 52; (with_reducible refine (HR.out _).mono ?_); rintro e w' ⟨rfl, ⟨nd, rfl⟩⟩))
        go_ret
        exact ⟨rfl, by repeat (first | exact Drawn0.refl _ | apply Drawn0.step)⟩
    · have hd1 : decide ((s.size : Int) ≤ 64) = false := decide_eq_false (by omega)
      have hn : nameS s = false := by simp [nameS, h1]
      rw [hn]
      clear hn
      go_enter Tryd.func20, Tryd.ntmps20
      go_wp2
      go_ret
      exact ⟨rfl, Drawn0.refl _⟩

theorem rreserved_f (s : ByteArray) : lfcheckref01_reserved.f s = some (isRes s.data.toList) := by
  unfold lfcheckref01_reserved.f isRes
  rw [Lib.toList_data]
  generalize s.data.toList = l
  split
  · rename_i h; subst h; rfl
  · split
    · rename_i h; subst h; rfl
    · split
      · rename_i h; subst h; rfl
      · split
        · rename_i h; subst h; rfl
        · congr 1; simp [*]
theorem rreserved_any (s : ByteArray) (w : World) : Calls Tryd.prog 55 #[.string s] w fun e w' => e = .returned (.bool (isRes s.data.toList)) ∧ Drawn0 w w' :=
  lfcheckref01_reserved.calls s _ w (rreserved_f s)
theorem rspecial_any (c : UInt8) (w : World) : Calls Tryd.prog 86 #[.int .u8 c.toNat] w fun e w' => e = .returned (.bool (isPunct c)) ∧ Drawn0 w w' := by
  apply lfcheckref01_special.calls
  revert c; apply all_u8; decide +kernel
theorem rname_any (c : UInt8) (w : World) : Calls Tryd.prog 56 #[.int .u8 c.toNat] w fun e w' => e = .returned (.bool (isName c)) ∧ Drawn0 w w' := by
  apply lfcheckref01_nameByte.calls
  revert c; apply all_u8; decide +kernel
theorem rblank_any (c : UInt8) (w : World) : Calls Tryd.prog 85 #[.int .u8 c.toNat] w fun e w' => e = .returned (.bool (isBlank c)) ∧ Drawn0 w w' := by
  apply lfcheckref01_Blank.calls
  revert c; apply all_u8; decide +kernel

theorem nameS_head (s : ByteArray) (hp : 0 < s.size) (hr : isRes s.data.toList = false) (h1 : s.size ≤ 64) : nameS s = ((runEnd isName s 0 == s.size) && ((s[0].toNat : Int) != 64)) := by
  simp only [nameS, hp, h1, hr, sfx_cons s 0 hp, decide_true, Bool.true_and, Bool.not_false, Bool.and_true, List.head?_cons]
  congr 1
  rw [Bool.eq_iff_iff, bne_iff_ne, bne_iff_ne]
  constructor
  · intro h4 h5; exact h4 (by rw [UInt8.toNat_inj.1 (show s[0].toNat = (64 : UInt8).toNat by simpa using Int.ofNat.inj h5)])
  · intro h4 h5; apply h4; injection h5 with h5; rw [h5]; rfl

set_option maxHeartbeats 1600000 in
set_option maxRecDepth 100000 in
theorem rIsName_any (s : ByteArray) (w : World) (hs : s.size ≤ 9223372036854775800) :
    Calls Tryd.prog 21 #[.string s] w fun e w' => e = .returned (.bool (nameS s)) ∧ Drawn0 w w' := by
  by_cases h0 : s.size = 0
  · have := size_zero h0
    subst this
    go_enter Tryd.func21, Tryd.ntmps21
    go_wp2
    go_ret
    exact ⟨rfl, Drawn0.refl _⟩
  · have h00 : ((s.size : Int) == 0) = false := by rw [beq_eq_false_iff_ne]; omega
    by_cases h1 : s.size ≤ 64
    · have hd1 : decide ((64 : Int) < (s.size : Int)) = false := decide_eq_false (by omega)
      have HS := Aside0.mk (rreserved_any s)
      have hp : 0 < s.size := by omega
      cases hr : isRes s.data.toList with
      | true =>
        rw [hr] at HS
        have hn : nameS s = false := by simp [nameS, hr]
        rw [hn]
        clear hn h0 hr
        go_enter Tryd.func21, Tryd.ntmps21
        go_wp2_with (first | (go_at_call 55; (with_reducible refine (HS.out _).mono ?_); rintro e w' ⟨rfl, ⟨nd2, rfl⟩⟩))
        go_ret
        exact ⟨rfl, by repeat (first | exact Drawn0.refl _ | apply Drawn0.step)⟩
      | false =>
        rw [hr] at HS
        have hn := nameS_head s hp hr h1
        by_cases h64 : s[0] = 64
        · have hd : ((s[0].toNat : Int) == 64) = true := by rw [h64]; rfl
          have hn2 : nameS s = false := by rw [hn, h64]; simp
          rw [hn2]
          clear hn hn2 h0 hr h64
          go_enter Tryd.func21, Tryd.ntmps21
          go_wp2_with (first | (go_at_call 55; (with_reducible refine (HS.out _).mono ?_); rintro e w' ⟨rfl, ⟨nd2, rfl⟩⟩))
          go_ret
          exact ⟨rfl, by repeat (first | exact Drawn0.refl _ | apply Drawn0.step)⟩
        · have hd : ((s[0].toNat : Int) == 64) = false := (by rw [beq_eq_false_iff_ne]; intro h; exact h64 (UInt8.toNat_inj.1 (by simpa using Int.ofNat.inj h)))
          have hn2 : nameS s = (runEnd isName s 0 == s.size) := by
            have hd' : ((s[0].toNat : Int) != 64) = true := by rw [bne, hd]; rfl
            rw [hn, hd', Bool.and_true]
          have HN := Aside0.mk hn2
          clear hn hn2 h0 hr h64
          go_enter Tryd.func21, Tryd.ntmps21
          go_wp2_with (first | (go_at_call 55; (with_reducible refine (HS.out _).mono ?_); rintro e w' ⟨rfl, ⟨nd2, rfl⟩⟩))
          go_loopw [3] (fun v w' => ∃ k : Nat, k ≤ s.size ∧ v = .int .i64 k ∧ Aside0 (runEnd isName s k = runEnd isName s 0) ∧ Drawn0 w w') (fun v _ => s.size - (intOf v).toNat)
          case atStart => exact ⟨0, by omega, rfl, ⟨rfl⟩, by repeat (first | exact Drawn0.refl _ | apply Drawn0.step)⟩
          case round =>
            obtain ⟨k, hk, rfl, hrr, hdr⟩ := hrel
            by_cases hlt : k < s.size
            · have HC := Aside0.mk (rname_any s[k])
              cases hq : isName s[k] with
              | true =>
                rw [hq] at HC
                have H1 := Aside0.mk hq
                clear hq
                go_wp2_with (go_at_call 56; refine (HC.out _).mono ?_; rintro e w' ⟨rfl, ⟨nd, rfl⟩⟩)
                go_roundw
                case rel => exact ⟨k + 1, by omega, by go_num, ⟨(runEnd_yes hlt H1.out).symm.trans hrr.out⟩, hdr.step _⟩
                case measure => simp [intOf]; omega
              | false =>
                rw [hq] at HC
                have H1 := Aside0.mk hq
                clear hq
                go_wp2_with (go_at_call 56; refine (HC.out _).mono ?_; rintro e w' ⟨rfl, ⟨nd, rfl⟩⟩)
                go_ret
                refine ⟨ret_bool ?_, hdr.step _⟩
                rw [HN.out, ← hrr.out, runEnd_no hlt H1.out, eq_comm, beq_eq_false_iff_ne]
                omega
            · go_wp2
              go_ret
              refine ⟨ret_bool ?_, hdr⟩
              rw [HN.out, ← hrr.out, runEnd_stop hlt, eq_comm, beq_iff_eq]
              omega
    · have hd1 : decide ((64 : Int) < (s.size : Int)) = true := decide_eq_true (by omega)
      have hn : nameS s = false := by simp [nameS, h1]
      rw [hn]
      clear hn
      go_enter Tryd.func21, Tryd.ntmps21
      go_wp2
      go_ret
      exact ⟨rfl, Drawn0.refl _⟩

/-- is a text a name that can be free -/
def freeS (s : ByteArray) : Bool := nameS s && (match (sfx s 0).head? with | some c => decide (65 ≤ c.toNat) && decide (c.toNat ≤ 90) || c == 95 | none => false)
theorem nameS_pos {s : ByteArray} (h : nameS s = true) : 0 < s.size := by
  simp [nameS] at h; exact h.1.1.1.1
theorem freeS_head (s : ByteArray) (hp : 0 < s.size) (hn : nameS s = true) : freeS s = (decide ((65 : Int) ≤ (s[0].toNat : Int)) && decide ((s[0].toNat : Int) ≤ 90) || ((s[0].toNat : Int) == 95)) := by
  unfold freeS
  rw [hn, sfx_cons s 0 hp, List.head?_cons, Bool.true_and]
  generalize s[0] = c
  revert c; apply all_u8; decide +kernel

set_option maxHeartbeats 1600000 in
set_option maxRecDepth 100000 in
theorem isFree_any (s : ByteArray) (w : World) (hs : s.size ≤ 9223372036854775800) :
    Calls Tryd.prog 22 #[.string s] w fun e w' => e = .returned (.bool (freeS s)) ∧ Drawn0 w w' := by
  have HI := Aside0.mk (fun W => isName_any s W hs)
  cases hn : nameS s with
  | false =>
    rw [hn] at HI
    have hf : freeS s = false := by simp [freeS, hn]
    rw [hf]
    clear hf hn
    go_enter Tryd.func22, Tryd.ntmps22
    go_wp2_with (first | (go_at_call 20; (with_reducible refine (HI.out _).mono ?_); rintro e w' ⟨rfl, ⟨nd2, rfl⟩⟩))
    go_ret
    exact ⟨rfl, by repeat (first | exact Drawn0.refl _ | apply Drawn0.step)⟩
  | true =>
    rw [hn] at HI
    have hp := nameS_pos hn
    have hf := freeS_head s hp hn
    rw [hf]
    clear hf hn
    cases d1 : decide ((65 : Int) ≤ (s[0].toNat : Int)) <;> cases d2 : decide ((s[0].toNat : Int) ≤ 90)
    all_goals
      go_enter Tryd.func22, Tryd.ntmps22
      go_wp2_with (first | (go_at_call 20; (with_reducible refine (HI.out _).mono ?_); rintro e w' ⟨rfl, ⟨nd2, rfl⟩⟩))
      go_ret
      exact ⟨rfl, by repeat (first | exact Drawn0.refl _ | apply Drawn0.step)⟩

set_option maxHeartbeats 1600000 in
set_option maxRecDepth 100000 in
theorem rIsFree_any (s : ByteArray) (w : World) (hs : s.size ≤ 9223372036854775800) :
    Calls Tryd.prog 23 #[.string s] w fun e w' => e = .returned (.bool (freeS s)) ∧ Drawn0 w w' := by
  have HI := Aside0.mk (fun W => rIsName_any s W hs)
  cases hn : nameS s with
  | false =>
    rw [hn] at HI
    have hf : freeS s = false := by simp [freeS, hn]
    rw [hf]
    clear hf hn
    go_enter Tryd.func23, Tryd.ntmps23
    go_wp2_with (first | (go_at_call 21; (with_reducible refine (HI.out _).mono ?_); rintro e w' ⟨rfl, ⟨nd2, rfl⟩⟩))
    go_ret
    exact ⟨rfl, by repeat (first | exact Drawn0.refl _ | apply Drawn0.step)⟩
  | true =>
    rw [hn] at HI
    have hp := nameS_pos hn
    have hf := freeS_head s hp hn
    rw [hf]
    clear hf hn
    cases d1 : decide ((65 : Int) ≤ (s[0].toNat : Int)) <;> cases d2 : decide ((s[0].toNat : Int) ≤ 90)
    all_goals
      go_enter Tryd.func23, Tryd.ntmps23
      go_wp2_with (first | (go_at_call 21; (with_reducible refine (HI.out _).mono ?_); rintro e w' ⟨rfl, ⟨nd2, rfl⟩⟩))
      go_ret
      exact ⟨rfl, by repeat (first | exact Drawn0.refl _ | apply Drawn0.step)⟩
end Go.Proofs.YtajefkjcfmfjkaaDoor
