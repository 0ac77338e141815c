-- PRINTED BY print.sh 35421559b90ae4d0a3588c463048766b98c2df88dd9212a6774a882060cdf62d: not written by this session
import Derived.Test.YtajefkjcfmfjkaaDoorPTokenPiecesx0
namespace Go.Proofs.YtajefkjcfmfjkaaDoor.PTokenPieces
open Go.RowKit Go.Proofs.YtajefkjcfmfjkaaDoorW.PrintWords Go.Proofs.YtajefkjcfmfjkaaDoorW.PrintLast Go.Proofs.YtajefkjcfmfjkaaDoorW.PrintMore
attribute [local go_sem] max2_int min2_int max_two min_two max_three min_three max_four min_four   -- for this text's walks alone
set_option linter.unusedVariables false
set_option linter.unusedSimpArgs false

/-! ### lfcheckref01_special: function 86 -/
def lfcheckref01_special.f (a0 : Int) : Option (Bool) := if a0 = 40 then (some true) else (if a0 = 41 then (some true) else (if a0 = 91 then (some true) else (if a0 = 93 then (some true) else (if a0 = 123 then (some true) else (if a0 = 125 then (some true) else (if a0 = 58 then (some true) else (some (a0 == 46))))))))
set_option maxHeartbeats 8000000 in
set_option maxRecDepth 100000 in
theorem lfcheckref01_special.calls (a0 : Int) (r : Bool) (w : World) (h : lfcheckref01_special.f a0 = some r) :
    Calls Tryd.prog 86 #[.int .u8 a0] w fun e w' => e = .returned (.bool r) ∧ Drawn0 w w' := by
  have H : (if a0 = 40 then (some true) else (if a0 = 41 then (some true) else (if a0 = 91 then (some true) else (if a0 = 93 then (some true) else (if a0 = 123 then (some true) else (if a0 = 125 then (some true) else (if a0 = 58 then (some true) else (some (a0 == 46))))))))) = some r := h
  clear h
  by_cases c2 : a0 = 40
  · rw [if_pos c2] at H
    have c2b0 : (a0 == 40) = true := beq_iff_eq.mpr c2
    have c2b1 : (a0 != 40) = false := bne_eq_false_iff_eq.mpr c2
    clear c2
    obtain rfl := Option.some.inj H
    go_enter Tryd.func86, Tryd.ntmps86
    go_wp2
    go_ret
    exact ⟨by first | rfl | (simp; done) | (simp [*]; done), by repeat (first | exact Drawn0.refl _ | apply Drawn0.step)⟩
  · rw [if_neg c2] at H
    have c2b0 : (a0 == 40) = false := beq_eq_false_iff_ne.mpr c2
    have c2b1 : (a0 != 40) = true := bne_iff_ne.mpr c2
    by_cases c3 : a0 = 41
    · rw [if_pos c3] at H
      have c3b0 : (a0 == 41) = true := beq_iff_eq.mpr c3
      have c3b1 : (a0 != 41) = false := bne_eq_false_iff_eq.mpr c3
      clear c3
      obtain rfl := Option.some.inj H
      go_enter Tryd.func86, Tryd.ntmps86
      go_wp2
      go_ret
      exact ⟨by first | rfl | (simp; done) | (simp [*]; done), by repeat (first | exact Drawn0.refl _ | apply Drawn0.step)⟩
    · rw [if_neg c3] at H
      have c3b0 : (a0 == 41) = false := beq_eq_false_iff_ne.mpr c3
      have c3b1 : (a0 != 41) = true := bne_iff_ne.mpr c3
      by_cases c4 : a0 = 91
      · rw [if_pos c4] at H
        have c4b0 : (a0 == 91) = true := beq_iff_eq.mpr c4
        have c4b1 : (a0 != 91) = false := bne_eq_false_iff_eq.mpr c4
        clear c4
        obtain rfl := Option.some.inj H
        go_enter Tryd.func86, Tryd.ntmps86
        go_wp2
        go_ret
        exact ⟨by first | rfl | (simp; done) | (simp [*]; done), by repeat (first | exact Drawn0.refl _ | apply Drawn0.step)⟩
      · rw [if_neg c4] at H
        have c4b0 : (a0 == 91) = false := beq_eq_false_iff_ne.mpr c4
        have c4b1 : (a0 != 91) = true := bne_iff_ne.mpr c4
        by_cases c5 : a0 = 93
        · rw [if_pos c5] at H
          have c5b0 : (a0 == 93) = true := beq_iff_eq.mpr c5
          have c5b1 : (a0 != 93) = false := bne_eq_false_iff_eq.mpr c5
          clear c5
          obtain rfl := Option.some.inj H
          go_enter Tryd.func86, Tryd.ntmps86
          go_wp2
          go_ret
          exact ⟨by first | rfl | (simp; done) | (simp [*]; done), by repeat (first | exact Drawn0.refl _ | apply Drawn0.step)⟩
        · rw [if_neg c5] at H
          have c5b0 : (a0 == 93) = false := beq_eq_false_iff_ne.mpr c5
          have c5b1 : (a0 != 93) = true := bne_iff_ne.mpr c5
          by_cases c6 : a0 = 123
          · rw [if_pos c6] at H
            have c6b0 : (a0 == 123) = true := beq_iff_eq.mpr c6
            have c6b1 : (a0 != 123) = false := bne_eq_false_iff_eq.mpr c6
            clear c6
            obtain rfl := Option.some.inj H
            go_enter Tryd.func86, Tryd.ntmps86
            go_wp2
            go_ret
            exact ⟨by first | rfl | (simp; done) | (simp [*]; done), by repeat (first | exact Drawn0.refl _ | apply Drawn0.step)⟩
          · rw [if_neg c6] at H
            have c6b0 : (a0 == 123) = false := beq_eq_false_iff_ne.mpr c6
            have c6b1 : (a0 != 123) = true := bne_iff_ne.mpr c6
            by_cases c7 : a0 = 125
            · rw [if_pos c7] at H
              have c7b0 : (a0 == 125) = true := beq_iff_eq.mpr c7
              have c7b1 : (a0 != 125) = false := bne_eq_false_iff_eq.mpr c7
              clear c7
              obtain rfl := Option.some.inj H
              go_enter Tryd.func86, Tryd.ntmps86
              go_wp2
              go_ret
              exact ⟨by first | rfl | (simp; done) | (simp [*]; done), by repeat (first | exact Drawn0.refl _ | apply Drawn0.step)⟩
            · rw [if_neg c7] at H
              have c7b0 : (a0 == 125) = false := beq_eq_false_iff_ne.mpr c7
              have c7b1 : (a0 != 125) = true := bne_iff_ne.mpr c7
              by_cases c8 : a0 = 58
              · rw [if_pos c8] at H
                have c8b0 : (a0 == 58) = true := beq_iff_eq.mpr c8
                have c8b1 : (a0 != 58) = false := bne_eq_false_iff_eq.mpr c8
                clear c8
                obtain rfl := Option.some.inj H
                go_enter Tryd.func86, Tryd.ntmps86
                go_wp2
                go_ret
                exact ⟨by first | rfl | (simp; done) | (simp [*]; done), by repeat (first | exact Drawn0.refl _ | apply Drawn0.step)⟩
              · rw [if_neg c8] at H
                have c8b0 : (a0 == 58) = false := beq_eq_false_iff_ne.mpr c8
                have c8b1 : (a0 != 58) = true := bne_iff_ne.mpr c8
                obtain rfl := Option.some.inj H
                go_enter Tryd.func86, Tryd.ntmps86
                go_wp2
                go_ret
                exact ⟨by first | rfl | (simp; done) | (simp [*]; done), by repeat (first | exact Drawn0.refl _ | apply Drawn0.step)⟩

/-! ### lfcheckref01_nameByte: function 56 -/
def lfcheckref01_nameByte.f (a0 : Int) : Option (Bool) := if a0 ≥ 33 then (if a0 ≤ 126 then ((lfcheckref01_special.f a0).bind fun t115 => (if t115 = true then (some false) else (some (a0 != 37)))) else (some false)) else (some false)
set_option maxHeartbeats 8000000 in
set_option maxRecDepth 100000 in
theorem lfcheckref01_nameByte.calls (a0 : Int) (r : Bool) (w : World) (h : lfcheckref01_nameByte.f a0 = some r) :
    Calls Tryd.prog 56 #[.int .u8 a0] w fun e w' => e = .returned (.bool r) ∧ Drawn0 w w' := by
  have H : (if a0 ≥ 33 then (if a0 ≤ 126 then ((lfcheckref01_special.f a0).bind fun t115 => (if t115 = true then (some false) else (some (a0 != 37)))) else (some false)) else (some false)) = some r := h
  clear h
  by_cases c2 : a0 ≥ 33
  · rw [if_pos c2] at H
    have c2b0 : decide (33 ≤ a0) = true := decide_eq_true c2
    clear c2
    by_cases c3 : a0 ≤ 126
    · rw [if_pos c3] at H
      have c3b0 : decide (a0 ≤ 126) = true := decide_eq_true c3
      clear c3
      replace H := Option.bind_eq_some_iff.mp H
      obtain ⟨t115, A40, H⟩ := H
      replace H : (if t115 = true then (some false) else (some (a0 != 37))) = some r := H
      have A4 := Aside0.mk A40
      clear A40
      by_cases c5 : t115 = true
      · subst c5
        have H1 : (some false) = some r := by rw [if_pos rfl] at H; exact H
        clear H
        have H := H1
        clear H1
        obtain rfl := Option.some.inj H
        go_enter Tryd.func56, Tryd.ntmps56
        go_wp2_with (first | (go_at_call 86; (with_reducible refine (lfcheckref01_special.calls a0 true _ A4.out).mono ?_); rintro e w' ⟨rfl, ⟨nd, rfl⟩⟩))
        go_ret
        exact ⟨by first | rfl | (simp; done) | (simp [*]; done), by repeat (first | exact Drawn0.refl _ | apply Drawn0.step)⟩
      · replace c5 := Bool.eq_false_iff.mpr c5
        subst c5
        have H1 : (some (a0 != 37)) = some r := by rw [if_neg (show ¬ (false = true) by decide)] at H; exact H
        clear H
        have H := H1
        clear H1
        obtain rfl := Option.some.inj H
        go_enter Tryd.func56, Tryd.ntmps56
        go_wp2_with (first | (go_at_call 86; (with_reducible refine (lfcheckref01_special.calls a0 false _ A4.out).mono ?_); rintro e w' ⟨rfl, ⟨nd, rfl⟩⟩))
        go_ret
        exact ⟨by first | rfl | (simp; done) | (simp [*]; done), by repeat (first | exact Drawn0.refl _ | apply Drawn0.step)⟩
    · rw [if_neg c3] at H
      have c3b0 : decide (a0 ≤ 126) = false := decide_eq_false c3
      clear c3
      obtain rfl := Option.some.inj H
      go_enter Tryd.func56, Tryd.ntmps56
      go_wp2
      go_ret
      exact ⟨by first | rfl | (simp; done) | (simp [*]; done), by repeat (first | exact Drawn0.refl _ | apply Drawn0.step)⟩
  · rw [if_neg c2] at H
    have c2b0 : decide (33 ≤ a0) = false := decide_eq_false c2
    clear c2
    obtain rfl := Option.some.inj H
    go_enter Tryd.func56, Tryd.ntmps56
    go_wp2
    go_ret
    exact ⟨by first | rfl | (simp; done) | (simp [*]; done), by repeat (first | exact Drawn0.refl _ | apply Drawn0.step)⟩

/-! ### lfcheckref01_Blank: function 85 -/
def lfcheckref01_Blank.f (a0 : Int) : Option (Bool) := if a0 = 32 then (some true) else (if a0 = 9 then (some true) else (if a0 = 10 then (some true) else (some (a0 == 13))))
set_option maxHeartbeats 8000000 in
set_option maxRecDepth 100000 in
theorem lfcheckref01_Blank.calls (a0 : Int) (r : Bool) (w : World) (h : lfcheckref01_Blank.f a0 = some r) :
    Calls Tryd.prog 85 #[.int .u8 a0] w fun e w' => e = .returned (.bool r) ∧ Drawn0 w w' := by
  have H : (if a0 = 32 then (some true) else (if a0 = 9 then (some true) else (if a0 = 10 then (some true) else (some (a0 == 13))))) = some r := h
  clear h
  by_cases c2 : a0 = 32
  · rw [if_pos c2] at H
    have c2b0 : (a0 == 32) = true := beq_iff_eq.mpr c2
    have c2b1 : (a0 != 32) = false := bne_eq_false_iff_eq.mpr c2
    clear c2
    obtain rfl := Option.some.inj H
    go_enter Tryd.func85, Tryd.ntmps85
    go_wp2
    go_ret
    exact ⟨by first | rfl | (simp; done) | (simp [*]; done), by repeat (first | exact Drawn0.refl _ | apply Drawn0.step)⟩
  · rw [if_neg c2] at H
    have c2b0 : (a0 == 32) = false := beq_eq_false_iff_ne.mpr c2
    have c2b1 : (a0 != 32) = true := bne_iff_ne.mpr c2
    by_cases c3 : a0 = 9
    · rw [if_pos c3] at H
      have c3b0 : (a0 == 9) = true := beq_iff_eq.mpr c3
      have c3b1 : (a0 != 9) = false := bne_eq_false_iff_eq.mpr c3
      clear c3
      obtain rfl := Option.some.inj H
      go_enter Tryd.func85, Tryd.ntmps85
      go_wp2
      go_ret
      exact ⟨by first | rfl | (simp; done) | (simp [*]; done), by repeat (first | exact Drawn0.refl _ | apply Drawn0.step)⟩
    · rw [if_neg c3] at H
      have c3b0 : (a0 == 9) = false := beq_eq_false_iff_ne.mpr c3
      have c3b1 : (a0 != 9) = true := bne_iff_ne.mpr c3
      by_cases c4 : a0 = 10
      · rw [if_pos c4] at H
        have c4b0 : (a0 == 10) = true := beq_iff_eq.mpr c4
        have c4b1 : (a0 != 10) = false := bne_eq_false_iff_eq.mpr c4
        clear c4
        obtain rfl := Option.some.inj H
        go_enter Tryd.func85, Tryd.ntmps85
        go_wp2
        go_ret
        exact ⟨by first | rfl | (simp; done) | (simp [*]; done), by repeat (first | exact Drawn0.refl _ | apply Drawn0.step)⟩
      · rw [if_neg c4] at H
        have c4b0 : (a0 == 10) = false := beq_eq_false_iff_ne.mpr c4
        have c4b1 : (a0 != 10) = true := bne_iff_ne.mpr c4
        obtain rfl := Option.some.inj H
        go_enter Tryd.func85, Tryd.ntmps85
        go_wp2
        go_ret
        exact ⟨by first | rfl | (simp; done) | (simp [*]; done), by repeat (first | exact Drawn0.refl _ | apply Drawn0.step)⟩

end Go.Proofs.YtajefkjcfmfjkaaDoor.PTokenPieces
