-- PRINTED BY print.sh 35421559b90ae4d0a3588c463048766b98c2df88dd9212a6774a882060cdf62d: not written by this session
import Derived.Test.YtajefkjcfmfjkaaDoorPTokenPiecesx0
namespace Go.Proofs.YtajefkjcfmfjkaaDoor.PTokenPieces
open Go.RowKit Go.Proofs.YtajefkjcfmfjkaaDoorW.PrintWords Go.Proofs.YtajefkjcfmfjkaaDoorW.PrintLast Go.Proofs.YtajefkjcfmfjkaaDoorW.PrintMore
attribute [local go_sem] max2_int min2_int max_two min_two max_three min_three max_four min_four   -- for this text's walks alone
set_option linter.unusedVariables false
set_option linter.unusedSimpArgs false

-- NOT PRINTED: function 17 (lfchecklaw01_same)

/-! ### lfcheckmade_Cut: function 27 -/
def lfcheckmade_Cut.f (a0 : Int) (a1 : Int) : Option (Int) := if (IntKind.u64.wrap (a1)) = 0 then (none) else (some (wrap64 (Int.tmod (IntKind.u64.wrap (a0)) (IntKind.u64.wrap (a1)))))
set_option maxHeartbeats 8000000 in
set_option maxRecDepth 100000 in
theorem lfcheckmade_Cut.calls (a0 : Int) (a1 : Int) (r : Int) (w : World) (h : lfcheckmade_Cut.f a0 a1 = some r) :
    Calls Tryd.prog 27 #[.int .i64 a0, .int .i64 a1] w fun e w' => e = .returned (.int .i64 r) ∧ Drawn0 w w' := by
  have H : (if (IntKind.u64.wrap (a1)) = 0 then (none) else (some (wrap64 (Int.tmod (IntKind.u64.wrap (a0)) (IntKind.u64.wrap (a1)))))) = some r := h
  clear h
  by_cases c3 : (IntKind.u64.wrap (a1)) = 0
  · rw [if_pos c3] at H
    exact absurd H (by simp)
  · rw [if_neg c3] at H
    have c3b0 : ((IntKind.u64.wrap (a1)) == 0) = false := beq_eq_false_iff_ne.mpr c3
    have c3b1 : ((IntKind.u64.wrap (a1)) != 0) = true := bne_iff_ne.mpr c3
    obtain rfl := Option.some.inj H
    go_enter Tryd.func27, Tryd.ntmps27
    go_wp2
    go_ret
    exact ⟨by first | rfl | (simp; done) | (simp [*]; done), by repeat (first | exact Drawn0.refl _ | apply Drawn0.step)⟩

-- NOT PRINTED: function 18 (lfchecklaw01_text)

-- NOT PRINTED: function 20 (token_IsName)

-- NOT PRINTED: function 22 (token_IsFree)

-- NOT PRINTED: function 112 (abi_NoEscape)

-- NOT PRINTED: function 93 (strings_Builder_copyCheck)

-- NOT PRINTED: function 66 (strings_Builder_WriteString)

-- NOT PRINTED: function 70 (strings_Builder_String)

-- NOT PRINTED: function 124 (bytealg_MakeNoZero)

-- NOT PRINTED: function 111 (strings_Builder_grow)

-- NOT PRINTED: function 91 (strings_Builder_Grow)

-- NOT PRINTED: function 58 (strings_Join)

-- NOT PRINTED: function 25 (token_Spell)

-- NOT PRINTED: function 19 (lfchecklaw01_awake)

-- NOT PRINTED: function 3 (lfchecklaw01_TokenPieces)

end Go.Proofs.YtajefkjcfmfjkaaDoor.PTokenPieces
