/- What the listed variable gives a walk: the pieces lie in it; and the door's own heap meets the condition. -/
import Derived.Test.YtajefkjcfmfjkaaDoorRows
import Derived.Test.YtajefkjcfmfjkaaDoorTokF
import Derived.ProofKit
import Derived.LaidMore
import Derived.OpenShut
import Derived.SliceStrings
import Derived.Stop.Joined
namespace Go.Proofs.YtajefkjcfmfjkaaDoor
open Go.ChangeShapes Go.WideShapes Go.ChangeAt Go.WideMaps Go.WideElems Go.RowKit

def laidPc : List (String × DataW Unit) := [("lfcheck/lfchecklaw01.pieces", Rows.laid_lfcheck_lfchecklaw01_pieces)]
theorem own : ownKnob Tryd.prog.godebug = none := by kernel_rfl
theorem laidOut : laidOutB Tryd.prog = true := by kernel_rfl
theorem gPc : Tryd.prog.globalNamed "lfcheck/lfchecklaw01.pieces" = some 0 := by kernel_rfl
theorem tPc : (Tryd.prog.globals[0]?).map (·.type) = some 38 := by kernel_rfl
theorem cells9 : Tryd.prog.cellsOf 9 = 1 := by kernel_rfl

theorem doorPc_met (os : Os) (args : Array Value) : laidMetH Tryd.prog laidPc ((World.doorLaid Tryd.prog 19 os).forCall (fun _ _ => 0) ⟨#[], args, []⟩).memory :=
  laidMetH_of_parts3 (fuel := 8) (laidMet_of_run' 8 (by kernel_rfl) (by kernel_rfl)) (by kernel_rfl) (by kernel_rfl)

theorem of_laidPc {W : World} (h : laidMetH Tryd.prog laidPc W) : PcAt W := by
  rw [MakeChecks.laidMetH_plain _ _ _ (by kernel_rfl)] at h
  obtain ⟨ps, ⟨g0, t0, cs0, f0, p0, q0, hg0, ht0, hv0, hd0, _, _⟩, _, _⟩ := h
  obtain rfl := Option.some.inj (gPc.symm.trans hg0)
  obtain rfl := Option.some.inj (tPc.symm.trans ht0)
  rcases open_strings Tryd.underlying38 Tryd.underlying9 cells9 hd0 with ⟨_, hx⟩ | ⟨a, len, cap, ss, hcs, _, hl, hm, hz, hx, hcell, hws⟩
  · simp [Rows.laid_lfcheck_lfchecklaw01_pieces] at hx
  have hv := World.var?_cell hg0 hv0 0
  have hD : (Rows.laid_lfcheck_lfchecklaw01_pieces : DataW Unit) = .slice (pcL.map fun l => .lit (.string l)) [] := rfl
  rw [hD] at hx
  simp only [Prod.mk.injEq, DataW.slice.injEq] at hx
  obtain ⟨⟨hx1, _⟩, _⟩ := hx
  have h1 : (ss.take len).map (fun s => s.data.toList) = pcL := by
    have := congrArg (List.map fun d : DataW Unit => match d with | .lit (.string l) => l | _ => []) hx1
    simp only [strs, List.map_map] at this
    have e1 : ((fun d : DataW Unit => match d with | .lit (.string l) => l | _ => []) ∘ fun s : ByteArray => DataW.lit (.string s.data.toList)) = fun s => s.data.toList := rfl
    have e2 : ((fun d : DataW Unit => match d with | .lit (.string l) => l | _ => []) ∘ fun l : List UInt8 => DataW.lit (.string l)) = id := rfl
    rw [e1, e2, List.map_id] at this
    exact this.symm
  have h2 : (ss.take len).length = 32 := by
    have := congrArg List.length h1
    rw [List.length_map] at this
    exact this
  rw [List.length_take] at h2
  have hlen : len = 32 := by
    rcases Nat.le_total len ss.length with h | h
    · omega
    · have : ss.length = 32 := by omega
      split at hz <;> omega
  subst hlen
  refine ⟨⟨a, cap, ?_, fun j hj => ?_⟩⟩
  · rw [Array.eq_one_of_toList hcs] at hv
    simpa using hv
  · rw [hcell j (by omega)]
    have h3 : ss.getD j ByteArray.empty = ⟨(pcAt j).toArray⟩ := by
      have h4 := congrArg (fun l => l[j]?) h1
      simp only [List.getElem?_map, List.getElem?_take, hj, if_true] at h4
      rw [List.getElem?_eq_getElem (show j < ss.length by omega)] at h4
      simp only [Option.map_some] at h4
      rw [List.getD_eq_getElem?_getD, List.getElem?_eq_getElem (show j < ss.length by omega), Option.getD_some]
      unfold pcAt
      rw [List.getD_eq_getElem?_getD, ← h4, Option.getD_some]
    rw [h3]
end Go.Proofs.YtajefkjcfmfjkaaDoor
