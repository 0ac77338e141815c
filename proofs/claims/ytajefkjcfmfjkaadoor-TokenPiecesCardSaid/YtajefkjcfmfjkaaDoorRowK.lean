/- A slice of integers that came in, as a row that is read. -/
import Derived.Test.YtajefkjcfmfjkaaDoorRows
import Derived.Test.YtajefkjcfmfjkaaDoorWWords
import Derived.WalkKit
import Derived.ProofKit
import Derived.OpenShut
import Derived.ShutString
import Derived.ChangeOld
import Derived.Below
namespace Go.Proofs.YtajefkjcfmfjkaaDoor
open Go.ChangeShapes Go.WideShapes Go.ChangeAt Go.RowKit Go.Proofs.YtajefkjcfmfjkaaDoorW.PrintWords

theorem kd_ints {w : World} {x : Addr} {len cap : Nat} {zs : List Int} (hl : len ≤ cap) (hm : cap ≤ maxLen) (hz : zs.length = cap)
    (hc : ∀ i, i < zs.length → w.cell? (x.add i) = some (.int .i64 (zs.getD i 0))) : (zs.take len).length = len ∧ Kd.C (Kd.int .i64) w (some x) len (zs.take len) := by
  have h1 : (zs.take len).length = len := by rw [List.length_take]; omega
  unfold maxLen at hm
  refine ⟨h1, h1, by omega, fun _ => ⟨x, rfl, fun j p hp => ?_⟩⟩
  have hj : j < (zs.take len).length := (List.getElem?_eq_some_iff.1 hp).1
  have hj2 : j < zs.length := by rw [h1] at hj; omega
  refine ⟨[.int .i64 p], rfl, rfl, fun i u hu => ?_⟩
  have hi : i = 0 := by
    have := (List.getElem?_eq_some_iff.1 hu).1
    simp at this
    exact this
  subst hi
  simp only [List.getElem?_cons_zero, Option.some.injEq] at hu
  subst hu
  have h2 := hc j hj2
  have h3 : zs.getD j 0 = p := by
    rw [List.getElem?_take] at hp
    rw [h1] at hj
    simp only [hj, if_true] at hp
    rw [List.getD_eq_getElem?_getD, hp, Option.getD_some]
  rw [h3] at h2
  show w.cell? (x.add (j * 1 + 0)) = some (Value.int IntKind.i64 p)
  rw [Nat.mul_one, Nat.add_zero]
  exact h2
theorem kd_none (w : World) : Kd.C (Kd.int .i64) w none 0 [] := ⟨rfl, by omega, fun h => absurd h (by omega)⟩
end Go.Proofs.YtajefkjcfmfjkaaDoor
