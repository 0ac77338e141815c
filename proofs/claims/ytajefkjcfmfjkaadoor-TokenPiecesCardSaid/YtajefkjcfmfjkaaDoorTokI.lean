/- awake: it returns true. -/
import Derived.Test.YtajefkjcfmfjkaaDoorTokH
namespace Go.Proofs.YtajefkjcfmfjkaaDoor
open Go.RowKit Go.Proofs.YtajefkjcfmfjkaaDoorW.PrintWords Go.Proofs.YtajefkjcfmfjkaaDoor.PTokenPieces

theorem name_at (s : ByteArray) (b : Bool) (h : nameL s.data.toList = b) (hs : s.size ≤ 9223372036854775800) (w : World) : Calls Tryd.prog 20 #[.string s] w fun e w' => e = .returned (.bool b) ∧ Drawn0 w w' := by
  have := isName_any s w hs
  rwa [nameS_L, h] at this
theorem free_at (s : ByteArray) (b : Bool) (h : freeL s.data.toList = b) (hs : s.size ≤ 9223372036854775800) (w : World) : Calls Tryd.prog 22 #[.string s] w fun e w' => e = .returned (.bool b) ∧ Drawn0 w w' := by
  have := isFree_any s w hs
  rwa [freeS_L, h] at this

theorem aw_spell : spellB ((awT.map tkS).take 3) = ⟨#[97, 32, 58, 32, 116, 121, 112, 101]⟩ := by decide +kernel

def AwPost (w : World) (e : Ending) (w' : World) : Prop :=
  ∃ ad c, e = .returned (.tuple #[.slice (some ad) 8 c, .int .i64 0, .int .i64 40]) ∧ 8 ≤ c ∧ Kd.C k35 w' (some ad) 8 (awT.map tkS) ∧ Below w.heap.size w w' ∧
    w'.cell? ⟨ad.block, ad.off + 6, none⟩ = some (.int .i64 2) ∧ w'.cell? ⟨ad.block, ad.off + 12, none⟩ = some (.int .i64 3) ∧ w'.cell? ⟨ad.block, ad.off + 12 + 2, none⟩ = some (.int .i64 10)
theorem aw_lexed (w : World) : Calls Tryd.prog 24 #[.string awB] w (AwPost w) := by
  have h := lex_any awB w (by decide)
  rw [aw_lex] at h
  refine h.mono fun e w' hh => ?_
  obtain ⟨A, c, he, hc, hC, hb⟩ := hh
  obtain ⟨ad, e1, h0, h1, h2⟩ := at_T35 hC (2 : Int) (by decide) (by decide)
  obtain ⟨ad', e1', h0', h1', h2'⟩ := at_T35 hC (4 : Int) (by decide) (by decide)
  subst e1
  injection e1' with e1'
  subst e1'
  exact ⟨ad, c, he, hc, hC, hb, h0, h0', h2'⟩

set_option maxHeartbeats 4000000 in
set_option maxRecDepth 100000 in
theorem awake_any (w : World) : Calls Tryd.prog 19 #[] w fun e w' => e = .returned (.bool true) ∧ Below w.heap.size w w' := by
  have HL := Aside0.mk aw_lexed
  unfold awB at HL
  have N1 := Aside0.mk (name_at ⟨#[97]⟩ true (by decide +kernel) (by decide))
  have N2 := Aside0.mk (name_at ⟨#[116, 121, 112, 101]⟩ false (by decide +kernel) (by decide))
  have F1 := Aside0.mk (free_at ⟨#[78]⟩ true (by decide +kernel) (by decide))
  have F2 := Aside0.mk (free_at ⟨#[110]⟩ false (by decide +kernel) (by decide))
  have HS : Aside0 (∀ A c (W : World), Kd.C k35 W A 3 ((awT.map tkS).take 3) → Calls Tryd.prog 25 #[.slice A 3 c] W fun e w' => e = .returned (.string ⟨#[97, 32, 58, 32, 116, 121, 112, 101]⟩) ∧ Below W.heap.size W w') := by
    constructor
    intro A c W h
    have := spell_any ((awT.map tkS).take 3) A c W (by decide) (by decide) h (by decide)
    rwa [aw_spell] at this
  go_enter Tryd.func19, Tryd.ntmps19
  go_wp2_with (first | (go_at_call 24; (with_reducible refine (HL.out _).mono ?_); rintro e w' ⟨ad, c, rfl, hc8, hC, hb, hx0, hx1, hx2⟩; have HC := Aside0.mk hC; have HB := Aside0.mk hb; clear hC hb) | (go_at_call 20; first | ((with_reducible refine (N1.out _).mono ?_); rintro e w1 ⟨rfl, ⟨nd1, rfl⟩⟩) | ((with_reducible refine (N2.out _).mono ?_); rintro e w2 ⟨rfl, ⟨nd2, rfl⟩⟩)) | (go_at_call 22; first | ((with_reducible refine (F1.out _).mono ?_); rintro e w1 ⟨rfl, ⟨nd3, rfl⟩⟩) | ((with_reducible refine (F2.out _).mono ?_); rintro e w2 ⟨rfl, ⟨nd4, rfl⟩⟩)) | (go_at_call 25; (with_reducible refine (HS.out _ _ _ ?cS).mono ?_); (case cS => exact Kd.C_take (m := 3) HC.out (by decide)); rintro e w3 ⟨rfl, hb⟩; have HB3 := Aside0.mk hb; clear hb))
  go_goals
  go_ret
  exact ⟨rfl, below_step (pw_below_drewN HB.out _) HB3.out⟩
end Go.Proofs.YtajefkjcfmfjkaaDoor
