/- TokenCuts: the walk of the law. -/
import Derived.Test.YtajefkjcfmfjkaaDoorTokJ
namespace Go.Proofs.YtajefkjcfmfjkaaDoor
open Go.RowKit Go.Proofs.YtajefkjcfmfjkaaDoorW.PrintWords Go.Proofs.YtajefkjcfmfjkaaDoor.PTokenPieces

theorem two_texts (L M : List UInt8) (c : UInt8) : (((⟨L.toArray⟩ : ByteArray) ++ (⟨#[c]⟩ : ByteArray)) ++ (⟨M.toArray⟩ : ByteArray)) = ⟨(L ++ c :: M).toArray⟩ := by
  apply ByteArray.ext
  apply Array.ext'
  simp

set_option maxHeartbeats 4000000 in
set_option maxRecDepth 100000 in
theorem tokenCuts_walk (w : World) (A : Option Addr) (c : Nat) (l : List Int) (hr : Kd.C (Kd.int .i64) w A l.length l) (A' : Option Addr) (c' : Nat) (m : List Int) (hr' : Kd.C (Kd.int .i64) w A' m.length m) (hp : PcAt w) :
    Calls Tryd.prog 7 #[.slice A l.length c, .slice A' m.length c'] w fun e w' => e = .returned (.bool true) ∧ Below w.heap.size w w' := by
  have hll : l.length ≤ 9223372036854775807 := hr.2.1
  have hlm : m.length ≤ 9223372036854775807 := hr'.2.1
  have HT := Aside0.mk (text_any l A c w hll hr hp)
  have HT2 : Aside0 (∀ W, Below w.heap.size w W → Calls Tryd.prog 18 #[.slice A' m.length c'] W fun e w' => e = .returned (.string ⟨(textL m).toArray⟩) ∧ Below W.heap.size W w') := ⟨fun W hb => text_any m A' c' W hlm (Kd.C_below hr' hb) (hp.below hb)⟩
  have HA := Aside0.mk awake_any
  have hX := lexL_facts (textL l) 0 0
  have hN := text_len l
  have hM := text_len m
  have HL := Aside0.mk (text_lex l)
  have hcut := lexL_cut (32 :: textL m) (BlankL.cons _ (by decide)) (textL l) 0 0
  have HL2 := Aside0.mk (lex_at (textL l ++ 32 :: textL m) (by rw [List.length_append, List.length_cons]; omega))
  generalize lexL 0 (textL l) 0 = R at hX HL hcut
  generalize lexL 0 (textL l ++ 32 :: textL m) 0 = R2 at HL2 hcut
  rw [← two_texts] at HL2
  have hs1 : (⟨(textL l).toArray⟩ : ByteArray).size = (textL l).length := rfl
  have hs2 : (⟨(textL m).toArray⟩ : ByteArray).size = (textL m).length := rfl
  generalize (⟨(textL l).toArray⟩ : ByteArray) = S1 at HT HL HL2 hs1
  generalize (⟨(textL m).toArray⟩ : ByteArray) = S2 at HT2 HL2 hs2
  obtain ⟨xs, e, n⟩ := R
  obtain ⟨ys, f, k⟩ := R2
  by_cases h0 : e = 0 ∨ e = 11
  · rcases h0 with h0 | h0
    all_goals
      subst h0
      clear hX hN hM hcut hs1 hs2 hr hr' hp HL2 HT2
      go_enter Tryd.func7, Tryd.ntmps7
      go_wp2_with (first | (go_at_call 18; (with_reducible refine HT.out.mono ?_); rintro e w' ⟨rfl, hb⟩; have HB := Aside0.mk hb; clear hb) | (go_at_call 24; ((with_reducible refine (HL.out _).mono ?_); rintro e w1 ⟨A1, c1, rfl, hc1, hC, hb⟩; have HB1 := Aside0.mk (below_step HB.out hb); clear hC hb HB)) | (go_at_call 19; (with_reducible refine (HA.out _).mono ?_); rintro e w5 ⟨rfl, hb⟩; have HB5 := Aside0.mk (below_step HB1.out hb); clear hb))
      go_ret
      exact ⟨rfl, HB5.out⟩
  · obtain ⟨g1, g2, g3⟩ := hcut e n rfl (by omega) (by omega)
    injection g1 with g4 g5
    subst g4 g5
    have he0 : ((f : Int) == 0) = false := by rw [beq_eq_false_iff_ne]; omega
    have he11 : ((f : Int) == 11) = false := by rw [beq_eq_false_iff_ne]; omega
    have hn0 : (0 : Int) ≤ (k : Int) := by omega
    have hn1 : (k : Int) < (S1.size : Int) := by omega
    have hz1 : S1.size ≤ 19200 := by omega
    have hz2 : S2.size ≤ 19200 := by omega
    clear hX hN hM hcut hs1 hs2 hr hr' hp g2 g3 h0
    go_enter Tryd.func7, Tryd.ntmps7
    go_wp2_with (first | (go_at_call 18; first | ((with_reducible refine HT.out.mono ?_); rintro e w' ⟨rfl, hb⟩; have HB := Aside0.mk hb; clear hb) | ((with_reducible refine (HT2.out _ HB1.out).mono ?_); rintro e w2 ⟨rfl, hb⟩; have HB2 := Aside0.mk (below_step HB1.out hb); clear hb HB1)) | (go_at_call 24; first | ((with_reducible refine (HL.out _).mono ?_); rintro e w1 ⟨A1, c1, rfl, hc1, hC, hb⟩; have HB1 := Aside0.mk (below_step HB.out hb); clear hC hb HB) | ((with_reducible refine (HL2.out _).mono ?_); rintro e w3 ⟨A2, c2, rfl, hc2, hC, hb⟩; have HB3 := Aside0.mk (below_step HB2.out hb); clear hC hb HB2)) | (go_at_call 19; (with_reducible refine (HA.out _).mono ?_); rintro e w5 ⟨rfl, hb⟩; have HB5 := Aside0.mk (below_step HB3.out hb); clear hb))
    go_ret
    exact ⟨rfl, HB5.out⟩
end Go.Proofs.YtajefkjcfmfjkaaDoor
