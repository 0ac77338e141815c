/- TokenNames: the walk of the law. -/
import Derived.Test.YtajefkjcfmfjkaaDoorTokI
namespace Go.Proofs.YtajefkjcfmfjkaaDoor
open Go.RowKit Go.Proofs.YtajefkjcfmfjkaaDoorW.PrintWords Go.Proofs.YtajefkjcfmfjkaaDoor.PTokenPieces

set_option maxHeartbeats 4000000 in
set_option maxRecDepth 100000 in
theorem tokenNames_walk (w : World) (s : ByteArray) (_hs : s.size ≤ maxLen) (A : Option Addr) (c : Nat) (l : List Int) (hr : Kd.C (Kd.int .i64) w A l.length l) (hp : PcAt w) :
    Calls Tryd.prog 4 #[.string s, .slice A l.length c] w fun e w' => e = .returned (.bool true) ∧ Below w.heap.size w w' := by
  have hll : l.length ≤ 9223372036854775807 := hr.2.1
  have HT := Aside0.mk (text_any l A c w hll hr hp)
  have HA := Aside0.mk awake_any
  clear hr hp
  by_cases h3 : 300 < s.size
  · have hd : decide ((300 : Int) < (s.size : Int)) = true := decide_eq_true (by omega)
    go_enter Tryd.func4, Tryd.ntmps4
    go_wp2_with (first | (go_at_call 19; (with_reducible refine (HA.out _).mono ?_); rintro e w' ⟨rfl, hb⟩; have HB := Aside0.mk hb; clear hb))
    go_ret
    exact ⟨rfl, HB.out⟩
  · have hd : decide ((300 : Int) < (s.size : Int)) = false := decide_eq_false (by omega)
    obtain ⟨B, hB⟩ : ∃ B : ByteArray, B = ⟨(textL l).toArray⟩ := ⟨_, rfl⟩
    have hBs : B.size ≤ 19200 := by rw [hB]; exact text_len l
    rw [← hB] at HT
    have I1 := Aside0.mk (fun W => isName_any s W (by omega))
    have I2 := Aside0.mk (fun W => rIsName_any s W (by omega))
    have I3 := Aside0.mk (fun W => isFree_any s W (by omega))
    have I4 := Aside0.mk (fun W => rIsFree_any s W (by omega))
    clear hB
    by_cases h4 : 300 < B.size
    · have hd4 : decide ((300 : Int) < (B.size : Int)) = true := decide_eq_true (by omega)
      obtain ⟨B2, hB2⟩ : ∃ B2, B2 = B.extract 0 300 := ⟨_, rfl⟩
      have hsl : ∀ w, (Instr.slice 9 (.string B) none (some (.int .i64 300)) none).run Tryd.prog w = .ok (.string B2) w := by
        intro w
        rw [run_slice_string_h w 9 B Tryd.underlying9 .i64 300 (by omega) (by omega), hB2]
        rfl
      have hb2 : B2.size ≤ 300 := by rw [hB2, ByteArray.size_extract]; omega
      have J1 := Aside0.mk (fun W => isName_any B2 W (by omega))
      have J2 := Aside0.mk (fun W => rIsName_any B2 W (by omega))
      have J3 := Aside0.mk (fun W => isFree_any B2 W (by omega))
      have J4 := Aside0.mk (fun W => rIsFree_any B2 W (by omega))
      clear hB2
      go_enter Tryd.func4, Tryd.ntmps4
      go_wp2_with (first | (go_at_call 18; (with_reducible refine HT.out.mono ?_); rintro e w' ⟨rfl, hb⟩; have HB := Aside0.mk hb; clear hb) | (go_at_call 20; first | ((with_reducible refine (I1.out _).mono ?_); rintro e w' ⟨rfl, ⟨nd0, rfl⟩⟩) | ((with_reducible refine (J1.out _).mono ?_); rintro e w' ⟨rfl, ⟨nd4, rfl⟩⟩)) | (go_at_call 21; first | ((with_reducible refine (I2.out _).mono ?_); rintro e w' ⟨rfl, ⟨nd1, rfl⟩⟩) | ((with_reducible refine (J2.out _).mono ?_); rintro e w' ⟨rfl, ⟨nd5, rfl⟩⟩)) | (go_at_call 22; first | ((with_reducible refine (I3.out _).mono ?_); rintro e w' ⟨rfl, ⟨nd2, rfl⟩⟩) | ((with_reducible refine (J3.out _).mono ?_); rintro e w' ⟨rfl, ⟨nd6, rfl⟩⟩)) | (go_at_call 23; first | ((with_reducible refine (I4.out _).mono ?_); rintro e w' ⟨rfl, ⟨nd3, rfl⟩⟩) | ((with_reducible refine (J4.out _).mono ?_); rintro e w' ⟨rfl, ⟨nd7, rfl⟩⟩)) | (go_at_call 19; (with_reducible refine (HA.out _).mono ?_); rintro e w2 ⟨rfl, hb⟩; have HB2 := Aside0.mk hb; clear hb))
      go_ret
      exact ⟨by first | rfl | simp, below_step (by repeat (first | (with_reducible first | exact HB.out | apply pw_below_drewN) | exact HB.out)) HB2.out⟩
    · have hd4 : decide ((300 : Int) < (B.size : Int)) = false := decide_eq_false (by omega)
      have J1 := Aside0.mk (fun W => isName_any B W (by omega))
      have J2 := Aside0.mk (fun W => rIsName_any B W (by omega))
      have J3 := Aside0.mk (fun W => isFree_any B W (by omega))
      have J4 := Aside0.mk (fun W => rIsFree_any B W (by omega))
      go_enter Tryd.func4, Tryd.ntmps4
      go_wp2_with (first | (go_at_call 18; (with_reducible refine HT.out.mono ?_); rintro e w' ⟨rfl, hb⟩; have HB := Aside0.mk hb; clear hb) | (go_at_call 20; first | ((with_reducible refine (I1.out _).mono ?_); rintro e w' ⟨rfl, ⟨nd0, rfl⟩⟩) | ((with_reducible refine (J1.out _).mono ?_); rintro e w' ⟨rfl, ⟨nd4, rfl⟩⟩)) | (go_at_call 21; first | ((with_reducible refine (I2.out _).mono ?_); rintro e w' ⟨rfl, ⟨nd1, rfl⟩⟩) | ((with_reducible refine (J2.out _).mono ?_); rintro e w' ⟨rfl, ⟨nd5, rfl⟩⟩)) | (go_at_call 22; first | ((with_reducible refine (I3.out _).mono ?_); rintro e w' ⟨rfl, ⟨nd2, rfl⟩⟩) | ((with_reducible refine (J3.out _).mono ?_); rintro e w' ⟨rfl, ⟨nd6, rfl⟩⟩)) | (go_at_call 23; first | ((with_reducible refine (I4.out _).mono ?_); rintro e w' ⟨rfl, ⟨nd3, rfl⟩⟩) | ((with_reducible refine (J4.out _).mono ?_); rintro e w' ⟨rfl, ⟨nd7, rfl⟩⟩)) | (go_at_call 19; (with_reducible refine (HA.out _).mono ?_); rintro e w2 ⟨rfl, hb⟩; have HB2 := Aside0.mk hb; clear hb))
      go_ret
      exact ⟨by first | rfl | simp, below_step (by repeat (first | (with_reducible first | exact HB.out | apply pw_below_drewN) | exact HB.out)) HB2.out⟩
end Go.Proofs.YtajefkjcfmfjkaaDoor
