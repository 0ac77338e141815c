/- TokenPieces: the walk of the law. -/
import Derived.Test.YtajefkjcfmfjkaaDoorTokJ
import Derived.Test.YtajefkjcfmfjkaaDoorRefL
namespace Go.Proofs.YtajefkjcfmfjkaaDoor
open Go.RowKit Go.Proofs.YtajefkjcfmfjkaaDoorW.PrintWords Go.Proofs.YtajefkjcfmfjkaaDoor.PTokenPieces

set_option maxHeartbeats 4000000 in
set_option maxRecDepth 100000 in
theorem same_any (L : List UInt8) (h : L.length ≤ 65536) (w : World) :
    Calls Tryd.prog 17 #[.string ⟨L.toArray⟩] w fun e w' => e = .returned (.bool true) ∧ Below w.heap.size w w' := by
  have HL := Aside0.mk (lex_at L h)
  have HR : Aside0 (∀ W, Calls Tryd.prog 51 #[.string ⟨L.toArray⟩] W (LexPost (lexL 0 L 0) W)) := by
    constructor
    intro W
    have := rlex_any ⟨L.toArray⟩ W (by show L.length ≤ _; omega)
    rwa [lex_list L h] at this
  have hX := lexL_facts L 0 0
  have hW := wt_len L
  generalize lexL 0 L 0 = R at HL HR hX
  generalize (⟨L.toArray⟩ : ByteArray) = S1 at HL HR ⊢
  obtain ⟨xs, e, n⟩ := R
  obtain ⟨h1, h2, h3, _⟩ := hX
  simp only at h2
  have HK : Aside0 (∀ A B c d (W : World), Kd.C k35 W A xs.length (xs.map tkS) → Kd.C k35 W B xs.length (xs.map tkS) → xs.length ≤ c → xs.length ≤ d → Calls Tryd.prog 26 #[.slice A xs.length c, .slice B xs.length d, .bool true] W fun e w' => e = .returned (.bool true) ∧ Drawn0 W w') := by
    constructor
    intro A B c d W ha hb hc hd
    have := sameT_any (xs.map tkS) (xs.map tkS) true A B c d W (by rw [List.length_map]; omega) (by rw [List.length_map]; exact ha) (by rw [List.length_map]; exact hb) (by rw [List.length_map]; exact hc) (by rw [List.length_map]; exact hd)
    rw [List.length_map, same_refl] at this
    exact this
  clear h1 h2 h3 hW h
  go_enter Tryd.func17, Tryd.ntmps17
  go_wp2_with (first | (go_at_call 24; ((with_reducible refine (HL.out _).mono ?_); rintro e w1 ⟨A1, c1, rfl, hc1, hC, hb⟩; have HC := Aside0.mk hC; have HB1 := Aside0.mk hb; clear hC hb)) | (go_at_call 51; ((with_reducible refine (HR.out _).mono ?_); rintro e w2 ⟨A2, c2, rfl, hc2, hC, hb⟩; have HD := Aside0.mk hC; have HC2 := Aside0.mk (Kd.C_below HC.out hb); have HB2 := Aside0.mk (below_step HB1.out hb); clear hC hb HB1 HC)) | (go_at_call 26; (with_reducible refine (HK.out _ _ _ _ _ HC2.out HD.out hc1 hc2).mono ?_); rintro e w6 ⟨rfl, ⟨nd, rfl⟩⟩))
  go_ret
  exact ⟨rfl, pw_below_drewN HB2.out _⟩

set_option maxHeartbeats 4000000 in
set_option maxRecDepth 100000 in
theorem tokenPieces_walk (w : World) (A : Option Addr) (c : Nat) (l : List Int) (hr : Kd.C (Kd.int .i64) w A l.length l) (hp : PcAt w) :
    Calls Tryd.prog 3 #[.slice A l.length c] w fun e w' => e = .returned (.bool true) ∧ Below w.heap.size w w' := by
  have hll : l.length ≤ 9223372036854775807 := hr.2.1
  have HT := Aside0.mk (text_any l A c w hll hr hp)
  have HA := Aside0.mk awake_any
  have HS := Aside0.mk (same_any (textL l) (by have := text_len l; omega))
  generalize (⟨(textL l).toArray⟩ : ByteArray) = S1 at HT HS
  clear hr hp
  go_enter Tryd.func3, Tryd.ntmps3
  go_wp2_with (first | (go_at_call 18; (with_reducible refine HT.out.mono ?_); rintro e w' ⟨rfl, hb⟩; have HB := Aside0.mk hb; clear hb) | (go_at_call 17; (with_reducible refine (HS.out _).mono ?_); rintro e w1 ⟨rfl, hb⟩; have HB1 := Aside0.mk (below_step HB.out hb); clear hb) | (go_at_call 19; (with_reducible refine (HA.out _).mono ?_); rintro e w2 ⟨rfl, hb⟩; have HB2 := Aside0.mk (below_step HB1.out hb); clear hb))
  go_ret
  exact ⟨rfl, HB2.out⟩
end Go.Proofs.YtajefkjcfmfjkaaDoor
