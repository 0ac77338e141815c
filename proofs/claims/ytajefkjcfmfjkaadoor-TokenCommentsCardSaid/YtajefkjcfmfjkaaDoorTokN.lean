/- TokenJoins: the walk of the law. -/
import Derived.Test.YtajefkjcfmfjkaaDoorTokQ
namespace Go.Proofs.YtajefkjcfmfjkaaDoor
open Go.RowKit Go.Proofs.YtajefkjcfmfjkaaDoorW.PrintWords Go.Proofs.YtajefkjcfmfjkaaDoor.PTokenPieces

theorem rd_tk2 (xs : List Tk) (k : Nat) (h : k < xs.length) : rd_T35 (xs.map tkS) (k : Int) = tkS xs[k] := by
  simp [rd_T35, List.getElem?_eq_getElem h]

theorem off_le (S : List UInt8) : ∀ (xs : List Tk) (e : Nat), offOK S e xs → ∀ x ∈ xs, x.o ≤ S.length
  | [], _, _, x, hx => by simp at hx
  | y :: r, e, h, x, hx => by
    rcases List.mem_cons.1 hx with hx | hx
    · subst hx; have := h.2.1; omega
    · exact off_le S r _ h.2.2.2.2 x hx

theorem join_take {W : World} {A : Option Addr} (xs zs : List Tk) (n : Nat) (hn : zs.length = n) (h : Kd.C k35 W A (xs.length + n) ((xs ++ zs).map tkS)) : Kd.C k35 W A xs.length (xs.map tkS) := by
  subst hn
  have h' : Kd.C k35 W A ((xs ++ zs).map tkS).length ((xs ++ zs).map tkS) := by rw [List.length_map, List.length_append]; exact h
  have h1 := Kd.C_take (m := xs.length) h' (by simp)
  have h2 : ((xs ++ zs).map tkS).take xs.length = xs.map tkS := by
    rw [List.map_append, show xs.length = (xs.map tkS).length by rw [List.length_map], List.take_left]
  rw [h2, List.length_map] at h1
  exact h1

/-- what Lex answers for the two texts -/
def JPost (xs ys : List Tk) (d : Nat) (n : Int) (w : World) (e : Ending) (w' : World) : Prop :=
  ∃ A c, e = .returned (.tuple #[.slice A (xs.length + ys.length) c, .int .i64 0, .int .i64 n]) ∧ xs.length + ys.length ≤ c ∧ Kd.C k35 w' A (xs.length + ys.length) ((xs ++ ys.map (shiftT d)).map tkS) ∧ Below w.heap.size w w'

set_option maxHeartbeats 4000000 in
set_option maxRecDepth 100000 in
theorem tokenJoins_walk (w : World) (A : Option Addr) (c : Nat) (l : List Int) (hr : Kd.C (Kd.int .i64) w A l.length l) (A' : Option Addr) (c' : Nat) (m : List Int) (hr' : Kd.C (Kd.int .i64) w A' m.length m) (hp : PcAt w) :
    Calls Tryd.prog 6 #[.slice A l.length c, .slice A' m.length c'] w fun e w' => e = .returned (.bool true) ∧ Below w.heap.size w w' := by
  have hll : l.length ≤ 9223372036854775807 := hr.2.1
  have hlm : m.length ≤ 9223372036854775807 := hr'.2.1
  have HT := Aside0.mk (text_any l A c w hll hr hp)
  have HT2 : Aside0 (∀ W, Below w.heap.size w W → Calls Tryd.prog 18 #[.slice A' m.length c'] W fun e w' => e = .returned (.string ⟨(textL m).toArray⟩) ∧ Below W.heap.size W w') := ⟨fun W hb => text_any m A' c' W hlm (Kd.C_below hr' hb) (hp.below hb)⟩
  have HA := Aside0.mk awake_any
  have hX := lexL_facts (textL l) 0 0
  have hY := lexL_facts (textL m) 0 0
  have hN := text_len l
  have hM := text_len m
  have hWl := wt_text l
  have hWm := wt_text m
  have HL := Aside0.mk (text_lex l)
  have HL2 := Aside0.mk (text_lex m)
  have hj := lexL_join (textL m) (textL l) 0 0
  have hoff := lexL_off (textL m) (textL m) 0 0 rfl (by omega)
  have hsh := lexL_shift ((textL l).length + 1) (textL m) 0 0
  have hct := fun c1 => lexL_cnt (textL m) (0 + ((textL l).length + 1)) c1 0
  have HL3 := Aside0.mk (lex_at (textL l ++ 10 :: textL m) (by rw [List.length_append, List.length_cons]; omega))
  generalize lexL 0 (textL l) 0 = R at hX HL hj
  generalize lexL 0 (textL m) 0 = R2 at hY HL2 hsh hoff
  rw [← two_texts] at HL3
  have hs1 : (⟨(textL l).toArray⟩ : ByteArray).size = (textL l).length := rfl
  have hs2 : (⟨(textL m).toArray⟩ : ByteArray).size = (textL m).length := rfl
  generalize (⟨(textL l).toArray⟩ : ByteArray) = S1 at HT HL HL3 hs1
  generalize (⟨(textL m).toArray⟩ : ByteArray) = S2 at HT2 HL2 HL3 hs2
  obtain ⟨xs, e, n⟩ := R
  obtain ⟨ys, f, k⟩ := R2
  obtain ⟨h1, h2, _, h4⟩ := hX
  obtain ⟨g1, g2, _, g4⟩ := hY
  simp only at h1 h2 h4 g1 g2 g4
  by_cases he : e = 0
  · by_cases hf : f = 0
    · subst he hf
      have hn := h4 rfl
      have hk := g4 rfl
      have hR3 := hj xs n rfl
      rw [Nat.add_assoc 0, hct (0 + xs.length) (by omega) (by omega), hsh] at hR3
      have hR4 : ahead xs (shiftR ((textL l).length + 1) (ys, 0, k)) = (xs ++ ys.map (shiftT ((textL l).length + 1)), 0, k + ((textL l).length + 1)) := by
        unfold ahead shiftR
        rw [if_pos rfl]
      rw [hR3, hR4] at HL3
      obtain ⟨d, hd⟩ : ∃ d, d = (textL l).length + 1 := ⟨_, rfl⟩
      rw [← hd] at HL3
      have HJ : Aside0 (∀ W, Calls Tryd.prog 24 #[.string ((S1 ++ (⟨#[10]⟩ : ByteArray)) ++ S2)] W (JPost xs ys d ((S1.size : Int) + 1 + (S2.size : Int)) W)) := by
        constructor
        intro W
        refine (HL3.out W).mono fun e w' hh => ?_
        obtain ⟨A, c, e1, e2, e3, e4⟩ := hh
        simp only at e1 e2 e3
        rw [List.length_append, List.length_map] at e1 e2 e3
        refine ⟨A, c, ?_, e2, e3, e4⟩
        rw [e1, show ((k + d : Nat) : Int) = (S1.size : Int) + 1 + (S2.size : Int) by omega]
        rfl
      have HK : Aside0 (∀ A B c d (W : World), Kd.C k35 W A xs.length (xs.map tkS) → Kd.C k35 W B xs.length (xs.map tkS) → xs.length ≤ c → xs.length ≤ d → Calls Tryd.prog 26 #[.slice A xs.length c, .slice B xs.length d, .bool true] W fun e w' => e = .returned (.bool true) ∧ Drawn0 W w') := by
        constructor
        intro A B c d W ha hb hc hd
        have := sameT_any (xs.map tkS) (xs.map tkS) true A B c d W (by rw [List.length_map]; omega) (by rw [List.length_map]; exact ha) (by rw [List.length_map]; exact hb) (by rw [List.length_map]; exact hc) (by rw [List.length_map]; exact hd)
        rw [List.length_map, same_refl] at this
        exact this
      have hds : (d : Int) = (S1.size : Int) + 1 := by omega
      have hz1 : S1.size ≤ 19200 := by omega
      have hz2 : S2.size ≤ 19200 := by omega
      have hxl : xs.length ≤ 900 := by omega
      have hyl : ys.length ≤ 900 := by omega
      have hko : ∀ x ∈ ys, x.o ≤ 19200 := fun x hx => Nat.le_trans (off_le _ _ _ hoff x hx) hM
      clear hj hsh hct hoff hR3 hR4 h1 h2 h4 g1 g2 g4 hN hM hWl hWm hn hs1 hs2 hd HL3 hr hr' hp
      go_enter Tryd.func6, Tryd.ntmps6
      go_wp2_with (first | (go_at_call 18; first | ((with_reducible refine HT.out.mono ?_); rintro e w' ⟨rfl, hb⟩; have HB := Aside0.mk hb; clear hb) | ((with_reducible refine (HT2.out _ HB.out).mono ?_); rintro e w2 ⟨rfl, hb⟩; have HB2 := Aside0.mk (below_step HB.out hb); clear hb HB)) | (go_at_call 24; first | ((with_reducible refine (HL.out _).mono ?_); rintro e w3 ⟨A1, c1, rfl, hc1, hC, hb⟩; have HC := Aside0.mk hC; have HB3 := Aside0.mk (below_step HB2.out hb); clear hC hb HB2) | ((with_reducible refine (HL2.out _).mono ?_); rintro e w4 ⟨A2, c2, rfl, hc2, hC, hb⟩; have HD := Aside0.mk hC; have HC4 := Aside0.mk (Kd.C_below HC.out hb); have HB4 := Aside0.mk (below_step HB3.out hb); clear hC hb HB3 HC) | ((with_reducible refine (HJ.out _).mono ?_); rintro e w5 ⟨A3, c3, rfl, hc3, hC, hb⟩; have HE := Aside0.mk hC; have HC5 := Aside0.mk (Kd.C_below HC4.out hb); have HD5 := Aside0.mk (Kd.C_below HD.out hb); have HB5 := Aside0.mk (below_step HB4.out hb); clear hC hb HB4 HC4 HD)) | (go_at_call 26; (with_reducible refine (HK.out _ _ _ _ _ (join_take _ _ _ (List.length_map _) HE.out) HC5.out (Nat.le_trans (Nat.le_add_right _ _) hc3) hc1).mono ?_); rintro e w6 ⟨rfl, ⟨nd, rfl⟩⟩; have HBX := HB5; clear HB5))
      go_loopw [16] (fun b w' => ∃ (k : Nat), b = .int .i64 k ∧ k ≤ ys.length ∧ Aside0 (Below w5.heap.size w5 w')) (fun b _ => ys.length - (intOf b).toNat)
      case atStart => exact ⟨0, rfl, Nat.zero_le _, ⟨by repeat (first | (with_reducible first | exact Below.refl _ _ | apply pw_below_drewN | apply below_drew1) | exact Below.refl _ _)⟩⟩
      case round =>
        obtain ⟨k, rfl, hk, HBW⟩ := hrel
        by_cases hlt : k < ys.length
        · have hlti : (k : Int) < (ys.length : Int) := by omega
          have hlen : k < (ys.map (shiftT d)).length := by rw [List.length_map]; exact hlt
          obtain ⟨ad, e1, hx0, hx1, hx2⟩ := at_T35 HE.out ((xs.length : Int) + (k : Int)) (by omega) (by omega)
          obtain ⟨bd, e2, hy0, hy1, hy2⟩ := at_T35 HD5.out (k : Int) (by omega) (by omega)
          subst e1 e2
          have hidx : ((xs.length : Int) + (k : Int)).toNat = xs.length + k := by omega
          have hrd : rd_T35 ((xs ++ ys.map (shiftT d)).map tkS) ((xs.length : Int) + (k : Int)) = tkS (shiftT d ys[k]) := by
            have := rd_tk2 (xs ++ ys.map (shiftT d)) (xs.length + k) (by rw [List.length_append, List.length_map]; omega)
            rw [show ((xs.length + k : Nat) : Int) = (xs.length : Int) + (k : Int) by omega] at this
            rw [this, List.getElem_append_right (by omega)]
            simp
          rw [hidx, hrd] at hx0 hx1 hx2
          rw [Int.toNat_natCast, rd_tk2 ys k hlt] at hy0 hy1 hy2
          replace hx0 := pw_cell_below HBW.out hx0
          replace hx1 := pw_cell_below HBW.out hx1
          replace hx2 := pw_cell_below HBW.out hx2
          replace hy0 := pw_cell_below HBW.out hy0
          replace hy1 := pw_cell_below HBW.out hy1
          replace hy2 := pw_cell_below HBW.out hy2
          have hf0 : (tkS (shiftT d ys[k])).f0 = (tkS ys[k]).f0 := rfl
          have hf1 : (tkS (shiftT d ys[k])).f1 = (tkS ys[k]).f1 := rfl
          have hf2 : (tkS (shiftT d ys[k])).f2 = (tkS ys[k]).f2 + (S1.size : Int) + 1 := by
            show ((ys[k].o + d : Nat) : Int) = (ys[k].o : Int) + (S1.size : Int) + 1
            omega
          have hob : (tkS ys[k]).f2 ≤ 19200 ∧ 0 ≤ (tkS ys[k]).f2 := by
            have := hko ys[k] (List.getElem_mem hlt)
            show (ys[k].o : Int) ≤ 19200 ∧ 0 ≤ (ys[k].o : Int)
            omega
          rw [hf0] at hx0
          rw [hf1] at hx1
          rw [hf2] at hx2
          clear hrd hf0 hf1 hf2 hidx hlen
          obtain ⟨ho1, ho2⟩ := hob
          generalize (tkS ys[k]).f0 = K at hx0 hy0
          generalize (tkS ys[k]).f1 = T at hx1 hy1
          generalize (tkS ys[k]).f2 = O at hx2 hy2 ho1 ho2
          go_wp2
          have HB8 : Aside0 (Below wr.heap.size wr (wr.alloc (Obj.cells #[.int .i64 K, .string T, .int .i64 (O + (S1.size : Int) + 1)] 35))) := ⟨below_alloc (Below.refl _ _) _⟩
          have HBK : Aside0 ((wr.alloc (Obj.cells #[.int .i64 K, .string T, .int .i64 (O + (S1.size : Int) + 1)] 35)).heap[wr.heap.size]? = some (Obj.cells #[.int .i64 K, .string T, .int .i64 (O + (S1.size : Int) + 1)] 35 (0, 0))) := ⟨blk_new _ _⟩
          generalize wr.alloc (Obj.cells #[.int .i64 K, .string T, .int .i64 (O + (S1.size : Int) + 1)] 35) = w8 at HB8 HBK ⊢
          have z0 : w8.cell? ⟨wr.heap.size, 0, none⟩ = some (.int .i64 K) := (blk_cell HBK.out 0).trans rfl
          have z1 : w8.cell? ⟨wr.heap.size, 1, none⟩ = some (.string T) := (blk_cell HBK.out 1).trans rfl
          have z2 : w8.cell? ⟨wr.heap.size, 2, none⟩ = some (.int .i64 (O + (S1.size : Int) + 1)) := (blk_cell HBK.out 2).trans rfl
          replace hy0 := pw_cell_below HB8.out hy0
          replace hy1 := pw_cell_below HB8.out hy1
          replace hy2 := pw_cell_below HB8.out hy2
          clear hx0 hx1 hx2
          go_big_region
          go_wp2
          go_roundw
          case rel => exact ⟨k + 1, by go_num, by omega, ⟨by repeat (first | (with_reducible first | apply pw_below_drewN | apply below_drew1) | exact below_step HBW.out HB8.out)⟩⟩
          case measure => simp [intOf]; omega
        · have hlti : ¬ (k : Int) < (ys.length : Int) := by omega
          go_wp2_with (go_at_call 19; (with_reducible refine (HA.out _).mono ?_); rintro e w7 ⟨rfl, hb⟩; have HB7 := Aside0.mk (below_step (below_step HBX.out HBW.out) hb); clear hb)
          go_ret
          exact ⟨rfl, HB7.out⟩
    · have hf2 : ((f : Int) == 0) = false := by rw [beq_eq_false_iff_ne]; omega
      have hf3 : ((f : Int) != 0) = true := by rw [bne_iff_ne]; omega
      subst he
      clear hj hsh hct hoff h1 h2 h4 g1 g2 g4 hN hM hWl hWm hs1 hs2 hr hr' hp HL3 hf
      go_enter Tryd.func6, Tryd.ntmps6
      go_wp2_with (first | (go_at_call 18; first | ((with_reducible refine HT.out.mono ?_); rintro e w' ⟨rfl, hb⟩; have HB := Aside0.mk hb; clear hb) | ((with_reducible refine (HT2.out _ HB.out).mono ?_); rintro e w2 ⟨rfl, hb⟩; have HB2 := Aside0.mk (below_step HB.out hb); clear hb HB)) | (go_at_call 24; first | ((with_reducible refine (HL.out _).mono ?_); rintro e w3 ⟨A1, c1, rfl, hc1, hC, hb⟩; have HB3 := Aside0.mk (below_step HB2.out hb); clear hC hb HB2) | ((with_reducible refine (HL2.out _).mono ?_); rintro e w4 ⟨A2, c2, rfl, hc2, hC, hb⟩; have HB4 := Aside0.mk (below_step HB3.out hb); clear hC hb HB3)) | (go_at_call 19; (with_reducible refine (HA.out _).mono ?_); rintro e w5 ⟨rfl, hb⟩; have HB5 := Aside0.mk (below_step HB4.out hb); clear hb))
      go_ret
      exact ⟨rfl, HB5.out⟩
  · have he2 : ((e : Int) == 0) = false := by rw [beq_eq_false_iff_ne]; omega
    have he3 : ((e : Int) != 0) = true := by rw [bne_iff_ne]; omega
    clear hj hsh hct hoff h1 h2 h4 g1 g2 g4 hN hM hWl hWm hs1 hs2 hr hr' hp HL3 he
    go_enter Tryd.func6, Tryd.ntmps6
    go_wp2_with (first | (go_at_call 18; first | ((with_reducible refine HT.out.mono ?_); rintro e w' ⟨rfl, hb⟩; have HB := Aside0.mk hb; clear hb) | ((with_reducible refine (HT2.out _ HB.out).mono ?_); rintro e w2 ⟨rfl, hb⟩; have HB2 := Aside0.mk (below_step HB.out hb); clear hb HB)) | (go_at_call 24; first | ((with_reducible refine (HL.out _).mono ?_); rintro e w3 ⟨A1, c1, rfl, hc1, hC, hb⟩; have HB3 := Aside0.mk (below_step HB2.out hb); clear hC hb HB2) | ((with_reducible refine (HL2.out _).mono ?_); rintro e w4 ⟨A2, c2, rfl, hc2, hC, hb⟩; have HB4 := Aside0.mk (below_step HB3.out hb); clear hC hb HB3)) | (go_at_call 19; (with_reducible refine (HA.out _).mono ?_); rintro e w5 ⟨rfl, hb⟩; have HB5 := Aside0.mk (below_step HB4.out hb); clear hb))
    go_ret
    exact ⟨rfl, HB5.out⟩
end Go.Proofs.YtajefkjcfmfjkaaDoor
