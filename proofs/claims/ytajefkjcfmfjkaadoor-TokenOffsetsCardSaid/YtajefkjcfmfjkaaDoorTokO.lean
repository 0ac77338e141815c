/- TokenOffsets: the walk of the law. -/
import Derived.Test.YtajefkjcfmfjkaaDoorTokJ
namespace Go.Proofs.YtajefkjcfmfjkaaDoor
open Go.RowKit Go.Proofs.YtajefkjcfmfjkaaDoorW.PrintWords Go.Proofs.YtajefkjcfmfjkaaDoor.PTokenPieces

theorem rd_tk (xs : List Tk) (k : Nat) (h : k < xs.length) : rd_T35 (xs.map tkS) (k : Int) = tkS xs[k] := by
  simp [rd_T35, List.getElem?_eq_getElem h]

set_option maxHeartbeats 4000000 in
set_option maxRecDepth 100000 in
theorem tokenOffsets_walk (w : World) (A : Option Addr) (c : Nat) (l : List Int) (hr : Kd.C (Kd.int .i64) w A l.length l) (hp : PcAt w) :
    Calls Tryd.prog 9 #[.slice A l.length c] w fun e w' => e = .returned (.bool true) ∧ Below w.heap.size w w' := by
  have hll : l.length ≤ 9223372036854775807 := hr.2.1
  have HT := Aside0.mk (text_any l A c w hll hr hp)
  have HA := Aside0.mk awake_any
  have hX := lexL_facts (textL l) 0 0
  have hN := text_len l
  have hW := wt_len (textL l)
  have hO := lexL_off (textL l) (textL l) 0 0 rfl (by omega)
  have HL := Aside0.mk (text_lex l)
  have hs1 : (⟨(textL l).toArray⟩ : ByteArray).size = (textL l).length := rfl
  have hsub : ∀ i j, (⟨(textL l).toArray⟩ : ByteArray).extract i j = ⟨(((textL l).drop i).take (j - i)).toArray⟩ := fun i j => extract_mk _ i j
  generalize lexL 0 (textL l) 0 = R at hX HL hO
  generalize (⟨(textL l).toArray⟩ : ByteArray) = S1 at HT HL hs1 hsub
  obtain ⟨xs, e, n⟩ := R
  obtain ⟨h1, h2, h3, _⟩ := hX
  simp only at h1 h2 h3 hO
  by_cases he : e = 0
  · subst he
    have hxl : xs.length ≤ 19200 := by omega
    have HO := Aside0.mk hO
    have HW := Aside0.mk h1
    have HSUB := Aside0.mk hsub
    clear hO h1 h2 h3 hW hr hp hsub
    go_enter Tryd.func9, Tryd.ntmps9
    go_wp2_with (first | (go_at_call 18; (with_reducible refine HT.out.mono ?_); rintro e w' ⟨rfl, hb⟩; have HB := Aside0.mk hb; clear hb) | (go_at_call 24; ((with_reducible refine (HL.out _).mono ?_); rintro e w1 ⟨A1, c1, rfl, hc1, hC, hb⟩; have HC := Aside0.mk hC; have HB1 := Aside0.mk (below_step HB.out hb); clear hC hb HB)))
    go_loopw [7, 8] (fun a b w' => ∃ (k E : Nat), a = .int .i64 E ∧ b = .int .i64 k ∧ k ≤ xs.length ∧ Aside0 (offOK (textL l) E (xs.drop k)) ∧ Aside0 (Below w1.heap.size w1 w')) (fun _ b _ => xs.length - (intOf b).toNat)
    case atStart => exact ⟨0, 0, rfl, rfl, Nat.zero_le _, HO, ⟨Below.refl _ _⟩⟩
    case round =>
      clear HO
      obtain ⟨k, E, rfl, rfl, hk, HO, HBW⟩ := hrel
      by_cases hlt : k < xs.length
      · have hlti : (k : Int) < (xs.length : Int) := by omega
        have ho := HO.out
        rw [List.drop_eq_getElem_cons hlt] at ho
        obtain ⟨o1, o2, o3, o4, o5⟩ := ho
        obtain ⟨ad, e1, hx0, hx1, hx2⟩ := at_T35 HC.out (k : Int) (by omega) (by omega)
        subst e1
        rw [Int.toNat_natCast, rd_tk xs k hlt] at hx0 hx1 hx2
        have hT : (tkS xs[k]).f1.size = xs[k].t.length := rfl
        have ht : (tkS xs[k]).f1 = ⟨xs[k].t.toArray⟩ := rfl
        have hO2 : (tkS xs[k]).f2 = (xs[k].o : Int) := rfl
        have hK : (tkS xs[k]).f0 = (xs[k].k : Int) := rfl
        rw [hO2] at hx2
        replace hx0 := pw_cell_below HBW.out hx0
        replace hx1 := pw_cell_below HBW.out hx1
        replace hx2 := pw_cell_below HBW.out hx2
        generalize (tkS xs[k]).f1 = T at *
        generalize (tkS xs[k]).f0 = K at *
        have HO5 := Aside0.mk o5
        generalize xs[k].o = O at *
        have o1i : (E : Int) ≤ (O : Int) := by omega
        by_cases hk3 : xs[k].k = 3
        · have hd3 : (K == 3) = true := by rw [hK, hk3]; rfl
          have hw : (wdL xs[k].k xs[k].t).length = 1 + T.size := by unfold wdL; rw [if_pos hk3, List.length_cons]; omega
          rw [hw] at o2 o3 HO5
          have hTT : ((⟨#[37]⟩ : ByteArray) ++ T).size = 1 + T.size := by rw [ByteArray.size_append]; rfl
          have hwb : (⟨(wdL xs[k].k xs[k].t).toArray⟩ : ByteArray) = (⟨#[37]⟩ : ByteArray) ++ T := by
            unfold wdL; rw [if_pos hk3, ht]
            apply ByteArray.ext
            apply Array.ext'
            simp
          have hsl : ∀ w, (Instr.slice 9 (.string S1) (some (.int .i64 (O : Int))) (some (.int .i64 ((O : Int) + (((⟨#[37]⟩ : ByteArray) ++ T).size : Int)))) none).run Tryd.prog w = .ok (.string ((⟨#[37]⟩ : ByteArray) ++ T)) w := by
            intro w
            rw [run_slice_string w 9 S1 .i64 .i64 _ _ Tryd.underlying9 (by omega) (by omega) (by omega), Int.toNat_natCast, HSUB.out, show ((O : Int) + (((⟨#[37]⟩ : ByteArray) ++ T).size : Int)).toNat - O = 1 + T.size by omega, o3, hwb]
          have hgt : (O : Int) + (((⟨#[37]⟩ : ByteArray) ++ T).size : Int) ≤ (S1.size : Int) := by omega
          have hgd : decide ((S1.size : Int) < (O : Int) + (((⟨#[37]⟩ : ByteArray) ++ T).size : Int)) = false := decide_eq_false (by omega)
          have hod : decide ((O : Int) < (E : Int)) = false := decide_eq_false (by omega)
          have hzz : (O : Int) ≤ 19200 := by omega
          have hne : ((((⟨#[37]⟩ : ByteArray) ++ T).size : Int) == 0) = false := by rw [beq_eq_false_iff_ne]; omega
          have hTs : T.size ≤ 1000000 := by omega
          have HO6 : Aside0 (offOK (textL l) (O + ((⟨#[37]⟩ : ByteArray) ++ T).size) (xs.drop (k + 1))) := ⟨by rw [hTT]; exact HO5.out⟩
          have hT2s : ((⟨#[37]⟩ : ByteArray) ++ T).size ≤ 1000001 := by omega
          clear hwb hw o1 o2 o3 o4 o5 HO5 HO hk3 hK ht hT hO2 hTT hs1
          go_wp2
          generalize ((⟨#[37]⟩ : ByteArray) ++ T) = T2 at hsl hgd hgt hne HO6 hT2s ⊢
          have hne2 : ¬ T2 = ByteArray.empty := by intro h; subst h; revert hne; decide
          generalize hOi : (O : Int) = Oi at hsl hgd hgt hzz hod hx2 o1i ⊢
          have hO0 : 0 ≤ Oi := by omega
          generalize hEi : (E : Int) = Ei at hod o1i ⊢
          go_big_region
          go_wp2
          go_roundw
          case rel => exact ⟨k + 1, _, by subst hOi; go_num, by go_num, by omega, HO6, ⟨below_drew1 HBW.out⟩⟩
          case measure => simp [intOf]; omega
        · have hd3 : (K == 3) = false := by rw [beq_eq_false_iff_ne, hK]; omega
          have hw : (wdL xs[k].k xs[k].t).length = T.size := by unfold wdL; rw [if_neg hk3]; omega
          rw [hw] at o2 o3 HO5
          have hwb : (⟨(wdL xs[k].k xs[k].t).toArray⟩ : ByteArray) = T := by
            unfold wdL; rw [if_neg hk3, ht]
          have hsl : ∀ w, (Instr.slice 9 (.string S1) (some (.int .i64 (O : Int))) (some (.int .i64 ((O : Int) + (T.size : Int)))) none).run Tryd.prog w = .ok (.string T) w := by
            intro w
            rw [run_slice_string w 9 S1 .i64 .i64 _ _ Tryd.underlying9 (by omega) (by omega) (by omega), Int.toNat_natCast, HSUB.out, show ((O : Int) + (T.size : Int)).toNat - O = T.size by omega, o3, hwb]
          have hgt : (O : Int) + (T.size : Int) ≤ (S1.size : Int) := by omega
          have hgd : decide ((S1.size : Int) < (O : Int) + (T.size : Int)) = false := decide_eq_false (by omega)
          have hod : decide ((O : Int) < (E : Int)) = false := decide_eq_false (by omega)
          have hzz : (O : Int) ≤ 19200 := by omega
          have hne : ((T.size : Int) == 0) = false := by rw [beq_eq_false_iff_ne]; omega
          have hTs : T.size ≤ 1000000 := by omega
          have hne2 : ¬ T = ByteArray.empty := by intro h; rw [h] at hne; revert hne; decide
          clear hwb hw o1 o2 o3 o4 o5 HO hk3 hK ht hT hO2 hs1
          go_wp2
          generalize hOi : (O : Int) = Oi at hsl hgd hgt hzz hod hx2 o1i ⊢
          have hO0 : 0 ≤ Oi := by omega
          generalize hEi : (E : Int) = Ei at hod o1i ⊢
          go_big_region
          go_wp2
          go_roundw
          case rel => exact ⟨k + 1, _, by subst hOi; go_num, by go_num, by omega, HO5, ⟨below_drew1 HBW.out⟩⟩
          case measure => simp [intOf]; omega
      · have hlti : ¬ (k : Int) < (xs.length : Int) := by omega
        go_wp2_with (go_at_call 19; (with_reducible refine (HA.out _).mono ?_); rintro e w5 ⟨rfl, hb⟩; have HB5 := Aside0.mk (below_step (below_step HB1.out HBW.out) hb); clear hb)
        go_ret
        exact ⟨rfl, HB5.out⟩
  · have he2 : ((e : Int) != 0) = true := by rw [bne_iff_ne]; omega
    clear h1 h2 h3 hO hN hW hs1 he hr hp hsub
    go_enter Tryd.func9, Tryd.ntmps9
    go_wp2_with (first | (go_at_call 18; (with_reducible refine HT.out.mono ?_); rintro e w' ⟨rfl, hb⟩; have HB := Aside0.mk hb; clear hb) | (go_at_call 24; ((with_reducible refine (HL.out _).mono ?_); rintro e w1 ⟨A1, c1, rfl, hc1, hC, hb⟩; have HC := Aside0.mk hC; have HB1 := Aside0.mk (below_step HB.out hb); clear hC hb HB)) | (go_at_call 19; (with_reducible refine (HA.out _).mono ?_); rintro e w5 ⟨rfl, hb⟩; have HB5 := Aside0.mk (below_step HB1.out hb); clear hb))
    go_ret
    exact ⟨rfl, HB5.out⟩
end Go.Proofs.YtajefkjcfmfjkaaDoor
