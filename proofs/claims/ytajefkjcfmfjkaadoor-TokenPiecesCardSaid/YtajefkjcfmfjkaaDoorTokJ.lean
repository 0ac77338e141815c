/- The texts of the laws: what Lex and Spell answer for each. -/
import Derived.Test.YtajefkjcfmfjkaaDoorTokI
import Derived.Test.YtajefkjcfmfjkaaDoorLexU
namespace Go.Proofs.YtajefkjcfmfjkaaDoor
open Go.RowKit Go.Proofs.YtajefkjcfmfjkaaDoorW.PrintWords Go.Proofs.YtajefkjcfmfjkaaDoor.PTokenPieces

theorem lex_list (L : List UInt8) (h : L.length ≤ 65536) : lexS ⟨L.toArray⟩ = lexL 0 L 0 := by
  unfold lexS
  have hz : (⟨L.toArray⟩ : ByteArray).size = L.length := rfl
  rw [if_neg (by rw [hz]; omega), sfx_zero, ahead_nil _ (lexL_err_nil _ _ _)]
theorem lex_at (L : List UInt8) (h : L.length ≤ 65536) (w : World) : Calls Tryd.prog 24 #[.string ⟨L.toArray⟩] w (LexPost (lexL 0 L 0) w) := by
  have := lex_any ⟨L.toArray⟩ w (by show L.length ≤ _; omega)
  rwa [lex_list L h] at this

theorem wt_len : ∀ l : List UInt8, wt l ≤ l.length
  | [] => Nat.le_refl _
  | c :: r => by
    have h1 := brk_le c r
    have h2 := wt_len r
    rw [wt_cons, List.length_cons]; omega
theorem wt_pc (j : Nat) : wt (pcAt j) ≤ 3 := by
  rcases Nat.lt_or_ge j 32 with h | h
  · revert j; decide +kernel
  · have hl : pcL.length ≤ j := h
    unfold pcAt
    rw [List.getD_eq_getElem?_getD, List.getElem?_eq_none hl]
    simp [wt]
theorem wt_text (l : List Int) : wt (textL l) ≤ 900 := by
  have : ∀ (l : List Int) (n : Nat), wt ((l.take n).flatMap fun x => pcAt (cutN x 32)) ≤ n * 3 := by
    intro l
    induction l with
    | nil => intro n; simp [wt]
    | cons a r ih =>
      intro n
      cases n with
      | zero => simp [wt]
      | succ n =>
        have h1 := ih n
        have h2 := wt_pc (cutN a 32)
        rw [List.take_succ_cons, List.flatMap_cons]
        have h3 := wt_app (pcAt (cutN a 32)) ((r.take n).flatMap fun x => pcAt (cutN x 32))
        omega
  have h := this l 300
  unfold textL
  omega

/-! ### spellings -/
def joinL (xs : List Tk) : List UInt8 := Lib.join (xs.map fun x => wdL x.k x.t) [32]
theorem spW_tk (t : Tk) : (spW (tkS t)).data.toList = wdL t.k t.t := by
  unfold spW tkS wdL
  by_cases h : t.k = 3
  · rw [if_pos (by simp [h]), if_pos h]
    simp
  · rw [if_neg (by simp; omega), if_neg h]
theorem spell_words (xs : List Tk) : ((xs.map tkS).map spW).map (·.data.toList) = xs.map fun x => wdL x.k x.t := by
  rw [List.map_map, List.map_map]
  apply List.map_congr_left
  intro t _
  exact spW_tk t
theorem spell_list (xs : List Tk) : spellB (xs.map tkS) = ⟨(joinL xs).toArray⟩ := by
  unfold spellB joinL
  rw [spell_words]
theorem joinL_nil : joinL [] = [] := rfl
theorem joinL_one (x : Tk) : joinL [x] = wdL x.k x.t := Lib.join_one _ _
theorem joinL_cons (x y : Tk) (r : List Tk) : joinL (x :: y :: r) = wdL x.k x.t ++ 32 :: joinL (y :: r) := by
  unfold joinL
  rw [List.map_cons, List.map_cons, Lib.join_cons, Lib.join_cons]
  simp [Lib.joinTail]
theorem joinL_len : ∀ xs : List Tk, (joinL xs).length ≤ (xs.map fun x => (wdL x.k x.t).length).sum + xs.length
  | [] => by simp [joinL_nil]
  | [x] => by rw [joinL_one]; simp
  | x :: y :: r => by
    have := joinL_len (y :: r)
    rw [joinL_cons, List.length_append, List.length_cons, List.map_cons, List.sum_cons, List.length_cons]
    omega
theorem lexL_joined : ∀ (xs : List Tk) (o cnt : Nat), (∀ x ∈ xs, OkT x.k x.t) → cnt + xs.length ≤ 20000 →
    ∃ ys, lexL o (joinL xs) cnt = (ys, 0, o + (joinL xs).length) ∧ ys.map tkK = xs.map tkK
  | [], o, cnt, _, _ => ⟨[], by rw [joinL_nil, lexL_nil]; rfl, rfl⟩
  | [x], o, cnt, h, hc => by
    rw [List.length_singleton] at hc
    have := lexL_word (h x (List.mem_cons_self ..)) [] (fun d hd => by cases hd) o cnt (by omega)
    rw [List.append_nil, lexL_nil, first_ok] at this
    exact ⟨[⟨x.k, x.t, o⟩], by rw [joinL_one, this], rfl⟩
  | x :: y :: r, o, cnt, h, hc => by
    rw [List.length_cons] at hc
    obtain ⟨ys, e1, e2⟩ := lexL_joined (y :: r) (o + (wdL x.k x.t).length + 1) (cnt + 1) (fun z hz => h z (List.mem_cons_of_mem _ hz)) (by omega)
    refine ⟨⟨x.k, x.t, o⟩ :: ys, ?_, by rw [List.map_cons, List.map_cons (a := x), e2]; rfl⟩
    rw [joinL_cons, lexL_word (h x (List.mem_cons_self ..)) _ (BlankL.cons _ (by decide)) o cnt (by omega), lexL_hop (c := 32) (l := joinL (y :: r)) (p := [32]) rfl rfl]
    rw [List.length_singleton, e1, first_ok, List.length_append, List.length_cons]
    congr 2
    omega

/-- same tokens, offsets aside -/
theorem same_of_keys {xs ys : List Tk} (h : ys.map tkK = xs.map tkK) : sameT (xs.map tkS) (ys.map tkS) false = true := by
  unfold sameT
  rw [decide_eq_true_eq, List.map_map, List.map_map]
  have e : (tkKey false ∘ tkS) = (fun p : Nat × List UInt8 => ((p.1 : Int), p.2, (0 : Int))) ∘ tkK := by
    funext t; simp [tkKey, tkS, tkK]
  rw [e, ← List.map_map, ← List.map_map, h]
theorem same_refl (a : List S35) (b : Bool) : sameT a a b = true := by unfold sameT; exact decide_eq_true rfl

/-- a text of numbers -/
theorem text_lex (l : List Int) (w : World) : Calls Tryd.prog 24 #[.string ⟨(textL l).toArray⟩] w (LexPost (lexL 0 (textL l) 0) w) :=
  lex_at _ (by have := text_len l; omega) w

/-! ### TokenSpells -/
set_option maxHeartbeats 4000000 in
set_option maxRecDepth 100000 in
theorem tokenSpells_walk (w : World) (A : Option Addr) (c : Nat) (l : List Int) (hr : Kd.C (Kd.int .i64) w A l.length l) (hp : PcAt w) :
    Calls Tryd.prog 5 #[.slice A l.length c] w fun e w' => e = .returned (.bool true) ∧ Below w.heap.size w w' := by
  have hll : l.length ≤ 9223372036854775807 := hr.2.1
  have HT := Aside0.mk (text_any l A c w hll hr hp)
  have HA := Aside0.mk awake_any
  have hX := lexL_facts (textL l) 0 0
  have hE := lexL_err_nil (textL l) 0 0
  have hN := text_len l
  have hW := wt_len (textL l)
  have HL := Aside0.mk (text_lex l)
  generalize lexL 0 (textL l) 0 = R at hX hE HL
  obtain ⟨xs, e, n⟩ := R
  obtain ⟨h1, h2, h3, _⟩ := hX
  simp only at h1 h2 h3 hE
  by_cases he : e = 0
  · subst he
    obtain ⟨ys, g1, g2⟩ := lexL_joined xs 0 0 h1 (by omega)
    have gl := joinL_len xs
    have HL2 := Aside0.mk (lex_at (joinL xs) (by omega))
    rw [g1] at HL2
    have HS : Aside0 (∀ A c (W : World), Kd.C k35 W A xs.length (xs.map tkS) → Calls Tryd.prog 25 #[.slice A xs.length c] W fun e w' => e = .returned (.string ⟨(joinL xs).toArray⟩) ∧ Below W.heap.size W w') := by
      constructor
      intro A c W h
      have := spell_any (xs.map tkS) A c W (by rw [List.length_map]; omega) (by
        intro x hx
        obtain ⟨t, ht, rfl⟩ := List.mem_map.1 hx
        have := (wd_len (h1 t ht)).2.1
        show t.t.length ≤ 1000000
        omega) (by rw [List.length_map]; exact h) (by
        rw [spell_words]
        show (joinL xs).length ≤ _
        omega)
      rw [List.length_map, spell_list] at this
      exact this
    have HK : Aside0 (∀ A B c d (W : World), Kd.C k35 W A xs.length (xs.map tkS) → Kd.C k35 W B ys.length (ys.map tkS) → xs.length ≤ c → ys.length ≤ d → Calls Tryd.prog 26 #[.slice A xs.length c, .slice B ys.length d, .bool false] W fun e w' => e = .returned (.bool true) ∧ Drawn0 W w') := by
      constructor
      intro A B c d W ha hb hc hd
      have := sameT_any (xs.map tkS) (ys.map tkS) false A B c d W (by rw [List.length_map]; omega) (by rw [List.length_map]; exact ha) (by rw [List.length_map]; exact hb) (by rw [List.length_map]; exact hc) (by rw [List.length_map]; exact hd)
      rw [List.length_map, List.length_map, same_of_keys g2] at this
      exact this
    have hn0 : ((((joinL xs).length : Nat) : Int) == (((joinL xs).length : Nat) : Int)) = true := beq_self_eq_true _
    have hsz : (⟨(joinL xs).toArray⟩ : ByteArray).size = (joinL xs).length := rfl
    generalize hJ : joinL xs = J at *
    obtain ⟨S2, hS2⟩ : ∃ S2 : ByteArray, S2 = ⟨J.toArray⟩ := ⟨_, rfl⟩
    rw [← hS2] at HS HL2 hsz
    obtain ⟨S1, hS1⟩ : ∃ S1 : ByteArray, S1 = ⟨(textL l).toArray⟩ := ⟨_, rfl⟩
    rw [← hS1] at HT HL
    have hz2 : ((J.length : Int) == (S2.size : Int)) = true := by rw [hsz]; exact beq_self_eq_true _
    clear h1 h2 h3 hE hN hW g1 g2 gl hJ hS1 hS2 hsz hr hp
    go_enter Tryd.func5, Tryd.ntmps5
    go_wp2_with (first | (go_at_call 18; (with_reducible refine HT.out.mono ?_); rintro e w' ⟨rfl, hb⟩; have HB := Aside0.mk hb; clear hb) | (go_at_call 24; first | ((with_reducible refine (HL.out _).mono ?_); rintro e w1 ⟨A1, c1, rfl, hc1, hC, hb⟩; have HC := Aside0.mk hC; have HB1 := Aside0.mk (below_step HB.out hb); clear hC hb HB) | ((with_reducible refine (HL2.out _).mono ?_); rintro e w3 ⟨A2, c2, rfl, hc2, hC, hb⟩; have HD := Aside0.mk hC; have HB3 := Aside0.mk (below_step HB2.out hb); have HC3 := Aside0.mk (Kd.C_below HC2.out hb); clear hC hb HB2 HC2)) | (go_at_call 25; (with_reducible refine (HS.out _ _ _ HC.out).mono ?_); rintro e w2 ⟨rfl, hb⟩; have HB2 := Aside0.mk (below_step HB1.out hb); have HC2 := Aside0.mk (Kd.C_below HC.out hb); clear hb HB1 HC) | (go_at_call 26; (with_reducible refine (HK.out _ _ _ _ _ HC3.out HD.out hc1 hc2).mono ?_); rintro e w4 ⟨rfl, ⟨nd, rfl⟩⟩) | (go_at_call 19; (with_reducible refine (HA.out _).mono ?_); rintro e w5 ⟨rfl, hb⟩; have HB5 := Aside0.mk (below_step (pw_below_drewN HB3.out _) hb); clear hb))
    go_ret
    exact ⟨rfl, HB5.out⟩
  · have hxs := hE he
    subst hxs
    have he2 : ((e : Int) != 0) = true := by rw [bne_iff_ne]; omega
    obtain ⟨S1, hS1⟩ : ∃ S1 : ByteArray, S1 = ⟨(textL l).toArray⟩ := ⟨_, rfl⟩
    rw [← hS1] at HT HL
    clear h1 h2 h3 hE hN hW hS1 he hr hp
    go_enter Tryd.func5, Tryd.ntmps5
    go_wp2_with (first | (go_at_call 18; (with_reducible refine HT.out.mono ?_); rintro e w' ⟨rfl, hb⟩; have HB := Aside0.mk hb; clear hb) | (go_at_call 24; ((with_reducible refine (HL.out _).mono ?_); rintro e w1 ⟨A1, c1, rfl, hc1, hC, hb⟩; have HC := Aside0.mk hC; have HB1 := Aside0.mk (below_step HB.out hb); clear hC hb HB)) | (go_at_call 19; (with_reducible refine (HA.out _).mono ?_); rintro e w5 ⟨rfl, hb⟩; have HB5 := Aside0.mk (below_step HB1.out hb); clear hb))
    go_ret
    exact ⟨rfl, HB5.out⟩
end Go.Proofs.YtajefkjcfmfjkaaDoor
