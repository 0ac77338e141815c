/- Lex: what it computes (the walk). -/
import Derived.Test.YtajefkjcfmfjkaaDoorTokC
namespace Go.Proofs.YtajefkjcfmfjkaaDoor
open Go.RowKit Go.Proofs.YtajefkjcfmfjkaaDoorW.PrintWords Go.Proofs.YtajefkjcfmfjkaaDoor.PTokenPieces

def tkS (t : Tk) : S35 := ⟨(t.k : Int), ⟨t.t.toArray⟩, (t.o : Int)⟩

theorem nextL_kind {c : UInt8} {l : List UInt8} {k : Nat} {t r : List UInt8} (h : nextL (c :: l) = .tok k t r) : k ≠ 0 := by
  rw [nextL_cons] at h
  split at h
  · cases h
  · split at h
    · unfold pctL at h
      split at h
      · split at h <;> cases h
      · split at h
        · cases h
        · split at h
          · cases h
          · injection h with h; omega
    · split at h
      · split at h
        · cases h
        · injection h with h
          rw [← h]; split <;> omega
      · split at h
        · injection h with h; omega
        · cases h

theorem sfx_sub (s : ByteArray) (i : Nat) (hi : i < s.size) {r : List UInt8} (hr : ∃ p, sfx s i = p ++ r) : r = sfx s (s.size - r.length) := by
  obtain ⟨p, hp⟩ := hr
  have h1 : (sfx s i).drop p.length = r := by rw [hp, List.drop_left]
  rw [sfx_drop] at h1
  have h2 := congrArg List.length hp
  rw [sfx_len, List.length_append] at h2
  rw [show s.size - r.length = i + p.length by omega, h1]

theorem cmtL_sub : ∀ (l : List UInt8) (d : Nat) (q : List UInt8), cmtL l d = some q → ∃ p, l = p ++ q
  | [], d, q, h => by simp [cmtL] at h
  | [_], d, q, h => by simp [cmtL] at h
  | a :: b :: r, d, q, h => by
    unfold cmtL at h
    by_cases h1 : a = 37 ∧ b = 123
    · rw [if_pos h1] at h
      obtain ⟨p, hp⟩ := cmtL_sub r _ q h
      exact ⟨a :: b :: p, by rw [hp]; rfl⟩
    · rw [if_neg h1] at h
      by_cases h2 : a = 125 ∧ b = 37
      · rw [if_pos h2] at h
        by_cases h3 : d = 1
        · rw [if_pos h3] at h
          injection h with h
          subst h
          exact ⟨[a, b], rfl⟩
        · rw [if_neg h3] at h
          obtain ⟨p, hp⟩ := cmtL_sub r _ q h
          exact ⟨a :: b :: p, by rw [hp]; rfl⟩
      · rw [if_neg h2] at h
        obtain ⟨p, hp⟩ := cmtL_sub (b :: r) _ q h
        exact ⟨a :: p, by rw [hp]; rfl⟩

def Stp.sub (l : List UInt8) : Stp → Prop
  | .skip r => ∃ p, l = p ++ r
  | .tok _ _ r => ∃ p, l = p ++ r
  | .err _ => True

theorem pctL_sub (r : List UInt8) : (pctL r).sub (37 :: r) := by
  unfold pctL
  split
  · rename_i h0
    cases r with
    | nil => cases h0
    | cons a r' =>
      split
      · rename_i q hq
        obtain ⟨p, hp⟩ := cmtL_sub _ _ _ hq
        simp only [List.tail_cons] at hp
        exact ⟨37 :: a :: p, by rw [hp]; rfl⟩
      · trivial
  · split
    · exact ⟨37 :: r.takeWhile notNl, by simp [List.takeWhile_append_dropWhile]⟩
    · split
      · trivial
      · exact ⟨37 :: r.takeWhile isLetter, by simp [List.takeWhile_append_dropWhile]⟩

theorem nextL_sub (c : UInt8) (r : List UInt8) : (nextL (c :: r)).sub (c :: r) := by
  rw [nextL_cons]
  split
  · exact ⟨[c], rfl⟩
  · split
    · rename_i h1 h2
      subst h2
      exact pctL_sub r
    · split
      · split
        · trivial
        · exact ⟨(c :: r).takeWhile isName, by rw [List.takeWhile_append_dropWhile]⟩
      · split
        · exact ⟨[c], rfl⟩
        · trivial

theorem lex_skip (s : ByteArray) (i : Nat) (hi : i < s.size) (xs : List Tk) {r : List UInt8} (h : nextL (sfx s i) = .skip r) :
    ahead xs (lexL i (sfx s i) xs.length) = ahead xs (lexL (s.size - r.length) (sfx s (s.size - r.length)) xs.length) ∧ i < s.size - r.length := by
  have e1 := sfx_cons s i hi
  have h2 := nextL_sub s[i] (sfx s (i + 1))
  have h3 := nextL_less s[i] (sfx s (i + 1))
  rw [← e1, h] at h2 h3
  have h4 := sfx_sub s i hi h2
  simp only [Stp.less] at h3
  rw [sfx_len] at h3
  have h5 : i + ((sfx s i).length - r.length) = s.size - r.length := by rw [sfx_len]; omega
  refine ⟨?_, by omega⟩
  rw [← h4]
  have h6 := h
  rw [e1] at h6
  have h7 := ahead_skip (o := i) xs h6
  rw [← e1, h5] at h7
  exact h7
theorem lex_err (s : ByteArray) (i : Nat) (hi : i < s.size) (xs : List Tk) {e : Nat} (h : nextL (sfx s i) = .err e) :
    ahead xs (lexL i (sfx s i) xs.length) = ([], e, i) ∧ e ≠ 0 := by
  have e1 := sfx_cons s i hi
  rw [e1] at h
  have h7 := ahead_err (o := i) xs h
  rw [← e1] at h7
  exact ⟨h7, nextL_err_pos h⟩
theorem lex_tok (s : ByteArray) (i : Nat) (hi : i < s.size) (xs : List Tk) {k : Nat} {t r : List UInt8} (h : nextL (sfx s i) = .tok k t r) :
    (xs.length = 20000 → ahead xs (lexL i (sfx s i) xs.length) = ([], 7, i)) ∧
    (xs.length ≠ 20000 → ahead xs (lexL i (sfx s i) xs.length) = ahead (xs ++ [⟨k, t, i⟩]) (lexL (s.size - r.length) (sfx s (s.size - r.length)) (xs ++ [(⟨k, t, i⟩ : Tk)]).length)) ∧ i < s.size - r.length ∧ k ≠ 0 := by
  have e1 := sfx_cons s i hi
  have h2 := nextL_sub s[i] (sfx s (i + 1))
  have h3 := nextL_less s[i] (sfx s (i + 1))
  rw [← e1, h] at h2 h3
  have h4 := sfx_sub s i hi h2
  simp only [Stp.less] at h3
  rw [sfx_len] at h3
  have h5 : i + ((sfx s i).length - r.length) = s.size - r.length := by rw [sfx_len]; omega
  have h6 := h
  rw [e1] at h6
  refine ⟨fun hx => ?_, fun hx => ?_, by omega, nextL_kind h6⟩
  · rw [e1]
    exact ahead_many xs h6 hx
  · have h7 := ahead_tok (o := i) xs h6 hx
    rw [← e1, h5] at h7
    rw [h7, ← h4]

theorem read_nil (w : World) : Kd.C k35 w none 0 ([] : List S35) := by
  obtain ⟨A, c, he, hl, hr⟩ := Kd.R_reads (Kd.R_nil k35 35 w w.heap.size (fun _ => True))
  injection he with hA
  subst hA
  exact hr
theorem read_own {w : World} {base : Nat} {ok : Nat → Prop} {A : Option Addr} {c : Nat} {xs : List S35} (h : Kd.R k35 35 w base ok (.slice A xs.length c) xs) : xs.length ≤ c ∧ Kd.C k35 w A xs.length xs := by
  obtain ⟨A', c', he, hl, hr⟩ := Kd.R_reads h
  injection he with hA hn hc
  subst hA hc
  exact ⟨hl, hr⟩

def LexPost (R : List Tk × Nat × Nat) (w : World) (e : Ending) (w' : World) : Prop :=
  ∃ A c, e = .returned (.tuple #[.slice A R.1.length c, .int .i64 (R.2.1 : Int), .int .i64 (R.2.2 : Int)]) ∧ R.1.length ≤ c ∧ Kd.C k35 w' A R.1.length (R.1.map tkS) ∧ Below w.heap.size w w'

set_option maxHeartbeats 4000000 in
set_option maxRecDepth 100000 in
theorem lex_any (s : ByteArray) (w : World) (hs : s.size ≤ 4611686018427387904) :
    Calls Tryd.prog 24 #[.string s] w (LexPost (lexS s) w) := by
  by_cases hbig : 65536 < s.size
  · have hd : decide ((65536 : Int) < (s.size : Int)) = true := decide_eq_true (by omega)
    have hL : lexS s = ([], 12, 0) := by unfold lexS; rw [if_pos hbig]
    rw [hL]
    go_enter Tryd.func24, Tryd.ntmps24
    go_wp2
    go_ret3
    refine ⟨none, 0, rfl, Nat.le_refl _, ?_, Below.refl _ _⟩
    exact read_nil w
  · have hd : decide ((65536 : Int) < (s.size : Int)) = false := decide_eq_false (by omega)
    obtain ⟨R, hR⟩ : ∃ R, R = lexS s := ⟨_, rfl⟩
    have hL : R = ahead [] (lexL 0 (sfx s 0) 0) := by rw [hR]; unfold lexS; rw [if_neg hbig]
    rw [← hR]
    have HR := Aside0.mk hL
    clear hR hL
    go_enter Tryd.func24, Tryd.ntmps24
    go_wp2
    go_loopw [5, 6] (fun v x w' => ∃ (xs : List Tk) (i : Nat) (A : Option Addr) (c : Nat), i ≤ s.size ∧ x = .int .i64 i ∧ v = .slice A xs.length c ∧ xs.length ≤ 20000 ∧ Aside0 (R = ahead xs (lexL i (sfx s i) xs.length)) ∧ Aside0 (Kd.R k35 35 w' w.heap.size (fun _ => True) (.slice A xs.length c) (xs.map tkS)) ∧ Aside0 (Below w.heap.size w w')) (fun _ x _ => s.size - (intOf x).toNat)
    case atStart => exact ⟨[], 0, none, 0, Nat.zero_le _, rfl, rfl, by simp, HR, ⟨Kd.R_nil _ _ _ _ _⟩, ⟨Below.refl _ _⟩⟩
    case round =>
      clear HR
      obtain ⟨xs, i, A, c, hi, rfl, rfl, hx, HR, HO, HB⟩ := hrel
      by_cases hlt : i < s.size
      · have HN := Aside0.mk (fun W => next_any s i W hs hlt)
        cases hn : nextL (sfx s i) with
        | skip r =>
          rw [hn] at HN
          simp only [stpV] at HN
          obtain ⟨hs1, hs2⟩ := lex_skip s i hlt xs hn
          have HR2 := Aside0.mk (HR.out.trans hs1)
          clear hn hs1 HR
          go_wp2_with (first | (go_at_call 57; (with_reducible refine (HN.out _).mono ?_); rintro e w' ⟨rfl, hb⟩; have hb1 := Aside0.mk hb; clear hb))
          go_roundw
          case rel => exact ⟨xs, _, A, c, by omega, rfl, rfl, hx, HR2, ⟨Kd.R_below (Kd.R_below HO.out hb1.out) (below_alloc (Below.refl _ _) _)⟩, ⟨below_alloc (below_step HB.out hb1.out) _⟩⟩
          case measure => simp [intOf]; omega
        | err e =>
          rw [hn] at HN
          simp only [stpV] at HN
          obtain ⟨hs1, hs2⟩ := lex_err s i hlt xs hn
          have he : (((e : Nat) : Int) == 0) = false := by rw [beq_eq_false_iff_ne]; omega
          have he2 : (((e : Nat) : Int) != 0) = true := by rw [bne_iff_ne]; omega
          have HR2 := HR.out.trans hs1
          subst HR2
          clear hn hs1 HR
          go_wp2_with (first | (go_at_call 57; (with_reducible refine (HN.out _).mono ?_); rintro e w' ⟨rfl, hb⟩; have hb1 := Aside0.mk hb; clear hb))
          go_ret3
          exact ⟨none, 0, rfl, Nat.le_refl _, read_nil _, below_alloc (below_step HB.out hb1.out) _⟩
        | tok k t r =>
          rw [hn] at HN
          simp only [stpV] at HN
          obtain ⟨hs1, hs2, hs3, hs4⟩ := lex_tok s i hlt xs hn
          have hk : (((k : Nat) : Int) != 0) = true := by rw [bne_iff_ne]; omega
          by_cases hm : xs.length = 20000
          · have HR2 := HR.out.trans (hs1 hm)
            subst HR2
            have hm2 : (((xs.length : Nat) : Int) == 20000) = true := by rw [beq_iff_eq]; omega
            clear hn hs1 hs2 HR hm
            go_wp2_with (first | (go_at_call 57; (with_reducible refine (HN.out _).mono ?_); rintro e w' ⟨rfl, hb⟩; have hb1 := Aside0.mk hb; clear hb))
            go_ret3
            exact ⟨none, 0, rfl, Nat.le_refl _, read_nil _, below_alloc (below_step HB.out hb1.out) _⟩
          · have HR2 := Aside0.mk (HR.out.trans (hs2 hm))
            have hm2 : (((xs.length : Nat) : Int) == 20000) = false := by rw [beq_eq_false_iff_ne]; omega
            have hm3 : xs.length < 20000 := by omega
            clear hn hs1 hs2 HR hm
            go_wp2_with (first | (go_at_call 57; (with_reducible refine (HN.out _).mono ?_); rintro e w' ⟨rfl, hb⟩; have hb1 := Aside0.mk hb; clear hb) | (at_builtin; refine Kd.R_append k35 (w0 := w) w.heap.size rfl (.tmp 43) (.tmp 45) 28 35 (.agg #[(.int .i64 0), (.string ⟨#[]⟩), (.int .i64 0)]) 32 rfl Tryd.underlying28 info35 rfl (by decide) (by omega) (.slice A xs.length c) (xs.map tkS) (tkS ⟨k, t, i⟩) [.int .i64 k, .string ⟨t.toArray⟩, .int .i64 i] (fun _ => True) (fun _ => False) rfl ?aX ?aP (fun _ hk => hk.elim) (fun _ _ => trivial) ?aO ?aB ?aS ?aL ?_; (case aP => exact k35_mkM _ _ _ (tkS ⟨k, t, i⟩)); (case aX => simp [go_sem]); (case aO => exact Kd.R_below (Kd.R_below HO.out hb1.out) (below_alloc (Below.refl _ _) _)); (case aB => exact below_alloc (below_step HB.out hb1.out) _); (case aS => exact below_size (below_alloc (below_step HB.out hb1.out) _)); (case aL => simp; omega); intro v1 w1 ho hb hg hat; have HO1 := Aside0.mk ho; have HB1 := Aside0.mk hb; clear ho hb hg hat))
            obtain ⟨A1, c1, ev⟩ := Kd.R_slice HO1.out
            have HO2 : Aside0 (Kd.R k35 35 w1 w.heap.size (fun _ => True) (.slice A1 (xs ++ [(⟨k, t, i⟩ : Tk)]).length c1) ((xs ++ [(⟨k, t, i⟩ : Tk)]).map tkS)) := by
              constructor
              have := HO1.out
              rw [ev] at this
              simpa using this
            have ev2 : v1 = .slice A1 (xs ++ [(⟨k, t, i⟩ : Tk)]).length c1 := by rw [ev]; simp
            subst ev2
            go_roundw
            case rel => exact ⟨xs ++ [⟨k, t, i⟩], _, A1, c1, by omega, rfl, rfl, by simp; omega, HR2, HO2, HB1⟩
            case measure => simp [intOf]; omega
      · go_wp2
        go_ret3
        have hR := HR.out
        rw [sfx_nil s i (by omega), ahead_end] at hR
        subst hR
        have hr := read_own (xs := xs.map tkS) (by rw [List.length_map]; exact HO.out)
        rw [List.length_map] at hr
        have : i = s.size := by omega
        subst this
        exact ⟨A, c, rfl, hr.1, hr.2, HB.out⟩
end Go.Proofs.YtajefkjcfmfjkaaDoor
