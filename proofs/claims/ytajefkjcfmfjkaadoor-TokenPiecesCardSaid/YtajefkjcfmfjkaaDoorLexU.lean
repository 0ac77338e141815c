/- The tokens of texts that are put together: plain laws. No program in sight. -/
import Derived.Test.YtajefkjcfmfjkaaDoorLexT
namespace Go.Proofs.YtajefkjcfmfjkaaDoor

/-! ### how many tokens can be -/
def brk (c : UInt8) (r : List UInt8) : Nat := if isName c then (match r.head? with | some d => if isName d then 0 else 1 | none => 1) else 1
def wt : List UInt8 → Nat
  | [] => 0
  | c :: r => brk c r + wt r
theorem wt_cons (c : UInt8) (r : List UInt8) : wt (c :: r) = brk c r + wt r := rfl
theorem brk_le (c : UInt8) (r : List UInt8) : brk c r ≤ 1 := by
  unfold brk
  split
  · split
    · split <;> omega
    · omega
  · omega
theorem wt_sub : ∀ (p r : List UInt8), wt r ≤ wt (p ++ r)
  | [], _ => Nat.le_refl _
  | c :: p, r => by
    have := wt_sub p r
    rw [List.cons_append, wt_cons]; omega
theorem wt_app : ∀ (p r : List UInt8), wt (p ++ r) ≤ wt p + wt r
  | [], r => by rw [List.nil_append]; omega
  | [c], r => by
    show brk c r + wt r ≤ brk c [] + 0 + wt r
    have h1 : brk c [] = 1 := by unfold brk; simp
    have := brk_le c r
    omega
  | c :: d :: p, r => by
    have := wt_app (d :: p) r
    rw [List.cons_append, wt_cons, wt_cons c]
    have h1 : brk c (d :: p ++ r) = brk c (d :: p) := rfl
    omega
theorem wt_name : ∀ (t r : List UInt8), t ≠ [] → (∀ c ∈ t, isName c = true) → (∀ d, r.head? = some d → isName d = false) → wt (t ++ r) = 1 + wt r
  | [], _, h, _, _ => absurd rfl h
  | [c], r, _, h, h2 => by
    show brk c r + wt r = _
    have : brk c r = 1 := by
      unfold brk
      rw [if_pos (h c (List.mem_cons_self ..))]
      cases hr : r.head? with
      | none => rfl
      | some d => simp [h2 d hr]
    omega
  | c :: d :: t, r, _, h, h2 => by
    rw [List.cons_append, wt_cons, wt_name (d :: t) r (by simp) (fun x hx => h x (List.mem_cons_of_mem _ hx)) h2]
    have : brk c (d :: t ++ r) = 0 := by
      unfold brk
      rw [if_pos (h c (List.mem_cons_self ..))]
      have := h d (List.mem_cons_of_mem _ (List.mem_cons_self ..))
      simp [this]
    omega
theorem wt_not {c : UInt8} (r : List UInt8) (h : isName c = false) : wt (c :: r) = 1 + wt r := by
  rw [wt_cons]; unfold brk; rw [if_neg (by rw [h]; exact Bool.false_ne_true)]
theorem dw_head {p : UInt8 → Bool} : ∀ (l : List UInt8) (d : UInt8), (l.dropWhile p).head? = some d → p d = false
  | [], d, h => by simp at h
  | c :: l, d, h => by
    cases hp : p c with
    | true => rw [List.dropWhile_cons_of_pos hp] at h; exact dw_head l d h
    | false => rw [List.dropWhile_cons_of_neg (by simp [hp])] at h; simp at h; rw [← h]; exact hp

theorem next_wt {c : UInt8} {l : List UInt8} {k : Nat} {t r : List UInt8} (h : nextL (c :: l) = .tok k t r) : wt r + 1 ≤ wt (c :: l) := by
  obtain ⟨hok, he⟩ := next_ok h
  rw [nextL_cons] at h
  by_cases h1 : isBlank c = true
  · rw [if_pos h1] at h; cases h
  · rw [if_neg h1] at h
    by_cases h2 : c = 37
    · rw [if_pos h2] at h
      subst h2
      rw [wt_not l (by decide)]
      by_cases h3 : l.head? = some 123
      · rw [pctL_open l h3] at h
        cases hc : cmtL l.tail 1 <;> rw [hc] at h <;> cases h
      · rw [pctL_not l h3] at h
        by_cases h4 : l.takeWhile isLetter = []
        · rw [if_pos h4] at h; cases h
        · rw [if_neg h4] at h
          by_cases h5 : 64 < (l.takeWhile isLetter).length
          · rw [if_pos h5] at h; cases h
          · rw [if_neg h5] at h
            injection h with e1 e2 e3
            subst e1 e2 e3
            have := wt_sub (l.takeWhile isLetter) (l.dropWhile isLetter)
            rw [List.takeWhile_append_dropWhile] at this
            omega
    · rw [if_neg h2] at h
      by_cases h3 : isName c = true
      · rw [if_pos h3] at h
        by_cases h4 : 64 < ((c :: l).takeWhile isName).length
        · rw [if_pos h4] at h; cases h
        · rw [if_neg h4] at h
          injection h with e1 e2 e3
          have hne : (c :: l).takeWhile isName ≠ [] := by rw [List.takeWhile_cons_of_pos h3]; simp
          have := wt_name ((c :: l).takeWhile isName) ((c :: l).dropWhile isName) hne (tw_mem _) (dw_head _)
          rw [List.takeWhile_append_dropWhile, e3] at this
          omega
      · rw [if_neg h3] at h
        by_cases h4 : isPunct c = true
        · rw [if_pos h4] at h
          injection h with e1 e2 e3
          subst e1 e2 e3
          rw [wt_not l (punct_facts h4).2.2]; omega
        · rw [if_neg h4] at h; cases h

theorem cmt_sub : ∀ (l : List UInt8) (d : Nat) (q : List UInt8), cmtL l d = some q → ∃ p, l = p ++ q
  | [], d, q, h => by simp [cmtL] at h
  | [_], d, q, h => by simp [cmtL] at h
  | a :: b :: r, d, q, h => by
    unfold cmtL at h
    by_cases h1 : a = 37 ∧ b = 123
    · rw [if_pos h1] at h
      obtain ⟨p, hp⟩ := cmt_sub r _ q h
      exact ⟨a :: b :: p, by rw [hp]; rfl⟩
    · rw [if_neg h1] at h
      by_cases h2 : a = 125 ∧ b = 37
      · rw [if_pos h2] at h
        by_cases h3 : d = 1
        · rw [if_pos h3] at h
          injection h with h
          subst h
          exact ⟨[a, b], rfl⟩
        · rw [if_neg h3] at h
          obtain ⟨p, hp⟩ := cmt_sub r _ q h
          exact ⟨a :: b :: p, by rw [hp]; rfl⟩
      · rw [if_neg h2] at h
        obtain ⟨p, hp⟩ := cmt_sub (b :: r) _ q h
        exact ⟨a :: p, by rw [hp]; rfl⟩
theorem next_skip {c : UInt8} {l r : List UInt8} (h : nextL (c :: l) = .skip r) : ∃ p, c :: l = p ++ r := by
  rw [nextL_cons] at h
  by_cases h1 : isBlank c = true
  · rw [if_pos h1] at h; injection h with h; subst h; exact ⟨[c], rfl⟩
  · rw [if_neg h1] at h
    by_cases h2 : c = 37
    · rw [if_pos h2] at h
      by_cases h3 : l.head? = some 123
      · rw [pctL_open l h3] at h
        cases hc : cmtL l.tail 1 with
        | none => rw [hc] at h; cases h
        | some q =>
          rw [hc] at h
          injection h with h
          subst h
          obtain ⟨p, hp⟩ := cmt_sub _ _ _ hc
          cases l with
          | nil => cases h3
          | cons a l => exact ⟨c :: a :: p, by rw [List.tail_cons] at hp; rw [hp]; rfl⟩
      · rw [pctL_not l h3] at h
        by_cases h4 : l.takeWhile isLetter = []
        · rw [if_pos h4] at h
          injection h with h
          subst h
          exact ⟨c :: l.takeWhile notNl, by rw [List.cons_append, List.takeWhile_append_dropWhile]⟩
        · rw [if_neg h4] at h
          by_cases h5 : 64 < (l.takeWhile isLetter).length
          · rw [if_pos h5] at h; cases h
          · rw [if_neg h5] at h; cases h
    · rw [if_neg h2] at h
      by_cases h3 : isName c = true
      · rw [if_pos h3] at h
        by_cases h4 : 64 < ((c :: l).takeWhile isName).length
        · rw [if_pos h4] at h; cases h
        · rw [if_neg h4] at h; cases h
      · rw [if_neg h3] at h
        by_cases h4 : isPunct c = true
        · rw [if_pos h4] at h; cases h
        · rw [if_neg h4] at h; cases h

theorem lex_ind {P : List UInt8 → Prop} (h0 : P []) (h1 : ∀ c l e, nextL (c :: l) = .err e → P (c :: l))
    (h2 : ∀ c l r p, nextL (c :: l) = .skip r → c :: l = p ++ r → P r → P (c :: l))
    (h3 : ∀ c l k t r, nextL (c :: l) = .tok k t r → OkT k t → c :: l = wdL k t ++ r → wt r + 1 ≤ wt (c :: l) → P r → P (c :: l)) : ∀ l, P l := by
  intro l
  induction hn : l.length using Nat.strongRecOn generalizing l with
  | ind n ih =>
    subst hn
    cases l with
    | nil => exact h0
    | cons c l =>
      have hl := nextL_less c l
      cases hx : nextL (c :: l) with
      | err e => exact h1 c l e hx
      | skip r =>
        rw [hx] at hl
        obtain ⟨p, hp⟩ := next_skip hx
        exact h2 c l r p hx hp (ih r.length hl r rfl)
      | tok k t r =>
        rw [hx] at hl
        obtain ⟨ho, he⟩ := next_ok hx
        exact h3 c l k t r hx ho he (next_wt hx) (ih r.length hl.1 r rfl)

/-- a token ahead of what follows -/
def first (x : Tk) (q : List Tk × Nat × Nat) : List Tk × Nat × Nat := if q.2.1 = 0 then (x :: q.1, q.2) else ([], q.2)
theorem lexL_step {o cnt k : Nat} {c : UInt8} {l t r : List UInt8} (h : nextL (c :: l) = .tok k t r) (he : c :: l = wdL k t ++ r) (hc : cnt ≠ 20000) :
    lexL o (c :: l) cnt = first ⟨k, t, o⟩ (lexL (o + (wdL k t).length) r (cnt + 1)) := by
  rw [lexL_tok h hc]
  have : (c :: l).length - r.length = (wdL k t).length := by rw [he, List.length_append]; omega
  rw [this]
  rfl
theorem lexL_hop {o cnt : Nat} {c : UInt8} {l r p : List UInt8} (h : nextL (c :: l) = .skip r) (he : c :: l = p ++ r) : lexL o (c :: l) cnt = lexL (o + p.length) r cnt := by
  rw [lexL_skip h]
  have : (c :: l).length - r.length = p.length := by rw [he, List.length_append]; omega
  rw [this]
theorem lexL_err_nil (l : List UInt8) : ∀ o cnt, (lexL o l cnt).2.1 ≠ 0 → (lexL o l cnt).1 = [] := by
  refine lex_ind (P := fun l => ∀ o cnt, (lexL o l cnt).2.1 ≠ 0 → (lexL o l cnt).1 = []) ?_ ?_ ?_ ?_ l
  · intro o cnt _; rw [lexL_nil]
  · intro c l e h o cnt _; rw [lexL_err h]
  · intro c l r p h he ih o cnt; rw [lexL_hop h he]; exact ih _ _
  · intro c l k t r h ho he hw ih o cnt
    by_cases hc : cnt = 20000
    · subst hc; rw [lexL_many h]; intro _; rfl
    · rw [lexL_step h he hc]
      unfold first
      split
      · intro h2; exact absurd (by assumption) h2
      · intro _; rfl

theorem lexL_cnt (l : List UInt8) : ∀ o c1 c2, c1 + wt l ≤ 20000 → c2 + wt l ≤ 20000 → lexL o l c1 = lexL o l c2 := by
  refine lex_ind (P := fun l => ∀ o c1 c2, c1 + wt l ≤ 20000 → c2 + wt l ≤ 20000 → lexL o l c1 = lexL o l c2) ?_ ?_ ?_ ?_ l
  · intro o c1 c2 _ _; rw [lexL_nil, lexL_nil]
  · intro c l e h o c1 c2 _ _; rw [lexL_err h, lexL_err h]
  · intro c l r p h he ih o c1 c2 g1 g2
    have hs : wt r ≤ wt (c :: l) := by rw [he]; exact wt_sub p r
    rw [lexL_hop h he, lexL_hop h he]; exact ih _ _ _ (by omega) (by omega)
  · intro c l k t r h ho he hw ih o c1 c2 g1 g2
    rw [lexL_step h he (by omega), lexL_step h he (by omega), ih _ (c1 + 1) (c2 + 1) (by omega) (by omega)]

def shiftT (d : Nat) (x : Tk) : Tk := ⟨x.k, x.t, x.o + d⟩
def shiftR (d : Nat) (q : List Tk × Nat × Nat) : List Tk × Nat × Nat := (q.1.map (shiftT d), q.2.1, q.2.2 + d)
theorem lexL_shift (d : Nat) (l : List UInt8) : ∀ o cnt, lexL (o + d) l cnt = shiftR d (lexL o l cnt) := by
  refine lex_ind (P := fun l => ∀ o cnt, lexL (o + d) l cnt = shiftR d (lexL o l cnt)) ?_ ?_ ?_ ?_ l
  · intro o cnt; rw [lexL_nil, lexL_nil]; rfl
  · intro c l e h o cnt; rw [lexL_err h, lexL_err h]; rfl
  · intro c l r p h he ih o cnt
    rw [lexL_hop h he, lexL_hop h he, Nat.add_right_comm]; exact ih _ _
  · intro c l k t r h ho he hw ih o cnt
    by_cases hc : cnt = 20000
    · subst hc; rw [lexL_many h, lexL_many h]; rfl
    · rw [lexL_step h he hc, lexL_step h he hc, Nat.add_right_comm, ih]
      unfold first shiftR
      simp only
      split
      · rfl
      · rfl

/-- the tokens of an error-free text are fine, and not too many -/
theorem lexL_facts (l : List UInt8) : ∀ o cnt, (∀ x ∈ (lexL o l cnt).1, OkT x.k x.t) ∧ (lexL o l cnt).1.length ≤ wt l ∧ ((lexL o l cnt).1.map fun x => (wdL x.k x.t).length).sum ≤ l.length ∧ ((lexL o l cnt).2.1 = 0 → (lexL o l cnt).2.2 = o + l.length) := by
  refine lex_ind (P := fun l => ∀ o cnt, (∀ x ∈ (lexL o l cnt).1, OkT x.k x.t) ∧ (lexL o l cnt).1.length ≤ wt l ∧ ((lexL o l cnt).1.map fun x => (wdL x.k x.t).length).sum ≤ l.length ∧ ((lexL o l cnt).2.1 = 0 → (lexL o l cnt).2.2 = o + l.length)) ?_ ?_ ?_ ?_ l
  · intro o cnt; rw [lexL_nil]; simp
  · intro c l e h o cnt; rw [lexL_err h]; simp
    intro h0; exact absurd h0 (nextL_err_pos h)
  · intro c l r p h he ih o cnt
    have hs : wt r ≤ wt (c :: l) := by rw [he]; exact wt_sub p r
    have hl : (c :: l).length = p.length + r.length := by rw [he, List.length_append]
    rw [lexL_hop h he]
    obtain ⟨a1, a2, a3, a4⟩ := ih (o + p.length) cnt
    exact ⟨a1, by omega, by omega, fun h0 => by rw [a4 h0]; omega⟩
  · intro c l k t r h ho he hw ih o cnt
    have hl : (c :: l).length = (wdL k t).length + r.length := by rw [he, List.length_append]
    by_cases hc : cnt = 20000
    · subst hc; rw [lexL_many h]; simp
    · rw [lexL_step h he hc]
      obtain ⟨a1, a2, a3, a4⟩ := ih (o + (wdL k t).length) (cnt + 1)
      unfold first
      split
      · rename_i h0
        refine ⟨?_, ?_, ?_, ?_⟩
        · intro x hx
          rcases List.mem_cons.1 hx with hx | hx
          · rw [hx]; exact ho
          · exact a1 x hx
        · rw [List.length_cons]; omega
        · rw [List.map_cons, List.sum_cons]; simp only at hl a3 ⊢; omega
        · intro _; simp only; rw [a4 h0]; omega
      · rename_i h0
        refine ⟨by simp, by simp, by simp, fun h2 => absurd h2 h0⟩

/-! ### two texts with a line feed between them -/
theorem lexL_join (m : List UInt8) (l : List UInt8) : ∀ o cnt xs n, lexL o l cnt = (xs, 0, n) → lexL o (l ++ 10 :: m) cnt = ahead xs (lexL (o + l.length + 1) m (cnt + xs.length)) := by
  have hq : BlankL (10 :: m) := BlankL.cons m (by decide)
  refine lex_ind (P := fun l => ∀ o cnt xs n, lexL o l cnt = (xs, 0, n) → lexL o (l ++ 10 :: m) cnt = ahead xs (lexL (o + l.length + 1) m (cnt + xs.length))) ?_ ?_ ?_ ?_ l
  · intro o cnt xs n h
    rw [lexL_nil] at h
    injection h with h1 h2
    subst h1
    rw [List.nil_append, lexL_hop (c := 10) (l := m) (p := [10]) (r := m) rfl rfl]
    exact (ahead_nil _ (lexL_err_nil m _ _)).symm
  · intro c l e h o cnt xs n h2
    rw [lexL_err h] at h2
    injection h2 with _ h3
    injection h3 with h3 _
    exact absurd h3 (nextL_err_pos h)
  · intro c l r p h he ih o cnt xs n h2
    have ha := nextL_app c l (10 :: m) hq
    rw [h] at ha
    have hl : (c :: l).length = p.length + r.length := by rw [he, List.length_append]
    rw [lexL_hop h he] at h2
    have := ih _ _ _ _ h2
    rw [List.cons_append] at ha ⊢
    rw [lexL_hop (p := p) (ha (.inr rfl)) (by rw [← List.cons_append, he, List.append_assoc]), this]
    rw [show o + p.length + r.length + 1 = o + (c :: l).length + 1 by omega]
  · intro c l k t r h ho he hw ih o cnt xs n h2
    have ha := nextL_app c l (10 :: m) hq
    rw [h] at ha
    have hl : (c :: l).length = (wdL k t).length + r.length := by rw [he, List.length_append]
    by_cases hc : cnt = 20000
    · subst hc; rw [lexL_many h] at h2; injection h2 with _ h3; injection h3 with h3 _; cases h3
    · rw [lexL_step h he hc] at h2
      unfold first at h2
      split at h2
      · rename_i h0
        injection h2 with h3 h4
        have h5 : lexL (o + (wdL k t).length) r (cnt + 1) = ((lexL (o + (wdL k t).length) r (cnt + 1)).1, 0, n) := by
          rw [← h4]
        have := ih _ _ _ _ h5
        rw [List.cons_append] at ha ⊢
        rw [lexL_step ha (by rw [← List.cons_append, he, List.append_assoc]) hc, this, ← h3]
        rw [show o + (wdL k t).length + r.length + 1 = o + (c :: l).length + 1 by omega, List.length_cons, show cnt + 1 + (lexL (o + (wdL k t).length) r (cnt + 1)).1.length = cnt + ((lexL (o + (wdL k t).length) r (cnt + 1)).1.length + 1) by omega]
        unfold first ahead
        split
        · rename_i h6; rw [if_pos (by simpa using h6)]; rfl
        · rename_i h6; rw [if_neg (by simpa using h6)]; rfl
      · rename_i h0
        injection h2 with _ h4
        exact absurd (by rw [h4]) h0

/-! ### an error and what is behind it -/
theorem lexL_cut (q : List UInt8) (hq : BlankL q) (l : List UInt8) : ∀ o cnt e n, (lexL o l cnt).2 = (e, n) → e ≠ 0 → e ≠ 11 → (lexL o (l ++ q) cnt).2 = (e, n) ∧ o ≤ n ∧ n < o + l.length := by
  refine lex_ind (P := fun l => ∀ o cnt e n, (lexL o l cnt).2 = (e, n) → e ≠ 0 → e ≠ 11 → (lexL o (l ++ q) cnt).2 = (e, n) ∧ o ≤ n ∧ n < o + l.length) ?_ ?_ ?_ ?_ l
  · intro o cnt e n h h0
    rw [lexL_nil] at h
    injection h with h1 h2
    exact absurd h1.symm h0
  · intro c l e h o cnt e2 n h2 h0 h11
    rw [lexL_err h] at h2
    injection h2 with h3 h4
    subst h3 h4
    have ha := nextL_app c l q hq
    rw [h] at ha
    have hb := ha h11
    rw [List.cons_append] at hb ⊢
    rw [lexL_err hb]
    exact ⟨rfl, Nat.le_refl _, by simp⟩
  · intro c l r p h he ih o cnt e n h2 h0 h11
    have ha := nextL_app c l q hq
    rw [h] at ha
    have hl : (c :: l).length = p.length + r.length := by rw [he, List.length_append]
    rw [lexL_hop h he] at h2
    have hr : r ≠ [] := by
      intro hr
      rw [hr, lexL_nil] at h2
      injection h2 with h3 _
      exact h0 h3.symm
    obtain ⟨i1, i2, i3⟩ := ih _ _ _ _ h2 h0 h11
    rw [List.cons_append] at ha ⊢
    rw [lexL_hop (p := p) (ha (.inl hr)) (by rw [← List.cons_append, he, List.append_assoc])]
    exact ⟨i1, by omega, by omega⟩
  · intro c l k t r h ho he hw ih o cnt e n h2 h0 h11
    have ha := nextL_app c l q hq
    rw [h] at ha
    have hl : (c :: l).length = (wdL k t).length + r.length := by rw [he, List.length_append]
    rw [List.cons_append] at ha ⊢
    by_cases hc : cnt = 20000
    · subst hc; rw [lexL_many h] at h2; rw [lexL_many ha]
      injection h2 with h3 h4
      subst h4
      exact ⟨by rw [← h3], Nat.le_refl _, by simp⟩
    · rw [lexL_step h he hc] at h2
      rw [lexL_step ha (by rw [← List.cons_append, he, List.append_assoc]) hc]
      have e2 : ∀ x y, (first x y).2 = y.2 := by intro x y; unfold first; split <;> rfl
      rw [e2] at h2 ⊢
      obtain ⟨i1, i2, i3⟩ := ih _ _ _ _ h2 h0 h11
      exact ⟨i1, by omega, by omega⟩

/-! ### words with gaps behind them -/
/-- bytes between tokens -/
structure GapL (g : List UInt8) : Prop where
  mk :: (blank : ∀ q, BlankL (g ++ q)) (hop : ∀ q o cnt, lexL o (g ++ q) cnt = lexL (o + g.length) q cnt)
/-- what is looked at in a token, offsets aside -/
def tkK (x : Tk) : Nat × List UInt8 := (x.k, x.t)
def gapped : List (Tk × List UInt8) → List UInt8
  | [] => []
  | (x, g) :: r => wdL x.k x.t ++ (g ++ gapped r)
theorem first_ok (x : Tk) (ys : List Tk) (n : Nat) : first x (ys, 0, n) = (x :: ys, 0, n) := rfl
theorem lexL_word {k : Nat} {t : List UInt8} (h : OkT k t) (q : List UInt8) (hq : BlankL q) (o cnt : Nat) (hc : cnt ≠ 20000) :
    lexL o (wdL k t ++ q) cnt = first ⟨k, t, o⟩ (lexL (o + (wdL k t).length) q (cnt + 1)) := by
  obtain ⟨h1, h2⟩ := next_word h q hq
  obtain ⟨c, r, hw⟩ : ∃ c r, wdL k t = c :: r := by
    cases hw : wdL k t with
    | nil => exact absurd hw h2
    | cons c r => exact ⟨c, r, rfl⟩
  have e : wdL k t ++ q = c :: (r ++ q) := by rw [hw]; rfl
  rw [e] at h1 ⊢
  exact lexL_step h1 e.symm hc
theorem lexL_gapped : ∀ (xs : List (Tk × List UInt8)) (o cnt : Nat), (∀ x ∈ xs, OkT x.1.k x.1.t ∧ GapL x.2) → cnt + xs.length ≤ 20000 →
    ∃ ys, lexL o (gapped xs) cnt = (ys, 0, o + (gapped xs).length) ∧ ys.map tkK = xs.map (fun x => tkK x.1)
  | [], o, cnt, _, _ => ⟨[], by rw [show gapped [] = [] from rfl, lexL_nil]; rfl, rfl⟩
  | (x, g) :: r, o, cnt, h, hc => by
    obtain ⟨h1, h2⟩ := h (x, g) (List.mem_cons_self ..)
    rw [List.length_cons] at hc
    obtain ⟨ys, e1, e2⟩ := lexL_gapped r (o + (wdL x.k x.t).length + g.length) (cnt + 1) (fun y hy => h y (List.mem_cons_of_mem _ hy)) (by omega)
    refine ⟨⟨x.k, x.t, o⟩ :: ys, ?_, by rw [List.map_cons, List.map_cons, e2]; rfl⟩
    show lexL o (wdL x.k x.t ++ (g ++ gapped r)) cnt = (_, 0, o + (wdL x.k x.t ++ (g ++ gapped r)).length)
    rw [lexL_word h1 _ (h2.blank _) o cnt (by omega), h2.hop, e1, first_ok, List.length_append, List.length_append]
    congr 2
    omega

/-! ### offsets -/
def offOK (S : List UInt8) : Nat → List Tk → Prop
  | _, [] => True
  | e, x :: r => e ≤ x.o ∧ x.o + (wdL x.k x.t).length ≤ S.length ∧ (S.drop x.o).take (wdL x.k x.t).length = wdL x.k x.t ∧ 1 ≤ x.t.length ∧ offOK S (x.o + (wdL x.k x.t).length) r
theorem lexL_off (S : List UInt8) (l : List UInt8) : ∀ o cnt, l = S.drop o → o + l.length = S.length → offOK S o (lexL o l cnt).1 := by
  have mono : ∀ (xs : List Tk) (e f : Nat), f ≤ e → offOK S e xs → offOK S f xs := by
    intro xs
    cases xs with
    | nil => intro _ _ _ _; trivial
    | cons x r => intro e f h h2; exact ⟨Nat.le_trans h h2.1, h2.2⟩
  refine lex_ind (P := fun l => ∀ o cnt, l = S.drop o → o + l.length = S.length → offOK S o (lexL o l cnt).1) ?_ ?_ ?_ ?_ l
  · intro o cnt _ _; rw [lexL_nil]; trivial
  · intro c l e h o cnt _ _; rw [lexL_err h]; trivial
  · intro c l r p h he ih o cnt h2 h3
    have hl : (c :: l).length = p.length + r.length := by rw [he, List.length_append]
    rw [lexL_hop h he]
    refine mono _ _ _ (Nat.le_add_right o p.length) (ih _ _ ?_ (by omega))
    rw [← List.drop_drop, ← h2, he, List.drop_left]
  · intro c l k t r h ho he hw ih o cnt h2 h3
    have hl : (c :: l).length = (wdL k t).length + r.length := by rw [he, List.length_append]
    by_cases hc : cnt = 20000
    · subst hc; rw [lexL_many h]; trivial
    · rw [lexL_step h he hc]
      unfold first
      split
      · refine ⟨Nat.le_refl _, (by show o + (wdL k t).length ≤ S.length; omega), ?_, (wd_len ho).1, ih (o + (wdL k t).length) (cnt + 1) ?_ (by omega)⟩
        · simp only; rw [← h2, he, List.take_left]
        · rw [← List.drop_drop, ← h2, he, List.drop_left]
      · trivial
end Go.Proofs.YtajefkjcfmfjkaaDoor
