/- The tokens of texts that are put together: plain laws. No program in sight. -/
import Derived.Test.YtajefkjcfmfjkaaDoorLexS
namespace Go.Proofs.YtajefkjcfmfjkaaDoor

/-! ### lists -/
theorem tw_app_blank {p : UInt8 → Bool} : ∀ (l q : List UInt8), (∀ d, q.head? = some d → p d = false) →
    (l ++ q).takeWhile p = l.takeWhile p ∧ (l ++ q).dropWhile p = l.dropWhile p ++ q
  | [], q, h => by
    cases q with
    | nil => exact ⟨rfl, rfl⟩
    | cons d q =>
      have := h d rfl
      rw [List.nil_append, List.takeWhile_cons_of_neg (by simp [this]), List.dropWhile_cons_of_neg (by simp [this])]
      exact ⟨rfl, rfl⟩
  | c :: l, q, h => by
    obtain ⟨h1, h2⟩ := tw_app_blank l q h
    cases hp : p c with
    | true =>
      rw [List.cons_append, List.takeWhile_cons_of_pos hp, List.takeWhile_cons_of_pos hp, List.dropWhile_cons_of_pos hp, List.dropWhile_cons_of_pos hp, h1, h2]
      exact ⟨rfl, rfl⟩
    | false =>
      rw [List.cons_append, List.takeWhile_cons_of_neg (by simp [hp]), List.takeWhile_cons_of_neg (by simp [hp]), List.dropWhile_cons_of_neg (by simp [hp]), List.dropWhile_cons_of_neg (by simp [hp])]
      exact ⟨rfl, rfl⟩
theorem dw_app_ne {p : UInt8 → Bool} : ∀ (l q : List UInt8), l.dropWhile p ≠ [] → (l ++ q).dropWhile p = l.dropWhile p ++ q
  | [], q, h => absurd rfl h
  | c :: l, q, h => by
    cases hp : p c with
    | true =>
      rw [List.dropWhile_cons_of_pos hp] at h
      rw [List.cons_append, List.dropWhile_cons_of_pos hp, List.dropWhile_cons_of_pos hp, dw_app_ne l q h]
    | false => rw [List.cons_append, List.dropWhile_cons_of_neg (by simp [hp]), List.dropWhile_cons_of_neg (by simp [hp])]; rfl
theorem tw_mem {p : UInt8 → Bool} : ∀ (l : List UInt8), ∀ c ∈ l.takeWhile p, p c = true
  | [], c, h => by simp at h
  | a :: l, c, h => by
    cases hp : p a with
    | true =>
      rw [List.takeWhile_cons_of_pos hp] at h
      rcases List.mem_cons.1 h with h | h
      · rw [h]; exact hp
      · exact tw_mem l c h
    | false => rw [List.takeWhile_cons_of_neg (by simp [hp])] at h; simp at h
theorem tw_of_all {p : UInt8 → Bool} (t q : List UInt8) (ha : ∀ c ∈ t, p c = true) (h : ∀ d, q.head? = some d → p d = false) :
    (t ++ q).takeWhile p = t ∧ (t ++ q).dropWhile p = q := by
  obtain ⟨h1, h2⟩ := tw_app_blank t q h
  rw [h1, h2]
  constructor
  · clear h h1 h2
    induction t with
    | nil => rfl
    | cons c t ih => rw [List.takeWhile_cons_of_pos (ha c (List.mem_cons_self ..)), ih (fun d hd => ha d (List.mem_cons_of_mem _ hd))]
  · have : t.dropWhile p = [] := by
      clear h h1 h2
      induction t with
      | nil => rfl
      | cons c t ih => rw [List.dropWhile_cons_of_pos (ha c (List.mem_cons_self ..)), ih (fun d hd => ha d (List.mem_cons_of_mem _ hd))]
    rw [this]; rfl
theorem cmtL_app : ∀ (l : List UInt8) (d : Nat) (q x : List UInt8), cmtL l d = some q → cmtL (l ++ x) d = some (q ++ x)
  | [], d, q, x, h => by simp [cmtL] at h
  | [_], d, q, x, h => by simp [cmtL] at h
  | a :: b :: r, d, q, x, h => by
    rw [List.cons_append, List.cons_append]
    unfold cmtL at h ⊢
    by_cases h1 : a = 37 ∧ b = 123
    · rw [if_pos h1] at h ⊢
      exact cmtL_app r _ q x h
    · rw [if_neg h1] at h ⊢
      by_cases h2 : a = 125 ∧ b = 37
      · rw [if_pos h2] at h ⊢
        by_cases h3 : d = 1
        · rw [if_pos h3] at h ⊢
          injection h with h
          rw [h]
        · rw [if_neg h3] at h ⊢
          exact cmtL_app r _ q x h
      · rw [if_neg h2] at h ⊢
        rw [← List.cons_append]
        exact cmtL_app (b :: r) _ q x h

/-! ### a blank behind -/
theorem blank_cases {c : UInt8} (h : isBlank c = true) : c = 32 ∨ c = 9 ∨ c = 10 ∨ c = 13 := by
  simp [isBlank] at h
  rcases h with ((h | h) | h) | h
  · exact .inl h
  · exact .inr (.inl h)
  · exact .inr (.inr (.inl h))
  · exact .inr (.inr (.inr h))
theorem blank_name {c : UInt8} (h : isBlank c = true) : isName c = false := by
  rcases blank_cases h with h | h | h | h <;> subst h <;> decide
theorem blank_letter {c : UInt8} (h : isBlank c = true) : isLetter c = false := by
  rcases blank_cases h with h | h | h | h <;> subst h <;> decide
theorem blank_br {c : UInt8} (h : isBlank c = true) : c ≠ 123 := by
  rcases blank_cases h with h | h | h | h <;> subst h <;> decide

/-- what begins with a blank, or is empty -/
def BlankL (q : List UInt8) : Prop := ∀ d, q.head? = some d → isBlank d = true
theorem BlankL.name {q : List UInt8} (h : BlankL q) : ∀ d, q.head? = some d → isName d = false := fun d hd => blank_name (h d hd)
theorem BlankL.letter {q : List UInt8} (h : BlankL q) : ∀ d, q.head? = some d → isLetter d = false := fun d hd => blank_letter (h d hd)
theorem BlankL.cons {c : UInt8} (r : List UInt8) (h : isBlank c = true) : BlankL (c :: r) := fun d hd => by
  simp at hd; rw [← hd]; exact h

theorem pctL_open (r : List UInt8) (h : r.head? = some 123) : pctL r = (match cmtL r.tail 1 with | some q => .skip q | none => .err 11) := by
  unfold pctL; rw [if_pos h]; cases cmtL r.tail 1 <;> rfl
theorem pctL_not (r : List UInt8) (h : ¬ r.head? = some 123) : pctL r = if r.takeWhile isLetter = [] then .skip (r.dropWhile notNl) else if 64 < (r.takeWhile isLetter).length then .err 12 else .tok 3 (r.takeWhile isLetter) (r.dropWhile isLetter) := by
  unfold pctL; rw [if_neg h]
theorem head_app_open {r q : List UInt8} (hq : BlankL q) : (r ++ q).head? = some 123 ↔ r.head? = some 123 := by
  cases r with
  | nil =>
    constructor
    · intro h; exact absurd rfl (blank_br (hq 123 h))
    · intro h; cases h
  | cons a r => simp

/-- what is behind a percent sign, with more behind it -/
theorem pctL_app (r q : List UInt8) (hq : BlankL q) :
    match pctL r with
    | .tok k t x => pctL (r ++ q) = .tok k t (x ++ q)
    | .skip x => (x ≠ [] ∨ q.head? = some 10 ∨ r.head? = some 123) → pctL (r ++ q) = .skip (x ++ q)
    | .err e => e ≠ 11 → pctL (r ++ q) = .err e := by
  by_cases h : r.head? = some 123
  · rw [pctL_open r h, pctL_open (r ++ q) ((head_app_open hq).2 h)]
    have ht : (r ++ q).tail = r.tail ++ q := by
      cases r with
      | nil => cases h
      | cons a r => rfl
    cases hc : cmtL r.tail 1 with
    | none => intro h2; exact absurd rfl h2
    | some x =>
      intro _
      rw [ht, cmtL_app _ _ _ q hc]
  · rw [pctL_not r h, pctL_not (r ++ q) (fun h2 => h ((head_app_open hq).1 h2))]
    obtain ⟨h1, h2⟩ := tw_app_blank r q hq.letter
    rw [h1, h2]
    by_cases h3 : r.takeWhile isLetter = []
    · rw [if_pos h3, if_pos h3]
      intro h4
      rcases h4 with h4 | h4 | h4
      · rw [dw_app_ne r q h4]
      · obtain ⟨_, h6⟩ := tw_app_blank (p := notNl) r q (fun d hd => by rw [h4] at hd; injection hd with hd; subst hd; decide)
        rw [h6]
      · exact absurd h4 h
    · rw [if_neg h3, if_neg h3]
      by_cases h5 : 64 < (r.takeWhile isLetter).length
      · rw [if_pos h5, if_pos h5]; intro _; rfl
      · rw [if_neg h5, if_neg h5]

theorem nextL_app (c : UInt8) (r q : List UInt8) (hq : BlankL q) :
    match nextL (c :: r) with
    | .tok k t x => nextL (c :: r ++ q) = .tok k t (x ++ q)
    | .skip x => (x ≠ [] ∨ q.head? = some 10) → nextL (c :: r ++ q) = .skip (x ++ q)
    | .err e => e ≠ 11 → nextL (c :: r ++ q) = .err e := by
  rw [List.cons_append, nextL_cons, nextL_cons]
  by_cases h1 : isBlank c = true
  · rw [if_pos h1, if_pos h1]; intro _; rfl
  · rw [if_neg h1, if_neg h1]
    by_cases h2 : c = 37
    · rw [if_pos h2, if_pos h2]
      have := pctL_app r q hq
      cases hp : pctL r with
      | tok k t x => rw [hp] at this; exact this
      | skip x => rw [hp] at this; intro h; exact this (by rcases h with h | h; exact .inl h; exact .inr (.inl h))
      | err e => rw [hp] at this; exact this
    · rw [if_neg h2, if_neg h2]
      by_cases h3 : isName c = true
      · rw [if_pos h3, if_pos h3]
        obtain ⟨e1, e2⟩ := tw_app_blank (c :: r) q hq.name
        rw [List.cons_append] at e1 e2
        rw [e1, e2]
        by_cases h4 : 64 < ((c :: r).takeWhile isName).length
        · rw [if_pos h4, if_pos h4]; intro _; rfl
        · rw [if_neg h4, if_neg h4]
      · rw [if_neg h3, if_neg h3]
        by_cases h4 : isPunct c = true
        · rw [if_pos h4, if_pos h4]
        · rw [if_neg h4, if_neg h4]; intro _; rfl

/-! ### tokens and their words -/
/-- a token's bytes in a text -/
def wdL (k : Nat) (t : List UInt8) : List UInt8 := if k = 3 then 37 :: t else t
inductive OkT : Nat → List UInt8 → Prop where
  | name {t : List UInt8} (h1 : t ≠ []) (h2 : ∀ c ∈ t, isName c = true) (h3 : t.length ≤ 64) : OkT (if isRes t then 2 else 1) t
  | punct {c : UInt8} (h : isPunct c = true) : OkT 2 [c]
  | dir {t : List UInt8} (h1 : t ≠ []) (h2 : ∀ c ∈ t, isLetter c = true) (h3 : t.length ≤ 64) : OkT 3 t

theorem punct_facts {c : UInt8} (h : isPunct c = true) : isBlank c = false ∧ c ≠ 37 ∧ isName c = false := by
  have h3 : isName c = false := by simp [isName, h]
  refine ⟨?_, ?_, h3⟩
  · cases hb : isBlank c with
    | false => rfl
    | true => rcases blank_cases hb with h | h | h | h <;> subst h <;> revert h <;> decide
  · intro h2; subst h2; revert h; decide
theorem name_facts {c : UInt8} (h : isName c = true) : isBlank c = false ∧ c ≠ 37 := by
  refine ⟨?_, ?_⟩
  · cases hb : isBlank c with
    | false => rfl
    | true => rw [blank_name hb] at h; cases h
  · intro h2; subst h2; revert h; decide
theorem letter_br {c : UInt8} (h : isLetter c = true) : c ≠ 123 := by
  intro h2; subst h2; revert h; decide

theorem next_ok {c : UInt8} {l : List UInt8} {k : Nat} {t r : List UInt8} (h : nextL (c :: l) = .tok k t r) : OkT k t ∧ c :: l = wdL k t ++ r := by
  rw [nextL_cons] at h
  by_cases h1 : isBlank c = true
  · rw [if_pos h1] at h; cases h
  · rw [if_neg h1] at h
    by_cases h2 : c = 37
    · rw [if_pos h2] at h
      by_cases h3 : l.head? = some 123
      · rw [pctL_open l h3] at h
        cases hc : cmtL l.tail 1 <;> rw [hc] at h <;> cases h
      · rw [pctL_not l h3] at h
        by_cases h4 : l.takeWhile isLetter = []
        · rw [if_pos h4] at h; cases h
        · rw [if_neg h4] at h
          by_cases h5 : 64 < (l.takeWhile isLetter).length
          · rw [if_pos h5] at h; cases h
          · rw [if_neg h5] at h
            injection h with e1 e2 e3
            subst e1 e2 e3
            refine ⟨.dir h4 (tw_mem l) (by omega), ?_⟩
            rw [h2]
            show 37 :: l = 37 :: (l.takeWhile isLetter) ++ l.dropWhile isLetter
            rw [List.cons_append, List.takeWhile_append_dropWhile]
    · rw [if_neg h2] at h
      by_cases h3 : isName c = true
      · rw [if_pos h3] at h
        by_cases h4 : 64 < ((c :: l).takeWhile isName).length
        · rw [if_pos h4] at h; cases h
        · rw [if_neg h4] at h
          injection h with e1 e2 e3
          have hne : (c :: l).takeWhile isName ≠ [] := by rw [List.takeWhile_cons_of_pos h3]; simp
          have hok := OkT.name hne (tw_mem (c :: l)) (by omega)
          refine ⟨by rw [← e1, ← e2]; exact hok, ?_⟩
          have hk : k ≠ 3 := by rw [← e1]; split <;> omega
          unfold wdL
          rw [if_neg hk, ← e2, ← e3, List.takeWhile_append_dropWhile]
      · rw [if_neg h3] at h
        by_cases h4 : isPunct c = true
        · rw [if_pos h4] at h
          injection h with e1 e2 e3
          subst e1 e2 e3
          exact ⟨.punct h4, rfl⟩
        · rw [if_neg h4] at h; cases h

theorem next_word {k : Nat} {t : List UInt8} (h : OkT k t) (q : List UInt8) (hq : BlankL q) : nextL (wdL k t ++ q) = .tok k t q ∧ wdL k t ≠ [] := by
  cases h with
  | name h1 h2 h3 =>
    have hk : (if isRes t then 2 else 1) ≠ 3 := by split <;> omega
    unfold wdL
    rw [if_neg hk]
    refine ⟨?_, h1⟩
    obtain ⟨c, r, rfl⟩ : ∃ c r, t = c :: r := by
      cases t with
      | nil => exact absurd rfl h1
      | cons c r => exact ⟨c, r, rfl⟩
    have hc := h2 c (List.mem_cons_self ..)
    obtain ⟨e1, e2⟩ := tw_of_all (c :: r) q h2 hq.name
    obtain ⟨b1, b2⟩ := name_facts hc
    rw [List.cons_append] at e1 e2
    rw [List.cons_append, nextL_cons, if_neg (by rw [b1]; exact Bool.false_ne_true), if_neg b2, if_pos hc, e1, e2, if_neg (by omega)]
  | punct h =>
    obtain ⟨b1, b2, b3⟩ := punct_facts h
    refine ⟨?_, by simp [wdL]⟩
    show nextL (_ :: q) = _
    rw [nextL_cons, if_neg (by rw [b1]; exact Bool.false_ne_true), if_neg b2, if_neg (by rw [b3]; exact Bool.false_ne_true), if_pos h]
  | dir h1 h2 h3 =>
    refine ⟨?_, by simp [wdL]⟩
    show nextL (37 :: (t ++ q)) = _
    rw [nextL_cons, if_neg (by decide), if_pos rfl]
    obtain ⟨c, r, rfl⟩ : ∃ c r, t = c :: r := by
      cases t with
      | nil => exact absurd rfl h1
      | cons c r => exact ⟨c, r, rfl⟩
    have hc := h2 c (List.mem_cons_self ..)
    rw [pctL_not _ (by simp; exact letter_br hc)]
    obtain ⟨e1, e2⟩ := tw_of_all (c :: r) q h2 hq.letter
    rw [e1, e2, if_neg h1, if_neg (by omega)]

theorem wd_len {k : Nat} {t : List UInt8} (h : OkT k t) : 1 ≤ t.length ∧ t.length ≤ 64 ∧ k ≤ 3 ∧ 1 ≤ k := by
  cases h with
  | name h1 h2 h3 =>
    refine ⟨?_, h3, by split <;> omega, by split <;> omega⟩
    cases t with
    | nil => exact absurd rfl h1
    | cons => simp
  | punct h => simp
  | dir h1 h2 h3 =>
    refine ⟨?_, h3, by omega, by omega⟩
    cases t with
    | nil => exact absurd rfl h1
    | cons => simp
end Go.Proofs.YtajefkjcfmfjkaaDoor
