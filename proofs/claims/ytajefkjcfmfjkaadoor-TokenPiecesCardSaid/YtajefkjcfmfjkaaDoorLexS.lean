/- The tokens of a text as a plain function on lists of bytes: definitions and what holds of them. No program in sight. -/
import Derived.Lib.IndexBytes
import Derived.Lib.Strings
namespace Go.Proofs.YtajefkjcfmfjkaaDoor

/-- how far a class runs -/
def runEnd (p : UInt8 → Bool) (s : ByteArray) (i : Nat) : Nat :=
  if h : i < s.size then if p s[i] then runEnd p s (i + 1) else i else i
termination_by s.size - i

theorem runEnd_stop {p : UInt8 → Bool} {s : ByteArray} {i : Nat} (h : ¬ i < s.size) : runEnd p s i = i := by unfold runEnd; rw [dif_neg h]
theorem runEnd_no {p : UInt8 → Bool} {s : ByteArray} {i : Nat} (h : i < s.size) (hp : p s[i] = false) : runEnd p s i = i := by
  unfold runEnd; rw [dif_pos h, hp]; rfl
theorem runEnd_yes {p : UInt8 → Bool} {s : ByteArray} {i : Nat} (h : i < s.size) (hp : p s[i] = true) : runEnd p s i = runEnd p s (i + 1) := by
  rw [runEnd, dif_pos h, hp]; rfl

/-- the bytes of a text from a place on -/
def sfx (s : ByteArray) (i : Nat) : List UInt8 := s.data.toList.drop i
theorem len_data (s : ByteArray) : s.data.toList.length = s.size := by rw [Array.length_toList]; rfl
theorem sfx_len (s : ByteArray) (i : Nat) : (sfx s i).length = s.size - i := by rw [sfx, List.length_drop, len_data]
theorem sfx_cons (s : ByteArray) (i : Nat) (h : i < s.size) : sfx s i = s[i] :: sfx s (i + 1) := by
  unfold sfx
  have h' : i < s.data.toList.length := by rw [len_data]; exact h
  rw [List.drop_eq_getElem_cons h']
  rfl
theorem sfx_nil (s : ByteArray) (i : Nat) (h : s.size ≤ i) : sfx s i = [] := by
  unfold sfx
  exact List.drop_eq_nil_of_le (by rw [len_data]; exact h)
theorem sfx_drop (s : ByteArray) (i j : Nat) : (sfx s i).drop j = sfx s (i + j) := by unfold sfx; rw [List.drop_drop]
theorem extract_list (s : ByteArray) (i j : Nat) : (s.extract i j).data.toList = (sfx s i).take (j - i) := Lib.extract_data s i j
theorem extract_mk (s : ByteArray) (i j : Nat) : s.extract i j = ⟨((sfx s i).take (j - i)).toArray⟩ := Lib.extract_eq s i j

theorem runEnd_sfx (p : UInt8 → Bool) (s : ByteArray) (i : Nat) (h : i ≤ s.size) :
    i ≤ runEnd p s i ∧ runEnd p s i ≤ s.size ∧ sfx s (runEnd p s i) = (sfx s i).dropWhile p ∧ (sfx s i).take (runEnd p s i - i) = (sfx s i).takeWhile p := by
  induction hd : s.size - i generalizing i with
  | zero =>
    rw [runEnd_stop (by omega), sfx_nil s i (by omega)]
    simp; omega
  | succ d ih =>
    have hl : i < s.size := by omega
    cases hp : p s[i] with
    | true =>
      obtain ⟨h1, h2, h3, h4⟩ := ih (i + 1) (by omega) (by omega)
      rw [runEnd_yes hl hp]
      refine ⟨by omega, h2, ?_, ?_⟩
      · rw [h3, sfx_cons s i hl, List.dropWhile_cons_of_pos hp]
      · rw [sfx_cons s i hl, List.takeWhile_cons_of_pos hp, ← h4]
        rw [show runEnd p s (i + 1) - i = (runEnd p s (i + 1) - (i + 1)) + 1 by omega]
        rfl
    | false =>
      rw [runEnd_no hl hp]
      refine ⟨by omega, by omega, ?_, ?_⟩
      · rw [sfx_cons s i hl, List.dropWhile_cons_of_neg (by simp [hp])]
      · rw [sfx_cons s i hl, List.takeWhile_cons_of_neg (by simp [hp])]
        simp

/-! ### classes -/
def isBlank (c : UInt8) : Bool := c == 32 || c == 9 || c == 10 || c == 13
def isPunct (c : UInt8) : Bool := c == 40 || c == 41 || c == 91 || c == 93 || c == 123 || c == 125 || c == 58 || c == 46
def isName (c : UInt8) : Bool := decide (33 ≤ c.toNat) && decide (c.toNat ≤ 126) && !isPunct c && c != 37
def isLetter (c : UInt8) : Bool := decide (97 ≤ c.toNat) && decide (c.toNat ≤ 122)
def notNl (c : UInt8) : Bool := c != 10
def isRes (l : List UInt8) : Bool := l == [45, 62] || l == [60, 45] || l == [61] || l == [95] || l == [116, 121, 112, 101]

theorem all_u8 {P : UInt8 → Prop} (h : ∀ n, n < 256 → P (UInt8.ofNat n)) : ∀ c, P c := by
  intro c
  have := h c.toNat c.toNat_lt
  simpa using this

/-! ### the tokens of a list of bytes -/
/-- behind a comment that is open d times (d at least 1): what follows its end -/
def cmtL : List UInt8 → Nat → Option (List UInt8)
  | [], _ => none
  | [_], _ => none
  | a :: b :: r, d =>
    if a = 37 ∧ b = 123 then cmtL r (d + 1)
    else if a = 125 ∧ b = 37 then (if d = 1 then some r else cmtL r (d - 1))
    else cmtL (b :: r) d

inductive Stp where
  | skip (r : List UInt8)
  | tok (k : Nat) (t : List UInt8) (r : List UInt8)
  | err (e : Nat)

/-- behind a percent sign -/
def pctL (r : List UInt8) : Stp :=
  if r.head? = some 123 then
    match cmtL r.tail 1 with
    | some q => .skip q
    | none => .err 11
  else if r.takeWhile isLetter = [] then .skip (r.dropWhile notNl)
  else if 64 < (r.takeWhile isLetter).length then .err 12
  else .tok 3 (r.takeWhile isLetter) (r.dropWhile isLetter)

def nextL : List UInt8 → Stp
  | [] => .err 0
  | c :: r =>
    if isBlank c then .skip r
    else if c = 37 then pctL r
    else if isName c then
      if 64 < ((c :: r).takeWhile isName).length then .err 12
      else .tok (if isRes ((c :: r).takeWhile isName) then 2 else 1) ((c :: r).takeWhile isName) ((c :: r).dropWhile isName)
    else if isPunct c then .tok 2 [c] r
    else .err 10

theorem nextL_cons (c : UInt8) (r : List UInt8) : nextL (c :: r) =
    if isBlank c then .skip r
    else if c = 37 then pctL r
    else if isName c then
      if 64 < ((c :: r).takeWhile isName).length then .err 12
      else .tok (if isRes ((c :: r).takeWhile isName) then 2 else 1) ((c :: r).takeWhile isName) ((c :: r).dropWhile isName)
    else if isPunct c then .tok 2 [c] r
    else .err 10 := rfl

theorem cmtL_len : ∀ (l : List UInt8) (d : Nat) (q : List UInt8), cmtL l d = some q → q.length + 2 ≤ l.length
  | [], d, q, h => by simp [cmtL] at h
  | [_], d, q, h => by simp [cmtL] at h
  | a :: b :: r, d, q, h => by
    unfold cmtL at h
    by_cases h1 : a = 37 ∧ b = 123
    · rw [if_pos h1] at h
      have := cmtL_len r _ q h
      simp; omega
    · rw [if_neg h1] at h
      by_cases h2 : a = 125 ∧ b = 37
      · rw [if_pos h2] at h
        by_cases h3 : d = 1
        · rw [if_pos h3] at h
          injection h with h
          subst h
          simp
        · rw [if_neg h3] at h
          have := cmtL_len r _ q h
          simp; omega
      · rw [if_neg h2] at h
        have := cmtL_len (b :: r) _ q h
        simp at this ⊢; omega

def Stp.less (l : List UInt8) : Stp → Prop
  | .skip r => r.length < l.length
  | .tok _ t r => r.length < l.length ∧ 1 ≤ t.length ∧ t.length ≤ 64
  | .err _ => True

theorem take_drop_len (p : UInt8 → Bool) (l : List UInt8) : (l.takeWhile p).length + (l.dropWhile p).length = l.length := by
  rw [← List.length_append, List.takeWhile_append_dropWhile]

theorem pctL_less (r : List UInt8) : (pctL r).less (37 :: r) := by
  unfold pctL
  split
  · split
    · rename_i q hq
      have := cmtL_len _ _ _ hq
      simp at this
      simp [Stp.less]; omega
    · trivial
  · split
    · have := take_drop_len notNl r
      simp [Stp.less]; omega
    · split
      · trivial
      · rename_i h1 h2 h3
        have := take_drop_len isLetter r
        have h4 : 1 ≤ (r.takeWhile isLetter).length := by
          rcases Nat.eq_zero_or_pos (r.takeWhile isLetter).length with h0 | h0
          · exact absurd (List.eq_nil_of_length_eq_zero h0) h2
          · exact h0
        refine ⟨?_, h4, by omega⟩
        simp; omega

theorem nextL_less (c : UInt8) (r : List UInt8) : (nextL (c :: r)).less (c :: r) := by
  rw [nextL_cons]
  split
  · simp [Stp.less]
  · split
    · rename_i h1 h2
      subst h2
      exact pctL_less r
    · split
      · split
        · trivial
        · rename_i h1 h2 h3 h4
          have := take_drop_len isName (c :: r)
          have h5 : 1 ≤ ((c :: r).takeWhile isName).length := by
            rw [List.takeWhile_cons_of_pos h3]; simp
          exact ⟨by omega, h5, by omega⟩
      · split
        · simp [Stp.less]
        · trivial

/-- a token: its kind, its bytes, its place -/
structure Tk where
  k : Nat
  t : List UInt8
  o : Nat

/-- the tokens of a list of bytes whose first byte lies at a place, so many tokens having been read; the error and its place -/
def lexL (o : Nat) (l : List UInt8) (cnt : Nat) : List Tk × Nat × Nat :=
  if l.length = 0 then ([], 0, o)
  else match nextL l with
    | .err e => ([], e, o)
    | .skip r => if _h : r.length < l.length then lexL (o + (l.length - r.length)) r cnt else ([], 0, 0)
    | .tok k t r =>
      if cnt = 20000 then ([], 7, o)
      else if _h : r.length < l.length then
        let q := lexL (o + (l.length - r.length)) r (cnt + 1)
        if q.2.1 = 0 then (⟨k, t, o⟩ :: q.1, q.2) else ([], q.2)
      else ([], 0, 0)
termination_by l.length

theorem lexL_nil (o cnt : Nat) : lexL o [] cnt = ([], 0, o) := by unfold lexL; rfl
theorem lexL_err {o cnt e : Nat} {c : UInt8} {l : List UInt8} (h : nextL (c :: l) = .err e) : lexL o (c :: l) cnt = ([], e, o) := by
  unfold lexL
  rw [if_neg (by simp), h]
theorem lexL_skip {o cnt : Nat} {c : UInt8} {l r : List UInt8} (h : nextL (c :: l) = .skip r) : lexL o (c :: l) cnt = lexL (o + ((c :: l).length - r.length)) r cnt := by
  have hl := nextL_less c l
  rw [h] at hl
  rw [lexL, if_neg (by simp), h]
  simp only
  rw [dif_pos (show r.length < (c :: l).length from hl)]
theorem lexL_tok {o cnt k : Nat} {c : UInt8} {l t r : List UInt8} (h : nextL (c :: l) = .tok k t r) (hc : cnt ≠ 20000) :
    lexL o (c :: l) cnt = (if (lexL (o + ((c :: l).length - r.length)) r (cnt + 1)).2.1 = 0 then (⟨k, t, o⟩ :: (lexL (o + ((c :: l).length - r.length)) r (cnt + 1)).1, (lexL (o + ((c :: l).length - r.length)) r (cnt + 1)).2) else ([], (lexL (o + ((c :: l).length - r.length)) r (cnt + 1)).2)) := by
  have hl := nextL_less c l
  rw [h] at hl
  rw [lexL, if_neg (by simp), h]
  simp only
  rw [if_neg hc, dif_pos hl.1]
theorem lexL_many {o k : Nat} {c : UInt8} {l t r : List UInt8} (h : nextL (c :: l) = .tok k t r) : lexL o (c :: l) 20000 = ([], 7, o) := by
  rw [lexL, if_neg (by simp), h]
  simp only
  rw [if_pos trivial]

/-- tokens that have been read, ahead of what follows -/
def ahead (xs : List Tk) (q : List Tk × Nat × Nat) : List Tk × Nat × Nat := if q.2.1 = 0 then (xs ++ q.1, q.2) else ([], q.2)
theorem ahead_nil (q : List Tk × Nat × Nat) (h : q.2.1 ≠ 0 → q.1 = []) : ahead [] q = q := by
  unfold ahead
  split
  · rfl
  · rename_i h1
    rw [← h h1]
theorem ahead_tok {o k : Nat} {c : UInt8} {l t r : List UInt8} (xs : List Tk) (h : nextL (c :: l) = .tok k t r) (hc : xs.length ≠ 20000) :
    ahead xs (lexL o (c :: l) xs.length) = ahead (xs ++ [⟨k, t, o⟩]) (lexL (o + ((c :: l).length - r.length)) r (xs ++ [(⟨k, t, o⟩ : Tk)]).length) := by
  rw [lexL_tok h hc, List.length_append, List.length_singleton]
  unfold ahead
  by_cases h0 : (lexL (o + ((c :: l).length - r.length)) r (xs.length + 1)).2.1 = 0
  · rw [if_pos h0, if_pos h0, if_pos h0]
    simp
  · rw [if_neg h0, if_neg h0, if_neg h0]
theorem ahead_many {o k : Nat} {c : UInt8} {l t r : List UInt8} (xs : List Tk) (h : nextL (c :: l) = .tok k t r) (hc : xs.length = 20000) :
    ahead xs (lexL o (c :: l) xs.length) = ([], 7, o) := by
  rw [hc, lexL_many h]
  rfl
theorem ahead_skip {o : Nat} {c : UInt8} {l r : List UInt8} (xs : List Tk) (h : nextL (c :: l) = .skip r) :
    ahead xs (lexL o (c :: l) xs.length) = ahead xs (lexL (o + ((c :: l).length - r.length)) r xs.length) := by
  rw [lexL_skip h]
theorem pctL_err_pos {r : List UInt8} {e : Nat} (h : pctL r = .err e) : e ≠ 0 := by
  unfold pctL at h
  split at h
  · split at h
    · cases h
    · injection h with h; omega
  · split at h
    · cases h
    · split at h
      · injection h with h; omega
      · cases h
theorem nextL_err_pos {c : UInt8} {l : List UInt8} {e : Nat} (h : nextL (c :: l) = .err e) : e ≠ 0 := by
  rw [nextL_cons] at h
  split at h
  · cases h
  · split at h
    · exact pctL_err_pos h
    · split at h
      · split at h
        · injection h with h; omega
        · cases h
      · split at h
        · cases h
        · injection h with h; omega
theorem ahead_err {o e : Nat} {c : UInt8} {l : List UInt8} (xs : List Tk) (h : nextL (c :: l) = .err e) :
    ahead xs (lexL o (c :: l) xs.length) = ([], e, o) := by
  rw [lexL_err h]
  unfold ahead
  rw [if_neg (nextL_err_pos h)]
theorem ahead_end (xs : List Tk) (o : Nat) : ahead xs (lexL o [] xs.length) = (xs, 0, o) := by
  rw [lexL_nil]
  unfold ahead
  simp

/-- the tokens of a whole text -/
def lexS (s : ByteArray) : List Tk × Nat × Nat := if 65536 < s.size then ([], 12, 0) else ahead [] (lexL 0 (sfx s 0) 0)
end Go.Proofs.YtajefkjcfmfjkaaDoor
