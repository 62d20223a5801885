/- The lexer of layer 18 as plain functions on lists of bytes: no program in sight. -/
namespace Go.Proofs.Ytilgpmpiidccjaa.Lx

abbrev Bytes := List UInt8

/-- The classes of characters. -/
def cls (c : Nat) : Nat :=
  if c = 32 ∨ c = 9 ∨ c = 10 then 1
  else if 48 ≤ c ∧ c ≤ 57 then 2
  else if (97 ≤ c ∧ c ≤ 122) ∨ (65 ≤ c ∧ c ≤ 90) then 3
  else if c ∈ [43, 45, 42, 47, 61, 60, 62, 44, 59, 58, 33, 124, 39, 63, 126, 64] then 4
  else if c ∈ [123, 125, 40, 41, 91, 93, 94, 95, 38] then 5
  else 0

def isB (k : Nat) (b : UInt8) : Bool := cls b.toNat == k
/-- How many bytes of a class a list begins with. -/
def runLen (k : Nat) (l : Bytes) : Nat := (l.takeWhile (isB k)).length
/-- Is the byte with an index of a class? -/
def isAt (k : Nat) (l : Bytes) (i : Nat) : Bool := match l[i]? with | some b => isB k b | none => false

/-- The class of the byte with an index, -1 behind the end. -/
def clsI (l : Bytes) (i : Nat) : Int := match l[i]? with | some b => (cls b.toNat : Int) | none => -1
theorem clsI_lt (l : Bytes) (i : Nat) (h : i < l.length) : clsI l i = (cls l[i].toNat : Int) := by simp [clsI, List.getElem?_eq_getElem h]
theorem clsI_ge (l : Bytes) (i : Nat) (h : l.length ≤ i) : clsI l i = -1 := by simp [clsI, List.getElem?_eq_none h]

/-- How many bytes of a class there are from an index on. -/
def runI (c : Int) (l : Bytes) (k : Nat) : Nat := ((l.drop k).takeWhile fun b => (cls b.toNat : Int) == c).length
theorem runI_yes (c : Int) (l : Bytes) (k : Nat) (hc : 0 ≤ c) (h : clsI l k = c) : k < l.length ∧ k + 1 + runI c l (k + 1) = k + runI c l k := by
  rcases Nat.lt_or_ge k l.length with hk | hk
  · refine ⟨hk, ?_⟩
    rw [clsI_lt l k hk] at h
    unfold runI
    rw [List.drop_eq_getElem_cons hk, List.takeWhile_cons]
    simp only [h, BEq.rfl, ↓reduceIte, List.length_cons]
    omega
  · rw [clsI_ge l k hk] at h; omega
theorem runI_no (c : Int) (l : Bytes) (k : Nat) (h : clsI l k ≠ c) : runI c l k = 0 := by
  unfold runI
  rcases Nat.lt_or_ge k l.length with hk | hk
  · rw [List.drop_eq_getElem_cons hk, List.takeWhile_cons]
    rw [clsI_lt l k hk] at h
    simp [h]
  · rw [List.drop_eq_nil_of_le hk]; rfl
theorem runI_le (c : Int) (l : Bytes) (k : Nat) : runI c l k ≤ l.length - k := by
  unfold runI
  have := (List.takeWhile_sublist (fun b : UInt8 => (cls b.toNat : Int) == c) (l := l.drop k)).length_le
  rwa [List.length_drop] at this

structure Tok where
  kind : Nat
  text : Bytes
  deriving DecidableEq

/-- What is read at a place: a token with its length, or an error with its place behind the beginning. -/
inductive Res where
  | ok (t : Tok) (n : Nat)
  | err (at_ e : Nat)
  deriving DecidableEq

def lim (most : Nat) (t : Tok) (n : Nat) : Res := if most < t.text.length then .err 0 6 else .ok t n

def numLen (r : Bytes) : Nat :=
  if r[runLen 2 r]? = some 46 ∧ isAt 2 r (runLen 2 r + 1) = true then runLen 2 r + 1 + runLen 2 (r.drop (runLen 2 r + 1)) else runLen 2 r

def number (r : Bytes) : Res := lim 20 ⟨2, r.take (numLen r)⟩ (numLen r)

/-- The rest of a quoted text: what has been read, and how many bytes. -/
def quo : Bytes → Bytes → Nat → Res
  | [], _, _ => .err 0 12
  | c :: q, acc, i =>
    if c = 34 then lim 200 ⟨3, acc⟩ (i + 1)
    else if c < 32 ∨ 126 < c then .err i 3
    else if c = 92 then
      match q with
      | [] => .err i 3
      | d :: q' => if d = 34 ∨ d = 92 then quo q' (acc ++ [d]) (i + 2) else .err i 3
    else quo q (acc ++ [c]) (i + 1)

def isDelim (b : UInt8) : Bool := [40, 41, 91, 93, 123, 125, 60, 62, 47, 124, 46].contains b
def delimAt (r : Bytes) (i : Nat) : Bool := match r[i]? with | some b => isDelim b | none => false

def name (r : Bytes) : Res :=
  let n := runLen 3 (r.drop 1)
  if (r.drop 1).take n ≠ [102, 101, 110, 99, 101] then lim 16 ⟨4, (r.drop 1).take n⟩ (1 + n)
  else if delimAt r (1 + n) = true ∧ delimAt r (2 + n) = true then .ok ⟨5, (r.drop (1 + n)).take 2⟩ (3 + n)
  else .err 0 3

def parAt (q : Bytes) : Bool := match q with | d :: _ => decide (49 ≤ d ∧ d ≤ 52) | [] => false

/-- The token that a text begins with. -/
def next (r : Bytes) : Res :=
  match r with
  | [] => .err 0 3
  | c :: q =>
    if isB 2 c then number r
    else if isB 5 c then .ok ⟨7, [c]⟩ 1
    else if c = 34 then quo q [] 1
    else if c = 92 ∧ q.head? = some 92 then .ok ⟨8, [92, 92]⟩ 2
    else if c = 92 ∧ isAt 3 q 0 = true then name r
    else if c = 35 ∧ parAt q = true then .ok ⟨6, q.take 1⟩ 2
    else if isB 3 c ∨ isB 4 c then .ok ⟨1, [c]⟩ 1
    else .err 0 3


theorem quo_end (l acc : Bytes) (j i : Nat) (h : l.length ≤ j) : quo (l.drop j) acc i = .err 0 12 := by rw [List.drop_eq_nil_of_le h]; rfl
theorem quo_cons (l acc : Bytes) (j i : Nat) (h : j < l.length) : quo (l.drop j) acc i =
    if l[j] = 34 then lim 200 ⟨3, acc⟩ (i + 1)
    else if l[j] < 32 ∨ 126 < l[j] then .err i 3
    else if l[j] = 92 then
      match l.drop (j + 1) with
      | [] => .err i 3
      | d :: q' => if d = 34 ∨ d = 92 then quo q' (acc ++ [d]) (i + 2) else .err i 3
    else quo (l.drop (j + 1)) (acc ++ [l[j]]) (i + 1) := by
  rw [List.drop_eq_getElem_cons h]
  rw [quo.eq_def]
theorem quo_esc (l acc : Bytes) (j i : Nat) (h : j < l.length) (hc : l[j] = 92) (h1 : j + 1 < l.length) : quo (l.drop j) acc i =
    if l[j + 1] = 34 ∨ l[j + 1] = 92 then quo (l.drop (j + 2)) (acc ++ [l[j + 1]]) (i + 2) else .err i 3 := by
  rw [quo_cons l acc j i h, hc, if_neg (by decide), if_neg (by decide), if_pos rfl, List.drop_eq_getElem_cons h1]
theorem quo_esc_end (l acc : Bytes) (j i : Nat) (h : j < l.length) (hc : l[j] = 92) (h1 : l.length ≤ j + 1) : quo (l.drop j) acc i = .err i 3 := by
  rw [quo_cons l acc j i h, hc, if_neg (by decide), if_neg (by decide), if_pos rfl, List.drop_eq_nil_of_le h1]
theorem quo_plain (l acc : Bytes) (j i : Nat) (h : j < l.length) (h1 : l[j] ≠ 34) (h2 : ¬ (l[j] < 32 ∨ 126 < l[j])) (h3 : l[j] ≠ 92) : quo (l.drop j) acc i = quo (l.drop (j + 1)) (acc ++ [l[j]]) (i + 1) := by
  rw [quo_cons l acc j i h, if_neg h1, if_neg h2, if_neg h3]


/-- A token with its place. -/
structure PTok where
  kind : Nat
  text : Bytes
  from_ : Nat
  to_ : Nat
  deriving DecidableEq

def skip (l : Bytes) (a : Nat) : Nat := a + runI 1 l a

/-- The tokens from an offset on, and the error that ends them, if there is one. -/
def lexGo (l : Bytes) : Nat → Nat → List PTok × Option (Nat × Nat)
  | 0, _ => ([], none)
  | fuel + 1, a =>
    if l.length ≤ skip l a then ([], none)
    else match next (l.drop (skip l a)) with
      | .err i e => ([], some (skip l a + i, e))
      | .ok t n => (⟨t.kind, t.text, skip l a, skip l a + n⟩ :: (lexGo l fuel (skip l a + n)).1, (lexGo l fuel (skip l a + n)).2)

theorem lim_ok {most : Nat} {t t' : Tok} {n n' : Nat} (h : lim most t n = .ok t' n') : t' = t ∧ n' = n := by
  unfold lim at h
  split at h
  · cases h
  · injection h with h1 h2; exact ⟨h1.symm, h2.symm⟩

theorem quo_pos : ∀ (q acc : Bytes) (i : Nat) (t : Tok) (n : Nat), quo q acc i = .ok t n → i < n ∧ n ≤ i + q.length
  | [], _, _, _, _, h => by rw [quo.eq_def] at h; cases h
  | [c], acc, i, t, n, h => by
    rw [quo.eq_def] at h
    simp only at h
    split at h
    · have := (lim_ok h).2; simp; omega
    · split at h
      · cases h
      · split at h
        · cases h
        · rw [quo.eq_def] at h; cases h
  | c :: d :: q, acc, i, t, n, h => by
    rw [quo.eq_def] at h
    simp only at h
    split at h
    · have := (lim_ok h).2; simp; omega
    · split at h
      · cases h
      · split at h
        · split at h
          · have := quo_pos q _ _ _ _ h; simp; omega
          · cases h
        · have := quo_pos (d :: q) _ _ _ _ h; simp at this ⊢; omega

theorem runLen_le (k : Nat) (l : Bytes) : runLen k l ≤ l.length := (List.takeWhile_sublist _).length_le

theorem numLen_le (r : Bytes) : numLen r ≤ r.length := by
  unfold numLen
  split
  · rename_i h
    have h1 := runLen_le 2 (r.drop (runLen 2 r + 1))
    rw [List.length_drop] at h1
    have h2 := h.1
    have h3 : runLen 2 r < r.length := (List.getElem?_eq_some_iff.1 h2).1
    omega
  · exact runLen_le 2 r

theorem next_pos (r : Bytes) (t : Tok) (n : Nat) (h : next r = .ok t n) : 0 < n ∧ n ≤ r.length := by
  unfold next at h
  split at h
  · cases h
  · rename_i c q
    split at h
    · rename_i hc
      obtain ⟨_, rfl⟩ := lim_ok h
      refine ⟨?_, numLen_le _⟩
      have : 0 < runLen 2 (c :: q) := by unfold runLen; rw [List.takeWhile_cons, if_pos hc]; simp
      unfold numLen
      split <;> omega
    · split at h
      · cases h; simp
      · split at h
        · have := quo_pos _ _ _ _ _ h; simp; omega
        · split at h
          · rename_i hc
            cases h
            cases q with
            | nil => cases hc.2
            | cons => simp
          · split at h
            · unfold name at h
              simp only at h
              have hr := runLen_le 3 ((c :: q).drop 1)
              simp only [List.drop_succ_cons, List.drop_zero] at hr
              split at h
              · obtain ⟨_, rfl⟩ := lim_ok h
                simp only [List.drop_succ_cons, List.drop_zero, List.length_cons]; omega
              · split at h
                · rename_i hd
                  injection h with _ h2
                  subst h2
                  have hx := hd.2
                  unfold delimAt at hx
                  split at hx
                  · rename_i b hb
                    have := (List.getElem?_eq_some_iff.1 hb).1
                    simp only [List.drop_succ_cons, List.drop_zero, List.length_cons] at *
                    omega
                  · cases hx
                · cases h
            · split at h
              · rename_i hc
                cases h
                cases q with
                | nil => cases hc.2
                | cons => simp
              · split at h
                · cases h; simp
                · cases h

theorem skip_le (l : Bytes) (a : Nat) (h : a ≤ l.length) : a ≤ skip l a ∧ skip l a ≤ l.length := by
  have := runI_le 1 l a
  unfold skip; omega

/-- Any fuel that is great enough does. -/
theorem lexGo_fuel (l : Bytes) : ∀ (f g a : Nat), l.length < a + f → l.length < a + g → lexGo l f a = lexGo l g a
  | 0, g, a, hf, hg => by
    cases g with
    | zero => rfl
    | succ g => rw [lexGo, lexGo, if_pos (by unfold skip; omega)]
  | f + 1, 0, a, hf, hg => by rw [lexGo, lexGo, if_pos (by unfold skip; omega)]
  | f + 1, g + 1, a, hf, hg => by
    rw [lexGo, lexGo]
    split
    · rfl
    · rename_i hl
      cases hn : next (l.drop (skip l a)) with
      | err i e => rfl
      | ok t n =>
        have hp := (next_pos _ _ _ hn).1
        have : skip l a + n = skip l a + n := rfl
        simp only
        rw [lexGo_fuel l f g (skip l a + n) (by unfold skip; omega) (by unfold skip; omega)]

/-- All tokens of a text, and the error that ends them. -/
def lexAll (l : Bytes) : List PTok × Option (Nat × Nat) := lexGo l (l.length + 1) 0
/-- The tokens from an offset on. -/
def lexFrom (l : Bytes) (a : Nat) : List PTok × Option (Nat × Nat) := lexGo l (l.length + 1) a
theorem lexFrom_end (l : Bytes) (a : Nat) (h : l.length ≤ skip l a) : lexFrom l a = ([], none) := by unfold lexFrom; rw [lexGo, if_pos h]
theorem lexFrom_err (l : Bytes) (a i e : Nat) (h : skip l a < l.length) (hn : next (l.drop (skip l a)) = .err i e) : lexFrom l a = ([], some (skip l a + i, e)) := by
  unfold lexFrom; rw [lexGo, if_neg (by omega), hn]
theorem lexFrom_ok (l : Bytes) (a n : Nat) (t : Tok) (h : skip l a < l.length) (hn : next (l.drop (skip l a)) = .ok t n) :
    lexFrom l a = (⟨t.kind, t.text, skip l a, skip l a + n⟩ :: (lexFrom l (skip l a + n)).1, (lexFrom l (skip l a + n)).2) := by
  have hp := (next_pos _ _ _ hn).1
  unfold lexFrom
  conv => lhs; rw [lexGo, if_neg (by omega), hn]
  simp only
  rw [lexGo_fuel l l.length (l.length + 1) (skip l a + n) (by unfold skip; omega) (by omega)]


theorem lim_err {most : Nat} {t : Tok} {n i e : Nat} (h : lim most t n = .err i e) : e ≠ 0 := by
  unfold lim at h
  split at h
  · cases h; decide
  · cases h

theorem quo_err : ∀ (q acc : Bytes) (i a e : Nat), quo q acc i = .err a e → e ≠ 0
  | [], _, _, _, _, h => by rw [quo.eq_def] at h; cases h; decide
  | [c], acc, i, a, e, h => by
    rw [quo.eq_def] at h
    simp only at h
    split at h
    · exact lim_err h
    · split at h
      · cases h; decide
      · split at h
        · cases h; decide
        · rw [quo.eq_def] at h; cases h; decide
  | c :: d :: q, acc, i, a, e, h => by
    rw [quo.eq_def] at h
    simp only at h
    split at h
    · exact lim_err h
    · split at h
      · cases h; decide
      · split at h
        · split at h
          · exact quo_err q _ _ _ _ h
          · cases h; decide
        · exact quo_err (d :: q) _ _ _ _ h

theorem next_err (r : Bytes) (i e : Nat) (h : next r = .err i e) : e ≠ 0 := by
  unfold next at h
  split at h
  · cases h; decide
  · split at h
    · exact lim_err h
    · split at h
      · cases h
      · split at h
        · exact quo_err _ _ _ _ _ h
        · split at h
          · cases h
          · split at h
            · unfold name at h
              simp only at h
              split at h
              · exact lim_err h
              · split at h
                · cases h
                · cases h; decide
            · split at h
              · cases h
              · split at h
                · cases h
                · cases h; decide

theorem lexGo_err (l : Bytes) : ∀ (f a p e : Nat), (lexGo l f a).2 = some (p, e) → e ≠ 0
  | 0, _, _, _, h => by cases h
  | f + 1, a, p, e, h => by
    rw [lexGo] at h
    split at h
    · cases h
    · cases hn : next (l.drop (skip l a)) with
      | err i er =>
        rw [hn] at h
        simp only [Option.some.injEq, Prod.mk.injEq] at h
        obtain ⟨_, rfl⟩ := h
        exact next_err _ _ _ hn
      | ok t n =>
        rw [hn] at h
        exact lexGo_err l f _ p e h

end Go.Proofs.Ytilgpmpiidccjaa.Lx
