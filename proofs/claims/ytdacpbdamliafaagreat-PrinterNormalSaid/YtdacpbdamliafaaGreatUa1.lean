/- Part 1 of 12 of a proof; its texts, joined: LxM, TrM, SpM, PlM, WrM, WrN, WrO, PrM, NpM, PrD, PrE, PrF, PrG, NpT, NpU. No condition. -/


/- The lexer of layer 18 as plain functions on lists of bytes: no program in sight. -/
namespace Go.Proofs.YtdacpbdamliafaaGreat.Lx
abbrev Bytes := List UInt8
def cls (c : Nat) : Nat :=
 if c = 32 ∨ c = 9 ∨ c = 10 then 1
 else if 48 ≤ c ∧ c ≤ 57 then 2
 else if (97 ≤ c ∧ c ≤ 122) ∨ (65 ≤ c ∧ c ≤ 90) then 3
 else if c ∈ [43, 45, 42, 47, 61, 60, 62, 44, 59, 58, 33, 124, 39, 63, 126, 64] then 4
 else if c ∈ [123, 125, 40, 41, 91, 93, 94, 95, 38] then 5
 else 0
def isB (k : Nat) (b : UInt8) : Bool := cls b.toNat == k
def runLen (k : Nat) (l : Bytes) : Nat := (l.takeWhile (isB k)).length
def isAt (k : Nat) (l : Bytes) (i : Nat) : Bool := match l[i]? with | some b => isB k b | none => false
def clsI (l : Bytes) (i : Nat) : Int := match l[i]? with | some b => (cls b.toNat : Int) | none => -1
theorem clsI_lt (l : Bytes) (i : Nat) (h : i < l.length) : clsI l i = (cls l[i].toNat : Int) := by simp [clsI, List.getElem?_eq_getElem h]
theorem clsI_ge (l : Bytes) (i : Nat) (h : l.length ≤ i) : clsI l i = -1 := by simp [clsI, List.getElem?_eq_none h]
def runI (c : Int) (l : Bytes) (k : Nat) : Nat := ((l.drop k).takeWhile fun b => (cls b.toNat : Int) == c).length
theorem runI_yes (c : Int) (l : Bytes) (k : Nat) (hc : 0 ≤ c) (h : clsI l k = c) : k < l.length ∧ k + 1 + runI c l (k + 1) = k + runI c l k := by
 rcases Nat.lt_or_ge k l.length with hk | hk
 ·refine ⟨hk, ?_⟩
  rw [clsI_lt l k hk] at h
  unfold runI
  rw [List.drop_eq_getElem_cons hk, List.takeWhile_cons]
  simp only [h, BEq.rfl, ↓reduceIte, List.length_cons]
  omega
 ·rw [clsI_ge l k hk] at h; omega
theorem runI_no (c : Int) (l : Bytes) (k : Nat) (h : clsI l k ≠ c) : runI c l k = 0 := by
 unfold runI
 rcases Nat.lt_or_ge k l.length with hk | hk
 ·rw [List.drop_eq_getElem_cons hk, List.takeWhile_cons]
  rw [clsI_lt l k hk] at h
  simp [h]
 ·rw [List.drop_eq_nil_of_le hk]; rfl
theorem runI_le (c : Int) (l : Bytes) (k : Nat) : runI c l k ≤ l.length - k := by
 unfold runI
 have := (List.takeWhile_sublist (fun b : UInt8 => (cls b.toNat : Int) == c) (l := l.drop k)).length_le
 rwa [List.length_drop] at this
structure Tok where
 kind : Nat
 text : Bytes
 deriving DecidableEq
inductive Res where
 | ok (t : Tok) (n : Nat)
 | err (at_ e : Nat)
 deriving DecidableEq
def lim (most : Nat) (t : Tok) (n : Nat) : Res := if most < t.text.length then .err 0 6 else .ok t n
def numLen (r : Bytes) : Nat :=
 if r[runLen 2 r]? = some 46 ∧ isAt 2 r (runLen 2 r + 1) = true then runLen 2 r + 1 + runLen 2 (r.drop (runLen 2 r + 1)) else runLen 2 r
def number (r : Bytes) : Res := lim 20 ⟨2, r.take (numLen r)⟩ (numLen r)
def quo : Bytes → Bytes → Nat → Res
 | [], _, _ => .err 0 12
 | c :: q, acc, i =>
  if c = 34 then lim 200 ⟨3, acc⟩ (i + 1)
  else if c < 32 ∨ 126 < c then .err i 3
  else if c = 92 then
   match q with
   | [] => .err i 3
   | d :: q' => if d = 34 ∨ d = 92 then quo q' (acc ++ [d]) (i + 2) else .err i 3
  else quo q (acc ++ [c]) (i + 1)
def isDelim (b : UInt8) : Bool := [40, 41, 91, 93, 123, 125, 60, 62, 47, 124, 46].contains b
def delimAt (r : Bytes) (i : Nat) : Bool := match r[i]? with | some b => isDelim b | none => false
def name (r : Bytes) : Res :=
 let n := runLen 3 (r.drop 1)
 if (r.drop 1).take n ≠ [102, 101, 110, 99, 101] then lim 16 ⟨4, (r.drop 1).take n⟩ (1 + n)
 else if delimAt r (1 + n) = true ∧ delimAt r (2 + n) = true then .ok ⟨5, (r.drop (1 + n)).take 2⟩ (3 + n)
 else .err 0 3
def parAt (q : Bytes) : Bool := match q with | d :: _ => decide (49 ≤ d ∧ d ≤ 52) | [] => false
def next (r : Bytes) : Res :=
 match r with
 | [] => .err 0 3
 | c :: q =>
  if isB 2 c then number r
  else if isB 5 c then .ok ⟨7, [c]⟩ 1
  else if c = 34 then quo q [] 1
  else if c = 92 ∧ q.head? = some 92 then .ok ⟨8, [92, 92]⟩ 2
  else if c = 92 ∧ isAt 3 q 0 = true then name r
  else if c = 35 ∧ parAt q = true then .ok ⟨6, q.take 1⟩ 2
  else if isB 3 c ∨ isB 4 c then .ok ⟨1, [c]⟩ 1
  else .err 0 3
theorem quo_end (l acc : Bytes) (j i : Nat) (h : l.length ≤ j) : quo (l.drop j) acc i = .err 0 12 := by rw [List.drop_eq_nil_of_le h]; rfl
theorem quo_cons (l acc : Bytes) (j i : Nat) (h : j < l.length) : quo (l.drop j) acc i =
  if l[j] = 34 then lim 200 ⟨3, acc⟩ (i + 1)
  else if l[j] < 32 ∨ 126 < l[j] then .err i 3
  else if l[j] = 92 then
   match l.drop (j + 1) with
   | [] => .err i 3
   | d :: q' => if d = 34 ∨ d = 92 then quo q' (acc ++ [d]) (i + 2) else .err i 3
  else quo (l.drop (j + 1)) (acc ++ [l[j]]) (i + 1) := by
 rw [List.drop_eq_getElem_cons h]
 rw [quo.eq_def]
theorem quo_esc (l acc : Bytes) (j i : Nat) (h : j < l.length) (hc : l[j] = 92) (h1 : j + 1 < l.length) : quo (l.drop j) acc i =
  if l[j + 1] = 34 ∨ l[j + 1] = 92 then quo (l.drop (j + 2)) (acc ++ [l[j + 1]]) (i + 2) else .err i 3 := by
 rw [quo_cons l acc j i h, hc, if_neg (by decide), if_neg (by decide), if_pos rfl, List.drop_eq_getElem_cons h1]
theorem quo_esc_end (l acc : Bytes) (j i : Nat) (h : j < l.length) (hc : l[j] = 92) (h1 : l.length ≤ j + 1) : quo (l.drop j) acc i = .err i 3 := by
 rw [quo_cons l acc j i h, hc, if_neg (by decide), if_neg (by decide), if_pos rfl, List.drop_eq_nil_of_le h1]
theorem quo_plain (l acc : Bytes) (j i : Nat) (h : j < l.length) (h1 : l[j] ≠ 34) (h2 : ¬ (l[j] < 32 ∨ 126 < l[j])) (h3 : l[j] ≠ 92) : quo (l.drop j) acc i = quo (l.drop (j + 1)) (acc ++ [l[j]]) (i + 1) := by
 rw [quo_cons l acc j i h, if_neg h1, if_neg h2, if_neg h3]
structure PTok where
 kind : Nat
 text : Bytes
 from_ : Nat
 to_ : Nat
 deriving DecidableEq
def skip (l : Bytes) (a : Nat) : Nat := a + runI 1 l a
def lexGo (l : Bytes) : Nat → Nat → List PTok × Option (Nat × Nat)
 | 0, _ => ([], none)
 | fuel + 1, a =>
  if l.length ≤ skip l a then ([], none)
  else match next (l.drop (skip l a)) with
   | .err i e => ([], some (skip l a + i, e))
   | .ok t n => (⟨t.kind, t.text, skip l a, skip l a + n⟩ :: (lexGo l fuel (skip l a + n)).1, (lexGo l fuel (skip l a + n)).2)
theorem lim_ok {most : Nat} {t t' : Tok} {n n' : Nat} (h : lim most t n = .ok t' n') : t' = t ∧ n' = n := by
 unfold lim at h
 split at h
 ·cases h
 ·injection h with h1 h2; exact ⟨h1.symm, h2.symm⟩
theorem quo_pos : ∀ (q acc : Bytes) (i : Nat) (t : Tok) (n : Nat), quo q acc i = .ok t n → i < n ∧ n ≤ i + q.length
 | [], _, _, _, _, h => by rw [quo.eq_def] at h; cases h
 | [c], acc, i, t, n, h => by
  rw [quo.eq_def] at h
  simp only at h
  split at h
  ·have := (lim_ok h).2; simp; omega
  ·split at h
   ·cases h
   ·split at h
    ·cases h
    ·rw [quo.eq_def] at h; cases h
 | c :: d :: q, acc, i, t, n, h => by
  rw [quo.eq_def] at h
  simp only at h
  split at h
  ·have := (lim_ok h).2; simp; omega
  ·split at h
   ·cases h
   ·split at h
    ·split at h
     ·have := quo_pos q _ _ _ _ h; simp; omega
     ·cases h
    ·have := quo_pos (d :: q) _ _ _ _ h; simp at this ⊢; omega
theorem runLen_le (k : Nat) (l : Bytes) : runLen k l ≤ l.length := (List.takeWhile_sublist _).length_le
theorem numLen_le (r : Bytes) : numLen r ≤ r.length := by
 unfold numLen
 split
 ·rename_i h
  have h1 := runLen_le 2 (r.drop (runLen 2 r + 1))
  rw [List.length_drop] at h1
  have h2 := h.1
  have h3 : runLen 2 r < r.length := (List.getElem?_eq_some_iff.1 h2).1
  omega
 ·exact runLen_le 2 r
theorem next_pos (r : Bytes) (t : Tok) (n : Nat) (h : next r = .ok t n) : 0 < n ∧ n ≤ r.length := by
 unfold next at h
 split at h
 ·cases h
 ·rename_i c q
  split at h
  ·rename_i hc
   obtain ⟨_, rfl⟩ := lim_ok h
   refine ⟨?_, numLen_le _⟩
   have : 0 < runLen 2 (c :: q) := by unfold runLen; rw [List.takeWhile_cons, if_pos hc]; simp
   unfold numLen
   split <;> omega
  ·split at h
   ·cases h; simp
   ·split at h
    ·have := quo_pos _ _ _ _ _ h; simp; omega
    ·split at h
     ·rename_i hc
      cases h
      cases q with
      | nil => cases hc.2
      | cons => simp
     ·split at h
      ·unfold name at h
       simp only at h
       have hr := runLen_le 3 ((c :: q).drop 1)
       simp only [List.drop_succ_cons, List.drop_zero] at hr
       split at h
       ·obtain ⟨_, rfl⟩ := lim_ok h
        simp only [List.drop_succ_cons, List.drop_zero, List.length_cons]; omega
       ·split at h
        ·rename_i hd
         injection h with _ h2
         subst h2
         have hx := hd.2
         unfold delimAt at hx
         split at hx
         ·rename_i b hb
          have := (List.getElem?_eq_some_iff.1 hb).1
          simp only [List.drop_succ_cons, List.drop_zero, List.length_cons] at *
          omega
         ·cases hx
        ·cases h
      ·split at h
       ·rename_i hc
        cases h
        cases q with
        | nil => cases hc.2
        | cons => simp
       ·split at h
        ·cases h; simp
        ·cases h
theorem skip_le (l : Bytes) (a : Nat) (h : a ≤ l.length) : a ≤ skip l a ∧ skip l a ≤ l.length := by
 have := runI_le 1 l a
 unfold skip; omega
theorem lexGo_fuel (l : Bytes) : ∀ (f g a : Nat), l.length < a + f → l.length < a + g → lexGo l f a = lexGo l g a
 | 0, g, a, hf, hg => by
  cases g with
  | zero => rfl
  | succ g => rw [lexGo, lexGo, if_pos (by unfold skip; omega)]
 | f + 1, 0, a, hf, hg => by rw [lexGo, lexGo, if_pos (by unfold skip; omega)]
 | f + 1, g + 1, a, hf, hg => by
  rw [lexGo, lexGo]
  split
  ·rfl
  ·rename_i hl
   cases hn : next (l.drop (skip l a)) with
   | err i e => rfl
   | ok t n =>
    have hp := (next_pos _ _ _ hn).1
    have : skip l a + n = skip l a + n := rfl
    simp only
    rw [lexGo_fuel l f g (skip l a + n) (by unfold skip; omega) (by unfold skip; omega)]
def lexAll (l : Bytes) : List PTok × Option (Nat × Nat) := lexGo l (l.length + 1) 0
def lexFrom (l : Bytes) (a : Nat) : List PTok × Option (Nat × Nat) := lexGo l (l.length + 1) a
theorem lexFrom_end (l : Bytes) (a : Nat) (h : l.length ≤ skip l a) : lexFrom l a = ([], none) := by unfold lexFrom; rw [lexGo, if_pos h]
theorem lexFrom_err (l : Bytes) (a i e : Nat) (h : skip l a < l.length) (hn : next (l.drop (skip l a)) = .err i e) : lexFrom l a = ([], some (skip l a + i, e)) := by
 unfold lexFrom; rw [lexGo, if_neg (by omega), hn]
theorem lexFrom_ok (l : Bytes) (a n : Nat) (t : Tok) (h : skip l a < l.length) (hn : next (l.drop (skip l a)) = .ok t n) :
  lexFrom l a = (⟨t.kind, t.text, skip l a, skip l a + n⟩ :: (lexFrom l (skip l a + n)).1, (lexFrom l (skip l a + n)).2) := by
 have hp := (next_pos _ _ _ hn).1
 unfold lexFrom
 conv => lhs; rw [lexGo, if_neg (by omega), hn]
 simp only
 rw [lexGo_fuel l l.length (l.length + 1) (skip l a + n) (by unfold skip; omega) (by omega)]
theorem lim_err {most : Nat} {t : Tok} {n i e : Nat} (h : lim most t n = .err i e) : e ≠ 0 := by
 unfold lim at h
 split at h
 ·cases h; decide
 ·cases h
theorem quo_err : ∀ (q acc : Bytes) (i a e : Nat), quo q acc i = .err a e → e ≠ 0
 | [], _, _, _, _, h => by rw [quo.eq_def] at h; cases h; decide
 | [c], acc, i, a, e, h => by
  rw [quo.eq_def] at h
  simp only at h
  split at h
  ·exact lim_err h
  ·split at h
   ·cases h; decide
   ·split at h
    ·cases h; decide
    ·rw [quo.eq_def] at h; cases h; decide
 | c :: d :: q, acc, i, a, e, h => by
  rw [quo.eq_def] at h
  simp only at h
  split at h
  ·exact lim_err h
  ·split at h
   ·cases h; decide
   ·split at h
    ·split at h
     ·exact quo_err q _ _ _ _ h
     ·cases h; decide
    ·exact quo_err (d :: q) _ _ _ _ h
theorem next_err (r : Bytes) (i e : Nat) (h : next r = .err i e) : e ≠ 0 := by
 unfold next at h
 split at h
 ·cases h; decide
 ·split at h
  ·exact lim_err h
  ·split at h
   ·cases h
   ·split at h
    ·exact quo_err _ _ _ _ _ h
    ·split at h
     ·cases h
     ·split at h
      ·unfold name at h
       simp only at h
       split at h
       ·exact lim_err h
       ·split at h
        ·cases h
        ·cases h; decide
      ·split at h
       ·cases h
       ·split at h
        ·cases h
        ·cases h; decide
theorem lexGo_err (l : Bytes) : ∀ (f a p e : Nat), (lexGo l f a).2 = some (p, e) → e ≠ 0
 | 0, _, _, _, h => by cases h
 | f + 1, a, p, e, h => by
  rw [lexGo] at h
  split at h
  ·cases h
  ·cases hn : next (l.drop (skip l a)) with
   | err i er =>
    rw [hn] at h
    simp only [Option.some.injEq, Prod.mk.injEq] at h
    obtain ⟨_, rfl⟩ := h
    exact next_err _ _ _ hn
   | ok t n =>
    rw [hn] at h
    exact lexGo_err l f _ p e h
end Go.Proofs.YtdacpbdamliafaaGreat.Lx

/- Formula trees as plain data, and when they are valid: no program in sight. -/
namespace Go.Proofs.YtdacpbdamliafaaGreat.Tr
abbrev Bytes := List UInt8
inductive Nd where
 | mk (kind : Int) (text : Bytes) (cols : Int) (kids : List Nd)
namespace Nd
def kind : Nd → Int | mk k _ _ _ => k
def text : Nd → Bytes | mk _ t _ _ => t
def cols : Nd → Int | mk _ _ c _ => c
def kids : Nd → List Nd | mk _ _ _ ks => ks
end Nd
theorem Nd.eta (n : Nd) : n = .mk n.kind n.text n.cols n.kids := by cases n; rfl
mutual
def count : Nd → Nat
 | .mk _ _ _ ks => 1 + countL ks
def countL : List Nd → Nat
 | [] => 0
 | n :: ns => count n + countL ns
end
mutual
def depth : Nd → Nat
 | .mk _ _ _ ks => depthL ks + 1
def depthL : List Nd → Nat
 | [] => 0
 | n :: ns => max (depth n) (depthL ns)
end
theorem count_pos (n : Nd) : 0 < count n := by cases n; rw [count]; omega
theorem depth_pos (n : Nd) : 0 < depth n := by cases n; rw [depth]; omega
theorem count_kids (n : Nd) : count n = 1 + countL n.kids := by cases n; rw [count]; rfl
theorem depth_kids (n : Nd) : depth n = depthL n.kids + 1 := by cases n; rw [depth]; rfl
theorem countL_take (l : List Nd) (i : Nat) (h : i < l.length) : countL (l.take (i + 1)) = countL (l.take i) + count l[i] := by
 induction l generalizing i with
 | nil => simp at h
 | cons x l ih =>
  cases i with
  | zero => simp [countL]
  | succ i =>
   simp only [List.take_succ_cons, countL, List.getElem_cons_succ]
   rw [ih i (by simpa using h)]; omega
theorem countL_le (l : List Nd) (i : Nat) : countL (l.take i) ≤ countL l := by
 induction l generalizing i with
 | nil => simp [countL]
 | cons x l ih =>
  cases i with
  | zero => simp [countL]
  | succ i => simp only [List.take_succ_cons, countL]; have := ih i; omega
theorem count_mem {l : List Nd} {n : Nd} (h : n ∈ l) : count n ≤ countL l := by
 induction l with
 | nil => cases h
 | cons x l ih =>
  rw [countL]
  rcases List.mem_cons.1 h with rfl | h
  ·omega
  ·have := ih h; omega
theorem countL_len (l : List Nd) : l.length ≤ countL l := by
 induction l with
 | nil => simp [countL]
 | cons x l ih => rw [countL]; have := count_pos x; simp; omega
theorem Nd.ind {p : Nd → Prop} (h : ∀ n, (∀ m ∈ n.kids, p m) → p n) (n : Nd) : p n := by
 have : ∀ k n, count n ≤ k → p n := by
  intro k
  induction k with
  | zero => intro n hn; have := count_pos n; omega
  | succ k ih =>
   intro n hn
   refine h n fun m hm => ih m ?_
   have := count_mem hm
   have := count_kids n
   omega
 exact this _ n (Nat.le_refl _)
def letter (b : UInt8) : Bool := (decide (97 ≤ b) && decide (b ≤ 122)) || (decide (65 ≤ b) && decide (b ≤ 90))
def digit (b : UInt8) : Bool := decide (48 ≤ b) && decide (b ≤ 57)
def signs : Bytes := [43, 45, 42, 47, 61, 60, 62, 44, 59, 58, 33, 124, 39, 63, 126, 64]
def delims : Bytes := [40, 41, 91, 93, 123, 125, 124, 60, 62, 47, 46]
def keywords : List Bytes := [[102, 114, 97, 99], [114, 111, 111, 116], [109, 97, 116, 114, 105, 120], [102, 101, 110, 99, 101]]
def accents : List Bytes := [[104, 97, 116], [98, 97, 114], [118, 101, 99], [100, 111, 116], [116, 105, 108, 100, 101], [99, 104, 101, 99, 107]]
def character (b : UInt8) : Bool := letter b || signs.contains b
def symbol (s : Bytes) : Bool :=
 match s with
 | [c] => character c
 | s => s.all letter && decide (2 ≤ s.length) && decide (s.length ≤ 16) && !keywords.contains s && !accents.contains s
def isNum (s : Bytes) : Bool :=
 decide (s.length ≤ 20) && decide (s ≠ []) &&
 (s.all digit || match s.dropWhile (· ≠ 46) with | _ :: b => decide (s.takeWhile (· ≠ 46) ≠ []) && (s.takeWhile (· ≠ 46)).all digit && decide (b ≠ []) && b.all digit | [] => false)
def printable (s : Bytes) : Bool := s.all fun b => decide (32 ≤ b) && decide (b ≤ 126)
def fence (s : Bytes) : Bool := match s with | [a, b] => delims.contains a && delims.contains b | _ => false
def textOK (k : Int) (s : Bytes) : Bool :=
 if k = 2 then symbol s else if k = 3 then isNum s else if k = 4 then decide (s.length ≤ 200) && printable s
 else if k = 10 then accents.contains s else if k = 11 then fence s else s.isEmpty
def kidsOK (k c : Int) (n : Nat) : Bool :=
 if k = 12 then decide (1 ≤ c) && decide (c ≤ 16) && decide (1 ≤ n) && decide (n ≤ 256) && decide ((n : Int) % c = 0)
 else if c ≠ 0 then false
 else if k = 1 then decide (n ≤ 200)
 else if k = 2 ∨ k = 3 ∨ k = 4 then decide (n = 0)
 else if k = 5 ∨ k = 6 ∨ k = 7 ∨ k = 8 then decide (n = 2)
 else if k = 9 then decide (n = 3)
 else if k = 10 ∨ k = 11 then decide (n = 1)
 else false
mutual
def form : Nd → Bool
 | .mk k t c ks => textOK k t && kidsOK k c ks.length && formL (k == 1) ks
def formL : Bool → List Nd → Bool
 | _, [] => true
 | r, n :: ns => ((n.kind == 1) != r) && form n && formL r ns
end
def valid (n : Nd) : Bool := (n.kind == 1) && form n && decide (count n ≤ 1000) && decide (depth n ≤ 24)
mutual
def eqN : Nd → Nd → Bool
 | .mk k t c ks, .mk k' t' c' ks' => (k == k') && (t == t') && (c == c') && eqL ks ks'
def eqL : List Nd → List Nd → Bool
 | [], [] => true
 | n :: ns, m :: ms => eqN n m && eqL ns ms
 | _, _ => false
end
theorem eqL_len : ∀ (l m : List Nd), l.length ≠ m.length → eqL l m = false
 | [], [], h => absurd rfl h
 | x :: l, y :: m, h => by rw [eqL, eqL_len l m (by simpa using h), Bool.and_false]
 | [], _ :: _, _ => by simp [eqL]
 | _ :: _, [], _ => by simp [eqL]
theorem form_eq (n : Nd) : form n = (textOK n.kind n.text && kidsOK n.kind n.cols n.kids.length && formL (n.kind == 1) n.kids) := by
 cases n; rw [form]; rfl
theorem formL_take (r : Bool) : ∀ (l : List Nd) (i : Nat) (h : i < l.length), formL r (l.take (i + 1)) = (formL r (l.take i) && (((l[i].kind == 1) != r) && form l[i]))
 | [], i, h => by simp at h
 | x :: l, 0, h => by simp [formL]
 | x :: l, i + 1, h => by
  simp only [List.take_succ_cons, formL, List.getElem_cons_succ]
  rw [formL_take r l i (by simpa using h)]
  simp only [Bool.and_assoc]
theorem formL_no (r : Bool) : ∀ (l : List Nd) (i : Nat) (h : i < l.length), (((l[i].kind == 1) != r) && form l[i]) = false → formL r l = false
 | [], i, h, _ => by simp at h
 | x :: l, 0, h, hn => by simp only [List.getElem_cons_zero] at hn; rw [formL, hn, Bool.false_and]
 | x :: l, i + 1, h, hn => by
  simp only [List.getElem_cons_succ] at hn
  rw [formL, formL_no r l i (by simpa using h) hn, Bool.and_false]
theorem eqN_eq (n m : Nd) : eqN n m = ((n.kind == m.kind) && (n.text == m.text) && (n.cols == m.cols) && eqL n.kids m.kids) := by
 cases n; cases m; rw [eqN]; rfl
theorem eqN_iff (n : Nd) : ∀ m, eqN n m = true ↔ n = m := by
 induction n using Nd.ind with
 | h n ih =>
  intro m
  have hL : ∀ (l l' : List Nd), (∀ x ∈ l, ∀ y, eqN x y = true ↔ x = y) → (eqL l l' = true ↔ l = l') := by
   intro l
   induction l with
   | nil =>
    intro l' _
    cases l' with
    | nil => simp [eqL]
    | cons y l' => simp [eqL]
   | cons x l ih2 =>
    intro l' h
    cases l' with
    | nil => simp [eqL]
    | cons y l' =>
     rw [eqL, Bool.and_eq_true, h x (by simp) y, ih2 l' (fun z hz => h z (by simp [hz]))]
     simp
  rw [eqN_eq, Bool.and_eq_true, Bool.and_eq_true, Bool.and_eq_true, hL n.kids m.kids ih, beq_iff_eq, beq_iff_eq, beq_iff_eq, Nd.eta n, Nd.eta m]
  simp [Nd.kind, Nd.text, Nd.cols, Nd.kids, and_assoc]
end Go.Proofs.YtdacpbdamliafaaGreat.Tr

/- The spelling of tokens as a plain function. -/
namespace Go.Proofs.YtdacpbdamliafaaGreat.Lx
def escB (b : UInt8) : Bytes := if b = 34 ∨ b = 92 then [92, b] else [b]
def esc (l : Bytes) : Bytes := l.flatMap escB
def quoteL (l : Bytes) : Bytes := 34 :: (esc l ++ [34])
def spellL (k : Int) (t : Bytes) : Bytes :=
 if k = 3 then quoteL t else if k = 4 then 92 :: t else if k = 5 then [92, 102, 101, 110, 99, 101] ++ t else if k = 6 then 35 :: t else t
theorem esc_len (l : Bytes) : (esc l).length ≤ 2 * l.length := by
 induction l with
 | nil => simp [esc]
 | cons b l ih =>
  have : (escB b).length ≤ 2 := by unfold escB; split <;> simp
  simp [esc] at ih ⊢; omega
theorem esc_snoc (l : Bytes) (b : UInt8) : esc (l ++ [b]) = esc l ++ escB b := by simp [esc]
end Go.Proofs.YtdacpbdamliafaaGreat.Lx

/- The plain law of the places of tokens. -/
namespace Go.Proofs.YtdacpbdamliafaaGreat.Lx
def okFrom (l : Bytes) : Nat → List PTok → Prop
 | a, [] => a ≤ l.length ∧ (l.drop a).all (isB 1) = true
 | a, t :: ts => a ≤ t.from_ ∧ t.from_ < t.to_ ∧ t.to_ ≤ l.length ∧ ((l.drop a).take (t.from_ - a)).all (isB 1) = true ∧ (l.drop t.from_).take (t.to_ - t.from_) = spellL t.kind t.text ∧ okFrom l t.to_ ts
theorem spellL_len (k : Int) (t : Bytes) : t.length ≤ (spellL k t).length := by
 have he : ∀ l : Bytes, l.length ≤ (esc l).length := fun l => by
  induction l with
  | nil => simp
  | cons b l ih =>
   have : 1 ≤ (escB b).length := by unfold escB; split <;> simp
   simp [esc] at ih ⊢; omega
 unfold spellL
 have := he t
 repeat' split
 ·simp [quoteL]; omega
 ·simp
 ·simp; omega
 ·simp
 ·exact Nat.le_refl _
theorem lim_as {most : Nat} {t t' : Tok} {n n' : Nat} (h : lim most t n = .ok t' n') : t = t' ∧ n = n' := by
 obtain ⟨h1, h2⟩ := lim_ok h
 exact ⟨h1.symm, h2.symm⟩
theorem quo_spell : ∀ (q acc : Bytes) (i : Nat) (t : Tok) (n : Nat), quo q acc i = .ok t n → t.kind = 3 ∧ ∃ x, t.text = acc ++ x ∧ i < n ∧ q.take (n - i) = esc x ++ [34]
 | [], acc, i, t, n, h => by simp [quo] at h
 | c :: q, acc, i, t, n, h => by
  unfold quo at h
  split at h
  ·rename_i hc
   obtain ⟨h1, h2⟩ := lim_as h
   subst h1 h2 hc
   exact ⟨rfl, [], by simp, by omega, by simp [esc]⟩
  ·rename_i hc
   split at h
   ·cases h
   ·split at h
    ·rename_i hc2
     subst hc2
     cases q with
     | nil => simp at h
     | cons d q' =>
      simp only at h
      split at h
      ·rename_i hd
       obtain ⟨h1, x, h2, h3, h4⟩ := quo_spell q' _ _ t n h
       refine ⟨h1, d :: x, by rw [h2]; simp, by omega, ?_⟩
       have e1 : n - i = (n - (i + 2)) + 1 + 1 := by omega
       rw [e1, List.take_succ_cons, List.take_succ_cons, h4]
       have : escB d = [92, d] := by unfold escB; rw [if_pos hd]
       simp [esc, this]
      ·cases h
    ·rename_i hc2
     obtain ⟨h1, x, h2, h3, h4⟩ := quo_spell q _ _ t n h
     refine ⟨h1, c :: x, by rw [h2]; simp, by omega, ?_⟩
     have e1 : n - i = (n - (i + 1)) + 1 := by omega
     rw [e1, List.take_succ_cons, h4]
     have : escB c = [c] := by unfold escB; rw [if_neg (by rintro (h | h) <;> contradiction)]
     simp [esc, this]
theorem next_spell (r : Bytes) (t : Tok) (n : Nat) (h : next r = .ok t n) : r.take n = spellL t.kind t.text := by
 cases r with
 | nil => simp [next] at h
 | cons c q =>
  rw [next] at h
  split at h
  ·obtain ⟨h1, h2⟩ := lim_as h
   subst h1 h2; rfl
  ·split at h
   ·cases h; rfl
   ·split at h
    ·rename_i hc
     obtain ⟨h1, x, h2, h3, h4⟩ := quo_spell q [] 1 t n h
     have e1 : n = (n - 1) + 1 := by omega
     rw [e1, List.take_succ_cons, h4, h1, h2, hc]
     simp [spellL, quoteL]
    ·split at h
     ·rename_i hc
      obtain ⟨h1, h2⟩ := hc
      cases h
      cases q with
      | nil => simp at h2
      | cons d q' => simp at h2; subst h1 h2; rfl
     ·split at h
      ·rename_i hc
       obtain ⟨hc, _⟩ := hc
       subst hc
       unfold name at h
       simp only [List.drop_succ_cons, List.drop_zero] at h
       split at h
       ·obtain ⟨h1, h2⟩ := lim_as h
        subst h1 h2
        rw [Nat.add_comm 1, List.take_succ_cons]; rfl
       ·rename_i hf
        simp only [ne_eq, Decidable.not_not] at hf
        split at h
        ·cases h
         rw [show 3 + runLen 3 q = (runLen 3 q + 2) + 1 by omega, List.take_succ_cons, List.take_add, hf, Nat.add_comm 1, List.drop_succ_cons]
         rfl
        ·cases h
      ·split at h
       ·rename_i hc
        obtain ⟨h1, _⟩ := hc
        cases h
        subst h1
        rfl
       ·split at h
        ·cases h; rfl
        ·cases h
theorem skip_blank (l : Bytes) (a : Nat) : ((l.drop a).take (skip l a - a)).all (isB 1) = true := by
 have : skip l a - a = ((l.drop a).takeWhile (fun b => (cls b.toNat : Int) == 1)).length := by unfold skip runI; omega
 rw [this]
 have hp : (fun b : UInt8 => (cls b.toNat : Int) == 1) = isB 1 := by
  funext b
  unfold isB
  rw [Bool.eq_iff_iff, beq_iff_eq, beq_iff_eq]
  omega
 rw [hp]
 generalize l.drop a = m
 induction m with
 | nil => rfl
 | cons b m ih =>
  rw [List.takeWhile_cons]
  split
  ·rename_i hb; simp [hb, ih]
  ·rfl
theorem lexGo_places (l : Bytes) : ∀ (f a : Nat), a ≤ l.length → l.length < a + f → (lexGo l f a).2 = none → okFrom l a (lexGo l f a).1
 | 0, a, h1, h2, _ => by omega
 | f + 1, a, h1, h2, h => by
  obtain ⟨s1, s2⟩ := skip_le l a h1
  have hb := skip_blank l a
  rw [lexGo] at h ⊢
  split at h
  ·rename_i hs
   rw [if_pos hs]
   refine ⟨h1, ?_⟩
   have : skip l a = l.length := by omega
   rw [this, List.take_of_length_le (by simp)] at hb
   exact hb
  ·rename_i hs
   rw [if_neg hs]
   cases hn : next (l.drop (skip l a)) with
   | err i e => rw [hn] at h; cases h
   | ok t n =>
    rw [hn] at h
    obtain ⟨n1, n2⟩ := next_pos _ _ _ hn
    rw [List.length_drop] at n2
    have := next_spell _ _ _ hn
    refine ⟨s1, by simp only; omega, by simp only; omega, hb, ?_, lexGo_places l f _ (by simp only; omega) (by simp only; omega) h⟩
    rw [show skip l a + n - skip l a = n by omega, this]
theorem lexGo_count (l : Bytes) : ∀ (f a : Nat), a ≤ l.length → (lexGo l f a).1.length + a ≤ l.length
 | 0, a, h1 => by simpa [lexGo] using h1
 | f + 1, a, h1 => by
  obtain ⟨s1, s2⟩ := skip_le l a h1
  rw [lexGo]
  split
  ·simpa using h1
  ·cases hn : next (l.drop (skip l a)) with
   | err i e => simpa using h1
   | ok t n =>
    obtain ⟨n1, n2⟩ := next_pos _ _ _ hn
    rw [List.length_drop] at n2
    have := lexGo_count l f (skip l a + n) (by omega)
    simp only [List.length_cons]; omega
theorem lexAll_places (l : Bytes) (h : (lexAll l).2 = none) : okFrom l 0 (lexAll l).1 := lexGo_places l _ _ (Nat.zero_le _) (by omega) h
theorem lexAll_count (l : Bytes) : (lexAll l).1.length ≤ l.length := lexGo_count l _ 0 (Nat.zero_le _)
theorem lim_err0 {most : Nat} {t : Tok} {n i e : Nat} (h : lim most t n = .err i e) : i = 0 := by
 unfold lim at h; split at h
 ·cases h; rfl
 ·cases h
theorem quo_err_le : ∀ (q acc : Bytes) (i a e : Nat), quo q acc i = .err a e → a ≤ i + q.length
 | [], acc, i, a, e, h => by simp [quo] at h; omega
 | c :: q, acc, i, a, e, h => by
  unfold quo at h
  split at h
  ·have := lim_err0 h; omega
  ·split at h
   ·cases h; omega
   ·split at h
    ·cases q with
     | nil => simp at h; obtain ⟨h1, _⟩ := h; omega
     | cons d q' =>
      simp only at h
      split at h
      ·have := quo_err_le q' _ _ a e h; simp only [List.length_cons]; omega
      ·cases h; omega
    ·have := quo_err_le q _ _ a e h; simp only [List.length_cons]; omega
theorem next_err_le (r : Bytes) (i e : Nat) (h : next r = .err i e) : i ≤ r.length := by
 cases r with
 | nil => simp [next] at h; omega
 | cons c q =>
  rw [next] at h
  split at h
  ·have := lim_err0 h; omega
  ·split at h
   ·cases h
   ·split at h
    ·have := quo_err_le q [] 1 i e h; simp only [List.length_cons]; omega
    ·split at h
     ·cases h
     ·split at h
      ·unfold name at h
       simp only at h
       split at h
       ·have := lim_err0 h; omega
       ·split at h
        ·cases h
        ·cases h; omega
      ·split at h
       ·cases h
       ·split at h
        ·cases h
        ·cases h; omega
theorem lexGo_err_le (l : Bytes) : ∀ (f a p e : Nat), a ≤ l.length → (lexGo l f a).2 = some (p, e) → p ≤ l.length
 | 0, a, p, e, _, h => by simp [lexGo] at h
 | f + 1, a, p, e, h1, h => by
  obtain ⟨s1, s2⟩ := skip_le l a h1
  rw [lexGo] at h
  split at h
  ·cases h
  ·cases hn : next (l.drop (skip l a)) with
   | err i e' =>
    rw [hn] at h
    have := next_err_le _ _ _ hn
    rw [List.length_drop] at this
    simp only [Option.some.injEq, Prod.mk.injEq] at h
    omega
   | ok t n =>
    rw [hn] at h
    obtain ⟨n1, n2⟩ := next_pos _ _ _ hn
    rw [List.length_drop] at n2
    exact lexGo_err_le l f (skip l a + n) p e (by omega) h
theorem lexAll_err_le (l : Bytes) (p e : Nat) (h : (lexAll l).2 = some (p, e)) : p ≤ l.length := lexGo_err_le l _ 0 p e (Nat.zero_le _) h
end Go.Proofs.YtdacpbdamliafaaGreat.Lx

/- The plain law of writing tokens and reading them again. -/
namespace Go.Proofs.YtdacpbdamliafaaGreat.Lx
def TokOK (t : Tok) : Prop :=
 (t.kind = 1 ∧ ∃ c, t.text = [c] ∧ (isB 3 c = true ∨ isB 4 c = true)) ∨
 (t.kind = 2 ∧ t.text.length ≤ 20 ∧ ∃ ds, ds ≠ [] ∧ ds.all (isB 2) = true ∧ (t.text = ds ∨ ∃ es, es ≠ [] ∧ es.all (isB 2) = true ∧ t.text = ds ++ 46 :: es)) ∨
 (t.kind = 3 ∧ t.text.length ≤ 200 ∧ t.text.all (fun b => decide (32 ≤ b ∧ b ≤ 126)) = true) ∨
 (t.kind = 4 ∧ t.text.length ≤ 16 ∧ t.text ≠ [] ∧ t.text.all (isB 3) = true ∧ t.text ≠ [102, 101, 110, 99, 101]) ∨
 (t.kind = 5 ∧ ∃ a b, t.text = [a, b] ∧ isDelim a = true ∧ isDelim b = true) ∨
 (t.kind = 6 ∧ ∃ d, t.text = [d] ∧ 49 ≤ d ∧ d ≤ 52) ∨
 (t.kind = 7 ∧ ∃ c, t.text = [c] ∧ isB 5 c = true) ∨
 (t.kind = 8 ∧ t.text = [92, 92])
def spell (t : Tok) : Bytes := spellL t.kind t.text
def join (a b : Tok) : Bool := (a.kind == 2 && b.kind == 2) || (a.kind == 4 && b.kind == 1 && (match b.text with | [] => false | c :: _ => isB 3 c))
def headNot (k : Nat) (q : Bytes) : Prop := ∀ c, q.head? = some c → isB k c = false
def okAfter (t : Tok) (q : Bytes) : Prop := (t.kind = 2 → headNot 2 q ∧ q.head? ≠ some 46) ∧ (t.kind = 4 → headNot 3 q)
theorem isB_unique {j k : Nat} {c : UInt8} (h : isB j c = true) (hk : j ≠ k) : isB k c = false := by
 unfold isB at *
 rw [beq_iff_eq] at h
 rw [h]; simpa using hk
theorem runLen_app (k : Nat) (x y : Bytes) (hx : x.all (isB k) = true) (hy : headNot k y) : runLen k (x ++ y) = x.length := by
 unfold runLen
 induction x with
 | nil =>
  cases y with
  | nil => rfl
  | cons c y => rw [List.nil_append, List.takeWhile_cons, hy c rfl]; rfl
 | cons c x ih =>
  simp only [List.all_cons, Bool.and_eq_true] at hx
  rw [List.cons_append, List.takeWhile_cons, if_pos hx.1, List.length_cons, ih hx.2, List.length_cons]
theorem runLen_split (k : Nat) (r : Bytes) : ∃ y, r = r.take (runLen k r) ++ y ∧ (r.take (runLen k r)).all (isB k) = true ∧ headNot k y ∧ y = r.drop (runLen k r) := by
 unfold runLen
 induction r with
 | nil => exact ⟨[], rfl, rfl, (fun c h => nomatch h), rfl⟩
 | cons c r ih =>
  rw [List.takeWhile_cons]
  cases hc : isB k c with
  | true =>
   obtain ⟨y, h1, h2, h3, h4⟩ := ih
   refine ⟨y, ?_, ?_, h3, ?_⟩
   ·simp only [if_true, List.length_cons, List.take_succ_cons, List.cons_append]; rw [← h1]
   ·simp only [if_true, List.length_cons, List.take_succ_cons, List.all_cons, hc, h2]; rfl
   ·simpa using h4
  | false => exact ⟨c :: r, rfl, rfl, fun d h => by cases h; exact hc, rfl⟩
theorem isAt_split (k : Nat) (x y : Bytes) : isAt k (x ++ y) x.length = (match y with | [] => false | c :: _ => isB k c) := by
 unfold isAt
 rw [List.getElem?_append_right (Nat.le_refl _), Nat.sub_self]
 cases y <;> rfl
theorem numLen_plain (ds q : Bytes) (h : ds.all (isB 2) = true) (hq : headNot 2 q) (h46 : q.head? ≠ some 46) : numLen (ds ++ q) = ds.length := by
 unfold numLen
 rw [runLen_app 2 ds q h hq, if_neg]
 rintro ⟨h1, _⟩
 rw [List.getElem?_append_right (Nat.le_refl _), Nat.sub_self] at h1
 exact h46 (by rw [← h1]; cases q <;> rfl)
theorem numLen_point (ds es q : Bytes) (h : ds.all (isB 2) = true) (he : es.all (isB 2) = true) (hn : es ≠ []) (hq : headNot 2 q) : numLen ((ds ++ 46 :: es) ++ q) = (ds ++ 46 :: es).length := by
 have e1 : (ds ++ 46 :: es) ++ q = ds ++ (46 :: (es ++ q)) := by simp
 have hr : runLen 2 (ds ++ (46 :: (es ++ q))) = ds.length := runLen_app 2 ds _ h (fun c hc => by cases hc; rfl)
 unfold numLen
 rw [e1, hr, if_pos]
 ·have : (ds ++ (46 :: (es ++ q))).drop (ds.length + 1) = es ++ q := by
   simp [List.drop_append]
  rw [this, runLen_app 2 es q he hq]
  simp; omega
 ·constructor
  ·rw [List.getElem?_append_right (Nat.le_refl _), Nat.sub_self]; rfl
  ·cases es with
   | nil => exact absurd rfl hn
   | cons e es =>
    have e2 : ds ++ (46 :: (e :: es ++ q)) = (ds ++ [46]) ++ (e :: (es ++ q)) := by simp
    have := isAt_split 2 (ds ++ [46]) (e :: (es ++ q))
    rw [e2, show ds.length + 1 = (ds ++ [46]).length by simp, this]
    simp only [List.all_cons, Bool.and_eq_true] at he
    exact he.1
theorem number_ok (r : Bytes) (t : Tok) (n : Nat) (h0 : isAt 2 r 0 = true) (h : number r = .ok t n) : TokOK t := by
 unfold number at h
 obtain ⟨h1, h2⟩ := lim_as h
 have hl : t.text.length ≤ 20 := by
  unfold lim at h
  split at h
  ·cases h
  ·rw [← h1]; simp only at *; omega
 subst h1 h2
 refine .inr (.inl ⟨rfl, hl, ?_⟩)
 simp only
 obtain ⟨y, e1, e2, e3, e4⟩ := runLen_split 2 r
 have hne : r.take (runLen 2 r) ≠ [] := by
  intro h
  rw [h, List.nil_append] at e1
  unfold isAt at h0
  cases r with
  | nil => cases h0
  | cons c r =>
   subst e1
   have := e3 c rfl
   simp only [List.getElem?_cons_zero] at h0
   rw [h0] at this; cases this
 refine ⟨_, hne, e2, ?_⟩
 unfold numLen
 split
 ·rename_i hc
  obtain ⟨c1, c2⟩ := hc
  obtain ⟨y', f1, f2, f3, f4⟩ := runLen_split 2 (r.drop (runLen 2 r + 1))
  right
  refine ⟨_, ?_, f2, ?_⟩
  ·intro h
   rw [h, List.nil_append] at f1
   unfold isAt at c2
   rw [← Nat.add_zero (runLen 2 r + 1), ← List.getElem?_drop, f1] at c2
   cases y' with
   | nil => cases c2
   | cons c y' =>
    have := f3 c rfl
    simp only [List.getElem?_cons_zero] at c2
    rw [c2] at this; cases this
  ·rw [show runLen 2 r + 1 + runLen 2 (r.drop (runLen 2 r + 1)) = runLen 2 r + (1 + runLen 2 (r.drop (runLen 2 r + 1))) by omega, List.take_add]
   congr 1
   have hlt := (List.getElem?_eq_some_iff.1 c1)
   obtain ⟨hlt, hv⟩ := hlt
   rw [List.drop_eq_getElem_cons hlt, hv, Nat.add_comm 1, List.take_succ_cons]
 ·exact .inl rfl
theorem quo_ok : ∀ (q acc : Bytes) (i : Nat) (t : Tok) (n : Nat), quo q acc i = .ok t n → acc.all (fun b => decide (32 ≤ b ∧ b ≤ 126)) = true → t.kind = 3 ∧ t.text.length ≤ 200 ∧ t.text.all (fun b => decide (32 ≤ b ∧ b ≤ 126)) = true
 | [], acc, i, t, n, h, _ => by simp [quo] at h
 | c :: q, acc, i, t, n, h, ha => by
  unfold quo at h
  split at h
  ·obtain ⟨h1, h2⟩ := lim_as h
   have hl : t.text.length ≤ 200 := by
    unfold lim at h
    split at h
    ·cases h
    ·rw [← h1]; simp only at *; omega
   subst h1
   exact ⟨rfl, hl, ha⟩
  ·split at h
   ·cases h
   ·rename_i hc
    have hcp : 32 ≤ c ∧ c ≤ 126 := by
     constructor
     ·exact UInt8.not_lt.1 (fun h => hc (.inl h))
     ·exact UInt8.not_lt.1 (fun h => hc (.inr h))
    split at h
    ·cases q with
     | nil => simp at h
     | cons d q' =>
      simp only at h
      split at h
      ·rename_i hd
       refine quo_ok q' _ _ t n h ?_
       rw [List.all_append, ha]
       rcases hd with rfl | rfl <;> rfl
      ·cases h
    ·refine quo_ok q _ _ t n h ?_
     rw [List.all_append, ha]
     simp [hcp]
theorem next_tokOK (r : Bytes) (t : Tok) (n : Nat) (h : next r = .ok t n) : TokOK t := by
 cases r with
 | nil => simp [next] at h
 | cons c q =>
  rw [next] at h
  split at h
  ·rename_i hc
   exact number_ok (c :: q) t n (show isAt 2 (c :: q) 0 = true from hc) h
  ·split at h
   ·rename_i hc
    cases h
    exact .inr (.inr (.inr (.inr (.inr (.inr (.inl ⟨rfl, c, rfl, hc⟩))))))
   ·split at h
    ·exact .inr (.inr (.inl (quo_ok q [] 1 t n h rfl)))
    ·split at h
     ·cases h
      exact .inr (.inr (.inr (.inr (.inr (.inr (.inr ⟨rfl, rfl⟩))))))
     ·split at h
      ·rename_i hc
       obtain ⟨hc, hl⟩ := hc
       unfold name at h
       simp only [List.drop_succ_cons, List.drop_zero] at h
       obtain ⟨y, e1, e2, e3, e4⟩ := runLen_split 3 q
       split at h
       ·rename_i hf
        have hlen : t.text.length ≤ 16 := by
         obtain ⟨h1, h2⟩ := lim_as h
         unfold lim at h
         split at h
         ·cases h
         ·rw [← h1]; simp only at *; omega
        obtain ⟨h1, h2⟩ := lim_as h
        subst h1
        refine .inr (.inr (.inr (.inl ⟨rfl, hlen, ?_, e2, hf⟩)))
        intro h
        simp only at h
        rw [h, List.nil_append] at e1
        subst e1
        cases q with
        | nil => cases hl
        | cons c' q =>
         have := e3 c' rfl
         unfold isAt at hl
         simp only [List.getElem?_cons_zero] at hl
         rw [hl] at this; cases this
       ·split at h
        ·rename_i hd
         cases h
         obtain ⟨d1, d2⟩ := hd
         refine .inr (.inr (.inr (.inr (.inl ⟨rfl, ?_⟩))))
         simp only
         unfold delimAt at d1 d2
         rw [show 1 + runLen 3 q = runLen 3 q + 1 by omega, List.getElem?_cons_succ] at d1
         rw [show 2 + runLen 3 q = (runLen 3 q + 1) + 1 by omega, List.getElem?_cons_succ] at d2
         rw [show 1 + runLen 3 q = runLen 3 q + 1 by omega, List.drop_succ_cons]
         generalize runLen 3 q = m at *
         split at d1
         ·rename_i a ha
          split at d2
          ·rename_i b hb
           refine ⟨a, b, ?_, d1, d2⟩
           obtain ⟨ha1, ha2⟩ := List.getElem?_eq_some_iff.1 ha
           obtain ⟨hb1, hb2⟩ := List.getElem?_eq_some_iff.1 hb
           rw [List.drop_eq_getElem_cons ha1, List.drop_eq_getElem_cons hb1, ha2, hb2]
           rfl
          ·cases d2
         ·cases d1
        ·cases h
      ·split at h
       ·rename_i hc
        obtain ⟨h1, h2⟩ := hc
        cases h
        cases q with
        | nil => cases h2
        | cons d q =>
         exact .inr (.inr (.inr (.inr (.inr (.inl ⟨rfl, d, rfl, by simpa [parAt] using h2⟩)))))
       ·split at h
        ·rename_i hc
         cases h
         exact .inl ⟨rfl, c, rfl, hc⟩
        ·cases h
end Go.Proofs.YtdacpbdamliafaaGreat.Lx

/- A token that is written is read again. -/
namespace Go.Proofs.YtdacpbdamliafaaGreat.Lx
theorem lim_le {most : Nat} {t : Tok} {n : Nat} (h : t.text.length ≤ most) : lim most t n = .ok t n := by
 unfold lim; rw [if_neg (by omega)]
theorem byte_cases (p : UInt8 → Prop) [DecidablePred p] (h : ∀ n : Fin 256, p (UInt8.ofNat n.1)) (c : UInt8) : p c := by
 have := h ⟨c.toNat, c.toNat_lt⟩
 simpa using this
theorem isB_digit_not (c : UInt8) : isB 2 c = true → isB 5 c = false ∧ isB 3 c = false ∧ isB 1 c = false ∧ isB 4 c = false ∧ c ≠ 34 ∧ c ≠ 92 ∧ c ≠ 35 ∧ c ≠ 46 := by
 revert c; exact fun c => byte_cases (fun c => isB 2 c = true → isB 5 c = false ∧ isB 3 c = false ∧ isB 1 c = false ∧ isB 4 c = false ∧ c ≠ 34 ∧ c ≠ 92 ∧ c ≠ 35 ∧ c ≠ 46) (by decide +kernel) c
theorem isB_sym_not (c : UInt8) : (isB 3 c = true ∨ isB 4 c = true) → isB 2 c = false ∧ isB 5 c = false ∧ isB 1 c = false ∧ c ≠ 34 ∧ c ≠ 92 ∧ c ≠ 35 ∧ c ≠ 46 :=
 byte_cases (fun c => (isB 3 c = true ∨ isB 4 c = true) → isB 2 c = false ∧ isB 5 c = false ∧ isB 1 c = false ∧ c ≠ 34 ∧ c ≠ 92 ∧ c ≠ 35 ∧ c ≠ 46) (by decide +kernel) c
theorem isB_mark_not (c : UInt8) : isB 5 c = true → isB 2 c = false ∧ isB 3 c = false ∧ isB 1 c = false ∧ c ≠ 34 ∧ c ≠ 92 ∧ c ≠ 35 ∧ c ≠ 46 :=
 byte_cases (fun c => isB 5 c = true → isB 2 c = false ∧ isB 3 c = false ∧ isB 1 c = false ∧ c ≠ 34 ∧ c ≠ 92 ∧ c ≠ 35 ∧ c ≠ 46) (by decide +kernel) c
theorem isDelim_not (c : UInt8) : isDelim c = true → isB 3 c = false :=
 byte_cases (fun c => isDelim c = true → isB 3 c = false) (by decide +kernel) c
theorem isB_blank_not (c : UInt8) : isB 1 c = true → isB 2 c = false ∧ isB 3 c = false ∧ c ≠ 46 :=
 byte_cases (fun c => isB 1 c = true → isB 2 c = false ∧ isB 3 c = false ∧ c ≠ 46) (by decide +kernel) c
theorem quo_esc_all : ∀ (x q acc : Bytes) (i : Nat), x.all (fun b => decide (32 ≤ b ∧ b ≤ 126)) = true → (acc ++ x).length ≤ 200 → quo (esc x ++ 34 :: q) acc i = .ok ⟨3, acc ++ x⟩ (i + (esc x).length + 1)
 | [], q, acc, i, _, hl => by
  simp only [esc, List.flatMap_nil, List.nil_append, List.append_nil, List.length_nil, Nat.add_zero] at *
  rw [quo.eq_def]
  simp only
  rw [if_pos trivial]
  exact lim_le (t := ⟨3, acc⟩) hl
 | c :: x, q, acc, i, hx, hl => by
  simp only [List.all_cons, Bool.and_eq_true, decide_eq_true_eq] at hx
  obtain ⟨⟨h1, h2⟩, hx⟩ := hx
  have hacc : acc ++ c :: x = (acc ++ [c]) ++ x := by simp
  have ih := fun j => quo_esc_all x q (acc ++ [c]) j hx (by rw [← hacc]; exact hl)
  have he : esc (c :: x) = escB c ++ esc x := rfl
  rw [he, hacc]
  unfold escB
  by_cases hc : c = 34 ∨ c = 92
  ·rw [if_pos hc]
   simp only [List.cons_append, List.nil_append]
   rw [quo.eq_def]
   simp only
   rw [if_neg (by decide), if_neg (by decide), if_pos trivial]
   rw [if_pos hc, ih]
   simp only [List.length_cons]
   congr 1; omega
  ·rw [if_neg hc]
   simp only [List.cons_append, List.nil_append]
   rw [quo.eq_def]
   simp only
   rw [if_neg (fun h => hc (.inl h)), if_neg (fun h => h.elim (UInt8.not_lt.2 h1) (UInt8.not_lt.2 h2)), if_neg (fun h => hc (.inr h)), ih]
   simp only [List.length_cons]
   congr 1; omega
theorem numLen_ok {t : Tok} {q : Bytes} (ds : Bytes) (h : ds.all (isB 2) = true) (ht : t.text = ds ∨ ∃ es, es ≠ [] ∧ es.all (isB 2) = true ∧ t.text = ds ++ 46 :: es) (hq : headNot 2 q) (h46 : q.head? ≠ some 46) :
  numLen (t.text ++ q) = t.text.length := by
 rcases ht with e | ⟨es, e1, e2, e3⟩
 ·rw [e]; exact numLen_plain ds q h hq h46
 ·rw [e3]; exact numLen_point ds es q h e2 e1 hq
theorem take_app (x q : Bytes) : (x ++ q).take x.length = x := by simp
theorem reread (t : Tok) (q : Bytes) (ht : TokOK t) (hq : okAfter t q) : next (spell t ++ q) = .ok t (spell t).length := by
 obtain ⟨k, x⟩ := t
 rcases ht with ⟨h1, c, h2, h3⟩ | ⟨h1, h2, ds, h3, h4, h5⟩ | ⟨h1, h2, h3⟩ | ⟨h1, h2, h3, h4, h5⟩ | ⟨h1, a, b, h2, h3, h4⟩ | ⟨h1, d, h2, h3, h4⟩ | ⟨h1, c, h2, h3⟩ | ⟨h1, h2⟩
 ·simp only at h1 h2; subst h1 h2
  obtain ⟨n1, n2, n3, n4, n5, n6, n7⟩ := isB_sym_not c h3
  show next ([c] ++ q) = _
  rw [List.cons_append, next, if_neg (by rw [n1]; decide), if_neg (by rw [n2]; decide), if_neg n4, if_neg (fun h => n5 h.1), if_neg (fun h => n5 h.1), if_neg (fun h => n6 h.1), if_pos h3]
  rfl
 ·simp only at h1 h2 h5; subst h1
  have hx : ∃ c y, x = c :: y ∧ isB 2 c = true := by
   cases ds with
   | nil => exact absurd rfl h3
   | cons c ds =>
    simp only [List.all_cons, Bool.and_eq_true] at h4
    rcases h5 with rfl | ⟨es, _, _, rfl⟩
    ·exact ⟨c, ds, rfl, h4.1⟩
    ·exact ⟨c, _, rfl, h4.1⟩
  obtain ⟨q1, q2⟩ := hq.1 rfl
  have hn : numLen (x ++ q) = x.length := numLen_ok (t := ⟨2, x⟩) ds h4 h5 q1 q2
  show next (x ++ q) = _
  obtain ⟨c, y, rfl, hc⟩ := hx
  rw [List.cons_append, next, if_pos hc, ← List.cons_append]
  unfold number
  rw [hn, take_app, lim_le (by exact h2)]
  rfl
 ·simp only at h1 h2 h3; subst h1
  show next (quoteL x ++ q) = _
  unfold quoteL
  rw [List.cons_append, next, if_neg (by decide), if_neg (by decide), if_pos rfl, List.append_assoc]
  have := quo_esc_all x q [] 1 h3 h2
  simp only [List.nil_append] at this
  rw [List.singleton_append, this]
  show Res.ok _ _ = Res.ok _ (quoteL x).length
  unfold quoteL
  simp only [List.length_cons, List.length_append, List.length_nil]
  congr 1; omega
 ·simp only at h1 h2 h3 h4 h5; subst h1
  have hr : runLen 3 (x ++ q) = x.length := runLen_app 3 x q h4 (hq.2 rfl)
  have hh : isAt 3 (x ++ q) 0 = true := by
   cases x with
   | nil => exact absurd rfl h3
   | cons c y =>
    simp only [List.all_cons, Bool.and_eq_true] at h4
    exact h4.1
  have h92 : (x ++ q).head? ≠ some 92 := by
   cases x with
   | nil => exact absurd rfl h3
   | cons c y =>
    simp only [List.all_cons, Bool.and_eq_true] at h4
    intro h
    have : c = 92 := by simpa using h
    exact (isB_sym_not c (.inl h4.1)).2.2.2.2.1 this
  show next ((92 :: x) ++ q) = _
  rw [List.cons_append, next, if_neg (by decide), if_neg (by decide), if_neg (by decide), if_neg (fun h => h92 h.2), if_pos ⟨rfl, hh⟩]
  unfold name
  simp only [List.drop_succ_cons, List.drop_zero]
  rw [hr, take_app, if_pos h5, lim_le (by exact h2)]
  show Res.ok _ _ = Res.ok _ (92 :: x).length
  rw [List.length_cons, Nat.add_comm]
 ·simp only at h1 h2; subst h1 h2
  have hr : runLen 3 ([102, 101, 110, 99, 101] ++ (a :: b :: q)) = 5 := runLen_app 3 [102, 101, 110, 99, 101] _ (by decide) (fun c hc => by cases hc; exact isDelim_not a h3)
  show next (92 :: ([102, 101, 110, 99, 101] ++ (a :: b :: q))) = _
  rw [next, if_neg (by decide), if_neg (by decide), if_neg (by decide), if_neg (fun h => absurd h.2 (by simp)), if_pos ⟨rfl, rfl⟩]
  unfold name
  simp only [List.drop_succ_cons, List.drop_zero]
  rw [hr, if_neg (by simp), if_pos]
  ·rfl
  ·exact ⟨h3, h4⟩
 ·simp only at h1 h2; subst h1 h2
  show next (35 :: d :: q) = _
  rw [next, if_neg (by decide), if_neg (by decide), if_neg (by decide), if_neg (fun h => absurd h.1 (by decide)), if_neg (fun h => absurd h.1 (by decide)), if_pos ⟨rfl, by simp [parAt, h3, h4]⟩]
  rfl
 ·simp only at h1 h2; subst h1 h2
  obtain ⟨n1, _⟩ := isB_mark_not c h3
  show next (c :: q) = _
  rw [next, if_neg (by rw [n1]; decide), if_pos h3]
  rfl
 ·simp only at h1 h2; subst h1 h2
  show next (92 :: 92 :: q) = _
  rw [next, if_neg (by decide), if_neg (by decide), if_neg (by decide), if_pos ⟨rfl, rfl⟩]
  rfl
theorem spell_head (t : Tok) (ht : TokOK t) : ∃ c y, spell t = c :: y ∧ isB 1 c = false ∧ c ≠ 46 ∧ (isB 2 c = true → t.kind = 2) ∧ (isB 3 c = true → t.kind = 1 ∧ ∃ z, t.text = c :: z) ∧ (t.kind = 2 → isB 2 c = true) := by
 obtain ⟨k, x⟩ := t
 rcases ht with ⟨h1, c, h2, h3⟩ | ⟨h1, h2, ds, h3, h4, h5⟩ | ⟨h1, h2, h3⟩ | ⟨h1, h2, h3, h4, h5⟩ | ⟨h1, a, b, h2, h3, h4⟩ | ⟨h1, d, h2, h3, h4⟩ | ⟨h1, c, h2, h3⟩ | ⟨h1, h2⟩
 ·simp only at h1 h2; subst h1 h2
  obtain ⟨n1, n2, n3, n4, n5, n6, n7⟩ := isB_sym_not c h3
  exact ⟨c, [], rfl, n3, n7, fun h => (by rw [n1] at h; cases h), fun h => ⟨rfl, [], rfl⟩, (fun h => by cases h)⟩
 ·simp only at h1 h2 h5; subst h1
  have hx : ∃ c y, x = c :: y ∧ isB 2 c = true := by
   cases ds with
   | nil => exact absurd rfl h3
   | cons c ds =>
    simp only [List.all_cons, Bool.and_eq_true] at h4
    rcases h5 with rfl | ⟨es, _, _, rfl⟩
    ·exact ⟨c, ds, rfl, h4.1⟩
    ·exact ⟨c, _, rfl, h4.1⟩
  obtain ⟨c, y, rfl, hc⟩ := hx
  obtain ⟨n1, n2, n3, n4, n5, n6, n7, n8⟩ := isB_digit_not c hc
  exact ⟨c, y, rfl, n3, n8, fun _ => rfl, fun h => (by rw [n2] at h; cases h), fun _ => hc⟩
 ·simp only at h1; subst h1
  exact ⟨34, _, rfl, rfl, by decide, (fun h => by cases h), (fun h => by cases h), (fun h => by cases h)⟩
 ·simp only at h1; subst h1
  exact ⟨92, _, rfl, rfl, by decide, (fun h => by cases h), (fun h => by cases h), (fun h => by cases h)⟩
 ·simp only at h1; subst h1
  exact ⟨92, _, rfl, rfl, by decide, (fun h => by cases h), (fun h => by cases h), (fun h => by cases h)⟩
 ·simp only at h1; subst h1
  exact ⟨35, _, rfl, rfl, by decide, (fun h => by cases h), (fun h => by cases h), (fun h => by cases h)⟩
 ·simp only at h1 h2; subst h1 h2
  obtain ⟨n1, n2, n3, n4, n5, n6, n7⟩ := isB_mark_not c h3
  exact ⟨c, [], rfl, n3, n7, fun h => (by rw [n1] at h; cases h), fun h => (by rw [n2] at h; cases h), (fun h => by cases h)⟩
 ·simp only at h1 h2; subst h1 h2
  exact ⟨92, _, rfl, rfl, by decide, (fun h => by cases h), (fun h => by cases h), (fun h => by cases h)⟩
theorem okAfter_tok (a b : Tok) (hb : TokOK b) (hj : join a b = false) (q : Bytes) : okAfter a (spell b ++ q) := by
 obtain ⟨c, y, e, n1, n2, n3, n4, n5⟩ := spell_head b hb
 rw [e, List.cons_append]
 unfold join at hj
 simp only [Bool.or_eq_false_iff, Bool.and_eq_false_iff] at hj
 constructor
 ·intro hk
  refine ⟨fun d hd => ?_, fun h => n2 (by simpa using h)⟩
  cases hd
  cases h2 : isB 2 c with
  | false => rfl
  | true =>
   rcases hj.1 with h | h
   ·rw [hk] at h; cases h
   ·rw [n3 h2] at h; cases h
 ·intro hk d hd
  cases hd
  cases h3 : isB 3 c with
  | false => rfl
  | true =>
   obtain ⟨m1, z, m2⟩ := n4 h3
   rcases hj.2 with (h | h) | h
   ·rw [hk] at h; cases h
   ·rw [m1] at h; cases h
   ·rw [m2] at h; simp only at h; rw [h3] at h; cases h
theorem okAfter_blank (a : Tok) (c : UInt8) (q : Bytes) (hc : isB 1 c = true) : okAfter a (c :: q) := by
 obtain ⟨n1, n2, n3⟩ := isB_blank_not c hc
 exact ⟨fun _ => ⟨fun d hd => by cases hd; exact n1, fun h => n3 (by simpa using h)⟩, fun _ d hd => by cases hd; exact n2⟩
theorem okAfter_end (a : Tok) : okAfter a [] := ⟨fun _ => ⟨(fun c h => nomatch h), by simp⟩, fun _ => (fun c h => nomatch h)⟩
theorem joined_other (a b : Tok) (ha : TokOK a) (hb : TokOK b) (hj : join a b = true) (n : Nat) : next (spell a ++ spell b) ≠ .ok a n := by
 intro h
 obtain ⟨k, x⟩ := a
 obtain ⟨k', x'⟩ := b
 unfold join at hj
 simp only [Bool.or_eq_true, Bool.and_eq_true, beq_iff_eq] at hj
 rcases hj with ⟨rfl, rfl⟩ | ⟨⟨rfl, rfl⟩, hl⟩
 ·obtain ⟨c, y, e, _, _, _, _, hd⟩ := spell_head ⟨2, x'⟩ hb
  replace hd := hd rfl
  have e' : x' = c :: y := e
  subst e'
  rcases ha with ⟨h1, _⟩ | ⟨_, h2, ds, h3, h4, h5⟩ | ⟨h1, _⟩ | ⟨h1, _⟩ | ⟨h1, _⟩ | ⟨h1, _⟩ | ⟨h1, _⟩ | ⟨h1, _⟩ <;> try (simp at h1)
  simp only at h5 h2
  have hs := next_spell _ _ _ h
  have hx : ∃ c y, x = c :: y ∧ isB 2 c = true := by
   cases ds with
   | nil => exact absurd rfl h3
   | cons c ds =>
    simp only [List.all_cons, Bool.and_eq_true] at h4
    rcases h5 with rfl | ⟨es, _, _, rfl⟩
    ·exact ⟨c, ds, rfl, h4.1⟩
    ·exact ⟨c, _, rfl, h4.1⟩
  obtain ⟨c0, y0, hx0, hc0⟩ := hx
  have hnum : next (spell ⟨2, x⟩ ++ spell ⟨2, c :: y⟩) = number (x ++ c :: y) := by
   show next (x ++ c :: y) = _
   rw [hx0, List.cons_append, next, if_pos hc0]
  rw [hnum] at h
  unfold number at h
  obtain ⟨e1, e2⟩ := lim_as h
  simp only [Tok.mk.injEq, true_and] at e1
  have hlen : numLen (x ++ c :: y) ≤ x.length := by
   have h1 := congrArg List.length e1
   rw [List.length_take] at h1
   have := numLen_le (x ++ c :: y)
   omega
  rcases h5 with rfl | ⟨es, g1, g2, rfl⟩
  ·have h1 : x.length + 1 ≤ runLen 2 (x ++ c :: y) := by
    unfold runLen
    have : (x ++ c :: y).takeWhile (isB 2) = x ++ (c :: y).takeWhile (isB 2) := List.takeWhile_append_of_pos (by simpa using h4)
    rw [this, List.takeWhile_cons, if_pos hd]; simp
   unfold numLen at hlen
   split at hlen <;> omega
  ·have q1 : (ds ++ 46 :: es) ++ c :: y = ds ++ 46 :: (es ++ c :: y) := by simp
   have hr : runLen 2 (ds ++ 46 :: (es ++ c :: y)) = ds.length := runLen_app 2 ds _ h4 (fun c hc => by cases hc; rfl)
   unfold numLen at hlen
   rw [q1, hr, if_pos] at hlen
   ·have hdr : (ds ++ (46 :: (es ++ c :: y))).drop (ds.length + 1) = es ++ c :: y := by simp [List.drop_append]
    rw [hdr] at hlen
    have h1 : es.length + 1 ≤ runLen 2 (es ++ c :: y) := by
     unfold runLen
     have : (es ++ c :: y).takeWhile (isB 2) = es ++ (c :: y).takeWhile (isB 2) := List.takeWhile_append_of_pos (by simpa using g2)
     rw [this, List.takeWhile_cons, if_pos hd]; simp
    simp at hlen; omega
   ·constructor
    ·rw [List.getElem?_append_right (Nat.le_refl _), Nat.sub_self]; rfl
    ·cases es with
     | nil => exact absurd rfl g1
     | cons e es =>
      have e2 : ds ++ (46 :: (e :: es ++ c :: y)) = (ds ++ [46]) ++ (e :: (es ++ c :: y)) := by simp
      have := isAt_split 2 (ds ++ [46]) (e :: (es ++ c :: y))
      rw [e2, show ds.length + 1 = (ds ++ [46]).length by simp, this]
      simp only [List.all_cons, Bool.and_eq_true] at g2
      exact g2.1
 ·cases x' with
  | nil => cases hl
  | cons c y =>
   simp only at hl
   rcases ha with ⟨h1, _⟩ | ⟨h1, _⟩ | ⟨h1, _⟩ | ⟨_, h2, h3, h4, h5⟩ | ⟨h1, _⟩ | ⟨h1, _⟩ | ⟨h1, _⟩ | ⟨h1, _⟩ <;> try (simp at h1)
   simp only at h2 h3 h4 h5
   have hh : isAt 3 (x ++ c :: y) 0 = true := by
    cases x with
    | nil => exact absurd rfl h3
    | cons c y =>
     simp only [List.all_cons, Bool.and_eq_true] at h4
     exact h4.1
   have h92 : (x ++ c :: y).head? ≠ some 92 := by
    cases x with
    | nil => exact absurd rfl h3
    | cons c y =>
     simp only [List.all_cons, Bool.and_eq_true] at h4
     intro h
     have : c = 92 := by simpa using h
     exact (isB_sym_not c (.inl h4.1)).2.2.2.2.1 this
   have hname : next (spell ⟨4, x⟩ ++ spell ⟨1, c :: y⟩) = name (92 :: (x ++ c :: y)) := by
    show next (92 :: x ++ c :: y) = _
    rw [List.cons_append, next, if_neg (by decide), if_neg (by decide), if_neg (by decide), if_neg (fun h => h92 h.2), if_pos ⟨rfl, hh⟩]
   rw [hname] at h
   unfold name at h
   simp only [List.drop_succ_cons, List.drop_zero] at h
   have h1 : x.length + 1 ≤ runLen 3 (x ++ c :: y) := by
    unfold runLen
    have : (x ++ c :: y).takeWhile (isB 3) = x ++ (c :: y).takeWhile (isB 3) := List.takeWhile_append_of_pos (by simpa using h4)
    rw [this, List.takeWhile_cons, if_pos hl]; simp
   have h2 := runLen_le 3 (x ++ c :: y)
   split at h
   ·obtain ⟨e1, e2⟩ := lim_as h
    simp only [Tok.mk.injEq, true_and] at e1
    have := congrArg List.length e1
    rw [List.length_take] at this
    omega
   ·split at h
    ·cases h
    ·cases h
end Go.Proofs.YtdacpbdamliafaaGreat.Lx

/- Tokens that are written one after the other are read again. -/
namespace Go.Proofs.YtdacpbdamliafaaGreat.Lx
def flat : List (Bytes × Tok) → Bytes
 | [] => []
 | (s, t) :: l => s ++ (spell t ++ flat l)
def placed : Nat → List (Bytes × Tok) → List PTok
 | _, [] => []
 | a, (s, t) :: l => ⟨t.kind, t.text, a + s.length, a + s.length + (spell t).length⟩ :: placed (a + s.length + (spell t).length) l
def spaced : Option Tok → List (Bytes × Tok) → Prop
 | _, [] => True
 | o, (s, t) :: l => s.all (isB 1) = true ∧ TokOK t ∧ (s = [] → ∀ a, o = some a → join a t = false) ∧ spaced (some t) l
theorem runI_isB (l : Bytes) (k : Nat) : runI 1 l k = runLen 1 (l.drop k) := by
 unfold runI runLen
 have hp : (fun b : UInt8 => (cls b.toNat : Int) == 1) = isB 1 := by
  funext b
  unfold isB
  rw [Bool.eq_iff_iff, beq_iff_eq, beq_iff_eq]
  omega
 rw [hp]
theorem spell_pos (t : Tok) (ht : TokOK t) : 0 < (spell t).length := by
 obtain ⟨c, y, e, _⟩ := spell_head t ht
 rw [e]; simp
theorem okAfter_flat (t : Tok) : ∀ (W : List (Bytes × Tok)), spaced (some t) W → okAfter t (flat W)
 | [], _ => okAfter_end t
 | (s, b) :: l, ⟨h1, h2, h3, _⟩ => by
  cases s with
  | nil => exact okAfter_tok t b h2 (h3 rfl t rfl) _
  | cons c s =>
   simp only [List.all_cons, Bool.and_eq_true] at h1
   exact okAfter_blank t c _ h1.1
theorem lexGo_flat (l : Bytes) : ∀ (W : List (Bytes × Tok)) (o : Option Tok) (p : Bytes) (f : Nat), l = p ++ flat W → W.length < f → spaced o W → lexGo l f p.length = (placed p.length W, none)
 | [], o, p, f, hl, hf, _ => by
  cases f with
  | zero => cases hf
  | succ f =>
   rw [lexGo, if_pos]
   ·rfl
   ·rw [hl]; unfold skip flat; simp
 | (s, t) :: W, o, p, f, hl, hf, ⟨h1, h2, h3, h4⟩ => by
  cases f with
  | zero => cases hf
  | succ f =>
   have hd : l.drop p.length = s ++ (spell t ++ flat W) := by rw [hl]; simp [flat]
   have hsk : skip l p.length = p.length + s.length := by
    unfold skip
    rw [runI_isB, hd, runLen_app 1 s _ h1]
    obtain ⟨c, y, e, n1, _⟩ := spell_head t h2
    rw [e]
    intro d hd'
    cases hd'
    exact n1
   have hl2 : l = (p ++ s) ++ (spell t ++ flat W) := by rw [hl]; simp [flat]
   have hl3 : l = (p ++ s ++ spell t) ++ flat W := by rw [hl]; simp [flat]
   have hsp := spell_pos t h2
   have hnx : next (l.drop (p.length + s.length)) = .ok t (spell t).length := by
    have : l.drop (p.length + s.length) = spell t ++ flat W := by
     rw [hl2, ← List.length_append, List.drop_left]
    rw [this]
    exact reread t _ h2 (okAfter_flat t W h4)
   have ih := lexGo_flat l W (some t) (p ++ s ++ spell t) f hl3 (by simpa using hf) h4
   rw [lexGo, hsk, if_neg]
   ·rw [hnx]
    simp only
    have e3 : (p ++ s ++ spell t).length = p.length + s.length + (spell t).length := by simp [Nat.add_assoc]
    rw [e3] at ih
    rw [ih]
    rfl
   ·rw [hl2]; simp; omega
theorem flat_len : ∀ (W : List (Bytes × Tok)) (o : Option Tok), spaced o W → W.length ≤ (flat W).length
 | [], _, _ => Nat.le_refl _
 | (s, t) :: W, o, ⟨_, h2, _, h4⟩ => by
  have := flat_len W (some t) h4
  have := spell_pos t h2
  simp [flat]; omega
theorem lexAll_flat (W : List (Bytes × Tok)) (h : spaced none W) : lexAll (flat W) = (placed 0 W, none) :=
 lexGo_flat (flat W) W none [] _ rfl (by have := flat_len W none h; omega) h
def tok (t : PTok) : Tok := ⟨t.kind, t.text⟩
theorem placed_toks : ∀ (W : List (Bytes × Tok)) (a : Nat), (placed a W).map tok = W.map (·.2)
 | [], _ => rfl
 | (s, t) :: W, a => by simp only [placed, List.map_cons, placed_toks W]; rfl
theorem lexGo_ok (l : Bytes) : ∀ (f a : Nat), ∀ t ∈ (lexGo l f a).1, TokOK (tok t)
 | 0, a, t, ht => by simp [lexGo] at ht
 | f + 1, a, t, ht => by
  rw [lexGo] at ht
  split at ht
  ·cases ht
  ·cases hn : next (l.drop (skip l a)) with
   | err i e => rw [hn] at ht; cases ht
   | ok t' n =>
    rw [hn] at ht
    rcases List.mem_cons.1 ht with rfl | h
    ·exact next_tokOK _ _ _ hn
    ·exact lexGo_ok l f _ t h
theorem lexAll_two (a b : Tok) (ha : TokOK a) (hb : TokOK b) (hj : join a b = false) : ∃ x y, lexAll (spell a ++ spell b) = ([x, y], none) ∧ tok x = a ∧ tok y = b := by
 have := lexAll_flat [([], a), ([], b)] ⟨rfl, ha, (fun _ c hc => nomatch hc), rfl, hb, (fun _ c hc => by cases hc; exact hj), trivial⟩
 simp only [flat, List.nil_append, List.append_nil] at this
 exact ⟨_, _, this, rfl, rfl⟩
theorem lexAll_joined (a b : Tok) (ha : TokOK a) (hb : TokOK b) (hj : join a b = true) : (lexAll (spell a ++ spell b)).2 ≠ none ∨ (lexAll (spell a ++ spell b)).1.map tok ≠ [a, b] := by
 unfold lexAll
 obtain ⟨c, y, e, n1, _⟩ := spell_head a ha
 have hsk : skip (spell a ++ spell b) 0 = 0 := by
  unfold skip
  rw [runI_isB, List.drop_zero, e]
  have := runLen_app 1 [] (c :: y ++ spell b) rfl (fun d hd => by cases hd; exact n1)
  simpa using this
 have hp : 0 < (spell a ++ spell b).length := by have := spell_pos a ha; simp; omega
 rw [lexGo, hsk, if_neg (by omega), List.drop_zero]
 cases hn : next (spell a ++ spell b) with
 | err i e => left; simp
 | ok t n =>
  right
  intro h
  simp only [List.map_cons, List.cons.injEq] at h
  have : t = a := h.1
  subst this
  exact joined_other t b ha hb hj n hn
def sameT (x y : PTok) (places : Bool) : Bool := x.kind == y.kind && x.text == y.text && (!places || (x.from_ == y.from_ && x.to_ == y.to_))
def sameL : List PTok → List PTok → Bool → Bool
 | [], [], _ => true
 | x :: xs, y :: ys, p => sameT x y p && sameL xs ys p
 | _, _, _ => false
theorem sameT_iff (x y : PTok) : sameT x y false = decide (tok x = tok y) := by
 unfold sameT tok
 rw [Bool.eq_iff_iff]
 simp
theorem sameL_iff : ∀ (xs ys : List PTok), sameL xs ys false = decide (xs.map tok = ys.map tok)
 | [], [] => rfl
 | x :: xs, y :: ys => by
  rw [sameL, sameT_iff, sameL_iff xs ys]
  simp
 | [], y :: ys => by simp [sameL]
 | x :: xs, [] => by simp [sameL]
end Go.Proofs.YtdacpbdamliafaaGreat.Lx

/- The tokens of a formula tree, and that they tell the tree: no program in sight. -/
namespace Go.Proofs.YtdacpbdamliafaaGreat.Tr
open Lx (Tok)
def mk7 (b : UInt8) : Tok := ⟨7, [b]⟩
def name (s : Bytes) : Tok := ⟨4, s⟩
def sFrac : Bytes := [102, 114, 97, 99]
def sRoot : Bytes := [114, 111, 111, 116]
def sMatrix : Bytes := [109, 97, 116, 114, 105, 120]
def leaf (n : Nd) : Bool := (n.kind == 2) || (n.kind == 3) || (n.kind == 4)
def scripted (n : Nd) : Bool := (n.kind == 7) || (n.kind == 8) || (n.kind == 9)
mutual
def itemT : Nd → List Tok
 | .mk k t c ks =>
  if k = 2 then [if t.length = 1 then ⟨1, t⟩ else ⟨4, t⟩]
  else if k = 3 then [⟨2, t⟩]
  else if k = 4 then [⟨3, t⟩]
  else match ks with
   | [a] =>
    if k = 10 then name t :: argT a
    else if k = 11 then (if t = [40, 41] ∨ t = [91, 93] then mk7 (t.headD 0) :: (rowT a.kids ++ [mk7 (t.getLastD 0)]) else ⟨5, t⟩ :: argT a)
    else if k = 12 then name sMatrix :: mk7 123 :: (cellsT c 0 [a] ++ [mk7 125])
    else []
   | [a, b] =>
    if k = 5 then name sFrac :: (argT a ++ argT b)
    else if k = 6 then name sRoot :: ((if a.kids = [] then [] else mk7 91 :: (rowT a.kids ++ [mk7 93])) ++ argT b)
    else if k = 7 then baseT a ++ mk7 95 :: argT b
    else if k = 8 then baseT a ++ mk7 94 :: argT b
    else if k = 12 then name sMatrix :: mk7 123 :: (cellsT c 0 [a, b] ++ [mk7 125])
    else []
   | [a, b, d] =>
    if k = 9 then baseT a ++ mk7 95 :: (argT b ++ mk7 94 :: argT d)
    else if k = 12 then name sMatrix :: mk7 123 :: (cellsT c 0 [a, b, d] ++ [mk7 125])
    else []
   | ks => if k = 12 then name sMatrix :: mk7 123 :: (cellsT c 0 ks ++ [mk7 125]) else []
 termination_by n => 2 * count n
 decreasing_by all_goals (simp only [count_kids, countL, Nd.kids]; omega)
def argT : Nd → List Tok
 | .mk _ _ _ ks => match ks with
  | [x] => if leaf x then itemT x else mk7 123 :: (rowT [x] ++ [mk7 125])
  | ks => mk7 123 :: (rowT ks ++ [mk7 125])
 termination_by n => 2 * count n + 1
 decreasing_by all_goals (simp only [count_kids, countL, Nd.kids]; omega)
def baseT : Nd → List Tok
 | .mk _ _ _ ks => match ks with
  | [x] => if scripted x then mk7 123 :: (rowT [x] ++ [mk7 125]) else itemT x
  | ks => mk7 123 :: (rowT ks ++ [mk7 125])
 termination_by n => 2 * count n + 1
 decreasing_by all_goals (simp only [count_kids, countL, Nd.kids]; omega)
def rowT : List Nd → List Tok
 | [] => []
 | n :: ns => itemT n ++ rowT ns
 termination_by ns => 2 * countL ns + 1
 decreasing_by all_goals (simp only [count_kids, countL, Nd.kids]; omega)
def cellsT (c : Int) : Nat → List Nd → List Tok
 | _, [] => []
 | i, n :: ns => (if i = 0 then [] else if (i : Int) % c = 0 then [⟨8, [92, 92]⟩] else [mk7 38]) ++ (rowT n.kids ++ cellsT c (i + 1) ns)
 termination_by _ ns => 2 * countL ns + 1
 decreasing_by all_goals (simp only [count_kids, countL, Nd.kids]; omega)
end
end Go.Proofs.YtdacpbdamliafaaGreat.Tr

/- The parser of the notation with no macros, on lists of tokens with places. No program in sight. -/
namespace Go.Proofs.YtdacpbdamliafaaGreat.Np
open Lx (PTok)
open Tr (Nd sFrac sRoot sMatrix)
inductive R (α : Type) where
 | ok (a : α) (r : List PTok)
 | err (i e : Nat)
 | out
def R.bind {α β : Type} (x : R α) (k : α → List PTok → R β) : R β :=
 match x with
 | .ok a r => k a r
 | .err i e => .err i e
 | .out => .out
def R.map {α β : Type} (x : R α) (k : α → β) : R β := x.bind fun a r => .ok (k a) r
def place (en : Nat) : List PTok → Nat
 | [] => en
 | t :: _ => t.from_
def isM (b : UInt8) : List PTok → Bool
 | [] => false
 | t :: _ => (t.kind == 7) && (t.text == [b])
def refuse {α : Type} (en : Nat) (l : List PTok) : R α := .err (place en l) 3
def leafOf (t : PTok) : Option Nd :=
 if t.kind = 1 then some (.mk 2 t.text 0 [])
 else if t.kind = 2 then some (.mk 3 t.text 0 [])
 else if t.kind = 3 then some (.mk 4 t.text 0 [])
 else none
def slot (l : List Nd) : Nd := .mk 1 [] 0 l
def accented (t : List UInt8) : Bool := Tr.accents.contains t
def special (t : List UInt8) : Bool := (t == sFrac) || (t == sRoot) || (t == sMatrix) || accented t
def isBreak : List PTok → Bool
 | [] => false
 | t :: _ => t.kind == 8
def colN (b c n : Nat) : Nat := if b = 0 then n else c
def stops (l : List PTok) : Bool := isBreak l || isM 41 l || isM 93 l || isM 125 l || isM 38 l
def scripts (group : Bool) (en : Nat) (base : List Nd) (sub sup : Option Nd) (l : List PTok) : R (List Nd) :=
 match sub, sup with
 | some a, some b => .ok [.mk 9 [] 0 [slot base, a, b]] l
 | none, some b => .ok [.mk 8 [] 0 [slot base, b]] l
 | some a, none => .ok [.mk 7 [] 0 [slot base, a]] l
 | none, none => if group then refuse en l else .ok base l
def plainName (t : PTok) (r : List PTok) : R (List Nd) := if t.text.length = 1 then .err t.from_ 11 else .ok [.mk 2 t.text 0 []] r
mutual
def pRow (en : Nat) : Nat → List Nat → List PTok → R (List Nd)
 | 0, _, _ => .out
 | f + 1, op, l =>
  if l.isEmpty ∧ op ≠ [] then .err (op.getLastD 0) 12
  else if l.isEmpty ∨ stops l = true then .ok [] l
  else (pItem en f op l).bind fun more r => (pRow en f op r).map fun items => more ++ items
def pIn (en : Nat) : Nat → UInt8 → List Nat → List PTok → R (List Nd)
 | 0, _, _, _ => .out
 | f + 1, b, op, l => (pRow en f (op ++ [place en l]) l.tail).bind fun items r => if isM b r then .ok items r.tail else refuse en r
def pScript (en : Nat) : Nat → UInt8 → List Nat → List PTok → R (Option Nd)
 | 0, _, _, _ => .out
 | f + 1, b, op, l => if isM b l then (pArg en f op l.tail).map some else .ok none l
def pItem (en : Nat) : Nat → List Nat → List PTok → R (List Nd)
 | 0, _, _ => .out
 | f + 1, op, l => (pPrim en f op l).bind fun base r => (pScript en f 95 op r).bind fun sub r => (pScript en f 94 op r).bind fun sup r =>
  if sup.isSome && sub.isNone then (pScript en f 95 op r).bind fun sub r => scripts (isM 123 l) en base sub sup r
  else scripts (isM 123 l) en base sub sup r
def pPrim (en : Nat) : Nat → List Nat → List PTok → R (List Nd)
 | 0, _, _ => .out
 | f + 1, op, l =>
  match l with
  | [] => refuse en l
  | t :: r =>
   match leafOf t with
   | some x => .ok [x] r
   | none =>
    if t.kind = 4 then pName en f op t r
    else if t.kind = 5 then (pArgs en f 1 op r).map fun ks => [.mk 11 t.text 0 ks]
    else if isM 40 l then (pIn en f 41 op l).map fun items => [.mk 11 [40, 41] 0 [slot items]]
    else if isM 91 l then (pIn en f 93 op l).map fun items => [.mk 11 [91, 93] 0 [slot items]]
    else if isM 123 l then pIn en f 125 op l
    else refuse en l
def pArgs (en : Nat) : Nat → Nat → List Nat → List PTok → R (List Nd)
 | 0, _, _, _ => .out
 | _ + 1, 0, _, l => .ok [] l
 | f + 1, n + 1, op, l => (pArg en f op l).bind fun a r => (pArgs en f n op r).map fun ks => a :: ks
def pName (en : Nat) : Nat → List Nat → PTok → List PTok → R (List Nd)
 | 0, _, _, _ => .out
 | f + 1, op, t, r =>
  if t.text = sFrac then (pArgs en f 2 op r).map fun ks => [.mk 5 [] 0 ks]
  else if t.text = sRoot then
   if isM 91 r then (pIn en f 93 op r).bind fun d r' => (pArgs en f 1 op r').map fun ks => [.mk 6 [] 0 (slot d :: ks)]
   else (pArgs en f 1 op r).map fun ks => [.mk 6 [] 0 (slot [] :: ks)]
  else if t.text = sMatrix then
   if isM 123 r then (pCells en f (op ++ [place en r]) [] 0 0 r.tail).map fun p => [.mk 12 [] p.2 p.1] else refuse en r
  else if accented t.text then (pArgs en f 1 op r).map fun ks => [.mk 10 t.text 0 ks]
  else plainName t r
def pCells (en : Nat) : Nat → List Nat → List Nd → Nat → Nat → List PTok → R (List Nd × Nat)
 | 0, _, _, _, _, _ => .out
 | f + 1, op, ks, b, c, l => (pRow en f op l).bind fun items r =>
  if isM 38 r then pCells en f op (ks ++ [slot items]) b c r.tail
  else if isBreak r = false ∧ isM 125 r = false then refuse en r
  else if ks.length + 1 - b ≠ (colN b c (ks.length + 1)) then .err (place en r) 3
  else if isBreak r = false then .ok (ks ++ [slot items], colN b c (ks.length + 1)) r.tail
  else pCells en f op (ks ++ [slot items]) (ks.length + 1) (colN b c (ks.length + 1)) r.tail
def pArg (en : Nat) : Nat → List Nat → List PTok → R Nd
 | 0, _, _ => .out
 | f + 1, op, l =>
  match l with
  | [] => refuse en l
  | t :: r =>
   match leafOf t with
   | some x => .ok (slot [x]) r
   | none =>
    if isM 123 l then (pIn en f 125 op l).map slot
    else if t.kind = 4 ∧ special t.text = false then (plainName t r).map slot
    else refuse en l
end
def parseT (en : Nat) (l : List PTok) : R (List Nd) :=
 (pRow en (8 * l.length + 8) [] l).bind fun items r => if r.isEmpty then .ok items r else refuse en r
end Go.Proofs.YtdacpbdamliafaaGreat.Np

/- A reader of the tokens of a tree: the tokens tell the tree. No program in sight. -/
namespace Go.Proofs.YtdacpbdamliafaaGreat.Tr
open Lx (Tok)
def row (ks : List Nd) : Nd := .mk 1 [] 0 ks
def expect (t : Tok) : List Tok → Option (List Tok)
 | x :: r => if x = t then some r else none
 | [] => none
def startTok (x : Tok) : Bool := (x.kind == 1) || (x.kind == 2) || (x.kind == 3) || (x.kind == 4) || (x.kind == 5) || (x.kind == 7 && (x.text == [40] || x.text == [91] || x.text == [123]))
def starts : List Tok → Bool
 | x :: _ => startTok x
 | [] => false
def ends (c : Int) (n : Nat) : List Bool := (List.range n).map fun (i : Nat) => decide (((i : Int) + 1) % c = 0)
def plainN (t : Bytes) : Bool := !(t.length == 1) && !(t == sFrac) && !(t == sRoot) && !(t == sMatrix) && !(accents.contains t)
def groupAt : List Tok → Bool
 | x :: _ => decide (x = mk7 123)
 | [] => false
def colsOf : List (Nd × Bool) → Int
 | [] => 0
 | (_, b) :: l => if b then 1 else 1 + colsOf l
mutual
def pArg : Nat → List Tok → Option (Nd × List Tok)
 | f + 1, x :: r =>
  if x.kind = 1 ∨ (x.kind = 4 ∧ plainN x.text = true) then some (row [.mk 2 x.text 0 []], r)
  else if x.kind = 2 then some (row [.mk 3 x.text 0 []], r)
  else if x.kind = 3 then some (row [.mk 4 x.text 0 []], r)
  else if x = mk7 123 then (pRow f r).bind fun p => (expect (mk7 125) p.2).map fun r' => (row p.1, r')
  else none
 | _, _ => none
def pBase : Nat → List Tok → Option (List Nd × List Tok)
 | f + 1, x :: r =>
  if x.kind = 1 then some ([.mk 2 x.text 0 []], r)
  else if x.kind = 2 then some ([.mk 3 x.text 0 []], r)
  else if x.kind = 3 then some ([.mk 4 x.text 0 []], r)
  else if x.kind = 5 then (pArg f r).map fun p => ([.mk 11 x.text 0 [p.1]], p.2)
  else if x.kind = 4 then
   if x.text = sFrac then (pArg f r).bind fun p => (pArg f p.2).map fun q => ([.mk 5 [] 0 [p.1, q.1]], q.2)
   else if x.text = sRoot then
    match expect (mk7 91) r with
    | some r1 => (pRow f r1).bind fun p => (expect (mk7 93) p.2).bind fun r2 => (pArg f r2).map fun q => ([.mk 6 [] 0 [row p.1, q.1]], q.2)
    | none => (pArg f r).map fun q => ([.mk 6 [] 0 [row [], q.1]], q.2)
   else if x.text = sMatrix then (expect (mk7 123) r).bind fun r1 => (pCells f r1).bind fun p => (expect (mk7 125) p.2).bind fun r2 => if p.1.map (·.2) = ends (colsOf p.1) p.1.length then some ([.mk 12 [] (colsOf p.1) (p.1.map (·.1))], r2) else none
   else if accents.contains x.text then (pArg f r).map fun p => ([.mk 10 x.text 0 [p.1]], p.2)
   else if x.text.length = 1 then none else some ([.mk 2 x.text 0 []], r)
  else if x = mk7 40 then (pRow f r).bind fun p => (expect (mk7 41) p.2).map fun r' => ([.mk 11 [40, 41] 0 [row p.1]], r')
  else if x = mk7 91 then (pRow f r).bind fun p => (expect (mk7 93) p.2).map fun r' => ([.mk 11 [91, 93] 0 [row p.1]], r')
  else if x = mk7 123 then (pRow f r).bind fun p => (expect (mk7 125) p.2).map fun r' => (p.1, r')
  else none
 | _, _ => none
def pItem : Nat → List Tok → Option (Nd × List Tok)
 | f + 1, ts => (pBase f ts).bind fun p =>
  match expect (mk7 95) p.2 with
  | some r1 => (pArg f r1).bind fun q =>
   match expect (mk7 94) q.2 with
   | some r2 => (pArg f r2).map fun s => (.mk 9 [] 0 [row p.1, q.1, s.1], s.2)
   | none => some (.mk 7 [] 0 [row p.1, q.1], q.2)
  | none =>
   match expect (mk7 94) p.2 with
   | some r1 => (pArg f r1).map fun q => (.mk 8 [] 0 [row p.1, q.1], q.2)
   | none => match p.1 with
    | [u] => if groupAt ts then none else some (u, p.2)
    | _ => none
 | 0, _ => none
def pRow : Nat → List Tok → Option (List Nd × List Tok)
 | f + 1, ts => if starts ts then (pItem f ts).bind fun p => (pRow f p.2).map fun q => (p.1 :: q.1, q.2) else some ([], ts)
 | 0, _ => none
def pCells : Nat → List Tok → Option (List (Nd × Bool) × List Tok)
 | f + 1, ts => (pRow f ts).bind fun p =>
  match expect (mk7 38) p.2 with
  | some r => (pCells f r).map fun q => ((row p.1, false) :: q.1, q.2)
  | none =>
   match expect ⟨8, [92, 92]⟩ p.2 with
   | some r => (pCells f r).map fun q => ((row p.1, true) :: q.1, q.2)
   | none => some ([(row p.1, true)], p.2)
 | 0, _ => none
end
def noScript (r : List Tok) : Prop := expect (mk7 95) r = none ∧ expect (mk7 94) r = none
def stop (r : List Tok) : Prop := starts r = false ∧ noScript r
theorem expect_same (t : Tok) (r : List Tok) : expect t (t :: r) = some r := by simp [expect]
theorem expect_other (t x : Tok) (r : List Tok) (h : x ≠ t) : expect t (x :: r) = none := by simp [expect, h]
def Ev (p : Nat → Prop) : Prop := ∃ F, ∀ f, F ≤ f → p f
theorem Ev.of {p : Nat → Prop} (h : ∀ f, p f) : Ev p := ⟨0, fun f _ => h f⟩
theorem Ev.and {p q : Nat → Prop} (h : Ev p) (k : Ev q) : Ev fun f => p f ∧ q f := by
 obtain ⟨F, h⟩ := h
 obtain ⟨G, k⟩ := k
 exact ⟨max F G, fun f hf => ⟨h f (by omega), k f (by omega)⟩⟩
theorem Ev.mono {p q : Nat → Prop} (h : Ev p) (k : ∀ f, p f → q f) : Ev q := by
 obtain ⟨F, h⟩ := h
 exact ⟨F, fun f hf => k f (h f hf)⟩
theorem Ev.succ {p : Nat → Prop} (h : Ev fun f => p (f + 1)) : Ev p := by
 obtain ⟨F, h⟩ := h
 refine ⟨F + 1, fun f hf => ?_⟩
 obtain ⟨g, rfl⟩ : ∃ g, f = g + 1 := ⟨f - 1, by omega⟩
 exact h g (by omega)
theorem row_eq (a : Nd) (h1 : a.kind = 1) (h2 : form a = true) : a = row a.kids := by
 rw [form_eq, Bool.and_eq_true, Bool.and_eq_true] at h2
 obtain ⟨⟨h3, h4⟩, _⟩ := h2
 rw [h1] at h3 h4
 have h5 : a.text = [] := by
  unfold textOK at h3
  simpa using h3
 have h6 : a.cols = 0 := by
  unfold kidsOK at h4
  rw [if_neg (by decide)] at h4
  split at h4
  ·cases h4
  ·rename_i hc; simpa using hc
 have := Nd.eta a
 rw [h1, h5, h6] at this
 exact this
end Go.Proofs.YtdacpbdamliafaaGreat.Tr

/- The forms of items; how the tokens of an item begin. -/
namespace Go.Proofs.YtdacpbdamliafaaGreat.Tr
open Lx (Tok)
def IsRow (a : Nd) : Prop := a.kind = 1 ∧ form a = true
inductive View : Nd → Prop
 | sym (t : Bytes) (h : symbol t = true) : View (.mk 2 t 0 [])
 | num (t : Bytes) (h : isNum t = true) : View (.mk 3 t 0 [])
 | text (t : Bytes) (h : (decide (t.length ≤ 200) && printable t) = true) : View (.mk 4 t 0 [])
 | frac (a b : Nd) (ha : IsRow a) (hb : IsRow b) : View (.mk 5 [] 0 [a, b])
 | root (a b : Nd) (ha : IsRow a) (hb : IsRow b) : View (.mk 6 [] 0 [a, b])
 | sub (a b : Nd) (ha : IsRow a) (hb : IsRow b) : View (.mk 7 [] 0 [a, b])
 | sup (a b : Nd) (ha : IsRow a) (hb : IsRow b) : View (.mk 8 [] 0 [a, b])
 | both (a b d : Nd) (ha : IsRow a) (hb : IsRow b) (hd : IsRow d) : View (.mk 9 [] 0 [a, b, d])
 | accent (t : Bytes) (a : Nd) (h : accents.contains t = true) (ha : IsRow a) : View (.mk 10 t 0 [a])
 | fence (t : Bytes) (a : Nd) (h : Tr.fence t = true) (ha : IsRow a) : View (.mk 11 t 0 [a])
 | matrix (c : Int) (ks : List Nd) (hc : 1 ≤ c) (hn : 1 ≤ ks.length) (hm : (ks.length : Int) % c = 0) (h : ∀ k ∈ ks, IsRow k) : View (.mk 12 [] c ks)
theorem rows_of (l : List Nd) (h : formL false l = true) : ∀ x ∈ l, IsRow x := by
 induction l with
 | nil => intro x hx; cases hx
 | cons y l ih =>
  rw [formL, Bool.and_eq_true, Bool.and_eq_true] at h
  obtain ⟨⟨h1, h2⟩, h3⟩ := h
  intro x hx
  rcases List.mem_cons.1 hx with rfl | hx
  ·exact ⟨by simpa using h1, h2⟩
  ·exact ih h3 x hx
theorem items_of (l : List Nd) (h : formL true l = true) : ∀ x ∈ l, x.kind ≠ 1 ∧ form x = true := by
 induction l with
 | nil => intro x hx; cases hx
 | cons y l ih =>
  rw [formL, Bool.and_eq_true, Bool.and_eq_true] at h
  obtain ⟨⟨h1, h2⟩, h3⟩ := h
  intro x hx
  rcases List.mem_cons.1 hx with rfl | hx
  ·exact ⟨by simpa using h1, h2⟩
  ·exact ih h3 x hx
theorem IsRow.items {a : Nd} (h : IsRow a) : ∀ x ∈ a.kids, x.kind ≠ 1 ∧ form x = true := by
 obtain ⟨h1, h2⟩ := h
 rw [form_eq, h1, Bool.and_eq_true] at h2
 exact items_of _ h2.2
theorem view_of (n : Nd) (hf : form n = true) (hk : n.kind ≠ 1) : View n := by
 obtain ⟨k, t, c, ks⟩ := n
 rw [form, Bool.and_eq_true, Bool.and_eq_true] at hf
 obtain ⟨⟨h1, h2⟩, h3⟩ := hf
 have hk1 : (k == 1) = false := by rw [beq_eq_false_iff_ne]; exact hk
 rw [hk1] at h3
 have hrows := rows_of ks h3
 unfold kidsOK at h2
 unfold textOK at h1
 by_cases e12 : k = 12
 ·subst e12
  simp at h1 h2
  subst h1
  obtain ⟨⟨⟨⟨h4, h5⟩, h6⟩, h7⟩, h8⟩ := h2
  exact .matrix c ks h4 h6 (by omega) hrows
 ·rw [if_neg e12] at h2
  by_cases hc : c = 0
  ·subst hc
   simp only [ne_eq, not_true_eq_false, if_false] at h2
   have hk' : k ≠ 1 := hk
   rw [if_neg hk'] at h2
   by_cases e2 : k = 2
   ·subst e2
    simp at h1 h2
    subst h2
    exact .sym t h1
   ·by_cases e3 : k = 3
    ·subst e3
     simp at h1 h2
     subst h2
     exact .num t h1
    ·by_cases e4 : k = 4
     ·subst e4
      simp at h2
      subst h2
      rw [if_neg (by decide), if_neg (by decide), if_pos rfl] at h1
      exact .text t h1
     ·rw [if_neg (by omega)] at h2
      rw [if_neg e2, if_neg e3, if_neg e4] at h1
      by_cases e10 : k = 10
      ·subst e10
       simp only [if_true] at h1
       rw [if_neg (by decide), if_neg (by decide), if_pos (by decide)] at h2
       match ks, h2, hrows with
       | [a], _, hr => exact .accent t a h1 (hr a (by simp))
      ·by_cases e11 : k = 11
       ·subst e11
        rw [if_neg (by decide), if_pos rfl] at h1
        rw [if_neg (by decide), if_neg (by decide), if_pos (by decide)] at h2
        match ks, h2, hrows with
        | [a], _, hr => exact .fence t a h1 (hr a (by simp))
       ·rw [if_neg e10, if_neg e11] at h1
        have ht : t = [] := by simpa using h1
        subst ht
        by_cases e9 : k = 9
        ·subst e9
         rw [if_neg (by decide), if_pos rfl] at h2
         match ks, h2, hrows with
         | [a, b, d], _, hr => exact .both a b d (hr a (by simp)) (hr b (by simp)) (hr d (by simp))
        ·by_cases e58 : k = 5 ∨ k = 6 ∨ k = 7 ∨ k = 8
         ·rw [if_pos e58] at h2
          match ks, h2, hrows with
          | [a, b], _, hr =>
           have ha := hr a (by simp)
           have hb := hr b (by simp)
           rcases e58 with rfl | rfl | rfl | rfl
           ·exact .frac a b ha hb
           ·exact .root a b ha hb
           ·exact .sub a b ha hb
           ·exact .sup a b ha hb
         ·rw [if_neg e58, if_neg e9, if_neg (by omega)] at h2
          cases h2
  ·rw [if_pos hc] at h2; cases h2
end Go.Proofs.YtdacpbdamliafaaGreat.Tr

/- The tokens of a tree tell the tree. -/
namespace Go.Proofs.YtdacpbdamliafaaGreat.Tr
open Lx (Tok)
theorem itemT_sym (t : Bytes) : itemT (.mk 2 t 0 []) = [if t.length = 1 then ⟨1, t⟩ else ⟨4, t⟩] := by rw [itemT] <;> first | rfl | (intros; simp_all)
theorem itemT_num (t : Bytes) : itemT (.mk 3 t 0 []) = [⟨2, t⟩] := by rw [itemT] <;> first | rfl | (intros; simp_all)
theorem itemT_text (t : Bytes) : itemT (.mk 4 t 0 []) = [⟨3, t⟩] := by rw [itemT] <;> first | rfl | (intros; simp_all)
theorem itemT_frac (a b : Nd) : itemT (.mk 5 [] 0 [a, b]) = name sFrac :: (argT a ++ argT b) := by rw [itemT] <;> first | rfl | (intros; simp_all)
theorem itemT_root (a b : Nd) : itemT (.mk 6 [] 0 [a, b]) = name sRoot :: ((if a.kids = [] then [] else mk7 91 :: (rowT a.kids ++ [mk7 93])) ++ argT b) := by rw [itemT] <;> first | rfl | (intros; simp_all)
theorem itemT_sub (a b : Nd) : itemT (.mk 7 [] 0 [a, b]) = baseT a ++ mk7 95 :: argT b := by rw [itemT] <;> first | rfl | (intros; simp_all)
theorem itemT_sup (a b : Nd) : itemT (.mk 8 [] 0 [a, b]) = baseT a ++ mk7 94 :: argT b := by rw [itemT] <;> first | rfl | (intros; simp_all)
theorem itemT_both (a b d : Nd) : itemT (.mk 9 [] 0 [a, b, d]) = baseT a ++ mk7 95 :: (argT b ++ mk7 94 :: argT d) := by rw [itemT] <;> first | rfl | (intros; simp_all)
theorem itemT_accent (t : Bytes) (a : Nd) : itemT (.mk 10 t 0 [a]) = name t :: argT a := by rw [itemT] <;> first | rfl | (intros; simp_all)
theorem itemT_fence (t : Bytes) (a : Nd) : itemT (.mk 11 t 0 [a]) = if t = [40, 41] ∨ t = [91, 93] then mk7 (t.headD 0) :: (rowT a.kids ++ [mk7 (t.getLastD 0)]) else ⟨5, t⟩ :: argT a := by rw [itemT] <;> first | rfl | (intros; simp_all)
theorem itemT_matrix (c : Int) (ks : List Nd) (h : ks ≠ []) : itemT (.mk 12 [] c ks) = name sMatrix :: mk7 123 :: (cellsT c 0 ks ++ [mk7 125]) := by
 match ks, h with
 | [a], _ => rw [itemT] <;> first | rfl | (intros; simp_all)
 | [a, b], _ => rw [itemT] <;> first | rfl | (intros; simp_all)
 | [a, b, d], _ => rw [itemT] <;> first | rfl | (intros; simp_all)
 | a :: b :: d :: e :: l, _ => rw [itemT] <;> first | rfl | (intros; simp_all)
theorem argT_eq (a : Nd) : argT a = match a.kids with | [x] => if leaf x then itemT x else mk7 123 :: (rowT [x] ++ [mk7 125]) | ks => mk7 123 :: (rowT ks ++ [mk7 125]) := by
 obtain ⟨k, t, c, ks⟩ := a
 match ks with
 | [] => rw [argT] <;> first | rfl | (intros; simp_all)
 | [x] => rw [argT]; rfl
 | x :: y :: l => rw [argT] <;> first | rfl | (intros; simp_all)
theorem baseT_eq (a : Nd) : baseT a = match a.kids with | [x] => if scripted x then mk7 123 :: (rowT [x] ++ [mk7 125]) else itemT x | ks => mk7 123 :: (rowT ks ++ [mk7 125]) := by
 obtain ⟨k, t, c, ks⟩ := a
 match ks with
 | [] => rw [baseT] <;> first | rfl | (intros; simp_all)
 | [x] => rw [baseT]; rfl
 | x :: y :: l => rw [baseT] <;> first | rfl | (intros; simp_all)
theorem rowT_cons (n : Nd) (ns : List Nd) : rowT (n :: ns) = itemT n ++ rowT ns := by rw [rowT]
theorem rowT_nil : rowT [] = [] := by rw [rowT]
theorem start_noScript (x : Tok) (r : List Tok) (h : startTok x = true) : noScript (x :: r) := by
 refine ⟨expect_other _ _ _ ?_, expect_other _ _ _ ?_⟩ <;> (rintro rfl; revert h; decide)
theorem IsRow.views {a : Nd} (h : IsRow a) : ∀ x ∈ a.kids, View x := fun x hx => view_of x (h.items x hx).2 (h.items x hx).1
theorem base_start (a : Nd) (ha : IsRow a) (ih : ∀ x ∈ a.kids, View x → ∃ t r, itemT x = t :: r ∧ startTok t = true) : ∃ t r, baseT a = t :: r ∧ startTok t = true := by
 rw [baseT_eq]
 have hv := ha.views
 split
 ·rename_i x hx
  split
  ·exact ⟨mk7 123, _, rfl, rfl⟩
  ·exact ih x (by rw [hx]; simp) (hv x (by rw [hx]; simp))
 ·exact ⟨mk7 123, _, rfl, rfl⟩
theorem item_start (n : Nd) : View n → ∃ t r, itemT n = t :: r ∧ startTok t = true := by
 have : ∀ m n, count n ≤ m → View n → ∃ t r, itemT n = t :: r ∧ startTok t = true := by
  intro m
  induction m with
  | zero => intro n h; have := count_pos n; omega
  | succ m ih =>
   intro n hc v
   have hb : ∀ (k : Int) (t : Bytes) (c : Int) (a : Nd) (l : List Nd), n = .mk k t c (a :: l) → IsRow a → ∃ t r, baseT a = t :: r ∧ startTok t = true := fun k t c a l e ha => base_start a ha fun x hx vx => ih x (by
    have h1 := count_mem hx
    have h2 := count_kids a
    rw [e, count, countL] at hc
    omega) vx
   cases v with
   | sym t h => rw [itemT_sym]; by_cases hl : t.length = 1 <;> simp only [hl, if_true, if_false] <;> exact ⟨_, _, rfl, rfl⟩
   | num t h => rw [itemT_num]; exact ⟨_, _, rfl, rfl⟩
   | text t h => rw [itemT_text]; exact ⟨_, _, rfl, rfl⟩
   | frac a b ha hb => rw [itemT_frac]; exact ⟨_, _, rfl, rfl⟩
   | root a b ha hb => rw [itemT_root]; exact ⟨_, _, rfl, rfl⟩
   | sub a b ha hb' =>
    rw [itemT_sub]
    obtain ⟨x, r, e, h⟩ := hb _ _ _ a _ rfl ha
    rw [e]; exact ⟨x, _, rfl, h⟩
   | sup a b ha hb' =>
    rw [itemT_sup]
    obtain ⟨x, r, e, h⟩ := hb _ _ _ a _ rfl ha
    rw [e]; exact ⟨x, _, rfl, h⟩
   | both a b d ha hb' hd =>
    rw [itemT_both]
    obtain ⟨x, r, e, h⟩ := hb _ _ _ a _ rfl ha
    rw [e]; exact ⟨x, _, rfl, h⟩
   | accent t a h ha => rw [itemT_accent]; exact ⟨_, _, rfl, rfl⟩
   | fence t a h ha =>
    rw [itemT_fence]
    split
    ·rename_i ht
     rcases ht with rfl | rfl <;> exact ⟨_, _, rfl, rfl⟩
    ·exact ⟨_, _, rfl, rfl⟩
   | matrix c ks hc hn hm h =>
    rw [itemT_matrix c ks (by rintro rfl; simp at hn)]; exact ⟨_, _, rfl, rfl⟩
 exact this _ n (Nat.le_refl _)
theorem row_noScript (ks : List Nd) (hk : ∀ x ∈ ks, View x) (r : List Tok) (hr : noScript r) : noScript (rowT ks ++ r) := by
 cases ks with
 | nil => rw [rowT_nil]; exact hr
 | cons x ks =>
  obtain ⟨t, r', e, h⟩ := item_start x (hk x (by simp))
  rw [rowT_cons, e]
  exact start_noScript t _ h
structure PU (m : Nat) : Prop where
 item : ∀ n, count n ≤ m → View n → ∀ r, noScript r → Ev fun f => pItem f (itemT n ++ r) = some (n, r)
 base : ∀ n, count n ≤ m → View n → scripted n = false → ∀ r, Ev fun f => pBase f (itemT n ++ r) = some ([n], r)
theorem PU.row {m : Nat} (h : PU m) : ∀ ks, (∀ x ∈ ks, View x ∧ count x ≤ m) → ∀ r, stop r → Ev fun f => pRow f (rowT ks ++ r) = some (ks, r)
 | [], _, r, hr => Ev.succ (Ev.of fun f => by rw [rowT_nil, List.nil_append, pRow, if_neg (by rw [hr.1]; decide)])
 | x :: ks, hk, r, hr => by
  obtain ⟨hv, hc⟩ := hk x (by simp)
  have ih := PU.row h ks (fun y hy => hk y (by simp [hy])) r hr
  have hns : noScript (rowT ks ++ r) := row_noScript ks (fun y hy => (hk y (by simp [hy])).1) r hr.2
  refine Ev.succ (((h.item x hc hv _ hns).and ih).mono fun f ⟨h1, h2⟩ => ?_)
  obtain ⟨t, r', e, hs⟩ := item_start x hv
  have hst : starts (itemT x ++ (rowT ks ++ r)) = true := by rw [e]; exact hs
  rw [rowT_cons, List.append_assoc, pRow, if_pos hst, h1]
  simp [h2]
end Go.Proofs.YtdacpbdamliafaaGreat.Tr

/- The tokens of a tree tell the tree: the reader reads every item. -/
namespace Go.Proofs.YtdacpbdamliafaaGreat.Tr
open Lx (Tok)
theorem stop_mark (b : UInt8) (r : List Tok) (h1 : startTok (mk7 b) = false) (h2 : mk7 b ≠ mk7 95) (h3 : mk7 b ≠ mk7 94) : stop (mk7 b :: r) := ⟨h1, expect_other _ _ _ h2, expect_other _ _ _ h3⟩
theorem kids_small {m : Nat} {a : Nd} (ha : IsRow a) (hc : count a ≤ m + 1) : ∀ x ∈ a.kids, View x ∧ count x ≤ m := fun x hx => ⟨ha.views x hx, by
 have h1 := count_mem hx
 have h2 := count_kids a
 omega⟩
theorem name_ne (t : Bytes) (h : keywords.contains t = false) : t ≠ sFrac ∧ t ≠ sRoot ∧ t ≠ sMatrix := by
 refine ⟨?_, ?_, ?_⟩ <;> (rintro rfl; revert h; decide)
theorem symbol_names (t : Bytes) (h : symbol t = true) (hl : t.length ≠ 1) : keywords.contains t = false ∧ accents.contains t = false := by
 unfold symbol at h
 match t, hl with
 | [], _ => revert h; decide
 | [c], hl => exact absurd rfl hl
 | a :: b :: l, _ =>
  simp only [Bool.and_eq_true, Bool.not_eq_true'] at h
  exact ⟨h.1.2, h.2⟩
theorem plain_sym (t : Bytes) (h : symbol t = true) (hl : t.length ≠ 1) : plainN t = true := by
 obtain ⟨n1, n2⟩ := symbol_names t h hl
 obtain ⟨e1, e2, e3⟩ := name_ne t n1
 unfold plainN
 rw [n2]
 simp [hl, e1, e2, e3]
theorem PU.braced {m : Nat} (h : PU m) (a : Nd) (ha : IsRow a) (hc : count a ≤ m + 1) (r : List Tok) (b : UInt8) (h1 : startTok (mk7 b) = false) (h2 : mk7 b ≠ mk7 95) (h3 : mk7 b ≠ mk7 94) :
  Ev fun f => pRow f ((rowT a.kids ++ [mk7 b]) ++ r) = some (a.kids, mk7 b :: r) := by
 have := h.row a.kids (kids_small ha hc) (mk7 b :: r) (stop_mark b r h1 h2 h3)
 simpa using this
theorem PU.arg {m : Nat} (h : PU m) (a : Nd) (ha : IsRow a) (hc : count a ≤ m + 1) (r : List Tok) : Ev fun f => pArg f (argT a ++ r) = some (a, r) := by
 have hr := row_eq a ha.1 ha.2
 have hb : Ev fun f => pArg f ((mk7 123 :: (rowT a.kids ++ [mk7 125])) ++ r) = some (a, r) := by
  refine Ev.succ ((h.braced a ha hc r 125 (by decide) (by decide) (by decide)).mono fun f h1 => ?_)
  rw [List.cons_append, pArg, if_neg (by first | decide | simp), if_neg (by first | decide | simp), if_neg (by first | decide | simp), if_pos rfl, h1]
  show some (Tr.row a.kids, r) = _
  rw [← hr]
 rw [argT_eq]
 split
 ·rename_i x hx
  rw [hx] at hb
  split
  ·rename_i hl
   have hv := ha.views x (by rw [hx]; simp)
   rw [hr, hx]
   unfold leaf at hl
   cases hv with
   | sym t ht =>
    rw [itemT_sym]
    refine Ev.succ (Ev.of fun f => ?_)
    by_cases h1 : t.length = 1
    ·rw [if_pos h1, List.singleton_append, pArg, if_pos (.inl rfl)]
    ·rw [if_neg h1, List.singleton_append, pArg, if_pos (.inr ⟨rfl, plain_sym t ht h1⟩)]
   | num t ht =>
    rw [itemT_num]
    exact Ev.succ (Ev.of fun f => by rw [List.singleton_append, pArg, if_neg (by first | decide | simp), if_pos rfl])
   | text t ht =>
    rw [itemT_text]
    exact Ev.succ (Ev.of fun f => by rw [List.singleton_append, pArg, if_neg (by first | decide | simp), if_neg (by first | decide | simp), if_pos rfl])
   | _ => revert hl; simp [Nd.kind]
  ·exact hb
 ·exact hb
theorem PU.baseR {m : Nat} (h : PU m) (a : Nd) (ha : IsRow a) (hc : count a ≤ m + 1) (r : List Tok) : Ev fun f => pBase f (baseT a ++ r) = some (a.kids, r) := by
 have hb : Ev fun f => pBase f ((mk7 123 :: (rowT a.kids ++ [mk7 125])) ++ r) = some (a.kids, r) := by
  refine Ev.succ ((h.braced a ha hc r 125 (by decide) (by decide) (by decide)).mono fun f h1 => ?_)
  rw [List.cons_append, pBase, if_neg (by first | decide | simp), if_neg (by first | decide | simp), if_neg (by first | decide | simp), if_neg (by first | decide | simp), if_neg (by first | decide | simp), if_neg (by first | decide | simp), if_neg (by first | decide | simp), if_pos rfl, h1]
  rfl
 rw [baseT_eq]
 split
 ·rename_i x hx
  rw [hx] at hb ⊢
  split
  ·exact hb
  ·rename_i hs
   obtain ⟨hv, hcx⟩ := kids_small ha hc x (by rw [hx]; simp)
   exact h.base x hcx hv (by simpa using hs) r
 ·exact hb
theorem slot_small {m : Nat} {k : Int} {t : Bytes} {c : Int} {ks : List Nd} (hc : count (.mk k t c ks) ≤ m + 1) (a : Nd) (h : a ∈ ks) : count a ≤ m + 1 := by
 rw [count] at hc
 have := count_mem h
 omega
theorem accent_names (t : Bytes) (h : accents.contains t = true) : t ≠ sFrac ∧ t ≠ sRoot ∧ t ≠ sMatrix := by
 refine ⟨?_, ?_, ?_⟩ <;> (rintro rfl; revert h; decide)
theorem cols_of (c : Nat) : ∀ (ks : List Nd) (i : Nat), i < c → c ≤ i + ks.length → colsOf ((ks.zipIdx i).map fun p => (p.1, decide (((p.2 : Int) + 1) % (c : Int) = 0))) = (c : Int) - i
 | [], i, h1, h2 => by simp at h2; omega
 | x :: l, i, h1, h2 => by
  rw [List.zipIdx_cons, List.map_cons, colsOf]
  by_cases h : i + 1 = c
  ·have e : decide (((i : Int) + 1) % (c : Int) = 0) = true := by
    rw [decide_eq_true_iff, ← h]; simp
   simp only [e, if_true]; omega
  ·have e : decide (((i : Int) + 1) % (c : Int) = 0) = false := by
    rw [decide_eq_false_iff_not, Int.emod_eq_of_lt (by omega) (by omega)]; omega
   have ih := cols_of c l (i + 1) (by omega) (by simp at h2; omega)
   simp only [e, Bool.false_eq_true, if_false]
   rw [ih]; omega
theorem PU.cells {m : Nat} (h : PU m) (c : Int) (r : List Tok) : ∀ (ns : List Nd) (n : Nd) (i : Nat), (∀ k ∈ n :: ns, IsRow k ∧ count k ≤ m + 1) → ((i : Int) + (n :: ns).length) % c = 0 →
  Ev fun f => pCells f (rowT n.kids ++ (cellsT c (i + 1) ns ++ (mk7 125 :: r))) = some (((n :: ns).zipIdx i).map (fun p => (p.1, decide (((p.2 : Int) + 1) % c = 0))), mk7 125 :: r)
 | [], n, i, hk, hm => by
  obtain ⟨hr, hc⟩ := hk n (by simp)
  have e : cellsT c (i + 1) [] = [] := by rw [cellsT]
  rw [e, List.nil_append]
  refine Ev.succ ((h.row n.kids (kids_small hr hc) _ (stop_mark 125 r (by decide) (by decide) (by decide))).mono fun f h1 => ?_)
  rw [pCells, h1]
  simp only [Option.bind_some]
  rw [expect_other _ _ _ (by decide), expect_other _ _ _ (by decide)]
  have e2 : decide (((i : Int) + 1) % c = 0) = true := by rw [decide_eq_true_iff]; simpa using hm
  simp only [List.zipIdx_cons, List.zipIdx_nil, List.map_cons, List.map_nil, e2]
  rw [← row_eq n hr.1 hr.2]
 | n' :: ns, n, i, hk, hm => by
  obtain ⟨hr, hc⟩ := hk n (by simp)
  have ih := PU.cells h c r ns n' (i + 1) (fun k hk' => hk k (by simp at hk' ⊢; exact .inr hk')) (by
   simp only [List.length_cons] at hm ⊢
   rw [← hm]; congr 1; omega)
  have e : cellsT c (i + 1) (n' :: ns) = (if ((i : Int) + 1) % c = 0 then (⟨8, [92, 92]⟩ : Tok) else mk7 38) :: (rowT n'.kids ++ cellsT c (i + 1 + 1) ns) := by
   rw [cellsT, if_neg (by omega)]
   have : ((i + 1 : Nat) : Int) = (i : Int) + 1 := by omega
   rw [this]
   split <;> rfl
  rw [e]
  by_cases hb : ((i : Int) + 1) % c = 0
  ·rw [if_pos hb]
   refine Ev.succ (((h.row n.kids (kids_small hr hc) ((⟨8, [92, 92]⟩ : Tok) :: (rowT n'.kids ++ (cellsT c (i + 1 + 1) ns ++ (mk7 125 :: r)))) ⟨by rfl, expect_other _ _ _ (by decide), expect_other _ _ _ (by decide)⟩).and ih).mono fun f ⟨h1, h2⟩ => ?_)
   rw [List.cons_append, List.append_assoc, pCells, h1]
   simp only [Option.bind_some]
   rw [expect_other _ _ _ (by decide), expect_same]
   simp only [h2, Option.map_some]
   rw [List.zipIdx_cons («as» := n' :: ns), List.map_cons, ← row_eq n hr.1 hr.2, decide_eq_true hb]
  ·rw [if_neg hb]
   refine Ev.succ (((h.row n.kids (kids_small hr hc) (mk7 38 :: (rowT n'.kids ++ (cellsT c (i + 1 + 1) ns ++ (mk7 125 :: r)))) (stop_mark 38 _ (by decide) (by decide) (by decide))).and ih).mono fun f ⟨h1, h2⟩ => ?_)
   rw [List.cons_append, List.append_assoc, pCells, h1]
   simp only [Option.bind_some]
   rw [expect_same]
   simp only [h2, Option.map_some]
   rw [List.zipIdx_cons («as» := n' :: ns), List.map_cons, ← row_eq n hr.1 hr.2, decide_eq_false hb]
theorem PU.base_step {m : Nat} (h : PU m) (n : Nd) (hc : count n ≤ m + 1) (v : View n) (hs : scripted n = false) (r : List Tok):
  Ev fun f => pBase f (itemT n ++ r) = some ([n], r) := by
 cases v with
 | sym t ht =>
  rw [itemT_sym]
  refine Ev.succ (Ev.of fun f => ?_)
  by_cases h1 : t.length = 1
  ·rw [if_pos h1, List.singleton_append, pBase, if_pos rfl]
  ·obtain ⟨n1, n2⟩ := symbol_names t ht h1
   obtain ⟨e1, e2, e3⟩ := name_ne t n1
   rw [if_neg h1, List.singleton_append, pBase, if_neg (by first | decide | simp), if_neg (by first | decide | simp), if_neg (by first | decide | simp), if_neg (by first | decide | simp), if_pos rfl, if_neg e1, if_neg e2, if_neg e3, if_neg (by rw [n2]; decide), if_neg h1]
 | num t ht =>
  rw [itemT_num]
  exact Ev.succ (Ev.of fun f => by rw [List.singleton_append, pBase, if_neg (by first | decide | simp), if_pos rfl])
 | text t ht =>
  rw [itemT_text]
  exact Ev.succ (Ev.of fun f => by rw [List.singleton_append, pBase, if_neg (by first | decide | simp), if_neg (by first | decide | simp), if_pos rfl])
 | frac a b ha hb =>
  rw [itemT_frac]
  refine Ev.succ (((h.arg a ha (slot_small hc a (by simp)) (argT b ++ r)).and (h.arg b hb (slot_small hc b (by simp)) r)).mono fun f ⟨h1, h2⟩ => ?_)
  rw [List.cons_append, List.append_assoc, name, pBase, if_neg (by first | decide | simp), if_neg (by first | decide | simp), if_neg (by first | decide | simp), if_neg (by first | decide | simp), if_pos rfl, if_pos rfl, h1]
  simp [h2]
 | root a b ha hb =>
  rw [itemT_root]
  have hra := row_eq a ha.1 ha.2
  have hB := h.arg b hb (slot_small hc b (by simp)) r
  by_cases h0 : a.kids = []
  ·rw [if_pos h0, List.nil_append]
   have hex : expect (mk7 91) (argT b ++ r) = none := by
    have : ∃ x l, argT b = x :: l ∧ x ≠ mk7 91 := by
     rw [argT_eq]
     split
     ·rename_i x hx
      split
      ·rename_i hl
       have hv := hb.views x (by rw [hx]; simp)
       unfold leaf at hl
       cases hv with
       | sym t ht =>
        rw [itemT_sym]
        refine ⟨_, _, rfl, ?_⟩
        split <;> (intro e; cases e)
       | num t ht => rw [itemT_num]; exact ⟨_, _, rfl, fun e => by cases e⟩
       | text t ht => rw [itemT_text]; exact ⟨_, _, rfl, fun e => by cases e⟩
       | _ => revert hl; simp [Nd.kind]
      ·exact ⟨_, _, rfl, by decide⟩
     ·exact ⟨_, _, rfl, by decide⟩
    obtain ⟨x, l, e, hx⟩ := this
    rw [e]; exact expect_other _ _ _ hx
   refine Ev.succ (hB.mono fun f h1 => ?_)
   rw [List.cons_append, name, pBase, if_neg (by first | decide | simp), if_neg (by first | decide | simp), if_neg (by first | decide | simp), if_neg (by first | decide | simp), if_pos rfl, if_neg (by first | decide | simp), if_pos rfl, hex, h1]
   rw [hra, h0]; rfl
  ·rw [if_neg h0]
   have hA := h.braced a ha (slot_small hc a (by simp)) (argT b ++ r) 93 (by decide) (by decide) (by decide)
   refine Ev.succ ((hA.and hB).mono fun f ⟨h1, h2⟩ => ?_)
   have e : (name sRoot :: ((mk7 91 :: (rowT a.kids ++ [mk7 93])) ++ argT b)) ++ r = name sRoot :: mk7 91 :: ((rowT a.kids ++ [mk7 93]) ++ (argT b ++ r)) := by simp
   rw [e, name, pBase, if_neg (by first | decide | simp), if_neg (by first | decide | simp), if_neg (by first | decide | simp), if_neg (by first | decide | simp), if_pos rfl, if_neg (by first | decide | simp), if_pos rfl, expect_same]
   simp only [h1, Option.bind_some, expect_same, h2, Option.map_some]
   rw [← hra]
 | sub a b => cases hs
 | sup a b => cases hs
 | both a b d => cases hs
 | accent t a ht ha =>
  rw [itemT_accent]
  obtain ⟨e1, e2, e3⟩ := accent_names t ht
  refine Ev.succ ((h.arg a ha (slot_small hc a (by simp)) r).mono fun f h1 => ?_)
  rw [List.cons_append, name, pBase, if_neg (by first | decide | simp), if_neg (by first | decide | simp), if_neg (by first | decide | simp), if_neg (by first | decide | simp), if_pos rfl, if_neg e1, if_neg e2, if_neg e3, if_pos ht, h1]
  rfl
 | fence t a ht ha =>
  have hra := row_eq a ha.1 ha.2
  rw [itemT_fence]
  by_cases h0 : t = [40, 41] ∨ t = [91, 93]
  ·rw [if_pos h0]
   rcases h0 with rfl | rfl
   ·refine Ev.succ ((h.braced a ha (slot_small hc a (by simp)) r 41 (by decide) (by decide) (by decide)).mono fun f h1 => ?_)
    rw [List.cons_append, pBase, if_neg (by first | decide | simp), if_neg (by first | decide | simp), if_neg (by first | decide | simp), if_neg (by first | decide | simp), if_neg (by first | decide | simp), if_pos (by decide)]
    have h1' : pRow f (rowT a.kids ++ [mk7 (([40, 41] : Bytes).getLastD 0)] ++ r) = some (a.kids, mk7 41 :: r) := h1
    rw [h1']
    simp only [Option.bind_some, expect_same, Option.map_some]
    rw [← hra]
   ·refine Ev.succ ((h.braced a ha (slot_small hc a (by simp)) r 93 (by decide) (by decide) (by decide)).mono fun f h1 => ?_)
    rw [List.cons_append, pBase, if_neg (by first | decide | simp), if_neg (by first | decide | simp), if_neg (by first | decide | simp), if_neg (by first | decide | simp), if_neg (by first | decide | simp), if_neg (by first | decide | simp), if_pos (by decide)]
    have h1' : pRow f (rowT a.kids ++ [mk7 (([91, 93] : Bytes).getLastD 0)] ++ r) = some (a.kids, mk7 93 :: r) := h1
    rw [h1']
    simp only [Option.bind_some, expect_same, Option.map_some]
    rw [← hra]
  ·rw [if_neg h0]
   refine Ev.succ ((h.arg a ha (slot_small hc a (by simp)) r).mono fun f h1 => ?_)
   rw [List.cons_append, pBase, if_neg (by first | decide | simp), if_neg (by first | decide | simp), if_neg (by first | decide | simp), if_pos rfl, h1]
   rfl
 | matrix c ks hc1 hn hm hk =>
  rw [itemT_matrix c ks (by rintro rfl; simp at hn)]
  have hcells : Ev fun f => pCells f (cellsT c 0 ks ++ (mk7 125 :: r)) = some ((ks.zipIdx.map fun p => (p.1, decide (((p.2 : Int) + 1) % c = 0))), mk7 125 :: r) := by
   match ks, hn with
   | k :: l, _ =>
    have e : cellsT c 0 (k :: l) = rowT k.kids ++ cellsT c 1 l := by rw [cellsT, if_pos rfl, List.nil_append]
    rw [e, List.append_assoc]
    exact h.cells c r l k 0 (fun x hx => ⟨hk x hx, slot_small hc x hx⟩) (by simpa using hm)
  refine Ev.succ (hcells.mono fun f h1 => ?_)
  have e : (name sMatrix :: mk7 123 :: (cellsT c 0 ks ++ [mk7 125])) ++ r = name sMatrix :: mk7 123 :: (cellsT c 0 ks ++ (mk7 125 :: r)) := by simp
  rw [e, name, pBase, if_neg (by first | decide | simp), if_neg (by first | decide | simp), if_neg (by first | decide | simp), if_neg (by first | decide | simp), if_pos rfl, if_neg (by first | decide | simp), if_neg (by first | decide | simp), if_pos rfl, expect_same]
  simp only [Option.bind_some, h1, expect_same]
  obtain ⟨cn, rfl⟩ : ∃ cn : Nat, c = cn := ⟨c.toNat, by omega⟩
  have hle : cn ≤ ks.length := by
   rcases Nat.lt_or_ge ks.length cn with hlt | hge
   ·rw [Int.emod_eq_of_lt (by omega) (by omega)] at hm; omega
   ·exact hge
  have e1 := cols_of cn ks 0 (by omega) (by omega)
  rw [e1, if_pos (by
   have hz : ((cn : Int) - ((0 : Nat) : Int)) = (cn : Int) := by omega
   rw [hz]
   unfold ends
   apply List.ext_getElem
   ·simp
   ·intro i h1 h2; simp)]
  have e2 : (List.map (fun x => x.fst) (List.map (fun p => (p.fst, decide (((p.2 : Int) + 1) % (cn : Int) = 0))) ks.zipIdx)) = ks := by
   rw [List.map_map]
   have : ((fun x : Nd × Bool => x.fst) ∘ fun p : Nd × Nat => (p.fst, decide (((p.2 : Int) + 1) % (cn : Int) = 0))) = Prod.fst := rfl
   rw [this]
   simp
  rw [e2]
  simp
theorem item_noGroup (n : Nd) (v : View n) (hs : scripted n = false) (r : List Tok) : groupAt (itemT n ++ r) = false := by
 cases v with
 | sym t h => rw [itemT_sym]; by_cases hl : t.length = 1 <;> simp [hl, groupAt, mk7]
 | num t h => rw [itemT_num]; simp [groupAt, mk7]
 | text t h => rw [itemT_text]; simp [groupAt, mk7]
 | frac a b ha hb => rw [itemT_frac]; simp [groupAt, mk7, name]
 | root a b ha hb => rw [itemT_root]; simp [groupAt, mk7, name]
 | accent t a h ha => rw [itemT_accent]; simp [groupAt, mk7, name]
 | fence t a h ha =>
  rw [itemT_fence]
  split
  ·rename_i ht
   rcases ht with rfl | rfl <;> simp [groupAt, mk7]
  ·simp [groupAt, mk7]
 | matrix c ks hc hn hm h => rw [itemT_matrix c ks (by rintro rfl; simp at hn)]; simp [groupAt, mk7, name]
 | _ => cases hs
theorem PU.step {m : Nat} (h : PU m) : PU (m + 1) := by
 have hbase : ∀ n, count n ≤ m + 1 → View n → scripted n = false → ∀ r, Ev fun f => pBase f (itemT n ++ r) = some ([n], r) := fun n hc v hs r => h.base_step n hc v hs r
 refine ⟨fun n hc v r hr => ?_, hbase⟩
 by_cases hs : scripted n = false
 ·refine Ev.succ ((hbase n hc v hs r).mono fun f h1 => ?_)
  rw [pItem, h1]
  simp only [Option.bind_some]
  rw [hr.1, hr.2]
  simp only
  rw [if_neg (by rw [item_noGroup n v hs r]; decide)]
 ·cases v with
  | sub a b ha hb =>
   rw [itemT_sub]
   have e : (baseT a ++ mk7 95 :: argT b) ++ r = baseT a ++ (mk7 95 :: (argT b ++ r)) := by simp
   rw [e]
   refine Ev.succ (((h.baseR a ha (slot_small hc a (by simp)) (mk7 95 :: (argT b ++ r))).and (h.arg b hb (slot_small hc b (by simp)) r)).mono fun f ⟨h1, h2⟩ => ?_)
   rw [pItem, h1]
   simp only [Option.bind_some]
   rw [expect_same]
   simp only [h2, Option.bind_some]
   rw [hr.2, ← row_eq a ha.1 ha.2]
  | sup a b ha hb =>
   rw [itemT_sup]
   have e : (baseT a ++ mk7 94 :: argT b) ++ r = baseT a ++ (mk7 94 :: (argT b ++ r)) := by simp
   rw [e]
   refine Ev.succ (((h.baseR a ha (slot_small hc a (by simp)) (mk7 94 :: (argT b ++ r))).and (h.arg b hb (slot_small hc b (by simp)) r)).mono fun f ⟨h1, h2⟩ => ?_)
   rw [pItem, h1]
   simp only [Option.bind_some]
   rw [expect_other _ _ _ (by decide), expect_same]
   simp only [h2, Option.map_some]
   rw [← row_eq a ha.1 ha.2]
  | both a b d ha hb hd =>
   rw [itemT_both]
   have e : (baseT a ++ mk7 95 :: (argT b ++ mk7 94 :: argT d)) ++ r = baseT a ++ (mk7 95 :: (argT b ++ (mk7 94 :: (argT d ++ r)))) := by simp
   rw [e]
   refine Ev.succ (((h.baseR a ha (slot_small hc a (by simp)) (mk7 95 :: (argT b ++ (mk7 94 :: (argT d ++ r))))).and ((h.arg b hb (slot_small hc b (by simp)) (mk7 94 :: (argT d ++ r))).and (h.arg d hd (slot_small hc d (by simp)) r))).mono fun f ⟨h1, h2, h3⟩ => ?_)
   rw [pItem, h1]
   simp only [Option.bind_some]
   rw [expect_same]
   simp only [h2, Option.bind_some]
   rw [expect_same]
   simp only [h3, Option.map_some]
   rw [← row_eq a ha.1 ha.2]
  | _ => exact absurd rfl hs
theorem PU.all (m : Nat) : PU m := by
 induction m with
 | zero => exact ⟨fun n h => by have := count_pos n; omega, fun n h => by have := count_pos n; omega⟩
 | succ m ih => exact ih.step
theorem rowT_inj (a b : Nd) (ha : IsRow a) (hb : IsRow b) (h : rowT a.kids = rowT b.kids) : a = b := by
 have hA := (PU.all (count a)).row a.kids (kids_small ha (Nat.le_succ _)) [] ⟨rfl, rfl, rfl⟩
 have hB := (PU.all (count b)).row b.kids (kids_small hb (Nat.le_succ _)) [] ⟨rfl, rfl, rfl⟩
 obtain ⟨F, hF⟩ := hA.and hB
 obtain ⟨h1, h2⟩ := hF F (Nat.le_refl _)
 rw [h, h2] at h1
 simp only [Option.some.injEq, Prod.mk.injEq, and_true] at h1
 rw [row_eq a ha.1 ha.2, row_eq b hb.1 hb.2, h1]
end Go.Proofs.YtdacpbdamliafaaGreat.Tr

/- What the plain reader reads the parser reads too. -/
namespace Go.Proofs.YtdacpbdamliafaaGreat.Np
open Lx (PTok Tok)
open Tr (Nd Ev mk7 expect sFrac sRoot sMatrix)
def bare (ts : List Tok) : List PTok := ts.map fun t => ⟨t.kind, t.text, 0, 0⟩
theorem bare_cons (t : Tok) (r : List Tok) : bare (t :: r) = ⟨t.kind, t.text, 0, 0⟩ :: bare r := rfl
theorem expect_some {t : Tok} {ts r : List Tok} (h : expect t ts = some r) : ts = t :: r := by
 cases ts with
 | nil => cases h
 | cons x l =>
  simp only [expect] at h
  by_cases hx : x = t
  ·rw [if_pos hx] at h; cases h; rw [hx]
  ·rw [if_neg hx] at h; cases h
theorem isM_expect (b : UInt8) (ts : List Tok) : isM b (bare ts) = (expect (mk7 b) ts).isSome := by
 cases ts with
 | nil => rfl
 | cons x l =>
  simp only [expect]
  by_cases hx : x = mk7 b
  ·rw [if_pos hx]; subst hx; simp [bare_cons, isM, mk7]
  ·rw [if_neg hx]
   simp only [bare_cons, isM]
   by_cases hk : x.kind = 7
   ·have : x.text ≠ [b] := fun ht => hx (by obtain ⟨k, t⟩ := x; simp at hk ht; rw [hk, ht]; rfl)
    simp [this]
   ·simp [hk]
theorem special_plain {t : List UInt8} (h : Tr.plainN t = true) : t.length ≠ 1 ∧ special t = false := by
 unfold Tr.plainN at h
 simp only [Bool.and_eq_true, Bool.not_eq_true', beq_eq_false_iff_ne] at h
 obtain ⟨⟨⟨⟨h1, h2⟩, h3⟩, h4⟩, h5⟩ := h
 refine ⟨h1, ?_⟩
 unfold special accented
 rw [h5]
 simp [h2, h3, h4]
def okEnd (op : List Nat) (r : List Tok) : Prop := (r = [] ∧ op = []) ∨ stops (bare r) = true
structure Reads (f : Nat) : Prop where
 arg : ∀ ts a r, Tr.pArg f ts = some (a, r) → ∀ op, Ev fun F => pArg 0 F op (bare ts) = .ok a (bare r)
 row : ∀ ts ks r, Tr.pRow f ts = some (ks, r) → ∀ op, okEnd op r → Ev fun F => pRow 0 F op (bare ts) = .ok ks (bare r)
 base : ∀ ts ks r, Tr.pBase f ts = some (ks, r) → ∀ op, Ev fun F => pPrim 0 F op (bare ts) = .ok ks (bare r)
 item : ∀ ts u r, Tr.pItem f ts = some (u, r) → isM 95 (bare r) = false → ∀ op, Ev fun F => pItem 0 F op (bare ts) = .ok [u] (bare r)
theorem within_of {b o : UInt8} {ts r : List Tok} {ks : List Nd} (hb : stops (bare (mk7 b :: r)) = true) (h : ∀ op, okEnd op (mk7 b :: r) → Ev fun F => pRow 0 F op (bare ts) = .ok ks (bare (mk7 b :: r))) (op : List Nat) :
  Ev fun F => pIn 0 F b op (bare (mk7 o :: ts)) = .ok ks (bare r) := by
 refine Ev.succ ((h (op ++ [0]) (.inr hb)).mono fun F h1 => ?_)
 rw [pIn]
 show R.bind (pRow 0 F (op ++ [0]) (bare ts)) _ = _
 rw [h1]
 show (if isM b (bare (mk7 b :: r)) then _ else _) = _
 rw [isM_expect, Tr.expect_same]
 rfl
theorem Reads.argS {f : Nat} (ih : Reads f) (ts : List Tok) (a : Nd) (r : List Tok) (h : Tr.pArg (f + 1) ts = some (a, r)) (op : List Nat) : Ev fun F => pArg 0 F op (bare ts) = .ok a (bare r) := by
 cases ts with
 | nil => simp [Tr.pArg] at h
 | cons x l =>
  rw [Tr.pArg] at h
  split at h
  ·rename_i hk
   cases h
   refine Ev.succ (Ev.of fun F => ?_)
   rcases hk with hk | ⟨hk, hp⟩
   ·simp [bare_cons, pArg, leafOf, hk, slot, Tr.row]
   ·obtain ⟨p1, p2⟩ := special_plain hp
    simp [bare_cons, pArg, leafOf, hk, slot, Tr.row, isM, p1, p2, plainName, R.map, R.bind]
  ·split at h
   ·rename_i hk
    cases h
    exact Ev.succ (Ev.of fun F => by simp [bare_cons, pArg, leafOf, hk, slot, Tr.row])
   ·split at h
    ·rename_i hk
     cases h
     exact Ev.succ (Ev.of fun F => by simp [bare_cons, pArg, leafOf, hk, slot, Tr.row])
    ·split at h
     ·rename_i hk
      subst hk
      simp only [Option.bind_eq_some_iff, Option.map_eq_some_iff] at h
      obtain ⟨⟨ks, r1⟩, h1, r2, h2, h3⟩ := h
      cases h3
      have e := expect_some h2
      simp only at e
      subst e
      refine Ev.succ ((within_of (o := 123) (by rfl) (fun op ho => ih.row _ _ _ h1 op ho) op).mono fun F h4 => ?_)
      rw [bare_cons, pArg]
      simp only [leafOf, mk7]
      rw [bare_cons] at h4
      simp [isM, mk7, R.map, R.bind, slot, Tr.row] at h4 ⊢
      rw [h4]
     ·cases h
theorem start_kinds {x : Tok} (h : Tr.startTok x = true) : x.kind ≠ 8 ∧ (x.kind = 7 → x.text = [40] ∨ x.text = [91] ∨ x.text = [123]) := by
 unfold Tr.startTok at h
 simp only [Bool.or_eq_true, Bool.and_eq_true, beq_iff_eq] at h
 rcases h with ((((h | h) | h) | h) | h) | ⟨h, h2⟩
 all_goals (refine ⟨by omega, fun hk => ?_⟩)
 all_goals first | omega | (rcases h2 with (h2 | h2) | h2 <;> simp [h2])
theorem start_nostop {ts : List Tok} (h : Tr.starts ts = true) : (bare ts).isEmpty = false ∧ stops (bare ts) = false ∧ isM 95 (bare ts) = false := by
 cases ts with
 | nil => cases h
 | cons x l =>
  obtain ⟨h1, h2⟩ := start_kinds (x := x) h
  refine ⟨rfl, ?_, ?_⟩
  ·simp only [stops, isBreak, isM, bare_cons]
   by_cases hk : x.kind = 7
   ·rcases h2 hk with ht | ht | ht <;> simp [hk, ht]
   ·simp [hk, h1]
  ·simp only [isM, bare_cons]
   by_cases hk : x.kind = 7
   ·rcases h2 hk with ht | ht | ht <;> simp [hk, ht]
   ·simp [hk]
theorem end_no95 {op : List Nat} {r : List Tok} (h : okEnd op r) : isM 95 (bare r) = false := by
 rcases h with ⟨rfl, _⟩ | h
 ·rfl
 ·cases r with
  | nil => cases h
  | cons x l =>
   simp only [stops, isBreak, isM, bare_cons, Bool.or_eq_true, Bool.and_eq_true, beq_iff_eq] at h ⊢
   rcases h with (((h | ⟨h, h'⟩) | ⟨h, h'⟩) | ⟨h, h'⟩) | ⟨h, h'⟩
   all_goals simp [h]
   all_goals simp [h']
theorem Reads.rowS {f : Nat} (ih : Reads f) (ts : List Tok) (ks : List Nd) (r : List Tok) (h : Tr.pRow (f + 1) ts = some (ks, r)) (op : List Nat) (ho : okEnd op r) : Ev fun F => pRow 0 F op (bare ts) = .ok ks (bare r) := by
 rw [Tr.pRow] at h
 split at h
 ·rename_i hs
  simp only [Option.bind_eq_some_iff, Option.map_eq_some_iff] at h
  obtain ⟨⟨u, r1⟩, h1, ⟨q, r2⟩, h2, h3⟩ := h
  cases h3
  obtain ⟨e1, e2, _⟩ := start_nostop hs
  have hn : isM 95 (bare r1) = false := by
   cases f with
   | zero => rw [Tr.pRow] at h2; cases h2
   | succ f =>
    rw [Tr.pRow] at h2
    split at h2
    ·rename_i hs2; exact (start_nostop hs2).2.2
    ·cases h2; exact end_no95 ho
  refine Ev.succ (((ih.item _ _ _ h1 hn op).and (ih.row _ _ _ h2 op ho)).mono fun F ⟨h4, h5⟩ => ?_)
  rw [pRow, if_neg (by simp [e1]), if_neg (by simp [e1, e2]), h4]
  show R.map (pRow 0 F op (bare r1)) _ = _
  rw [h5]
  rfl
 ·cases h
  refine Ev.succ (Ev.of fun F => ?_)
  rw [pRow]
  rcases ho with ⟨rfl, rfl⟩ | ho
  ·rfl
  ·have hne : (bare ts).isEmpty = false := by
    cases ts with
    | nil => cases ho
    | cons x l => rfl
   rw [if_neg (by simp [hne]), if_pos (.inr ho)]
theorem Reads.scriptS {f : Nat} (ih : Reads f) {b : UInt8} {ts r1 : List Tok} {a : Nd} {r : List Tok} (he : expect (mk7 b) ts = some r1) (h : Tr.pArg f r1 = some (a, r)) (op : List Nat) : Ev fun F => pScript 0 F b op (bare ts) = .ok (some a) (bare r) := by
 have e := expect_some he
 subst e
 refine Ev.succ ((ih.arg _ _ _ h op).mono fun F h1 => ?_)
 rw [pScript, isM_expect, he]
 show R.map (pArg 0 F op (bare r1)) some = _
 rw [h1]
 rfl
theorem script_none {b : UInt8} {ts : List Tok} (h : isM b (bare ts) = false) (op : List Nat) : Ev fun F => pScript 0 F b op (bare ts) = .ok none (bare ts) :=
 Ev.succ (Ev.of fun F => by rw [pScript, if_neg (by simp [h])])
theorem no_expect {b : UInt8} {ts : List Tok} (h : expect (mk7 b) ts = none) : isM b (bare ts) = false := by rw [isM_expect, h]; rfl
theorem group_isM (ts : List Tok) : isM 123 (bare ts) = Tr.groupAt ts := by
 cases ts with
 | nil => rfl
 | cons x l =>
  rw [isM_expect]
  simp only [expect, Tr.groupAt]
  by_cases h : x = mk7 123 <;> simp [h]
theorem Reads.itemS {f : Nat} (ih : Reads f) (ts : List Tok) (u : Nd) (r : List Tok) (h : Tr.pItem (f + 1) ts = some (u, r)) (h95 : isM 95 (bare r) = false) (op : List Nat) : Ev fun F => pItem 0 F op (bare ts) = .ok [u] (bare r) := by
 rw [Tr.pItem] at h
 simp only [Option.bind_eq_some_iff] at h
 obtain ⟨⟨base, p⟩, h1, h⟩ := h
 simp only at h
 have HB := ih.base _ _ _ h1 op
 split at h
 ·rename_i r1 he
  simp only [Option.bind_eq_some_iff] at h
  obtain ⟨⟨q, q2⟩, h2, h⟩ := h
  simp only at h
  have HS := ih.scriptS he h2 op
  split at h
  ·rename_i r2 he2
   simp only [Option.map_eq_some_iff] at h
   obtain ⟨⟨s, s2⟩, h3, h⟩ := h
   cases h
   refine Ev.succ ((HB.and (HS.and (ih.scriptS he2 h3 op))).mono fun F ⟨k1, k2, k3⟩ => ?_)
   rw [pItem, k1]
   simp only [R.bind, k2, k3]
   rfl
  ·rename_i he2
   cases h
   refine Ev.succ ((HB.and (HS.and (script_none (no_expect he2) op))).mono fun F ⟨k1, k2, k3⟩ => ?_)
   rw [pItem, k1]
   simp only [R.bind, k2, k3]
   rfl
 ·rename_i he
  split at h
  ·rename_i r1 he2
   simp only [Option.map_eq_some_iff] at h
   obtain ⟨⟨q, q2⟩, h2, h⟩ := h
   cases h
   refine Ev.succ ((HB.and ((script_none (no_expect he) op).and ((ih.scriptS he2 h2 op).and (script_none h95 op)))).mono fun F ⟨k1, k2, k3, k4⟩ => ?_)
   rw [pItem, k1]
   simp only [R.bind, k2, k3, k4]
   rfl
  ·rename_i he2
   split at h
   ·split at h
    ·cases h
    ·rename_i hg
     cases h
     refine Ev.succ ((HB.and ((script_none (no_expect he) op).and (script_none (no_expect he2) op))).mono fun F ⟨k1, k2, k3⟩ => ?_)
     rw [pItem, k1]
     simp only [R.bind, k2, k3, group_isM]
     rw [Bool.not_eq_true] at hg
     rw [hg]
     rfl
   ·cases h
theorem Reads.argsS1 {f : Nat} (ih : Reads f) {ts r : List Tok} {a : Nd} (h : Tr.pArg f ts = some (a, r)) (op : List Nat) : Ev fun F => pArgs 0 F 1 op (bare ts) = .ok [a] (bare r) := by
 refine Ev.succ (Ev.mono ((ih.arg _ _ _ h op).and (⟨1, fun F hF => by obtain ⟨g, rfl⟩ : ∃ g, F = g + 1 := ⟨F - 1, by omega⟩; rw [pArgs]⟩ : Ev fun F => pArgs 0 F 0 op (bare r) = .ok [] (bare r))) fun F ⟨h1, h2⟩ => ?_)
 rw [pArgs, h1]
 show R.map (pArgs 0 F 0 op (bare r)) _ = _
 rw [h2]
 rfl
theorem Reads.argsS2 {f : Nat} (ih : Reads f) {ts r r' : List Tok} {a b : Nd} (h : Tr.pArg f ts = some (a, r)) (h' : Tr.pArg f r = some (b, r')) (op : List Nat) : Ev fun F => pArgs 0 F 2 op (bare ts) = .ok [a, b] (bare r') := by
 refine Ev.succ (Ev.mono ((ih.arg _ _ _ h op).and (ih.argsS1 h' op)) fun F ⟨h1, h2⟩ => ?_)
 rw [pArgs, h1]
 show R.map (pArgs 0 F 1 op (bare r)) _ = _
 rw [h2]
 rfl
theorem colsOf_nonneg : ∀ cs : List (Nd × Bool), 0 ≤ Tr.colsOf cs
 | [] => Int.le_refl _
 | (_, b) :: l => by
  have := colsOf_nonneg l
  rw [Tr.colsOf]
  split <;> omega
def CellsRead (f : Nat) : Prop := ∀ (ts : List Tok) (cs : List (Nd × Bool)) (r1 r2 : List Tok), Tr.pCells f ts = some (cs, r1) → expect (mk7 125) r1 = some r2 → cs.map (·.2) = Tr.ends (Tr.colsOf cs) cs.length →
 ∀ op, Ev fun F => pCells 0 F op [] 0 0 (bare ts) = .ok (cs.map (·.1), (Tr.colsOf cs).toNat) (bare r2)
theorem Reads.nameS {f : Nat} (ih : Reads f) (hm : CellsRead f) (x : Tok) (ts : List Tok) (ks : List Nd) (r : List Tok) (hk : x.kind = 4) (h : Tr.pBase (f + 1) (x :: ts) = some (ks, r)) (op : List Nat) :
  Ev fun F => pName 0 F op ⟨x.kind, x.text, 0, 0⟩ (bare ts) = .ok ks (bare r) := by
 rw [Tr.pBase, if_neg (by omega), if_neg (by omega), if_neg (by omega), if_neg (by omega), if_pos hk] at h
 split at h
 ·rename_i ht
  simp only [Option.bind_eq_some_iff, Option.map_eq_some_iff] at h
  obtain ⟨⟨a, r1⟩, h1, ⟨b, r2⟩, h2, h3⟩ := h
  cases h3
  refine Ev.succ ((ih.argsS2 h1 h2 op).mono fun F k1 => ?_)
  rw [pName, if_pos ht, k1]
  rfl
 ·rename_i n1
  split at h
  ·rename_i ht
   split at h
   ·rename_i r1 he
    simp only [Option.bind_eq_some_iff, Option.map_eq_some_iff] at h
    obtain ⟨⟨d, r2⟩, h1, r3, h2, ⟨a, r4⟩, h3, h4⟩ := h
    cases h4
    have e1 := expect_some he
    have e2 := expect_some h2
    simp only at e2
    subst e1 e2
    refine Ev.succ (((within_of (o := 91) (by rfl) (fun op ho => ih.row _ _ _ h1 op ho) op).and (ih.argsS1 h3 op)).mono fun F ⟨k1, k2⟩ => ?_)
    rw [pName, if_neg n1, if_pos ht, isM_expect, he, Option.isSome_some, if_pos rfl, k1]
    show R.map (pArgs 0 F 1 op (bare r3)) _ = _
    rw [k2]
    rfl
   ·rename_i he
    simp only [Option.map_eq_some_iff] at h
    obtain ⟨⟨a, r1⟩, h1, h2⟩ := h
    cases h2
    refine Ev.succ ((ih.argsS1 h1 op).mono fun F k1 => ?_)
    rw [pName, if_neg n1, if_pos ht, no_expect he, if_neg (by decide), k1]
    rfl
  ·rename_i n2
   split at h
   ·rename_i ht
    simp only [Option.bind_eq_some_iff] at h
    obtain ⟨r1, h1, ⟨cs, r2⟩, h2, r3, h3, h4⟩ := h
    simp only at h3 h4
    split at h4
    ·rename_i hE
     cases h4
     have e := expect_some h1
     subst e
     refine Ev.succ ((hm _ _ _ _ h2 h3 hE (op ++ [0])).mono fun F k1 => ?_)
     rw [pName, if_neg n1, if_neg n2, if_pos ht, isM_expect, h1, Option.isSome_some, if_pos rfl]
     show R.map (pCells 0 F (op ++ [0]) [] 0 0 (bare r1)) _ = _
     rw [k1]
     have := colsOf_nonneg cs
     simp only [R.map, R.bind, Int.toNat_of_nonneg this]
    ·cases h4
   ·rename_i n3
    split at h
    ·rename_i ht
     simp only [Option.map_eq_some_iff] at h
     obtain ⟨⟨a, r1⟩, h1, h2⟩ := h
     cases h2
     refine Ev.succ ((ih.argsS1 h1 op).mono fun F k1 => ?_)
     rw [pName, if_neg n1, if_neg n2, if_neg n3, if_pos (show accented x.text = true from ht), k1]
     rfl
    ·rename_i n4
     split at h
     ·cases h
     ·rename_i n5
      cases h
      refine Ev.succ (Ev.of fun F => ?_)
      rw [pName, if_neg n1, if_neg n2, if_neg n3, if_neg (show ¬ accented x.text = true from n4), plainName, if_neg n5]
theorem Reads.baseS {f : Nat} (ih : Reads f) (hm : CellsRead f) (ts : List Tok) (ks : List Nd) (r : List Tok) (h : Tr.pBase (f + 1) ts = some (ks, r)) (op : List Nat) : Ev fun F => pPrim 0 F op (bare ts) = .ok ks (bare r) := by
 cases ts with
 | nil => simp [Tr.pBase] at h
 | cons x l =>
  by_cases hk4 : x.kind = 4
  ·refine Ev.succ ((ih.nameS hm x l ks r hk4 h op).mono fun F k1 => ?_)
   rw [bare_cons, pPrim]
   simp [leafOf, hk4] at k1 ⊢
   exact k1
  ·rw [Tr.pBase] at h
   split at h
   ·rename_i hk; cases h
    exact Ev.succ (Ev.of fun F => by simp [bare_cons, pPrim, leafOf, hk])
   ·split at h
    ·rename_i hk; cases h
     exact Ev.succ (Ev.of fun F => by simp [bare_cons, pPrim, leafOf, hk])
    ·split at h
     ·rename_i hk; cases h
      exact Ev.succ (Ev.of fun F => by simp [bare_cons, pPrim, leafOf, hk])
     ·split at h
      ·rename_i hk
       simp only [Option.map_eq_some_iff] at h
       obtain ⟨⟨a, r1⟩, h1, h2⟩ := h
       cases h2
       refine Ev.succ ((ih.argsS1 h1 op).mono fun F k1 => ?_)
       simp [bare_cons, pPrim, leafOf, hk, k1, R.map, R.bind]
      ·split at h
       ·
        rename_i hx
        subst hx
        simp only [Option.bind_eq_some_iff, Option.map_eq_some_iff] at h
        obtain ⟨⟨d, r2⟩, h1, r3, h2, h4⟩ := h
        cases h4
        have e2 := expect_some h2
        simp only at e2
        subst e2
        refine Ev.succ ((within_of (o := 40) (by rfl) (fun op ho => ih.row _ _ _ h1 op ho) op).mono fun F k1 => ?_)
        rw [bare_cons] at k1 ⊢
        simp [pPrim, leafOf, mk7, isM, R.map, R.bind] at k1 ⊢
        rw [k1]
        rfl
       ·split at h
        ·
         rename_i hx
         subst hx
         simp only [Option.bind_eq_some_iff, Option.map_eq_some_iff] at h
         obtain ⟨⟨d, r2⟩, h1, r3, h2, h4⟩ := h
         cases h4
         have e2 := expect_some h2
         simp only at e2
         subst e2
         refine Ev.succ ((within_of (o := 91) (by rfl) (fun op ho => ih.row _ _ _ h1 op ho) op).mono fun F k1 => ?_)
         rw [bare_cons] at k1 ⊢
         simp [pPrim, leafOf, mk7, isM, R.map, R.bind] at k1 ⊢
         rw [k1]
         rfl
        ·split at h
         ·
          rename_i hx
          subst hx
          simp only [Option.bind_eq_some_iff, Option.map_eq_some_iff] at h
          obtain ⟨⟨d, r2⟩, h1, r3, h2, h4⟩ := h
          cases h4
          have e2 := expect_some h2
          simp only at e2
          subst e2
          refine Ev.succ ((within_of (o := 123) (by rfl) (fun op ho => ih.row _ _ _ h1 op ho) op).mono fun F k1 => ?_)
          rw [bare_cons] at k1 ⊢
          simp [pPrim, leafOf, mk7, isM] at k1 ⊢
          rw [k1]
         ·cases h
end Go.Proofs.YtdacpbdamliafaaGreat.Np

/- The cells of a matrix; whatever the plain reader reads the parser reads. -/
namespace Go.Proofs.YtdacpbdamliafaaGreat.Np
open Lx (PTok Tok)
open Tr (Nd Ev mk7 expect sFrac sRoot sMatrix)
theorem line_end {C q n : Nat} (h1 : C * q ≤ n) (h2 : n < C * q + C) (h : (n + 1) % C = 0) : n + 1 = C * q + C := by
 obtain ⟨r, hr⟩ : ∃ r, n + 1 = C * q + r := ⟨n + 1 - C * q, by omega⟩
 rw [hr, Nat.mul_add_mod] at h
 by_cases hc : r < C
 ·rw [Nat.mod_eq_of_lt hc] at h; omega
 ·omega
theorem line_mid {C q n : Nat} (h2 : n < C * q + C) (h : (n + 1) % C ≠ 0) : n + 1 < C * q + C := by
 rcases Nat.lt_or_ge (n + 1) (C * q + C) with h3 | h3
 ·exact h3
 ·exfalso
  have : n + 1 = C * q + C := by omega
  rw [this, Nat.mul_add_mod, Nat.mod_self] at h
  exact h rfl
theorem cellsS (C : Nat) (hC : 1 ≤ C) : ∀ f, (∀ g, g < f → Reads g) → ∀ ts cs r1 r2, Tr.pCells f ts = some (cs, r1) → expect (mk7 125) r1 = some r2 → ∀ (ks : List Nd) (q c : Nat), C * q ≤ ks.length → ks.length < C * q + C → (C * q = 0 ∨ c = C) →
  (∀ i (h : i < cs.length), cs[i].2 = decide ((ks.length + i + 1) % C = 0)) → ∀ op, Ev fun F => pCells 0 F op ks (C * q) c (bare ts) = .ok (ks ++ cs.map (·.1), C) (bare r2)
 | 0, _, _, _, _, _, h, _, _, _, _, _, _, _, _, _ => by rw [Tr.pCells] at h; cases h
 | f + 1, ih, ts, cs, r1, r2, h, he, ks, q, c, h1, h2, hc, hf, op => by
  have e1 := expect_some he
  subst e1
  rw [Tr.pCells] at h
  simp only [Option.bind_eq_some_iff] at h
  obtain ⟨⟨items, p⟩, hr, h⟩ := h
  simp only at h
  have hrow := (ih f (Nat.lt_succ_self _)).row _ _ _ hr
  split at h
  ·rename_i r hx
   simp only [Option.map_eq_some_iff] at h
   obtain ⟨⟨qq, q2⟩, h3, h4⟩ := h
   cases h4
   have e2 := expect_some hx
   subst e2
   have hf0 := hf 0 (by simp)
   simp only [List.getElem_cons_zero, Nat.add_zero] at hf0
   have hn : (ks.length + 1) % C ≠ 0 := by simpa using hf0.symm
   have hrec := cellsS C hC f (fun g hg => ih g (by omega)) _ _ _ _ h3 he (ks ++ [slot items]) q c (by simp; omega) (by have := line_mid h2 hn; simp; omega) hc (fun i hi => by
    have := hf (i + 1) (by simpa using hi)
    simp only [List.getElem_cons_succ] at this
    rw [this, List.length_append, List.length_singleton, show ks.length + (i + 1) + 1 = ks.length + 1 + i + 1 by omega]) op
   refine Ev.succ (((hrow op (.inr (by rfl))).and hrec).mono fun F ⟨k1, k2⟩ => ?_)
   rw [pCells, k1]
   simp only [R.bind]
   rw [if_pos (by simp [bare_cons, isM, mk7]), bare_cons, List.tail_cons, k2]
   simp [slot, Tr.row]
  ·rename_i hx
   have hcol : ks.length + 1 = C * q + C → colN (C * q) c (ks.length + 1) = C := fun hl => by
    unfold colN
    split
    ·omega
    ·rcases hc with hc | hc
     ·contradiction
     ·exact hc
   split at h
   ·rename_i r hx2
    simp only [Option.map_eq_some_iff] at h
    obtain ⟨⟨qq, q2⟩, h3, h4⟩ := h
    cases h4
    have e2 := expect_some hx2
    subst e2
    have hf0 := hf 0 (by simp)
    simp only [List.getElem_cons_zero, Nat.add_zero] at hf0
    have hn : (ks.length + 1) % C = 0 := by simpa using hf0.symm
    have hl := line_end h1 h2 hn
    have hq : ks.length + 1 = C * (q + 1) := by rw [hl, Nat.mul_succ]
    have hrec := cellsS C hC f (fun g hg => ih g (by omega)) _ _ _ _ h3 he (ks ++ [slot items]) (q + 1) C (by simp; omega) (by simp; omega) (.inr rfl) (fun i hi => by
     have := hf (i + 1) (by simpa using hi)
     simp only [List.getElem_cons_succ] at this
     rw [this, List.length_append, List.length_singleton, show ks.length + (i + 1) + 1 = ks.length + 1 + i + 1 by omega]) op
    refine Ev.succ (((hrow op (.inr (by rfl))).and hrec).mono fun F ⟨k1, k2⟩ => ?_)
    rw [pCells, k1]
    simp only [R.bind]
    rw [hcol hl, if_neg (by simp [bare_cons, isM]), if_neg (by simp [bare_cons, isBreak]), if_neg (by omega), if_neg (by simp [bare_cons, isBreak]), hq, bare_cons, List.tail_cons, k2]
    simp [slot, Tr.row]
   ·rename_i hx2
    cases h
    have hf0 := hf 0 (by simp)
    simp only [List.getElem_cons_zero, Nat.add_zero] at hf0
    have hn : (ks.length + 1) % C = 0 := by simpa using hf0.symm
    have hl := line_end h1 h2 hn
    refine Ev.succ ((hrow op (.inr (by rfl))).mono fun F k1 => ?_)
    rw [pCells, k1]
    simp only [R.bind]
    rw [hcol hl, if_neg (by simp [bare_cons, isM, mk7]), if_neg (by simp [bare_cons, isBreak, isM, mk7]), if_neg (by omega), if_pos (by simp [bare_cons, isBreak, mk7]), bare_cons, List.tail_cons]
    simp [slot, Tr.row]
theorem cells_ne : ∀ f ts cs r, Tr.pCells f ts = some (cs, r) → cs ≠ []
 | 0, _, _, _, h => by rw [Tr.pCells] at h; cases h
 | f + 1, ts, cs, r, h => by
  rw [Tr.pCells] at h
  simp only [Option.bind_eq_some_iff] at h
  obtain ⟨⟨items, p⟩, hr, h⟩ := h
  simp only at h
  split at h
  ·simp only [Option.map_eq_some_iff] at h
   obtain ⟨_, _, h4⟩ := h
   cases h4; exact List.cons_ne_nil _ _
  ·split at h
   ·simp only [Option.map_eq_some_iff] at h
    obtain ⟨_, _, h4⟩ := h
    cases h4; exact List.cons_ne_nil _ _
   ·cases h; exact List.cons_ne_nil _ _
theorem cellsRead (f : Nat) (ih : ∀ g, g < f → Reads g) : CellsRead f := fun ts cs r1 r2 h he hE op => by
 have hne := cells_ne f ts cs r1 h
 have hpos : 1 ≤ Tr.colsOf cs := by
  cases cs with
  | nil => exact absurd rfl hne
  | cons x l =>
   obtain ⟨n, b⟩ := x
   have := colsOf_nonneg l
   rw [Tr.colsOf]
   split <;> omega
 obtain ⟨C, hC⟩ : ∃ C : Nat, Tr.colsOf cs = (C : Int) := ⟨(Tr.colsOf cs).toNat, by omega⟩
 rw [hC] at hE hpos ⊢
 have := cellsS C (by omega) f ih ts cs r1 r2 h he [] 0 0 (by simp) (by simp; omega) (.inl (by simp)) (fun i hi => by
  have h1 : (cs.map (·.2))[i]? = (Tr.ends (C : Int) cs.length)[i]? := by rw [hE]
  simp only [Tr.ends, List.getElem?_map, List.getElem?_range hi, List.getElem?_eq_getElem hi, Option.map_some, Option.some.injEq] at h1
  rw [h1, List.length_nil, Nat.zero_add, decide_eq_decide, show ((i : Int) + 1) % (C : Int) = (((i + 1) % C : Nat) : Int) by rw [Int.natCast_emod]; rfl]
  omega) op
 simpa using this
theorem reads : ∀ f, ∀ g, g ≤ f → Reads g
 | 0 => fun g hg => by
  obtain rfl : g = 0 := by omega
  constructor <;> intro ts a r h <;> first | (rw [Tr.pArg] at h; cases h) | (rw [Tr.pRow] at h; cases h) | (rw [Tr.pBase] at h; cases h) | (rw [Tr.pItem] at h; cases h) | skip
  all_goals (first | (simp [Tr.pArg] at h) | (simp [Tr.pBase] at h))
 | f + 1 => fun g hg => by
  rcases Nat.lt_or_ge g (f + 1) with h | h
  ·exact reads f g (by omega)
  ·obtain rfl : g = f + 1 := by omega
   have ih := reads f f (Nat.le_refl _)
   have hm := cellsRead f fun g hg => reads f g (by omega)
   exact ⟨ih.argS, ih.rowS, ih.baseS hm, ih.itemS⟩
end Go.Proofs.YtdacpbdamliafaaGreat.Np
