/- Part 1 of 12 of a proof; its texts, joined: LxM, TrM, SpM, PlM, WrM, WrN, WrO, PrM, PrD, PrE, PrF, SnM, SnL, SnO. No condition. -/


/- The lexer of layer 18 as plain functions on lists of bytes: no program in sight. -/
namespace Go.Proofs.YtdacpbdamliafaaGreat.Lx
abbrev Bytes := List UInt8
def cls (c : Nat) : Nat :=
 if c = 32 ∨ c = 9 ∨ c = 10 then 1
 else if 48 ≤ c ∧ c ≤ 57 then 2
 else if (97 ≤ c ∧ c ≤ 122) ∨ (65 ≤ c ∧ c ≤ 90) then 3
 else if c ∈ [43, 45, 42, 47, 61, 60, 62, 44, 59, 58, 33, 124, 39, 63, 126, 64] then 4
 else if c ∈ [123, 125, 40, 41, 91, 93, 94, 95, 38] then 5
 else 0
def isB (k : Nat) (b : UInt8) : Bool := cls b.toNat == k
def runLen (k : Nat) (l : Bytes) : Nat := (l.takeWhile (isB k)).length
def isAt (k : Nat) (l : Bytes) (i : Nat) : Bool := match l[i]? with | some b => isB k b | none => false
def clsI (l : Bytes) (i : Nat) : Int := match l[i]? with | some b => (cls b.toNat : Int) | none => -1
theorem clsI_lt (l : Bytes) (i : Nat) (h : i < l.length) : clsI l i = (cls l[i].toNat : Int) := by simp [clsI, List.getElem?_eq_getElem h]
theorem clsI_ge (l : Bytes) (i : Nat) (h : l.length ≤ i) : clsI l i = -1 := by simp [clsI, List.getElem?_eq_none h]
def runI (c : Int) (l : Bytes) (k : Nat) : Nat := ((l.drop k).takeWhile fun b => (cls b.toNat : Int) == c).length
theorem runI_yes (c : Int) (l : Bytes) (k : Nat) (hc : 0 ≤ c) (h : clsI l k = c) : k < l.length ∧ k + 1 + runI c l (k + 1) = k + runI c l k := by
 rcases Nat.lt_or_ge k l.length with hk | hk
 ·refine ⟨hk, ?_⟩
  rw [clsI_lt l k hk] at h
  unfold runI
  rw [List.drop_eq_getElem_cons hk, List.takeWhile_cons]
  simp only [h, BEq.rfl, ↓reduceIte, List.length_cons]
  omega
 ·rw [clsI_ge l k hk] at h; omega
theorem runI_no (c : Int) (l : Bytes) (k : Nat) (h : clsI l k ≠ c) : runI c l k = 0 := by
 unfold runI
 rcases Nat.lt_or_ge k l.length with hk | hk
 ·rw [List.drop_eq_getElem_cons hk, List.takeWhile_cons]
  rw [clsI_lt l k hk] at h
  simp [h]
 ·rw [List.drop_eq_nil_of_le hk]; rfl
theorem runI_le (c : Int) (l : Bytes) (k : Nat) : runI c l k ≤ l.length - k := by
 unfold runI
 have := (List.takeWhile_sublist (fun b : UInt8 => (cls b.toNat : Int) == c) (l := l.drop k)).length_le
 rwa [List.length_drop] at this
structure Tok where
 kind : Nat
 text : Bytes
 deriving DecidableEq
inductive Res where
 | ok (t : Tok) (n : Nat)
 | err (at_ e : Nat)
 deriving DecidableEq
def lim (most : Nat) (t : Tok) (n : Nat) : Res := if most < t.text.length then .err 0 6 else .ok t n
def numLen (r : Bytes) : Nat :=
 if r[runLen 2 r]? = some 46 ∧ isAt 2 r (runLen 2 r + 1) = true then runLen 2 r + 1 + runLen 2 (r.drop (runLen 2 r + 1)) else runLen 2 r
def number (r : Bytes) : Res := lim 20 ⟨2, r.take (numLen r)⟩ (numLen r)
def quo : Bytes → Bytes → Nat → Res
 | [], _, _ => .err 0 12
 | c :: q, acc, i =>
  if c = 34 then lim 200 ⟨3, acc⟩ (i + 1)
  else if c < 32 ∨ 126 < c then .err i 3
  else if c = 92 then
   match q with
   | [] => .err i 3
   | d :: q' => if d = 34 ∨ d = 92 then quo q' (acc ++ [d]) (i + 2) else .err i 3
  else quo q (acc ++ [c]) (i + 1)
def isDelim (b : UInt8) : Bool := [40, 41, 91, 93, 123, 125, 60, 62, 47, 124, 46].contains b
def delimAt (r : Bytes) (i : Nat) : Bool := match r[i]? with | some b => isDelim b | none => false
def name (r : Bytes) : Res :=
 let n := runLen 3 (r.drop 1)
 if (r.drop 1).take n ≠ [102, 101, 110, 99, 101] then lim 16 ⟨4, (r.drop 1).take n⟩ (1 + n)
 else if delimAt r (1 + n) = true ∧ delimAt r (2 + n) = true then .ok ⟨5, (r.drop (1 + n)).take 2⟩ (3 + n)
 else .err 0 3
def parAt (q : Bytes) : Bool := match q with | d :: _ => decide (49 ≤ d ∧ d ≤ 52) | [] => false
def next (r : Bytes) : Res :=
 match r with
 | [] => .err 0 3
 | c :: q =>
  if isB 2 c then number r
  else if isB 5 c then .ok ⟨7, [c]⟩ 1
  else if c = 34 then quo q [] 1
  else if c = 92 ∧ q.head? = some 92 then .ok ⟨8, [92, 92]⟩ 2
  else if c = 92 ∧ isAt 3 q 0 = true then name r
  else if c = 35 ∧ parAt q = true then .ok ⟨6, q.take 1⟩ 2
  else if isB 3 c ∨ isB 4 c then .ok ⟨1, [c]⟩ 1
  else .err 0 3
theorem quo_end (l acc : Bytes) (j i : Nat) (h : l.length ≤ j) : quo (l.drop j) acc i = .err 0 12 := by rw [List.drop_eq_nil_of_le h]; rfl
theorem quo_cons (l acc : Bytes) (j i : Nat) (h : j < l.length) : quo (l.drop j) acc i =
  if l[j] = 34 then lim 200 ⟨3, acc⟩ (i + 1)
  else if l[j] < 32 ∨ 126 < l[j] then .err i 3
  else if l[j] = 92 then
   match l.drop (j + 1) with
   | [] => .err i 3
   | d :: q' => if d = 34 ∨ d = 92 then quo q' (acc ++ [d]) (i + 2) else .err i 3
  else quo (l.drop (j + 1)) (acc ++ [l[j]]) (i + 1) := by
 rw [List.drop_eq_getElem_cons h]
 rw [quo.eq_def]
theorem quo_esc (l acc : Bytes) (j i : Nat) (h : j < l.length) (hc : l[j] = 92) (h1 : j + 1 < l.length) : quo (l.drop j) acc i =
  if l[j + 1] = 34 ∨ l[j + 1] = 92 then quo (l.drop (j + 2)) (acc ++ [l[j + 1]]) (i + 2) else .err i 3 := by
 rw [quo_cons l acc j i h, hc, if_neg (by decide), if_neg (by decide), if_pos rfl, List.drop_eq_getElem_cons h1]
theorem quo_esc_end (l acc : Bytes) (j i : Nat) (h : j < l.length) (hc : l[j] = 92) (h1 : l.length ≤ j + 1) : quo (l.drop j) acc i = .err i 3 := by
 rw [quo_cons l acc j i h, hc, if_neg (by decide), if_neg (by decide), if_pos rfl, List.drop_eq_nil_of_le h1]
theorem quo_plain (l acc : Bytes) (j i : Nat) (h : j < l.length) (h1 : l[j] ≠ 34) (h2 : ¬ (l[j] < 32 ∨ 126 < l[j])) (h3 : l[j] ≠ 92) : quo (l.drop j) acc i = quo (l.drop (j + 1)) (acc ++ [l[j]]) (i + 1) := by
 rw [quo_cons l acc j i h, if_neg h1, if_neg h2, if_neg h3]
structure PTok where
 kind : Nat
 text : Bytes
 from_ : Nat
 to_ : Nat
 deriving DecidableEq
def skip (l : Bytes) (a : Nat) : Nat := a + runI 1 l a
def lexGo (l : Bytes) : Nat → Nat → List PTok × Option (Nat × Nat)
 | 0, _ => ([], none)
 | fuel + 1, a =>
  if l.length ≤ skip l a then ([], none)
  else match next (l.drop (skip l a)) with
   | .err i e => ([], some (skip l a + i, e))
   | .ok t n => (⟨t.kind, t.text, skip l a, skip l a + n⟩ :: (lexGo l fuel (skip l a + n)).1, (lexGo l fuel (skip l a + n)).2)
theorem lim_ok {most : Nat} {t t' : Tok} {n n' : Nat} (h : lim most t n = .ok t' n') : t' = t ∧ n' = n := by
 unfold lim at h
 split at h
 ·cases h
 ·injection h with h1 h2; exact ⟨h1.symm, h2.symm⟩
theorem quo_pos : ∀ (q acc : Bytes) (i : Nat) (t : Tok) (n : Nat), quo q acc i = .ok t n → i < n ∧ n ≤ i + q.length
 | [], _, _, _, _, h => by rw [quo.eq_def] at h; cases h
 | [c], acc, i, t, n, h => by
  rw [quo.eq_def] at h
  simp only at h
  split at h
  ·have := (lim_ok h).2; simp; omega
  ·split at h
   ·cases h
   ·split at h
    ·cases h
    ·rw [quo.eq_def] at h; cases h
 | c :: d :: q, acc, i, t, n, h => by
  rw [quo.eq_def] at h
  simp only at h
  split at h
  ·have := (lim_ok h).2; simp; omega
  ·split at h
   ·cases h
   ·split at h
    ·split at h
     ·have := quo_pos q _ _ _ _ h; simp; omega
     ·cases h
    ·have := quo_pos (d :: q) _ _ _ _ h; simp at this ⊢; omega
theorem runLen_le (k : Nat) (l : Bytes) : runLen k l ≤ l.length := (List.takeWhile_sublist _).length_le
theorem numLen_le (r : Bytes) : numLen r ≤ r.length := by
 unfold numLen
 split
 ·rename_i h
  have h1 := runLen_le 2 (r.drop (runLen 2 r + 1))
  rw [List.length_drop] at h1
  have h2 := h.1
  have h3 : runLen 2 r < r.length := (List.getElem?_eq_some_iff.1 h2).1
  omega
 ·exact runLen_le 2 r
theorem next_pos (r : Bytes) (t : Tok) (n : Nat) (h : next r = .ok t n) : 0 < n ∧ n ≤ r.length := by
 unfold next at h
 split at h
 ·cases h
 ·rename_i c q
  split at h
  ·rename_i hc
   obtain ⟨_, rfl⟩ := lim_ok h
   refine ⟨?_, numLen_le _⟩
   have : 0 < runLen 2 (c :: q) := by unfold runLen; rw [List.takeWhile_cons, if_pos hc]; simp
   unfold numLen
   split <;> omega
  ·split at h
   ·cases h; simp
   ·split at h
    ·have := quo_pos _ _ _ _ _ h; simp; omega
    ·split at h
     ·rename_i hc
      cases h
      cases q with
      | nil => cases hc.2
      | cons => simp
     ·split at h
      ·unfold name at h
       simp only at h
       have hr := runLen_le 3 ((c :: q).drop 1)
       simp only [List.drop_succ_cons, List.drop_zero] at hr
       split at h
       ·obtain ⟨_, rfl⟩ := lim_ok h
        simp only [List.drop_succ_cons, List.drop_zero, List.length_cons]; omega
       ·split at h
        ·rename_i hd
         injection h with _ h2
         subst h2
         have hx := hd.2
         unfold delimAt at hx
         split at hx
         ·rename_i b hb
          have := (List.getElem?_eq_some_iff.1 hb).1
          simp only [List.drop_succ_cons, List.drop_zero, List.length_cons] at *
          omega
         ·cases hx
        ·cases h
      ·split at h
       ·rename_i hc
        cases h
        cases q with
        | nil => cases hc.2
        | cons => simp
       ·split at h
        ·cases h; simp
        ·cases h
theorem skip_le (l : Bytes) (a : Nat) (h : a ≤ l.length) : a ≤ skip l a ∧ skip l a ≤ l.length := by
 have := runI_le 1 l a
 unfold skip; omega
theorem lexGo_fuel (l : Bytes) : ∀ (f g a : Nat), l.length < a + f → l.length < a + g → lexGo l f a = lexGo l g a
 | 0, g, a, hf, hg => by
  cases g with
  | zero => rfl
  | succ g => rw [lexGo, lexGo, if_pos (by unfold skip; omega)]
 | f + 1, 0, a, hf, hg => by rw [lexGo, lexGo, if_pos (by unfold skip; omega)]
 | f + 1, g + 1, a, hf, hg => by
  rw [lexGo, lexGo]
  split
  ·rfl
  ·rename_i hl
   cases hn : next (l.drop (skip l a)) with
   | err i e => rfl
   | ok t n =>
    have hp := (next_pos _ _ _ hn).1
    have : skip l a + n = skip l a + n := rfl
    simp only
    rw [lexGo_fuel l f g (skip l a + n) (by unfold skip; omega) (by unfold skip; omega)]
def lexAll (l : Bytes) : List PTok × Option (Nat × Nat) := lexGo l (l.length + 1) 0
def lexFrom (l : Bytes) (a : Nat) : List PTok × Option (Nat × Nat) := lexGo l (l.length + 1) a
theorem lexFrom_end (l : Bytes) (a : Nat) (h : l.length ≤ skip l a) : lexFrom l a = ([], none) := by unfold lexFrom; rw [lexGo, if_pos h]
theorem lexFrom_err (l : Bytes) (a i e : Nat) (h : skip l a < l.length) (hn : next (l.drop (skip l a)) = .err i e) : lexFrom l a = ([], some (skip l a + i, e)) := by
 unfold lexFrom; rw [lexGo, if_neg (by omega), hn]
theorem lexFrom_ok (l : Bytes) (a n : Nat) (t : Tok) (h : skip l a < l.length) (hn : next (l.drop (skip l a)) = .ok t n) :
  lexFrom l a = (⟨t.kind, t.text, skip l a, skip l a + n⟩ :: (lexFrom l (skip l a + n)).1, (lexFrom l (skip l a + n)).2) := by
 have hp := (next_pos _ _ _ hn).1
 unfold lexFrom
 conv => lhs; rw [lexGo, if_neg (by omega), hn]
 simp only
 rw [lexGo_fuel l l.length (l.length + 1) (skip l a + n) (by unfold skip; omega) (by omega)]
theorem lim_err {most : Nat} {t : Tok} {n i e : Nat} (h : lim most t n = .err i e) : e ≠ 0 := by
 unfold lim at h
 split at h
 ·cases h; decide
 ·cases h
theorem quo_err : ∀ (q acc : Bytes) (i a e : Nat), quo q acc i = .err a e → e ≠ 0
 | [], _, _, _, _, h => by rw [quo.eq_def] at h; cases h; decide
 | [c], acc, i, a, e, h => by
  rw [quo.eq_def] at h
  simp only at h
  split at h
  ·exact lim_err h
  ·split at h
   ·cases h; decide
   ·split at h
    ·cases h; decide
    ·rw [quo.eq_def] at h; cases h; decide
 | c :: d :: q, acc, i, a, e, h => by
  rw [quo.eq_def] at h
  simp only at h
  split at h
  ·exact lim_err h
  ·split at h
   ·cases h; decide
   ·split at h
    ·split at h
     ·exact quo_err q _ _ _ _ h
     ·cases h; decide
    ·exact quo_err (d :: q) _ _ _ _ h
theorem next_err (r : Bytes) (i e : Nat) (h : next r = .err i e) : e ≠ 0 := by
 unfold next at h
 split at h
 ·cases h; decide
 ·split at h
  ·exact lim_err h
  ·split at h
   ·cases h
   ·split at h
    ·exact quo_err _ _ _ _ _ h
    ·split at h
     ·cases h
     ·split at h
      ·unfold name at h
       simp only at h
       split at h
       ·exact lim_err h
       ·split at h
        ·cases h
        ·cases h; decide
      ·split at h
       ·cases h
       ·split at h
        ·cases h
        ·cases h; decide
theorem lexGo_err (l : Bytes) : ∀ (f a p e : Nat), (lexGo l f a).2 = some (p, e) → e ≠ 0
 | 0, _, _, _, h => by cases h
 | f + 1, a, p, e, h => by
  rw [lexGo] at h
  split at h
  ·cases h
  ·cases hn : next (l.drop (skip l a)) with
   | err i er =>
    rw [hn] at h
    simp only [Option.some.injEq, Prod.mk.injEq] at h
    obtain ⟨_, rfl⟩ := h
    exact next_err _ _ _ hn
   | ok t n =>
    rw [hn] at h
    exact lexGo_err l f _ p e h
end Go.Proofs.YtdacpbdamliafaaGreat.Lx

/- Formula trees as plain data, and when they are valid: no program in sight. -/
namespace Go.Proofs.YtdacpbdamliafaaGreat.Tr
abbrev Bytes := List UInt8
inductive Nd where
 | mk (kind : Int) (text : Bytes) (cols : Int) (kids : List Nd)
namespace Nd
def kind : Nd → Int | mk k _ _ _ => k
def text : Nd → Bytes | mk _ t _ _ => t
def cols : Nd → Int | mk _ _ c _ => c
def kids : Nd → List Nd | mk _ _ _ ks => ks
end Nd
theorem Nd.eta (n : Nd) : n = .mk n.kind n.text n.cols n.kids := by cases n; rfl
mutual
def count : Nd → Nat
 | .mk _ _ _ ks => 1 + countL ks
def countL : List Nd → Nat
 | [] => 0
 | n :: ns => count n + countL ns
end
mutual
def depth : Nd → Nat
 | .mk _ _ _ ks => depthL ks + 1
def depthL : List Nd → Nat
 | [] => 0
 | n :: ns => max (depth n) (depthL ns)
end
theorem count_pos (n : Nd) : 0 < count n := by cases n; rw [count]; omega
theorem depth_pos (n : Nd) : 0 < depth n := by cases n; rw [depth]; omega
theorem count_kids (n : Nd) : count n = 1 + countL n.kids := by cases n; rw [count]; rfl
theorem depth_kids (n : Nd) : depth n = depthL n.kids + 1 := by cases n; rw [depth]; rfl
theorem countL_take (l : List Nd) (i : Nat) (h : i < l.length) : countL (l.take (i + 1)) = countL (l.take i) + count l[i] := by
 induction l generalizing i with
 | nil => simp at h
 | cons x l ih =>
  cases i with
  | zero => simp [countL]
  | succ i =>
   simp only [List.take_succ_cons, countL, List.getElem_cons_succ]
   rw [ih i (by simpa using h)]; omega
theorem countL_le (l : List Nd) (i : Nat) : countL (l.take i) ≤ countL l := by
 induction l generalizing i with
 | nil => simp [countL]
 | cons x l ih =>
  cases i with
  | zero => simp [countL]
  | succ i => simp only [List.take_succ_cons, countL]; have := ih i; omega
theorem count_mem {l : List Nd} {n : Nd} (h : n ∈ l) : count n ≤ countL l := by
 induction l with
 | nil => cases h
 | cons x l ih =>
  rw [countL]
  rcases List.mem_cons.1 h with rfl | h
  ·omega
  ·have := ih h; omega
theorem countL_len (l : List Nd) : l.length ≤ countL l := by
 induction l with
 | nil => simp [countL]
 | cons x l ih => rw [countL]; have := count_pos x; simp; omega
theorem Nd.ind {p : Nd → Prop} (h : ∀ n, (∀ m ∈ n.kids, p m) → p n) (n : Nd) : p n := by
 have : ∀ k n, count n ≤ k → p n := by
  intro k
  induction k with
  | zero => intro n hn; have := count_pos n; omega
  | succ k ih =>
   intro n hn
   refine h n fun m hm => ih m ?_
   have := count_mem hm
   have := count_kids n
   omega
 exact this _ n (Nat.le_refl _)
def letter (b : UInt8) : Bool := (decide (97 ≤ b) && decide (b ≤ 122)) || (decide (65 ≤ b) && decide (b ≤ 90))
def digit (b : UInt8) : Bool := decide (48 ≤ b) && decide (b ≤ 57)
def signs : Bytes := [43, 45, 42, 47, 61, 60, 62, 44, 59, 58, 33, 124, 39, 63, 126, 64]
def delims : Bytes := [40, 41, 91, 93, 123, 125, 124, 60, 62, 47, 46]
def keywords : List Bytes := [[102, 114, 97, 99], [114, 111, 111, 116], [109, 97, 116, 114, 105, 120], [102, 101, 110, 99, 101]]
def accents : List Bytes := [[104, 97, 116], [98, 97, 114], [118, 101, 99], [100, 111, 116], [116, 105, 108, 100, 101], [99, 104, 101, 99, 107]]
def character (b : UInt8) : Bool := letter b || signs.contains b
def symbol (s : Bytes) : Bool :=
 match s with
 | [c] => character c
 | s => s.all letter && decide (2 ≤ s.length) && decide (s.length ≤ 16) && !keywords.contains s && !accents.contains s
def isNum (s : Bytes) : Bool :=
 decide (s.length ≤ 20) && decide (s ≠ []) &&
 (s.all digit || match s.dropWhile (· ≠ 46) with | _ :: b => decide (s.takeWhile (· ≠ 46) ≠ []) && (s.takeWhile (· ≠ 46)).all digit && decide (b ≠ []) && b.all digit | [] => false)
def printable (s : Bytes) : Bool := s.all fun b => decide (32 ≤ b) && decide (b ≤ 126)
def fence (s : Bytes) : Bool := match s with | [a, b] => delims.contains a && delims.contains b | _ => false
def textOK (k : Int) (s : Bytes) : Bool :=
 if k = 2 then symbol s else if k = 3 then isNum s else if k = 4 then decide (s.length ≤ 200) && printable s
 else if k = 10 then accents.contains s else if k = 11 then fence s else s.isEmpty
def kidsOK (k c : Int) (n : Nat) : Bool :=
 if k = 12 then decide (1 ≤ c) && decide (c ≤ 16) && decide (1 ≤ n) && decide (n ≤ 256) && decide ((n : Int) % c = 0)
 else if c ≠ 0 then false
 else if k = 1 then decide (n ≤ 200)
 else if k = 2 ∨ k = 3 ∨ k = 4 then decide (n = 0)
 else if k = 5 ∨ k = 6 ∨ k = 7 ∨ k = 8 then decide (n = 2)
 else if k = 9 then decide (n = 3)
 else if k = 10 ∨ k = 11 then decide (n = 1)
 else false
mutual
def form : Nd → Bool
 | .mk k t c ks => textOK k t && kidsOK k c ks.length && formL (k == 1) ks
def formL : Bool → List Nd → Bool
 | _, [] => true
 | r, n :: ns => ((n.kind == 1) != r) && form n && formL r ns
end
def valid (n : Nd) : Bool := (n.kind == 1) && form n && decide (count n ≤ 1000) && decide (depth n ≤ 24)
mutual
def eqN : Nd → Nd → Bool
 | .mk k t c ks, .mk k' t' c' ks' => (k == k') && (t == t') && (c == c') && eqL ks ks'
def eqL : List Nd → List Nd → Bool
 | [], [] => true
 | n :: ns, m :: ms => eqN n m && eqL ns ms
 | _, _ => false
end
theorem eqL_len : ∀ (l m : List Nd), l.length ≠ m.length → eqL l m = false
 | [], [], h => absurd rfl h
 | x :: l, y :: m, h => by rw [eqL, eqL_len l m (by simpa using h), Bool.and_false]
 | [], _ :: _, _ => by simp [eqL]
 | _ :: _, [], _ => by simp [eqL]
theorem form_eq (n : Nd) : form n = (textOK n.kind n.text && kidsOK n.kind n.cols n.kids.length && formL (n.kind == 1) n.kids) := by
 cases n; rw [form]; rfl
theorem formL_take (r : Bool) : ∀ (l : List Nd) (i : Nat) (h : i < l.length), formL r (l.take (i + 1)) = (formL r (l.take i) && (((l[i].kind == 1) != r) && form l[i]))
 | [], i, h => by simp at h
 | x :: l, 0, h => by simp [formL]
 | x :: l, i + 1, h => by
  simp only [List.take_succ_cons, formL, List.getElem_cons_succ]
  rw [formL_take r l i (by simpa using h)]
  simp only [Bool.and_assoc]
theorem formL_no (r : Bool) : ∀ (l : List Nd) (i : Nat) (h : i < l.length), (((l[i].kind == 1) != r) && form l[i]) = false → formL r l = false
 | [], i, h, _ => by simp at h
 | x :: l, 0, h, hn => by simp only [List.getElem_cons_zero] at hn; rw [formL, hn, Bool.false_and]
 | x :: l, i + 1, h, hn => by
  simp only [List.getElem_cons_succ] at hn
  rw [formL, formL_no r l i (by simpa using h) hn, Bool.and_false]
theorem eqN_eq (n m : Nd) : eqN n m = ((n.kind == m.kind) && (n.text == m.text) && (n.cols == m.cols) && eqL n.kids m.kids) := by
 cases n; cases m; rw [eqN]; rfl
theorem eqN_iff (n : Nd) : ∀ m, eqN n m = true ↔ n = m := by
 induction n using Nd.ind with
 | h n ih =>
  intro m
  have hL : ∀ (l l' : List Nd), (∀ x ∈ l, ∀ y, eqN x y = true ↔ x = y) → (eqL l l' = true ↔ l = l') := by
   intro l
   induction l with
   | nil =>
    intro l' _
    cases l' with
    | nil => simp [eqL]
    | cons y l' => simp [eqL]
   | cons x l ih2 =>
    intro l' h
    cases l' with
    | nil => simp [eqL]
    | cons y l' =>
     rw [eqL, Bool.and_eq_true, h x (by simp) y, ih2 l' (fun z hz => h z (by simp [hz]))]
     simp
  rw [eqN_eq, Bool.and_eq_true, Bool.and_eq_true, Bool.and_eq_true, hL n.kids m.kids ih, beq_iff_eq, beq_iff_eq, beq_iff_eq, Nd.eta n, Nd.eta m]
  simp [Nd.kind, Nd.text, Nd.cols, Nd.kids, and_assoc]
end Go.Proofs.YtdacpbdamliafaaGreat.Tr

/- The spelling of tokens as a plain function. -/
namespace Go.Proofs.YtdacpbdamliafaaGreat.Lx
def escB (b : UInt8) : Bytes := if b = 34 ∨ b = 92 then [92, b] else [b]
def esc (l : Bytes) : Bytes := l.flatMap escB
def quoteL (l : Bytes) : Bytes := 34 :: (esc l ++ [34])
def spellL (k : Int) (t : Bytes) : Bytes :=
 if k = 3 then quoteL t else if k = 4 then 92 :: t else if k = 5 then [92, 102, 101, 110, 99, 101] ++ t else if k = 6 then 35 :: t else t
theorem esc_len (l : Bytes) : (esc l).length ≤ 2 * l.length := by
 induction l with
 | nil => simp [esc]
 | cons b l ih =>
  have : (escB b).length ≤ 2 := by unfold escB; split <;> simp
  simp [esc] at ih ⊢; omega
theorem esc_snoc (l : Bytes) (b : UInt8) : esc (l ++ [b]) = esc l ++ escB b := by simp [esc]
end Go.Proofs.YtdacpbdamliafaaGreat.Lx

/- The plain law of the places of tokens. -/
namespace Go.Proofs.YtdacpbdamliafaaGreat.Lx
def okFrom (l : Bytes) : Nat → List PTok → Prop
 | a, [] => a ≤ l.length ∧ (l.drop a).all (isB 1) = true
 | a, t :: ts => a ≤ t.from_ ∧ t.from_ < t.to_ ∧ t.to_ ≤ l.length ∧ ((l.drop a).take (t.from_ - a)).all (isB 1) = true ∧ (l.drop t.from_).take (t.to_ - t.from_) = spellL t.kind t.text ∧ okFrom l t.to_ ts
theorem spellL_len (k : Int) (t : Bytes) : t.length ≤ (spellL k t).length := by
 have he : ∀ l : Bytes, l.length ≤ (esc l).length := fun l => by
  induction l with
  | nil => simp
  | cons b l ih =>
   have : 1 ≤ (escB b).length := by unfold escB; split <;> simp
   simp [esc] at ih ⊢; omega
 unfold spellL
 have := he t
 repeat' split
 ·simp [quoteL]; omega
 ·simp
 ·simp; omega
 ·simp
 ·exact Nat.le_refl _
theorem lim_as {most : Nat} {t t' : Tok} {n n' : Nat} (h : lim most t n = .ok t' n') : t = t' ∧ n = n' := by
 obtain ⟨h1, h2⟩ := lim_ok h
 exact ⟨h1.symm, h2.symm⟩
theorem quo_spell : ∀ (q acc : Bytes) (i : Nat) (t : Tok) (n : Nat), quo q acc i = .ok t n → t.kind = 3 ∧ ∃ x, t.text = acc ++ x ∧ i < n ∧ q.take (n - i) = esc x ++ [34]
 | [], acc, i, t, n, h => by simp [quo] at h
 | c :: q, acc, i, t, n, h => by
  unfold quo at h
  split at h
  ·rename_i hc
   obtain ⟨h1, h2⟩ := lim_as h
   subst h1 h2 hc
   exact ⟨rfl, [], by simp, by omega, by simp [esc]⟩
  ·rename_i hc
   split at h
   ·cases h
   ·split at h
    ·rename_i hc2
     subst hc2
     cases q with
     | nil => simp at h
     | cons d q' =>
      simp only at h
      split at h
      ·rename_i hd
       obtain ⟨h1, x, h2, h3, h4⟩ := quo_spell q' _ _ t n h
       refine ⟨h1, d :: x, by rw [h2]; simp, by omega, ?_⟩
       have e1 : n - i = (n - (i + 2)) + 1 + 1 := by omega
       rw [e1, List.take_succ_cons, List.take_succ_cons, h4]
       have : escB d = [92, d] := by unfold escB; rw [if_pos hd]
       simp [esc, this]
      ·cases h
    ·rename_i hc2
     obtain ⟨h1, x, h2, h3, h4⟩ := quo_spell q _ _ t n h
     refine ⟨h1, c :: x, by rw [h2]; simp, by omega, ?_⟩
     have e1 : n - i = (n - (i + 1)) + 1 := by omega
     rw [e1, List.take_succ_cons, h4]
     have : escB c = [c] := by unfold escB; rw [if_neg (by rintro (h | h) <;> contradiction)]
     simp [esc, this]
theorem next_spell (r : Bytes) (t : Tok) (n : Nat) (h : next r = .ok t n) : r.take n = spellL t.kind t.text := by
 cases r with
 | nil => simp [next] at h
 | cons c q =>
  rw [next] at h
  split at h
  ·obtain ⟨h1, h2⟩ := lim_as h
   subst h1 h2; rfl
  ·split at h
   ·cases h; rfl
   ·split at h
    ·rename_i hc
     obtain ⟨h1, x, h2, h3, h4⟩ := quo_spell q [] 1 t n h
     have e1 : n = (n - 1) + 1 := by omega
     rw [e1, List.take_succ_cons, h4, h1, h2, hc]
     simp [spellL, quoteL]
    ·split at h
     ·rename_i hc
      obtain ⟨h1, h2⟩ := hc
      cases h
      cases q with
      | nil => simp at h2
      | cons d q' => simp at h2; subst h1 h2; rfl
     ·split at h
      ·rename_i hc
       obtain ⟨hc, _⟩ := hc
       subst hc
       unfold name at h
       simp only [List.drop_succ_cons, List.drop_zero] at h
       split at h
       ·obtain ⟨h1, h2⟩ := lim_as h
        subst h1 h2
        rw [Nat.add_comm 1, List.take_succ_cons]; rfl
       ·rename_i hf
        simp only [ne_eq, Decidable.not_not] at hf
        split at h
        ·cases h
         rw [show 3 + runLen 3 q = (runLen 3 q + 2) + 1 by omega, List.take_succ_cons, List.take_add, hf, Nat.add_comm 1, List.drop_succ_cons]
         rfl
        ·cases h
      ·split at h
       ·rename_i hc
        obtain ⟨h1, _⟩ := hc
        cases h
        subst h1
        rfl
       ·split at h
        ·cases h; rfl
        ·cases h
theorem skip_blank (l : Bytes) (a : Nat) : ((l.drop a).take (skip l a - a)).all (isB 1) = true := by
 have : skip l a - a = ((l.drop a).takeWhile (fun b => (cls b.toNat : Int) == 1)).length := by unfold skip runI; omega
 rw [this]
 have hp : (fun b : UInt8 => (cls b.toNat : Int) == 1) = isB 1 := by
  funext b
  unfold isB
  rw [Bool.eq_iff_iff, beq_iff_eq, beq_iff_eq]
  omega
 rw [hp]
 generalize l.drop a = m
 induction m with
 | nil => rfl
 | cons b m ih =>
  rw [List.takeWhile_cons]
  split
  ·rename_i hb; simp [hb, ih]
  ·rfl
theorem lexGo_places (l : Bytes) : ∀ (f a : Nat), a ≤ l.length → l.length < a + f → (lexGo l f a).2 = none → okFrom l a (lexGo l f a).1
 | 0, a, h1, h2, _ => by omega
 | f + 1, a, h1, h2, h => by
  obtain ⟨s1, s2⟩ := skip_le l a h1
  have hb := skip_blank l a
  rw [lexGo] at h ⊢
  split at h
  ·rename_i hs
   rw [if_pos hs]
   refine ⟨h1, ?_⟩
   have : skip l a = l.length := by omega
   rw [this, List.take_of_length_le (by simp)] at hb
   exact hb
  ·rename_i hs
   rw [if_neg hs]
   cases hn : next (l.drop (skip l a)) with
   | err i e => rw [hn] at h; cases h
   | ok t n =>
    rw [hn] at h
    obtain ⟨n1, n2⟩ := next_pos _ _ _ hn
    rw [List.length_drop] at n2
    have := next_spell _ _ _ hn
    refine ⟨s1, by simp only; omega, by simp only; omega, hb, ?_, lexGo_places l f _ (by simp only; omega) (by simp only; omega) h⟩
    rw [show skip l a + n - skip l a = n by omega, this]
theorem lexGo_count (l : Bytes) : ∀ (f a : Nat), a ≤ l.length → (lexGo l f a).1.length + a ≤ l.length
 | 0, a, h1 => by simpa [lexGo] using h1
 | f + 1, a, h1 => by
  obtain ⟨s1, s2⟩ := skip_le l a h1
  rw [lexGo]
  split
  ·simpa using h1
  ·cases hn : next (l.drop (skip l a)) with
   | err i e => simpa using h1
   | ok t n =>
    obtain ⟨n1, n2⟩ := next_pos _ _ _ hn
    rw [List.length_drop] at n2
    have := lexGo_count l f (skip l a + n) (by omega)
    simp only [List.length_cons]; omega
theorem lexAll_places (l : Bytes) (h : (lexAll l).2 = none) : okFrom l 0 (lexAll l).1 := lexGo_places l _ _ (Nat.zero_le _) (by omega) h
theorem lexAll_count (l : Bytes) : (lexAll l).1.length ≤ l.length := lexGo_count l _ 0 (Nat.zero_le _)
theorem lim_err0 {most : Nat} {t : Tok} {n i e : Nat} (h : lim most t n = .err i e) : i = 0 := by
 unfold lim at h; split at h
 ·cases h; rfl
 ·cases h
theorem quo_err_le : ∀ (q acc : Bytes) (i a e : Nat), quo q acc i = .err a e → a ≤ i + q.length
 | [], acc, i, a, e, h => by simp [quo] at h; omega
 | c :: q, acc, i, a, e, h => by
  unfold quo at h
  split at h
  ·have := lim_err0 h; omega
  ·split at h
   ·cases h; omega
   ·split at h
    ·cases q with
     | nil => simp at h; obtain ⟨h1, _⟩ := h; omega
     | cons d q' =>
      simp only at h
      split at h
      ·have := quo_err_le q' _ _ a e h; simp only [List.length_cons]; omega
      ·cases h; omega
    ·have := quo_err_le q _ _ a e h; simp only [List.length_cons]; omega
theorem next_err_le (r : Bytes) (i e : Nat) (h : next r = .err i e) : i ≤ r.length := by
 cases r with
 | nil => simp [next] at h; omega
 | cons c q =>
  rw [next] at h
  split at h
  ·have := lim_err0 h; omega
  ·split at h
   ·cases h
   ·split at h
    ·have := quo_err_le q [] 1 i e h; simp only [List.length_cons]; omega
    ·split at h
     ·cases h
     ·split at h
      ·unfold name at h
       simp only at h
       split at h
       ·have := lim_err0 h; omega
       ·split at h
        ·cases h
        ·cases h; omega
      ·split at h
       ·cases h
       ·split at h
        ·cases h
        ·cases h; omega
theorem lexGo_err_le (l : Bytes) : ∀ (f a p e : Nat), a ≤ l.length → (lexGo l f a).2 = some (p, e) → p ≤ l.length
 | 0, a, p, e, _, h => by simp [lexGo] at h
 | f + 1, a, p, e, h1, h => by
  obtain ⟨s1, s2⟩ := skip_le l a h1
  rw [lexGo] at h
  split at h
  ·cases h
  ·cases hn : next (l.drop (skip l a)) with
   | err i e' =>
    rw [hn] at h
    have := next_err_le _ _ _ hn
    rw [List.length_drop] at this
    simp only [Option.some.injEq, Prod.mk.injEq] at h
    omega
   | ok t n =>
    rw [hn] at h
    obtain ⟨n1, n2⟩ := next_pos _ _ _ hn
    rw [List.length_drop] at n2
    exact lexGo_err_le l f (skip l a + n) p e (by omega) h
theorem lexAll_err_le (l : Bytes) (p e : Nat) (h : (lexAll l).2 = some (p, e)) : p ≤ l.length := lexGo_err_le l _ 0 p e (Nat.zero_le _) h
end Go.Proofs.YtdacpbdamliafaaGreat.Lx

/- The plain law of writing tokens and reading them again. -/
namespace Go.Proofs.YtdacpbdamliafaaGreat.Lx
def TokOK (t : Tok) : Prop :=
 (t.kind = 1 ∧ ∃ c, t.text = [c] ∧ (isB 3 c = true ∨ isB 4 c = true)) ∨
 (t.kind = 2 ∧ t.text.length ≤ 20 ∧ ∃ ds, ds ≠ [] ∧ ds.all (isB 2) = true ∧ (t.text = ds ∨ ∃ es, es ≠ [] ∧ es.all (isB 2) = true ∧ t.text = ds ++ 46 :: es)) ∨
 (t.kind = 3 ∧ t.text.length ≤ 200 ∧ t.text.all (fun b => decide (32 ≤ b ∧ b ≤ 126)) = true) ∨
 (t.kind = 4 ∧ t.text.length ≤ 16 ∧ t.text ≠ [] ∧ t.text.all (isB 3) = true ∧ t.text ≠ [102, 101, 110, 99, 101]) ∨
 (t.kind = 5 ∧ ∃ a b, t.text = [a, b] ∧ isDelim a = true ∧ isDelim b = true) ∨
 (t.kind = 6 ∧ ∃ d, t.text = [d] ∧ 49 ≤ d ∧ d ≤ 52) ∨
 (t.kind = 7 ∧ ∃ c, t.text = [c] ∧ isB 5 c = true) ∨
 (t.kind = 8 ∧ t.text = [92, 92])
def spell (t : Tok) : Bytes := spellL t.kind t.text
def join (a b : Tok) : Bool := (a.kind == 2 && b.kind == 2) || (a.kind == 4 && b.kind == 1 && (match b.text with | [] => false | c :: _ => isB 3 c))
def headNot (k : Nat) (q : Bytes) : Prop := ∀ c, q.head? = some c → isB k c = false
def okAfter (t : Tok) (q : Bytes) : Prop := (t.kind = 2 → headNot 2 q ∧ q.head? ≠ some 46) ∧ (t.kind = 4 → headNot 3 q)
theorem isB_unique {j k : Nat} {c : UInt8} (h : isB j c = true) (hk : j ≠ k) : isB k c = false := by
 unfold isB at *
 rw [beq_iff_eq] at h
 rw [h]; simpa using hk
theorem runLen_app (k : Nat) (x y : Bytes) (hx : x.all (isB k) = true) (hy : headNot k y) : runLen k (x ++ y) = x.length := by
 unfold runLen
 induction x with
 | nil =>
  cases y with
  | nil => rfl
  | cons c y => rw [List.nil_append, List.takeWhile_cons, hy c rfl]; rfl
 | cons c x ih =>
  simp only [List.all_cons, Bool.and_eq_true] at hx
  rw [List.cons_append, List.takeWhile_cons, if_pos hx.1, List.length_cons, ih hx.2, List.length_cons]
theorem runLen_split (k : Nat) (r : Bytes) : ∃ y, r = r.take (runLen k r) ++ y ∧ (r.take (runLen k r)).all (isB k) = true ∧ headNot k y ∧ y = r.drop (runLen k r) := by
 unfold runLen
 induction r with
 | nil => exact ⟨[], rfl, rfl, (fun c h => nomatch h), rfl⟩
 | cons c r ih =>
  rw [List.takeWhile_cons]
  cases hc : isB k c with
  | true =>
   obtain ⟨y, h1, h2, h3, h4⟩ := ih
   refine ⟨y, ?_, ?_, h3, ?_⟩
   ·simp only [if_true, List.length_cons, List.take_succ_cons, List.cons_append]; rw [← h1]
   ·simp only [if_true, List.length_cons, List.take_succ_cons, List.all_cons, hc, h2]; rfl
   ·simpa using h4
  | false => exact ⟨c :: r, rfl, rfl, fun d h => by cases h; exact hc, rfl⟩
theorem isAt_split (k : Nat) (x y : Bytes) : isAt k (x ++ y) x.length = (match y with | [] => false | c :: _ => isB k c) := by
 unfold isAt
 rw [List.getElem?_append_right (Nat.le_refl _), Nat.sub_self]
 cases y <;> rfl
theorem numLen_plain (ds q : Bytes) (h : ds.all (isB 2) = true) (hq : headNot 2 q) (h46 : q.head? ≠ some 46) : numLen (ds ++ q) = ds.length := by
 unfold numLen
 rw [runLen_app 2 ds q h hq, if_neg]
 rintro ⟨h1, _⟩
 rw [List.getElem?_append_right (Nat.le_refl _), Nat.sub_self] at h1
 exact h46 (by rw [← h1]; cases q <;> rfl)
theorem numLen_point (ds es q : Bytes) (h : ds.all (isB 2) = true) (he : es.all (isB 2) = true) (hn : es ≠ []) (hq : headNot 2 q) : numLen ((ds ++ 46 :: es) ++ q) = (ds ++ 46 :: es).length := by
 have e1 : (ds ++ 46 :: es) ++ q = ds ++ (46 :: (es ++ q)) := by simp
 have hr : runLen 2 (ds ++ (46 :: (es ++ q))) = ds.length := runLen_app 2 ds _ h (fun c hc => by cases hc; rfl)
 unfold numLen
 rw [e1, hr, if_pos]
 ·have : (ds ++ (46 :: (es ++ q))).drop (ds.length + 1) = es ++ q := by
   simp [List.drop_append]
  rw [this, runLen_app 2 es q he hq]
  simp; omega
 ·constructor
  ·rw [List.getElem?_append_right (Nat.le_refl _), Nat.sub_self]; rfl
  ·cases es with
   | nil => exact absurd rfl hn
   | cons e es =>
    have e2 : ds ++ (46 :: (e :: es ++ q)) = (ds ++ [46]) ++ (e :: (es ++ q)) := by simp
    have := isAt_split 2 (ds ++ [46]) (e :: (es ++ q))
    rw [e2, show ds.length + 1 = (ds ++ [46]).length by simp, this]
    simp only [List.all_cons, Bool.and_eq_true] at he
    exact he.1
theorem number_ok (r : Bytes) (t : Tok) (n : Nat) (h0 : isAt 2 r 0 = true) (h : number r = .ok t n) : TokOK t := by
 unfold number at h
 obtain ⟨h1, h2⟩ := lim_as h
 have hl : t.text.length ≤ 20 := by
  unfold lim at h
  split at h
  ·cases h
  ·rw [← h1]; simp only at *; omega
 subst h1 h2
 refine .inr (.inl ⟨rfl, hl, ?_⟩)
 simp only
 obtain ⟨y, e1, e2, e3, e4⟩ := runLen_split 2 r
 have hne : r.take (runLen 2 r) ≠ [] := by
  intro h
  rw [h, List.nil_append] at e1
  unfold isAt at h0
  cases r with
  | nil => cases h0
  | cons c r =>
   subst e1
   have := e3 c rfl
   simp only [List.getElem?_cons_zero] at h0
   rw [h0] at this; cases this
 refine ⟨_, hne, e2, ?_⟩
 unfold numLen
 split
 ·rename_i hc
  obtain ⟨c1, c2⟩ := hc
  obtain ⟨y', f1, f2, f3, f4⟩ := runLen_split 2 (r.drop (runLen 2 r + 1))
  right
  refine ⟨_, ?_, f2, ?_⟩
  ·intro h
   rw [h, List.nil_append] at f1
   unfold isAt at c2
   rw [← Nat.add_zero (runLen 2 r + 1), ← List.getElem?_drop, f1] at c2
   cases y' with
   | nil => cases c2
   | cons c y' =>
    have := f3 c rfl
    simp only [List.getElem?_cons_zero] at c2
    rw [c2] at this; cases this
  ·rw [show runLen 2 r + 1 + runLen 2 (r.drop (runLen 2 r + 1)) = runLen 2 r + (1 + runLen 2 (r.drop (runLen 2 r + 1))) by omega, List.take_add]
   congr 1
   have hlt := (List.getElem?_eq_some_iff.1 c1)
   obtain ⟨hlt, hv⟩ := hlt
   rw [List.drop_eq_getElem_cons hlt, hv, Nat.add_comm 1, List.take_succ_cons]
 ·exact .inl rfl
theorem quo_ok : ∀ (q acc : Bytes) (i : Nat) (t : Tok) (n : Nat), quo q acc i = .ok t n → acc.all (fun b => decide (32 ≤ b ∧ b ≤ 126)) = true → t.kind = 3 ∧ t.text.length ≤ 200 ∧ t.text.all (fun b => decide (32 ≤ b ∧ b ≤ 126)) = true
 | [], acc, i, t, n, h, _ => by simp [quo] at h
 | c :: q, acc, i, t, n, h, ha => by
  unfold quo at h
  split at h
  ·obtain ⟨h1, h2⟩ := lim_as h
   have hl : t.text.length ≤ 200 := by
    unfold lim at h
    split at h
    ·cases h
    ·rw [← h1]; simp only at *; omega
   subst h1
   exact ⟨rfl, hl, ha⟩
  ·split at h
   ·cases h
   ·rename_i hc
    have hcp : 32 ≤ c ∧ c ≤ 126 := by
     constructor
     ·exact UInt8.not_lt.1 (fun h => hc (.inl h))
     ·exact UInt8.not_lt.1 (fun h => hc (.inr h))
    split at h
    ·cases q with
     | nil => simp at h
     | cons d q' =>
      simp only at h
      split at h
      ·rename_i hd
       refine quo_ok q' _ _ t n h ?_
       rw [List.all_append, ha]
       rcases hd with rfl | rfl <;> rfl
      ·cases h
    ·refine quo_ok q _ _ t n h ?_
     rw [List.all_append, ha]
     simp [hcp]
theorem next_tokOK (r : Bytes) (t : Tok) (n : Nat) (h : next r = .ok t n) : TokOK t := by
 cases r with
 | nil => simp [next] at h
 | cons c q =>
  rw [next] at h
  split at h
  ·rename_i hc
   exact number_ok (c :: q) t n (show isAt 2 (c :: q) 0 = true from hc) h
  ·split at h
   ·rename_i hc
    cases h
    exact .inr (.inr (.inr (.inr (.inr (.inr (.inl ⟨rfl, c, rfl, hc⟩))))))
   ·split at h
    ·exact .inr (.inr (.inl (quo_ok q [] 1 t n h rfl)))
    ·split at h
     ·cases h
      exact .inr (.inr (.inr (.inr (.inr (.inr (.inr ⟨rfl, rfl⟩))))))
     ·split at h
      ·rename_i hc
       obtain ⟨hc, hl⟩ := hc
       unfold name at h
       simp only [List.drop_succ_cons, List.drop_zero] at h
       obtain ⟨y, e1, e2, e3, e4⟩ := runLen_split 3 q
       split at h
       ·rename_i hf
        have hlen : t.text.length ≤ 16 := by
         obtain ⟨h1, h2⟩ := lim_as h
         unfold lim at h
         split at h
         ·cases h
         ·rw [← h1]; simp only at *; omega
        obtain ⟨h1, h2⟩ := lim_as h
        subst h1
        refine .inr (.inr (.inr (.inl ⟨rfl, hlen, ?_, e2, hf⟩)))
        intro h
        simp only at h
        rw [h, List.nil_append] at e1
        subst e1
        cases q with
        | nil => cases hl
        | cons c' q =>
         have := e3 c' rfl
         unfold isAt at hl
         simp only [List.getElem?_cons_zero] at hl
         rw [hl] at this; cases this
       ·split at h
        ·rename_i hd
         cases h
         obtain ⟨d1, d2⟩ := hd
         refine .inr (.inr (.inr (.inr (.inl ⟨rfl, ?_⟩))))
         simp only
         unfold delimAt at d1 d2
         rw [show 1 + runLen 3 q = runLen 3 q + 1 by omega, List.getElem?_cons_succ] at d1
         rw [show 2 + runLen 3 q = (runLen 3 q + 1) + 1 by omega, List.getElem?_cons_succ] at d2
         rw [show 1 + runLen 3 q = runLen 3 q + 1 by omega, List.drop_succ_cons]
         generalize runLen 3 q = m at *
         split at d1
         ·rename_i a ha
          split at d2
          ·rename_i b hb
           refine ⟨a, b, ?_, d1, d2⟩
           obtain ⟨ha1, ha2⟩ := List.getElem?_eq_some_iff.1 ha
           obtain ⟨hb1, hb2⟩ := List.getElem?_eq_some_iff.1 hb
           rw [List.drop_eq_getElem_cons ha1, List.drop_eq_getElem_cons hb1, ha2, hb2]
           rfl
          ·cases d2
         ·cases d1
        ·cases h
      ·split at h
       ·rename_i hc
        obtain ⟨h1, h2⟩ := hc
        cases h
        cases q with
        | nil => cases h2
        | cons d q =>
         exact .inr (.inr (.inr (.inr (.inr (.inl ⟨rfl, d, rfl, by simpa [parAt] using h2⟩)))))
       ·split at h
        ·rename_i hc
         cases h
         exact .inl ⟨rfl, c, rfl, hc⟩
        ·cases h
end Go.Proofs.YtdacpbdamliafaaGreat.Lx

/- A token that is written is read again. -/
namespace Go.Proofs.YtdacpbdamliafaaGreat.Lx
theorem lim_le {most : Nat} {t : Tok} {n : Nat} (h : t.text.length ≤ most) : lim most t n = .ok t n := by
 unfold lim; rw [if_neg (by omega)]
theorem byte_cases (p : UInt8 → Prop) [DecidablePred p] (h : ∀ n : Fin 256, p (UInt8.ofNat n.1)) (c : UInt8) : p c := by
 have := h ⟨c.toNat, c.toNat_lt⟩
 simpa using this
theorem isB_digit_not (c : UInt8) : isB 2 c = true → isB 5 c = false ∧ isB 3 c = false ∧ isB 1 c = false ∧ isB 4 c = false ∧ c ≠ 34 ∧ c ≠ 92 ∧ c ≠ 35 ∧ c ≠ 46 := by
 revert c; exact fun c => byte_cases (fun c => isB 2 c = true → isB 5 c = false ∧ isB 3 c = false ∧ isB 1 c = false ∧ isB 4 c = false ∧ c ≠ 34 ∧ c ≠ 92 ∧ c ≠ 35 ∧ c ≠ 46) (by decide +kernel) c
theorem isB_sym_not (c : UInt8) : (isB 3 c = true ∨ isB 4 c = true) → isB 2 c = false ∧ isB 5 c = false ∧ isB 1 c = false ∧ c ≠ 34 ∧ c ≠ 92 ∧ c ≠ 35 ∧ c ≠ 46 :=
 byte_cases (fun c => (isB 3 c = true ∨ isB 4 c = true) → isB 2 c = false ∧ isB 5 c = false ∧ isB 1 c = false ∧ c ≠ 34 ∧ c ≠ 92 ∧ c ≠ 35 ∧ c ≠ 46) (by decide +kernel) c
theorem isB_mark_not (c : UInt8) : isB 5 c = true → isB 2 c = false ∧ isB 3 c = false ∧ isB 1 c = false ∧ c ≠ 34 ∧ c ≠ 92 ∧ c ≠ 35 ∧ c ≠ 46 :=
 byte_cases (fun c => isB 5 c = true → isB 2 c = false ∧ isB 3 c = false ∧ isB 1 c = false ∧ c ≠ 34 ∧ c ≠ 92 ∧ c ≠ 35 ∧ c ≠ 46) (by decide +kernel) c
theorem isDelim_not (c : UInt8) : isDelim c = true → isB 3 c = false :=
 byte_cases (fun c => isDelim c = true → isB 3 c = false) (by decide +kernel) c
theorem isB_blank_not (c : UInt8) : isB 1 c = true → isB 2 c = false ∧ isB 3 c = false ∧ c ≠ 46 :=
 byte_cases (fun c => isB 1 c = true → isB 2 c = false ∧ isB 3 c = false ∧ c ≠ 46) (by decide +kernel) c
theorem quo_esc_all : ∀ (x q acc : Bytes) (i : Nat), x.all (fun b => decide (32 ≤ b ∧ b ≤ 126)) = true → (acc ++ x).length ≤ 200 → quo (esc x ++ 34 :: q) acc i = .ok ⟨3, acc ++ x⟩ (i + (esc x).length + 1)
 | [], q, acc, i, _, hl => by
  simp only [esc, List.flatMap_nil, List.nil_append, List.append_nil, List.length_nil, Nat.add_zero] at *
  rw [quo.eq_def]
  simp only
  rw [if_pos trivial]
  exact lim_le (t := ⟨3, acc⟩) hl
 | c :: x, q, acc, i, hx, hl => by
  simp only [List.all_cons, Bool.and_eq_true, decide_eq_true_eq] at hx
  obtain ⟨⟨h1, h2⟩, hx⟩ := hx
  have hacc : acc ++ c :: x = (acc ++ [c]) ++ x := by simp
  have ih := fun j => quo_esc_all x q (acc ++ [c]) j hx (by rw [← hacc]; exact hl)
  have he : esc (c :: x) = escB c ++ esc x := rfl
  rw [he, hacc]
  unfold escB
  by_cases hc : c = 34 ∨ c = 92
  ·rw [if_pos hc]
   simp only [List.cons_append, List.nil_append]
   rw [quo.eq_def]
   simp only
   rw [if_neg (by decide), if_neg (by decide), if_pos trivial]
   rw [if_pos hc, ih]
   simp only [List.length_cons]
   congr 1; omega
  ·rw [if_neg hc]
   simp only [List.cons_append, List.nil_append]
   rw [quo.eq_def]
   simp only
   rw [if_neg (fun h => hc (.inl h)), if_neg (fun h => h.elim (UInt8.not_lt.2 h1) (UInt8.not_lt.2 h2)), if_neg (fun h => hc (.inr h)), ih]
   simp only [List.length_cons]
   congr 1; omega
theorem numLen_ok {t : Tok} {q : Bytes} (ds : Bytes) (h : ds.all (isB 2) = true) (ht : t.text = ds ∨ ∃ es, es ≠ [] ∧ es.all (isB 2) = true ∧ t.text = ds ++ 46 :: es) (hq : headNot 2 q) (h46 : q.head? ≠ some 46) :
  numLen (t.text ++ q) = t.text.length := by
 rcases ht with e | ⟨es, e1, e2, e3⟩
 ·rw [e]; exact numLen_plain ds q h hq h46
 ·rw [e3]; exact numLen_point ds es q h e2 e1 hq
theorem take_app (x q : Bytes) : (x ++ q).take x.length = x := by simp
theorem reread (t : Tok) (q : Bytes) (ht : TokOK t) (hq : okAfter t q) : next (spell t ++ q) = .ok t (spell t).length := by
 obtain ⟨k, x⟩ := t
 rcases ht with ⟨h1, c, h2, h3⟩ | ⟨h1, h2, ds, h3, h4, h5⟩ | ⟨h1, h2, h3⟩ | ⟨h1, h2, h3, h4, h5⟩ | ⟨h1, a, b, h2, h3, h4⟩ | ⟨h1, d, h2, h3, h4⟩ | ⟨h1, c, h2, h3⟩ | ⟨h1, h2⟩
 ·simp only at h1 h2; subst h1 h2
  obtain ⟨n1, n2, n3, n4, n5, n6, n7⟩ := isB_sym_not c h3
  show next ([c] ++ q) = _
  rw [List.cons_append, next, if_neg (by rw [n1]; decide), if_neg (by rw [n2]; decide), if_neg n4, if_neg (fun h => n5 h.1), if_neg (fun h => n5 h.1), if_neg (fun h => n6 h.1), if_pos h3]
  rfl
 ·simp only at h1 h2 h5; subst h1
  have hx : ∃ c y, x = c :: y ∧ isB 2 c = true := by
   cases ds with
   | nil => exact absurd rfl h3
   | cons c ds =>
    simp only [List.all_cons, Bool.and_eq_true] at h4
    rcases h5 with rfl | ⟨es, _, _, rfl⟩
    ·exact ⟨c, ds, rfl, h4.1⟩
    ·exact ⟨c, _, rfl, h4.1⟩
  obtain ⟨q1, q2⟩ := hq.1 rfl
  have hn : numLen (x ++ q) = x.length := numLen_ok (t := ⟨2, x⟩) ds h4 h5 q1 q2
  show next (x ++ q) = _
  obtain ⟨c, y, rfl, hc⟩ := hx
  rw [List.cons_append, next, if_pos hc, ← List.cons_append]
  unfold number
  rw [hn, take_app, lim_le (by exact h2)]
  rfl
 ·simp only at h1 h2 h3; subst h1
  show next (quoteL x ++ q) = _
  unfold quoteL
  rw [List.cons_append, next, if_neg (by decide), if_neg (by decide), if_pos rfl, List.append_assoc]
  have := quo_esc_all x q [] 1 h3 h2
  simp only [List.nil_append] at this
  rw [List.singleton_append, this]
  show Res.ok _ _ = Res.ok _ (quoteL x).length
  unfold quoteL
  simp only [List.length_cons, List.length_append, List.length_nil]
  congr 1; omega
 ·simp only at h1 h2 h3 h4 h5; subst h1
  have hr : runLen 3 (x ++ q) = x.length := runLen_app 3 x q h4 (hq.2 rfl)
  have hh : isAt 3 (x ++ q) 0 = true := by
   cases x with
   | nil => exact absurd rfl h3
   | cons c y =>
    simp only [List.all_cons, Bool.and_eq_true] at h4
    exact h4.1
  have h92 : (x ++ q).head? ≠ some 92 := by
   cases x with
   | nil => exact absurd rfl h3
   | cons c y =>
    simp only [List.all_cons, Bool.and_eq_true] at h4
    intro h
    have : c = 92 := by simpa using h
    exact (isB_sym_not c (.inl h4.1)).2.2.2.2.1 this
  show next ((92 :: x) ++ q) = _
  rw [List.cons_append, next, if_neg (by decide), if_neg (by decide), if_neg (by decide), if_neg (fun h => h92 h.2), if_pos ⟨rfl, hh⟩]
  unfold name
  simp only [List.drop_succ_cons, List.drop_zero]
  rw [hr, take_app, if_pos h5, lim_le (by exact h2)]
  show Res.ok _ _ = Res.ok _ (92 :: x).length
  rw [List.length_cons, Nat.add_comm]
 ·simp only at h1 h2; subst h1 h2
  have hr : runLen 3 ([102, 101, 110, 99, 101] ++ (a :: b :: q)) = 5 := runLen_app 3 [102, 101, 110, 99, 101] _ (by decide) (fun c hc => by cases hc; exact isDelim_not a h3)
  show next (92 :: ([102, 101, 110, 99, 101] ++ (a :: b :: q))) = _
  rw [next, if_neg (by decide), if_neg (by decide), if_neg (by decide), if_neg (fun h => absurd h.2 (by simp)), if_pos ⟨rfl, rfl⟩]
  unfold name
  simp only [List.drop_succ_cons, List.drop_zero]
  rw [hr, if_neg (by simp), if_pos]
  ·rfl
  ·exact ⟨h3, h4⟩
 ·simp only at h1 h2; subst h1 h2
  show next (35 :: d :: q) = _
  rw [next, if_neg (by decide), if_neg (by decide), if_neg (by decide), if_neg (fun h => absurd h.1 (by decide)), if_neg (fun h => absurd h.1 (by decide)), if_pos ⟨rfl, by simp [parAt, h3, h4]⟩]
  rfl
 ·simp only at h1 h2; subst h1 h2
  obtain ⟨n1, _⟩ := isB_mark_not c h3
  show next (c :: q) = _
  rw [next, if_neg (by rw [n1]; decide), if_pos h3]
  rfl
 ·simp only at h1 h2; subst h1 h2
  show next (92 :: 92 :: q) = _
  rw [next, if_neg (by decide), if_neg (by decide), if_neg (by decide), if_pos ⟨rfl, rfl⟩]
  rfl
theorem spell_head (t : Tok) (ht : TokOK t) : ∃ c y, spell t = c :: y ∧ isB 1 c = false ∧ c ≠ 46 ∧ (isB 2 c = true → t.kind = 2) ∧ (isB 3 c = true → t.kind = 1 ∧ ∃ z, t.text = c :: z) ∧ (t.kind = 2 → isB 2 c = true) := by
 obtain ⟨k, x⟩ := t
 rcases ht with ⟨h1, c, h2, h3⟩ | ⟨h1, h2, ds, h3, h4, h5⟩ | ⟨h1, h2, h3⟩ | ⟨h1, h2, h3, h4, h5⟩ | ⟨h1, a, b, h2, h3, h4⟩ | ⟨h1, d, h2, h3, h4⟩ | ⟨h1, c, h2, h3⟩ | ⟨h1, h2⟩
 ·simp only at h1 h2; subst h1 h2
  obtain ⟨n1, n2, n3, n4, n5, n6, n7⟩ := isB_sym_not c h3
  exact ⟨c, [], rfl, n3, n7, fun h => (by rw [n1] at h; cases h), fun h => ⟨rfl, [], rfl⟩, (fun h => by cases h)⟩
 ·simp only at h1 h2 h5; subst h1
  have hx : ∃ c y, x = c :: y ∧ isB 2 c = true := by
   cases ds with
   | nil => exact absurd rfl h3
   | cons c ds =>
    simp only [List.all_cons, Bool.and_eq_true] at h4
    rcases h5 with rfl | ⟨es, _, _, rfl⟩
    ·exact ⟨c, ds, rfl, h4.1⟩
    ·exact ⟨c, _, rfl, h4.1⟩
  obtain ⟨c, y, rfl, hc⟩ := hx
  obtain ⟨n1, n2, n3, n4, n5, n6, n7, n8⟩ := isB_digit_not c hc
  exact ⟨c, y, rfl, n3, n8, fun _ => rfl, fun h => (by rw [n2] at h; cases h), fun _ => hc⟩
 ·simp only at h1; subst h1
  exact ⟨34, _, rfl, rfl, by decide, (fun h => by cases h), (fun h => by cases h), (fun h => by cases h)⟩
 ·simp only at h1; subst h1
  exact ⟨92, _, rfl, rfl, by decide, (fun h => by cases h), (fun h => by cases h), (fun h => by cases h)⟩
 ·simp only at h1; subst h1
  exact ⟨92, _, rfl, rfl, by decide, (fun h => by cases h), (fun h => by cases h), (fun h => by cases h)⟩
 ·simp only at h1; subst h1
  exact ⟨35, _, rfl, rfl, by decide, (fun h => by cases h), (fun h => by cases h), (fun h => by cases h)⟩
 ·simp only at h1 h2; subst h1 h2
  obtain ⟨n1, n2, n3, n4, n5, n6, n7⟩ := isB_mark_not c h3
  exact ⟨c, [], rfl, n3, n7, fun h => (by rw [n1] at h; cases h), fun h => (by rw [n2] at h; cases h), (fun h => by cases h)⟩
 ·simp only at h1 h2; subst h1 h2
  exact ⟨92, _, rfl, rfl, by decide, (fun h => by cases h), (fun h => by cases h), (fun h => by cases h)⟩
theorem okAfter_tok (a b : Tok) (hb : TokOK b) (hj : join a b = false) (q : Bytes) : okAfter a (spell b ++ q) := by
 obtain ⟨c, y, e, n1, n2, n3, n4, n5⟩ := spell_head b hb
 rw [e, List.cons_append]
 unfold join at hj
 simp only [Bool.or_eq_false_iff, Bool.and_eq_false_iff] at hj
 constructor
 ·intro hk
  refine ⟨fun d hd => ?_, fun h => n2 (by simpa using h)⟩
  cases hd
  cases h2 : isB 2 c with
  | false => rfl
  | true =>
   rcases hj.1 with h | h
   ·rw [hk] at h; cases h
   ·rw [n3 h2] at h; cases h
 ·intro hk d hd
  cases hd
  cases h3 : isB 3 c with
  | false => rfl
  | true =>
   obtain ⟨m1, z, m2⟩ := n4 h3
   rcases hj.2 with (h | h) | h
   ·rw [hk] at h; cases h
   ·rw [m1] at h; cases h
   ·rw [m2] at h; simp only at h; rw [h3] at h; cases h
theorem okAfter_blank (a : Tok) (c : UInt8) (q : Bytes) (hc : isB 1 c = true) : okAfter a (c :: q) := by
 obtain ⟨n1, n2, n3⟩ := isB_blank_not c hc
 exact ⟨fun _ => ⟨fun d hd => by cases hd; exact n1, fun h => n3 (by simpa using h)⟩, fun _ d hd => by cases hd; exact n2⟩
theorem okAfter_end (a : Tok) : okAfter a [] := ⟨fun _ => ⟨(fun c h => nomatch h), by simp⟩, fun _ => (fun c h => nomatch h)⟩
theorem joined_other (a b : Tok) (ha : TokOK a) (hb : TokOK b) (hj : join a b = true) (n : Nat) : next (spell a ++ spell b) ≠ .ok a n := by
 intro h
 obtain ⟨k, x⟩ := a
 obtain ⟨k', x'⟩ := b
 unfold join at hj
 simp only [Bool.or_eq_true, Bool.and_eq_true, beq_iff_eq] at hj
 rcases hj with ⟨rfl, rfl⟩ | ⟨⟨rfl, rfl⟩, hl⟩
 ·obtain ⟨c, y, e, _, _, _, _, hd⟩ := spell_head ⟨2, x'⟩ hb
  replace hd := hd rfl
  have e' : x' = c :: y := e
  subst e'
  rcases ha with ⟨h1, _⟩ | ⟨_, h2, ds, h3, h4, h5⟩ | ⟨h1, _⟩ | ⟨h1, _⟩ | ⟨h1, _⟩ | ⟨h1, _⟩ | ⟨h1, _⟩ | ⟨h1, _⟩ <;> try (simp at h1)
  simp only at h5 h2
  have hs := next_spell _ _ _ h
  have hx : ∃ c y, x = c :: y ∧ isB 2 c = true := by
   cases ds with
   | nil => exact absurd rfl h3
   | cons c ds =>
    simp only [List.all_cons, Bool.and_eq_true] at h4
    rcases h5 with rfl | ⟨es, _, _, rfl⟩
    ·exact ⟨c, ds, rfl, h4.1⟩
    ·exact ⟨c, _, rfl, h4.1⟩
  obtain ⟨c0, y0, hx0, hc0⟩ := hx
  have hnum : next (spell ⟨2, x⟩ ++ spell ⟨2, c :: y⟩) = number (x ++ c :: y) := by
   show next (x ++ c :: y) = _
   rw [hx0, List.cons_append, next, if_pos hc0]
  rw [hnum] at h
  unfold number at h
  obtain ⟨e1, e2⟩ := lim_as h
  simp only [Tok.mk.injEq, true_and] at e1
  have hlen : numLen (x ++ c :: y) ≤ x.length := by
   have h1 := congrArg List.length e1
   rw [List.length_take] at h1
   have := numLen_le (x ++ c :: y)
   omega
  rcases h5 with rfl | ⟨es, g1, g2, rfl⟩
  ·have h1 : x.length + 1 ≤ runLen 2 (x ++ c :: y) := by
    unfold runLen
    have : (x ++ c :: y).takeWhile (isB 2) = x ++ (c :: y).takeWhile (isB 2) := List.takeWhile_append_of_pos (by simpa using h4)
    rw [this, List.takeWhile_cons, if_pos hd]; simp
   unfold numLen at hlen
   split at hlen <;> omega
  ·have q1 : (ds ++ 46 :: es) ++ c :: y = ds ++ 46 :: (es ++ c :: y) := by simp
   have hr : runLen 2 (ds ++ 46 :: (es ++ c :: y)) = ds.length := runLen_app 2 ds _ h4 (fun c hc => by cases hc; rfl)
   unfold numLen at hlen
   rw [q1, hr, if_pos] at hlen
   ·have hdr : (ds ++ (46 :: (es ++ c :: y))).drop (ds.length + 1) = es ++ c :: y := by simp [List.drop_append]
    rw [hdr] at hlen
    have h1 : es.length + 1 ≤ runLen 2 (es ++ c :: y) := by
     unfold runLen
     have : (es ++ c :: y).takeWhile (isB 2) = es ++ (c :: y).takeWhile (isB 2) := List.takeWhile_append_of_pos (by simpa using g2)
     rw [this, List.takeWhile_cons, if_pos hd]; simp
    simp at hlen; omega
   ·constructor
    ·rw [List.getElem?_append_right (Nat.le_refl _), Nat.sub_self]; rfl
    ·cases es with
     | nil => exact absurd rfl g1
     | cons e es =>
      have e2 : ds ++ (46 :: (e :: es ++ c :: y)) = (ds ++ [46]) ++ (e :: (es ++ c :: y)) := by simp
      have := isAt_split 2 (ds ++ [46]) (e :: (es ++ c :: y))
      rw [e2, show ds.length + 1 = (ds ++ [46]).length by simp, this]
      simp only [List.all_cons, Bool.and_eq_true] at g2
      exact g2.1
 ·cases x' with
  | nil => cases hl
  | cons c y =>
   simp only at hl
   rcases ha with ⟨h1, _⟩ | ⟨h1, _⟩ | ⟨h1, _⟩ | ⟨_, h2, h3, h4, h5⟩ | ⟨h1, _⟩ | ⟨h1, _⟩ | ⟨h1, _⟩ | ⟨h1, _⟩ <;> try (simp at h1)
   simp only at h2 h3 h4 h5
   have hh : isAt 3 (x ++ c :: y) 0 = true := by
    cases x with
    | nil => exact absurd rfl h3
    | cons c y =>
     simp only [List.all_cons, Bool.and_eq_true] at h4
     exact h4.1
   have h92 : (x ++ c :: y).head? ≠ some 92 := by
    cases x with
    | nil => exact absurd rfl h3
    | cons c y =>
     simp only [List.all_cons, Bool.and_eq_true] at h4
     intro h
     have : c = 92 := by simpa using h
     exact (isB_sym_not c (.inl h4.1)).2.2.2.2.1 this
   have hname : next (spell ⟨4, x⟩ ++ spell ⟨1, c :: y⟩) = name (92 :: (x ++ c :: y)) := by
    show next (92 :: x ++ c :: y) = _
    rw [List.cons_append, next, if_neg (by decide), if_neg (by decide), if_neg (by decide), if_neg (fun h => h92 h.2), if_pos ⟨rfl, hh⟩]
   rw [hname] at h
   unfold name at h
   simp only [List.drop_succ_cons, List.drop_zero] at h
   have h1 : x.length + 1 ≤ runLen 3 (x ++ c :: y) := by
    unfold runLen
    have : (x ++ c :: y).takeWhile (isB 3) = x ++ (c :: y).takeWhile (isB 3) := List.takeWhile_append_of_pos (by simpa using h4)
    rw [this, List.takeWhile_cons, if_pos hl]; simp
   have h2 := runLen_le 3 (x ++ c :: y)
   split at h
   ·obtain ⟨e1, e2⟩ := lim_as h
    simp only [Tok.mk.injEq, true_and] at e1
    have := congrArg List.length e1
    rw [List.length_take] at this
    omega
   ·split at h
    ·cases h
    ·cases h
end Go.Proofs.YtdacpbdamliafaaGreat.Lx

/- Tokens that are written one after the other are read again. -/
namespace Go.Proofs.YtdacpbdamliafaaGreat.Lx
def flat : List (Bytes × Tok) → Bytes
 | [] => []
 | (s, t) :: l => s ++ (spell t ++ flat l)
def placed : Nat → List (Bytes × Tok) → List PTok
 | _, [] => []
 | a, (s, t) :: l => ⟨t.kind, t.text, a + s.length, a + s.length + (spell t).length⟩ :: placed (a + s.length + (spell t).length) l
def spaced : Option Tok → List (Bytes × Tok) → Prop
 | _, [] => True
 | o, (s, t) :: l => s.all (isB 1) = true ∧ TokOK t ∧ (s = [] → ∀ a, o = some a → join a t = false) ∧ spaced (some t) l
theorem runI_isB (l : Bytes) (k : Nat) : runI 1 l k = runLen 1 (l.drop k) := by
 unfold runI runLen
 have hp : (fun b : UInt8 => (cls b.toNat : Int) == 1) = isB 1 := by
  funext b
  unfold isB
  rw [Bool.eq_iff_iff, beq_iff_eq, beq_iff_eq]
  omega
 rw [hp]
theorem spell_pos (t : Tok) (ht : TokOK t) : 0 < (spell t).length := by
 obtain ⟨c, y, e, _⟩ := spell_head t ht
 rw [e]; simp
theorem okAfter_flat (t : Tok) : ∀ (W : List (Bytes × Tok)), spaced (some t) W → okAfter t (flat W)
 | [], _ => okAfter_end t
 | (s, b) :: l, ⟨h1, h2, h3, _⟩ => by
  cases s with
  | nil => exact okAfter_tok t b h2 (h3 rfl t rfl) _
  | cons c s =>
   simp only [List.all_cons, Bool.and_eq_true] at h1
   exact okAfter_blank t c _ h1.1
theorem lexGo_flat (l : Bytes) : ∀ (W : List (Bytes × Tok)) (o : Option Tok) (p : Bytes) (f : Nat), l = p ++ flat W → W.length < f → spaced o W → lexGo l f p.length = (placed p.length W, none)
 | [], o, p, f, hl, hf, _ => by
  cases f with
  | zero => cases hf
  | succ f =>
   rw [lexGo, if_pos]
   ·rfl
   ·rw [hl]; unfold skip flat; simp
 | (s, t) :: W, o, p, f, hl, hf, ⟨h1, h2, h3, h4⟩ => by
  cases f with
  | zero => cases hf
  | succ f =>
   have hd : l.drop p.length = s ++ (spell t ++ flat W) := by rw [hl]; simp [flat]
   have hsk : skip l p.length = p.length + s.length := by
    unfold skip
    rw [runI_isB, hd, runLen_app 1 s _ h1]
    obtain ⟨c, y, e, n1, _⟩ := spell_head t h2
    rw [e]
    intro d hd'
    cases hd'
    exact n1
   have hl2 : l = (p ++ s) ++ (spell t ++ flat W) := by rw [hl]; simp [flat]
   have hl3 : l = (p ++ s ++ spell t) ++ flat W := by rw [hl]; simp [flat]
   have hsp := spell_pos t h2
   have hnx : next (l.drop (p.length + s.length)) = .ok t (spell t).length := by
    have : l.drop (p.length + s.length) = spell t ++ flat W := by
     rw [hl2, ← List.length_append, List.drop_left]
    rw [this]
    exact reread t _ h2 (okAfter_flat t W h4)
   have ih := lexGo_flat l W (some t) (p ++ s ++ spell t) f hl3 (by simpa using hf) h4
   rw [lexGo, hsk, if_neg]
   ·rw [hnx]
    simp only
    have e3 : (p ++ s ++ spell t).length = p.length + s.length + (spell t).length := by simp [Nat.add_assoc]
    rw [e3] at ih
    rw [ih]
    rfl
   ·rw [hl2]; simp; omega
theorem flat_len : ∀ (W : List (Bytes × Tok)) (o : Option Tok), spaced o W → W.length ≤ (flat W).length
 | [], _, _ => Nat.le_refl _
 | (s, t) :: W, o, ⟨_, h2, _, h4⟩ => by
  have := flat_len W (some t) h4
  have := spell_pos t h2
  simp [flat]; omega
theorem lexAll_flat (W : List (Bytes × Tok)) (h : spaced none W) : lexAll (flat W) = (placed 0 W, none) :=
 lexGo_flat (flat W) W none [] _ rfl (by have := flat_len W none h; omega) h
def tok (t : PTok) : Tok := ⟨t.kind, t.text⟩
theorem placed_toks : ∀ (W : List (Bytes × Tok)) (a : Nat), (placed a W).map tok = W.map (·.2)
 | [], _ => rfl
 | (s, t) :: W, a => by simp only [placed, List.map_cons, placed_toks W]; rfl
theorem lexGo_ok (l : Bytes) : ∀ (f a : Nat), ∀ t ∈ (lexGo l f a).1, TokOK (tok t)
 | 0, a, t, ht => by simp [lexGo] at ht
 | f + 1, a, t, ht => by
  rw [lexGo] at ht
  split at ht
  ·cases ht
  ·cases hn : next (l.drop (skip l a)) with
   | err i e => rw [hn] at ht; cases ht
   | ok t' n =>
    rw [hn] at ht
    rcases List.mem_cons.1 ht with rfl | h
    ·exact next_tokOK _ _ _ hn
    ·exact lexGo_ok l f _ t h
theorem lexAll_two (a b : Tok) (ha : TokOK a) (hb : TokOK b) (hj : join a b = false) : ∃ x y, lexAll (spell a ++ spell b) = ([x, y], none) ∧ tok x = a ∧ tok y = b := by
 have := lexAll_flat [([], a), ([], b)] ⟨rfl, ha, (fun _ c hc => nomatch hc), rfl, hb, (fun _ c hc => by cases hc; exact hj), trivial⟩
 simp only [flat, List.nil_append, List.append_nil] at this
 exact ⟨_, _, this, rfl, rfl⟩
theorem lexAll_joined (a b : Tok) (ha : TokOK a) (hb : TokOK b) (hj : join a b = true) : (lexAll (spell a ++ spell b)).2 ≠ none ∨ (lexAll (spell a ++ spell b)).1.map tok ≠ [a, b] := by
 unfold lexAll
 obtain ⟨c, y, e, n1, _⟩ := spell_head a ha
 have hsk : skip (spell a ++ spell b) 0 = 0 := by
  unfold skip
  rw [runI_isB, List.drop_zero, e]
  have := runLen_app 1 [] (c :: y ++ spell b) rfl (fun d hd => by cases hd; exact n1)
  simpa using this
 have hp : 0 < (spell a ++ spell b).length := by have := spell_pos a ha; simp; omega
 rw [lexGo, hsk, if_neg (by omega), List.drop_zero]
 cases hn : next (spell a ++ spell b) with
 | err i e => left; simp
 | ok t n =>
  right
  intro h
  simp only [List.map_cons, List.cons.injEq] at h
  have : t = a := h.1
  subst this
  exact joined_other t b ha hb hj n hn
def sameT (x y : PTok) (places : Bool) : Bool := x.kind == y.kind && x.text == y.text && (!places || (x.from_ == y.from_ && x.to_ == y.to_))
def sameL : List PTok → List PTok → Bool → Bool
 | [], [], _ => true
 | x :: xs, y :: ys, p => sameT x y p && sameL xs ys p
 | _, _, _ => false
theorem sameT_iff (x y : PTok) : sameT x y false = decide (tok x = tok y) := by
 unfold sameT tok
 rw [Bool.eq_iff_iff]
 simp
theorem sameL_iff : ∀ (xs ys : List PTok), sameL xs ys false = decide (xs.map tok = ys.map tok)
 | [], [] => rfl
 | x :: xs, y :: ys => by
  rw [sameL, sameT_iff, sameL_iff xs ys]
  simp
 | [], y :: ys => by simp [sameL]
 | x :: xs, [] => by simp [sameL]
end Go.Proofs.YtdacpbdamliafaaGreat.Lx

/- The tokens of a formula tree, and that they tell the tree: no program in sight. -/
namespace Go.Proofs.YtdacpbdamliafaaGreat.Tr
open Lx (Tok)
def mk7 (b : UInt8) : Tok := ⟨7, [b]⟩
def name (s : Bytes) : Tok := ⟨4, s⟩
def sFrac : Bytes := [102, 114, 97, 99]
def sRoot : Bytes := [114, 111, 111, 116]
def sMatrix : Bytes := [109, 97, 116, 114, 105, 120]
def leaf (n : Nd) : Bool := (n.kind == 2) || (n.kind == 3) || (n.kind == 4)
def scripted (n : Nd) : Bool := (n.kind == 7) || (n.kind == 8) || (n.kind == 9)
mutual
def itemT : Nd → List Tok
 | .mk k t c ks =>
  if k = 2 then [if t.length = 1 then ⟨1, t⟩ else ⟨4, t⟩]
  else if k = 3 then [⟨2, t⟩]
  else if k = 4 then [⟨3, t⟩]
  else match ks with
   | [a] =>
    if k = 10 then name t :: argT a
    else if k = 11 then (if t = [40, 41] ∨ t = [91, 93] then mk7 (t.headD 0) :: (rowT a.kids ++ [mk7 (t.getLastD 0)]) else ⟨5, t⟩ :: argT a)
    else if k = 12 then name sMatrix :: mk7 123 :: (cellsT c 0 [a] ++ [mk7 125])
    else []
   | [a, b] =>
    if k = 5 then name sFrac :: (argT a ++ argT b)
    else if k = 6 then name sRoot :: ((if a.kids = [] then [] else mk7 91 :: (rowT a.kids ++ [mk7 93])) ++ argT b)
    else if k = 7 then baseT a ++ mk7 95 :: argT b
    else if k = 8 then baseT a ++ mk7 94 :: argT b
    else if k = 12 then name sMatrix :: mk7 123 :: (cellsT c 0 [a, b] ++ [mk7 125])
    else []
   | [a, b, d] =>
    if k = 9 then baseT a ++ mk7 95 :: (argT b ++ mk7 94 :: argT d)
    else if k = 12 then name sMatrix :: mk7 123 :: (cellsT c 0 [a, b, d] ++ [mk7 125])
    else []
   | ks => if k = 12 then name sMatrix :: mk7 123 :: (cellsT c 0 ks ++ [mk7 125]) else []
 termination_by n => 2 * count n
 decreasing_by all_goals (simp only [count_kids, countL, Nd.kids]; omega)
def argT : Nd → List Tok
 | .mk _ _ _ ks => match ks with
  | [x] => if leaf x then itemT x else mk7 123 :: (rowT [x] ++ [mk7 125])
  | ks => mk7 123 :: (rowT ks ++ [mk7 125])
 termination_by n => 2 * count n + 1
 decreasing_by all_goals (simp only [count_kids, countL, Nd.kids]; omega)
def baseT : Nd → List Tok
 | .mk _ _ _ ks => match ks with
  | [x] => if scripted x then mk7 123 :: (rowT [x] ++ [mk7 125]) else itemT x
  | ks => mk7 123 :: (rowT ks ++ [mk7 125])
 termination_by n => 2 * count n + 1
 decreasing_by all_goals (simp only [count_kids, countL, Nd.kids]; omega)
def rowT : List Nd → List Tok
 | [] => []
 | n :: ns => itemT n ++ rowT ns
 termination_by ns => 2 * countL ns + 1
 decreasing_by all_goals (simp only [count_kids, countL, Nd.kids]; omega)
def cellsT (c : Int) : Nat → List Nd → List Tok
 | _, [] => []
 | i, n :: ns => (if i = 0 then [] else if (i : Int) % c = 0 then [⟨8, [92, 92]⟩] else [mk7 38]) ++ (rowT n.kids ++ cellsT c (i + 1) ns)
 termination_by _ ns => 2 * countL ns + 1
 decreasing_by all_goals (simp only [count_kids, countL, Nd.kids]; omega)
end
end Go.Proofs.YtdacpbdamliafaaGreat.Tr

/- A reader of the tokens of a tree: the tokens tell the tree. No program in sight. -/
namespace Go.Proofs.YtdacpbdamliafaaGreat.Tr
open Lx (Tok)
def row (ks : List Nd) : Nd := .mk 1 [] 0 ks
def expect (t : Tok) : List Tok → Option (List Tok)
 | x :: r => if x = t then some r else none
 | [] => none
def startTok (x : Tok) : Bool := (x.kind == 1) || (x.kind == 2) || (x.kind == 3) || (x.kind == 4) || (x.kind == 5) || (x.kind == 7 && (x.text == [40] || x.text == [91] || x.text == [123]))
def starts : List Tok → Bool
 | x :: _ => startTok x
 | [] => false
def ends (c : Int) (n : Nat) : List Bool := (List.range n).map fun (i : Nat) => decide (((i : Int) + 1) % c = 0)
def plainN (t : Bytes) : Bool := !(t.length == 1) && !(t == sFrac) && !(t == sRoot) && !(t == sMatrix) && !(accents.contains t)
def groupAt : List Tok → Bool
 | x :: _ => decide (x = mk7 123)
 | [] => false
def colsOf : List (Nd × Bool) → Int
 | [] => 0
 | (_, b) :: l => if b then 1 else 1 + colsOf l
mutual
def pArg : Nat → List Tok → Option (Nd × List Tok)
 | f + 1, x :: r =>
  if x.kind = 1 ∨ (x.kind = 4 ∧ plainN x.text = true) then some (row [.mk 2 x.text 0 []], r)
  else if x.kind = 2 then some (row [.mk 3 x.text 0 []], r)
  else if x.kind = 3 then some (row [.mk 4 x.text 0 []], r)
  else if x = mk7 123 then (pRow f r).bind fun p => (expect (mk7 125) p.2).map fun r' => (row p.1, r')
  else none
 | _, _ => none
def pBase : Nat → List Tok → Option (List Nd × List Tok)
 | f + 1, x :: r =>
  if x.kind = 1 then some ([.mk 2 x.text 0 []], r)
  else if x.kind = 2 then some ([.mk 3 x.text 0 []], r)
  else if x.kind = 3 then some ([.mk 4 x.text 0 []], r)
  else if x.kind = 5 then (pArg f r).map fun p => ([.mk 11 x.text 0 [p.1]], p.2)
  else if x.kind = 4 then
   if x.text = sFrac then (pArg f r).bind fun p => (pArg f p.2).map fun q => ([.mk 5 [] 0 [p.1, q.1]], q.2)
   else if x.text = sRoot then
    match expect (mk7 91) r with
    | some r1 => (pRow f r1).bind fun p => (expect (mk7 93) p.2).bind fun r2 => (pArg f r2).map fun q => ([.mk 6 [] 0 [row p.1, q.1]], q.2)
    | none => (pArg f r).map fun q => ([.mk 6 [] 0 [row [], q.1]], q.2)
   else if x.text = sMatrix then (expect (mk7 123) r).bind fun r1 => (pCells f r1).bind fun p => (expect (mk7 125) p.2).bind fun r2 => if p.1.map (·.2) = ends (colsOf p.1) p.1.length then some ([.mk 12 [] (colsOf p.1) (p.1.map (·.1))], r2) else none
   else if accents.contains x.text then (pArg f r).map fun p => ([.mk 10 x.text 0 [p.1]], p.2)
   else if x.text.length = 1 then none else some ([.mk 2 x.text 0 []], r)
  else if x = mk7 40 then (pRow f r).bind fun p => (expect (mk7 41) p.2).map fun r' => ([.mk 11 [40, 41] 0 [row p.1]], r')
  else if x = mk7 91 then (pRow f r).bind fun p => (expect (mk7 93) p.2).map fun r' => ([.mk 11 [91, 93] 0 [row p.1]], r')
  else if x = mk7 123 then (pRow f r).bind fun p => (expect (mk7 125) p.2).map fun r' => (p.1, r')
  else none
 | _, _ => none
def pItem : Nat → List Tok → Option (Nd × List Tok)
 | f + 1, ts => (pBase f ts).bind fun p =>
  match expect (mk7 95) p.2 with
  | some r1 => (pArg f r1).bind fun q =>
   match expect (mk7 94) q.2 with
   | some r2 => (pArg f r2).map fun s => (.mk 9 [] 0 [row p.1, q.1, s.1], s.2)
   | none => some (.mk 7 [] 0 [row p.1, q.1], q.2)
  | none =>
   match expect (mk7 94) p.2 with
   | some r1 => (pArg f r1).map fun q => (.mk 8 [] 0 [row p.1, q.1], q.2)
   | none => match p.1 with
    | [u] => if groupAt ts then none else some (u, p.2)
    | _ => none
 | 0, _ => none
def pRow : Nat → List Tok → Option (List Nd × List Tok)
 | f + 1, ts => if starts ts then (pItem f ts).bind fun p => (pRow f p.2).map fun q => (p.1 :: q.1, q.2) else some ([], ts)
 | 0, _ => none
def pCells : Nat → List Tok → Option (List (Nd × Bool) × List Tok)
 | f + 1, ts => (pRow f ts).bind fun p =>
  match expect (mk7 38) p.2 with
  | some r => (pCells f r).map fun q => ((row p.1, false) :: q.1, q.2)
  | none =>
   match expect ⟨8, [92, 92]⟩ p.2 with
   | some r => (pCells f r).map fun q => ((row p.1, true) :: q.1, q.2)
   | none => some ([(row p.1, true)], p.2)
 | 0, _ => none
end
def noScript (r : List Tok) : Prop := expect (mk7 95) r = none ∧ expect (mk7 94) r = none
def stop (r : List Tok) : Prop := starts r = false ∧ noScript r
theorem expect_same (t : Tok) (r : List Tok) : expect t (t :: r) = some r := by simp [expect]
theorem expect_other (t x : Tok) (r : List Tok) (h : x ≠ t) : expect t (x :: r) = none := by simp [expect, h]
def Ev (p : Nat → Prop) : Prop := ∃ F, ∀ f, F ≤ f → p f
theorem Ev.of {p : Nat → Prop} (h : ∀ f, p f) : Ev p := ⟨0, fun f _ => h f⟩
theorem Ev.and {p q : Nat → Prop} (h : Ev p) (k : Ev q) : Ev fun f => p f ∧ q f := by
 obtain ⟨F, h⟩ := h
 obtain ⟨G, k⟩ := k
 exact ⟨max F G, fun f hf => ⟨h f (by omega), k f (by omega)⟩⟩
theorem Ev.mono {p q : Nat → Prop} (h : Ev p) (k : ∀ f, p f → q f) : Ev q := by
 obtain ⟨F, h⟩ := h
 exact ⟨F, fun f hf => k f (h f hf)⟩
theorem Ev.succ {p : Nat → Prop} (h : Ev fun f => p (f + 1)) : Ev p := by
 obtain ⟨F, h⟩ := h
 refine ⟨F + 1, fun f hf => ?_⟩
 obtain ⟨g, rfl⟩ : ∃ g, f = g + 1 := ⟨f - 1, by omega⟩
 exact h g (by omega)
theorem row_eq (a : Nd) (h1 : a.kind = 1) (h2 : form a = true) : a = row a.kids := by
 rw [form_eq, Bool.and_eq_true, Bool.and_eq_true] at h2
 obtain ⟨⟨h3, h4⟩, _⟩ := h2
 rw [h1] at h3 h4
 have h5 : a.text = [] := by
  unfold textOK at h3
  simpa using h3
 have h6 : a.cols = 0 := by
  unfold kidsOK at h4
  rw [if_neg (by decide)] at h4
  split at h4
  ·cases h4
  ·rename_i hc; simpa using hc
 have := Nd.eta a
 rw [h1, h5, h6] at this
 exact this
end Go.Proofs.YtdacpbdamliafaaGreat.Tr

/- The forms of items; how the tokens of an item begin. -/
namespace Go.Proofs.YtdacpbdamliafaaGreat.Tr
open Lx (Tok)
def IsRow (a : Nd) : Prop := a.kind = 1 ∧ form a = true
inductive View : Nd → Prop
 | sym (t : Bytes) (h : symbol t = true) : View (.mk 2 t 0 [])
 | num (t : Bytes) (h : isNum t = true) : View (.mk 3 t 0 [])
 | text (t : Bytes) (h : (decide (t.length ≤ 200) && printable t) = true) : View (.mk 4 t 0 [])
 | frac (a b : Nd) (ha : IsRow a) (hb : IsRow b) : View (.mk 5 [] 0 [a, b])
 | root (a b : Nd) (ha : IsRow a) (hb : IsRow b) : View (.mk 6 [] 0 [a, b])
 | sub (a b : Nd) (ha : IsRow a) (hb : IsRow b) : View (.mk 7 [] 0 [a, b])
 | sup (a b : Nd) (ha : IsRow a) (hb : IsRow b) : View (.mk 8 [] 0 [a, b])
 | both (a b d : Nd) (ha : IsRow a) (hb : IsRow b) (hd : IsRow d) : View (.mk 9 [] 0 [a, b, d])
 | accent (t : Bytes) (a : Nd) (h : accents.contains t = true) (ha : IsRow a) : View (.mk 10 t 0 [a])
 | fence (t : Bytes) (a : Nd) (h : Tr.fence t = true) (ha : IsRow a) : View (.mk 11 t 0 [a])
 | matrix (c : Int) (ks : List Nd) (hc : 1 ≤ c) (hn : 1 ≤ ks.length) (hm : (ks.length : Int) % c = 0) (h : ∀ k ∈ ks, IsRow k) : View (.mk 12 [] c ks)
theorem rows_of (l : List Nd) (h : formL false l = true) : ∀ x ∈ l, IsRow x := by
 induction l with
 | nil => intro x hx; cases hx
 | cons y l ih =>
  rw [formL, Bool.and_eq_true, Bool.and_eq_true] at h
  obtain ⟨⟨h1, h2⟩, h3⟩ := h
  intro x hx
  rcases List.mem_cons.1 hx with rfl | hx
  ·exact ⟨by simpa using h1, h2⟩
  ·exact ih h3 x hx
theorem items_of (l : List Nd) (h : formL true l = true) : ∀ x ∈ l, x.kind ≠ 1 ∧ form x = true := by
 induction l with
 | nil => intro x hx; cases hx
 | cons y l ih =>
  rw [formL, Bool.and_eq_true, Bool.and_eq_true] at h
  obtain ⟨⟨h1, h2⟩, h3⟩ := h
  intro x hx
  rcases List.mem_cons.1 hx with rfl | hx
  ·exact ⟨by simpa using h1, h2⟩
  ·exact ih h3 x hx
theorem IsRow.items {a : Nd} (h : IsRow a) : ∀ x ∈ a.kids, x.kind ≠ 1 ∧ form x = true := by
 obtain ⟨h1, h2⟩ := h
 rw [form_eq, h1, Bool.and_eq_true] at h2
 exact items_of _ h2.2
theorem view_of (n : Nd) (hf : form n = true) (hk : n.kind ≠ 1) : View n := by
 obtain ⟨k, t, c, ks⟩ := n
 rw [form, Bool.and_eq_true, Bool.and_eq_true] at hf
 obtain ⟨⟨h1, h2⟩, h3⟩ := hf
 have hk1 : (k == 1) = false := by rw [beq_eq_false_iff_ne]; exact hk
 rw [hk1] at h3
 have hrows := rows_of ks h3
 unfold kidsOK at h2
 unfold textOK at h1
 by_cases e12 : k = 12
 ·subst e12
  simp at h1 h2
  subst h1
  obtain ⟨⟨⟨⟨h4, h5⟩, h6⟩, h7⟩, h8⟩ := h2
  exact .matrix c ks h4 h6 (by omega) hrows
 ·rw [if_neg e12] at h2
  by_cases hc : c = 0
  ·subst hc
   simp only [ne_eq, not_true_eq_false, if_false] at h2
   have hk' : k ≠ 1 := hk
   rw [if_neg hk'] at h2
   by_cases e2 : k = 2
   ·subst e2
    simp at h1 h2
    subst h2
    exact .sym t h1
   ·by_cases e3 : k = 3
    ·subst e3
     simp at h1 h2
     subst h2
     exact .num t h1
    ·by_cases e4 : k = 4
     ·subst e4
      simp at h2
      subst h2
      rw [if_neg (by decide), if_neg (by decide), if_pos rfl] at h1
      exact .text t h1
     ·rw [if_neg (by omega)] at h2
      rw [if_neg e2, if_neg e3, if_neg e4] at h1
      by_cases e10 : k = 10
      ·subst e10
       simp only [if_true] at h1
       rw [if_neg (by decide), if_neg (by decide), if_pos (by decide)] at h2
       match ks, h2, hrows with
       | [a], _, hr => exact .accent t a h1 (hr a (by simp))
      ·by_cases e11 : k = 11
       ·subst e11
        rw [if_neg (by decide), if_pos rfl] at h1
        rw [if_neg (by decide), if_neg (by decide), if_pos (by decide)] at h2
        match ks, h2, hrows with
        | [a], _, hr => exact .fence t a h1 (hr a (by simp))
       ·rw [if_neg e10, if_neg e11] at h1
        have ht : t = [] := by simpa using h1
        subst ht
        by_cases e9 : k = 9
        ·subst e9
         rw [if_neg (by decide), if_pos rfl] at h2
         match ks, h2, hrows with
         | [a, b, d], _, hr => exact .both a b d (hr a (by simp)) (hr b (by simp)) (hr d (by simp))
        ·by_cases e58 : k = 5 ∨ k = 6 ∨ k = 7 ∨ k = 8
         ·rw [if_pos e58] at h2
          match ks, h2, hrows with
          | [a, b], _, hr =>
           have ha := hr a (by simp)
           have hb := hr b (by simp)
           rcases e58 with rfl | rfl | rfl | rfl
           ·exact .frac a b ha hb
           ·exact .root a b ha hb
           ·exact .sub a b ha hb
           ·exact .sup a b ha hb
         ·rw [if_neg e58, if_neg e9, if_neg (by omega)] at h2
          cases h2
  ·rw [if_pos hc] at h2; cases h2
end Go.Proofs.YtdacpbdamliafaaGreat.Tr

/- The tokens of a tree tell the tree. -/
namespace Go.Proofs.YtdacpbdamliafaaGreat.Tr
open Lx (Tok)
theorem itemT_sym (t : Bytes) : itemT (.mk 2 t 0 []) = [if t.length = 1 then ⟨1, t⟩ else ⟨4, t⟩] := by rw [itemT] <;> first | rfl | (intros; simp_all)
theorem itemT_num (t : Bytes) : itemT (.mk 3 t 0 []) = [⟨2, t⟩] := by rw [itemT] <;> first | rfl | (intros; simp_all)
theorem itemT_text (t : Bytes) : itemT (.mk 4 t 0 []) = [⟨3, t⟩] := by rw [itemT] <;> first | rfl | (intros; simp_all)
theorem itemT_frac (a b : Nd) : itemT (.mk 5 [] 0 [a, b]) = name sFrac :: (argT a ++ argT b) := by rw [itemT] <;> first | rfl | (intros; simp_all)
theorem itemT_root (a b : Nd) : itemT (.mk 6 [] 0 [a, b]) = name sRoot :: ((if a.kids = [] then [] else mk7 91 :: (rowT a.kids ++ [mk7 93])) ++ argT b) := by rw [itemT] <;> first | rfl | (intros; simp_all)
theorem itemT_sub (a b : Nd) : itemT (.mk 7 [] 0 [a, b]) = baseT a ++ mk7 95 :: argT b := by rw [itemT] <;> first | rfl | (intros; simp_all)
theorem itemT_sup (a b : Nd) : itemT (.mk 8 [] 0 [a, b]) = baseT a ++ mk7 94 :: argT b := by rw [itemT] <;> first | rfl | (intros; simp_all)
theorem itemT_both (a b d : Nd) : itemT (.mk 9 [] 0 [a, b, d]) = baseT a ++ mk7 95 :: (argT b ++ mk7 94 :: argT d) := by rw [itemT] <;> first | rfl | (intros; simp_all)
theorem itemT_accent (t : Bytes) (a : Nd) : itemT (.mk 10 t 0 [a]) = name t :: argT a := by rw [itemT] <;> first | rfl | (intros; simp_all)
theorem itemT_fence (t : Bytes) (a : Nd) : itemT (.mk 11 t 0 [a]) = if t = [40, 41] ∨ t = [91, 93] then mk7 (t.headD 0) :: (rowT a.kids ++ [mk7 (t.getLastD 0)]) else ⟨5, t⟩ :: argT a := by rw [itemT] <;> first | rfl | (intros; simp_all)
theorem itemT_matrix (c : Int) (ks : List Nd) (h : ks ≠ []) : itemT (.mk 12 [] c ks) = name sMatrix :: mk7 123 :: (cellsT c 0 ks ++ [mk7 125]) := by
 match ks, h with
 | [a], _ => rw [itemT] <;> first | rfl | (intros; simp_all)
 | [a, b], _ => rw [itemT] <;> first | rfl | (intros; simp_all)
 | [a, b, d], _ => rw [itemT] <;> first | rfl | (intros; simp_all)
 | a :: b :: d :: e :: l, _ => rw [itemT] <;> first | rfl | (intros; simp_all)
theorem argT_eq (a : Nd) : argT a = match a.kids with | [x] => if leaf x then itemT x else mk7 123 :: (rowT [x] ++ [mk7 125]) | ks => mk7 123 :: (rowT ks ++ [mk7 125]) := by
 obtain ⟨k, t, c, ks⟩ := a
 match ks with
 | [] => rw [argT] <;> first | rfl | (intros; simp_all)
 | [x] => rw [argT]; rfl
 | x :: y :: l => rw [argT] <;> first | rfl | (intros; simp_all)
theorem baseT_eq (a : Nd) : baseT a = match a.kids with | [x] => if scripted x then mk7 123 :: (rowT [x] ++ [mk7 125]) else itemT x | ks => mk7 123 :: (rowT ks ++ [mk7 125]) := by
 obtain ⟨k, t, c, ks⟩ := a
 match ks with
 | [] => rw [baseT] <;> first | rfl | (intros; simp_all)
 | [x] => rw [baseT]; rfl
 | x :: y :: l => rw [baseT] <;> first | rfl | (intros; simp_all)
theorem rowT_cons (n : Nd) (ns : List Nd) : rowT (n :: ns) = itemT n ++ rowT ns := by rw [rowT]
theorem rowT_nil : rowT [] = [] := by rw [rowT]
theorem start_noScript (x : Tok) (r : List Tok) (h : startTok x = true) : noScript (x :: r) := by
 refine ⟨expect_other _ _ _ ?_, expect_other _ _ _ ?_⟩ <;> (rintro rfl; revert h; decide)
theorem IsRow.views {a : Nd} (h : IsRow a) : ∀ x ∈ a.kids, View x := fun x hx => view_of x (h.items x hx).2 (h.items x hx).1
theorem base_start (a : Nd) (ha : IsRow a) (ih : ∀ x ∈ a.kids, View x → ∃ t r, itemT x = t :: r ∧ startTok t = true) : ∃ t r, baseT a = t :: r ∧ startTok t = true := by
 rw [baseT_eq]
 have hv := ha.views
 split
 ·rename_i x hx
  split
  ·exact ⟨mk7 123, _, rfl, rfl⟩
  ·exact ih x (by rw [hx]; simp) (hv x (by rw [hx]; simp))
 ·exact ⟨mk7 123, _, rfl, rfl⟩
theorem item_start (n : Nd) : View n → ∃ t r, itemT n = t :: r ∧ startTok t = true := by
 have : ∀ m n, count n ≤ m → View n → ∃ t r, itemT n = t :: r ∧ startTok t = true := by
  intro m
  induction m with
  | zero => intro n h; have := count_pos n; omega
  | succ m ih =>
   intro n hc v
   have hb : ∀ (k : Int) (t : Bytes) (c : Int) (a : Nd) (l : List Nd), n = .mk k t c (a :: l) → IsRow a → ∃ t r, baseT a = t :: r ∧ startTok t = true := fun k t c a l e ha => base_start a ha fun x hx vx => ih x (by
    have h1 := count_mem hx
    have h2 := count_kids a
    rw [e, count, countL] at hc
    omega) vx
   cases v with
   | sym t h => rw [itemT_sym]; by_cases hl : t.length = 1 <;> simp only [hl, if_true, if_false] <;> exact ⟨_, _, rfl, rfl⟩
   | num t h => rw [itemT_num]; exact ⟨_, _, rfl, rfl⟩
   | text t h => rw [itemT_text]; exact ⟨_, _, rfl, rfl⟩
   | frac a b ha hb => rw [itemT_frac]; exact ⟨_, _, rfl, rfl⟩
   | root a b ha hb => rw [itemT_root]; exact ⟨_, _, rfl, rfl⟩
   | sub a b ha hb' =>
    rw [itemT_sub]
    obtain ⟨x, r, e, h⟩ := hb _ _ _ a _ rfl ha
    rw [e]; exact ⟨x, _, rfl, h⟩
   | sup a b ha hb' =>
    rw [itemT_sup]
    obtain ⟨x, r, e, h⟩ := hb _ _ _ a _ rfl ha
    rw [e]; exact ⟨x, _, rfl, h⟩
   | both a b d ha hb' hd =>
    rw [itemT_both]
    obtain ⟨x, r, e, h⟩ := hb _ _ _ a _ rfl ha
    rw [e]; exact ⟨x, _, rfl, h⟩
   | accent t a h ha => rw [itemT_accent]; exact ⟨_, _, rfl, rfl⟩
   | fence t a h ha =>
    rw [itemT_fence]
    split
    ·rename_i ht
     rcases ht with rfl | rfl <;> exact ⟨_, _, rfl, rfl⟩
    ·exact ⟨_, _, rfl, rfl⟩
   | matrix c ks hc hn hm h =>
    rw [itemT_matrix c ks (by rintro rfl; simp at hn)]; exact ⟨_, _, rfl, rfl⟩
 exact this _ n (Nat.le_refl _)
theorem row_noScript (ks : List Nd) (hk : ∀ x ∈ ks, View x) (r : List Tok) (hr : noScript r) : noScript (rowT ks ++ r) := by
 cases ks with
 | nil => rw [rowT_nil]; exact hr
 | cons x ks =>
  obtain ⟨t, r', e, h⟩ := item_start x (hk x (by simp))
  rw [rowT_cons, e]
  exact start_noScript t _ h
structure PU (m : Nat) : Prop where
 item : ∀ n, count n ≤ m → View n → ∀ r, noScript r → Ev fun f => pItem f (itemT n ++ r) = some (n, r)
 base : ∀ n, count n ≤ m → View n → scripted n = false → ∀ r, Ev fun f => pBase f (itemT n ++ r) = some ([n], r)
theorem PU.row {m : Nat} (h : PU m) : ∀ ks, (∀ x ∈ ks, View x ∧ count x ≤ m) → ∀ r, stop r → Ev fun f => pRow f (rowT ks ++ r) = some (ks, r)
 | [], _, r, hr => Ev.succ (Ev.of fun f => by rw [rowT_nil, List.nil_append, pRow, if_neg (by rw [hr.1]; decide)])
 | x :: ks, hk, r, hr => by
  obtain ⟨hv, hc⟩ := hk x (by simp)
  have ih := PU.row h ks (fun y hy => hk y (by simp [hy])) r hr
  have hns : noScript (rowT ks ++ r) := row_noScript ks (fun y hy => (hk y (by simp [hy])).1) r hr.2
  refine Ev.succ (((h.item x hc hv _ hns).and ih).mono fun f ⟨h1, h2⟩ => ?_)
  obtain ⟨t, r', e, hs⟩ := item_start x hv
  have hst : starts (itemT x ++ (rowT ks ++ r)) = true := by rw [e]; exact hs
  rw [rowT_cons, List.append_assoc, pRow, if_pos hst, h1]
  simp [h2]
end Go.Proofs.YtdacpbdamliafaaGreat.Tr

/- The items and the positions of a tree in its tokens: what a walk over a row calls, in order. No program in sight. -/
namespace Go.Proofs.YtdacpbdamliafaaGreat.Tr
open Lx (Tok PTok)
def grp (a : Nd) : Bool := match a.kids with | [x] => !leaf x | _ => true
def bgrp (a : Nd) : Bool := match a.kids with | [x] => scripted x | _ => true
def round (k : Int) (t : Bytes) : Bool := (k == 11) && ((t == [40, 41]) || (t == [91, 93]))
def segs : Nd → List (Nat × Bool × Nd)
 | .mk k t _ ks =>
  match ks with
  | [] => []
  | a :: r =>
   if k = 12 then (2, false, a) :: r.map fun b => (1, false, b)
   else if k = 7 ∨ k = 8 ∨ k = 9 then (0, bgrp a, a) :: r.map fun b => (1, grp b, b)
   else if round k t = true then (0, true, a) :: r.map fun b => (0, grp b, b)
   else if k = 6 then (1, !a.kids.isEmpty, a) :: r.map fun b => (0, grp b, b)
   else (1, grp a, a) :: r.map fun b => (0, grp b, b)
def tailN (n : Nd) : Nat := if n.kind = 12 ∨ n.kids = [] then 1 else 0
def rowsOf (l : List (Nat × Bool × Nd)) : List Nd := l.map fun x => x.2.2
theorem rowsOf_map (c : Nat) (f : Nd → Bool) (l : List Nd) : rowsOf (l.map fun b => (c, f b, b)) = l := by
 unfold rowsOf
 rw [List.map_map]
 exact (List.map_congr_left fun x _ => rfl).trans (List.map_id l)
theorem segs_rows (n : Nd) : rowsOf (segs n) = n.kids := by
 obtain ⟨k, t, c, ks⟩ := n
 cases ks with
 | nil => rfl
 | cons a r =>
  unfold segs
  simp only
  have h1 := rowsOf_map 1 (fun _ => false) r
  have h2 := rowsOf_map 1 grp r
  have h3 := rowsOf_map 0 grp r
  unfold rowsOf at h1 h2 h3 ⊢
  split
  ·rw [List.map_cons, h1]; rfl
  ·split
   ·rw [List.map_cons, h2]; rfl
   ·split
    ·rw [List.map_cons, h3]; rfl
    ·split <;> (rw [List.map_cons, h3]; rfl)
def segLen (x : Nat × Bool × Nd) : Nat := x.1 + (if x.2.1 then 2 else 0) + (rowT x.2.2.kids).length
def segsLen : List (Nat × Bool × Nd) → Nat
 | [] => 0
 | x :: r => segLen x + segsLen r
theorem segLen_eq (k : Nat) (b : Bool) (a : Nd) : segLen (k, b, a) = k + 2 * b.toNat + (rowT a.kids).length := by cases b <;> simp [segLen]
structure Clo (σ κ : Type) where
 off : σ → List Nat → Nat → σ
 item : σ → List Nat → Nat → σ
 key : σ → κ
 done : σ → κ → Nat → σ
def fromAt (T : List PTok) (k : Nat) : Nat := (T[k]?.map (·.from_)).getD 0
def endAt (T : List PTok) (k : Nat) : Nat := if k = 0 then 0 else (T[k - 1]?.map (·.to_)).getD 0
section
variable {σ κ : Type} (C : Clo σ κ) (T : List PTok)
mutual
def runRow : List Nd → List Nat → Nat → Nat → σ → σ
 | [], p, i, f, s => C.off s (p ++ [i]) (endAt T f)
 | n :: ns, p, i, f, s =>
  let s1 := C.off s (p ++ [i]) (fromAt T f)
  let s2 := C.item s1 (p ++ [i]) (fromAt T f)
  let s3 := runSegs (segs n) (p ++ [i]) 0 f s2
  let f' := f + (itemT n).length
  runRow ns p (i + 1) f' (C.done s3 (C.key s1) (endAt T f'))
 termination_by ns => 2 * countL ns + 1
 decreasing_by
  ·have := segs_rows n
   unfold rowsOf at this
   rw [this]
   simp only [countL, count_kids]
   omega
  ·simp only [countL, count_kids]
   omega
def runSegs : List (Nat × Bool × Nd) → List Nat → Nat → Nat → σ → σ
 | [], _, _, _, s => s
 | (k, b, a) :: r, p, j, f, s => runSegs r p (j + 1) (f + segLen (k, b, a)) (runRow a.kids (p ++ [j]) 0 (f + k + b.toNat) s)
 termination_by l => 2 * countL (l.map fun x => x.2.2) + 1
 decreasing_by
  ·simp only [List.map_cons, countL, count_kids]
   omega
  ·simp only [List.map_cons, countL, count_kids]
   omega
end
end
theorem argT_grpLen (a : Nd) : (argT a).length = (if grp a then 2 else 0) + (rowT a.kids).length := by
 rw [argT_eq]
 unfold grp
 generalize a.kids = ks
 match ks with
 | [] => simp [rowT_nil]
 | [x] =>
  cases hl : leaf x with
  | true => simp [hl, rowT_cons, rowT_nil]
  | false => simp [hl]; omega
 | x :: y :: l => simp; omega
theorem baseT_grpLen (a : Nd) : (baseT a).length = (if bgrp a then 2 else 0) + (rowT a.kids).length := by
 rw [baseT_eq]
 unfold bgrp
 generalize a.kids = ks
 match ks with
 | [] => simp [rowT_nil]
 | [x] =>
  cases hl : scripted x with
  | true => simp [hl]; omega
  | false => simp [hl, rowT_cons, rowT_nil]
 | x :: y :: l => simp; omega
theorem cellsT_grpLen (c : Int) : ∀ (i : Nat) (l : List Nd), (cellsT c (i + 1) l).length = segsLen (l.map fun b => (1, false, b))
 | _, [] => by rw [cellsT]; rfl
 | i, n :: ns => by
  rw [cellsT, if_neg (by omega)]
  simp only [List.length_append, List.map_cons, segsLen, segLen]
  rw [cellsT_grpLen c (i + 1) ns]
  split <;> simp <;> omega
theorem item_segs (n : Nd) (v : View n) : (itemT n).length = segsLen (segs n) + tailN n := by
 cases v with
 | sym t ht => rw [itemT_sym]; rfl
 | num t ht => rw [itemT_num]; rfl
 | text t ht => rw [itemT_text]; rfl
 | frac a b ha hb =>
  rw [itemT_frac]
  simp [segs, round, segsLen, segLen, tailN, Nd.kind, Nd.kids, argT_grpLen]
  omega
 | root a b ha hb =>
  rw [itemT_root]
  obtain ⟨ka, ta, ca, la⟩ := a
  cases la with
  | nil => simp [segs, round, segsLen, segLen, tailN, Nd.kind, Nd.kids, argT_grpLen, rowT_nil]; omega
  | cons x l => simp [segs, round, segsLen, segLen, tailN, Nd.kind, Nd.kids, argT_grpLen]; omega
 | sub a b ha hb =>
  rw [itemT_sub]
  simp [segs, segsLen, segLen, tailN, Nd.kind, Nd.kids, argT_grpLen, baseT_grpLen]
  omega
 | sup a b ha hb =>
  rw [itemT_sup]
  simp [segs, segsLen, segLen, tailN, Nd.kind, Nd.kids, argT_grpLen, baseT_grpLen]
  omega
 | both a b d ha hb hd =>
  rw [itemT_both]
  simp [segs, segsLen, segLen, tailN, Nd.kind, Nd.kids, argT_grpLen, baseT_grpLen]
  omega
 | accent t a ht ha =>
  rw [itemT_accent]
  simp [segs, round, segsLen, segLen, tailN, Nd.kind, Nd.kids, argT_grpLen]
  omega
 | fence t a ht ha =>
  rw [itemT_fence]
  by_cases h : t = [40, 41] ∨ t = [91, 93]
  ·rw [if_pos h]
   have hr : round 11 t = true := by unfold round; simp [h]
   simp [segs, hr, segsLen, segLen, tailN, Nd.kind, Nd.kids]
   omega
  ·rw [if_neg h]
   have hr : round 11 t = false := by
    unfold round
    simp only [not_or] at h
    simp [h.1, h.2]
   simp [segs, hr, segsLen, segLen, tailN, Nd.kind, Nd.kids, argT_grpLen]
   omega
 | matrix c ks hc hn hm h =>
  match ks, hn with
  | a :: l, _ =>
   rw [itemT_matrix c (a :: l) (by simp), cellsT]
   simp [segs, segsLen, segLen, tailN, Nd.kind, cellsT_grpLen]
   omega
theorem item_pos (n : Nd) (v : View n) : 1 ≤ (itemT n).length := by
 obtain ⟨t, r, h, _⟩ := item_start n v
 rw [h]
 simp
theorem segs_first (n : Nd) (v : View n) : ∀ x ∈ segs n, x.1 = 0 → x.2.1 = false → x.2.2.kids ≠ [] := by
 have hg : ∀ a : Nd, grp a = false → a.kids ≠ [] := by
  intro a h h2
  unfold grp at h
  rw [h2] at h
  cases h
 have hb : ∀ a : Nd, bgrp a = false → a.kids ≠ [] := by
  intro a h h2
  unfold bgrp at h
  rw [h2] at h
  cases h
 obtain ⟨k, t, c, ks⟩ := n
 cases ks with
 | nil => intro x hx; cases hx
 | cons a r =>
  intro x hx h0 h1
  unfold segs at hx
  simp only at hx
  split at hx
  ·rcases List.mem_cons.1 hx with rfl | hx
   ·cases h0
   ·obtain ⟨b, _, rfl⟩ := List.mem_map.1 hx; cases h0
  ·split at hx
   ·rcases List.mem_cons.1 hx with rfl | hx
    ·exact hb _ h1
    ·obtain ⟨b, _, rfl⟩ := List.mem_map.1 hx; cases h0
   ·split at hx
    ·rcases List.mem_cons.1 hx with rfl | hx
     ·cases h1
     ·obtain ⟨b, _, rfl⟩ := List.mem_map.1 hx; exact hg _ h1
    ·split at hx
     ·rcases List.mem_cons.1 hx with rfl | hx
      ·cases h0
      ·obtain ⟨b, _, rfl⟩ := List.mem_map.1 hx; exact hg _ h1
     ·rcases List.mem_cons.1 hx with rfl | hx
      ·cases h0
      ·obtain ⟨b, _, rfl⟩ := List.mem_map.1 hx; exact hg _ h1
end Go.Proofs.YtdacpbdamliafaaGreat.Tr

/- The spans of items, the positions and the rows of a tree, as lists; their order. No program in sight. -/
namespace Go.Proofs.YtdacpbdamliafaaGreat.Tr
open Lx (Tok PTok)
abbrev Path := List Nat
section
variable (T : List PTok)
mutual
def spRow : List Nd → Path → Nat → Nat → List (Path × Nat × Nat)
 | [], _, _, _ => []
 | n :: ns, p, i, f => (p ++ [i], fromAt T f, endAt T (f + (itemT n).length)) :: (spSegs (segs n) (p ++ [i]) 0 f ++ spRow ns p (i + 1) (f + (itemT n).length))
 termination_by ns => 2 * countL ns + 1
 decreasing_by
  ·have := segs_rows n
   unfold rowsOf at this
   rw [this]
   simp only [countL, count_kids]
   omega
  ·simp only [countL, count_kids]
   omega
def spSegs : List (Nat × Bool × Nd) → Path → Nat → Nat → List (Path × Nat × Nat)
 | [], _, _, _ => []
 | (k, b, a) :: r, p, j, f => spRow a.kids (p ++ [j]) 0 (f + k + b.toNat) ++ spSegs r p (j + 1) (f + segLen (k, b, a))
 termination_by l => 2 * countL (l.map fun x => x.2.2) + 1
 decreasing_by
  ·simp only [List.map_cons, countL, count_kids]
   omega
  ·simp only [List.map_cons, countL, count_kids]
   omega
end
mutual
def posRow : List Nd → Path → Nat → Nat → List (Path × Nat)
 | [], p, i, f => [(p ++ [i], endAt T f)]
 | n :: ns, p, i, f => (p ++ [i], fromAt T f) :: (posSegs (segs n) (p ++ [i]) 0 f ++ posRow ns p (i + 1) (f + (itemT n).length))
 termination_by ns => 2 * countL ns + 1
 decreasing_by
  ·have := segs_rows n
   unfold rowsOf at this
   rw [this]
   simp only [countL, count_kids]
   omega
  ·simp only [countL, count_kids]
   omega
def posSegs : List (Nat × Bool × Nd) → Path → Nat → Nat → List (Path × Nat)
 | [], _, _, _ => []
 | (k, b, a) :: r, p, j, f => posRow a.kids (p ++ [j]) 0 (f + k + b.toNat) ++ posSegs r p (j + 1) (f + segLen (k, b, a))
 termination_by l => 2 * countL (l.map fun x => x.2.2) + 1
 decreasing_by
  ·simp only [List.map_cons, countL, count_kids]
   omega
  ·simp only [List.map_cons, countL, count_kids]
   omega
end
end
theorem rows_ind {P : List Nd → Prop} {Q : List (Nat × Bool × Nd) → Prop} (h0 : P []) (h1 : ∀ n ns, Q (segs n) → P ns → P (n :: ns)) (q0 : Q []) (q1 : ∀ k b a r, P a.kids → Q r → Q ((k, b, a) :: r)) :
  (∀ ks, P ks) ∧ ∀ l, Q l := by
 have : ∀ m, (∀ ks, 2 * countL ks + 1 ≤ m → P ks) ∧ ∀ l : List (Nat × Bool × Nd), 2 * countL (rowsOf l) + 1 ≤ m → Q l := by
  intro m
  induction m with
  | zero => exact ⟨fun _ h => by omega, fun _ h => by omega⟩
  | succ m ih =>
   refine ⟨fun ks h => ?_, fun l h => ?_⟩
   ·cases ks with
    | nil => exact h0
    | cons n ns =>
     refine h1 n ns (ih.2 _ ?_) (ih.1 _ ?_)
     ·rw [segs_rows]; simp only [countL, count_kids] at h; omega
     ·simp only [countL, count_kids] at h; omega
   ·match l with
    | [] => exact q0
    | (k, b, a) :: r =>
     have h' : 2 * (count a + countL (rowsOf r)) + 1 ≤ m + 1 := h
     rw [count_kids] at h'
     exact q1 k b a r (ih.1 _ (by omega)) (ih.2 _ (by omega))
 exact ⟨fun ks => (this _).1 ks (Nat.le_refl _), fun l => (this _).2 l (Nat.le_refl _)⟩
def itemsC : Clo (List (Path × Nat × Nat)) Nat where
 off s _ _ := s
 item s p f := s ++ [(p, f, 0)]
 key s := s.length
 done s k t := s.modify k fun x => (x.1, x.2.1, t)
theorem modify_mid {α : Type} (f : α → α) (l r : List α) (x : α) : (l ++ x :: r).modify l.length f = l ++ f x :: r := by
 induction l with
 | nil => rfl
 | cons y l ih => simpa [List.modify] using ih
theorem items_run (T : List PTok) : (∀ ks p i f s, runRow itemsC T ks p i f s = s ++ spRow T ks p i f) ∧ ∀ l p j f s, runSegs itemsC T l p j f s = s ++ spSegs T l p j f := by
 refine rows_ind (P := fun ks => ∀ p i f s, runRow itemsC T ks p i f s = s ++ spRow T ks p i f) (Q := fun l => ∀ p j f s, runSegs itemsC T l p j f s = s ++ spSegs T l p j f) ?_ ?_ ?_ ?_
 ·intro p i f s; rw [runRow, spRow, List.append_nil]; rfl
 ·intro n ns h1 h2 p i f s
  rw [runRow, spRow, h1, h2]
  show (((s ++ [(p ++ [i], fromAt T f, 0)]) ++ spSegs T (segs n) (p ++ [i]) 0 f).modify s.length _) ++ _ = _
  rw [List.append_assoc, List.singleton_append, modify_mid]
  simp
 ·intro p j f s; rw [runSegs, spSegs, List.append_nil]
 ·intro k b a r h1 h2 p j f s
  rw [runSegs, spSegs, h1, h2, List.append_assoc]
def offC {σ : Type} (g : σ → Path → Nat → σ) : Clo σ Unit where
 off := g
 item s _ _ := s
 key _ := ()
 done s _ _ := s
theorem off_run {σ : Type} (g : σ → Path → Nat → σ) (T : List PTok) : (∀ ks p i f s, runRow (offC g) T ks p i f s = (posRow T ks p i f).foldl (fun s x => g s x.1 x.2) s) ∧ ∀ l p j f s, runSegs (offC g) T l p j f s = (posSegs T l p j f).foldl (fun s x => g s x.1 x.2) s := by
 refine rows_ind (P := fun ks => ∀ p i f s, runRow (offC g) T ks p i f s = (posRow T ks p i f).foldl (fun s x => g s x.1 x.2) s) (Q := fun l => ∀ p j f s, runSegs (offC g) T l p j f s = (posSegs T l p j f).foldl (fun s x => g s x.1 x.2) s) ?_ ?_ ?_ ?_
 ·intro p i f s; rw [runRow, posRow]; rfl
 ·intro n ns h1 h2 p i f s
  rw [runRow, posRow, h1, h2]
  simp only [List.foldl_cons, List.foldl_append]
  rfl
 ·intro p j f s; rw [runSegs, posSegs]; rfl
 ·intro k b a r h1 h2 p j f s
  rw [runSegs, posSegs, h1, h2, List.foldl_append]
def cmp : Path → Path → Int
 | [], [] => 0
 | [], _ :: _ => -1
 | _ :: _, [] => 1
 | a :: l, b :: m => if a < b then -1 else if b < a then 1 else cmp l m
theorem cmp_refl : ∀ l : Path, cmp l l = 0
 | [] => rfl
 | a :: l => by rw [cmp, if_neg (Nat.lt_irrefl _), if_neg (Nat.lt_irrefl _)]; exact cmp_refl l
theorem cmp_eq : ∀ l m : Path, cmp l m = 0 → l = m
 | [], [], _ => rfl
 | [], _ :: _, h => by cases h
 | _ :: _, [], h => by cases h
 | a :: l, b :: m, h => by
  rw [cmp] at h
  split at h
  ·cases h
  ·split at h
   ·cases h
   ·rw [cmp_eq l m h, show a = b by omega]
theorem cmp_swap : ∀ l m : Path, cmp l m = -1 → cmp m l = 1
 | [], [], h => by cases h
 | [], _ :: _, _ => rfl
 | _ :: _, [], h => by cases h
 | a :: l, b :: m, h => by
  rw [cmp] at h ⊢
  split at h
  ·rw [if_neg (by omega), if_pos (by omega)]
  ·split at h
   ·cases h
   ·rw [if_neg (by omega), if_neg (by omega)]; exact cmp_swap l m h
theorem cmp_pre : ∀ p l m : Path, cmp (p ++ l) (p ++ m) = cmp l m
 | [], _, _ => rfl
 | a :: p, l, m => by rw [List.cons_append, List.cons_append, cmp, if_neg (Nat.lt_irrefl _), if_neg (Nat.lt_irrefl _)]; exact cmp_pre p l m
theorem cmp_lt {i j : Nat} (h : i < j) (p q r : Path) : cmp (p ++ i :: q) (p ++ j :: r) = -1 := by rw [cmp_pre, cmp, if_pos h]
theorem cmp_ext (p : Path) (i x : Nat) (r : Path) : cmp (p ++ [i]) (p ++ i :: x :: r) = -1 := by
 rw [cmp_pre, cmp, if_neg (Nat.lt_irrefl _), if_neg (Nat.lt_irrefl _)]; rfl
theorem pos_under (T : List PTok) : (∀ ks p i f, ∀ x ∈ posRow T ks p i f, ∃ j q, i ≤ j ∧ x.1 = p ++ j :: q) ∧ ∀ l p j f, ∀ x ∈ posSegs T l p j f, ∃ j' m q, j ≤ j' ∧ x.1 = p ++ j' :: m :: q := by
 refine rows_ind (P := fun ks => ∀ p i f, ∀ x ∈ posRow T ks p i f, ∃ j q, i ≤ j ∧ x.1 = p ++ j :: q) (Q := fun l => ∀ p j f, ∀ x ∈ posSegs T l p j f, ∃ j' m q, j ≤ j' ∧ x.1 = p ++ j' :: m :: q) ?_ ?_ ?_ ?_
 ·intro p i f x hx
  rw [posRow] at hx
  rcases List.mem_singleton.1 hx with rfl
  exact ⟨i, [], Nat.le_refl _, rfl⟩
 ·intro n ns h1 h2 p i f x hx
  rw [posRow] at hx
  rcases List.mem_cons.1 hx with rfl | hx
  ·exact ⟨i, [], Nat.le_refl _, rfl⟩
  ·rcases List.mem_append.1 hx with hx | hx
   ·obtain ⟨j, m, q, _, h⟩ := h1 _ _ _ x hx
    exact ⟨i, j :: m :: q, Nat.le_refl _, by rw [h, List.append_assoc]; rfl⟩
   ·obtain ⟨j, q, h3, h⟩ := h2 _ _ _ x hx
    exact ⟨j, q, by omega, h⟩
 ·intro p j f x hx; rw [posSegs] at hx; cases hx
 ·intro k b a r h1 h2 p j f x hx
  rw [posSegs] at hx
  rcases List.mem_append.1 hx with hx | hx
  ·obtain ⟨m, q, _, h⟩ := h1 _ _ _ x hx
   exact ⟨j, m, q, Nat.le_refl _, by rw [h, List.append_assoc]; rfl⟩
  ·obtain ⟨j', m, q, h3, h⟩ := h2 _ _ _ x hx
   exact ⟨j', m, q, by omega, h⟩
theorem sp_under (T : List PTok) : (∀ ks p i f, ∀ x ∈ spRow T ks p i f, ∃ j q, i ≤ j ∧ x.1 = p ++ j :: q) ∧ ∀ l p j f, ∀ x ∈ spSegs T l p j f, ∃ j' m q, j ≤ j' ∧ x.1 = p ++ j' :: m :: q := by
 refine rows_ind (P := fun ks => ∀ p i f, ∀ x ∈ spRow T ks p i f, ∃ j q, i ≤ j ∧ x.1 = p ++ j :: q) (Q := fun l => ∀ p j f, ∀ x ∈ spSegs T l p j f, ∃ j' m q, j ≤ j' ∧ x.1 = p ++ j' :: m :: q) ?_ ?_ ?_ ?_
 ·intro p i f x hx; rw [spRow] at hx; cases hx
 ·intro n ns h1 h2 p i f x hx
  rw [spRow] at hx
  rcases List.mem_cons.1 hx with rfl | hx
  ·exact ⟨i, [], Nat.le_refl _, rfl⟩
  ·rcases List.mem_append.1 hx with hx | hx
   ·obtain ⟨j, m, q, _, h⟩ := h1 _ _ _ x hx
    exact ⟨i, j :: m :: q, Nat.le_refl _, by rw [h, List.append_assoc]; rfl⟩
   ·obtain ⟨j, q, h3, h⟩ := h2 _ _ _ x hx
    exact ⟨j, q, by omega, h⟩
 ·intro p j f x hx; rw [spSegs] at hx; cases hx
 ·intro k b a r h1 h2 p j f x hx
  rw [spSegs] at hx
  rcases List.mem_append.1 hx with hx | hx
  ·obtain ⟨m, q, _, h⟩ := h1 _ _ _ x hx
   exact ⟨j, m, q, Nat.le_refl _, by rw [h, List.append_assoc]; rfl⟩
  ·obtain ⟨j', m, q, h3, h⟩ := h2 _ _ _ x hx
   exact ⟨j', m, q, by omega, h⟩
theorem pos_sorted (T : List PTok) : (∀ ks p i f, (posRow T ks p i f).Pairwise fun x y => cmp x.1 y.1 = -1) ∧ ∀ l p j f, (posSegs T l p j f).Pairwise fun x y => cmp x.1 y.1 = -1 := by
 obtain ⟨u1, u2⟩ := pos_under T
 refine rows_ind (P := fun ks => ∀ p i f, (posRow T ks p i f).Pairwise fun x y => cmp x.1 y.1 = -1) (Q := fun l => ∀ p j f, (posSegs T l p j f).Pairwise fun x y => cmp x.1 y.1 = -1) ?_ ?_ ?_ ?_
 ·intro p i f; rw [posRow]; simp
 ·intro n ns h1 h2 p i f
  rw [posRow, List.pairwise_cons, List.pairwise_append]
  refine ⟨fun y hy => ?_, h1 _ _ _, h2 _ _ _, fun x hx y hy => ?_⟩
  ·rcases List.mem_append.1 hy with hy | hy
   ·obtain ⟨j, m, q, _, h⟩ := u2 _ _ _ _ y hy
    rw [h, List.append_assoc]
    exact cmp_ext p i j _
   ·obtain ⟨j, q, h3, h⟩ := u1 _ _ _ _ y hy
    rw [h]
    exact cmp_lt (by omega) p [] q
  ·obtain ⟨j, m, q, _, h⟩ := u2 _ _ _ _ x hx
   obtain ⟨j', q', h3, h'⟩ := u1 _ _ _ _ y hy
   rw [h, h', List.append_assoc]
   exact cmp_lt (by omega) p _ _
 ·intro p j f; rw [posSegs]; exact List.Pairwise.nil
 ·intro k b a r h1 h2 p j f
  rw [posSegs, List.pairwise_append]
  refine ⟨h1 _ _ _, h2 _ _ _, fun x hx y hy => ?_⟩
  obtain ⟨m, q, _, h⟩ := u1 _ _ _ _ x hx
  obtain ⟨j', m', q', h3, h'⟩ := u2 _ _ _ _ y hy
  rw [h, h', List.append_assoc]
  exact cmp_lt (by omega) p _ _
theorem sp_pos (T : List PTok) : (∀ ks p i f, ∀ x ∈ spRow T ks p i f, (x.1, x.2.1) ∈ posRow T ks p i f) ∧ ∀ l p j f, ∀ x ∈ spSegs T l p j f, (x.1, x.2.1) ∈ posSegs T l p j f := by
 refine rows_ind (P := fun ks => ∀ p i f, ∀ x ∈ spRow T ks p i f, (x.1, x.2.1) ∈ posRow T ks p i f) (Q := fun l => ∀ p j f, ∀ x ∈ spSegs T l p j f, (x.1, x.2.1) ∈ posSegs T l p j f) ?_ ?_ ?_ ?_
 ·intro p i f x hx; rw [spRow] at hx; cases hx
 ·intro n ns h1 h2 p i f x hx
  rw [spRow] at hx
  rw [posRow]
  rcases List.mem_cons.1 hx with rfl | hx
  ·exact List.mem_cons_self ..
  ·rcases List.mem_append.1 hx with hx | hx
   ·exact List.mem_cons_of_mem _ (List.mem_append_left _ (h1 _ _ _ x hx))
   ·exact List.mem_cons_of_mem _ (List.mem_append_right _ (h2 _ _ _ x hx))
 ·intro p j f x hx; rw [spSegs] at hx; cases hx
 ·intro k b a r h1 h2 p j f x hx
  rw [spSegs] at hx
  rw [posSegs]
  rcases List.mem_append.1 hx with hx | hx
  ·exact List.mem_append_left _ (h1 _ _ _ x hx)
  ·exact List.mem_append_right _ (h2 _ _ _ x hx)
end Go.Proofs.YtdacpbdamliafaaGreat.Tr

/- Where the positions and the spans of a valid tree lie: bounds, order, nesting. No program in sight. -/
namespace Go.Proofs.YtdacpbdamliafaaGreat.Tr
open Lx (Tok PTok)
theorem View.rows {n : Nd} (v : View n) : ∀ a ∈ n.kids, IsRow a := by
 cases v with
 | sym t h => intro a ha; cases ha
 | num t h => intro a ha; cases ha
 | text t h => intro a ha; cases ha
 | frac a b ha hb => intro x hx; simp [Nd.kids] at hx; rcases hx with rfl | rfl <;> assumption
 | root a b ha hb => intro x hx; simp [Nd.kids] at hx; rcases hx with rfl | rfl <;> assumption
 | sub a b ha hb => intro x hx; simp [Nd.kids] at hx; rcases hx with rfl | rfl <;> assumption
 | sup a b ha hb => intro x hx; simp [Nd.kids] at hx; rcases hx with rfl | rfl <;> assumption
 | both a b d ha hb hd => intro x hx; simp [Nd.kids] at hx; rcases hx with rfl | rfl | rfl <;> assumption
 | accent t a h ha => intro x hx; simp [Nd.kids] at hx; rcases hx with rfl; assumption
 | fence t a h ha => intro x hx; simp [Nd.kids] at hx; rcases hx with rfl; assumption
 | matrix c ks hc hn hm h => exact h
theorem View.segRows {n : Nd} (v : View n) : ∀ x ∈ segs n, IsRow x.2.2 := by
 intro x hx
 refine v.rows _ ?_
 rw [← segs_rows]
 exact List.mem_map.2 ⟨x, hx, rfl⟩
structure Mono (T : List PTok) : Prop where
 own : ∀ i (h : i < T.length), T[i].from_ ≤ T[i].to_
 next : ∀ i (h : i + 1 < T.length), T[i].to_ ≤ T[i + 1].from_
namespace Mono
variable {T : List PTok} (hm : Mono T)
include hm
theorem ends (f : Nat) (h : f < T.length) : endAt T f ≤ fromAt T f := by
 unfold endAt fromAt
 rw [List.getElem?_eq_getElem h]
 split
 ·exact Nat.zero_le _
 ·rename_i h0
  obtain ⟨f, rfl⟩ : ∃ g, f = g + 1 := ⟨f - 1, by omega⟩
  rw [Nat.add_sub_cancel, List.getElem?_eq_getElem (by omega)]
  exact hm.next f h
theorem one (f : Nat) (h : f < T.length) : fromAt T f ≤ endAt T (f + 1) := by
 unfold endAt fromAt
 rw [if_neg (by omega), Nat.add_sub_cancel, List.getElem?_eq_getElem h]
 exact hm.own f h
theorem end_mono : ∀ (d f : Nat), f + d ≤ T.length → endAt T f ≤ endAt T (f + d)
 | 0, f, _ => Nat.le_refl _
 | d + 1, f, h => by
  have h1 := end_mono d f (by omega)
  have h2 := hm.ends (f + d) (by omega)
  have h3 := hm.one (f + d) (by omega)
  rw [show f + (d + 1) = f + d + 1 by omega]
  omega
theorem endLe {f g : Nat} (h : f ≤ g) (hg : g ≤ T.length) : endAt T f ≤ endAt T g := by
 have := hm.end_mono (g - f) f (by omega)
 rwa [show f + (g - f) = g by omega] at this
theorem fromEnd {f g : Nat} (h : f < g) (hg : g ≤ T.length) : fromAt T f ≤ endAt T g := Nat.le_trans (hm.one f (by omega)) (hm.endLe (by omega) hg)
theorem endFrom {f g : Nat} (h : f ≤ g) (hg : g < T.length) : endAt T f ≤ fromAt T g := Nat.le_trans (hm.endLe h (by omega)) (hm.ends g hg)
theorem fromLe {f g : Nat} (h : f ≤ g) (hg : g < T.length) : fromAt T f ≤ fromAt T g := by
 rcases Nat.lt_or_ge f g with h1 | h1
 ·exact Nat.le_trans (hm.fromEnd h1 (by omega)) (hm.ends g hg)
 ·rw [show f = g by omega]; exact Nat.le_refl _
end Mono
def lowR (T : List PTok) (ks : List Nd) (f : Nat) : Nat := if ks = [] then endAt T f else fromAt T f
theorem lowR_ge {T : List PTok} (hm : Mono T) (ks : List Nd) (hv : ∀ x ∈ ks, View x) (f : Nat) (h : f + (rowT ks).length ≤ T.length) : endAt T f ≤ lowR T ks f := by
 unfold lowR
 split
 ·exact Nat.le_refl _
 ·cases ks with
  | nil => contradiction
  | cons n ns =>
   rw [rowT_cons, List.length_append] at h
   have := item_pos n (hv n (by simp))
   exact hm.ends f (by omega)
def firsts (l : List (Nat × Bool × Nd)) : Prop := ∀ x ∈ l, x.1 = 0 → x.2.1 = false → x.2.2.kids ≠ []
def segsOK (l : List (Nat × Bool × Nd)) : Prop := (∀ x ∈ l, IsRow x.2.2) ∧ firsts l
theorem View.segsOK {n : Nd} (v : View n) : segsOK (segs n) := ⟨v.segRows, segs_first n v⟩
theorem segsOK.tail {x : Nat × Bool × Nd} {l : List (Nat × Bool × Nd)} (h : Tr.segsOK (x :: l)) : Tr.segsOK l := ⟨fun y hy => h.1 y (by simp [hy]), fun y hy => h.2 y (by simp [hy])⟩
theorem bool_le (b : Bool) : b.toNat ≤ 1 := by cases b <;> decide
theorem pos_bounds {T : List PTok} (hm : Mono T) : (∀ ks, (∀ x ∈ ks, View x) → ∀ p i f, f + (rowT ks).length ≤ T.length → ∀ x ∈ posRow T ks p i f, lowR T ks f ≤ x.2 ∧ x.2 ≤ endAt T (f + (rowT ks).length)) ∧
  ∀ l, segsOK l → ∀ p j f f0, f0 ≤ f → f + segsLen l ≤ T.length → ∀ x ∈ posSegs T l p j f, fromAt T f0 ≤ x.2 ∧ x.2 ≤ endAt T (f + segsLen l) := by
 refine rows_ind (P := fun ks => (∀ x ∈ ks, View x) → ∀ p i f, f + (rowT ks).length ≤ T.length → ∀ x ∈ posRow T ks p i f, lowR T ks f ≤ x.2 ∧ x.2 ≤ endAt T (f + (rowT ks).length)) (Q := fun l => segsOK l → ∀ p j f f0, f0 ≤ f → f + segsLen l ≤ T.length → ∀ x ∈ posSegs T l p j f, fromAt T f0 ≤ x.2 ∧ x.2 ≤ endAt T (f + segsLen l)) ?_ ?_ ?_ ?_
 ·intro _ p i f hf x hx
  rw [posRow] at hx
  rcases List.mem_singleton.1 hx with rfl
  rw [rowT_nil]
  exact ⟨Nat.le_refl _, Nat.le_refl _⟩
 ·intro n ns h1 h2 hv p i f hf x hx
  have vn := hv n (by simp)
  have hi := item_segs n vn
  have hp := item_pos n vn
  rw [rowT_cons, List.length_append] at hf ⊢
  rw [posRow] at hx
  have hl : lowR T (n :: ns) f = fromAt T f := by unfold lowR; rw [if_neg (by simp)]
  rw [hl]
  rcases List.mem_cons.1 hx with rfl | hx
  ·exact ⟨Nat.le_refl _, hm.fromEnd (by omega) hf⟩
  ·rcases List.mem_append.1 hx with hx | hx
   ·obtain ⟨a, b⟩ := h1 vn.segsOK _ _ _ f (Nat.le_refl _) (by omega) x hx
    exact ⟨a, Nat.le_trans b (hm.endLe (by omega) hf)⟩
   ·have hv' : ∀ y ∈ ns, View y := fun y hy => hv y (by simp [hy])
    obtain ⟨a, b⟩ := h2 hv' _ _ _ (by omega) x hx
    have := lowR_ge hm ns hv' (f + (itemT n).length) (by omega)
    have := hm.fromEnd (f := f) (g := f + (itemT n).length) (by omega) (by omega)
    rw [Nat.add_assoc] at b
    exact ⟨by omega, b⟩
 ·intro _ p j f f0 _ _ x hx; rw [posSegs] at hx; cases hx
 ·intro k b a r h1 h2 hok p j f f0 h0 hf x hx
  have hr : IsRow a := hok.1 (k, b, a) (by simp)
  rw [segsLen, segLen_eq] at hf ⊢
  rw [posSegs] at hx
  rcases List.mem_append.1 hx with hx | hx
  ·obtain ⟨c, d⟩ := h1 hr.views _ _ _ (by omega) x hx
   refine ⟨Nat.le_trans ?_ c, Nat.le_trans d (hm.endLe (by omega) hf)⟩
   unfold lowR
   split
   ·rename_i hk
    have : 0 < k + b.toNat := by
     rcases Nat.eq_zero_or_pos (k + b.toNat) with h | h
     ·have hb : b = false := by cases b with | false => rfl | true => simp at h
      exact absurd hk (hok.2 (k, b, a) (by simp) (by show k = 0; omega) hb)
     ·exact h
    exact hm.fromEnd (by omega) (by omega)
   ·rename_i hk
    have h3 : 0 < (rowT a.kids).length := by
     cases hks : a.kids with
     | nil => exact absurd hks hk
     | cons y ys =>
      rw [rowT_cons, List.length_append]
      have := item_pos y (hr.views y (by rw [hks]; simp))
      omega
    exact hm.fromLe (by omega) (by omega)
  ·rw [segLen_eq] at hx
   obtain ⟨c, d⟩ := h2 hok.tail _ _ _ f0 (by omega) (by omega) x hx
   refine ⟨c, ?_⟩
   rw [← Nat.add_assoc]
   exact d
theorem pos_mono {T : List PTok} (hm : Mono T) : (∀ ks, (∀ x ∈ ks, View x) → ∀ p i f, f + (rowT ks).length ≤ T.length → (posRow T ks p i f).Pairwise fun x y => x.2 ≤ y.2) ∧
  ∀ l, segsOK l → ∀ p j f, f + segsLen l ≤ T.length → (posSegs T l p j f).Pairwise fun x y => x.2 ≤ y.2 := by
 obtain ⟨b1, b2⟩ := pos_bounds hm
 refine rows_ind (P := fun ks => (∀ x ∈ ks, View x) → ∀ p i f, f + (rowT ks).length ≤ T.length → (posRow T ks p i f).Pairwise fun x y => x.2 ≤ y.2) (Q := fun l => segsOK l → ∀ p j f, f + segsLen l ≤ T.length → (posSegs T l p j f).Pairwise fun x y => x.2 ≤ y.2) ?_ ?_ ?_ ?_
 ·intro _ p i f _; rw [posRow]; simp
 ·intro n ns h1 h2 hv p i f hf
  have vn := hv n (by simp)
  have hi := item_segs n vn
  have hp := item_pos n vn
  have hv' : ∀ y ∈ ns, View y := fun y hy => hv y (by simp [hy])
  rw [rowT_cons, List.length_append] at hf
  have hl := lowR_ge hm ns hv' (f + (itemT n).length) (by omega)
  rw [posRow, List.pairwise_cons, List.pairwise_append]
  refine ⟨fun y hy => ?_, h1 vn.segsOK _ _ _ (by omega), h2 hv' _ _ _ (by omega), fun x hx y hy => ?_⟩
  ·rcases List.mem_append.1 hy with hy | hy
   ·exact (b2 _ vn.segsOK _ _ _ f (Nat.le_refl _) (by omega) y hy).1
   ·have := (b1 _ hv' _ _ _ (by omega) y hy).1
    have := hm.fromEnd (f := f) (g := f + (itemT n).length) (by omega) (by omega)
    show fromAt T f ≤ y.2
    omega
  ·have := (b2 _ vn.segsOK _ _ _ f (Nat.le_refl _) (by omega) x hx).2
   have := (b1 _ hv' _ _ _ (by omega) y hy).1
   have := hm.endLe (f := f + segsLen (segs n)) (g := f + (itemT n).length) (by omega) (by omega)
   omega
 ·intro _ p j f _; rw [posSegs]; exact List.Pairwise.nil
 ·intro k b a r h1 h2 hok p j f hf
  have hr : IsRow a := hok.1 (k, b, a) (by simp)
  rw [segsLen, segLen_eq] at hf
  rw [posSegs, List.pairwise_append]
  refine ⟨h1 hr.views _ _ _ (by omega), h2 hok.tail _ _ _ (by rw [segLen_eq]; omega), fun x hx y hy => ?_⟩
  have hx2 := (b1 _ hr.views _ _ _ (by omega) x hx).2
  -- what is behind lies behind the row's end
  have hy1 : ∀ l, segsOK l → ∀ p j g, g + segsLen l ≤ T.length → ∀ y ∈ posSegs T l p j g, endAt T g ≤ y.2 := by
   intro l
   induction l with
   | nil => intro _ p j g _ y hy; rw [posSegs] at hy; cases hy
   | cons z l ih =>
    obtain ⟨k', b', a'⟩ := z
    intro hok p j g hg y hy
    have hr' : IsRow a' := hok.1 (k', b', a') (by simp)
    rw [segsLen, segLen_eq] at hg
    rw [posSegs] at hy
    rcases List.mem_append.1 hy with hy | hy
    ·have h5 := (b1 _ hr'.views _ _ _ (by omega) y hy).1
     have h6 := lowR_ge hm a'.kids hr'.views (g + k' + b'.toNat) (by omega)
     have h7 := hm.endLe (f := g) (g := g + k' + b'.toNat) (by omega) (by omega)
     omega
    ·rw [segLen_eq] at hy
     have h5 := ih hok.tail _ _ _ (by omega) y hy
     have h7 := hm.endLe (f := g) (g := g + (k' + 2 * b'.toNat + (rowT a'.kids).length)) (by omega) (by omega)
     omega
  have h8 := hy1 r hok.tail _ _ _ (by rw [segLen_eq]; omega) y hy
  rw [segLen_eq] at h8
  have h7 := hm.endLe (f := f + k + b.toNat + (rowT a.kids).length) (g := f + (k + 2 * b.toNat + (rowT a.kids).length)) (by omega) (by omega)
  omega
theorem pos_last (T : List PTok) : ∀ (ks : List Nd) (p : Path) (i f : Nat), ∃ l, posRow T ks p i f = l ++ [(p ++ [i + ks.length], endAt T (f + (rowT ks).length))]
 | [], p, i, f => ⟨[], by rw [posRow, rowT_nil]; rfl⟩
 | n :: ns, p, i, f => by
  obtain ⟨l, h⟩ := pos_last T ns p (i + 1) (f + (itemT n).length)
  rw [posRow, h, rowT_cons, List.length_append, show i + (n :: ns).length = i + 1 + ns.length by simp; omega, ← Nat.add_assoc]
  exact ⟨_ :: (_ ++ l), by rw [List.cons_append, List.append_assoc]⟩
theorem sp_bounds {T : List PTok} (hm : Mono T) : (∀ ks, (∀ x ∈ ks, View x) → ∀ p i f, f + (rowT ks).length ≤ T.length → ∀ x ∈ spRow T ks p i f, fromAt T f ≤ x.2.1 ∧ x.2.1 ≤ x.2.2 ∧ x.2.2 ≤ endAt T (f + (rowT ks).length)) ∧
  ∀ l, segsOK l → ∀ p j f f0, f0 ≤ f → f + segsLen l ≤ T.length → ∀ x ∈ spSegs T l p j f, fromAt T f0 ≤ x.2.1 ∧ endAt T f ≤ x.2.1 ∧ x.2.1 ≤ x.2.2 ∧ x.2.2 ≤ endAt T (f + segsLen l) := by
 refine rows_ind (P := fun ks => (∀ x ∈ ks, View x) → ∀ p i f, f + (rowT ks).length ≤ T.length → ∀ x ∈ spRow T ks p i f, fromAt T f ≤ x.2.1 ∧ x.2.1 ≤ x.2.2 ∧ x.2.2 ≤ endAt T (f + (rowT ks).length)) (Q := fun l => segsOK l → ∀ p j f f0, f0 ≤ f → f + segsLen l ≤ T.length → ∀ x ∈ spSegs T l p j f, fromAt T f0 ≤ x.2.1 ∧ endAt T f ≤ x.2.1 ∧ x.2.1 ≤ x.2.2 ∧ x.2.2 ≤ endAt T (f + segsLen l)) ?_ ?_ ?_ ?_
 ·intro _ p i f hf x hx; rw [spRow] at hx; cases hx
 ·intro n ns h1 h2 hv p i f hf x hx
  have vn := hv n (by simp)
  have hi := item_segs n vn
  have hp := item_pos n vn
  have hv' : ∀ y ∈ ns, View y := fun y hy => hv y (by simp [hy])
  rw [rowT_cons, List.length_append] at hf ⊢
  rw [spRow] at hx
  rcases List.mem_cons.1 hx with rfl | hx
  ·exact ⟨Nat.le_refl _, hm.fromEnd (by omega) (by omega), hm.endLe (by omega) hf⟩
  ·rcases List.mem_append.1 hx with hx | hx
   ·obtain ⟨a, _, b, c⟩ := h1 vn.segsOK _ _ _ f (Nat.le_refl _) (by omega) x hx
    exact ⟨a, b, Nat.le_trans c (hm.endLe (by omega) hf)⟩
   ·obtain ⟨a, b, c⟩ := h2 hv' _ _ _ (by omega) x hx
    rw [Nat.add_assoc] at c
    refine ⟨Nat.le_trans (hm.fromLe (by omega) ?_) a, b, c⟩
    cases ns with
    | nil => rw [spRow] at hx; cases hx
    | cons m ms =>
     have := item_pos m (hv' m (by simp))
     rw [rowT_cons, List.length_append] at hf
     omega
 ·intro _ p j f f0 _ _ x hx; rw [spSegs] at hx; cases hx
 ·intro k b a r h1 h2 hok p j f f0 h0 hf x hx
  have hr : IsRow a := hok.1 (k, b, a) (by simp)
  rw [segsLen, segLen_eq] at hf ⊢
  rw [spSegs] at hx
  rcases List.mem_append.1 hx with hx | hx
  ·obtain ⟨c, d, e⟩ := h1 hr.views _ _ _ (by omega) x hx
   have h3 : 0 < (rowT a.kids).length := by
    cases hks : a.kids with
    | nil => rw [hks, spRow] at hx; cases hx
    | cons y ys =>
     rw [rowT_cons, List.length_append]
     have := item_pos y (hr.views y (by rw [hks]; simp))
     omega
   exact ⟨Nat.le_trans (hm.fromLe (by omega) (by omega)) c, Nat.le_trans (hm.endFrom (by omega) (by omega)) c, d, Nat.le_trans e (hm.endLe (by omega) hf)⟩
  ·rw [segLen_eq] at hx
   obtain ⟨c, c', d, e⟩ := h2 hok.tail _ _ _ f0 (by omega) (by omega) x hx
   rw [← Nat.add_assoc]
   exact ⟨c, Nat.le_trans (hm.endLe (by omega) (by omega)) c', d, e⟩
def nested (x y : Path × Nat × Nat) : Prop := (x.1 <+: y.1 → x.2.1 ≤ y.2.1 ∧ y.2.2 ≤ x.2.2) ∧ (¬ x.1 <+: y.1 → x.2.2 ≤ y.2.1)
theorem noPrefix {i j : Nat} (h : i ≠ j) (p q r : Path) : ¬ (p ++ i :: q) <+: (p ++ j :: r) := by
 rw [List.prefix_append_right_inj, List.cons_prefix_cons]
 exact fun e => h e.1
theorem sp_nested {T : List PTok} (hm : Mono T) : (∀ ks, (∀ x ∈ ks, View x) → ∀ p i f, f + (rowT ks).length ≤ T.length → (spRow T ks p i f).Pairwise nested) ∧
  ∀ l, segsOK l → ∀ p j f, f + segsLen l ≤ T.length → (spSegs T l p j f).Pairwise nested := by
 obtain ⟨b1, b2⟩ := sp_bounds hm
 obtain ⟨u1, u2⟩ := sp_under T
 refine rows_ind (P := fun ks => (∀ x ∈ ks, View x) → ∀ p i f, f + (rowT ks).length ≤ T.length → (spRow T ks p i f).Pairwise nested) (Q := fun l => segsOK l → ∀ p j f, f + segsLen l ≤ T.length → (spSegs T l p j f).Pairwise nested) ?_ ?_ ?_ ?_
 ·intro _ p i f _; rw [spRow]; exact List.Pairwise.nil
 ·intro n ns h1 h2 hv p i f hf
  have vn := hv n (by simp)
  have hi := item_segs n vn
  have hp := item_pos n vn
  have hv' : ∀ y ∈ ns, View y := fun y hy => hv y (by simp [hy])
  rw [rowT_cons, List.length_append] at hf
  have hlast : ∀ y ∈ spRow T ns p (i + 1) (f + (itemT n).length), endAt T (f + (itemT n).length) ≤ y.2.1 := fun y hy => by
   have := (b1 _ hv' _ _ _ (by omega) y hy).1
   refine Nat.le_trans (hm.ends _ ?_) this
   cases ns with
   | nil => rw [spRow] at hy; cases hy
   | cons m ms =>
    have := item_pos m (hv' m (by simp))
    rw [rowT_cons, List.length_append] at hf
    omega
  rw [spRow, List.pairwise_cons, List.pairwise_append]
  refine ⟨fun y hy => ?_, h1 vn.segsOK _ _ _ (by omega), h2 hv' _ _ _ (by omega), fun x hx y hy => ?_⟩
  ·rcases List.mem_append.1 hy with hy | hy
   ·obtain ⟨a, _, b, c⟩ := b2 _ vn.segsOK _ _ _ f (Nat.le_refl _) (by omega) y hy
    obtain ⟨j', m', q', _, h⟩ := u2 _ _ _ _ y hy
    refine ⟨fun _ => ⟨a, Nat.le_trans c (hm.endLe (by omega) (by omega))⟩, fun hn => absurd ?_ hn⟩
    show (p ++ [i]) <+: y.1
    rw [h]
    exact List.prefix_append _ _
   ·obtain ⟨j', q', h3, h⟩ := u1 _ _ _ _ y hy
    refine ⟨fun hp' => ?_, fun _ => hlast y hy⟩
    have hp'' : (p ++ i :: []) <+: y.1 := hp'
    rw [h] at hp''
    exact absurd hp'' (noPrefix (by omega) p [] q')
  ·obtain ⟨j, m, q, _, h⟩ := u2 _ _ _ _ x hx
   obtain ⟨j', q', h3, h'⟩ := u1 _ _ _ _ y hy
   refine ⟨fun hp' => ?_, fun _ => ?_⟩
   ·rw [h, h', List.append_assoc] at hp'
    exact absurd hp' (noPrefix (by omega) p _ q')
   ·have h5 := (b2 _ vn.segsOK _ _ _ f (Nat.le_refl _) (by omega) x hx).2.2.2
    have h6 := hlast y hy
    have h7 := hm.endLe (f := f + segsLen (segs n)) (g := f + (itemT n).length) (by omega) (by omega)
    omega
 ·intro _ p j f _; rw [spSegs]; exact List.Pairwise.nil
 ·intro k b a r h1 h2 hok p j f hf
  have hr : IsRow a := hok.1 (k, b, a) (by simp)
  rw [segsLen, segLen_eq] at hf
  rw [spSegs, List.pairwise_append]
  refine ⟨h1 hr.views _ _ _ (by omega), h2 hok.tail _ _ _ (by rw [segLen_eq]; omega), fun x hx y hy => ?_⟩
  have hx2 := (b1 _ hr.views _ _ _ (by omega) x hx).2.2
  have hy2 := (b2 _ hok.tail _ _ _ _ (Nat.le_refl _) (by rw [segLen_eq]; omega) y hy).2.1
  obtain ⟨m, q, _, h⟩ := u1 _ _ _ _ x hx
  obtain ⟨j', m', q', h3, h'⟩ := u2 _ _ _ _ y hy
  refine ⟨fun hp' => ?_, fun _ => ?_⟩
  ·rw [h, h', List.append_assoc] at hp'
   exact absurd hp' (noPrefix (by omega) p _ _)
  ·rw [segLen_eq] at hy2
   have h7 := hm.endLe (f := f + k + b.toNat + (rowT a.kids).length) (g := f + (k + 2 * b.toNat + (rowT a.kids).length)) (by omega) (by omega)
   omega
end Go.Proofs.YtdacpbdamliafaaGreat.Tr
