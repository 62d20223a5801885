/- Part 1 of 42 of a proof; its texts, joined: LxM, TrM, SpM, PlM, WrM, WrN. No condition. -/

set_option maxRecDepth 100000
namespace Go.Proofs.YtomibmenojdieaaGreat.Lx
abbrev Bytes := List UInt8
def cls (c : Nat) : Nat :=
 if c = 32 ∨ c = 9 ∨ c = 10 then 1
 else if 48 ≤ c ∧ c ≤ 57 then 2
 else if (97 ≤ c ∧ c ≤ 122) ∨ (65 ≤ c ∧ c ≤ 90) then 3
 else if c ∈ [43, 45, 42, 47, 61, 60, 62, 44, 59, 58, 33, 124, 39, 63, 126, 64] then 4
 else if c ∈ [123, 125, 40, 41, 91, 93, 94, 95, 38] then 5
 else 0
def isB (k : Nat) (b : UInt8) : Bool := cls b.toNat == k
def runLen (k : Nat) (l : Bytes) : Nat := (l.takeWhile (isB k)).length
def isAt (k : Nat) (l : Bytes) (i : Nat) : Bool := match l[i]? with | some b => isB k b | none => false
def clsI (l : Bytes) (i : Nat) : Int := match l[i]? with | some b => (cls b.toNat : Int) | none => -1
theorem clsI_lt (l : Bytes) (i : Nat) (h : i < l.length) : clsI l i = (cls l[i].toNat : Int) := by simp [clsI, List.getElem?_eq_getElem h]
theorem clsI_ge (l : Bytes) (i : Nat) (h : l.length ≤ i) : clsI l i = -1 := by simp [clsI, List.getElem?_eq_none h]
def runI (c : Int) (l : Bytes) (k : Nat) : Nat := ((l.drop k).takeWhile fun b => (cls b.toNat : Int) == c).length
theorem runI_yes (c : Int) (l : Bytes) (k : Nat) (hc : 0 ≤ c) (h : clsI l k = c) : k < l.length ∧ k + 1 + runI c l (k + 1) = k + runI c l k := by
 rcases Nat.lt_or_ge k l.length with hk | hk
 ·refine ⟨hk, ?_⟩
  rw [clsI_lt l k hk] at h;unfold runI;rw [List.drop_eq_getElem_cons hk, List.takeWhile_cons];simp only [h, BEq.rfl, ↓reduceIte, List.length_cons];omega
 ·rw [clsI_ge l k hk] at h; omega
theorem runI_no (c : Int) (l : Bytes) (k : Nat) (h : clsI l k ≠ c) : runI c l k = 0 := by
 unfold runI
 rcases Nat.lt_or_ge k l.length with hk | hk
 ·rw [List.drop_eq_getElem_cons hk, List.takeWhile_cons]
  rw [clsI_lt l k hk] at h;simp [h]
 ·rw [List.drop_eq_nil_of_le hk]; rfl
theorem runI_le (c : Int) (l : Bytes) (k : Nat) : runI c l k ≤ l.length - k := by
 unfold runI;have := (List.takeWhile_sublist (fun b : UInt8 => (cls b.toNat : Int) == c) (l := l.drop k)).length_le
 rwa [List.length_drop] at this
structure Tok where
 kind : Nat
 text : Bytes
 deriving DecidableEq
inductive Res where
 | ok (t : Tok) (n : Nat)
 | err (at_ e : Nat)
 deriving DecidableEq
def lim (most : Nat) (t : Tok) (n : Nat) : Res := if most < t.text.length then .err 0 6 else .ok t n
def numLen (r : Bytes) : Nat :=
 if r[runLen 2 r]? = some 46 ∧ isAt 2 r (runLen 2 r + 1) = true then runLen 2 r + 1 + runLen 2 (r.drop (runLen 2 r + 1)) else runLen 2 r
def number (r : Bytes) : Res := lim 20 ⟨2, r.take (numLen r)⟩ (numLen r)
def quo : Bytes → Bytes → Nat → Res
 | [], _, _ => .err 0 12
 | c :: q, acc, i =>
  if c = 34 then lim 200 ⟨3, acc⟩ (i + 1)
  else if c < 32 ∨ 126 < c then .err i 3
  else if c = 92 then
   match q with
   | [] => .err i 3
   | d :: q' => if d = 34 ∨ d = 92 then quo q' (acc ++ [d]) (i + 2) else .err i 3
  else quo q (acc ++ [c]) (i + 1)
def isDelim (b : UInt8) : Bool := [40, 41, 91, 93, 123, 125, 60, 62, 47, 124, 46].contains b
def delimAt (r : Bytes) (i : Nat) : Bool := match r[i]? with | some b => isDelim b | none => false
def name (r : Bytes) : Res :=
 let n := runLen 3 (r.drop 1)
 if (r.drop 1).take n ≠ [102, 101, 110, 99, 101] then lim 16 ⟨4, (r.drop 1).take n⟩ (1 + n)
 else if delimAt r (1 + n) = true ∧ delimAt r (2 + n) = true then .ok ⟨5, (r.drop (1 + n)).take 2⟩ (3 + n)
 else .err 0 3
def parAt (q : Bytes) : Bool := match q with | d :: _ => decide (49 ≤ d ∧ d ≤ 52) | [] => false
def next (r : Bytes) : Res :=
 match r with
 | [] => .err 0 3
 | c :: q =>
  if isB 2 c then number r
  else if isB 5 c then .ok ⟨7, [c]⟩ 1
  else if c = 34 then quo q [] 1
  else if c = 92 ∧ q.head? = some 92 then .ok ⟨8, [92, 92]⟩ 2
  else if c = 92 ∧ isAt 3 q 0 = true then name r
  else if c = 35 ∧ parAt q = true then .ok ⟨6, q.take 1⟩ 2
  else if isB 3 c ∨ isB 4 c then .ok ⟨1, [c]⟩ 1
  else .err 0 3
theorem quo_end (l acc : Bytes) (j i : Nat) (h : l.length ≤ j) : quo (l.drop j) acc i = .err 0 12 := by rw [List.drop_eq_nil_of_le h]; rfl
theorem quo_cons (l acc : Bytes) (j i : Nat) (h : j < l.length) : quo (l.drop j) acc i =
  if l[j] = 34 then lim 200 ⟨3, acc⟩ (i + 1)
  else if l[j] < 32 ∨ 126 < l[j] then .err i 3
  else if l[j] = 92 then
   match l.drop (j + 1) with
   | [] => .err i 3
   | d :: q' => if d = 34 ∨ d = 92 then quo q' (acc ++ [d]) (i + 2) else .err i 3
  else quo (l.drop (j + 1)) (acc ++ [l[j]]) (i + 1) := by
 rw [List.drop_eq_getElem_cons h];rw [quo.eq_def]
theorem quo_esc (l acc : Bytes) (j i : Nat) (h : j < l.length) (hc : l[j] = 92) (h1 : j + 1 < l.length) : quo (l.drop j) acc i =
  if l[j + 1] = 34 ∨ l[j + 1] = 92 then quo (l.drop (j + 2)) (acc ++ [l[j + 1]]) (i + 2) else .err i 3 := by
 rw [quo_cons l acc j i h, hc, if_neg (by decide), if_neg (by decide), if_pos rfl, List.drop_eq_getElem_cons h1]
theorem quo_esc_end (l acc : Bytes) (j i : Nat) (h : j < l.length) (hc : l[j] = 92) (h1 : l.length ≤ j + 1) : quo (l.drop j) acc i = .err i 3 := by
 rw [quo_cons l acc j i h, hc, if_neg (by decide), if_neg (by decide), if_pos rfl, List.drop_eq_nil_of_le h1]
theorem quo_plain (l acc : Bytes) (j i : Nat) (h : j < l.length) (h1 : l[j] ≠ 34) (h2 : ¬ (l[j] < 32 ∨ 126 < l[j])) (h3 : l[j] ≠ 92) : quo (l.drop j) acc i = quo (l.drop (j + 1)) (acc ++ [l[j]]) (i + 1) := by
 rw [quo_cons l acc j i h, if_neg h1, if_neg h2, if_neg h3]
structure PTok where
 kind : Nat
 text : Bytes
 from_ : Nat
 to_ : Nat
 deriving DecidableEq
def skip (l : Bytes) (a : Nat) : Nat := a + runI 1 l a
def lexGo (l : Bytes) : Nat → Nat → List PTok × Option (Nat × Nat)
 | 0, _ => ([], none)
 | fuel + 1, a =>
  if l.length ≤ skip l a then ([], none)
  else match next (l.drop (skip l a)) with
   | .err i e => ([], some (skip l a + i, e))
   | .ok t n => (⟨t.kind, t.text, skip l a, skip l a + n⟩ :: (lexGo l fuel (skip l a + n)).1, (lexGo l fuel (skip l a + n)).2)
theorem lim_ok {most : Nat} {t t' : Tok} {n n' : Nat} (h : lim most t n = .ok t' n') : t' = t ∧ n' = n := by
 unfold lim at h;split at h
 ·cases h
 ·injection h with h1 h2; exact ⟨h1.symm, h2.symm⟩
theorem quo_pos : ∀ (q acc : Bytes) (i : Nat) (t : Tok) (n : Nat), quo q acc i = .ok t n → i < n ∧ n ≤ i + q.length
 | [], _, _, _, _, h => by rw [quo.eq_def] at h; cases h
 | [c], acc, i, t, n, h => by
  rw [quo.eq_def] at h;simp only at h;split at h
  ·have := (lim_ok h).2; simp; omega
  ·split at h
   ·cases h
   ·split at h
    ·cases h
    ·rw [quo.eq_def] at h; cases h
 | c :: d :: q, acc, i, t, n, h => by
  rw [quo.eq_def] at h;simp only at h;split at h
  ·have := (lim_ok h).2; simp; omega
  ·split at h
   ·cases h
   ·split at h
    ·split at h
     ·have := quo_pos q _ _ _ _ h; simp; omega
     ·cases h
    ·have := quo_pos (d :: q) _ _ _ _ h; simp at this ⊢; omega
theorem runLen_le (k : Nat) (l : Bytes) : runLen k l ≤ l.length := (List.takeWhile_sublist _).length_le
theorem numLen_le (r : Bytes) : numLen r ≤ r.length := by
 unfold numLen;split
 ·rename_i h
  have h1 := runLen_le 2 (r.drop (runLen 2 r + 1));rw [List.length_drop] at h1;have h2 := h.1;have h3 : runLen 2 r < r.length := (List.getElem?_eq_some_iff.1 h2).1;omega
 ·exact runLen_le 2 r
theorem next_pos (r : Bytes) (t : Tok) (n : Nat) (h : next r = .ok t n) : 0 < n ∧ n ≤ r.length := by
 unfold next at h;split at h
 ·cases h
 ·rename_i c q
  split at h
  ·rename_i hc
   obtain ⟨_, rfl⟩ := lim_ok h;refine ⟨?_, numLen_le _⟩;have : 0 < runLen 2 (c :: q) := by unfold runLen; rw [List.takeWhile_cons, if_pos hc]; simp
   unfold numLen;split <;> omega
  ·split at h
   ·cases h; simp
   ·split at h
    ·have := quo_pos _ _ _ _ _ h; simp; omega
    ·split at h
     ·rename_i hc
      cases h;cases q with
      | nil => cases hc.2
      | cons => simp
     ·split at h
      ·unfold name at h
       simp only at h;have hr := runLen_le 3 ((c :: q).drop 1);simp only [List.drop_succ_cons, List.drop_zero] at hr;split at h
       ·obtain ⟨_, rfl⟩ := lim_ok h
        simp only [List.drop_succ_cons, List.drop_zero, List.length_cons]; omega
       ·split at h
        ·rename_i hd
         injection h with _ h2
         subst h2;have hx := hd.2;unfold delimAt at hx;split at hx
         ·rename_i b hb
          have := (List.getElem?_eq_some_iff.1 hb).1;simp only [List.drop_succ_cons, List.drop_zero, List.length_cons] at *;omega
         ·cases hx
        ·cases h
      ·split at h
       ·rename_i hc
        cases h;cases q with
        | nil => cases hc.2
        | cons => simp
       ·split at h
        ·cases h; simp
        ·cases h
theorem skip_le (l : Bytes) (a : Nat) (h : a ≤ l.length) : a ≤ skip l a ∧ skip l a ≤ l.length := by
 have := runI_le 1 l a;unfold skip; omega
theorem lexGo_fuel (l : Bytes) : ∀ (f g a : Nat), l.length < a + f → l.length < a + g → lexGo l f a = lexGo l g a
 | 0, g, a, hf, hg => by
  cases g with
  | zero => rfl
  | succ g => rw [lexGo, lexGo, if_pos (by unfold skip; omega)]
 | f + 1, 0, a, hf, hg => by rw [lexGo, lexGo, if_pos (by unfold skip; omega)]
 | f + 1, g + 1, a, hf, hg => by
  rw [lexGo, lexGo];split
  ·rfl
  ·rename_i hl
   cases hn : next (l.drop (skip l a)) with
   | err i e => rfl
   | ok t n =>
    have hp := (next_pos _ _ _ hn).1;have : skip l a + n = skip l a + n := rfl;simp only
    rw [lexGo_fuel l f g (skip l a + n) (by unfold skip; omega) (by unfold skip; omega)]
def lexAll (l : Bytes) : List PTok × Option (Nat × Nat) := lexGo l (l.length + 1) 0
def lexFrom (l : Bytes) (a : Nat) : List PTok × Option (Nat × Nat) := lexGo l (l.length + 1) a
theorem lexFrom_end (l : Bytes) (a : Nat) (h : l.length ≤ skip l a) : lexFrom l a = ([], none) := by unfold lexFrom; rw [lexGo, if_pos h]
theorem lexFrom_err (l : Bytes) (a i e : Nat) (h : skip l a < l.length) (hn : next (l.drop (skip l a)) = .err i e) : lexFrom l a = ([], some (skip l a + i, e)) := by
 unfold lexFrom; rw [lexGo, if_neg (by omega), hn]
theorem lexFrom_ok (l : Bytes) (a n : Nat) (t : Tok) (h : skip l a < l.length) (hn : next (l.drop (skip l a)) = .ok t n) :
  lexFrom l a = (⟨t.kind, t.text, skip l a, skip l a + n⟩ :: (lexFrom l (skip l a + n)).1, (lexFrom l (skip l a + n)).2) := by
 have hp := (next_pos _ _ _ hn).1;unfold lexFrom
 conv => lhs; rw [lexGo, if_neg (by omega), hn]
 simp only
 rw [lexGo_fuel l l.length (l.length + 1) (skip l a + n) (by unfold skip; omega) (by omega)]
theorem lim_err {most : Nat} {t : Tok} {n i e : Nat} (h : lim most t n = .err i e) : e ≠ 0 := by
 unfold lim at h;split at h
 ·cases h; decide
 ·cases h
theorem quo_err : ∀ (q acc : Bytes) (i a e : Nat), quo q acc i = .err a e → e ≠ 0
 | [], _, _, _, _, h => by rw [quo.eq_def] at h; cases h; decide
 | [c], acc, i, a, e, h => by
  rw [quo.eq_def] at h;simp only at h;split at h
  ·exact lim_err h
  ·split at h
   ·cases h; decide
   ·split at h
    ·cases h; decide
    ·rw [quo.eq_def] at h; cases h; decide
 | c :: d :: q, acc, i, a, e, h => by
  rw [quo.eq_def] at h;simp only at h;split at h
  ·exact lim_err h
  ·split at h
   ·cases h; decide
   ·split at h
    ·split at h
     ·exact quo_err q _ _ _ _ h
     ·cases h; decide
    ·exact quo_err (d :: q) _ _ _ _ h
theorem next_err (r : Bytes) (i e : Nat) (h : next r = .err i e) : e ≠ 0 := by
 unfold next at h;split at h
 ·cases h; decide
 ·split at h
  ·exact lim_err h
  ·split at h
   ·cases h
   ·split at h
    ·exact quo_err _ _ _ _ _ h
    ·split at h
     ·cases h
     ·split at h
      ·unfold name at h
       simp only at h;split at h
       ·exact lim_err h
       ·split at h
        ·cases h
        ·cases h; decide
      ·split at h
       ·cases h
       ·split at h
        ·cases h
        ·cases h; decide
theorem lexGo_err (l : Bytes) : ∀ (f a p e : Nat), (lexGo l f a).2 = some (p, e) → e ≠ 0
 | 0, _, _, _, h => by cases h
 | f + 1, a, p, e, h => by
  rw [lexGo] at h;split at h
  ·cases h
  ·cases hn : next (l.drop (skip l a)) with
   | err i er =>
    rw [hn] at h;simp only [Option.some.injEq, Prod.mk.injEq] at h;obtain ⟨_, rfl⟩ := h;exact next_err _ _ _ hn
   | ok t n =>
    rw [hn] at h;exact lexGo_err l f _ p e h
end Go.Proofs.YtomibmenojdieaaGreat.Lx
namespace Go.Proofs.YtomibmenojdieaaGreat.Tr
abbrev Bytes := List UInt8
inductive Nd where
 | mk (kind : Int) (text : Bytes) (cols : Int) (kids : List Nd)
namespace Nd
def kind : Nd → Int | mk k _ _ _ => k
def text : Nd → Bytes | mk _ t _ _ => t
def cols : Nd → Int | mk _ _ c _ => c
def kids : Nd → List Nd | mk _ _ _ ks => ks
end Nd
theorem Nd.eta (n : Nd) : n = .mk n.kind n.text n.cols n.kids := by cases n; rfl
mutual
def count : Nd → Nat
 | .mk _ _ _ ks => 1 + countL ks
def countL : List Nd → Nat
 | [] => 0
 | n :: ns => count n + countL ns
end
mutual
def depth : Nd → Nat
 | .mk _ _ _ ks => depthL ks + 1
def depthL : List Nd → Nat
 | [] => 0
 | n :: ns => max (depth n) (depthL ns)
end
theorem count_pos (n : Nd) : 0 < count n := by cases n; rw [count]; omega
theorem count_kids (n : Nd) : count n = 1 + countL n.kids := by cases n; rw [count]; rfl
theorem depth_kids (n : Nd) : depth n = depthL n.kids + 1 := by cases n; rw [depth]; rfl
theorem countL_take (l : List Nd) (i : Nat) (h : i < l.length) : countL (l.take (i + 1)) = countL (l.take i) + count l[i] := by
 induction l generalizing i with
 | nil => simp at h
 | cons x l ih =>
  cases i with
  | zero => simp [countL]
  | succ i =>
   simp only [List.take_succ_cons, countL, List.getElem_cons_succ];rw [ih i (by simpa using h)]; omega
theorem countL_le (l : List Nd) (i : Nat) : countL (l.take i) ≤ countL l := by
 induction l generalizing i with
 | nil => simp [countL]
 | cons x l ih =>
  cases i with
  | zero => simp [countL]
  | succ i => simp only [List.take_succ_cons, countL]; have := ih i; omega
theorem count_mem {l : List Nd} {n : Nd} (h : n ∈ l) : count n ≤ countL l := by
 induction l with
 | nil => cases h
 | cons x l ih =>
  rw [countL]
  rcases List.mem_cons.1 h with rfl | h
  ·omega
  ·have := ih h; omega
theorem countL_len (l : List Nd) : l.length ≤ countL l := by
 induction l with
 | nil => simp [countL]
 | cons x l ih => rw [countL]; have := count_pos x; simp; omega
theorem Nd.ind {p : Nd → Prop} (h : ∀ n, (∀ m ∈ n.kids, p m) → p n) (n : Nd) : p n := by
 have : ∀ k n, count n ≤ k → p n := by
  intro k
  induction k with
  | zero => intro n hn; have := count_pos n; omega
  | succ k ih =>
   intro n hn;refine h n fun m hm => ih m ?_
   have := count_mem hm;have := count_kids n;omega
 exact this _ n (Nat.le_refl _)
def letter (b : UInt8) : Bool := (decide (97 ≤ b) && decide (b ≤ 122)) || (decide (65 ≤ b) && decide (b ≤ 90))
def digit (b : UInt8) : Bool := decide (48 ≤ b) && decide (b ≤ 57)
def signs : Bytes := [43, 45, 42, 47, 61, 60, 62, 44, 59, 58, 33, 124, 39, 63, 126, 64]
def delims : Bytes := [40, 41, 91, 93, 123, 125, 124, 60, 62, 47, 46]
def keywords : List Bytes := [[102, 114, 97, 99], [114, 111, 111, 116], [109, 97, 116, 114, 105, 120], [102, 101, 110, 99, 101]]
def accents : List Bytes := [[104, 97, 116], [98, 97, 114], [118, 101, 99], [100, 111, 116], [116, 105, 108, 100, 101], [99, 104, 101, 99, 107]]
def character (b : UInt8) : Bool := letter b || signs.contains b
def symbol (s : Bytes) : Bool :=
 match s with
 | [c] => character c
 | s => s.all letter && decide (2 ≤ s.length) && decide (s.length ≤ 16) && !keywords.contains s && !accents.contains s
def isNum (s : Bytes) : Bool :=
 decide (s.length ≤ 20) && decide (s ≠ []) &&
 (s.all digit || match s.dropWhile (· ≠ 46) with | _ :: b => decide (s.takeWhile (· ≠ 46) ≠ []) && (s.takeWhile (· ≠ 46)).all digit && decide (b ≠ []) && b.all digit | [] => false)
def printable (s : Bytes) : Bool := s.all fun b => decide (32 ≤ b) && decide (b ≤ 126)
def fence (s : Bytes) : Bool := match s with | [a, b] => delims.contains a && delims.contains b | _ => false
def textOK (k : Int) (s : Bytes) : Bool :=
 if k = 2 then symbol s else if k = 3 then isNum s else if k = 4 then decide (s.length ≤ 200) && printable s
 else if k = 10 then accents.contains s else if k = 11 then fence s else s.isEmpty
def kidsOK (k c : Int) (n : Nat) : Bool :=
 if k = 12 then decide (1 ≤ c) && decide (c ≤ 16) && decide (1 ≤ n) && decide (n ≤ 256) && decide ((n : Int) % c = 0)
 else if c ≠ 0 then false
 else if k = 1 then decide (n ≤ 200)
 else if k = 2 ∨ k = 3 ∨ k = 4 then decide (n = 0)
 else if k = 5 ∨ k = 6 ∨ k = 7 ∨ k = 8 then decide (n = 2)
 else if k = 9 then decide (n = 3)
 else if k = 10 ∨ k = 11 then decide (n = 1)
 else false
mutual
def form : Nd → Bool
 | .mk k t c ks => textOK k t && kidsOK k c ks.length && formL (k == 1) ks
def formL : Bool → List Nd → Bool
 | _, [] => true
 | r, n :: ns => ((n.kind == 1) != r) && form n && formL r ns
end
def valid (n : Nd) : Bool := (n.kind == 1) && form n && decide (count n ≤ 1000) && decide (depth n ≤ 24)
mutual
def eqN : Nd → Nd → Bool
 | .mk k t c ks, .mk k' t' c' ks' => (k == k') && (t == t') && (c == c') && eqL ks ks'
def eqL : List Nd → List Nd → Bool
 | [], [] => true
 | n :: ns, m :: ms => eqN n m && eqL ns ms
 | _, _ => false
end
theorem eqL_len : ∀ (l m : List Nd), l.length ≠ m.length → eqL l m = false
 | [], [], h => absurd rfl h
 | x :: l, y :: m, h => by rw [eqL, eqL_len l m (by simpa using h), Bool.and_false]
 | [], _ :: _, _ => by simp [eqL]
 | _ :: _, [], _ => by simp [eqL]
theorem form_eq (n : Nd) : form n = (textOK n.kind n.text && kidsOK n.kind n.cols n.kids.length && formL (n.kind == 1) n.kids) := by
 cases n; rw [form]; rfl
theorem formL_take (r : Bool) : ∀ (l : List Nd) (i : Nat) (h : i < l.length), formL r (l.take (i + 1)) = (formL r (l.take i) && (((l[i].kind == 1) != r) && form l[i]))
 | [], i, h => by simp at h
 | x :: l, 0, h => by simp [formL]
 | x :: l, i + 1, h => by
  simp only [List.take_succ_cons, formL, List.getElem_cons_succ];rw [formL_take r l i (by simpa using h)];simp only [Bool.and_assoc]
theorem formL_no (r : Bool) : ∀ (l : List Nd) (i : Nat) (h : i < l.length), (((l[i].kind == 1) != r) && form l[i]) = false → formL r l = false
 | [], i, h, _ => by simp at h
 | x :: l, 0, h, hn => by simp only [List.getElem_cons_zero] at hn; rw [formL, hn, Bool.false_and]
 | x :: l, i + 1, h, hn => by
  simp only [List.getElem_cons_succ] at hn;rw [formL, formL_no r l i (by simpa using h) hn, Bool.and_false]
theorem eqN_eq (n m : Nd) : eqN n m = ((n.kind == m.kind) && (n.text == m.text) && (n.cols == m.cols) && eqL n.kids m.kids) := by
 cases n; cases m; rw [eqN]; rfl
theorem eqN_iff (n : Nd) : ∀ m, eqN n m = true ↔ n = m := by
 induction n using Nd.ind with
 | h n ih =>
  intro m
  have hL : ∀ (l l' : List Nd), (∀ x ∈ l, ∀ y, eqN x y = true ↔ x = y) → (eqL l l' = true ↔ l = l') := by
   intro l
   induction l with
   | nil =>
    intro l' _;cases l' with
    | nil => simp [eqL]
    | cons y l' => simp [eqL]
   | cons x l ih2 =>
    intro l' h;cases l' with
    | nil => simp [eqL]
    | cons y l' =>
     rw [eqL, Bool.and_eq_true, h x (by simp) y, ih2 l' (fun z hz => h z (by simp [hz]))];simp
  rw [eqN_eq, Bool.and_eq_true, Bool.and_eq_true, Bool.and_eq_true, hL n.kids m.kids ih, beq_iff_eq, beq_iff_eq, beq_iff_eq, Nd.eta n, Nd.eta m];simp [Nd.kind, Nd.text, Nd.cols, Nd.kids, and_assoc]
end Go.Proofs.YtomibmenojdieaaGreat.Tr
namespace Go.Proofs.YtomibmenojdieaaGreat.Lx
def escB (b : UInt8) : Bytes := if b = 34 ∨ b = 92 then [92, b] else [b]
def esc (l : Bytes) : Bytes := l.flatMap escB
def quoteL (l : Bytes) : Bytes := 34 :: (esc l ++ [34])
def spellL (k : Int) (t : Bytes) : Bytes :=
 if k = 3 then quoteL t else if k = 4 then 92 :: t else if k = 5 then [92, 102, 101, 110, 99, 101] ++ t else if k = 6 then 35 :: t else t
theorem esc_len (l : Bytes) : (esc l).length ≤ 2 * l.length := by
 induction l with
 | nil => simp [esc]
 | cons b l ih =>
  have : (escB b).length ≤ 2 := by unfold escB; split <;> simp
  simp [esc] at ih ⊢; omega
theorem esc_snoc (l : Bytes) (b : UInt8) : esc (l ++ [b]) = esc l ++ escB b := by simp [esc]
end Go.Proofs.YtomibmenojdieaaGreat.Lx
namespace Go.Proofs.YtomibmenojdieaaGreat.Lx
theorem lim_as {most : Nat} {t t' : Tok} {n n' : Nat} (h : lim most t n = .ok t' n') : t = t' ∧ n = n' := by
 obtain ⟨h1, h2⟩ := lim_ok h;exact ⟨h1.symm, h2.symm⟩
theorem quo_spell : ∀ (q acc : Bytes) (i : Nat) (t : Tok) (n : Nat), quo q acc i = .ok t n → t.kind = 3 ∧ ∃ x, t.text = acc ++ x ∧ i < n ∧ q.take (n - i) = esc x ++ [34]
 | [], acc, i, t, n, h => by simp [quo] at h
 | c :: q, acc, i, t, n, h => by
  unfold quo at h;split at h
  ·rename_i hc
   obtain ⟨h1, h2⟩ := lim_as h;subst h1 h2 hc;exact ⟨rfl, [], by simp, by omega, by simp [esc]⟩
  ·rename_i hc
   split at h
   ·cases h
   ·split at h
    ·rename_i hc2
     subst hc2;cases q with
     | nil => simp at h
     | cons d q' =>
      simp only at h;split at h
      ·rename_i hd
       obtain ⟨h1, x, h2, h3, h4⟩ := quo_spell q' _ _ t n h;refine ⟨h1, d :: x, by rw [h2]; simp, by omega, ?_⟩;have e1 : n - i = (n - (i + 2)) + 1 + 1 := by omega
       rw [e1, List.take_succ_cons, List.take_succ_cons, h4];have : escB d = [92, d] := by unfold escB; rw [if_pos hd]
       simp [esc, this]
      ·cases h
    ·rename_i hc2
     obtain ⟨h1, x, h2, h3, h4⟩ := quo_spell q _ _ t n h;refine ⟨h1, c :: x, by rw [h2]; simp, by omega, ?_⟩;have e1 : n - i = (n - (i + 1)) + 1 := by omega
     rw [e1, List.take_succ_cons, h4];have : escB c = [c] := by unfold escB; rw [if_neg (by rintro (h | h) <;> contradiction)]
     simp [esc, this]
theorem next_spell (r : Bytes) (t : Tok) (n : Nat) (h : next r = .ok t n) : r.take n = spellL t.kind t.text := by
 cases r with
 | nil => simp [next] at h
 | cons c q =>
  rw [next] at h;split at h
  ·obtain ⟨h1, h2⟩ := lim_as h
   subst h1 h2; rfl
  ·split at h
   ·cases h; rfl
   ·split at h
    ·rename_i hc
     obtain ⟨h1, x, h2, h3, h4⟩ := quo_spell q [] 1 t n h;have e1 : n = (n - 1) + 1 := by omega
     rw [e1, List.take_succ_cons, h4, h1, h2, hc];simp [spellL, quoteL]
    ·split at h
     ·rename_i hc
      obtain ⟨h1, h2⟩ := hc;cases h;cases q with
      | nil => simp at h2
      | cons d q' => simp at h2; subst h1 h2; rfl
     ·split at h
      ·rename_i hc
       obtain ⟨hc, _⟩ := hc;subst hc;unfold name at h;simp only [List.drop_succ_cons, List.drop_zero] at h;split at h
       ·obtain ⟨h1, h2⟩ := lim_as h
        subst h1 h2;rw [Nat.add_comm 1, List.take_succ_cons]; rfl
       ·rename_i hf
        simp only [ne_eq, Decidable.not_not] at hf;split at h
        ·cases h
         rw [show 3 + runLen 3 q = (runLen 3 q + 2) + 1 by omega, List.take_succ_cons, List.take_add, hf, Nat.add_comm 1, List.drop_succ_cons];rfl
        ·cases h
      ·split at h
       ·rename_i hc
        obtain ⟨h1, _⟩ := hc;cases h;subst h1;rfl
       ·split at h
        ·cases h; rfl
        ·cases h
theorem lexGo_count (l : Bytes) : ∀ (f a : Nat), a ≤ l.length → (lexGo l f a).1.length + a ≤ l.length
 | 0, a, h1 => by simpa [lexGo] using h1
 | f + 1, a, h1 => by
  obtain ⟨s1, s2⟩ := skip_le l a h1;rw [lexGo];split
  ·simpa using h1
  ·cases hn : next (l.drop (skip l a)) with
   | err i e => simpa using h1
   | ok t n =>
    obtain ⟨n1, n2⟩ := next_pos _ _ _ hn;rw [List.length_drop] at n2;have := lexGo_count l f (skip l a + n) (by omega);simp only [List.length_cons]; omega
theorem lexAll_count (l : Bytes) : (lexAll l).1.length ≤ l.length := lexGo_count l _ 0 (Nat.zero_le _)
end Go.Proofs.YtomibmenojdieaaGreat.Lx
namespace Go.Proofs.YtomibmenojdieaaGreat.Lx
def TokOK (t : Tok) : Prop :=
 (t.kind = 1 ∧ ∃ c, t.text = [c] ∧ (isB 3 c = true ∨ isB 4 c = true)) ∨
 (t.kind = 2 ∧ t.text.length ≤ 20 ∧ ∃ ds, ds ≠ [] ∧ ds.all (isB 2) = true ∧ (t.text = ds ∨ ∃ es, es ≠ [] ∧ es.all (isB 2) = true ∧ t.text = ds ++ 46 :: es)) ∨
 (t.kind = 3 ∧ t.text.length ≤ 200 ∧ t.text.all (fun b => decide (32 ≤ b ∧ b ≤ 126)) = true) ∨
 (t.kind = 4 ∧ t.text.length ≤ 16 ∧ t.text ≠ [] ∧ t.text.all (isB 3) = true ∧ t.text ≠ [102, 101, 110, 99, 101]) ∨
 (t.kind = 5 ∧ ∃ a b, t.text = [a, b] ∧ isDelim a = true ∧ isDelim b = true) ∨
 (t.kind = 6 ∧ ∃ d, t.text = [d] ∧ 49 ≤ d ∧ d ≤ 52) ∨
 (t.kind = 7 ∧ ∃ c, t.text = [c] ∧ isB 5 c = true) ∨
 (t.kind = 8 ∧ t.text = [92, 92])
def spell (t : Tok) : Bytes := spellL t.kind t.text
def join (a b : Tok) : Bool := (a.kind == 2 && b.kind == 2) || (a.kind == 4 && b.kind == 1 && (match b.text with | [] => false | c :: _ => isB 3 c))
def headNot (k : Nat) (q : Bytes) : Prop := ∀ c, q.head? = some c → isB k c = false
def okAfter (t : Tok) (q : Bytes) : Prop := (t.kind = 2 → headNot 2 q ∧ q.head? ≠ some 46) ∧ (t.kind = 4 → headNot 3 q)
theorem runLen_app (k : Nat) (x y : Bytes) (hx : x.all (isB k) = true) (hy : headNot k y) : runLen k (x ++ y) = x.length := by
 unfold runLen
 induction x with
 | nil =>
  cases y with
  | nil => rfl
  | cons c y => rw [List.nil_append, List.takeWhile_cons, hy c rfl]; rfl
 | cons c x ih =>
  simp only [List.all_cons, Bool.and_eq_true] at hx;rw [List.cons_append, List.takeWhile_cons, if_pos hx.1, List.length_cons, ih hx.2, List.length_cons]
theorem runLen_split (k : Nat) (r : Bytes) : ∃ y, r = r.take (runLen k r) ++ y ∧ (r.take (runLen k r)).all (isB k) = true ∧ headNot k y ∧ y = r.drop (runLen k r) := by
 unfold runLen
 induction r with
 | nil => exact ⟨[], rfl, rfl, (fun c h => nomatch h), rfl⟩
 | cons c r ih =>
  rw [List.takeWhile_cons];cases hc : isB k c with
  | true =>
   obtain ⟨y, h1, h2, h3, h4⟩ := ih;refine ⟨y, ?_, ?_, h3, ?_⟩
   ·simp only [if_true, List.length_cons, List.take_succ_cons, List.cons_append]; rw [← h1]
   ·simp only [if_true, List.length_cons, List.take_succ_cons, List.all_cons, hc, h2]; rfl
   ·simpa using h4
  | false => exact ⟨c :: r, rfl, rfl, fun d h => by cases h; exact hc, rfl⟩
theorem isAt_split (k : Nat) (x y : Bytes) : isAt k (x ++ y) x.length = (match y with | [] => false | c :: _ => isB k c) := by
 unfold isAt;rw [List.getElem?_append_right (Nat.le_refl _), Nat.sub_self];cases y <;> rfl
theorem numLen_plain (ds q : Bytes) (h : ds.all (isB 2) = true) (hq : headNot 2 q) (h46 : q.head? ≠ some 46) : numLen (ds ++ q) = ds.length := by
 unfold numLen;rw [runLen_app 2 ds q h hq, if_neg];rintro ⟨h1, _⟩;rw [List.getElem?_append_right (Nat.le_refl _), Nat.sub_self] at h1;exact h46 (by rw [← h1]; cases q <;> rfl)
theorem numLen_point (ds es q : Bytes) (h : ds.all (isB 2) = true) (he : es.all (isB 2) = true) (hn : es ≠ []) (hq : headNot 2 q) : numLen ((ds ++ 46 :: es) ++ q) = (ds ++ 46 :: es).length := by
 have e1 : (ds ++ 46 :: es) ++ q = ds ++ (46 :: (es ++ q)) := by simp
 have hr : runLen 2 (ds ++ (46 :: (es ++ q))) = ds.length := runLen_app 2 ds _ h (fun c hc => by cases hc; rfl);unfold numLen;rw [e1, hr, if_pos]
 ·have : (ds ++ (46 :: (es ++ q))).drop (ds.length + 1) = es ++ q := by
   simp [List.drop_append]
  rw [this, runLen_app 2 es q he hq];simp; omega
 ·constructor
  ·rw [List.getElem?_append_right (Nat.le_refl _), Nat.sub_self]; rfl
  ·cases es with
   | nil => exact absurd rfl hn
   | cons e es =>
    have e2 : ds ++ (46 :: (e :: es ++ q)) = (ds ++ [46]) ++ (e :: (es ++ q)) := by simp
    have := isAt_split 2 (ds ++ [46]) (e :: (es ++ q));rw [e2, show ds.length + 1 = (ds ++ [46]).length by simp, this];simp only [List.all_cons, Bool.and_eq_true] at he;exact he.1
theorem number_ok (r : Bytes) (t : Tok) (n : Nat) (h0 : isAt 2 r 0 = true) (h : number r = .ok t n) : TokOK t := by
 unfold number at h;obtain ⟨h1, h2⟩ := lim_as h
 have hl : t.text.length ≤ 20 := by
  unfold lim at h;split at h
  ·cases h
  ·rw [← h1]; simp only at *; omega
 subst h1 h2;refine .inr (.inl ⟨rfl, hl, ?_⟩);simp only
 obtain ⟨y, e1, e2, e3, e4⟩ := runLen_split 2 r
 have hne : r.take (runLen 2 r) ≠ [] := by
  intro h;rw [h, List.nil_append] at e1;unfold isAt at h0;cases r with
  | nil => cases h0
  | cons c r =>
   subst e1;have := e3 c rfl;simp only [List.getElem?_cons_zero] at h0;rw [h0] at this; cases this
 refine ⟨_, hne, e2, ?_⟩;unfold numLen;split
 ·rename_i hc
  obtain ⟨c1, c2⟩ := hc;obtain ⟨y', f1, f2, f3, f4⟩ := runLen_split 2 (r.drop (runLen 2 r + 1))
  right
  refine ⟨_, ?_, f2, ?_⟩
  ·intro h
   rw [h, List.nil_append] at f1;unfold isAt at c2;rw [← Nat.add_zero (runLen 2 r + 1), ← List.getElem?_drop, f1] at c2;cases y' with
   | nil => cases c2
   | cons c y' =>
    have := f3 c rfl;simp only [List.getElem?_cons_zero] at c2;rw [c2] at this; cases this
  ·rw [show runLen 2 r + 1 + runLen 2 (r.drop (runLen 2 r + 1)) = runLen 2 r + (1 + runLen 2 (r.drop (runLen 2 r + 1))) by omega, List.take_add]
   congr 1
   have hlt := (List.getElem?_eq_some_iff.1 c1);obtain ⟨hlt, hv⟩ := hlt;rw [List.drop_eq_getElem_cons hlt, hv, Nat.add_comm 1, List.take_succ_cons]
 ·exact .inl rfl
theorem quo_ok : ∀ (q acc : Bytes) (i : Nat) (t : Tok) (n : Nat), quo q acc i = .ok t n → acc.all (fun b => decide (32 ≤ b ∧ b ≤ 126)) = true → t.kind = 3 ∧ t.text.length ≤ 200 ∧ t.text.all (fun b => decide (32 ≤ b ∧ b ≤ 126)) = true
 | [], acc, i, t, n, h, _ => by simp [quo] at h
 | c :: q, acc, i, t, n, h, ha => by
  unfold quo at h;split at h
  ·obtain ⟨h1, h2⟩ := lim_as h
   have hl : t.text.length ≤ 200 := by
    unfold lim at h;split at h
    ·cases h
    ·rw [← h1]; simp only at *; omega
   subst h1;exact ⟨rfl, hl, ha⟩
  ·split at h
   ·cases h
   ·rename_i hc
    have hcp : 32 ≤ c ∧ c ≤ 126 := by
     constructor
     ·exact UInt8.not_lt.1 (fun h => hc (.inl h))
     ·exact UInt8.not_lt.1 (fun h => hc (.inr h))
    split at h
    ·cases q with
     | nil => simp at h
     | cons d q' =>
      simp only at h;split at h
      ·rename_i hd
       refine quo_ok q' _ _ t n h ?_;rw [List.all_append, ha]
       rcases hd with rfl | rfl <;> rfl
      ·cases h
    ·refine quo_ok q _ _ t n h ?_
     rw [List.all_append, ha];simp [hcp]
theorem next_tokOK (r : Bytes) (t : Tok) (n : Nat) (h : next r = .ok t n) : TokOK t := by
 cases r with
 | nil => simp [next] at h
 | cons c q =>
  rw [next] at h;split at h
  ·rename_i hc
   exact number_ok (c :: q) t n (show isAt 2 (c :: q) 0 = true from hc) h
  ·split at h
   ·rename_i hc
    cases h;exact .inr (.inr (.inr (.inr (.inr (.inr (.inl ⟨rfl, c, rfl, hc⟩))))))
   ·split at h
    ·exact .inr (.inr (.inl (quo_ok q [] 1 t n h rfl)))
    ·split at h
     ·cases h
      exact .inr (.inr (.inr (.inr (.inr (.inr (.inr ⟨rfl, rfl⟩))))))
     ·split at h
      ·rename_i hc
       obtain ⟨hc, hl⟩ := hc;unfold name at h;simp only [List.drop_succ_cons, List.drop_zero] at h;obtain ⟨y, e1, e2, e3, e4⟩ := runLen_split 3 q;split at h
       ·rename_i hf
        have hlen : t.text.length ≤ 16 := by
         obtain ⟨h1, h2⟩ := lim_as h;unfold lim at h;split at h
         ·cases h
         ·rw [← h1]; simp only at *; omega
        obtain ⟨h1, h2⟩ := lim_as h;subst h1;refine .inr (.inr (.inr (.inl ⟨rfl, hlen, ?_, e2, hf⟩)));intro h;simp only at h;rw [h, List.nil_append] at e1;subst e1;cases q with
        | nil => cases hl
        | cons c' q =>
         have := e3 c' rfl;unfold isAt at hl;simp only [List.getElem?_cons_zero] at hl;rw [hl] at this; cases this
       ·split at h
        ·rename_i hd
         cases h;obtain ⟨d1, d2⟩ := hd;refine .inr (.inr (.inr (.inr (.inl ⟨rfl, ?_⟩))));simp only
         unfold delimAt at d1 d2;rw [show 1 + runLen 3 q = runLen 3 q + 1 by omega, List.getElem?_cons_succ] at d1;rw [show 2 + runLen 3 q = (runLen 3 q + 1) + 1 by omega, List.getElem?_cons_succ] at d2;rw [show 1 + runLen 3 q = runLen 3 q + 1 by omega, List.drop_succ_cons];generalize runLen 3 q = m at *;split at d1
         ·rename_i a ha
          split at d2
          ·rename_i b hb
           refine ⟨a, b, ?_, d1, d2⟩;obtain ⟨ha1, ha2⟩ := List.getElem?_eq_some_iff.1 ha;obtain ⟨hb1, hb2⟩ := List.getElem?_eq_some_iff.1 hb;rw [List.drop_eq_getElem_cons ha1, List.drop_eq_getElem_cons hb1, ha2, hb2];rfl
          ·cases d2
         ·cases d1
        ·cases h
      ·split at h
       ·rename_i hc
        obtain ⟨h1, h2⟩ := hc;cases h;cases q with
        | nil => cases h2
        | cons d q =>
         exact .inr (.inr (.inr (.inr (.inr (.inl ⟨rfl, d, rfl, by simpa [parAt] using h2⟩)))))
       ·split at h
        ·rename_i hc
         cases h;exact .inl ⟨rfl, c, rfl, hc⟩
        ·cases h
end Go.Proofs.YtomibmenojdieaaGreat.Lx
namespace Go.Proofs.YtomibmenojdieaaGreat.Lx
theorem lim_le {most : Nat} {t : Tok} {n : Nat} (h : t.text.length ≤ most) : lim most t n = .ok t n := by
 unfold lim; rw [if_neg (by omega)]
theorem byte_cases (p : UInt8 → Prop) [DecidablePred p] (h : ∀ n : Fin 256, p (UInt8.ofNat n.1)) (c : UInt8) : p c := by
 have := h ⟨c.toNat, c.toNat_lt⟩;simpa using this
theorem isB_digit_not (c : UInt8) : isB 2 c = true → isB 5 c = false ∧ isB 3 c = false ∧ isB 1 c = false ∧ isB 4 c = false ∧ c ≠ 34 ∧ c ≠ 92 ∧ c ≠ 35 ∧ c ≠ 46 := by
 revert c; exact fun c => byte_cases (fun c => isB 2 c = true → isB 5 c = false ∧ isB 3 c = false ∧ isB 1 c = false ∧ isB 4 c = false ∧ c ≠ 34 ∧ c ≠ 92 ∧ c ≠ 35 ∧ c ≠ 46) (by decide +kernel) c
theorem isB_sym_not (c : UInt8) : (isB 3 c = true ∨ isB 4 c = true) → isB 2 c = false ∧ isB 5 c = false ∧ isB 1 c = false ∧ c ≠ 34 ∧ c ≠ 92 ∧ c ≠ 35 ∧ c ≠ 46 :=
 byte_cases (fun c => (isB 3 c = true ∨ isB 4 c = true) → isB 2 c = false ∧ isB 5 c = false ∧ isB 1 c = false ∧ c ≠ 34 ∧ c ≠ 92 ∧ c ≠ 35 ∧ c ≠ 46) (by decide +kernel) c
theorem isB_mark_not (c : UInt8) : isB 5 c = true → isB 2 c = false ∧ isB 3 c = false ∧ isB 1 c = false ∧ c ≠ 34 ∧ c ≠ 92 ∧ c ≠ 35 ∧ c ≠ 46 :=
 byte_cases (fun c => isB 5 c = true → isB 2 c = false ∧ isB 3 c = false ∧ isB 1 c = false ∧ c ≠ 34 ∧ c ≠ 92 ∧ c ≠ 35 ∧ c ≠ 46) (by decide +kernel) c
theorem isDelim_not (c : UInt8) : isDelim c = true → isB 3 c = false :=
 byte_cases (fun c => isDelim c = true → isB 3 c = false) (by decide +kernel) c
theorem isB_blank_not (c : UInt8) : isB 1 c = true → isB 2 c = false ∧ isB 3 c = false ∧ c ≠ 46 :=
 byte_cases (fun c => isB 1 c = true → isB 2 c = false ∧ isB 3 c = false ∧ c ≠ 46) (by decide +kernel) c
theorem quo_esc_all : ∀ (x q acc : Bytes) (i : Nat), x.all (fun b => decide (32 ≤ b ∧ b ≤ 126)) = true → (acc ++ x).length ≤ 200 → quo (esc x ++ 34 :: q) acc i = .ok ⟨3, acc ++ x⟩ (i + (esc x).length + 1)
 | [], q, acc, i, _, hl => by
  simp only [esc, List.flatMap_nil, List.nil_append, List.append_nil, List.length_nil, Nat.add_zero] at *;rw [quo.eq_def];simp only
  rw [if_pos trivial];exact lim_le (t := ⟨3, acc⟩) hl
 | c :: x, q, acc, i, hx, hl => by
  simp only [List.all_cons, Bool.and_eq_true, decide_eq_true_eq] at hx;obtain ⟨⟨h1, h2⟩, hx⟩ := hx;have hacc : acc ++ c :: x = (acc ++ [c]) ++ x := by simp
  have ih := fun j => quo_esc_all x q (acc ++ [c]) j hx (by rw [← hacc]; exact hl)
  have he : esc (c :: x) = escB c ++ esc x := rfl;rw [he, hacc];unfold escB
  by_cases hc : c = 34 ∨ c = 92
  ·rw [if_pos hc]
   simp only [List.cons_append, List.nil_append];rw [quo.eq_def];simp only
   rw [if_neg (by decide), if_neg (by decide), if_pos trivial];rw [if_pos hc, ih];simp only [List.length_cons]
   congr 1; omega
  ·rw [if_neg hc]
   simp only [List.cons_append, List.nil_append];rw [quo.eq_def];simp only
   rw [if_neg (fun h => hc (.inl h)), if_neg (fun h => h.elim (UInt8.not_lt.2 h1) (UInt8.not_lt.2 h2)), if_neg (fun h => hc (.inr h)), ih];simp only [List.length_cons]
   congr 1; omega
theorem numLen_ok {t : Tok} {q : Bytes} (ds : Bytes) (h : ds.all (isB 2) = true) (ht : t.text = ds ∨ ∃ es, es ≠ [] ∧ es.all (isB 2) = true ∧ t.text = ds ++ 46 :: es) (hq : headNot 2 q) (h46 : q.head? ≠ some 46) :
  numLen (t.text ++ q) = t.text.length := by
 rcases ht with e | ⟨es, e1, e2, e3⟩
 ·rw [e]; exact numLen_plain ds q h hq h46
 ·rw [e3]; exact numLen_point ds es q h e2 e1 hq
theorem take_app (x q : Bytes) : (x ++ q).take x.length = x := by simp
theorem reread (t : Tok) (q : Bytes) (ht : TokOK t) (hq : okAfter t q) : next (spell t ++ q) = .ok t (spell t).length := by
 obtain ⟨k, x⟩ := t
 rcases ht with ⟨h1, c, h2, h3⟩ | ⟨h1, h2, ds, h3, h4, h5⟩ | ⟨h1, h2, h3⟩ | ⟨h1, h2, h3, h4, h5⟩ | ⟨h1, a, b, h2, h3, h4⟩ | ⟨h1, d, h2, h3, h4⟩ | ⟨h1, c, h2, h3⟩ | ⟨h1, h2⟩
 ·simp only at h1 h2; subst h1 h2
  obtain ⟨n1, n2, n3, n4, n5, n6, n7⟩ := isB_sym_not c h3;show next ([c] ++ q) = _;rw [List.cons_append, next, if_neg (by rw [n1]; decide), if_neg (by rw [n2]; decide), if_neg n4, if_neg (fun h => n5 h.1), if_neg (fun h => n5 h.1), if_neg (fun h => n6 h.1), if_pos h3];rfl
 ·simp only at h1 h2 h5; subst h1
  have hx : ∃ c y, x = c :: y ∧ isB 2 c = true := by
   cases ds with
   | nil => exact absurd rfl h3
   | cons c ds =>
    simp only [List.all_cons, Bool.and_eq_true] at h4
    rcases h5 with rfl | ⟨es, _, _, rfl⟩
    ·exact ⟨c, ds, rfl, h4.1⟩
    ·exact ⟨c, _, rfl, h4.1⟩
  obtain ⟨q1, q2⟩ := hq.1 rfl;have hn : numLen (x ++ q) = x.length := numLen_ok (t := ⟨2, x⟩) ds h4 h5 q1 q2;show next (x ++ q) = _;obtain ⟨c, y, rfl, hc⟩ := hx;rw [List.cons_append, next, if_pos hc, ← List.cons_append];unfold number;rw [hn, take_app, lim_le (by exact h2)];rfl
 ·simp only at h1 h2 h3; subst h1
  show next (quoteL x ++ q) = _;unfold quoteL;rw [List.cons_append, next, if_neg (by decide), if_neg (by decide), if_pos rfl, List.append_assoc];have := quo_esc_all x q [] 1 h3 h2;simp only [List.nil_append] at this;rw [List.singleton_append, this];show Res.ok _ _ = Res.ok _ (quoteL x).length;unfold quoteL;simp only [List.length_cons, List.length_append, List.length_nil]
  congr 1; omega
 ·simp only at h1 h2 h3 h4 h5; subst h1
  have hr : runLen 3 (x ++ q) = x.length := runLen_app 3 x q h4 (hq.2 rfl)
  have hh : isAt 3 (x ++ q) 0 = true := by
   cases x with
   | nil => exact absurd rfl h3
   | cons c y =>
    simp only [List.all_cons, Bool.and_eq_true] at h4;exact h4.1
  have h92 : (x ++ q).head? ≠ some 92 := by
   cases x with
   | nil => exact absurd rfl h3
   | cons c y =>
    simp only [List.all_cons, Bool.and_eq_true] at h4;intro h;have : c = 92 := by simpa using h
    exact (isB_sym_not c (.inl h4.1)).2.2.2.2.1 this
  show next ((92 :: x) ++ q) = _;rw [List.cons_append, next, if_neg (by decide), if_neg (by decide), if_neg (by decide), if_neg (fun h => h92 h.2), if_pos ⟨rfl, hh⟩];unfold name;simp only [List.drop_succ_cons, List.drop_zero];rw [hr, take_app, if_pos h5, lim_le (by exact h2)];show Res.ok _ _ = Res.ok _ (92 :: x).length;rw [List.length_cons, Nat.add_comm]
 ·simp only at h1 h2; subst h1 h2
  have hr : runLen 3 ([102, 101, 110, 99, 101] ++ (a :: b :: q)) = 5 := runLen_app 3 [102, 101, 110, 99, 101] _ (by decide) (fun c hc => by cases hc; exact isDelim_not a h3);show next (92 :: ([102, 101, 110, 99, 101] ++ (a :: b :: q))) = _;rw [next, if_neg (by decide), if_neg (by decide), if_neg (by decide), if_neg (fun h => absurd h.2 (by simp)), if_pos ⟨rfl, rfl⟩];unfold name;simp only [List.drop_succ_cons, List.drop_zero];rw [hr, if_neg (by simp), if_pos]
  ·rfl
  ·exact ⟨h3, h4⟩
 ·simp only at h1 h2; subst h1 h2
  show next (35 :: d :: q) = _;rw [next, if_neg (by decide), if_neg (by decide), if_neg (by decide), if_neg (fun h => absurd h.1 (by decide)), if_neg (fun h => absurd h.1 (by decide)), if_pos ⟨rfl, by simp [parAt, h3, h4]⟩];rfl
 ·simp only at h1 h2; subst h1 h2
  obtain ⟨n1, _⟩ := isB_mark_not c h3;show next (c :: q) = _;rw [next, if_neg (by rw [n1]; decide), if_pos h3];rfl
 ·simp only at h1 h2; subst h1 h2
  show next (92 :: 92 :: q) = _;rw [next, if_neg (by decide), if_neg (by decide), if_neg (by decide), if_pos ⟨rfl, rfl⟩];rfl
theorem spell_head (t : Tok) (ht : TokOK t) : ∃ c y, spell t = c :: y ∧ isB 1 c = false ∧ c ≠ 46 ∧ (isB 2 c = true → t.kind = 2) ∧ (isB 3 c = true → t.kind = 1 ∧ ∃ z, t.text = c :: z) ∧ (t.kind = 2 → isB 2 c = true) := by
 obtain ⟨k, x⟩ := t
 rcases ht with ⟨h1, c, h2, h3⟩ | ⟨h1, h2, ds, h3, h4, h5⟩ | ⟨h1, h2, h3⟩ | ⟨h1, h2, h3, h4, h5⟩ | ⟨h1, a, b, h2, h3, h4⟩ | ⟨h1, d, h2, h3, h4⟩ | ⟨h1, c, h2, h3⟩ | ⟨h1, h2⟩
 ·simp only at h1 h2; subst h1 h2
  obtain ⟨n1, n2, n3, n4, n5, n6, n7⟩ := isB_sym_not c h3;exact ⟨c, [], rfl, n3, n7, fun h => (by rw [n1] at h; cases h), fun h => ⟨rfl, [], rfl⟩, (fun h => by cases h)⟩
 ·simp only at h1 h2 h5; subst h1
  have hx : ∃ c y, x = c :: y ∧ isB 2 c = true := by
   cases ds with
   | nil => exact absurd rfl h3
   | cons c ds =>
    simp only [List.all_cons, Bool.and_eq_true] at h4
    rcases h5 with rfl | ⟨es, _, _, rfl⟩
    ·exact ⟨c, ds, rfl, h4.1⟩
    ·exact ⟨c, _, rfl, h4.1⟩
  obtain ⟨c, y, rfl, hc⟩ := hx;obtain ⟨n1, n2, n3, n4, n5, n6, n7, n8⟩ := isB_digit_not c hc;exact ⟨c, y, rfl, n3, n8, fun _ => rfl, fun h => (by rw [n2] at h; cases h), fun _ => hc⟩
 ·simp only at h1; subst h1
  exact ⟨34, _, rfl, rfl, by decide, (fun h => by cases h), (fun h => by cases h), (fun h => by cases h)⟩
 ·simp only at h1; subst h1
  exact ⟨92, _, rfl, rfl, by decide, (fun h => by cases h), (fun h => by cases h), (fun h => by cases h)⟩
 ·simp only at h1; subst h1
  exact ⟨92, _, rfl, rfl, by decide, (fun h => by cases h), (fun h => by cases h), (fun h => by cases h)⟩
 ·simp only at h1; subst h1
  exact ⟨35, _, rfl, rfl, by decide, (fun h => by cases h), (fun h => by cases h), (fun h => by cases h)⟩
 ·simp only at h1 h2; subst h1 h2
  obtain ⟨n1, n2, n3, n4, n5, n6, n7⟩ := isB_mark_not c h3;exact ⟨c, [], rfl, n3, n7, fun h => (by rw [n1] at h; cases h), fun h => (by rw [n2] at h; cases h), (fun h => by cases h)⟩
 ·simp only at h1 h2; subst h1 h2
  exact ⟨92, _, rfl, rfl, by decide, (fun h => by cases h), (fun h => by cases h), (fun h => by cases h)⟩
theorem okAfter_tok (a b : Tok) (hb : TokOK b) (hj : join a b = false) (q : Bytes) : okAfter a (spell b ++ q) := by
 obtain ⟨c, y, e, n1, n2, n3, n4, n5⟩ := spell_head b hb;rw [e, List.cons_append];unfold join at hj;simp only [Bool.or_eq_false_iff, Bool.and_eq_false_iff] at hj;constructor
 ·intro hk
  refine ⟨fun d hd => ?_, fun h => n2 (by simpa using h)⟩;cases hd;cases h2 : isB 2 c with
  | false => rfl
  | true =>
   rcases hj.1 with h | h
   ·rw [hk] at h; cases h
   ·rw [n3 h2] at h; cases h
 ·intro hk d hd
  cases hd;cases h3 : isB 3 c with
  | false => rfl
  | true =>
   obtain ⟨m1, z, m2⟩ := n4 h3
   rcases hj.2 with (h | h) | h
   ·rw [hk] at h; cases h
   ·rw [m1] at h; cases h
   ·rw [m2] at h; simp only at h; rw [h3] at h; cases h
theorem okAfter_blank (a : Tok) (c : UInt8) (q : Bytes) (hc : isB 1 c = true) : okAfter a (c :: q) := by
 obtain ⟨n1, n2, n3⟩ := isB_blank_not c hc;exact ⟨fun _ => ⟨fun d hd => by cases hd; exact n1, fun h => n3 (by simpa using h)⟩, fun _ d hd => by cases hd; exact n2⟩
theorem okAfter_end (a : Tok) : okAfter a [] := ⟨fun _ => ⟨(fun c h => nomatch h), by simp⟩, fun _ => (fun c h => nomatch h)⟩
end Go.Proofs.YtomibmenojdieaaGreat.Lx
