/- Formula trees as plain data, and when they are valid: no program in sight. -/
import Derived.Test.YtilgpmpiidccjaaLxM
namespace Go.Proofs.Ytilgpmpiidccjaa.Tr

abbrev Bytes := List UInt8

inductive Nd where
  | mk (kind : Int) (text : Bytes) (cols : Int) (kids : List Nd)

namespace Nd
def kind : Nd → Int | mk k _ _ _ => k
def text : Nd → Bytes | mk _ t _ _ => t
def cols : Nd → Int | mk _ _ c _ => c
def kids : Nd → List Nd | mk _ _ _ ks => ks
end Nd
theorem Nd.eta (n : Nd) : n = .mk n.kind n.text n.cols n.kids := by cases n; rfl

mutual
/-- The number of nodes. -/
def count : Nd → Nat
  | .mk _ _ _ ks => 1 + countL ks
def countL : List Nd → Nat
  | [] => 0
  | n :: ns => count n + countL ns
end
mutual
/-- The greatest number of nodes on a path. -/
def depth : Nd → Nat
  | .mk _ _ _ ks => depthL ks + 1
def depthL : List Nd → Nat
  | [] => 0
  | n :: ns => max (depth n) (depthL ns)
end

theorem count_pos (n : Nd) : 0 < count n := by cases n; rw [count]; omega
theorem depth_pos (n : Nd) : 0 < depth n := by cases n; rw [depth]; omega
theorem count_kids (n : Nd) : count n = 1 + countL n.kids := by cases n; rw [count]; rfl
theorem depth_kids (n : Nd) : depth n = depthL n.kids + 1 := by cases n; rw [depth]; rfl
theorem countL_take (l : List Nd) (i : Nat) (h : i < l.length) : countL (l.take (i + 1)) = countL (l.take i) + count l[i] := by
  induction l generalizing i with
  | nil => simp at h
  | cons x l ih =>
    cases i with
    | zero => simp [countL]
    | succ i =>
      simp only [List.take_succ_cons, countL, List.getElem_cons_succ]
      rw [ih i (by simpa using h)]; omega
theorem countL_le (l : List Nd) (i : Nat) : countL (l.take i) ≤ countL l := by
  induction l generalizing i with
  | nil => simp [countL]
  | cons x l ih =>
    cases i with
    | zero => simp [countL]
    | succ i => simp only [List.take_succ_cons, countL]; have := ih i; omega
theorem count_mem {l : List Nd} {n : Nd} (h : n ∈ l) : count n ≤ countL l := by
  induction l with
  | nil => cases h
  | cons x l ih =>
    rw [countL]
    rcases List.mem_cons.1 h with rfl | h
    · omega
    · have := ih h; omega
theorem countL_len (l : List Nd) : l.length ≤ countL l := by
  induction l with
  | nil => simp [countL]
  | cons x l ih => rw [countL]; have := count_pos x; simp; omega

/-- An induction on trees through their kids. -/
theorem Nd.ind {p : Nd → Prop} (h : ∀ n, (∀ m ∈ n.kids, p m) → p n) (n : Nd) : p n := by
  have : ∀ k n, count n ≤ k → p n := by
    intro k
    induction k with
    | zero => intro n hn; have := count_pos n; omega
    | succ k ih =>
      intro n hn
      refine h n fun m hm => ih m ?_
      have := count_mem hm
      have := count_kids n
      omega
  exact this _ n (Nat.le_refl _)

def letter (b : UInt8) : Bool := (decide (97 ≤ b) && decide (b ≤ 122)) || (decide (65 ≤ b) && decide (b ≤ 90))
def digit (b : UInt8) : Bool := decide (48 ≤ b) && decide (b ≤ 57)
def signs : Bytes := [43, 45, 42, 47, 61, 60, 62, 44, 59, 58, 33, 124, 39, 63, 126, 64]
def delims : Bytes := [40, 41, 91, 93, 123, 125, 124, 60, 62, 47, 46]
def keywords : List Bytes := [[102, 114, 97, 99], [114, 111, 111, 116], [109, 97, 116, 114, 105, 120], [102, 101, 110, 99, 101]]
def accents : List Bytes := [[104, 97, 116], [98, 97, 114], [118, 101, 99], [100, 111, 116], [116, 105, 108, 100, 101], [99, 104, 101, 99, 107]]
def character (b : UInt8) : Bool := letter b || signs.contains b
def symbol (s : Bytes) : Bool :=
  match s with
  | [c] => character c
  | s => s.all letter && decide (2 ≤ s.length) && decide (s.length ≤ 16) && !keywords.contains s && !accents.contains s
def isNum (s : Bytes) : Bool :=
  decide (s.length ≤ 20) && decide (s ≠ []) &&
  (s.all digit || match s.dropWhile (· ≠ 46) with | _ :: b => decide (s.takeWhile (· ≠ 46) ≠ []) && (s.takeWhile (· ≠ 46)).all digit && decide (b ≠ []) && b.all digit | [] => false)
def printable (s : Bytes) : Bool := s.all fun b => decide (32 ≤ b) && decide (b ≤ 126)
def fence (s : Bytes) : Bool := match s with | [a, b] => delims.contains a && delims.contains b | _ => false

/-- Does the text of a node conform to its kind? -/
def textOK (k : Int) (s : Bytes) : Bool :=
  if k = 2 then symbol s else if k = 3 then isNum s else if k = 4 then decide (s.length ≤ 200) && printable s
  else if k = 10 then accents.contains s else if k = 11 then fence s else s.isEmpty
/-- Do the columns and the number of kids of a node conform to its kind? -/
def kidsOK (k c : Int) (n : Nat) : Bool :=
  if k = 12 then decide (1 ≤ c) && decide (c ≤ 16) && decide (1 ≤ n) && decide (n ≤ 256) && decide ((n : Int) % c = 0)
  else if c ≠ 0 then false
  else if k = 1 then decide (n ≤ 200)
  else if k = 2 ∨ k = 3 ∨ k = 4 then decide (n = 0)
  else if k = 5 ∨ k = 6 ∨ k = 7 ∨ k = 8 then decide (n = 2)
  else if k = 9 then decide (n = 3)
  else if k = 10 ∨ k = 11 then decide (n = 1)
  else false

mutual
def form : Nd → Bool
  | .mk k t c ks => textOK k t && kidsOK k c ks.length && formL (k == 1) ks
def formL : Bool → List Nd → Bool
  | _, [] => true
  | r, n :: ns => ((n.kind == 1) != r) && form n && formL r ns
end
def valid (n : Nd) : Bool := (n.kind == 1) && form n && decide (count n ≤ 1000) && decide (depth n ≤ 24)

mutual
def eqN : Nd → Nd → Bool
  | .mk k t c ks, .mk k' t' c' ks' => (k == k') && (t == t') && (c == c') && eqL ks ks'
def eqL : List Nd → List Nd → Bool
  | [], [] => true
  | n :: ns, m :: ms => eqN n m && eqL ns ms
  | _, _ => false
end
theorem eqL_len : ∀ (l m : List Nd), l.length ≠ m.length → eqL l m = false
  | [], [], h => absurd rfl h
  | x :: l, y :: m, h => by rw [eqL, eqL_len l m (by simpa using h), Bool.and_false]
  | [], _ :: _, _ => by simp [eqL]
  | _ :: _, [], _ => by simp [eqL]

theorem form_eq (n : Nd) : form n = (textOK n.kind n.text && kidsOK n.kind n.cols n.kids.length && formL (n.kind == 1) n.kids) := by
  cases n; rw [form]; rfl
theorem formL_take (r : Bool) : ∀ (l : List Nd) (i : Nat) (h : i < l.length), formL r (l.take (i + 1)) = (formL r (l.take i) && (((l[i].kind == 1) != r) && form l[i]))
  | [], i, h => by simp at h
  | x :: l, 0, h => by simp [formL]
  | x :: l, i + 1, h => by
    simp only [List.take_succ_cons, formL, List.getElem_cons_succ]
    rw [formL_take r l i (by simpa using h)]
    simp only [Bool.and_assoc]
theorem formL_no (r : Bool) : ∀ (l : List Nd) (i : Nat) (h : i < l.length), (((l[i].kind == 1) != r) && form l[i]) = false → formL r l = false
  | [], i, h, _ => by simp at h
  | x :: l, 0, h, hn => by simp only [List.getElem_cons_zero] at hn; rw [formL, hn, Bool.false_and]
  | x :: l, i + 1, h, hn => by
    simp only [List.getElem_cons_succ] at hn
    rw [formL, formL_no r l i (by simpa using h) hn, Bool.and_false]
theorem eqN_eq (n m : Nd) : eqN n m = ((n.kind == m.kind) && (n.text == m.text) && (n.cols == m.cols) && eqL n.kids m.kids) := by
  cases n; cases m; rw [eqN]; rfl
theorem eqN_iff (n : Nd) : ∀ m, eqN n m = true ↔ n = m := by
  induction n using Nd.ind with
  | h n ih =>
    intro m
    have hL : ∀ (l l' : List Nd), (∀ x ∈ l, ∀ y, eqN x y = true ↔ x = y) → (eqL l l' = true ↔ l = l') := by
      intro l
      induction l with
      | nil =>
        intro l' _
        cases l' with
        | nil => simp [eqL]
        | cons y l' => simp [eqL]
      | cons x l ih2 =>
        intro l' h
        cases l' with
        | nil => simp [eqL]
        | cons y l' =>
          rw [eqL, Bool.and_eq_true, h x (by simp) y, ih2 l' (fun z hz => h z (by simp [hz]))]
          simp
    rw [eqN_eq, Bool.and_eq_true, Bool.and_eq_true, Bool.and_eq_true, hL n.kids m.kids ih, beq_iff_eq, beq_iff_eq, beq_iff_eq, Nd.eta n, Nd.eta m]
    simp [Nd.kind, Nd.text, Nd.cols, Nd.kids, and_assoc]
end Go.Proofs.Ytilgpmpiidccjaa.Tr
