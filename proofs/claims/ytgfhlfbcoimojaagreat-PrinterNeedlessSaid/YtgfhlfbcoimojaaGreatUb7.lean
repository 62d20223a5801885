/- Part 7 of 53 of a proof; its texts, joined: SnM, SnL, NpF. No condition. -/
import Derived.Test.YtgfhlfbcoimojaaGreatUb4
import Derived.Test.YtgfhlfbcoimojaaGreatUb3

/- The items and the positions of a tree in its tokens: what a walk over a row calls, in order. No program in sight. -/
namespace Go.Proofs.YtgfhlfbcoimojaaGreat.Tr
open Lx (Tok PTok)
def grp (a : Nd) : Bool := match a.kids with | [x] => !leaf x | _ => true
def bgrp (a : Nd) : Bool := match a.kids with | [x] => scripted x | _ => true
def round (k : Int) (t : Bytes) : Bool := (k == 11) && ((t == [40, 41]) || (t == [91, 93]))
def segs : Nd → List (Nat × Bool × Nd)
 | .mk k t _ ks =>
  match ks with
  | [] => []
  | a :: r =>
   if k = 12 then (2, false, a) :: r.map fun b => (1, false, b)
   else if k = 7 ∨ k = 8 ∨ k = 9 then (0, bgrp a, a) :: r.map fun b => (1, grp b, b)
   else if round k t = true then (0, true, a) :: r.map fun b => (0, grp b, b)
   else if k = 6 then (1, !a.kids.isEmpty, a) :: r.map fun b => (0, grp b, b)
   else (1, grp a, a) :: r.map fun b => (0, grp b, b)
def tailN (n : Nd) : Nat := if n.kind = 12 ∨ n.kids = [] then 1 else 0
def rowsOf (l : List (Nat × Bool × Nd)) : List Nd := l.map fun x => x.2.2
theorem rowsOf_map (c : Nat) (f : Nd → Bool) (l : List Nd) : rowsOf (l.map fun b => (c, f b, b)) = l := by
 unfold rowsOf
 rw [List.map_map]
 exact (List.map_congr_left fun x _ => rfl).trans (List.map_id l)
theorem segs_rows (n : Nd) : rowsOf (segs n) = n.kids := by
 obtain ⟨k, t, c, ks⟩ := n
 cases ks with
 | nil => rfl
 | cons a r =>
  unfold segs
  simp only
  have h1 := rowsOf_map 1 (fun _ => false) r
  have h2 := rowsOf_map 1 grp r
  have h3 := rowsOf_map 0 grp r
  unfold rowsOf at h1 h2 h3 ⊢
  split
  ·rw [List.map_cons, h1]; rfl
  ·split
   ·rw [List.map_cons, h2]; rfl
   ·split
    ·rw [List.map_cons, h3]; rfl
    ·split <;> (rw [List.map_cons, h3]; rfl)
def segLen (x : Nat × Bool × Nd) : Nat := x.1 + (if x.2.1 then 2 else 0) + (rowT x.2.2.kids).length
def segsLen : List (Nat × Bool × Nd) → Nat
 | [] => 0
 | x :: r => segLen x + segsLen r
theorem segLen_eq (k : Nat) (b : Bool) (a : Nd) : segLen (k, b, a) = k + 2 * b.toNat + (rowT a.kids).length := by cases b <;> simp [segLen]
structure Clo (σ κ : Type) where
 off : σ → List Nat → Nat → σ
 item : σ → List Nat → Nat → σ
 key : σ → κ
 done : σ → κ → Nat → σ
def fromAt (T : List PTok) (k : Nat) : Nat := (T[k]?.map (·.from_)).getD 0
def endAt (T : List PTok) (k : Nat) : Nat := if k = 0 then 0 else (T[k - 1]?.map (·.to_)).getD 0
section
variable {σ κ : Type} (C : Clo σ κ) (T : List PTok)
mutual
def runRow : List Nd → List Nat → Nat → Nat → σ → σ
 | [], p, i, f, s => C.off s (p ++ [i]) (endAt T f)
 | n :: ns, p, i, f, s =>
  let s1 := C.off s (p ++ [i]) (fromAt T f)
  let s2 := C.item s1 (p ++ [i]) (fromAt T f)
  let s3 := runSegs (segs n) (p ++ [i]) 0 f s2
  let f' := f + (itemT n).length
  runRow ns p (i + 1) f' (C.done s3 (C.key s1) (endAt T f'))
 termination_by ns => 2 * countL ns + 1
 decreasing_by
  ·have := segs_rows n
   unfold rowsOf at this
   rw [this]
   simp only [countL, count_kids]
   omega
  ·simp only [countL, count_kids]
   omega
def runSegs : List (Nat × Bool × Nd) → List Nat → Nat → Nat → σ → σ
 | [], _, _, _, s => s
 | (k, b, a) :: r, p, j, f, s => runSegs r p (j + 1) (f + segLen (k, b, a)) (runRow a.kids (p ++ [j]) 0 (f + k + b.toNat) s)
 termination_by l => 2 * countL (l.map fun x => x.2.2) + 1
 decreasing_by
  ·simp only [List.map_cons, countL, count_kids]
   omega
  ·simp only [List.map_cons, countL, count_kids]
   omega
end
end
theorem argT_grpLen (a : Nd) : (argT a).length = (if grp a then 2 else 0) + (rowT a.kids).length := by
 rw [argT_eq]
 unfold grp
 generalize a.kids = ks
 match ks with
 | [] => simp [rowT_nil]
 | [x] =>
  cases hl : leaf x with
  | true => simp [hl, rowT_cons, rowT_nil]
  | false => simp [hl]; omega
 | x :: y :: l => simp; omega
theorem baseT_grpLen (a : Nd) : (baseT a).length = (if bgrp a then 2 else 0) + (rowT a.kids).length := by
 rw [baseT_eq]
 unfold bgrp
 generalize a.kids = ks
 match ks with
 | [] => simp [rowT_nil]
 | [x] =>
  cases hl : scripted x with
  | true => simp [hl]; omega
  | false => simp [hl, rowT_cons, rowT_nil]
 | x :: y :: l => simp; omega
theorem cellsT_grpLen (c : Int) : ∀ (i : Nat) (l : List Nd), (cellsT c (i + 1) l).length = segsLen (l.map fun b => (1, false, b))
 | _, [] => by rw [cellsT]; rfl
 | i, n :: ns => by
  rw [cellsT, if_neg (by omega)]
  simp only [List.length_append, List.map_cons, segsLen, segLen]
  rw [cellsT_grpLen c (i + 1) ns]
  split <;> simp <;> omega
theorem item_segs (n : Nd) (v : View n) : (itemT n).length = segsLen (segs n) + tailN n := by
 cases v with
 | sym t ht => rw [itemT_sym]; rfl
 | num t ht => rw [itemT_num]; rfl
 | text t ht => rw [itemT_text]; rfl
 | frac a b ha hb =>
  rw [itemT_frac]
  simp [segs, round, segsLen, segLen, tailN, Nd.kind, Nd.kids, argT_grpLen]
  omega
 | root a b ha hb =>
  rw [itemT_root]
  obtain ⟨ka, ta, ca, la⟩ := a
  cases la with
  | nil => simp [segs, round, segsLen, segLen, tailN, Nd.kind, Nd.kids, argT_grpLen, rowT_nil]; omega
  | cons x l => simp [segs, round, segsLen, segLen, tailN, Nd.kind, Nd.kids, argT_grpLen]; omega
 | sub a b ha hb =>
  rw [itemT_sub]
  simp [segs, segsLen, segLen, tailN, Nd.kind, Nd.kids, argT_grpLen, baseT_grpLen]
  omega
 | sup a b ha hb =>
  rw [itemT_sup]
  simp [segs, segsLen, segLen, tailN, Nd.kind, Nd.kids, argT_grpLen, baseT_grpLen]
  omega
 | both a b d ha hb hd =>
  rw [itemT_both]
  simp [segs, segsLen, segLen, tailN, Nd.kind, Nd.kids, argT_grpLen, baseT_grpLen]
  omega
 | accent t a ht ha =>
  rw [itemT_accent]
  simp [segs, round, segsLen, segLen, tailN, Nd.kind, Nd.kids, argT_grpLen]
  omega
 | fence t a ht ha =>
  rw [itemT_fence]
  by_cases h : t = [40, 41] ∨ t = [91, 93]
  ·rw [if_pos h]
   have hr : round 11 t = true := by unfold round; simp [h]
   simp [segs, hr, segsLen, segLen, tailN, Nd.kind, Nd.kids]
   omega
  ·rw [if_neg h]
   have hr : round 11 t = false := by
    unfold round
    simp only [not_or] at h
    simp [h.1, h.2]
   simp [segs, hr, segsLen, segLen, tailN, Nd.kind, Nd.kids, argT_grpLen]
   omega
 | matrix c ks hc hn hm h =>
  match ks, hn with
  | a :: l, _ =>
   rw [itemT_matrix c (a :: l) (by simp), cellsT]
   simp [segs, segsLen, segLen, tailN, Nd.kind, cellsT_grpLen]
   omega
theorem item_pos (n : Nd) (v : View n) : 1 ≤ (itemT n).length := by
 obtain ⟨t, r, h, _⟩ := item_start n v
 rw [h]
 simp
theorem segs_first (n : Nd) (v : View n) : ∀ x ∈ segs n, x.1 = 0 → x.2.1 = false → x.2.2.kids ≠ [] := by
 have hg : ∀ a : Nd, grp a = false → a.kids ≠ [] := by
  intro a h h2
  unfold grp at h
  rw [h2] at h
  cases h
 have hb : ∀ a : Nd, bgrp a = false → a.kids ≠ [] := by
  intro a h h2
  unfold bgrp at h
  rw [h2] at h
  cases h
 obtain ⟨k, t, c, ks⟩ := n
 cases ks with
 | nil => intro x hx; cases hx
 | cons a r =>
  intro x hx h0 h1
  unfold segs at hx
  simp only at hx
  split at hx
  ·rcases List.mem_cons.1 hx with rfl | hx
   ·cases h0
   ·obtain ⟨b, _, rfl⟩ := List.mem_map.1 hx; cases h0
  ·split at hx
   ·rcases List.mem_cons.1 hx with rfl | hx
    ·exact hb _ h1
    ·obtain ⟨b, _, rfl⟩ := List.mem_map.1 hx; cases h0
   ·split at hx
    ·rcases List.mem_cons.1 hx with rfl | hx
     ·cases h1
     ·obtain ⟨b, _, rfl⟩ := List.mem_map.1 hx; exact hg _ h1
    ·split at hx
     ·rcases List.mem_cons.1 hx with rfl | hx
      ·cases h0
      ·obtain ⟨b, _, rfl⟩ := List.mem_map.1 hx; exact hg _ h1
     ·rcases List.mem_cons.1 hx with rfl | hx
      ·cases h0
      ·obtain ⟨b, _, rfl⟩ := List.mem_map.1 hx; exact hg _ h1
end Go.Proofs.YtgfhlfbcoimojaaGreat.Tr

/- The spans of items, the positions and the rows of a tree, as lists; their order. No program in sight. -/
namespace Go.Proofs.YtgfhlfbcoimojaaGreat.Tr
open Lx (Tok PTok)
abbrev Path := List Nat
section
variable (T : List PTok)
mutual
def spRow : List Nd → Path → Nat → Nat → List (Path × Nat × Nat)
 | [], _, _, _ => []
 | n :: ns, p, i, f => (p ++ [i], fromAt T f, endAt T (f + (itemT n).length)) :: (spSegs (segs n) (p ++ [i]) 0 f ++ spRow ns p (i + 1) (f + (itemT n).length))
 termination_by ns => 2 * countL ns + 1
 decreasing_by
  ·have := segs_rows n
   unfold rowsOf at this
   rw [this]
   simp only [countL, count_kids]
   omega
  ·simp only [countL, count_kids]
   omega
def spSegs : List (Nat × Bool × Nd) → Path → Nat → Nat → List (Path × Nat × Nat)
 | [], _, _, _ => []
 | (k, b, a) :: r, p, j, f => spRow a.kids (p ++ [j]) 0 (f + k + b.toNat) ++ spSegs r p (j + 1) (f + segLen (k, b, a))
 termination_by l => 2 * countL (l.map fun x => x.2.2) + 1
 decreasing_by
  ·simp only [List.map_cons, countL, count_kids]
   omega
  ·simp only [List.map_cons, countL, count_kids]
   omega
end
mutual
def posRow : List Nd → Path → Nat → Nat → List (Path × Nat)
 | [], p, i, f => [(p ++ [i], endAt T f)]
 | n :: ns, p, i, f => (p ++ [i], fromAt T f) :: (posSegs (segs n) (p ++ [i]) 0 f ++ posRow ns p (i + 1) (f + (itemT n).length))
 termination_by ns => 2 * countL ns + 1
 decreasing_by
  ·have := segs_rows n
   unfold rowsOf at this
   rw [this]
   simp only [countL, count_kids]
   omega
  ·simp only [countL, count_kids]
   omega
def posSegs : List (Nat × Bool × Nd) → Path → Nat → Nat → List (Path × Nat)
 | [], _, _, _ => []
 | (k, b, a) :: r, p, j, f => posRow a.kids (p ++ [j]) 0 (f + k + b.toNat) ++ posSegs r p (j + 1) (f + segLen (k, b, a))
 termination_by l => 2 * countL (l.map fun x => x.2.2) + 1
 decreasing_by
  ·simp only [List.map_cons, countL, count_kids]
   omega
  ·simp only [List.map_cons, countL, count_kids]
   omega
end
end
theorem rows_ind {P : List Nd → Prop} {Q : List (Nat × Bool × Nd) → Prop} (h0 : P []) (h1 : ∀ n ns, Q (segs n) → P ns → P (n :: ns)) (q0 : Q []) (q1 : ∀ k b a r, P a.kids → Q r → Q ((k, b, a) :: r)) :
  (∀ ks, P ks) ∧ ∀ l, Q l := by
 have : ∀ m, (∀ ks, 2 * countL ks + 1 ≤ m → P ks) ∧ ∀ l : List (Nat × Bool × Nd), 2 * countL (rowsOf l) + 1 ≤ m → Q l := by
  intro m
  induction m with
  | zero => exact ⟨fun _ h => by omega, fun _ h => by omega⟩
  | succ m ih =>
   refine ⟨fun ks h => ?_, fun l h => ?_⟩
   ·cases ks with
    | nil => exact h0
    | cons n ns =>
     refine h1 n ns (ih.2 _ ?_) (ih.1 _ ?_)
     ·rw [segs_rows]; simp only [countL, count_kids] at h; omega
     ·simp only [countL, count_kids] at h; omega
   ·match l with
    | [] => exact q0
    | (k, b, a) :: r =>
     have h' : 2 * (count a + countL (rowsOf r)) + 1 ≤ m + 1 := h
     rw [count_kids] at h'
     exact q1 k b a r (ih.1 _ (by omega)) (ih.2 _ (by omega))
 exact ⟨fun ks => (this _).1 ks (Nat.le_refl _), fun l => (this _).2 l (Nat.le_refl _)⟩
def itemsC : Clo (List (Path × Nat × Nat)) Nat where
 off s _ _ := s
 item s p f := s ++ [(p, f, 0)]
 key s := s.length
 done s k t := s.modify k fun x => (x.1, x.2.1, t)
theorem modify_mid {α : Type} (f : α → α) (l r : List α) (x : α) : (l ++ x :: r).modify l.length f = l ++ f x :: r := by
 induction l with
 | nil => rfl
 | cons y l ih => simpa [List.modify] using ih
theorem items_run (T : List PTok) : (∀ ks p i f s, runRow itemsC T ks p i f s = s ++ spRow T ks p i f) ∧ ∀ l p j f s, runSegs itemsC T l p j f s = s ++ spSegs T l p j f := by
 refine rows_ind (P := fun ks => ∀ p i f s, runRow itemsC T ks p i f s = s ++ spRow T ks p i f) (Q := fun l => ∀ p j f s, runSegs itemsC T l p j f s = s ++ spSegs T l p j f) ?_ ?_ ?_ ?_
 ·intro p i f s; rw [runRow, spRow, List.append_nil]; rfl
 ·intro n ns h1 h2 p i f s
  rw [runRow, spRow, h1, h2]
  show (((s ++ [(p ++ [i], fromAt T f, 0)]) ++ spSegs T (segs n) (p ++ [i]) 0 f).modify s.length _) ++ _ = _
  rw [List.append_assoc, List.singleton_append, modify_mid]
  simp
 ·intro p j f s; rw [runSegs, spSegs, List.append_nil]
 ·intro k b a r h1 h2 p j f s
  rw [runSegs, spSegs, h1, h2, List.append_assoc]
def offC {σ : Type} (g : σ → Path → Nat → σ) : Clo σ Unit where
 off := g
 item s _ _ := s
 key _ := ()
 done s _ _ := s
theorem off_run {σ : Type} (g : σ → Path → Nat → σ) (T : List PTok) : (∀ ks p i f s, runRow (offC g) T ks p i f s = (posRow T ks p i f).foldl (fun s x => g s x.1 x.2) s) ∧ ∀ l p j f s, runSegs (offC g) T l p j f s = (posSegs T l p j f).foldl (fun s x => g s x.1 x.2) s := by
 refine rows_ind (P := fun ks => ∀ p i f s, runRow (offC g) T ks p i f s = (posRow T ks p i f).foldl (fun s x => g s x.1 x.2) s) (Q := fun l => ∀ p j f s, runSegs (offC g) T l p j f s = (posSegs T l p j f).foldl (fun s x => g s x.1 x.2) s) ?_ ?_ ?_ ?_
 ·intro p i f s; rw [runRow, posRow]; rfl
 ·intro n ns h1 h2 p i f s
  rw [runRow, posRow, h1, h2]
  simp only [List.foldl_cons, List.foldl_append]
  rfl
 ·intro p j f s; rw [runSegs, posSegs]; rfl
 ·intro k b a r h1 h2 p j f s
  rw [runSegs, posSegs, h1, h2, List.foldl_append]
def cmp : Path → Path → Int
 | [], [] => 0
 | [], _ :: _ => -1
 | _ :: _, [] => 1
 | a :: l, b :: m => if a < b then -1 else if b < a then 1 else cmp l m
theorem cmp_refl : ∀ l : Path, cmp l l = 0
 | [] => rfl
 | a :: l => by rw [cmp, if_neg (Nat.lt_irrefl _), if_neg (Nat.lt_irrefl _)]; exact cmp_refl l
theorem cmp_eq : ∀ l m : Path, cmp l m = 0 → l = m
 | [], [], _ => rfl
 | [], _ :: _, h => by cases h
 | _ :: _, [], h => by cases h
 | a :: l, b :: m, h => by
  rw [cmp] at h
  split at h
  ·cases h
  ·split at h
   ·cases h
   ·rw [cmp_eq l m h, show a = b by omega]
theorem cmp_swap : ∀ l m : Path, cmp l m = -1 → cmp m l = 1
 | [], [], h => by cases h
 | [], _ :: _, _ => rfl
 | _ :: _, [], h => by cases h
 | a :: l, b :: m, h => by
  rw [cmp] at h ⊢
  split at h
  ·rw [if_neg (by omega), if_pos (by omega)]
  ·split at h
   ·cases h
   ·rw [if_neg (by omega), if_neg (by omega)]; exact cmp_swap l m h
theorem cmp_pre : ∀ p l m : Path, cmp (p ++ l) (p ++ m) = cmp l m
 | [], _, _ => rfl
 | a :: p, l, m => by rw [List.cons_append, List.cons_append, cmp, if_neg (Nat.lt_irrefl _), if_neg (Nat.lt_irrefl _)]; exact cmp_pre p l m
theorem cmp_lt {i j : Nat} (h : i < j) (p q r : Path) : cmp (p ++ i :: q) (p ++ j :: r) = -1 := by rw [cmp_pre, cmp, if_pos h]
theorem cmp_ext (p : Path) (i x : Nat) (r : Path) : cmp (p ++ [i]) (p ++ i :: x :: r) = -1 := by
 rw [cmp_pre, cmp, if_neg (Nat.lt_irrefl _), if_neg (Nat.lt_irrefl _)]; rfl
theorem pos_under (T : List PTok) : (∀ ks p i f, ∀ x ∈ posRow T ks p i f, ∃ j q, i ≤ j ∧ x.1 = p ++ j :: q) ∧ ∀ l p j f, ∀ x ∈ posSegs T l p j f, ∃ j' m q, j ≤ j' ∧ x.1 = p ++ j' :: m :: q := by
 refine rows_ind (P := fun ks => ∀ p i f, ∀ x ∈ posRow T ks p i f, ∃ j q, i ≤ j ∧ x.1 = p ++ j :: q) (Q := fun l => ∀ p j f, ∀ x ∈ posSegs T l p j f, ∃ j' m q, j ≤ j' ∧ x.1 = p ++ j' :: m :: q) ?_ ?_ ?_ ?_
 ·intro p i f x hx
  rw [posRow] at hx
  rcases List.mem_singleton.1 hx with rfl
  exact ⟨i, [], Nat.le_refl _, rfl⟩
 ·intro n ns h1 h2 p i f x hx
  rw [posRow] at hx
  rcases List.mem_cons.1 hx with rfl | hx
  ·exact ⟨i, [], Nat.le_refl _, rfl⟩
  ·rcases List.mem_append.1 hx with hx | hx
   ·obtain ⟨j, m, q, _, h⟩ := h1 _ _ _ x hx
    exact ⟨i, j :: m :: q, Nat.le_refl _, by rw [h, List.append_assoc]; rfl⟩
   ·obtain ⟨j, q, h3, h⟩ := h2 _ _ _ x hx
    exact ⟨j, q, by omega, h⟩
 ·intro p j f x hx; rw [posSegs] at hx; cases hx
 ·intro k b a r h1 h2 p j f x hx
  rw [posSegs] at hx
  rcases List.mem_append.1 hx with hx | hx
  ·obtain ⟨m, q, _, h⟩ := h1 _ _ _ x hx
   exact ⟨j, m, q, Nat.le_refl _, by rw [h, List.append_assoc]; rfl⟩
  ·obtain ⟨j', m, q, h3, h⟩ := h2 _ _ _ x hx
   exact ⟨j', m, q, by omega, h⟩
theorem sp_under (T : List PTok) : (∀ ks p i f, ∀ x ∈ spRow T ks p i f, ∃ j q, i ≤ j ∧ x.1 = p ++ j :: q) ∧ ∀ l p j f, ∀ x ∈ spSegs T l p j f, ∃ j' m q, j ≤ j' ∧ x.1 = p ++ j' :: m :: q := by
 refine rows_ind (P := fun ks => ∀ p i f, ∀ x ∈ spRow T ks p i f, ∃ j q, i ≤ j ∧ x.1 = p ++ j :: q) (Q := fun l => ∀ p j f, ∀ x ∈ spSegs T l p j f, ∃ j' m q, j ≤ j' ∧ x.1 = p ++ j' :: m :: q) ?_ ?_ ?_ ?_
 ·intro p i f x hx; rw [spRow] at hx; cases hx
 ·intro n ns h1 h2 p i f x hx
  rw [spRow] at hx
  rcases List.mem_cons.1 hx with rfl | hx
  ·exact ⟨i, [], Nat.le_refl _, rfl⟩
  ·rcases List.mem_append.1 hx with hx | hx
   ·obtain ⟨j, m, q, _, h⟩ := h1 _ _ _ x hx
    exact ⟨i, j :: m :: q, Nat.le_refl _, by rw [h, List.append_assoc]; rfl⟩
   ·obtain ⟨j, q, h3, h⟩ := h2 _ _ _ x hx
    exact ⟨j, q, by omega, h⟩
 ·intro p j f x hx; rw [spSegs] at hx; cases hx
 ·intro k b a r h1 h2 p j f x hx
  rw [spSegs] at hx
  rcases List.mem_append.1 hx with hx | hx
  ·obtain ⟨m, q, _, h⟩ := h1 _ _ _ x hx
   exact ⟨j, m, q, Nat.le_refl _, by rw [h, List.append_assoc]; rfl⟩
  ·obtain ⟨j', m, q, h3, h⟩ := h2 _ _ _ x hx
   exact ⟨j', m, q, by omega, h⟩
theorem pos_sorted (T : List PTok) : (∀ ks p i f, (posRow T ks p i f).Pairwise fun x y => cmp x.1 y.1 = -1) ∧ ∀ l p j f, (posSegs T l p j f).Pairwise fun x y => cmp x.1 y.1 = -1 := by
 obtain ⟨u1, u2⟩ := pos_under T
 refine rows_ind (P := fun ks => ∀ p i f, (posRow T ks p i f).Pairwise fun x y => cmp x.1 y.1 = -1) (Q := fun l => ∀ p j f, (posSegs T l p j f).Pairwise fun x y => cmp x.1 y.1 = -1) ?_ ?_ ?_ ?_
 ·intro p i f; rw [posRow]; simp
 ·intro n ns h1 h2 p i f
  rw [posRow, List.pairwise_cons, List.pairwise_append]
  refine ⟨fun y hy => ?_, h1 _ _ _, h2 _ _ _, fun x hx y hy => ?_⟩
  ·rcases List.mem_append.1 hy with hy | hy
   ·obtain ⟨j, m, q, _, h⟩ := u2 _ _ _ _ y hy
    rw [h, List.append_assoc]
    exact cmp_ext p i j _
   ·obtain ⟨j, q, h3, h⟩ := u1 _ _ _ _ y hy
    rw [h]
    exact cmp_lt (by omega) p [] q
  ·obtain ⟨j, m, q, _, h⟩ := u2 _ _ _ _ x hx
   obtain ⟨j', q', h3, h'⟩ := u1 _ _ _ _ y hy
   rw [h, h', List.append_assoc]
   exact cmp_lt (by omega) p _ _
 ·intro p j f; rw [posSegs]; exact List.Pairwise.nil
 ·intro k b a r h1 h2 p j f
  rw [posSegs, List.pairwise_append]
  refine ⟨h1 _ _ _, h2 _ _ _, fun x hx y hy => ?_⟩
  obtain ⟨m, q, _, h⟩ := u1 _ _ _ _ x hx
  obtain ⟨j', m', q', h3, h'⟩ := u2 _ _ _ _ y hy
  rw [h, h', List.append_assoc]
  exact cmp_lt (by omega) p _ _
theorem sp_pos (T : List PTok) : (∀ ks p i f, ∀ x ∈ spRow T ks p i f, (x.1, x.2.1) ∈ posRow T ks p i f) ∧ ∀ l p j f, ∀ x ∈ spSegs T l p j f, (x.1, x.2.1) ∈ posSegs T l p j f := by
 refine rows_ind (P := fun ks => ∀ p i f, ∀ x ∈ spRow T ks p i f, (x.1, x.2.1) ∈ posRow T ks p i f) (Q := fun l => ∀ p j f, ∀ x ∈ spSegs T l p j f, (x.1, x.2.1) ∈ posSegs T l p j f) ?_ ?_ ?_ ?_
 ·intro p i f x hx; rw [spRow] at hx; cases hx
 ·intro n ns h1 h2 p i f x hx
  rw [spRow] at hx
  rw [posRow]
  rcases List.mem_cons.1 hx with rfl | hx
  ·exact List.mem_cons_self ..
  ·rcases List.mem_append.1 hx with hx | hx
   ·exact List.mem_cons_of_mem _ (List.mem_append_left _ (h1 _ _ _ x hx))
   ·exact List.mem_cons_of_mem _ (List.mem_append_right _ (h2 _ _ _ x hx))
 ·intro p j f x hx; rw [spSegs] at hx; cases hx
 ·intro k b a r h1 h2 p j f x hx
  rw [spSegs] at hx
  rw [posSegs]
  rcases List.mem_append.1 hx with hx | hx
  ·exact List.mem_append_left _ (h1 _ _ _ x hx)
  ·exact List.mem_append_right _ (h2 _ _ _ x hx)
end Go.Proofs.YtgfhlfbcoimojaaGreat.Tr

/- The parser comes to an end: how much fuel it takes. -/
namespace Go.Proofs.YtgfhlfbcoimojaaGreat.Np
open Lx (PTok)
open Tr (Nd)
def Fine {α : Type} (x : R α) (n : Nat) : Prop :=
 match x with
 | .ok _ r => r.length < n
 | .err _ _ => True
 | .out => False
theorem Fine.bind {α β : Type} {x : R α} {k : α → List PTok → R β} {n m : Nat} (h : Fine x n) (hk : ∀ a r, r.length < n → Fine (k a r) m) : Fine (x.bind k) m := by
 cases x with
 | ok a r => exact hk a r h
 | err i e => trivial
 | out => exact h.elim
theorem Fine.map {α β : Type} {x : R α} {k : α → β} {n m : Nat} (h : Fine x n) (hm : n ≤ m) : Fine (x.map k) m := h.bind fun _ _ hr => Nat.lt_of_lt_of_le hr hm
theorem Fine.mono {α : Type} {x : R α} {n m : Nat} (h : Fine x n) (hm : n ≤ m) : Fine x m := by
 cases x with
 | ok a r => exact Nat.lt_of_lt_of_le h hm
 | err i e => trivial
 | out => exact h.elim
theorem Fine.refuse {α : Type} (en : Nat) (l : List PTok) (n : Nat) : Fine (refuse en l : R α) n := trivial
theorem isM_pos {b : UInt8} {l : List PTok} (h : isM b l = true) : l.tail.length < l.length := by
 cases l with
 | nil => cases h
 | cons t r => simp
theorem Fine.scripts (g : Bool) (en : Nat) (b : List Nd) (x y : Option Nd) (l : List PTok) (n : Nat) (h : l.length < n) : Fine (scripts g en b x y l) n := by
 unfold Np.scripts
 split
 ·exact h
 ·exact h
 ·exact h
 ·split
  ·trivial
  ·exact h
theorem Fine.plainName (t : PTok) (r : List PTok) (n : Nat) (h : r.length < n) : Fine (plainName t r) n := by
 unfold Np.plainName
 split
 ·trivial
 ·exact h
structure Good (en f : Nat) : Prop where
 row : ∀ op l, 8 * l.length + 5 ≤ f → Fine (pRow en f op l) (l.length + 1)
 within : ∀ b op l, l.tail.length < l.length → 8 * l.length + 2 ≤ f → Fine (pIn en f b op l) l.length
 arg : ∀ op l, 8 * l.length + 3 ≤ f → Fine (pArg en f op l) l.length
 args : ∀ n op l, 8 * l.length + 4 + n ≤ f → Fine (pArgs en f n op l) (l.length + 1)
 script : ∀ b op l, 8 * l.length + 4 ≤ f → Fine (pScript en f b op l) (l.length + 1)
 item : ∀ op l, 8 * l.length + 4 ≤ f → Fine (pItem en f op l) l.length
 prim : ∀ op l, 8 * l.length + 3 ≤ f → Fine (pPrim en f op l) l.length
 name : ∀ op t r, 8 * r.length + 7 ≤ f → Fine (pName en f op t r) (r.length + 1)
 cells : ∀ op ks b c l, 8 * l.length + 6 ≤ f → Fine (pCells en f op ks b c l) (l.length + 1)
theorem good (en : Nat) : ∀ f, Good en f
 | 0 => by constructor <;> (intros; exfalso; omega)
 | f + 1 => by
  have ih := good en f
  constructor
  ·intro op l h
   rw [pRow]
   split
   ·trivial
   ·split
    ·exact Nat.lt_succ_self _
    ·exact (ih.item op l (by omega)).bind fun a r hr => (ih.row op r (by omega)).map (by omega)
  ·intro b op l hl h
   rw [pIn]
   refine (ih.row _ l.tail (by omega)).bind fun a r hr => ?_
   split
   ·show r.tail.length < l.length
    rw [List.length_tail]
    omega
   ·trivial
  ·intro op l h
   rw [pArg.eq_def]
   cases l with
   | nil => trivial
   | cons t r =>
    simp only
    split
    ·show r.length < _; simp
    ·split
     ·exact (ih.within 125 op (t :: r) (by simp) (by omega)).map (Nat.le_refl _)
     ·split
      ·exact (Fine.plainName t r (t :: r).length (by simp)).map (Nat.le_refl _)
      ·trivial
  ·intro n op l h
   cases n with
   | zero => rw [pArgs]; exact Nat.lt_succ_self _
   | succ n =>
    rw [pArgs]
    exact (ih.arg op l (by omega)).bind fun a r hr => (ih.args n op r (by omega)).map (by omega)
  ·intro b op l h
   rw [pScript]
   split
   ·rename_i hm
    have := isM_pos hm
    exact (ih.arg op l.tail (by omega)).map (by omega)
   ·exact Nat.lt_succ_self _
  ·intro op l h
   rw [pItem]
   refine (ih.prim op l (by omega)).bind fun a r hr => (ih.script 95 op r (by omega)).bind fun sub r hr => (ih.script 94 op r (by omega)).bind fun sup r hr => ?_
   split
   ·exact (ih.script 95 op r (by omega)).bind fun sub r hr => Fine.scripts _ _ _ _ _ _ _ (by omega)
   ·exact Fine.scripts _ _ _ _ _ _ _ (by omega)
  ·intro op l h
   rw [pPrim.eq_def]
   cases l with
   | nil => trivial
   | cons t r =>
    simp only
    have hl : (t :: r).length = r.length + 1 := rfl
    have ht : (t :: r).tail.length < (t :: r).length := by simp
    split
    ·show r.length < _; simp
    ·split
     ·exact (ih.name op t r (by omega)).mono (by omega)
     ·split
      ·exact (ih.args 1 op r (by omega)).map (by omega)
      ·split
       ·exact (ih.within 41 op (t :: r) ht (by omega)).map (Nat.le_refl _)
       ·split
        ·exact (ih.within 93 op (t :: r) ht (by omega)).map (Nat.le_refl _)
        ·split
         ·exact ih.within 125 op (t :: r) ht (by omega)
         ·trivial
  ·intro op t r h
   rw [pName]
   split
   ·exact (ih.args 2 op r (by omega)).map (Nat.le_refl _)
   ·split
    ·split
     ·rename_i hm
      exact (ih.within 93 op r (isM_pos hm) (by omega)).bind fun d r' hr => (ih.args 1 op r' (by omega)).map (by omega)
     ·exact (ih.args 1 op r (by omega)).map (Nat.le_refl _)
    ·split
     ·split
      ·rename_i hm
       have := isM_pos hm
       exact (ih.cells _ _ _ _ r.tail (by omega)).map (by omega)
      ·trivial
     ·split
      ·exact (ih.args 1 op r (by omega)).map (Nat.le_refl _)
      ·exact Fine.plainName _ _ _ (Nat.lt_succ_self _)
  ·intro op ks b c l h
   rw [pCells]
   refine (ih.row op l (by omega)).bind fun items r hr => ?_
   have ht : r.tail.length ≤ r.length := by rw [List.length_tail]; omega
   split
   ·rename_i hm
    have := isM_pos hm
    exact (ih.cells _ _ _ _ r.tail (by omega)).mono (by omega)
   ·split
    ·trivial
    ·split
     ·trivial
     ·split
      ·show r.tail.length < _; omega
      ·cases r with
       | nil => rename_i h2; exact absurd rfl h2
       | cons x r =>
        have hx : (x :: r).length = r.length + 1 := rfl
        exact (ih.cells _ _ _ _ r (by omega)).mono (by omega)
theorem parseT_ends (en : Nat) (l : List PTok) : parseT en l ≠ .out := by
 have h := (good en (8 * l.length + 8)).row [] l (by omega)
 unfold parseT
 cases hx : pRow en (8 * l.length + 8) [] l with
 | ok a r =>
  show (if r.isEmpty then R.ok a r else refuse en r) ≠ _
  split <;> (intro h; cases h)
 | err i e => intro h; cases h
 | out => rw [hx] at h; exact h.elim
end Go.Proofs.YtgfhlfbcoimojaaGreat.Np
