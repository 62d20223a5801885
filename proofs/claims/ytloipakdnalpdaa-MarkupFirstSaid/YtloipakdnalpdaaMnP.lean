/- The tree of an element, as plain data: which elements can be carried, the first that cannot, the tree. -/
import Derived.Test.YtloipakdnalpdaaQa12
namespace Go.Proofs.Ytloipakdnalpdaa.El
open Tr (Nd)

/-- The kind of an element without kids. -/
def leafK (n : Bytes) : Int := if n = nMi then 2 else if n = nMo then 2 else if n = nMn then 3 else if n = nMtext then 4 else 0
/-- The value of the first attribute with a name. -/
def attrV : Attrs → Bytes → Bytes
  | [], _ => []
  | x :: l, nm => if x.1 = nm then x.2 else attrV l nm
def rowNil : Nd := .mk 1 [] 0 []
def nilNd : Nd := .mk 0 [] 0 []
/-- Is an item without content valid? -/
def validI (k : Int) (t : Bytes) (s : Nat) : Bool := Tr.valid (.mk 1 [] 0 [.mk k t 0 (List.replicate s rowNil)])
/-- How many kids an element may have. -/
def slotsR (nm : Bytes) (n : Nat) : Bool :=
  if nm = nMath then true else if nm = nMrow then true else if nm = nMtd then true
  else if nm = nMtable then decide (1 ≤ n)
  else if nm = nMtr then decide (1 ≤ n) && decide (n ≤ 16)
  else if nm = nMfrac then decide (n = 2) else if nm = nMroot then decide (n = 2) else if nm = nMsub then decide (n = 2) else if nm = nMsup then decide (n = 2)
  else if nm = nMsubsup then decide (n = 3)
  else if nm = nMsqrt then decide (n = 1) else if nm = nMover then decide (n = 1) else if nm = nMfenced then decide (n = 1)
  else false
def attrsR (nm : Bytes) : Nat := if nm = nMover then 1 else if nm = nMfenced then 2 else 0
def moreR (nm : Bytes) (a : Attrs) : Bool :=
  if nm = nMover then validI 10 (attrV a nAccent) 1
  else if nm = nMfenced then decide ((attrV a nOpen).length = 1) && decide ((attrV a nClose).length = 1) && validI 11 (attrV a nOpen ++ attrV a nClose) 1
  else true
/-- An element's own parts are as its name requires. -/
def ownF : E → Bool
  | .mk n a ks t =>
    if leafK n ≠ 0 then (if n = nMi then lett t else if n = nMo then !lett t else true) && a.isEmpty && ks.isEmpty && validI (leafK n) t 0
    else t.isEmpty && slotsR n ks.length && moreR n a && decide (a.length = attrsR n)
/-- May an element have this kid, as far as its name is concerned (and the number of its kids)? -/
def admF : E → E → Bool
  | .mk n _ ks _, .mk m _ ls _ =>
    if n = nMath ∨ n = nMrow ∨ n = nMtd then !(decide (m = nMath) || decide (m = nMrow) || decide (m = nMtd) || decide (m = nMtr))
    else if n = nMtable then decide (m = nMtr) && (match ks with | .mk _ _ js _ :: _ => decide (ls.length = js.length) | [] => false)
    else if n = nMtr then decide (m = nMtd)
    else decide (m = nMrow)
mutual
/-- Can all elements be carried? -/
def okT : E → Bool
  | .mk n a ks t => ownF (.mk n a ks t) && okL (.mk n a ks t) ks
def okL (p : E) : List E → Bool
  | [] => true
  | x :: xs => admF p x && okT x && okL p xs
end
mutual
/-- Reads the elements in their order, from a number on, up to the first that cannot be carried. -/
def vis : Bool → Nat → E → Bool × Nat
  | adm, k, .mk n a ks t => if adm && ownF (.mk n a ks t) then visL (.mk n a ks t) (k + 1) ks else (false, k + 1)
def visL : E → Nat → List E → Bool × Nat
  | _, k, [] => (true, k)
  | p, k, x :: xs => match vis (admF p x) k x with
    | (true, k') => visL p k' xs
    | (false, k') => (false, k')
end
theorem vis_eq (adm : Bool) (k : Nat) (e : E) : vis adm k e = if adm && ownF e then visL e (k + 1) e.kids else (false, k + 1) := by cases e; rw [vis]; rfl
theorem okT_eq (e : E) : okT e = (ownF e && okL e e.kids) := by cases e; rw [okT]; rfl
theorem okL_all (p : E) (l : List E) : okL p l = l.all fun x => admF p x && okT x := by
  induction l with
  | nil => rw [okL]; rfl
  | cons x l ih => rw [okL, ih, List.all_cons]
theorem visL_spec (p : E) (l : List E) (h : ∀ x ∈ l, ∀ adm k, ((adm && okT x) = true → vis adm k x = (true, k + count x)) ∧ ((adm && okT x) = false → (vis adm k x).1 = false)) :
    ∀ k, (okL p l = true → visL p k l = (true, k + countL l)) ∧ (okL p l = false → (visL p k l).1 = false) := by
  induction l with
  | nil => intro k; exact ⟨fun _ => by rw [visL, countL]; rfl, fun h => by rw [okL] at h; cases h⟩
  | cons x l ih =>
    intro k
    have ih' := ih (fun y hy => h y (List.mem_cons_of_mem _ hy))
    have hx := h x (List.mem_cons_self ..) (admF p x) k
    rw [okL, visL]
    cases hb : admF p x && okT x with
    | true =>
      rw [hx.1 hb, Bool.true_and]
      refine ⟨fun hl => ?_, fun hl => (ih' _).2 hl⟩
      show visL p (k + count x) l = _
      rw [(ih' _).1 hl, countL, Nat.add_assoc]
    | false =>
      rw [Bool.false_and]
      refine ⟨fun h => (by cases h), fun _ => ?_⟩
      have h3 := hx.2 hb
      rcases hv : vis (admF p x) k x with ⟨b, k'⟩
      rw [hv] at h3
      replace h3 : b = false := h3
      rw [h3]
theorem vis_spec (e : E) : ∀ adm k, ((adm && okT e) = true → vis adm k e = (true, k + count e)) ∧ ((adm && okT e) = false → (vis adm k e).1 = false) := by
  induction e using E.ind with
  | h e ih =>
    intro adm k
    have hl := visL_spec e e.kids ih (k + 1)
    rw [vis_eq, okT_eq, count_kids]
    cases adm with
    | false => exact ⟨fun h => by simp at h, fun _ => rfl⟩
    | true =>
      cases ho : ownF e with
      | false => exact ⟨fun h => by simp at h, fun _ => rfl⟩
      | true =>
        simp only [Bool.true_and, if_true]
        refine ⟨fun h => ?_, hl.2⟩
        rw [hl.1 h]
        congr 1
        omega
theorem vis_lt (e : E) : ∀ adm k, k < (vis adm k e).2 ∧ (vis adm k e).2 ≤ k + count e := by
  induction e using E.ind with
  | h e ih =>
    intro adm k
    have hL : ∀ (p : E) (l : List E), (∀ x ∈ l, x ∈ e.kids) → ∀ k, k ≤ (visL p k l).2 ∧ (visL p k l).2 ≤ k + countL l := by
      intro p l
      induction l with
      | nil => intro _ k; rw [visL, countL]; exact ⟨Nat.le_refl _, Nat.le_refl _⟩
      | cons x l ihl =>
        intro hm k
        have hx := ih x (hm x (List.mem_cons_self ..)) (admF p x) k
        rw [visL, countL]
        rcases hv : vis (admF p x) k x with ⟨b, k'⟩
        rw [hv] at hx
        replace hx : k < k' ∧ k' ≤ k + count x := hx
        cases b with
        | true =>
          have := ihl (fun y hy => hm y (List.mem_cons_of_mem _ hy)) k'
          show k ≤ (visL p k' l).2 ∧ (visL p k' l).2 ≤ _
          omega
        | false =>
          show k ≤ k' ∧ k' ≤ _
          omega
    rw [vis_eq, count_kids]
    split
    · have := hL e e.kids (fun x hx => hx) (k + 1)
      omega
    · show k < k + 1 ∧ k + 1 ≤ _
      omega
/-- The first element that cannot be carried. -/
def faultF (e : E) : Int × Bool := if (vis (decide (e.name = nMath)) 0 e).1 then (0, false) else (((vis (decide (e.name = nMath)) 0 e).2 : Int) - 1, true)

def rowK (n : Bytes) : Int := if n = nMfrac then 5 else if n = nMsub then 7 else if n = nMsup then 8 else if n = nMsubsup then 9 else 0
/-- The item of an element, out of the rows of its kids, the cells of its kids' kids, the number of its first kid's kids. -/
def mkN (n : Bytes) (a : Attrs) (t : Bytes) (rs cs : List Nd) (c : Nat) : Nd :=
  if leafK n ≠ 0 then .mk (leafK n) t 0 []
  else if n = nMsqrt then .mk 6 [] 0 (rowNil :: rs.take 1)
  else if n = nMroot then .mk 6 [] 0 ((rs.drop 1).take 1 ++ rs.take 1)
  else if n = nMover then .mk 10 (attrV a nAccent) 0 (rs.take 1)
  else if n = nMfenced then .mk 11 (attrV a nOpen ++ attrV a nClose) 0 (rs.take 1)
  else if n = nMtable then .mk 12 [] c cs
  else .mk (rowK n) [] 0 rs
def colsN : List E → Nat
  | .mk _ _ ks _ :: _ => ks.length
  | [] => 0
mutual
/-- The item of an element. -/
def itemN : E → Nd
  | .mk n a ks t => mkN n a t (rowsN ks) (cellsN ks) (colsN ks)
/-- The items of elements. -/
def itemsN : List E → List Nd
  | [] => []
  | x :: xs => itemN x :: itemsN xs
/-- The rows of elements. -/
def rowsN : List E → List Nd
  | [] => []
  | .mk _ _ ks _ :: xs => .mk 1 [] 0 (itemsN ks) :: rowsN xs
/-- The cells of the rows of a table. -/
def cellsN : List E → List Nd
  | [] => []
  | .mk _ _ ks _ :: xs => rowsN ks ++ cellsN xs
end
/-- The row of the kids of an element. -/
def rowN (e : E) : Nd := .mk 1 [] 0 (itemsN e.kids)
theorem itemN_eq (e : E) : itemN e = mkN e.name e.attrs e.text (rowsN e.kids) (cellsN e.kids) (colsN e.kids) := by cases e; rw [itemN]; rfl
theorem itemsN_map (l : List E) : itemsN l = l.map itemN := by
  induction l with
  | nil => rw [itemsN]; rfl
  | cons x l ih => rw [itemsN, ih]; rfl
theorem rowsN_map (l : List E) : rowsN l = l.map rowN := by
  induction l with
  | nil => rw [rowsN]; rfl
  | cons x l ih => cases x; rw [rowsN, ih]; rfl
theorem cellsN_map (l : List E) : cellsN l = l.flatMap fun x => rowsN x.kids := by
  induction l with
  | nil => rw [cellsN]; rfl
  | cons x l ih => cases x; rw [cellsN, ih, List.flatMap_cons]; rfl
/-- What markup.Node returns. -/
def nodeF (e : E) : Nd × Int × Int := if valid e then (if (faultF e).2 then (nilNd, (faultF e).1, 19) else if Tr.valid (rowN e) then (rowN e, 0, 0) else (nilNd, 0, 6)) else (nilNd, 0, 1)
end Go.Proofs.Ytloipakdnalpdaa.El
