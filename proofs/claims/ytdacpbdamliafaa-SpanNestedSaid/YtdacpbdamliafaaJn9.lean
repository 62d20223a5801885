/- Part 9 of 9 of a proof; its texts, joined: SnP, SnA, SnD, SnB, PrV, SnE, SnF, SnG, SnH. No condition. -/
import Derived.Test.YtdacpbdamliafaaJn8
import Derived.Test.YtdacpbdamliafaaJn7
import Derived.Test.YtdacpbdamliafaaJn2

/- What Offset and At make of the positions, and the lists of the reference. No program in sight. -/
namespace Go.Proofs.Ytdacpbdamliafaa.Tr
open Lx (Tok PTok)

abbrev Sorted (l : List (Path × Nat)) : Prop := l.Pairwise fun x y => cmp x.1 y.1 = -1

/-- The place of a position. -/
def offOf (l : List (Path × Nat)) (pos : Path) : Option Nat := (l.find? fun x => x.1 == pos).map (·.2)
theorem offOf_mem {l : List (Path × Nat)} (hs : Sorted l) {p : Path} {v : Nat} (h : (p, v) ∈ l) : offOf l p = some v := by
  unfold offOf
  induction l with
  | nil => cases h
  | cons y l ih =>
    rw [Sorted, List.pairwise_cons] at hs
    rcases List.mem_cons.1 h with rfl | h
    · rw [List.find?_cons]; simp
    · have hne : (y.1 == p) = false := by
        rw [beq_eq_false_iff_ne]
        intro e
        have := hs.1 _ h
        rw [e, cmp_refl] at this
        cases this
      rw [List.find?_cons, hne]
      exact ih hs.2 h
theorem offOf_none {l : List (Path × Nat)} {p : Path} (h : ∀ x ∈ l, x.1 ≠ p) : offOf l p = none := by
  unfold offOf
  rw [List.find?_eq_none.2 (by intro x hx; simpa using h x hx)]
  rfl
theorem offOf_some {l : List (Path × Nat)} {p : Path} {v : Nat} (h : offOf l p = some v) : (p, v) ∈ l := by
  unfold offOf at h
  rw [Option.map_eq_some_iff] at h
  obtain ⟨x, h1, rfl⟩ := h
  have h2 := List.find?_some h1
  have h3 := List.mem_of_find?_eq_some h1
  simp at h2
  rw [← h2]
  exact h3
/-- What the given Offset keeps. -/
def offG (P : Path → Bool) (s : Nat × Bool) (p : Path) (pl : Nat) : Nat × Bool := if s.2 = false ∧ P p = true then (pl, true) else s
theorem off_fold (P : Path → Bool) : ∀ l : List (Path × Nat), l.foldl (fun s x => offG P s x.1 x.2) (0, false) = match l.find? fun x => P x.1 with | some x => (x.2, true) | none => (0, false) := by
  have ht : ∀ (l : List (Path × Nat)) v, l.foldl (fun s x => offG P s x.1 x.2) (v, true) = (v, true) := by
    intro l v
    induction l with
    | nil => rfl
    | cons y l ih => rw [List.foldl_cons, show offG P (v, true) y.1 y.2 = (v, true) from by unfold offG; rw [if_neg (by simp)]]; exact ih
  intro l
  induction l with
  | nil => rfl
  | cons y l ih =>
    rw [List.foldl_cons, List.find?_cons]
    cases h : P y.1 with
    | true => rw [show offG P (0, false) y.1 y.2 = (y.2, true) from by unfold offG; rw [if_pos ⟨rfl, h⟩], ht]
    | false => rw [show offG P (0, false) y.1 y.2 = (0, false) from by unfold offG; rw [if_neg (by simp [h])], ih]

/-- What the given At keeps: the best position and its place. -/
def atG (k : Int) (s : Path × Int) (p : Path) (pl : Nat) : Path × Int :=
  if k < (pl : Int) ∨ (pl : Int) < s.2 then s else if s.2 < (pl : Int) ∨ cmp p s.1 < 0 then (p, pl) else s
/-- What the reference's At keeps. -/
def atR (k : Int) (s : Path × Int) (p : Path) (pl : Nat) : Path × Int := if (pl : Int) ≤ k ∧ s.2 < (pl : Int) then (p, pl) else s
theorem at_fold (k : Int) : ∀ (l : List (Path × Nat)) (s : Path × Int), Sorted l → (s.2 = -1 ∨ ∀ x ∈ l, cmp s.1 x.1 = -1) → l.foldl (fun s x => atG k s x.1 x.2) s = l.foldl (fun s x => atR k s x.1 x.2) s
  | [], _, _, _ => rfl
  | y :: l, s, hs, h => by
    rw [Sorted, List.pairwise_cons] at hs
    have e : atG k s y.1 y.2 = atR k s y.1 y.2 := by
      unfold atG atR
      by_cases h1 : (y.2 : Int) ≤ k ∧ s.2 < (y.2 : Int)
      · rw [if_pos h1, if_neg (by omega), if_pos (.inl h1.2)]
      · rw [if_neg h1]
        split
        · rfl
        · rw [if_neg]
          rintro (h3 | h3)
          · omega
          · rcases h with h | h
            · omega
            · have := cmp_swap _ _ (h y (by simp))
              omega
    rw [List.foldl_cons, List.foldl_cons, e]
    refine at_fold k l _ hs.2 ?_
    unfold atR
    split
    · exact .inr fun x hx => hs.1 x hx
    · exact h.imp id fun h x hx => h x (by simp [hx])

/-- The reference's At finds the first position with the greatest place that is not behind. -/
theorem at_stay (k : Int) : ∀ (l : List (Path × Nat)) (s : Path × Int), (∀ x ∈ l, (x.2 : Int) ≤ k → (x.2 : Int) ≤ s.2) → l.foldl (fun s x => atR k s x.1 x.2) s = s
  | [], _, _ => rfl
  | y :: l, s, h => by
    rw [List.foldl_cons, show atR k s y.1 y.2 = s from by unfold atR; rw [if_neg (by have := h y (by simp); omega)]]
    exact at_stay k l s fun x hx => h x (by simp [hx])
theorem at_hit : ∀ (l : List (Path × Nat)) (s : Path × Int) (p : Path) (v : Nat), Sorted l → l.Pairwise (fun x y => x.2 ≤ y.2) → s.2 < v → (p, v) ∈ l → ∃ q, l.foldl (fun s x => atR v s x.1 x.2) s = (q, (v : Int)) ∧ (q, v) ∈ l ∧ (q = p ∨ cmp q p = -1)
  | [], _, _, _, _, _, _, h => by cases h
  | y :: l, s, p, v, hs, hm, hlt, h => by
    rw [Sorted, List.pairwise_cons] at hs
    rw [List.pairwise_cons] at hm
    rw [List.foldl_cons]
    have hyv : y.2 ≤ v := by
      rcases List.mem_cons.1 h with h | h
      · rw [← h]; exact Nat.le_refl _
      · exact hm.1 _ h
    rcases Nat.lt_or_ge y.2 v with h1 | h1
    · have hl : (p, v) ∈ l := by
        rcases List.mem_cons.1 h with h | h
        · rw [← h] at h1; exact absurd h1 (Nat.lt_irrefl _)
        · exact h
      have hs2 : (atR v s y.1 y.2).2 < v := by
        unfold atR
        split
        · show (y.2 : Int) < v; omega
        · exact hlt
      obtain ⟨q, h3, h4, h5⟩ := at_hit l _ p v hs.2 hm.2 hs2 hl
      exact ⟨q, h3, by simp [h4], h5⟩
    · have hv : y.2 = v := by omega
      refine ⟨y.1, ?_, by rw [← hv]; simp, ?_⟩
      · rw [show atR v s y.1 y.2 = (y.1, (v : Int)) from by unfold atR; rw [if_pos (by omega), hv]]
        exact at_stay v l _ fun x hx h => h
      · rcases List.mem_cons.1 h with h | h
        · exact .inl (by rw [← h])
        · exact .inr (hs.1 _ h)

/-! The positions do not hang on the tokens. -/
theorem pos_paths (T T' : List PTok) : (∀ ks p i f f', (posRow T ks p i f).map (·.1) = (posRow T' ks p i f').map (·.1)) ∧ ∀ l p j f f', (posSegs T l p j f).map (·.1) = (posSegs T' l p j f').map (·.1) := by
  refine rows_ind (P := fun ks => ∀ p i f f', (posRow T ks p i f).map (·.1) = (posRow T' ks p i f').map (·.1)) (Q := fun l => ∀ p j f f', (posSegs T l p j f).map (·.1) = (posSegs T' l p j f').map (·.1)) ?_ ?_ ?_ ?_
  · intro p i f f'; rw [posRow, posRow]; rfl
  · intro n ns h1 h2 p i f f'
    rw [posRow, posRow, List.map_cons, List.map_cons, List.map_append, List.map_append, h1 _ _ f f', h2 _ _ _ (f' + (itemT n).length)]
  · intro p j f f'; rw [posSegs, posSegs]
  · intro k b a r h1 h2 p j f f'
    rw [posSegs, posSegs, List.map_append, List.map_append, h1 _ _ _ (f' + k + b.toNat), h2 _ _ _ (f' + segLen (k, b, a))]

/-! The reference's spans of rows and items. -/
structure RSp where
  path : Path
  row : Bool
  from_ : Nat
  to_ : Nat
  first : Nat
  count : Nat

section
variable (T : List PTok)
mutual
def rsItems : List Nd → Path → Nat → Nat → List RSp
  | [], _, _, _ => []
  | n :: ns, p, i, f => ⟨p ++ [i], false, fromAt T f, endAt T (f + (itemT n).length), f, (itemT n).length⟩ :: (rsSegs (segs n) (p ++ [i]) 0 f ++ rsItems ns p (i + 1) (f + (itemT n).length))
  termination_by ns => 2 * countL ns + 1
  decreasing_by
    · have := segs_rows n
      unfold rowsOf at this
      rw [this]
      simp only [countL, count_kids]
      omega
    · simp only [countL, count_kids]
      omega
def rsSegs : List (Nat × Bool × Nd) → Path → Nat → Nat → List RSp
  | [], _, _, _ => []
  | (k, b, a) :: r, p, j, f => (⟨p ++ [j], true, 0, 0, f + k + b.toNat, (rowT a.kids).length⟩ :: rsItems a.kids (p ++ [j]) 0 (f + k + b.toNat)) ++ rsSegs r p (j + 1) (f + segLen (k, b, a))
  termination_by l => 2 * countL (l.map fun x => x.2.2) + 1
  decreasing_by
    · simp only [List.map_cons, countL, count_kids]
      omega
    · simp only [List.map_cons, countL, count_kids]
      omega
end
def rsRow (ks : List Nd) (p : Path) (f : Nat) : List RSp := ⟨p, true, 0, 0, f, (rowT ks).length⟩ :: rsItems T ks p 0 f
end
def RSp.item (x : RSp) : Option (Path × Nat × Nat) := if x.row then none else some (x.path, x.from_, x.to_)
theorem rs_items (T : List PTok) : (∀ ks p i f, (rsItems T ks p i f).filterMap RSp.item = spRow T ks p i f) ∧ ∀ l p j f, (rsSegs T l p j f).filterMap RSp.item = spSegs T l p j f := by
  refine rows_ind (P := fun ks => ∀ p i f, (rsItems T ks p i f).filterMap RSp.item = spRow T ks p i f) (Q := fun l => ∀ p j f, (rsSegs T l p j f).filterMap RSp.item = spSegs T l p j f) ?_ ?_ ?_ ?_
  · intro p i f; rw [rsItems, spRow]; rfl
  · intro n ns h1 h2 p i f
    rw [rsItems, spRow, List.filterMap_cons, List.filterMap_append, h1, h2]
    rfl
  · intro p j f; rw [rsSegs, spSegs]; rfl
  · intro k b a r h1 h2 p j f
    rw [rsSegs, spSegs, List.filterMap_append, List.filterMap_cons, h1, h2]
    rfl
/-- Where a row lies, of those below a row. -/
theorem rw_under (T : List PTok) : (∀ ks p i f, ∀ x ∈ rsItems T ks p i f, x.row = true → ∃ j m q, i ≤ j ∧ x.path = p ++ j :: m :: q) ∧ ∀ l p j f, ∀ x ∈ rsSegs T l p j f, x.row = true → ∃ j' q, j ≤ j' ∧ x.path = p ++ j' :: q := by
  refine rows_ind (P := fun ks => ∀ p i f, ∀ x ∈ rsItems T ks p i f, x.row = true → ∃ j m q, i ≤ j ∧ x.path = p ++ j :: m :: q) (Q := fun l => ∀ p j f, ∀ x ∈ rsSegs T l p j f, x.row = true → ∃ j' q, j ≤ j' ∧ x.path = p ++ j' :: q) ?_ ?_ ?_ ?_
  · intro p i f x hx; rw [rsItems] at hx; cases hx
  · intro n ns h1 h2 p i f x hx hr
    rw [rsItems] at hx
    rcases List.mem_cons.1 hx with rfl | hx
    · cases hr
    · rcases List.mem_append.1 hx with hx | hx
      · obtain ⟨j, q, _, h⟩ := h1 _ _ _ x hx hr
        exact ⟨i, j, q, Nat.le_refl _, by rw [h, List.append_assoc]; rfl⟩
      · obtain ⟨j, m, q, h3, h⟩ := h2 _ _ _ x hx hr
        exact ⟨j, m, q, by omega, h⟩
  · intro p j f x hx; rw [rsSegs] at hx; cases hx
  · intro k b a r h1 h2 p j f x hx hr
    rw [rsSegs] at hx
    rcases List.mem_append.1 hx with hx | hx
    · rcases List.mem_cons.1 hx with rfl | hx
      · exact ⟨j, [], Nat.le_refl _, rfl⟩
      · obtain ⟨m, m', q, _, h⟩ := h1 _ _ _ x hx hr
        exact ⟨j, m :: m' :: q, Nat.le_refl _, by rw [h, List.append_assoc]; rfl⟩
    · obtain ⟨j', q, h3, h⟩ := h2 _ _ _ x hx hr
      exact ⟨j', q, by omega, h⟩
theorem app_ne {i j : Nat} (h : i ≠ j) (p q r : Path) : p ++ i :: q ≠ p ++ j :: r := fun e => by
  have := List.append_cancel_left e
  rw [List.cons.injEq] at this
  exact h this.1
/-- No two rows have the same path. -/
theorem rw_apart (T : List PTok) : (∀ ks p i f, (rsItems T ks p i f).Pairwise fun x y => x.row = true → y.row = true → x.path ≠ y.path) ∧ ∀ l p j f, (rsSegs T l p j f).Pairwise fun x y => x.row = true → y.row = true → x.path ≠ y.path := by
  obtain ⟨u1, u2⟩ := rw_under T
  refine rows_ind (P := fun ks => ∀ p i f, (rsItems T ks p i f).Pairwise fun x y => x.row = true → y.row = true → x.path ≠ y.path) (Q := fun l => ∀ p j f, (rsSegs T l p j f).Pairwise fun x y => x.row = true → y.row = true → x.path ≠ y.path) ?_ ?_ ?_ ?_
  · intro p i f; rw [rsItems]; exact List.Pairwise.nil
  · intro n ns h1 h2 p i f
    rw [rsItems, List.pairwise_cons, List.pairwise_append]
    refine ⟨(fun _ _ h => by cases h), h1 _ _ _, h2 _ _ _, fun x hx y hy hxr hyr => ?_⟩
    obtain ⟨j, q, _, h⟩ := u2 _ _ _ _ x hx hxr
    obtain ⟨j', m', q', h3, h'⟩ := u1 _ _ _ _ y hy hyr
    rw [h, h', List.append_assoc]
    exact app_ne (by omega) p _ _
  · intro p j f; rw [rsSegs]; exact List.Pairwise.nil
  · intro k b a r h1 h2 p j f
    rw [rsSegs, List.pairwise_append, List.pairwise_cons]
    refine ⟨⟨fun x hx _ hr => ?_, h1 _ _ _⟩, h2 _ _ _, fun x hx y hy hxr hyr => ?_⟩
    · obtain ⟨m, m', q, _, h⟩ := u1 _ _ _ _ x hx hr
      rw [h]
      intro e
      have := congrArg List.length e
      simp at this
    · obtain ⟨j', q', h3, h'⟩ := u2 _ _ _ _ y hy hyr
      rw [h']
      rcases List.mem_cons.1 hx with rfl | hx
      · exact app_ne (by omega) p [] q'
      · obtain ⟨m, m', q, _, h⟩ := u1 _ _ _ _ x hx hxr
        rw [h, List.append_assoc]
        exact app_ne (by omega) p _ _
theorem rsRow_apart (T : List PTok) (ks : List Nd) (p : Path) (f : Nat) : (rsRow T ks p f).Pairwise fun x y => x.row = true → y.row = true → x.path ≠ y.path := by
  unfold rsRow
  rw [List.pairwise_cons]
  refine ⟨fun x hx _ hr => ?_, (rw_apart T).1 _ _ _ _⟩
  obtain ⟨m, m', q, _, h⟩ := (rw_under T).1 _ _ _ _ x hx hr
  rw [h]
  intro e
  have := congrArg List.length e
  simp at this
/-- A position is that of an item, or the end of a row. -/
theorem pos_cases (T : List PTok) : (∀ ks p i f f0 n0, f0 + n0 = f + (rowT ks).length → ∀ x ∈ posRow T ks p i f, (∃ y ∈ spRow T ks p i f, y.1 = x.1 ∧ y.2.1 = x.2) ∨ ∃ y ∈ (⟨p, true, 0, 0, f0, n0⟩ : RSp) :: rsItems T ks p i f, y.row = true ∧ (∃ m, x.1 = y.path ++ [m]) ∧ x.2 = endAt T (y.first + y.count)) ∧
    ∀ l p j f, ∀ x ∈ posSegs T l p j f, (∃ y ∈ spSegs T l p j f, y.1 = x.1 ∧ y.2.1 = x.2) ∨ ∃ y ∈ rsSegs T l p j f, y.row = true ∧ (∃ m, x.1 = y.path ++ [m]) ∧ x.2 = endAt T (y.first + y.count) := by
  refine rows_ind (P := fun ks => ∀ p i f f0 n0, f0 + n0 = f + (rowT ks).length → ∀ x ∈ posRow T ks p i f, (∃ y ∈ spRow T ks p i f, y.1 = x.1 ∧ y.2.1 = x.2) ∨ ∃ y ∈ (⟨p, true, 0, 0, f0, n0⟩ : RSp) :: rsItems T ks p i f, y.row = true ∧ (∃ m, x.1 = y.path ++ [m]) ∧ x.2 = endAt T (y.first + y.count))
    (Q := fun l => ∀ p j f, ∀ x ∈ posSegs T l p j f, (∃ y ∈ spSegs T l p j f, y.1 = x.1 ∧ y.2.1 = x.2) ∨ ∃ y ∈ rsSegs T l p j f, y.row = true ∧ (∃ m, x.1 = y.path ++ [m]) ∧ x.2 = endAt T (y.first + y.count)) ?_ ?_ ?_ ?_
  · intro p i f f0 n0 h0 x hx
    rw [posRow] at hx
    rcases List.mem_singleton.1 hx with rfl
    rw [rowT_nil] at h0
    exact .inr ⟨⟨p, true, 0, 0, f0, n0⟩, List.mem_cons_self .., rfl, ⟨i, rfl⟩, by show endAt T f = endAt T (f0 + n0); rw [h0]; rfl⟩
  · intro n ns h1 h2 p i f f0 n0 h0 x hx
    rw [posRow] at hx
    rw [spRow, rsItems]
    rw [rowT_cons, List.length_append] at h0
    rcases List.mem_cons.1 hx with rfl | hx
    · exact .inl ⟨_, List.mem_cons_self .., rfl, rfl⟩
    · rcases List.mem_append.1 hx with hx | hx
      · rcases h1 _ _ _ x hx with ⟨y, hy, h⟩ | ⟨y, hy, h⟩
        · exact .inl ⟨y, by simp [hy], h⟩
        · exact .inr ⟨y, by simp [hy], h⟩
      · rcases h2 _ _ _ f0 n0 (by omega) x hx with ⟨y, hy, h⟩ | ⟨y, hy, h⟩
        · exact .inl ⟨y, by simp [hy], h⟩
        · rcases List.mem_cons.1 hy with hy | hy
          · exact .inr ⟨y, by simp [hy], h⟩
          · exact .inr ⟨y, by simp [hy], h⟩
  · intro p j f x hx; rw [posSegs] at hx; cases hx
  · intro k b a r h1 h2 p j f x hx
    rw [posSegs] at hx
    rw [spSegs, rsSegs]
    rcases List.mem_append.1 hx with hx | hx
    · rcases h1 _ _ _ (f + k + b.toNat) (rowT a.kids).length rfl x hx with ⟨y, hy, h⟩ | ⟨y, hy, h⟩
      · exact .inl ⟨y, by simp [hy], h⟩
      · exact .inr ⟨y, List.mem_append_left _ hy, h⟩
    · rcases h2 _ _ _ x hx with ⟨y, hy, h⟩ | ⟨y, hy, h⟩
      · exact .inl ⟨y, by simp [hy], h⟩
      · exact .inr ⟨y, List.mem_append_right _ hy, h⟩

/-- What the reference's Offset returns at a position of a tree. -/
def refOff (T : List PTok) (l : List RSp) (pos : Path) : Nat :=
  match l.find? fun x => !x.row && (x.path == pos) with
  | some x => x.from_
  | none => match l.find? fun x => x.row && (x.path == pos.dropLast) && decide (0 < x.first + x.count) with
    | some x => endAt T (x.first + x.count)
    | none => 0
theorem find_apart {l : List RSp} (h : l.Pairwise fun x y => x.row = true → y.row = true → x.path ≠ y.path) {y : RSp} (hy : y ∈ l) (hr : y.row = true) (hc : 0 < y.first + y.count) :
    l.find? (fun x => x.row && (x.path == y.path) && decide (0 < x.first + x.count)) = some y := by
  induction l with
  | nil => cases hy
  | cons z l ih =>
    rw [List.pairwise_cons] at h
    rcases List.mem_cons.1 hy with rfl | hy
    · rw [List.find?_cons]; simp [hr, hc]
    · have hne : (z.row && (z.path == y.path) && decide (0 < z.first + z.count)) = false := by
        cases hz : z.row with
        | false => rfl
        | true =>
          have := h.1 y hy hz hr
          simp [this]
      rw [List.find?_cons, hne]
      exact ih h.2 hy
theorem same_row {l : List RSp} (h : l.Pairwise fun x y => x.row = true → y.row = true → x.path ≠ y.path) {x y : RSp} (hx : x ∈ l) (hy : y ∈ l) (hxr : x.row = true) (hyr : y.row = true) (hp : x.path = y.path) : x = y := by
  induction l with
  | nil => cases hx
  | cons z l ih =>
    rw [List.pairwise_cons] at h
    rcases List.mem_cons.1 hx with hx | hx
    · rcases List.mem_cons.1 hy with hy | hy
      · rw [hx, hy]
      · rw [hx] at hxr hp
        exact absurd hp (h.1 y hy hxr hyr)
    · rcases List.mem_cons.1 hy with hy | hy
      · rw [hy] at hyr hp
        exact absurd hp.symm (h.1 x hx hyr hxr)
      · exact ih h.2 hx hy
theorem find_gone {l : List RSp} (h : l.Pairwise fun x y => x.row = true → y.row = true → x.path ≠ y.path) {y : RSp} (hy : y ∈ l) (hr : y.row = true) (hc : y.first + y.count = 0) :
    l.find? (fun x => x.row && (x.path == y.path) && decide (0 < x.first + x.count)) = none := by
  rw [List.find?_eq_none]
  intro x hx
  by_cases hxr : x.row = true
  · by_cases hp : x.path = y.path
    · rw [same_row h hx hy hxr hr hp]
      simp [hc]
    · simp [hp]
  · simp [hxr]
theorem refOff_eq (T : List PTok) (ks : List Nd) {pos : Path} {v : Nat} (h : (pos, v) ∈ posRow T ks [] 0 0) : refOff T (rsRow T ks [] 0) pos = v := by
  have hs := (pos_sorted T).1 ks [] 0 0
  have hit : ∀ x ∈ rsRow T ks [] 0, x.row = false → (x.path, x.from_, x.to_) ∈ spRow T ks [] 0 0 := by
    intro x hx hr
    rw [← (rs_items T).1 ks [] 0 0]
    unfold rsRow at hx
    rcases List.mem_cons.1 hx with rfl | hx
    · cases hr
    · exact List.mem_filterMap.2 ⟨x, hx, by unfold RSp.item; rw [hr]; rfl⟩
  unfold refOff
  split
  · rename_i x hx
    have h1 := List.find?_some hx
    have h2 := List.mem_of_find?_eq_some hx
    simp at h1
    have h3 := (sp_pos T).1 _ _ _ _ _ (hit x h2 h1.1)
    have h4 := offOf_mem hs h3
    rw [h1.2, offOf_mem hs h] at h4
    exact (Option.some.inj h4).symm
  · rename_i hn
    rw [List.find?_eq_none] at hn
    rcases (pos_cases T).1 ks [] 0 0 0 (rowT ks).length rfl _ h with ⟨y, hy, h1, _⟩ | ⟨y, hy, hr, ⟨m, h1⟩, h2⟩
    · exfalso
      rw [← (rs_items T).1 ks [] 0 0] at hy
      obtain ⟨x, hx, hxy⟩ := List.mem_filterMap.1 hy
      have := hn x (by unfold rsRow; simp [hx])
      unfold RSp.item at hxy
      split at hxy
      · cases hxy
      · rename_i hxr
        simp at hxy hxr
        apply this
        rw [← hxy] at h1
        have h1' : x.path = pos := h1
        simp [hxr, h1']
    · have hd : pos.dropLast = y.path := by
        have : pos = y.path ++ [m] := h1
        rw [this, List.dropLast_concat]
      rw [hd]
      have hy' : y ∈ rsRow T ks [] 0 := hy
      rcases Nat.eq_zero_or_pos (y.first + y.count) with h0 | h0
      · rw [find_gone (rsRow_apart T ks [] 0) hy' hr h0]
        have h2' : v = endAt T (y.first + y.count) := h2
        rw [h2', h0]
        rfl
      · rw [find_apart (rsRow_apart T ks [] 0) hy' hr h0]
        exact h2.symm
end Go.Proofs.Ytdacpbdamliafaa.Tr

/- span.Offset. -/
namespace Go.Proofs.Ytdacpbdamliafaa
open Go.RowKit
open Tr (Nd Clo runRow rowT offC offG posRow)

/-! Closures that do nothing for items. -/
theorem noItem_any (v : Value) (pl : Nat) (w : World) : Calls Try.prog 22 (#[v, .int .i64 (pl : Int)] ++ #[]) w fun e w' => e = .returned (.func (.func 38) #[] #[]) ∧ w' = w := by
  have e : (#[v, .int .i64 (pl : Int)] ++ #[] : Array Value) = #[v, .int .i64 (pl : Int)] := by simp
  rw [e]
  go_enter Try.func22, Try.ntmps22
  go_wp2_with fail
  go_ret
  exact ⟨rfl, rfl⟩
theorem noItem1_any (pl : Nat) (w : World) : Calls Try.prog 38 (#[.int .i64 (pl : Int)] ++ #[]) w fun e w' => e = .returned (.tuple #[]) ∧ w' = w := by
  have e : (#[.int .i64 (pl : Int)] ++ #[] : Array Value) = #[.int .i64 (pl : Int)] := by simp
  rw [e]
  go_enter Try.func38, Try.ntmps38
  go_wp2_with fail
  first | go_end0 | refine bodyPost_ret (v := .tuple #[]) (results_none rfl _ _ _) rfl ?_
  exact ⟨rfl, rfl⟩
theorem Mc.refl (S : Nat → Prop) (w : World) : Mc S S w w := ⟨Touch.refl _ _, fun _ h => .inl h⟩

/-- A slice of numbers in old blocks. -/
def IntsB (B : Nat) (w : World) (v : Value) (l : List Int) : Prop :=
  ∃ A cap, v = .slice A l.length cap ∧ (l = [] ∨ ∃ g o, A = some ⟨g, o, none⟩ ∧ g < B ∧ ∀ i (h : i < l.length), w.cell? ⟨g, o + i, none⟩ = some (.int .i64 l[i]))
theorem Ints.old {w : World} {v : Value} {l : List Int} (h : Ints w v l) {B : Nat} (hB : w.heap.size ≤ B) : IntsB B w v l := by
  obtain ⟨A, cap, h, h'⟩ := h
  exact ⟨A, cap, h, h'.imp id fun ⟨g, o, h1, h2, h3⟩ => ⟨g, o, h1, Nat.lt_of_lt_of_le h2 hB, h3⟩⟩
theorem IntsB.touch {B : Nat} {S : Nat → Prop} {w w' : World} {v : Value} {l : List Int} (h : IntsB B w v l) (ht : Touch S w w') (hS : ∀ b, S b → B ≤ b) : IntsB B w' v l := by
  obtain ⟨A, cap, h, h'⟩ := h
  exact ⟨A, cap, h, h'.imp id fun ⟨g, o, h1, h2, h3⟩ => ⟨g, o, h1, h2, fun i hi => ht.cell (h3 i hi) fun e => by have := hS _ e; have h2' : g < B := h2; simp only at this; omega⟩⟩
theorem IntsB.ints {B : Nat} {w : World} {v : Value} {l : List Int} (h : IntsB B w v l) : Ints w v l := by
  obtain ⟨A, cap, h, h'⟩ := h
  refine ⟨A, cap, h, ?_⟩
  rcases h' with h' | ⟨g, o, h1, h2, h3⟩
  · exact .inl h'
  · cases l with
    | nil => exact .inl rfl
    | cons x l => exact .inr ⟨g, o, h1, block_lt_of_cell (h3 0 (by simp)), h3⟩

/-! Offset. -/
def posIs (pos : List Int) (p : List Nat) : Bool := decide (up p = pos)
/-- What Offset's closure knows: the result, whether it is found, and the position. -/
structure OffSt (W0 : World) (B rb fb pb : Nat) (posv : Value) (pos : List Int) (g tg : Nat) (s : Nat × Bool) (S : Nat → Prop) (w : World) : Prop where
  own : ∀ b, S b ↔ b = rb ∨ b = fb
  res : Blk w rb 3 #[.int .i64 (s.1 : Int)]
  found : Blk w fb 4 #[.bool s.2]
  posc : w.cell? ⟨pb, 0, none⟩ = some posv
  ints : IntsB W0.heap.size w posv pos
  lo : W0.heap.size ≤ rb ∧ W0.heap.size ≤ fb ∧ rb < B ∧ fb < B ∧ pb < B ∧ rb ≠ fb ∧ pb ≠ rb ∧ pb ≠ fb ∧ W0.heap.size ≤ B
  hg : B ≤ g
  htg : B ≤ tg
theorem OffSt.touch {W0 : World} {B rb fb pb : Nat} {posv : Value} {pos : List Int} {g tg : Nat} {s : Nat × Bool} {S : Nat → Prop} {w w' : World} (h : OffSt W0 B rb fb pb posv pos g tg s S w) {Q : Nat → Prop} (ht : Touch Q w w') (hQ : ∀ b, Q b → B ≤ b) : OffSt W0 B rb fb pb posv pos g tg s S w' := by
  obtain ⟨h1, h2, h3, h4, h5, h6, h7⟩ := h.lo
  refine ⟨h.own, ht.blk h.res fun e => by have := hQ _ e; omega, ht.blk h.found fun e => by have := hQ _ e; omega, ht.cell h.posc fun e => by have := hQ _ e; simp only at this; omega, h.ints.touch ht fun b hb => ?_, h.lo, h.hg, h.htg⟩
  have := hQ b hb
  omega

set_option maxRecDepth 100000 in
set_option maxHeartbeats 1000000 in
theorem off1_any {W0 : World} {B rb fb pb : Nat} {posv : Value} {pos : List Int} {g tg : Nat} {s : Nat × Bool} {S : Nat → Prop} {w : World} (h : OffSt W0 B rb fb pb posv pos g tg s S w) {p : List Nat} {v : Value} (pl : Nat) (hp : PathIn g S w v p) (hpl : p.length ≤ 1000) (hl : pos.length ≤ maxLen) :
    Calls Try.prog 19 (#[v, .int .i64 (pl : Int)] ++ #[.pointer (some ⟨fb, 0, none⟩), .pointer (some ⟨pb, 0, none⟩), .pointer (some ⟨rb, 0, none⟩)]) w
      fun e w' => e = .returned (.tuple #[]) ∧ ∃ S', OffSt W0 B rb fb pb posv pos g tg (offG (posIs pos) s p pl) S' w' ∧ Mc S S' w w' := by
  have e : (#[v, .int .i64 (pl : Int)] ++ #[.pointer (some ⟨fb, 0, none⟩), .pointer (some ⟨pb, 0, none⟩), .pointer (some ⟨rb, 0, none⟩)] : Array Value) = #[v, .int .i64 (pl : Int), .pointer (some ⟨fb, 0, none⟩), .pointer (some ⟨pb, 0, none⟩), .pointer (some ⟨rb, 0, none⟩)] := by simp
  rw [e]
  clear e
  obtain ⟨r, f⟩ := s
  have HS := hid h
  have q0 : w.cell? ⟨rb, 0, none⟩ = some (.int .i64 (r : Int)) := h.res.cell 0
  have z0 : w.frozen? ⟨rb, 0, none⟩ = false := h.res.frozen 0
  have q1 : w.cell? ⟨fb, 0, none⟩ = some (.bool f) := h.found.cell 0
  have z1 : w.frozen? ⟨fb, 0, none⟩ = false := h.found.frozen 0
  have q2 := h.posc
  obtain ⟨_, _, _, _, _, hne, _⟩ := h.lo
  obtain ⟨A, cap, rfl⟩ := h.ints.ints.slice
  have HP := hid hp
  have HPL := hid hpl
  have HL := hid hl
  obtain ⟨Ap, capp, rfl⟩ := hp.slice
  clear h hp hpl hl
  cases f with
  | true =>
    have HR := hid (show offG (posIs pos) (r, true) p pl = (r, true) from by unfold offG; rw [if_neg (by simp)])
    go_enter Try.func19, Try.ntmps19
    go_wp2_with fail
    go_end0
    exact ⟨rfl, S, by rw [HR.out]; exact HS.out, Mc.refl _ _⟩
  | false =>
    cases hd : posIs pos p with
    | false =>
      have HR := hid (show offG (posIs pos) (r, false) p pl = (r, false) from by unfold offG; rw [if_neg (by simp [hd])])
      have HD := hid (show decide (up p = pos) = false from hd)
      clear hd
      go_enter Try.func19, Try.ntmps19
      go_wp2_with fail
      refine (equal_ints (up p) pos _ _ _ HP.out.ints HS.out.ints.ints (by have := HPL.out; simp only [List.length_map]; unfold maxLen; omega) HL.out).mono ?_
      rintro _ w1 ⟨rfl, hf⟩
      rw [HD.out]
      have HF := hid hf
      clear hf
      go_wp2_with fail
      go_end0
      exact ⟨rfl, S, by rw [HR.out]; exact HS.out.touch HF.out (fun _ h => h.elim), ⟨HF.out.mono fun _ h => h.elim, fun _ h => .inl h⟩⟩
    | true =>
      have HR := hid (show offG (posIs pos) (r, false) p pl = (pl, true) from by unfold offG; rw [if_pos ⟨rfl, hd⟩])
      have HD := hid (show decide (up p = pos) = true from hd)
      clear hd
      go_enter Try.func19, Try.ntmps19
      go_wp2_with fail
      refine (equal_ints (up p) pos _ _ _ HP.out.ints HS.out.ints.ints (by have := HPL.out; simp only [List.length_map]; unfold maxLen; omega) HL.out).mono ?_
      rintro _ w1 ⟨rfl, hf⟩
      rw [HD.out]
      have HF := hid hf
      have HS1 := hid (HS.out.touch hf (fun _ h => h.elim))
      have r0 : w1.cell? ⟨rb, 0, none⟩ = some (.int .i64 (r : Int)) := HS1.out.res.cell 0
      have y0 : w1.frozen? ⟨rb, 0, none⟩ = false := HS1.out.res.frozen 0
      have r1 : w1.cell? ⟨fb, 0, none⟩ = some (.bool false) := HS1.out.found.cell 0
      have y1 : w1.frozen? ⟨fb, 0, none⟩ = false := HS1.out.found.frozen 0
      clear hf q0 q1 q2 z0 z1
      go_wp2_with fail
      go_end0
      refine ⟨rfl, S, ?_, ⟨((HF.out.mono fun _ h => h.elim).setCell (p := ⟨rb, 0, none⟩) (.inl ((HS.out.own _).2 (.inl rfl))) _).setCell (p := ⟨fb, 0, none⟩) (.inl ((HS.out.own _).2 (.inr rfl))) _, fun _ h => .inl h⟩⟩
      rw [HR.out]
      obtain ⟨l1, l2, l3, l4, l5, l6, l7, l8, l9⟩ := HS1.out.lo
      have ht : Touch (fun b => b = rb ∨ b = fb) w1 ((w1.setCell ⟨rb, 0, none⟩ (.int .i64 (pl : Int))).setCell ⟨fb, 0, none⟩ (.bool true)) := ((Touch.refl (fun b => b = rb ∨ b = fb) w1).setCell (p := ⟨rb, 0, none⟩) (.inl (.inl rfl)) _).setCell (p := ⟨fb, 0, none⟩) (.inl (.inr rfl)) _
      exact ⟨HS1.out.own, ((HS1.out.res.put 0 _).far (p := ⟨fb, 0, none⟩) l6 _), ((HS1.out.found.far (p := ⟨rb, 0, none⟩) (Ne.symm l6) _).put 0 _), ht.cell HS1.out.posc (fun e => e.elim l7 l8), HS1.out.ints.touch ht (fun b hb => by rcases hb with rfl | rfl <;> assumption), HS1.out.lo, HS1.out.hg, HS1.out.htg⟩

/-- The closures of Offset. -/
def offCls (W0 : World) (B rb fb pb : Nat) (posv : Value) (pos : List Int) : Cls (Nat × Bool) Unit :=
  ⟨offC (offG (posIs pos)), 22, #[], 19, #[.pointer (some ⟨fb, 0, none⟩), .pointer (some ⟨pb, 0, none⟩), .pointer (some ⟨rb, 0, none⟩)], OffSt W0 B rb fb pb posv pos, fun _ _ _ _ _ d cd => d = 38 ∧ cd = #[], fun _ => True, fun _ _ => True⟩
theorem printT_len_le (n : Nd) (hc : Tr.count n ≤ 800) : (printT n).length ≤ 100000 := by
  cases h : Tr.valid n with
  | true =>
    rw [printT_len n h]
    have := row_len n (Tr.valid_row n h)
    omega
  | false =>
    unfold printT
    rw [h]
    exact Nat.zero_le _
set_option maxRecDepth 100000 in
theorem offCls_good (W0 : World) (B rb fb pb : Nat) (posv : Value) (pos : List Int) (hl : pos.length ≤ maxLen) (n : Nd) (hc : Tr.count n ≤ 800) (g tg : Nat) (tv : Value) (hg : W0.heap.size ≤ g) : ((offCls W0 B rb fb pb posv pos).wk W0 g tg tv (printT n)).Good where
  len := printT_len_le n hc
  place := printT_place n hc
  far := hg
  lt := fun s S w b h hb => by
    have h' : OffSt W0 B rb fb pb posv pos g tg s S w := h
    obtain ⟨l1, l2, l3, l4, _⟩ := h'.lo
    have h1 := h'.res.lt
    have h2 := h'.found.lt
    have h3 := h'.hg
    have h4 := h'.htg
    show W0.heap.size ≤ b ∧ b < w.heap.size ∧ b ≠ g ∧ b ≠ tg
    rcases (h'.own b).1 hb with rfl | rfl <;> omega
  stmv := fun s S w w' h ht => by
    have h' : OffSt W0 B rb fb pb posv pos g tg s S w := h
    exact h'.touch ht fun b hb => by have : b = g := hb; have := h'.hg; omega
  dnmv := fun q S S' w w' d cd h _ => h
  off := fun s S w p v pl h hp hpl _ _ => off1_any h pl hp hpl hl
  item := fun s S w p v pl h hp hpl _ _ => (noItem_any v pl w).mono fun e w' ⟨he, hw⟩ => by
    subst hw
    exact ⟨_, _, S, he, h, Mc.refl _ _, rfl, rfl⟩
  done := fun s S w q d cd pl h hd _ _ _ => by
    obtain ⟨rfl, rfl⟩ := hd
    exact (noItem1_any pl w).mono fun e w' ⟨he, hw⟩ => by subst hw; exact ⟨he, S, h, Mc.refl _ _⟩
  kp0 := fun _ _ _ => trivial
  kpo := fun _ _ _ _ _ => trivial
  kpi := fun _ _ _ _ _ => trivial
  kpd := fun _ _ _ _ _ => trivial
  limo := fun _ _ _ _ => trivial
  limi := fun _ _ _ _ => trivial
  limd := fun _ _ _ _ => trivial
  callo := fun _ _ => by kernel_rfl
  calli := fun _ _ => by kernel_rfl
  calld := fun q S w d cd hd => by
    obtain ⟨rfl, rfl⟩ := hd
    exact fun _ _ => by kernel_rfl

/-- What Offset returns. -/
def offR (n : Nd) (pos : List Int) : Nat × Int :=
  if Tr.valid n then match (posRow (printT n) n.kids [] 0 0).find? fun x => posIs pos x.1 with | some x => (x.2, 0) | none => (0, 2) else (0, 1)
theorem low_fresh {W0 w : World} (h : Low W0 w) : Fresh W0 w := ⟨h.os, h.tape, h.output, h.size, fun k hk _ => h.block k hk (by omega)⟩
theorem Blk.new4 (w : World) (o o' o'' : Obj) (t : TypeId) (cs : Array Value) : Blk ((((w.alloc o).alloc o').alloc o'').alloc (.cells cs t)) (w.heap.size + 1 + 1 + 1) t cs := by
  have := Blk.new3 (w.alloc o) o' o'' t cs
  simpa using this

set_option maxRecDepth 100000 in
set_option maxHeartbeats 2000000 in
theorem offset_any (n : Nd) (sl posv : Value) (pos : List Int) (w : World) (hsl : RepL w n.kids sl) (ht : n.text.length ≤ maxLen) (hc : Tr.count n ≤ 800) (hpos : Ints w posv pos) (hl : pos.length ≤ maxLen) :
    Calls Try.prog 8 #[nv n sl, posv] w fun e w' => e = .returned (.tuple #[.int .i64 ((offR n pos).1 : Nat), .int .i64 (offR n pos).2]) ∧ Fresh w w' := by
  obtain ⟨A, cap, rfl⟩ := hsl.slice
  obtain ⟨Ap, capp, rfl⟩ := hpos.slice
  have HSL := hid hsl
  have HP := hid hpos
  have HL := hid hl
  have HC := hid hc
  clear hsl hpos hl hc
  have hmf : ∀ (fn : Fn) (first cap : Array Value) (w : World), (Instr.makeFunc fn first cap).run Try.prog w = .ok (.func fn first cap) w := fun _ _ _ _ => rfl
  cases hv : Tr.valid n with
  | false =>
    have HR := hid (show offR n pos = (0, 1) from by unfold offR; rw [hv]; rfl)
    have HV := hid hv
    clear hv
    go_enter Try.func8, Try.ntmps8
    go_wp2_with fail
    have hf1 : Fresh w ((((w.alloc (.cells #[.int .i64 n.kind, .string ⟨n.text.toArray⟩, .int .i64 n.cols, .slice A n.kids.length cap] 24)).alloc (.cells #[.slice Ap pos.length capp] 31)).alloc (.cells #[.int .i64 0] 3)).alloc (.cells #[.bool false] 4)) := ((((Touch.refl _ _).alloc _).alloc _).alloc _).alloc _
    generalize ((((w.alloc (.cells #[.int .i64 n.kind, .string ⟨n.text.toArray⟩, .int .i64 n.cols, .slice A n.kids.length cap] 24)).alloc (.cells #[.slice Ap pos.length capp] 31)).alloc (.cells #[.int .i64 0] 3)).alloc (.cells #[.bool false] 4)) = W1 at hf1 ⊢
    have HF1 := hid hf1
    clear hf1
    refine (walk_err n _ 22 19 #[] _ W1 (HSL.out.fresh HF1.out) ht HC.out HV.out).mono ?_
    rintro _ w2 ⟨rfl, hf⟩
    have HF2 := hid (HF1.out.trans hf)
    clear hf
    go_wp2_with fail
    go_ret2
    exact ⟨by rw [HR.out]; rfl, HF2.out⟩
  | true =>
    have HV := hid hv
    clear hv
    go_enter Try.func8, Try.ntmps8
    go_wp2_with fail
    have hf1 : Fresh w ((((w.alloc (.cells #[.int .i64 n.kind, .string ⟨n.text.toArray⟩, .int .i64 n.cols, .slice A n.kids.length cap] 24)).alloc (.cells #[.slice Ap pos.length capp] 31)).alloc (.cells #[.int .i64 0] 3)).alloc (.cells #[.bool false] 4)) := ((((Touch.refl _ _).alloc _).alloc _).alloc _).alloc _
    have hbf : Blk ((((w.alloc (.cells #[.int .i64 n.kind, .string ⟨n.text.toArray⟩, .int .i64 n.cols, .slice A n.kids.length cap] 24)).alloc (.cells #[.slice Ap pos.length capp] 31)).alloc (.cells #[.int .i64 0] 3)).alloc (.cells #[.bool false] 4)) (w.heap.size + 1 + 1 + 1) 4 #[.bool false] := Blk.new4 _ _ _ _ _ _
    have hbr : Blk ((((w.alloc (.cells #[.int .i64 n.kind, .string ⟨n.text.toArray⟩, .int .i64 n.cols, .slice A n.kids.length cap] 24)).alloc (.cells #[.slice Ap pos.length capp] 31)).alloc (.cells #[.int .i64 0] 3)).alloc (.cells #[.bool false] 4)) (w.heap.size + 1 + 1) 3 #[.int .i64 0] := (Blk.new3 _ _ _ _ _).alloc _
    have hbp : Blk ((((w.alloc (.cells #[.int .i64 n.kind, .string ⟨n.text.toArray⟩, .int .i64 n.cols, .slice A n.kids.length cap] 24)).alloc (.cells #[.slice Ap pos.length capp] 31)).alloc (.cells #[.int .i64 0] 3)).alloc (.cells #[.bool false] 4)) (w.heap.size + 1) 31 #[.slice Ap pos.length capp] := ((Blk.new2 _ _ _ _).alloc _).alloc _
    generalize ((((w.alloc (.cells #[.int .i64 n.kind, .string ⟨n.text.toArray⟩, .int .i64 n.cols, .slice A n.kids.length cap] 24)).alloc (.cells #[.slice Ap pos.length capp] 31)).alloc (.cells #[.int .i64 0] 3)).alloc (.cells #[.bool false] 4)) = W1 at hf1 hbf hbr hbp ⊢
    have HF1 := hid hf1
    have HOS := hid (fun (g tg : Nat) (w' : World) (h1 : W1.heap.size ≤ g) (h2 : W1.heap.size ≤ tg) (hf : Fresh W1 w') => (show OffSt w W1.heap.size (w.heap.size + 1 + 1) (w.heap.size + 1 + 1 + 1) (w.heap.size + 1) (.slice Ap pos.length capp) pos g tg (0, false) (fun b => b = w.heap.size + 1 + 1 ∨ b = w.heap.size + 1 + 1 + 1) w' from
      ⟨fun b => Iff.rfl, hf.blk hbr (fun h => h), hf.blk hbf (fun h => h), (hf.blk hbp (fun h => h)).cell 0, (HP.out.old (Nat.le_refl _)).touch (HF1.out.trans hf) (fun _ h => h.elim), by have := hbf.lt; refine ⟨?_, ?_, ?_, ?_, ?_, ?_, ?_, ?_, ?_⟩ <;> omega, h1, h2⟩))
    clear hf1 hbf hbr hbp
    refine (walk_ok (offCls w W1.heap.size (w.heap.size + 1 + 1) (w.heap.size + 1 + 1 + 1) (w.heap.size + 1) (.slice Ap pos.length capp) pos) w n _ W1 (0, false) _ HV.out HC.out ht ((Low.fresh (Touch.refl _ _) HF1.out)) HSL.out (fun g tg tv hg => offCls_good _ _ _ _ _ _ _ HL.out n HC.out g tg tv hg) (fun g tg w' h1 h2 _ _ hf => HOS.out g tg w' h1 h2 hf) trivial).mono ?_
    rintro _ w2 ⟨rfl, g, tg, S2, hg, hst, hlow, hmv⟩
    have hst' : OffSt w W1.heap.size (w.heap.size + 1 + 1) (w.heap.size + 1 + 1 + 1) (w.heap.size + 1) (.slice Ap pos.length capp) pos g tg (runRow (offC (offG (posIs pos))) (printT n) n.kids [] 0 0 (0, false)) S2 w2 := hst
    rw [(Tr.off_run (offG (posIs pos)) (printT n)).1, Tr.off_fold] at hst'
    have HF2 := hid (low_fresh hlow)
    cases hfd : (posRow (printT n) n.kids [] 0 0).find? fun x => posIs pos x.1 with
    | none =>
      rw [hfd] at hst'
      have HR := hid (show offR n pos = (0, 2) from by unfold offR; rw [if_pos HV.out, hfd])
      have r0 : w2.cell? ⟨w.heap.size + 1 + 1, 0, none⟩ = some (.int .i64 0) := hst'.res.cell 0
      have r1 : w2.cell? ⟨w.heap.size + 1 + 1 + 1, 0, none⟩ = some (.bool false) := hst'.found.cell 0
      clear hst' hst hmv hlow hfd
      go_wp2_with fail
      go_ret2
      exact ⟨by rw [HR.out]; rfl, HF2.out⟩
    | some x =>
      rw [hfd] at hst'
      have HR := hid (show offR n pos = (x.2, 0) from by unfold offR; rw [if_pos HV.out, hfd])
      have r0 : w2.cell? ⟨w.heap.size + 1 + 1, 0, none⟩ = some (.int .i64 (x.2 : Int)) := hst'.res.cell 0
      have r1 : w2.cell? ⟨w.heap.size + 1 + 1 + 1, 0, none⟩ = some (.bool true) := hst'.found.cell 0
      clear hst' hst hmv hlow hfd
      go_wp2_with fail
      go_ret2
      exact ⟨by rw [HR.out]; rfl, HF2.out⟩
end Go.Proofs.Ytdacpbdamliafaa

/- span.Items. -/
namespace Go.Proofs.Ytdacpbdamliafaa
open Go.RowKit
open Tr (Nd Clo runRow rowT itemsC spRow)
attribute [local go_sem] stillV stillUpon

abbrev Spn := List Nat × Nat × Nat
/-- A slice with its capacity. -/
def Roomy (v : Value) (n : Nat) : Prop := ∃ A cap, v = .slice A n cap ∧ n ≤ cap ∧ cap ≤ maxLen
theorem Roomy.own {w : World} {B n k : Nat} {e : TypeId} {v : Value} {cs : List Value} (h : w.ownsRow B e k v n cs) : Roomy v n := by
  rcases h.2 with ⟨h1, h2⟩ | ⟨b, cap, cur, h1, _, _, h2, h3, _⟩
  · exact ⟨none, 0, by rw [h1, h2], by omega, by decide⟩
  · exact ⟨_, cap, h1, h2, h3⟩
structure PathR (g : Nat) (S : Nat → Prop) (w : World) (v : Value) (p : List Nat) : Prop where
  path : PathIn g S w v p
  room : Roomy v p.length
theorem PathR.mv {g : Nat} {S S' : Nat → Prop} {w w' : World} {v : Value} {p : List Nat} (h : PathR g S w v p) (m : Mv g S S' w w') : PathR g S' w' v p := ⟨h.path.mv m, h.room⟩
/-- Numbers with their capacity. -/
structure IntsR (w : World) (v : Value) (l : List Int) : Prop where
  ints : Ints w v l
  room : Roomy v l.length
theorem PathR.ints {g : Nat} {S : Nat → Prop} {w : World} {v : Value} {p : List Nat} (h : PathR g S w v p) : IntsR w v (up p) := ⟨h.path.ints, by rw [List.length_map]; exact h.room⟩
theorem IntsR.fresh {w w' : World} {v : Value} {l : List Int} (h : IntsR w v l) (hf : Fresh w w') : IntsR w' v l := ⟨h.ints.fresh hf, h.room⟩
/-- The cells of spans; their paths lie in blocks that closures don't turn. -/
def SpansAt (g : Nat) (S : Nat → Prop) (w : World) : List Spn → List Value → Prop
  | [], cs => cs = []
  | x :: xs, cs => ∃ pv ds, cs = pv :: .int .i64 (x.2.1 : Int) :: .int .i64 (x.2.2 : Int) :: ds ∧ PathR g S w pv x.1 ∧ SpansAt g S w xs ds
theorem SpansAt.mv {g : Nat} {S S' : Nat → Prop} {w w' : World} (m : Mv g S S' w w') : ∀ {s : List Spn} {cs : List Value}, SpansAt g S w s cs → SpansAt g S' w' s cs
  | [], _, h => h
  | _ :: _, _, ⟨pv, ds, h, hp, hd⟩ => ⟨pv, ds, h, hp.mv m, hd.mv m⟩
theorem SpansAt.snoc {g : Nat} {S : Nat → Prop} {w : World} {x : Spn} {pv : Value} (hp : PathR g S w pv x.1) : ∀ {s : List Spn} {cs : List Value}, SpansAt g S w s cs → SpansAt g S w (s ++ [x]) (cs ++ [pv, .int .i64 (x.2.1 : Int), .int .i64 (x.2.2 : Int)])
  | [], cs, h => by rw [show cs = [] from h]; exact ⟨pv, [], rfl, hp, rfl⟩
  | y :: s, cs, ⟨qv, ds, h, hq, hd⟩ => by
    subst h
    exact ⟨qv, ds ++ _, rfl, hq, hd.snoc hp⟩
theorem SpansAt.length {g : Nat} {S : Nat → Prop} {w : World} : ∀ {s : List Spn} {cs : List Value}, SpansAt g S w s cs → cs.length = s.length * 3
  | [], cs, h => by rw [show cs = [] from h]; rfl
  | _ :: s, _, ⟨pv, ds, h, hp, hd⟩ => by
    have := hd.length
    rw [h]
    simp only [List.length_cons]
    omega
theorem SpansAt.set {g : Nat} {S : Nat → Prop} {w : World} (pl : Nat) : ∀ {s : List Spn} {cs : List Value} (q : Nat), q < s.length → SpansAt g S w s cs → SpansAt g S w (s.modify q fun x => (x.1, x.2.1, pl)) (cs.set (q * 3 + 2) (.int .i64 (pl : Int)))
  | [], _, q, hq, _ => by simp at hq
  | x :: s, cs, q, hq, ⟨pv, ds, h, hp, hd⟩ => by
    subst h
    cases q with
    | zero => exact ⟨pv, ds, rfl, hp, hd⟩
    | succ q =>
      refine ⟨pv, ds.set (q * 3 + 2) (.int .i64 (pl : Int)), ?_, hp, ?_⟩
      · rw [show (q + 1) * 3 + 2 = (q * 3 + 2) + 1 + 1 + 1 by omega]; rfl
      · exact hd.set pl q (by simpa using hq)
theorem PathR.one {g : Nat} {S : Nat → Prop} {w : World} {v : Value} {p : List Nat} (h : PathR g S w v p) : v.oneCell' = true := by
  obtain ⟨A, cap, rfl, _⟩ := h.room
  rfl
theorem SpansAt.oneCell {g : Nat} {S : Nat → Prop} {w : World} : ∀ {s : List Spn} {cs : List Value}, SpansAt g S w s cs → ∀ u ∈ cs, u.oneCell' = true
  | [], cs, h, u, hu => by rw [show cs = [] from h] at hu; cases hu
  | _ :: s, _, ⟨pv, ds, h, hp, hd⟩, u, hu => by
    rw [h] at hu
    rcases List.mem_cons.1 hu with rfl | hu
    · exact hp.one
    · rcases List.mem_cons.1 hu with rfl | hu
      · rfl
      · rcases List.mem_cons.1 hu with rfl | hu
        · rfl
        · exact hd.oneCell u hu
theorem infoSpan : (Try.prog.info? 43).map (fun i => (i.zero, i.size, i.bytes)) = some (some (.agg #[.slice none 0 0, .int .i64 0, .int .i64 0]), 3, 40) := by kernel_rfl

/-- What the closures of Items keep. -/
structure ItemsSt (W0 : World) (B sb : Nat) (g tg : Nat) (s : List Spn) (S : Nat → Prop) (w : World) : Prop where
  row : ∃ v cs, Blk w sb 39 #[v] ∧ w.ownsRow B 43 3 v s.length cs ∧ SpansAt g S w s cs ∧ (∀ b, S b ↔ b = sb ∨ v.ownBlock = some b) ∧ ∀ b, v.ownBlock = some b → b ≠ g ∧ b ≠ tg
  lo : W0.heap.size ≤ sb ∧ sb < B ∧ W0.heap.size ≤ B
  hg : B ≤ g
  htg : B ≤ tg
  glt : g < w.heap.size
  tlt : tg < w.heap.size
theorem ItemsSt.touch {W0 : World} {B sb g tg : Nat} {s : List Spn} {S : Nat → Prop} {w w' : World} (h : ItemsSt W0 B sb g tg s S w) (ht : Touch (fun b => b = g) w w') : ItemsSt W0 B sb g tg s S w' := by
  obtain ⟨v, cs, h1, h2, h3, h4, h5⟩ := h.row
  have := h.lo
  have := h.hg
  exact ⟨⟨v, cs, ht.blk h1 (fun e => by have : sb = g := e; omega), ownsRow_touch h2 ht (fun b hb => (h5 b hb).1), h3.mv ⟨ht.mono fun _ => .inr, fun _ h => .inl h⟩, h4, h5⟩, h.lo, h.hg, h.htg, Nat.lt_of_lt_of_le h.glt ht.size, Nat.lt_of_lt_of_le h.tlt ht.size⟩
theorem ItemsSt.slt {W0 : World} {B sb g tg : Nat} {s : List Spn} {S : Nat → Prop} {w : World} (h : ItemsSt W0 B sb g tg s S w) : ∀ b, S b → W0.heap.size ≤ b ∧ b < w.heap.size ∧ b ≠ g ∧ b ≠ tg := by
  obtain ⟨v, cs, h1, h2, h3, h4, h5⟩ := h.row
  have l1 := h.lo
  have l2 := h.hg
  have l3 := h.htg
  have l4 := h1.lt
  intro b hb
  rcases (h4 b).1 hb with rfl | hb
  · omega
  · have := h2.lt b hb
    have := h5 b hb
    omega

/-- What the closure at the end of an item needs. -/
def DnI (sb g : Nat) (q : Nat) (S : Nat → Prop) (w : World) (d : Nat) (cd : Array Value) : Prop :=
  ∃ ib, d = 30 ∧ cd = #[.pointer (some ⟨sb, 0, none⟩), .pointer (some ⟨ib, 0, none⟩)] ∧ Blk w ib 3 #[.int .i64 (q : Int)] ∧ ¬ S ib ∧ ib ≠ g
theorem DnI.mv {sb g q : Nat} {S S' : Nat → Prop} {w w' : World} {d : Nat} {cd : Array Value} (h : DnI sb g q S w d cd) (m : Mv g S S' w w') : DnI sb g q S' w' d cd := by
  obtain ⟨ib, h1, h2, h3, h4, h5⟩ := h
  obtain ⟨h6, h7⟩ := m.blk h3 h4 h5
  exact ⟨ib, h1, h2, h6, h7, h5⟩
theorem noOff_any (v : Value) (pl : Nat) (w : World) : Calls Try.prog 31 (#[v, .int .i64 (pl : Int)] ++ #[]) w fun e w' => e = .returned (.tuple #[]) ∧ w' = w := by
  have e : (#[v, .int .i64 (pl : Int)] ++ #[] : Array Value) = #[v, .int .i64 (pl : Int)] := by simp
  rw [e]
  go_enter Try.func31, Try.ntmps31
  go_wp2_with fail
  first | go_end0 | refine bodyPost_ret (v := .tuple #[]) (results_none rfl _ _ _) rfl ?_
  exact ⟨rfl, rfl⟩
theorem owns_slice {W : World} {B e size n : Nat} {v : Value} {xs : List Value} (h : W.ownsRow B e size v n xs) : ∃ A c, v = .slice A n c := by
  rcases h.2 with ⟨h1, h2⟩ | ⟨g, cap, cur, h1, _⟩
  · exact ⟨none, 0, by rw [h1, h2]⟩
  · exact ⟨_, _, h1⟩

set_option maxRecDepth 100000 in
set_option maxHeartbeats 2000000 in
theorem items1_any {W0 : World} {B sb g tg : Nat} {s : List Spn} {S : Nat → Prop} {w : World} (h : ItemsSt W0 B sb g tg s S w) {p : List Nat} {v : Value} (pl : Nat) (hp : PathIn g S w v p) (hpl : p.length ≤ 1000) (hlim : s.length + 1 ≤ 100000) :
    Calls Try.prog 29 (#[v, .int .i64 (pl : Int)] ++ #[.pointer (some ⟨sb, 0, none⟩)]) w
      fun e w' => ∃ d cd S', e = .returned (.func (.func d) #[] cd) ∧ ItemsSt W0 B sb g tg (s ++ [(p, pl, 0)]) S' w' ∧ Mc S S' w w' ∧ DnI sb g s.length S' w' d cd := by
  have e : (#[v, .int .i64 (pl : Int)] ++ #[.pointer (some ⟨sb, 0, none⟩)] : Array Value) = #[v, .int .i64 (pl : Int), .pointer (some ⟨sb, 0, none⟩)] := by simp
  rw [e]
  clear e
  obtain ⟨i, hi, hz0, hz1, hz2⟩ := info_parts infoSpan
  have hmf : ∀ (fn : Fn) (first cap : Array Value) (w : World), (Instr.makeFunc fn first cap).run Try.prog w = .ok (.func fn first cap) w := fun _ _ _ _ => rfl
  have HS := hid h
  obtain ⟨rv, cs, hb, ho, hcs, hS, hne⟩ := h.row
  obtain ⟨Ar, capr, rfl⟩ := owns_slice ho
  obtain ⟨Ap, capp, rfl⟩ := hp.slice
  have q0 : w.cell? ⟨sb, 0, none⟩ = some (.slice Ar s.length capr) := hb.cell 0
  have hsbw := hb.lt
  have HP := hid hp
  have HPL := hid hpl
  have HLIM := hid hlim
  have HSD := hid hS
  have HNE := hid hne
  have HB := hid hb
  have HO := hid ho
  have HCS := hid hcs
  clear h hp hpl hlim hS hne hb ho hcs
  go_enter Try.func29, Try.ntmps29
  go_wp2_with fail
  refine forget_world (fun W => Fresh w W ∧ Blk W w.heap.size 3 #[.int .i64 (s.length : Int)]) ⟨(Touch.refl _ _).alloc _, Blk.new _ _ _⟩ ?_
  rintro W1 ⟨hf1, hbi⟩
  have HF1 := hid hf1
  have HBI := hid hbi
  have hiw := hbi.lt
  have q1 := hf1.cell q0 (fun h => h)
  have HP1 := hid (HP.out.mv (Mv.fresh hf1))
  have g1 := cell_regrown q1
  clear q0 hf1 hbi
  refine wp_region_mix [([(0, true), (1, true), (3, true), (2, false), (4, true), (5, false)], 6), ([], 7)] [] (by kernel_rfl) (fun _ _ d _ _ h => by cases d <;> exact h) (by kernel_rfl) ?_
  refine wpMix_seg ?_
  repeat (refine wpSeq_plain rfl (fun K hK => ?_); go_simp; refine hK _ ?_; clear hK K)
  refine wpSeq_lone rfl (fun K hK => ?_)
  go_wp2_with fail
  refine (ints_any (up p) _ _ (HP1.out.ints.fresh (show Fresh W1 _ from (Touch.refl _ _).drewN _)) (by have := HPL.out; simp only [List.length_map]; omega)).mono ?_
  rintro _ W2 ⟨v2, rfl, ho2, hf2⟩
  have hS1 : ∀ b, S b → b < W1.heap.size := fun b hb => Nat.lt_of_lt_of_le (HS.out.slt b hb).2.1 HF1.out.size
  have HP2 := hid (show PathR g S W2 v2 p from ⟨PathIn.new (g := g) (S := S) (p := p) hS1 (Nat.lt_of_lt_of_le HS.out.glt HF1.out.size) ho2, by have := Roomy.own ho2; rw [List.length_map] at this; exact this⟩)
  obtain ⟨A2, cap2, rfl⟩ := HP2.out.path.slice
  have HF2 := hid (show Fresh W1 W2 from Touch.ofN hf2)
  clear ho2 hf2
  go_wp2_with fail
  refine hK _ _ (growing_fresh HF2.out) ?_
  clear hK K
  repeat (refine wpSeq_plain rfl (fun K hK => ?_); go_simp; refine hK _ ?_; clear hK K)
  refine wpSeq_lone rfl (fun K hK => ?_)
  go_wp2_with fail
  refine hK _ _ (growing_fresh (HF2.out.alloc _)) ?_
  clear hK K
  have HB3 := hid (show Blk (W2.alloc (.cells #[.slice A2 p.length cap2, .int .i64 (pl : Int), .int .i64 0] 43)) W2.heap.size 43 #[.slice A2 p.length cap2, .int .i64 (pl : Int), .int .i64 0] from Blk.new _ _ _)
  have HF3 := hid (show Fresh W2 (W2.alloc (.cells #[.slice A2 p.length cap2, .int .i64 (pl : Int), .int .i64 0] 43)) from (Touch.refl _ _).alloc _)
  generalize (W2.alloc (.cells #[.slice A2 p.length cap2, .int .i64 (pl : Int), .int .i64 0] 43)) = W3 at *
  have HO3 := hid (ownsRow_touch HO.out ((HF1.out.trans HF2.out).trans HF3.out) (fun _ _ h => h))
  refine wpSeq_shut rfl (fun K hK => ?_)
  go_wp2_with (at_builtin; refine wpList_append_src _ rfl (.tmp 9) (.tmp 14) 39 rfl B 43 i _ 3 40 rfl hi hz0 hz1 hz2 rfl (by decide) (.slice Ar s.length capr) s.length cs (by simp [Act.eval]) HO3.out (.slice (some ⟨W2.heap.size, 0, none⟩) 1 1) 1 [.slice A2 p.length cap2, .int .i64 (pl : Int), .int .i64 0] (by simp [Act.eval]) (Src.of_blk HB3.out rfl) (by intro u hu; simp at hu; rcases hu with rfl | rfl | rfl <;> rfl) (by have := HLIM.out; unfold maxLen; omega) (by have := HLIM.out; omega) (by have := HS.out.hg; have := HS.out.glt; have := ((HF1.out.trans HF2.out).trans HF3.out).size; omega) ?_; intro v4 W4 ho4 hg4 hv4; refine Stay.mk ?_)
  obtain ⟨A4, cap4, rfl⟩ := owns_slice ho4
  have HF03 := hid ((HF1.out.trans HF2.out).trans HF3.out)
  have HT34 := hid (show Touch (fun k => (Value.slice Ar s.length capr).ownBlock = some k) W3 W4 from (Touch.refl _ _).grown hg4 fun g h => .inl h)
  have hsb : ¬ (Value.slice Ar s.length capr).ownBlock = some sb := fun e => by have := (HO3.out.lt sb e).1; have := HS.out.lo; omega
  have HB4 := hid (HT34.out.blk (HF03.out.blk HB.out (fun h => h)) hsb)
  have HTS := hid (show Touch S w W4 from ((HF03.out.mono (fun _ h => h.elim)).trans' HT34.out fun k hk => .inl ((HSD.out k).2 (.inr hk))))
  have q4 : W4.cell? ⟨sb, 0, none⟩ = some (.slice Ar s.length capr) := HB4.out.cell 0
  have z4 : W4.frozen? ⟨sb, 0, none⟩ = false := HB4.out.frozen 0
  have HO4 := hid ho4
  have HV4 := hid hv4
  clear ho4 hg4 hv4 q1 g1 hsb
  refine Stay.go ?_
  go_wp2_with fail
  refine wpMix_seg ?_
  refine wpSeq_shut rfl (fun K hK => ?_)
  go_wp2_with fail
  refine wpMix_end ?_
  go_wp2_with fail
  go_ret
  have hl := HS.out.lo
  have hs4 : S sb := (HSD.out sb).2 (.inl rfl)
  have HTF : Touch S w (W4.setCell ⟨sb, 0, none⟩ (.slice A4 (s.length + 1) cap4)) := HTS.out.setCell (p := ⟨sb, 0, none⟩) (.inl hs4) _
  have hgr : ∀ b, (b = sb ∨ (Value.slice A4 (s.length + 1) cap4).ownBlock = some b) → S b ∨ W3.heap.size ≤ b := by
    rintro b (rfl | hb)
    · exact .inl hs4
    · rcases HV4.out with e | e
      · exact .inl ((HSD.out b).2 (.inr (by rw [← e]; exact hb)))
      · rw [e] at hb
        exact .inr (by simp only [Option.some.injEq] at hb; omega)
  have ht3 : Touch S W3 (W4.setCell ⟨sb, 0, none⟩ (.slice A4 (s.length + 1) cap4)) := (HT34.out.mono fun k hk => (HSD.out k).2 (.inr hk)).setCell (p := ⟨sb, 0, none⟩) (.inl hs4) _
  have hm3 : Mv g S (fun b => b = sb ∨ (Value.slice A4 (s.length + 1) cap4).ownBlock = some b) W3 (W4.setCell ⟨sb, 0, none⟩ (.slice A4 (s.length + 1) cap4)) := ⟨ht3.mono fun _ => .inl, hgr⟩
  have h03 : Mv g S S w W3 := Mv.fresh HF03.out
  have hszs : W3.heap.size ≤ (W4.setCell ⟨sb, 0, none⟩ (.slice A4 (s.length + 1) cap4)).heap.size := ht3.size
  have hglt := HS.out.glt
  have htlt := HS.out.tlt
  have hws := HF03.out.size
  refine ⟨_, _, fun b => b = sb ∨ (Value.slice A4 (s.length + 1) cap4).ownBlock = some b, rfl, ⟨⟨.slice A4 (s.length + 1) cap4, cs ++ [.slice A2 p.length cap2, .int .i64 (pl : Int), .int .i64 0], HB4.out.put 0 _, ?_, ?_, fun _ => Iff.rfl, ?_⟩, HS.out.lo, HS.out.hg, HS.out.htg, by omega, by omega⟩, ⟨HTF, fun b hb => (hgr b hb).imp id (fun h => by omega)⟩, ⟨w.heap.size, rfl, rfl, ?_⟩⟩
  · rw [List.length_append]
    exact ownsRow_touch HO4.out ((Touch.refl (fun b => b = sb) W4).setCell (p := ⟨sb, 0, none⟩) (.inl rfl) _) fun k hk e => by
      have h1 := (HO4.out.lt k hk).1
      have : k = sb := e
      omega
  · exact ((HCS.out.mv h03).mv hm3).snoc (x := (p, pl, 0)) ((HP2.out.mv (Mv.fresh HF3.out)).mv hm3)
  · intro b hb
    rcases HV4.out with e | e
    · exact HNE.out b (by rw [← e]; exact hb)
    · rw [e] at hb
      simp only [Option.some.injEq] at hb
      omega
  · have hwS : ¬ S w.heap.size := fun e => by have := (HS.out.slt _ e).2.1; omega
    obtain ⟨b1, b2⟩ := Mv.blk ((Mv.fresh (HF2.out.trans HF3.out)).trans hm3) HBI.out hwS (by omega)
    exact ⟨b1, b2, by omega⟩

set_option maxRecDepth 100000 in
set_option maxHeartbeats 1000000 in
theorem items11_any {W0 : World} {B sb g tg : Nat} {s : List Spn} {S : Nat → Prop} {w : World} (h : ItemsSt W0 B sb g tg s S w) (q d : Nat) (cd : Array Value) (pl : Nat) (hd : DnI sb g q S w d cd) (hq : q < s.length) (hlim : s.length ≤ 100000) :
    Calls Try.prog d (#[.int .i64 (pl : Int)] ++ cd) w
      fun e w' => e = .returned (.tuple #[]) ∧ ∃ S', ItemsSt W0 B sb g tg (s.modify q fun x => (x.1, x.2.1, pl)) S' w' ∧ Mc S S' w w' := by
  obtain ⟨ib, rfl, rfl, hbi, hib, hig⟩ := hd
  have e : (#[.int .i64 (pl : Int)] ++ #[.pointer (some ⟨sb, 0, none⟩), .pointer (some ⟨ib, 0, none⟩)] : Array Value) = #[.int .i64 (pl : Int), .pointer (some ⟨sb, 0, none⟩), .pointer (some ⟨ib, 0, none⟩)] := by simp
  rw [e]
  clear e
  have HS := hid h
  obtain ⟨rv, cs, hb, ho, hcs, hS, hne⟩ := h.row
  obtain ⟨g', cap, hv, hBg⟩ : ∃ g' cap, rv = .slice (some ⟨g', 0, none⟩) s.length cap ∧ B ≤ g' := by
    rcases ho.2 with ⟨_, h2⟩ | ⟨g', cap, cur, h1, h2, _⟩
    · omega
    · exact ⟨g', cap, h1, h2⟩
  subst hv
  have hlen := hcs.length
  have HST := hid (ho.stored (q * 3 + 2) (.int .i64 (pl : Int)))
  have q0 : w.cell? ⟨sb, 0, none⟩ = some (.slice (some ⟨g', 0, none⟩) s.length cap) := hb.cell 0
  have q1 : w.cell? ⟨ib, 0, none⟩ = some (.int .i64 (q : Int)) := hbi.cell 0
  have z2 := ho.frozenAt (q * 3 + 2)
  have q2 : ∃ x, w.cell? ⟨g', q * 3 + 2, none⟩ = some x := by
    rw [ho.cellAt (q * 3 + 2) (by omega), List.getElem?_eq_getElem (by omega)]
    exact ⟨_, rfl⟩
  obtain ⟨x2, q2⟩ := q2
  have hqi : (q : Int) < (s.length : Int) := by omega
  have HB := hid hb
  have HCS := hid hcs
  have HSD := hid hS
  have HNE := hid hne
  have HQ := hid hq
  have hl := HS.out.lo
  clear h hb ho hcs hS hne hbi hib hig
  go_enter Try.func30, Try.ntmps30
  go_wp2_with fail
  first | go_end0 | refine bodyPost_ret (v := .tuple #[]) (results_none rfl _ _ _) rfl ?_
  have ht : Touch S w (w.setCell ⟨g', q * 3 + 2, none⟩ (.int .i64 (pl : Int))) := (Touch.refl S w).setCell (p := ⟨g', q * 3 + 2, none⟩) (.inl ((HSD.out g').2 (.inr rfl))) _
  have hm : Mv g S S w (w.setCell ⟨g', q * 3 + 2, none⟩ (.int .i64 (pl : Int))) := ⟨ht.mono fun _ => .inl, fun _ h => .inl h⟩
  refine ⟨rfl, S, ⟨⟨.slice (some ⟨g', 0, none⟩) s.length cap, _, HB.out.far (p := ⟨g', q * 3 + 2, none⟩) (by show sb ≠ g'; omega) _, ?_, (HCS.out.mv hm).set pl q HQ.out, HSD.out, HNE.out⟩, HS.out.lo, HS.out.hg, HS.out.htg, Nat.lt_of_lt_of_le HS.out.glt ht.size, Nat.lt_of_lt_of_le HS.out.tlt ht.size⟩, ⟨ht, fun _ h => .inl h⟩⟩
  rw [List.length_modify]
  exact HST.out.1

/-- The closures of Items. -/
def itemsCls (W0 : World) (B sb : Nat) : Cls (List Spn) Nat :=
  ⟨itemsC, 29, #[.pointer (some ⟨sb, 0, none⟩)], 31, #[], ItemsSt W0 B sb, fun g _ => DnI sb g, fun s => s.length ≤ 100000, fun q s => q < s.length⟩
set_option maxRecDepth 100000 in
theorem itemsCls_good (W0 : World) (B sb : Nat) (n : Nd) (hc : Tr.count n ≤ 800) (g tg : Nat) (tv : Value) (hg : W0.heap.size ≤ g) : ((itemsCls W0 B sb).wk W0 g tg tv (printT n)).Good where
  len := printT_len_le n hc
  place := printT_place n hc
  far := hg
  lt := fun s S w b h hb => (show ItemsSt W0 B sb g tg s S w from h).slt b hb
  stmv := fun s S w w' h ht => (show ItemsSt W0 B sb g tg s S w from h).touch ht
  dnmv := fun q S S' w w' d cd h m => (show DnI sb g q S w d cd from h).mv m
  off := fun s S w p v pl h _ _ _ _ => (noOff_any v pl w).mono fun e w' ⟨he, hw⟩ => by subst hw; exact ⟨he, S, h, Mc.refl _ _⟩
  item := fun s S w p v pl h hp hpl _ hl => items1_any h pl hp hpl (by
    have : (s ++ [(p, pl, 0)]).length ≤ 100000 := hl
    simpa using this)
  done := fun s S w q d cd pl h hd hq _ hl => items11_any h q d cd pl hd hq (by
    have : (s.modify q fun x => (x.1, x.2.1, pl)).length ≤ 100000 := hl
    simpa using this)
  kp0 := fun s p pl => by show s.length < (s ++ [(p, pl, 0)]).length; simp
  kpo := fun _ _ _ _ h => h
  kpi := fun q s p pl h => by
    have h' : q < s.length := h
    show q < (s ++ [(p, pl, 0)]).length
    simp; omega
  kpd := fun q s q' pl h => by
    have h' : q < s.length := h
    show q < (s.modify q' fun x => (x.1, x.2.1, pl)).length
    simpa using h'
  limo := fun _ _ _ h => h
  limi := fun s p pl h => by
    have h' : (s ++ [(p, pl, 0)]).length ≤ 100000 := h
    show s.length ≤ 100000
    simp at h'; omega
  limd := fun s q pl h => by
    have h' : (s.modify q fun x => (x.1, x.2.1, pl)).length ≤ 100000 := h
    show s.length ≤ 100000
    simpa using h'
  callo := fun _ _ => by kernel_rfl
  calli := fun _ _ => by kernel_rfl
  calld := fun q S w d cd hd => by
    obtain ⟨ib, rfl, rfl, _⟩ := hd
    exact fun _ _ => by kernel_rfl

/-- The spans of a tree's items. -/
def spansOf (n : Nd) : List Spn := if Tr.valid n then spRow (printT n) n.kids [] 0 0 else []
/-- The cells of spans. -/
def SpnAt (w : World) : List Spn → List Value → Prop
  | [], cs => cs = []
  | x :: xs, cs => ∃ pv ds, cs = pv :: .int .i64 (x.2.1 : Int) :: .int .i64 (x.2.2 : Int) :: ds ∧ IntsR w pv (up x.1) ∧ SpnAt w xs ds
theorem SpansAt.spn {g : Nat} {S : Nat → Prop} {w : World} : ∀ {s : List Spn} {cs : List Value}, SpansAt g S w s cs → SpnAt w s cs
  | [], _, h => h
  | _ :: _, _, ⟨pv, ds, h, hp, hd⟩ => ⟨pv, ds, h, hp.ints, hd.spn⟩
theorem SpnAt.fresh {w w' : World} (hf : Fresh w w') : ∀ {s : List Spn} {cs : List Value}, SpnAt w s cs → SpnAt w' s cs
  | [], _, h => h
  | _ :: _, _, ⟨pv, ds, h, hp, hd⟩ => ⟨pv, ds, h, hp.fresh hf, hd.fresh hf⟩
theorem SpnAt.get {w : World} : ∀ {s : List Spn} {cs : List Value}, SpnAt w s cs → ∀ i (hi : i < s.length), ∃ pv, cs[i * 3]? = some pv ∧ cs[i * 3 + 1]? = some (.int .i64 (s[i].2.1 : Int)) ∧ cs[i * 3 + 2]? = some (.int .i64 (s[i].2.2 : Int)) ∧ IntsR w pv (up s[i].1)
  | [], _, _, i, hi => by simp at hi
  | x :: s, cs, ⟨pv, ds, h, hp, hd⟩, i, hi => by
    subst h
    cases i with
    | zero => exact ⟨pv, rfl, rfl, rfl, hp⟩
    | succ i =>
      obtain ⟨qv, h1, h2, h3, h4⟩ := hd.get i (by simpa using hi)
      refine ⟨qv, ?_, ?_, ?_, h4⟩
      · rw [show (i + 1) * 3 = i * 3 + 3 by omega]; exact h1
      · rw [show (i + 1) * 3 + 1 = i * 3 + 1 + 3 by omega]; exact h2
      · rw [show (i + 1) * 3 + 2 = i * 3 + 2 + 3 by omega]; exact h3
def ItemsOf (n : Nd) (w : World) (e : Ending) (w' : World) : Prop := ∃ v cs, e = .returned (.tuple #[v, .int .i64 (printE n)]) ∧ w'.ownsRow w.heap.size 43 3 v (spansOf n).length cs ∧ SpnAt w' (spansOf n) cs ∧ Fresh w w'

theorem sp_count (T : List Lx.PTok) : (∀ ks p i f, (spRow T ks p i f).length ≤ Tr.countL ks) ∧ ∀ l p j f, (Tr.spSegs T l p j f).length ≤ Tr.countL (Tr.rowsOf l) := by
  refine Tr.rows_ind (P := fun ks => ∀ p i f, (spRow T ks p i f).length ≤ Tr.countL ks) (Q := fun l => ∀ p j f, (Tr.spSegs T l p j f).length ≤ Tr.countL (Tr.rowsOf l)) ?_ ?_ ?_ ?_
  · intro p i f; rw [spRow]; simp
  · intro n ns h1 h2 p i f
    rw [spRow, Tr.countL, Tr.count_kids]
    have h3 := h1 (p ++ [i]) 0 f
    have h4 := h2 p (i + 1) (f + (Tr.itemT n).length)
    rw [Tr.segs_rows] at h3
    simp only [List.length_cons, List.length_append]
    omega
  · intro p j f; rw [Tr.spSegs]; simp
  · intro k b a r h1 h2 p j f
    rw [Tr.spSegs, List.length_append]
    have h3 := h1 (p ++ [j]) 0 (f + k + b.toNat)
    have h4 := h2 p (j + 1) (f + Tr.segLen (k, b, a))
    have h5 : Tr.rowsOf ((k, b, a) :: r) = a :: Tr.rowsOf r := rfl
    rw [h5, Tr.countL, Tr.count_kids]
    omega
theorem spans_few (n : Nd) (hc : Tr.count n ≤ 800) : (spansOf n).length ≤ 800 := by
  unfold spansOf
  split
  · have h1 := (sp_count (printT n)).1 n.kids [] 0 0
    have h2 := Tr.count_kids n
    omega
  · simp

set_option maxRecDepth 100000 in
set_option maxHeartbeats 2000000 in
theorem items_any (n : Nd) (sl : Value) (w : World) (hsl : RepL w n.kids sl) (ht : n.text.length ≤ maxLen) (hc : Tr.count n ≤ 800) :
    Calls Try.prog 12 #[nv n sl] w (ItemsOf n w) := by
  obtain ⟨A, cap, rfl⟩ := hsl.slice
  have HSL := hid hsl
  have HC := hid hc
  clear hsl hc
  have hmf : ∀ (fn : Fn) (first cap : Array Value) (w : World), (Instr.makeFunc fn first cap).run Try.prog w = .ok (.func fn first cap) w := fun _ _ _ _ => rfl
  cases hv : Tr.valid n with
  | false =>
    have HE := hid (show printE n = 1 from by unfold printE; rw [hv]; rfl)
    have HN := hid (show spansOf n = [] from by unfold spansOf; rw [hv]; rfl)
    have HV := hid hv
    clear hv
    go_enter Try.func12, Try.ntmps12
    go_wp2_with fail
    refine (walk_err n _ 29 31 _ #[] _ (HSL.out.fresh (((Touch.refl _ _).alloc _).alloc _)) ht HC.out HV.out).mono ?_
    rintro _ w2 ⟨rfl, hf⟩
    have HF2 := hid (show Fresh w w2 from Touch.pre (Touch.pre hf))
    clear hf
    go_wp2_with fail
    go_ret2
    exact ⟨.slice none 0 0, [], by rw [HE.out]; rfl, by rw [HN.out]; exact World.ownsRow_nil _ _ _ _, by rw [HN.out]; rfl, HF2.out⟩
  | true =>
    have HE := hid (show printE n = 0 from by unfold printE; rw [hv]; rfl)
    have HN := hid (show spansOf n = spRow (printT n) n.kids [] 0 0 from by unfold spansOf; rw [hv]; rfl)
    have HFEW := hid (spans_few n HC.out)
    have HV := hid hv
    clear hv
    go_enter Try.func12, Try.ntmps12
    go_wp2_with fail
    have hf1 : Fresh w ((w.alloc (.cells #[.int .i64 n.kind, .string ⟨n.text.toArray⟩, .int .i64 n.cols, .slice A n.kids.length cap] 24)).alloc (.cells #[.slice none 0 0] 39)) := ((Touch.refl _ _).alloc _).alloc _
    have hb1 : Blk ((w.alloc (.cells #[.int .i64 n.kind, .string ⟨n.text.toArray⟩, .int .i64 n.cols, .slice A n.kids.length cap] 24)).alloc (.cells #[.slice none 0 0] 39)) (w.heap.size + 1) 39 #[.slice none 0 0] := Blk.new2 _ _ _ _
    generalize ((w.alloc (.cells #[.int .i64 n.kind, .string ⟨n.text.toArray⟩, .int .i64 n.cols, .slice A n.kids.length cap] 24)).alloc (.cells #[.slice none 0 0] 39)) = W1 at hf1 hb1 ⊢
    have HF1 := hid hf1
    have HIS := hid (fun (g tg : Nat) (w' : World) (h1 : W1.heap.size ≤ g) (h2 : W1.heap.size ≤ tg) (h3 : g < w'.heap.size) (h4 : tg < w'.heap.size) (hf : Fresh W1 w') => (show ItemsSt w W1.heap.size (w.heap.size + 1) g tg [] (fun b => b = w.heap.size + 1) w' from
      ⟨⟨_, [], hf.blk hb1 (fun h => h), World.ownsRow_nil _ _ _ _, rfl, fun b => ⟨.inl, fun h => h.elim id fun h => by cases h⟩, fun b h => by cases h⟩, by have := hb1.lt; refine ⟨?_, ?_, ?_⟩ <;> omega, h1, h2, h3, h4⟩))
    clear hf1 hb1
    refine (walk_ok (itemsCls w W1.heap.size (w.heap.size + 1)) w n _ W1 [] _ HV.out HC.out ht ((Low.fresh (Touch.refl _ _) HF1.out)) HSL.out (fun g tg tv hg => itemsCls_good _ _ _ n HC.out g tg tv hg) (fun g tg w' h1 h2 h3 h4 hf => HIS.out g tg w' h1 h2 h3 h4 hf)
      (by show (runRow itemsC (printT n) n.kids [] 0 0 []).length ≤ 100000; rw [(Tr.items_run (printT n)).1, List.nil_append, ← HN.out]; have := HFEW.out; omega)).mono ?_
    rintro _ w2 ⟨rfl, g, tg, S2, hg, hst, hlow, hmv⟩
    have hst' : ItemsSt w W1.heap.size (w.heap.size + 1) g tg (runRow itemsC (printT n) n.kids [] 0 0 []) S2 w2 := hst
    rw [(Tr.items_run (printT n)).1, List.nil_append, ← HN.out] at hst'
    have HF2 := hid (low_fresh hlow)
    obtain ⟨v, cs, hb, ho, hcs, _, _⟩ := hst'.row
    have HO := hid (ownsRow_low ho (show w.heap.size ≤ W1.heap.size from HF1.out.size))
    have HCS := hid hcs.spn
    obtain ⟨Av, capv, rfl⟩ := owns_slice ho
    have q0 : w2.cell? ⟨w.heap.size + 1, 0, none⟩ = some (.slice Av (spansOf n).length capv) := hb.cell 0
    clear hst hst' hlow hmv hb ho hcs
    go_wp2_with fail
    go_ret2
    exact ⟨_, cs, by rw [HE.out]; rfl, HO.out, HCS.out, HF2.out⟩
end Go.Proofs.Ytdacpbdamliafaa

/- span.At. -/
namespace Go.Proofs.Ytdacpbdamliafaa
open Go.RowKit
open Tr (Nd Clo runRow rowT offC atG posRow)

theorem cmpI_up : ∀ p q : List Nat, cmpI (up p) (up q) = Tr.cmp p q
  | [], [] => rfl
  | [], _ :: _ => rfl
  | _ :: _, [] => rfl
  | a :: p, b :: q => by
    simp only [List.map_cons, cmpI, Tr.cmp]
    by_cases h1 : a < b
    · rw [if_pos (by omega), if_pos h1]
    · rw [if_neg (by omega), if_neg h1]
      by_cases h2 : b < a
      · rw [if_pos (by omega), if_pos h2]
      · rw [if_neg (by omega), if_neg h2]
        exact cmpI_up p q

/-- What At's closure knows: the best position and its place. -/
structure AtSt (W0 : World) (B mb bb ob : Nat) (k : Int) (g tg : Nat) (s : List Nat × Int) (S : Nat → Prop) (w : World) : Prop where
  own : ∀ b, S b ↔ b = mb ∨ b = bb
  most : Blk w mb 3 #[.int .i64 s.2]
  best : ∃ bv, Blk w bb 31 #[bv] ∧ PathIn g S w bv s.1 ∧ s.1.length ≤ 1000
  offc : w.cell? ⟨ob, 0, none⟩ = some (.int .i64 k)
  lo : W0.heap.size ≤ mb ∧ W0.heap.size ≤ bb ∧ mb < B ∧ bb < B ∧ ob < B ∧ mb ≠ bb ∧ ob ≠ mb ∧ ob ≠ bb ∧ W0.heap.size ≤ B
  hg : B ≤ g
  htg : B ≤ tg
  glt : g < w.heap.size
theorem AtSt.touch {W0 : World} {B mb bb ob : Nat} {k : Int} {g tg : Nat} {s : List Nat × Int} {S : Nat → Prop} {w w' : World} (h : AtSt W0 B mb bb ob k g tg s S w) (ht : Touch (fun b => b = g) w w') : AtSt W0 B mb bb ob k g tg s S w' := by
  obtain ⟨h1, h2, h3, h4, h5, h6, h7⟩ := h.lo
  have hg := h.hg
  obtain ⟨bv, hb, hp, hl⟩ := h.best
  exact ⟨h.own, ht.blk h.most fun e => by have : mb = g := e; omega, ⟨bv, ht.blk hb fun e => by have : bb = g := e; omega, hp.mv ⟨ht.mono fun _ => .inr, fun _ h => .inl h⟩, hl⟩, ht.cell h.offc fun e => by have : ob = g := e; omega, h.lo, h.hg, h.htg, Nat.lt_of_lt_of_le h.glt ht.size⟩
/-- The closure keeps another position. -/
theorem AtSt.put {W0 : World} {B mb bb ob : Nat} {k : Int} {g tg : Nat} {s : List Nat × Int} {S : Nat → Prop} {w w1 : World} (h : AtSt W0 B mb bb ob k g tg s S w) (hf : Fresh w w1) {v : Value} {p : List Nat} (hl : p.length ≤ 1000) (hr : w1.ownsRow w.heap.size 3 1 v (up p).length (intVs (up p))) (pl : Int) :
    AtSt W0 B mb bb ob k g tg (p, pl) S ((w1.setCell ⟨bb, 0, none⟩ v).setCell ⟨mb, 0, none⟩ (.int .i64 pl)) ∧ Mc S S w ((w1.setCell ⟨bb, 0, none⟩ v).setCell ⟨mb, 0, none⟩ (.int .i64 pl)) := by
  obtain ⟨l1, l2, l3, l4, l5, l6, l7, l8, l9⟩ := h.lo
  have hS : ∀ b, S b → b < w.heap.size := fun b hb => by
    have h1 := h.most.lt
    obtain ⟨bv, h2, _⟩ := h.best
    have h2 := h2.lt
    rcases (h.own b).1 hb with rfl | rfl <;> assumption
  have ht : Touch S w1 ((w1.setCell ⟨bb, 0, none⟩ v).setCell ⟨mb, 0, none⟩ (.int .i64 pl)) := ((Touch.refl S w1).setCell (p := ⟨bb, 0, none⟩) (.inl ((h.own bb).2 (.inr rfl))) _).setCell (p := ⟨mb, 0, none⟩) (.inl ((h.own mb).2 (.inl rfl))) _
  have hp := PathIn.new (g := g) (S := S) (p := p) hS h.glt hr
  obtain ⟨bv, hb, _, _⟩ := h.best
  have hm1 : Mv g S S w1 ((w1.setCell ⟨bb, 0, none⟩ v).setCell ⟨mb, 0, none⟩ (.int .i64 pl)) := ⟨ht.mono fun _ => .inl, fun _ h => .inl h⟩
  refine ⟨⟨h.own, ((hf.blk h.most (fun h => h)).far (p := ⟨bb, 0, none⟩) l6 _).put 0 _, ⟨v, ((hf.blk hb (fun h => h)).put 0 _).far (p := ⟨mb, 0, none⟩) (Ne.symm l6) _, hp.mv hm1, hl⟩, ht.cell (hf.cell h.offc (fun h => h)) fun e => ((h.own _).1 e).elim l7 l8, h.lo, h.hg, h.htg, Nat.lt_of_lt_of_le h.glt (Nat.le_trans hf.size ht.size)⟩, ⟨(hf.mono fun _ h => h.elim).trans ht, fun _ h => .inl h⟩⟩

set_option maxRecDepth 100000 in
set_option maxHeartbeats 2000000 in
theorem at1_any {W0 : World} {B mb bb ob : Nat} {k : Int} {g tg : Nat} {s : List Nat × Int} {S : Nat → Prop} {w : World} (h : AtSt W0 B mb bb ob k g tg s S w) {p : List Nat} {v : Value} (pl : Nat) (hp : PathIn g S w v p) (hpl : p.length ≤ 1000) :
    Calls Try.prog 23 (#[v, .int .i64 (pl : Int)] ++ #[.pointer (some ⟨ob, 0, none⟩), .pointer (some ⟨mb, 0, none⟩), .pointer (some ⟨bb, 0, none⟩)]) w
      fun e w' => e = .returned (.tuple #[]) ∧ ∃ S', AtSt W0 B mb bb ob k g tg (atG k s p pl) S' w' ∧ Mc S S' w w' := by
  have e : (#[v, .int .i64 (pl : Int)] ++ #[.pointer (some ⟨ob, 0, none⟩), .pointer (some ⟨mb, 0, none⟩), .pointer (some ⟨bb, 0, none⟩)] : Array Value) = #[v, .int .i64 (pl : Int), .pointer (some ⟨ob, 0, none⟩), .pointer (some ⟨mb, 0, none⟩), .pointer (some ⟨bb, 0, none⟩)] := by simp
  rw [e]
  clear e
  obtain ⟨best, most⟩ := s
  have HS := hid h
  obtain ⟨bv, hbb, hbp, hbl⟩ := h.best
  obtain ⟨Ab, capb, rfl⟩ := hbp.slice
  have q0 : w.cell? ⟨mb, 0, none⟩ = some (.int .i64 most) := h.most.cell 0
  have z0 : w.frozen? ⟨mb, 0, none⟩ = false := h.most.frozen 0
  have q1 : w.cell? ⟨bb, 0, none⟩ = some (.slice Ab best.length capb) := hbb.cell 0
  have z1 : w.frozen? ⟨bb, 0, none⟩ = false := hbb.frozen 0
  have q2 := h.offc
  obtain ⟨_, _, _, _, _, hne, _⟩ := h.lo
  have HP := hid hp
  have HPL := hid hpl
  have HBP := hid hbp
  have HBL := hid hbl
  obtain ⟨Ap, capp, rfl⟩ := hp.slice
  have hput : ∀ (W1 : World) (v' : Value), Fresh w W1 → W1.ownsRow w.heap.size 3 1 v' (up p).length (intVs (up p)) → AtSt W0 B mb bb ob k g tg (p, (pl : Int)) S ((W1.setCell ⟨bb, 0, none⟩ v').setCell ⟨mb, 0, none⟩ (.int .i64 (pl : Int))) ∧ Mc S S w ((W1.setCell ⟨bb, 0, none⟩ v').setCell ⟨mb, 0, none⟩ (.int .i64 (pl : Int))) := fun W1 v' hf hr => h.put hf hpl hr (pl : Int)
  have HPUT := hid hput
  have h1 := h.most.lt
  have h2 := hbb.lt
  clear h hp hpl hbb hbp hbl hput
  by_cases c1 : k < (pl : Int)
  · have b1 : decide (k < (pl : Int)) = true := by simp [c1]
    have HR := hid (show atG k (best, most) p pl = (best, most) from by unfold atG; rw [if_pos (.inl c1)])
    go_enter Try.func23, Try.ntmps23
    go_wp2_with fail
    first | go_end0 | refine bodyPost_ret (v := .tuple #[]) (results_none rfl _ _ _) rfl ?_
    exact ⟨rfl, S, by rw [HR.out]; exact HS.out, Mc.refl _ _⟩
  · have b1 : decide (k < (pl : Int)) = false := by simp; omega
    by_cases c2 : (pl : Int) < most
    · have b2 : decide ((pl : Int) < most) = true := by simp [c2]
      have HR := hid (show atG k (best, most) p pl = (best, most) from by unfold atG; rw [if_pos (.inr c2)])
      go_enter Try.func23, Try.ntmps23
      go_wp2_with fail
      first | go_end0 | refine bodyPost_ret (v := .tuple #[]) (results_none rfl _ _ _) rfl ?_
      exact ⟨rfl, S, by rw [HR.out]; exact HS.out, Mc.refl _ _⟩
    · have b2 : decide ((pl : Int) < most) = false := by simp; omega
      by_cases c3 : most < (pl : Int)
      · have b3 : decide (most < (pl : Int)) = true := by simp [c3]
        have HR := hid (show atG k (best, most) p pl = (p, (pl : Int)) from by unfold atG; rw [if_neg (by simp; omega), if_pos (.inl c3)])
        go_enter Try.func23, Try.ntmps23
        go_wp2_with fail
        refine (ints_any (up p) _ _ HP.out.ints (by have := HPL.out; simp only [List.length_map]; omega)).mono ?_
        rintro _ w1 ⟨v', rfl, ho, hf⟩
        have HX := hid (HPUT.out w1 v' hf ho)
        have q0' := hf.cell q0 (fun h => h)
        have q1' := hf.cell q1 (fun h => h)
        have z0' := (hf.frozen (p := ⟨mb, 0, none⟩) h1 (fun h => h)).trans z0
        have z1' := (hf.frozen (p := ⟨bb, 0, none⟩) h2 (fun h => h)).trans z1
        obtain ⟨Av, capv, rfl⟩ : ∃ A c, v' = .slice A (up p).length c := (Ints.own ho).slice
        clear q0 q1 q2 z0 z1 ho hf
        go_wp2_with fail
        first | go_end0 | refine bodyPost_ret (v := .tuple #[]) (results_none rfl _ _ _) rfl ?_
        exact ⟨rfl, S, by rw [HR.out]; have := HX.out.1; rw [List.length_map] at this; exact this, by have := HX.out.2; rw [List.length_map] at this; exact this⟩
      · have b3 : decide (most < (pl : Int)) = false := by simp; omega
        by_cases c4 : Tr.cmp p best < 0
        · have HR := hid (show atG k (best, most) p pl = (p, (pl : Int)) from by unfold atG; rw [if_neg (by simp; omega), if_pos (.inr c4)])
          have b4 : decide (Tr.cmp p best < 0) = true := by simp [c4]
          go_enter Try.func23, Try.ntmps23
          go_wp2_with fail
          refine (pcompare_ints (up p) (up best) _ _ _ HP.out.ints HBP.out.ints (by have := HPL.out; simp only [List.length_map]; unfold maxLen; omega) (by have := HBL.out; simp only [List.length_map]; unfold maxLen; omega)).mono ?_
          rw [cmpI_up]
          rintro _ w0 ⟨rfl, hf0⟩
          have HF0 := hid hf0
          have HP0 := hid (HP.out.mv (Mv.fresh hf0))
          have q0' := hf0.cell q0 (fun h => h)
          have q1' := hf0.cell q1 (fun h => h)
          have z0' := (hf0.frozen (p := ⟨mb, 0, none⟩) h1 (fun h => h)).trans z0
          have z1' := (hf0.frozen (p := ⟨bb, 0, none⟩) h2 (fun h => h)).trans z1
          have h1' := Nat.lt_of_lt_of_le h1 hf0.size
          have h2' := Nat.lt_of_lt_of_le h2 hf0.size
          clear q0 q1 q2 z0 z1 hf0
          go_wp2_with fail
          refine (ints_any (up p) _ _ HP0.out.ints (by have := HPL.out; simp only [List.length_map]; omega)).mono ?_
          rintro _ w1 ⟨v', rfl, ho, hf⟩
          have HX := hid (HPUT.out w1 v' (HF0.out.trans hf) (ownsRow_low ho HF0.out.size))
          have q0'' := hf.cell q0' (fun h => h)
          have q1'' := hf.cell q1' (fun h => h)
          have z0'' := (hf.frozen (p := ⟨mb, 0, none⟩) h1' (fun h => h)).trans z0'
          have z1'' := (hf.frozen (p := ⟨bb, 0, none⟩) h2' (fun h => h)).trans z1'
          obtain ⟨Av, capv, rfl⟩ : ∃ A c, v' = .slice A (up p).length c := (Ints.own ho).slice
          clear q0' q1' z0' z1' ho hf
          go_wp2_with fail
          first | go_end0 | refine bodyPost_ret (v := .tuple #[]) (results_none rfl _ _ _) rfl ?_
          exact ⟨rfl, S, by rw [HR.out]; have := HX.out.1; rw [List.length_map] at this; exact this, by have := HX.out.2; rw [List.length_map] at this; exact this⟩
        · have HR := hid (show atG k (best, most) p pl = (best, most) from by unfold atG; rw [if_neg (by simp; omega), if_neg (by simp; omega)])
          have b4 : decide (Tr.cmp p best < 0) = false := by simp; omega
          go_enter Try.func23, Try.ntmps23
          go_wp2_with fail
          refine (pcompare_ints (up p) (up best) _ _ _ HP.out.ints HBP.out.ints (by have := HPL.out; simp only [List.length_map]; unfold maxLen; omega) (by have := HBL.out; simp only [List.length_map]; unfold maxLen; omega)).mono ?_
          rw [cmpI_up]
          rintro _ w0 ⟨rfl, hf0⟩
          have HF0 := hid hf0
          clear hf0
          go_wp2_with fail
          first | go_end0 | refine bodyPost_ret (v := .tuple #[]) (results_none rfl _ _ _) rfl ?_
          exact ⟨rfl, S, by rw [HR.out]; exact HS.out.touch (HF0.out.mono fun _ h => h.elim), ⟨HF0.out.mono fun _ h => h.elim, fun _ h => .inl h⟩⟩

/-- The closures of At. -/
def atCls (W0 : World) (B mb bb ob : Nat) (k : Int) : Cls (List Nat × Int) Unit :=
  ⟨offC (atG k), 22, #[], 23, #[.pointer (some ⟨ob, 0, none⟩), .pointer (some ⟨mb, 0, none⟩), .pointer (some ⟨bb, 0, none⟩)], AtSt W0 B mb bb ob k, fun _ _ _ _ _ d cd => d = 38 ∧ cd = #[], fun _ => True, fun _ _ => True⟩
set_option maxRecDepth 100000 in
theorem atCls_good (W0 : World) (B mb bb ob : Nat) (k : Int) (n : Nd) (hc : Tr.count n ≤ 800) (g tg : Nat) (tv : Value) (hg : W0.heap.size ≤ g) : ((atCls W0 B mb bb ob k).wk W0 g tg tv (printT n)).Good where
  len := printT_len_le n hc
  place := printT_place n hc
  far := hg
  lt := fun s S w b h hb => by
    have h' : AtSt W0 B mb bb ob k g tg s S w := h
    obtain ⟨l1, l2, l3, l4, _⟩ := h'.lo
    have h1 := h'.most.lt
    obtain ⟨bv, h2, _⟩ := h'.best
    have h2 := h2.lt
    have h3 := h'.hg
    have h4 := h'.htg
    show W0.heap.size ≤ b ∧ b < w.heap.size ∧ b ≠ g ∧ b ≠ tg
    rcases (h'.own b).1 hb with rfl | rfl <;> omega
  stmv := fun s S w w' h ht => by
    have h' : AtSt W0 B mb bb ob k g tg s S w := h
    exact h'.touch ht
  dnmv := fun q S S' w w' d cd h _ => h
  off := fun s S w p v pl h hp hpl _ _ => at1_any h pl hp hpl
  item := fun s S w p v pl h hp hpl _ _ => (noItem_any v pl w).mono fun e w' ⟨he, hw⟩ => by
    subst hw
    exact ⟨_, _, S, he, h, Mc.refl _ _, rfl, rfl⟩
  done := fun s S w q d cd pl h hd _ _ _ => by
    obtain ⟨rfl, rfl⟩ := hd
    exact (noItem1_any pl w).mono fun e w' ⟨he, hw⟩ => by subst hw; exact ⟨he, S, h, Mc.refl _ _⟩
  kp0 := fun _ _ _ => trivial
  kpo := fun _ _ _ _ _ => trivial
  kpi := fun _ _ _ _ _ => trivial
  kpd := fun _ _ _ _ _ => trivial
  limo := fun _ _ _ _ => trivial
  limi := fun _ _ _ _ => trivial
  limd := fun _ _ _ _ => trivial
  callo := fun _ _ => by kernel_rfl
  calli := fun _ _ => by kernel_rfl
  calld := fun q S w d cd hd => by
    obtain ⟨rfl, rfl⟩ := hd
    exact fun _ _ => by kernel_rfl

/-- What At returns. -/
def atP (n : Nd) (k : Int) : List Nat := if Tr.valid n = true ∧ 0 ≤ k ∧ k ≤ (printS n).length then ((posRow (printT n) n.kids [] 0 0).foldl (fun s x => atG k s x.1 x.2) ([], -1)).1 else []
def atE (n : Nd) (k : Int) : Int := if Tr.valid n = true then (if 0 ≤ k ∧ k ≤ (printS n).length then 0 else 2) else 1
def AtOf (n : Nd) (k : Int) (w : World) (e : Ending) (w' : World) : Prop := ∃ v, e = .returned (.tuple #[v, .int .i64 (atE n k)]) ∧ Ints w' v (up (atP n k)) ∧ Fresh w w'
theorem printS_le (n : Nd) (hc : Tr.count n ≤ 800) : (printS n).length ≤ 1000000 := by
  unfold printS
  split
  · rename_i h
    have hf := (row_fits n (Tr.valid_row n h) hc).2
    rw [adds_wtext] at hf
    exact hf
  · simp

set_option maxRecDepth 100000 in
set_option maxHeartbeats 2000000 in
theorem at_any (n : Nd) (sl : Value) (k : Int) (w : World) (hsl : RepL w n.kids sl) (ht : n.text.length ≤ maxLen) (hc : Tr.count n ≤ 800) :
    Calls Try.prog 9 #[nv n sl, .int .i64 k] w (AtOf n k w) := by
  obtain ⟨A, cap, rfl⟩ := hsl.slice
  have HSL := hid hsl
  have HC := hid hc
  have HPR := hid (fun (w : World) (hr : RepL w n.kids (.slice A n.kids.length cap)) => print_any n _ w hr ht hc)
  have HPL := hid (printS_le n hc)
  have hmf : ∀ (fn : Fn) (first cap : Array Value) (w : World), (Instr.makeFunc fn first cap).run Try.prog w = .ok (.func fn first cap) w := fun _ _ _ _ => rfl
  clear hsl hc
  cases hv : Tr.valid n with
  | false =>
    have HE := hid (show printE n = 1 from by unfold printE; rw [hv]; rfl)
    have HA := hid (show atE n k = 1 ∧ atP n k = [] from by unfold atE atP; rw [hv]; simp)
    clear hv
    go_enter Try.func9, Try.ntmps9
    go_wp2_with fail
    refine (HPR.out _ (HSL.out.fresh (((Touch.refl _ _).alloc _).alloc _))).mono ?_
    rintro _ w1 ⟨rfl, hf⟩
    have HF := hid (show Fresh w w1 from Touch.pre (Touch.pre hf))
    clear hf
    rw [HE.out]
    go_wp2_with fail
    go_ret2
    exact ⟨.slice none 0 0, by rw [HA.out.1]; rfl, by rw [HA.out.2]; exact Ints.nil _ _ _, HF.out⟩
  | true =>
    have HV := hid hv
    have HE := hid (show printE n = 0 from by unfold printE; rw [hv]; rfl)
    clear hv
    have hsz : (⟨(printS n).toArray⟩ : ByteArray).size = (printS n).length := by simp [ByteArray.size]
    by_cases c1 : k < 0
    · have b1 : decide (k < 0) = true := by simp [c1]
      have HA := hid (show atE n k = 2 ∧ atP n k = [] from by unfold atE atP; rw [if_pos HV.out, if_neg (by omega), if_neg (by omega)]; exact ⟨rfl, rfl⟩)
      go_enter Try.func9, Try.ntmps9
      go_wp2_with fail
      refine (HPR.out _ (HSL.out.fresh (((Touch.refl _ _).alloc _).alloc _))).mono ?_
      rintro _ w1 ⟨rfl, hf⟩
      have HF := hid (show Fresh w w1 from Touch.pre (Touch.pre hf))
      have q1 : w1.cell? ⟨w.heap.size + 1, 0, none⟩ = some (.int .i64 k) := (hf.blk (Blk.new2 w _ _ _) (fun h => h)).cell 0
      clear hf
      rw [HE.out]
      go_wp2_with fail
      go_ret2
      exact ⟨.slice none 0 0, by rw [HA.out.1]; rfl, by rw [HA.out.2]; exact Ints.nil _ _ _, HF.out⟩
    · have b1 : decide (k < 0) = false := by simp; omega
      by_cases c2 : ((printS n).length : Int) < k
      · have b2 : decide (((printS n).length : Int) < k) = true := by simp [c2]
        have HA := hid (show atE n k = 2 ∧ atP n k = [] from by unfold atE atP; rw [if_pos HV.out, if_neg (by omega), if_neg (by omega)]; exact ⟨rfl, rfl⟩)
        go_enter Try.func9, Try.ntmps9
        go_wp2_with fail
        refine (HPR.out _ (HSL.out.fresh (((Touch.refl _ _).alloc _).alloc _))).mono ?_
        rintro _ w1 ⟨rfl, hf⟩
        have HF := hid (show Fresh w w1 from Touch.pre (Touch.pre hf))
        have q1 : w1.cell? ⟨w.heap.size + 1, 0, none⟩ = some (.int .i64 k) := (hf.blk (Blk.new2 w _ _ _) (fun h => h)).cell 0
        clear hf
        rw [HE.out]
        go_wp2_with fail
        go_ret2
        exact ⟨.slice none 0 0, by rw [HA.out.1]; rfl, by rw [HA.out.2]; exact Ints.nil _ _ _, HF.out⟩
      · have b2 : decide (((printS n).length : Int) < k) = false := by simp; omega
        have HA := hid (show atE n k = 0 ∧ atP n k = ((posRow (printT n) n.kids [] 0 0).foldl (fun s x => atG k s x.1 x.2) ([], -1)).1 from by unfold atE atP; rw [if_pos HV.out, if_pos (by omega), if_pos ⟨HV.out, by omega⟩]; exact ⟨rfl, rfl⟩)
        go_enter Try.func9, Try.ntmps9
        go_wp2_with fail
        refine (HPR.out _ (HSL.out.fresh (((Touch.refl _ _).alloc _).alloc _))).mono ?_
        rintro _ w1 ⟨rfl, hf⟩
        have HF := hid (show Fresh w w1 from Touch.pre (Touch.pre hf))
        have q1 : w1.cell? ⟨w.heap.size + 1, 0, none⟩ = some (.int .i64 k) := (hf.blk (Blk.new2 w _ _ _) (fun h => h)).cell 0
        obtain ⟨p0, p1, p2, p3, _, _, _, _, hp4⟩ := Blk.four (hf.blk ((Blk.new w _ _).alloc _) (fun h => h))
        have hg1 : w.heap.size + 1 < w1.heap.size := (hf.blk (Blk.new2 w _ _ _) (fun h => h)).lt
        clear hf
        rw [HE.out]
        go_wp2_with fail
        have hf2 : Fresh w1 ((w1.alloc (.cells #[.slice none 0 0] 31)).alloc (.cells #[.int .i64 (-1)] 3)) := ((Touch.refl _ _).alloc _).alloc _
        have hbm : Blk ((w1.alloc (.cells #[.slice none 0 0] 31)).alloc (.cells #[.int .i64 (-1)] 3)) (w1.heap.size + 1) 3 #[.int .i64 (-1)] := Blk.new2 _ _ _ _
        have hbb : Blk ((w1.alloc (.cells #[.slice none 0 0] 31)).alloc (.cells #[.int .i64 (-1)] 3)) w1.heap.size 31 #[.slice none 0 0] := (Blk.new _ _ _).alloc _
        generalize ((w1.alloc (.cells #[.slice none 0 0] 31)).alloc (.cells #[.int .i64 (-1)] 3)) = W2 at hf2 hbm hbb ⊢
        have HF2 := hid (HF.out.trans hf2)
        have q2 := hf2.cell q1 (fun h => h)
        have HOS := hid (fun (g tg : Nat) (w' : World) (h1 : W2.heap.size ≤ g) (h2 : W2.heap.size ≤ tg) (h3 : g < w'.heap.size) (hf : Fresh W2 w') => (show AtSt w W2.heap.size (w1.heap.size + 1) w1.heap.size (w.heap.size + 1) k g tg ([], -1) (fun b => b = w1.heap.size + 1 ∨ b = w1.heap.size) w' from
          ⟨fun b => Iff.rfl, hf.blk hbm (fun h => h), ⟨_, hf.blk hbb (fun h => h), PathIn.nil _ _ _, by simp⟩, hf.cell q2 (fun h => h), by have := hbm.lt; have := HF.out.size; refine ⟨?_, ?_, ?_, ?_, ?_, ?_, ?_, ?_, ?_⟩ <;> omega, h1, h2, h3⟩))
        clear hf2 hbm hbb
        refine (walk_ok (atCls w W2.heap.size (w1.heap.size + 1) w1.heap.size (w.heap.size + 1) k) w n _ W2 ([], -1) _ HV.out HC.out ht ((Low.fresh (Touch.refl _ _) HF2.out)) HSL.out (fun g tg tv hg => atCls_good _ _ _ _ _ _ n HC.out g tg tv hg) (fun g tg w' h1 h2 h3 _ hf => HOS.out g tg w' h1 h2 h3 hf) trivial).mono ?_
        rintro _ w3 ⟨rfl, g, tg, S3, hg, hst, hlow, hmv⟩
        have hst' : AtSt w W2.heap.size (w1.heap.size + 1) w1.heap.size (w.heap.size + 1) k g tg (runRow (offC (atG k)) (printT n) n.kids [] 0 0 ([], -1)) S3 w3 := hst
        rw [(Tr.off_run (atG k) (printT n)).1] at hst'
        have HF3 := hid (low_fresh hlow)
        obtain ⟨bv, hbb3, hbp3, _⟩ := hst'.best
        rw [← HA.out.2] at hbp3
        have HI3 := hid hbp3.ints
        obtain ⟨Ab, capb, rfl⟩ := hbp3.slice
        have r0 : w3.cell? ⟨w1.heap.size, 0, none⟩ = some (.slice Ab (atP n k).length capb) := hbb3.cell 0
        clear hst' hst hmv hlow hbb3 hbp3 q1 q2 p0 p1 p2 p3
        go_wp2_with fail
        go_ret2
        exact ⟨_, by rw [HA.out.1]; rfl, HI3.out, HF3.out⟩
end Go.Proofs.Ytdacpbdamliafaa

/- The statement's own example. -/
namespace Go.Proofs.Ytdacpbdamliafaa
open Go.RowKit
open Tr (Nd)


/-- A row of one number. -/
def numRow (s : List UInt8) : Nd := .mk 1 [] 0 [.mk 3 s 0 []]
def fracTree : Nd := .mk 1 [] 0 [.mk 5 [] 0 [numRow [49], numRow [50]]]

theorem RepL.leaf1 {W : World} {g : Nat} {k : Int} {s : List UInt8} (h : Blk W g 24 #[.int .i64 k, .string ⟨s.toArray⟩, .int .i64 0, .slice none 0 0]) (hs : s.length ≤ maxLen) : RepL W [.mk k s 0 []] (.slice (some ⟨g, 0, none⟩) 1 1) := by
  refine RepL.row g 0 1 [.mk k s 0 []] (fun _ => .slice none 0 0) h.lt (show 1 ≤ maxLen by decide) ?_ ?_ ?_ ?_ ?_ ?_
  all_goals (intro i hi; obtain rfl : i = 0 := by simpa using hi)
  · exact hs
  · exact h.cell 0
  · exact h.cell 1
  · exact h.cell 2
  · exact h.cell 3
  · exact .nil _ _

theorem RepL.kid1 {W : World} {g : Nat} {k c : Int} {s : List UInt8} {ks : List Nd} {v : Value} (h : Blk W g 24 #[.int .i64 k, .string ⟨s.toArray⟩, .int .i64 c, v]) (hs : s.length ≤ maxLen) (hk : RepL W ks v) : RepL W [.mk k s c ks] (.slice (some ⟨g, 0, none⟩) 1 1) := by
  refine RepL.row g 0 1 [.mk k s c ks] (fun _ => v) h.lt (show 1 ≤ maxLen by decide) ?_ ?_ ?_ ?_ ?_ ?_
  all_goals (intro i hi; obtain rfl : i = 0 := by simpa using hi)
  · exact hs
  · exact h.cell 0
  · exact h.cell 1
  · exact h.cell 2
  · exact h.cell 3
  · exact hk
theorem RepL.kid2 {W : World} {g : Nat} {k c k' c' : Int} {s s' : List UInt8} {ks ks' : List Nd} {v v' : Value} (h : Blk W g 24 #[.int .i64 k, .string ⟨s.toArray⟩, .int .i64 c, v, .int .i64 k', .string ⟨s'.toArray⟩, .int .i64 c', v']) (hs : s.length ≤ maxLen) (hs' : s'.length ≤ maxLen)
    (hk : RepL W ks v) (hk' : RepL W ks' v') : RepL W [.mk k s c ks, .mk k' s' c' ks'] (.slice (some ⟨g, 0, none⟩) 2 2) := by
  refine RepL.row g 0 2 [.mk k s c ks, .mk k' s' c' ks'] (fun i => if i = 0 then v else v') h.lt (show 2 ≤ maxLen by decide) ?_ ?_ ?_ ?_ ?_ ?_
  all_goals (intro i hi; have hi2 : i < 2 := (by simpa using hi); obtain rfl | rfl : i = 0 ∨ i = 1 := by omega)
  · exact hs
  · exact hs'
  · exact h.cell 0
  · exact h.cell 4
  · exact h.cell 1
  · exact h.cell 5
  · exact h.cell 2
  · exact h.cell 6
  · exact h.cell 3
  · exact h.cell 7
  · exact hk
  · exact hk'

end Go.Proofs.Ytdacpbdamliafaa

/- The reference's order of positions; the example of the span statements. -/
namespace Go.Proofs.Ytdacpbdamliafaa
open Go.RowKit
open Tr (Nd)

set_option maxRecDepth 100000 in
set_option maxHeartbeats 1000000 in
theorem rcompare_ints (a b : List Int) (va vb : Value) (w : World) (h1 : Ints w va a) (h2 : Ints w vb b) (ha : a.length ≤ maxLen) (hb : b.length ≤ maxLen) :
    Calls Try.prog 10 #[va, vb] w fun e w' => e = .returned (.int .i64 (cmpI a b)) ∧ Fresh w w' := by
  unfold maxLen at ha hb
  obtain ⟨A, cap, rfl⟩ := h1.slice
  obtain ⟨B, cbp, rfl⟩ := h2.slice
  have HA := hid h1
  have HB := hid h2
  clear h1 h2
  go_enter Try.func10, Try.ntmps10
  go_wp2_with fail
  go_loopw [5] (fun i wr => ∃ j : Nat, i = .int .i64 j ∧ j ≤ a.length ∧ j ≤ b.length ∧ Hid (cmpI (a.drop j) (b.drop j) = cmpI a b) ∧ Hid (Fresh w wr)) (fun i _ => a.length - (intOf i).toNat)
  case atStart => exact ⟨0, rfl, Nat.zero_le _, Nat.zero_le _, rfl, Touch.refl _ _⟩
  case round =>
    obtain ⟨j, rfl, hj, hjb, HT, HF⟩ := hrel
    by_cases c1 : j < a.length
    · have d1 : decide ((j : Int) < (a.length : Int)) = true := by simp; omega
      have d1' : (j : Int) < (a.length : Int) := by omega
      by_cases c2 : j < b.length
      · have d2 : decide ((j : Int) < (b.length : Int)) = true := by simp; omega
        have d2' : (j : Int) < (b.length : Int) := by omega
        obtain ⟨g, o, rfl, _, m0⟩ := HA.out.get j c1
        obtain ⟨g', o', rfl, _, n0⟩ := HB.out.get j c2
        have HS := hid (show cmpI a b = if a[j] < b[j] then -1 else if b[j] < a[j] then 1 else cmpI (a.drop (j + 1)) (b.drop (j + 1)) by
          rw [← HT.out, List.drop_eq_getElem_cons c1, List.drop_eq_getElem_cons c2, cmpI])
        have a0 := HF.out.cell m0 (fun h => h)
        have b1 := HF.out.cell n0 (fun h => h)
        clear m0 n0
        generalize a[j] = x at *
        generalize b[j] = y at *
        by_cases c3 : x < y
        · have d3 : decide (x < y) = true := by simp [c3]
          go_wp2_with fail
          go_quiet (fail)
          go_wp2_with fail
          go_ret
          exact ⟨by rw [HS.out, if_pos (by omega)]; rfl, HF.out.drewN _⟩
        · have d3 : decide (x < y) = false := by simp; omega
          by_cases c4 : y < x
          · have d4 : decide (y < x) = true := by simp [c4]
            go_wp2_with fail
            go_quiet (fail)
            go_wp2_with fail
            go_quiet (fail)
            go_wp2_with fail
            go_ret
            exact ⟨by rw [HS.out, if_neg (by omega), if_pos (by omega)]; rfl, by first | exact HF.out.drewN _ | exact (HF.out.drewN _).drewN _⟩
          · have d4 : decide (y < x) = false := by simp; omega
            go_wp2_with fail
            go_quiet (fail)
            go_wp2_with fail
            go_quiet (fail)
            go_wp2_with fail
            go_roundw
            case rel => exact ⟨j + 1, by go_num, c1, c2, by unfold Hid; rw [HS.out, if_neg (by omega), if_neg (by omega)], by first | exact HF.out.drewN _ | exact (HF.out.drewN _).drewN _⟩
            case measure => simp [intOf]; omega
      · have d2 : decide ((j : Int) < (b.length : Int)) = false := by simp; omega
        have HR := hid (show cmpI a b = 1 by
          rw [← HT.out, List.drop_eq_getElem_cons c1, List.drop_eq_nil_of_le (show b.length ≤ j by omega)]; rfl)
        have e1 : decide ((a.length : Int) < (b.length : Int)) = false := by simp; omega
        have e2 : decide ((b.length : Int) < (a.length : Int)) = true := by simp; omega
        have e1n : decide (a.length < b.length) = false := by simp; omega
        have e2n : decide (b.length < a.length) = true := by simp; omega
        go_wp2_with fail
        go_ret
        exact ⟨by rw [HR.out]; rfl, HF.out⟩
    · have d1 : decide ((j : Int) < (a.length : Int)) = false := by simp; omega
      obtain rfl : j = a.length := by omega
      by_cases c2 : a.length < b.length
      · have d2 : decide ((a.length : Int) < (b.length : Int)) = true := by simp; omega
        have d2n : decide (a.length < b.length) = true := by simp; omega
        have HR := hid (show cmpI a b = -1 by
          rw [← HT.out, List.drop_eq_nil_of_le (Nat.le_refl _), List.drop_eq_getElem_cons c2]; rfl)
        go_wp2_with fail
        go_ret
        exact ⟨by rw [HR.out]; rfl, HF.out⟩
      · have d2 : decide ((a.length : Int) < (b.length : Int)) = false := by simp; omega
        have d2n : decide (a.length < b.length) = false := by simp; omega
        have d3 : decide ((b.length : Int) < (a.length : Int)) = false := by simp; omega
        have d3n : decide (b.length < a.length) = false := by simp; omega
        have HR := hid (show cmpI a b = 0 by
          rw [← HT.out, List.drop_eq_nil_of_le (Nat.le_refl _), List.drop_eq_nil_of_le (by omega)]; rfl)
        go_wp2_with fail
        go_ret
        exact ⟨by rw [HR.out]; rfl, HF.out⟩
theorem cmpI_zero : ∀ a b : List Int, cmpI a b = 0 ↔ a = b
  | [], [] => by simp [cmpI]
  | [], _ :: _ => by simp [cmpI]
  | _ :: _, [] => by simp [cmpI]
  | a :: l, b :: m => by
    rw [cmpI]
    by_cases h1 : a < b
    · rw [if_pos h1]; simp; intro e; omega
    · rw [if_neg h1]
      by_cases h2 : b < a
      · rw [if_pos h2]; simp; intro e; omega
      · rw [if_neg h2, cmpI_zero l m, List.cons.injEq]
        have : a = b := by omega
        simp [this]
theorem rsame_ints (a b : List Int) (va vb : Value) (w : World) (h1 : Ints w va a) (h2 : Ints w vb b) (ha : a.length ≤ maxLen) (hb : b.length ≤ maxLen) :
    Calls Try.prog 15 #[va, vb] w fun e w' => e = .returned (.bool (decide (a = b))) ∧ Fresh w w' := by
  cases hd : (cmpI a b == 0) with
  | true =>
    have HD := hid (show decide (a = b) = true from by rw [decide_eq_true_eq, ← cmpI_zero]; simpa using hd)
    go_enter Try.func15, Try.ntmps15
    go_wp2_with fail
    refine (rcompare_ints a b va vb _ h1 h2 ha hb).mono ?_
    rintro _ w1 ⟨rfl, hf⟩
    go_wp2_with fail
    go_ret
    exact ⟨by rw [HD.out]; rfl, hf⟩
  | false =>
    have HD := hid (show decide (a = b) = false from by rw [decide_eq_false_iff_not, ← cmpI_zero]; simpa using hd)
    go_enter Try.func15, Try.ntmps15
    go_wp2_with fail
    refine (rcompare_ints a b va vb _ h1 h2 ha hb).mono ?_
    rintro _ w1 ⟨rfl, hf⟩
    go_wp2_with fail
    go_ret
    exact ⟨by rw [HD.out]; rfl, hf⟩
theorem few22_any (n : Tr.Nd) (sl : Value) (w : World) (hr : RepL w n.kids sl) :
    Calls Try.prog 6 #[nv n sl] w fun e w' => e = .returned (.bool (decide ((Tr.count n : Int) ≤ 60))) ∧ Fresh w w' := by
  have HR := hid hr
  clear hr
  go_enter Try.func6, Try.ntmps6
  go_wp2_with fail
  refine (few_any n sl 60 _ (HR.out.fresh ((Touch.refl _ _).alloc _)) (by decide) (by decide)).mono ?_
  rintro _ w1 ⟨rfl, hf⟩
  have HF := hid (Touch.pre hf)
  clear hf
  go_wp2_with fail
  go_ret
  exact ⟨rfl, HF.out⟩

def rootTree : Nd := .mk 1 [] 0 [.mk 6 [] 0 [.mk 1 [] 0 [], .mk 1 [] 0 [.mk 2 [120] 0 []]]]
theorem root_off : offR rootTree [0, 0, 0] = (5, 0) := by decide +kernel
theorem root_at : atE rootTree 6 = 0 ∧ atP rootTree 6 = [0, 1, 0] := by decide +kernel
set_option maxRecDepth 100000 in
theorem awk22_any (A : Option Addr) (n cap : Nat) (w : World) :
    Calls Try.prog 14 #[.slice A n cap] w fun e w' => e = .returned (.agg #[.int .i64 1, .string ⟨#[]⟩, .int .i64 0, .slice A n cap]) ∧ Fresh w w' := by
  go_enter Try.func14, Try.ntmps14
  go_wp2_with fail
  exact bodyPost_ret (v := .agg #[.int .i64 1, .string ⟨#[]⟩, .int .i64 0, .slice A n cap]) (by simp [results, Try.results14, go_sem]) rfl ⟨rfl, (Touch.refl _ _).alloc _⟩
theorem Ints.blk {w : World} {g : Nat} {t : TypeId} (l : List Int) (h : Blk w g t (intVs l).toArray) : Ints w (.slice (some ⟨g, 0, none⟩) l.length l.length) l :=
  ⟨_, _, rfl, .inr ⟨g, 0, rfl, h.lt, fun i hi => by rw [Nat.zero_add, h.cell]; simp [hi]⟩⟩

set_option maxRecDepth 100000 in
set_option maxHeartbeats 1000000 in
theorem awake22_any (w : World) : Calls Try.prog 5 #[] w fun e w' => e = .returned (.bool true) ∧ Fresh w w' := by
  have HO := hid root_off
  have HA := hid root_at
  go_enter Try.func5, Try.ntmps5
  go_wp2_with fail
  refine (awk22_any _ _ _ _).mono ?_
  rintro _ w1 ⟨rfl, hf1⟩
  have HF1 := hid hf1
  clear hf1
  go_wp2_with fail
  have HB1 := hid (show Blk (w1.alloc (.cells #[.int .i64 2, .string ⟨#[120]⟩, .int .i64 0, .slice none 0 0] 24)) w1.heap.size 24 #[.int .i64 2, .string ⟨#[120]⟩, .int .i64 0, .slice none 0 0] from Blk.new _ _ _)
  have HF1' := hid (show Fresh w (w1.alloc (.cells #[.int .i64 2, .string ⟨#[120]⟩, .int .i64 0, .slice none 0 0] 24)) from HF1.out.alloc _)
  refine (awk22_any _ _ _ _).mono ?_
  rintro _ w2 ⟨rfl, hf2⟩
  have HF2 := hid (HF1'.out.trans hf2)
  have HB2 := hid (hf2.blk HB1.out (fun h => h))
  clear hf2
  go_wp2_with fail
  have HB3 := hid (show RepL ((w2.alloc (.cells #[.int .i64 1, .string ⟨#[]⟩, .int .i64 0, .slice none 0 0, .int .i64 1, .string ⟨#[]⟩, .int .i64 0, .slice (some ⟨w1.heap.size, 0, none⟩) 1 1] 24)).alloc (.cells #[.int .i64 6, .string ⟨#[]⟩, .int .i64 0, .slice (some ⟨w2.heap.size, 0, none⟩) 2 2] 24)) rootTree.kids (.slice (some ⟨w2.heap.size + 1, 0, none⟩) 1 1) from
    RepL.kid1 (k := 6) (s := []) (c := 0) (ks := [.mk 1 [] 0 [], .mk 1 [] 0 [.mk 2 [120] 0 []]]) (Blk.new2 _ _ _ _) (by decide)
      (RepL.kid2 (k := 1) (s := []) (c := 0) (k' := 1) (s' := []) (c' := 0) (ks := []) (ks' := [.mk 2 [120] 0 []]) ((Blk.new _ _ _).alloc _) (by decide) (by decide) (.nil _ _) (RepL.leaf1 ((HB2.out.alloc _).alloc _) (by decide))))
  have HF3 := hid (show Fresh w ((w2.alloc (.cells #[.int .i64 1, .string ⟨#[]⟩, .int .i64 0, .slice none 0 0, .int .i64 1, .string ⟨#[]⟩, .int .i64 0, .slice (some ⟨w1.heap.size, 0, none⟩) 1 1] 24)).alloc (.cells #[.int .i64 6, .string ⟨#[]⟩, .int .i64 0, .slice (some ⟨w2.heap.size, 0, none⟩) 2 2] 24)) from (HF2.out.alloc _).alloc _)
  refine (awk22_any _ _ _ _).mono ?_
  rintro _ w3 ⟨rfl, hf3⟩
  have HR3 := hid (HB3.out.fresh hf3)
  have HF4 := hid (HF3.out.trans hf3)
  clear hf3
  go_wp2_with fail
  generalize hW : ((w3.alloc (.cells #[.int .i64 1, .string ⟨#[]⟩, .int .i64 0, .slice (some ⟨w2.heap.size + 1, 0, none⟩) 1 1] 24)).alloc (.cells #[.int .i64 0, .int .i64 0, .int .i64 0] 3)) = W4
  have hf4 : Fresh w3 W4 := by rw [← hW]; exact ((Touch.refl _ _).alloc _).alloc _
  have hb4 : Blk W4 w3.heap.size 24 #[.int .i64 1, .string ⟨#[]⟩, .int .i64 0, .slice (some ⟨w2.heap.size + 1, 0, none⟩) 1 1] := by rw [← hW]; exact (Blk.new _ _ _).alloc _
  have hi4 : Blk W4 (w3.heap.size + 1) 3 #[.int .i64 0, .int .i64 0, .int .i64 0] := by rw [← hW]; exact Blk.new2 _ _ _ _
  refine (offset_any rootTree _ _ [0, 0, 0] W4 (HR3.out.fresh hf4) (by decide) (by decide) (Ints.blk [0, 0, 0] hi4) (by decide)).mono ?_
  rw [HO.out]
  rintro _ w5 ⟨rfl, hf5⟩
  have HF5 := hid ((HF4.out.trans hf4).trans hf5)
  have HR5 := hid ((HR3.out.fresh hf4).fresh hf5)
  obtain ⟨q0, q1, q2, q3, _, _, _, _, hg5⟩ := Blk.four (hf5.blk hb4 (fun h => h))
  clear hW hf4 hb4 hi4 hf5
  go_wp2_with fail
  refine (at_any rootTree _ 6 w5 HR5.out (by decide) (by decide)).mono ?_
  rintro _ w6 ⟨v6, rfl, hi6, hf6⟩
  rw [HA.out.1]
  rw [HA.out.2] at hi6
  have HI6 := hid hi6
  have HF6 := hid (HF5.out.trans hf6)
  obtain ⟨A6, cap6, rfl⟩ := hi6.slice
  clear hi6 hf6 q0 q1 q2 q3
  go_wp2_with fail
  refine (rsame_ints (up [0, 1, 0]) [0, 1, 0] _ _ _ (HI6.out.fresh ((Touch.refl _ _).alloc _)) (Ints.blk [0, 1, 0] (Blk.new _ _ _)) (by decide) (by decide)).mono ?_
  rintro _ w7 ⟨rfl, hf7⟩
  have HF7 := hid (HF6.out.trans (Touch.pre hf7))
  clear hf7
  go_wp2_with fail
  go_ret
  exact ⟨ret_bool' _ _ (by decide), HF7.out⟩
end Go.Proofs.Ytdacpbdamliafaa

/- begins of the span statements. -/
namespace Go.Proofs.Ytdacpbdamliafaa
open Go.RowKit
open Tr (Nd)

theorem Ints.take {w : World} {A : Option Addr} {n cap m : Nat} {l : List Int} (h : Ints w (.slice A n cap) l) (hm : m ≤ l.length) (c' : Nat) : Ints w (.slice A m c') (l.take m) := by
  obtain ⟨A', cap', hv, h⟩ := h
  cases hv
  refine ⟨A, c', by rw [List.length_take]; simp [hm], ?_⟩
  rcases h with rfl | ⟨g, o, rfl, h1, h2⟩
  · exact .inl (by simp)
  · exact .inr ⟨g, o, rfl, h1, fun i hi => by rw [List.getElem_take]; exact h2 i (by rw [List.length_take] at hi; omega)⟩
theorem prefix_up (p q : List Nat) : up q <+: up p ↔ q <+: p := by
  constructor
  · intro h
    have h1 := h.map Int.toNat
    rw [List.map_map, List.map_map] at h1
    have e : (Int.toNat ∘ fun n : Nat => (n : Int)) = id := by funext n; simp
    rw [e, List.map_id, List.map_id] at h1
    exact h1
  · intro h; exact h.map _
theorem prefix_take (a b : List Int) : b <+: a ↔ b.length ≤ a.length ∧ a.take b.length = b := by
  rw [List.prefix_iff_eq_take]
  constructor
  · intro h
    exact ⟨by have := congrArg List.length h; rw [List.length_take] at this; omega, h.symm⟩
  · rintro ⟨_, h⟩; exact h.symm
set_option maxRecDepth 100000 in
set_option maxHeartbeats 1000000 in
theorem begins_any (a b : List Int) (va vb : Value) (w : World) (h1 : IntsR w va a) (h2 : IntsR w vb b) :
    Calls Try.prog 13 #[va, vb] w fun e w' => e = .returned (.bool (decide (b <+: a))) ∧ Fresh w w' := by
  obtain ⟨A, cap, rfl, hcap, hcm⟩ := h1.room
  obtain ⟨B, cbp, rfl, hb1, hb2⟩ := h2.room
  have ha : a.length ≤ maxLen := by omega
  have hb : b.length ≤ maxLen := by omega
  have HA := hid h1
  have HB := hid h2
  by_cases c : b.length ≤ a.length
  · have d : decide ((b.length : Int) ≤ (a.length : Int)) = true := by simp; omega
    have d' : decide (b.length ≤ a.length) = true := by simp; omega
    have k0 : (0 : Int) ≤ (b.length : Int) := by omega
    have k1 : (b.length : Int) ≤ (cap : Int) := by omega
    have HR := hid (show decide (b <+: a) = decide (a.take b.length = b) from decide_eq_decide.2 (by rw [prefix_take]; simp [c]))
    have HT := hid (fun (w' : World) (c' : Nat) (h : Ints w' (.slice A a.length cap) a) => h.take c c')
    have HL := hid (show (a.take b.length).length ≤ maxLen from by rw [List.length_take]; omega)
    clear h1 h2
    go_enter Try.func13, Try.ntmps13
    go_wp2_with fail
    refine (rsame_ints (a.take b.length) b _ _ _ (HT.out _ _ HA.out.ints) HB.out.ints HL.out hb).mono ?_
    rintro _ w1 ⟨rfl, hf⟩
    go_wp2_with fail
    go_ret
    exact ⟨by rw [HR.out]; rfl, hf⟩
  · have d : decide ((b.length : Int) ≤ (a.length : Int)) = false := by simp; omega
    have d' : decide (b.length ≤ a.length) = false := by simp; omega
    have HR := hid (show decide (b <+: a) = false from by rw [decide_eq_false_iff_not, prefix_take]; exact fun h => c h.1)
    clear h1 h2
    go_enter Try.func13, Try.ntmps13
    go_wp2_with fail
    go_ret
    exact ⟨by rw [HR.out]; rfl, Touch.refl _ _⟩
end Go.Proofs.Ytdacpbdamliafaa

/- The law SpanNested. -/
namespace Go.Proofs.Ytdacpbdamliafaa
open Go.RowKit
open Tr (Nd)
attribute [local go_sem] stillV stillUpon

theorem spans_nested (n : Nd) : (spansOf n).Pairwise Tr.nested := by
  unfold spansOf
  split
  · rename_i h
    exact (Tr.sp_nested (printT_mono n)).1 n.kids (Tr.valid_row n h).views [] 0 0 (by rw [printT_len n h]; omega)
  · exact List.Pairwise.nil

set_option maxRecDepth 100000 in
set_option maxHeartbeats 400000 in
theorem snested_any (n : Nd) (sl : Value) (w : World) (hsl : RepL w n.kids sl) (ht : n.text.length ≤ maxLen) :
    Calls Try.prog 4 #[nv n sl] w fun e w' => e = .returned (.bool true) ∧ Fresh w w' := by
  obtain ⟨A, cap, rfl⟩ := hsl.slice
  have HSL := hid hsl
  have HPW := hid (spans_nested n)
  clear hsl
  go_enter Try.func4, Try.ntmps4
  go_wp2_with fail
  refine (awake22_any _).mono ?_
  rintro _ w1 ⟨rfl, hf1⟩
  have HF1 := hid (show Fresh w w1 from Touch.pre hf1)
  obtain ⟨q0, q1, q2, q3, _⟩ := Blk.four (hf1.blk (Blk.new w 24 #[.int .i64 n.kind, .string (⟨n.text.toArray⟩ : ByteArray), .int .i64 n.cols, .slice A n.kids.length cap]) (fun h => h))
  clear hf1
  go_wp2_with fail
  refine (few22_any n _ _ (HSL.out.fresh HF1.out)).mono ?_
  rintro _ w2 ⟨rfl, hf2⟩
  have HF2 := hid (HF1.out.trans hf2)
  replace q0 := hf2.cell q0 (fun h => h)
  replace q1 := hf2.cell q1 (fun h => h)
  replace q2 := hf2.cell q2 (fun h => h)
  replace q3 := hf2.cell q3 (fun h => h)
  clear hf2
  cases hcc : decide ((Tr.count n : Int) ≤ 60) with
  | false =>
    go_wp2_with fail
    refine (awake22_any _).mono ?_
    rintro _ w3 ⟨rfl, hf3⟩
    have HF3 := hid (HF2.out.trans hf3)
    clear hf3 q0 q1 q2 q3
    go_wp2_with fail
    go_ret
    exact ⟨rfl, HF3.out⟩
  | true =>
    have HC := hid (show Tr.count n ≤ 60 from by simp at hcc; omega)
    go_wp2_with fail
    refine (items_any n _ _ (HSL.out.fresh HF2.out) ht (by have := HC.out; omega)).mono ?_
    rintro _ w3 ⟨v, cs, rfl, ho, hcs, hf3⟩
    have HF3 := hid (HF2.out.trans hf3)
    have HO := hid ho
    have HCS := hid hcs
    have HSZ := hid hf3.size
    obtain ⟨Ar, capr, rfl⟩ := owns_slice ho
    clear ho hcs hf3 q0 q1 q2 q3
    cases he : (printE n == (0 : Int)) with
    | false =>
      have hem : (printE n != (0 : Int)) = true := by rw [bne, he]; rfl
      go_wp2_with fail
      go_ret
      exact ⟨rfl, HF3.out⟩
    | true =>
      have hem : (printE n != (0 : Int)) = false := by rw [bne, he]; rfl
      have hs8 := spans_few n (by have := HC.out; omega)
      generalize spansOf n = s at *
      go_wp2_with fail
      go_loopw [26] (fun i wr => ∃ j : Nat, i = .int .i64 j ∧ j ≤ s.length ∧ Hid (Fresh w3 wr)) (fun i _ => s.length - (intOf i).toNat)
      case atStart => exact ⟨0, rfl, Nat.zero_le _, Touch.refl _ _⟩
      case round =>
        obtain ⟨j, rfl, hj, HFR⟩ := hrel
        rename_i wr _
        by_cases c1 : j < s.length
        · have d1 : decide ((j : Int) < (s.length : Int)) = true := by simp; omega
          obtain ⟨g, cap', hv⟩ : ∃ g cap', Value.slice Ar s.length capr = .slice (some ⟨g, 0, none⟩) s.length cap' := by
            rcases HO.out.2 with ⟨_, h2⟩ | ⟨g', cap, cur, h1, h2, _⟩
            · omega
            · exact ⟨g', cap, h1⟩
          cases hv
          have hcl : s.length ≤ capr ∧ capr ≤ maxLen := by
            obtain ⟨A', c', e1, e2, e3⟩ := Roomy.own HO.out
            cases e1
            exact ⟨e2, e3⟩
          have hw : wrap64 ((j : Int) + 1) = ((j + 1 : Nat) : Int) := by
            unfold wrap64; omega
          have k0 : (0 : Int) ≤ ((j + 1 : Nat) : Int) := by omega
          have k1 : ((j + 1 : Nat) : Int) ≤ (s.length : Int) := by omega
          have k2 : j + 1 ≤ s.length := c1
          by_cases c2 : j + 1 < s.length
          · have hne : ¬ capr = j + 1 := by omega
            obtain ⟨vx, x0, x1, x2, hx⟩ := HCS.out.get j c1
            have HNJ := hid (fun (k : Nat) (hk : k < s.length) (h : j < k) => List.pairwise_iff_getElem.1 HPW.out j k c1 hk h)
            generalize s[j] = X at x1 x2 hx HNJ
            obtain ⟨px, fx, tx⟩ := X
            have X0 := hid (fun (W : World) (hf : Fresh w3 W) => hf.cell ((HO.out.cellAt (j * 3) (by omega)).trans x0) (fun h => h))
            have X1 := hid (fun (W : World) (hf : Fresh w3 W) => hf.cell ((HO.out.cellAt (j * 3 + 1) (by omega)).trans x1) (fun h => h))
            have X2 := hid (fun (W : World) (hf : Fresh w3 W) => hf.cell ((HO.out.cellAt (j * 3 + 2) (by omega)).trans x2) (fun h => h))
            have XX := hid (And.intro X0.out (And.intro X1.out X2.out))
            clear X0 X1 X2
            have HX := hid hx
            obtain ⟨Ax, cax, rfl, hax⟩ : Roomy vx px.length := by have := hx.room; rw [List.length_map] at this; exact this
            clear x0 x1 x2 hx hax
            go_wp2_with fail
            go_loopw [34] (fun i wr => ∃ m : Nat, i = .int .i64 m ∧ m ≤ s.length - (j + 1) ∧ Hid (Fresh w3 wr)) (fun i _ => s.length - (intOf i).toNat)
            case atStart => exact ⟨0, rfl, Nat.zero_le _, HFR⟩
            case round =>
              obtain ⟨m, rfl, hm, HFM⟩ := hrel
              by_cases c3 : m < s.length - (j + 1)
              · have d3 : decide ((m : Int) < ((s.length - (j + 1) : Nat) : Int)) = true := by simp; omega
                have hk : j + 1 + m < s.length := by omega
                obtain ⟨vy, y0, y1, y2, hy⟩ := HCS.out.get (j + 1 + m) hk
                have HN := hid (HNJ.out (j + 1 + m) hk (by omega))
                generalize s[j + 1 + m] = Y at y1 y2 hy HN
                obtain ⟨py, fy, ty⟩ := Y
                have Y0 := hid (fun (W : World) (hf : Fresh w3 W) => hf.cell ((HO.out.cellAt ((j + 1 + m) * 3) (by omega)).trans y0) (fun h => h))
                have Y1 := hid (fun (W : World) (hf : Fresh w3 W) => hf.cell ((HO.out.cellAt ((j + 1 + m) * 3 + 1) (by omega)).trans y1) (fun h => h))
                have Y2 := hid (fun (W : World) (hf : Fresh w3 W) => hf.cell ((HO.out.cellAt ((j + 1 + m) * 3 + 2) (by omega)).trans y2) (fun h => h))
                have HY := hid hy
                obtain ⟨Ay, cay, rfl, hay⟩ : Roomy vy py.length := by have := hy.room; rw [List.length_map] at this; exact this
                clear y0 y1 y2 hy hay
                have a0 := Y0.out _ HFM.out
                have a1 := Y1.out _ HFM.out
                have a2 := Y2.out _ HFM.out
                have d3' : (m : Int) < ((s.length - (j + 1) : Nat) : Int) := by omega
                rw [show (j + 1 + m) * 3 = (j + 1) * 3 + m * 3 by omega] at a0 a1 a2
                clear Y0 Y1 Y2
                have n0 := XX.out.1 _ HFM.out
                have n1 := XX.out.2.1 _ HFM.out
                have n2 := XX.out.2.2 _ HFM.out
                go_wp2_with fail
                refine forget_world (fun W => Fresh w3 W ∧ Blk W _ 43 #[.slice Ay py.length cay, .int .i64 (fy : Int), .int .i64 (ty : Int)] ∧ W.cell? ⟨g, j * 3, none⟩ = some (.slice Ax px.length cax) ∧ W.cell? ⟨g, j * 3 + 1, none⟩ = some (.int .i64 (fx : Int)) ∧ W.cell? ⟨g, j * 3 + 2, none⟩ = some (.int .i64 (tx : Int))) ⟨HFM.out.alloc _, Blk.new _ _ _, ((Touch.refl _ _).alloc _ : Fresh _ _).cell n0 (fun h => h), ((Touch.refl _ _).alloc _ : Fresh _ _).cell n1 (fun h => h), ((Touch.refl _ _).alloc _ : Fresh _ _).cell n2 (fun h => h)⟩ ?_
                rintro W5 ⟨hf5, hb5, m0, m1, m2⟩
                have HF5 := hid hf5
                have b0 : W5.cell? ⟨_, 0, none⟩ = some (.slice Ay py.length cay) := hb5.cell 0
                have b1 : W5.cell? ⟨_, 1, none⟩ = some (.int .i64 (fy : Int)) := hb5.cell 1
                have b2 : W5.cell? ⟨_, 2, none⟩ = some (.int .i64 (ty : Int)) := hb5.cell 2
                have B5 := hid hb5
                clear n0 n1 n2 a0 a1 a2 hf5 hb5
                have r0 := cell_regrown b0
                have s0 := cell_regrown m0
                refine wp_region_mix [([(0, true), (1, true), (2, true), (3, true), (4, true), (5, true), (6, true), (7, false)], 8)] [] (by kernel_rfl) (fun _ _ d _ _ h => by cases d <;> exact h) (by kernel_rfl) ?_
                refine wpMix_seg ?_
                repeat (refine wpSeq_plain rfl (fun K hK => ?_); go_simp; refine hK _ ?_; clear hK K)
                refine wpSeq_lone rfl (fun K hK => ?_)
                go_wp2_with fail
                refine (begins_any (up py) (up px) _ _ _ (HY.out.fresh (HF5.out.drewN _)) (HX.out.fresh (HF5.out.drewN _))).mono ?_
                rintro _ W6 ⟨rfl, hf6⟩
                have HF6 := hid (show Fresh W5 W6 from Touch.ofN hf6)
                clear hf6
                go_wp2_with fail
                refine hK _ _ (growing_fresh HF6.out) ?_
                clear hK K
                refine wpSeq_shut rfl (fun K hK => ?_)
                go_wp2_with fail
                refine wpMix_end ?_
                replace b1 := HF6.out.cell b1 (fun h => h)
                replace b2 := HF6.out.cell b2 (fun h => h)
                replace m1 := HF6.out.cell m1 (fun h => h)
                replace m2 := HF6.out.cell m2 (fun h => h)
                have HF7 := hid (HF5.out.trans HF6.out)
                clear r0 s0 b0 m0 B5
                have HNI := hid (show (px <+: py → (fx : Int) ≤ fy ∧ (ty : Int) ≤ tx) ∧ (¬ px <+: py → (tx : Int) ≤ fy) from ⟨fun h => by have h1 := (HN.out.1 h).1; have h2 := (HN.out.1 h).2; simp at h1 h2; omega, fun h => by have h1 := HN.out.2 h; simp at h1; omega⟩)
                clear HN
                generalize (fx : Int) = FX at *
                generalize (tx : Int) = TX at *
                generalize (fy : Int) = FY at *
                generalize (ty : Int) = TY at *
                cases hB : decide (up px <+: up py) with
                | true =>
                  have hp : px <+: py := (prefix_up _ _).1 (of_decide_eq_true hB)
                  have i1 : decide (FY < FX) = false := by have := (HNI.out.1 hp).1; simp; omega
                  have i2 : decide (TX < TY) = false := by have := (HNI.out.1 hp).2; simp; omega
                  clear hp
                  go_wp2_with fail
                  go_quiet (fail)
                  go_wp2_with fail
                  go_roundw
                  case rel => exact ⟨m + 1, by go_num, by omega, by first | exact HF7.out | exact HF7.out.drewN _⟩
                  case measure => simp [intOf]; omega
                | false =>
                  have hp : ¬ px <+: py := fun h => of_decide_eq_false hB ((prefix_up _ _).2 h)
                  have i1 : decide (FY < TX) = false := by have := HNI.out.2 hp; simp; omega
                  clear hp
                  go_wp2_with fail
                  go_quiet (fail)
                  go_wp2_with fail
                  go_roundw
                  case rel => exact ⟨m + 1, by go_num, by omega, by first | exact HF7.out | exact HF7.out.drewN _⟩
                  case measure => simp [intOf]; omega
              · have d3 : decide ((m : Int) < ((s.length - (j + 1) : Nat) : Int)) = false := by simp; omega
                go_wp2_with fail
                go_roundw
                case rel => exact ⟨j + 1, by go_num, by omega, HFM⟩
                case measure => simp [intOf]; omega
          · have hje : s.length = j + 1 := by omega
            by_cases hcs : capr = s.length
            · subst hcs
              have hz : s.length - (j + 1) = 0 := by omega
              have hz' : s.length - s.length = 0 := by omega
              go_wp2_with fail
              go_loopw [34] (fun i wr => i = .int .i64 0 ∧ Hid (Fresh w3 wr)) (fun i _ => 0)
              case atStart => exact ⟨rfl, HFR⟩
              case round =>
                obtain ⟨rfl, HFM⟩ := hrel
                go_wp2_with fail
                first
                  | exact ⟨⟨j + 1, by first | go_num | simp, by omega, HFM⟩, by simp [intOf]; omega⟩
                  | (go_roundw
                     case rel => exact ⟨j + 1, by first | go_num | simp, by omega, HFM⟩
                     case measure => first | (simp [intOf]; omega) | (simp [intOf]; done))
            · have hne : ¬ capr = j + 1 := by omega
              have hz : s.length - (j + 1) = 0 := by omega
              have hz' : s.length - s.length = 0 := by omega
              go_wp2_with fail
              go_loopw [34] (fun i wr => i = .int .i64 0 ∧ Hid (Fresh w3 wr)) (fun i _ => 0)
              case atStart => exact ⟨rfl, HFR⟩
              case round =>
                obtain ⟨rfl, HFM⟩ := hrel
                go_wp2_with fail
                first
                  | exact ⟨⟨j + 1, by first | go_num | simp, by omega, HFM⟩, by simp [intOf]; omega⟩
                  | (go_roundw
                     case rel => exact ⟨j + 1, by first | go_num | simp, by omega, HFM⟩
                     case measure => first | (simp [intOf]; omega) | (simp [intOf]; done))
        · have d1 : decide ((j : Int) < (s.length : Int)) = false := by simp; omega
          go_wp2_with fail
          go_ret
          exact ⟨rfl, HF3.out.trans HFR.out⟩
end Go.Proofs.Ytdacpbdamliafaa

/- The statement SpanNested: for all trees the law returns true, and the tree reads as it did. No condition. -/
namespace Go.Proofs.Ytdacpbdamliafaa
open Go.ChangeShapes Go.WideShapes Go.ChangeAt Go.RowKit
open Tr (Nd)

set_option maxRecDepth 100000 in
theorem spanNested_lifted (os : Os) (started : os.Started) (H : Type) (enc : TypeId × Value → H) :
    ReturnsInHanded {} Try.checked os 4 .any (Rows.spanNestedSpec.pre6 enc Try.prog Try.f4 Rows.spanNestedRow.domain false) (Rows.spanNestedSpec.post enc Try.prog Try.f4 false true false false) := by
  refine returnsInHanded_of_change (C := Try.checked) Try.ownKnob started (by kernel_rfl) Try.func4
    (ChangeSpec.witness6 (enc := enc) (C := Try.checked) false ⟨#[], #[.agg #[.int .i64 0, .string ⟨#[]⟩, .int .i64 0, .slice none 0 0]], []⟩ 8 (by kernel_rfl) (by kernel_rfl) (by kernel_rfl) (by kernel_rfl)) ?_
  intro W base args ds gs before hval0 hW hcnd _
  have hval : ∀ (j : Nat) t v, Try.f4.params[j]? = some t → args[j]? = some v → Value.okWide Try.prog W .any base t v := hval0
  have hW' := hW
  obtain ⟨p, q, hA0, hV, rfl, hfz, hnd⟩ := hW
  have hA : DataW.TrodAll enc Try.prog W 0 (fun _ => true) true Try.f4.params.toList args.toList ds p := hA0
  rw [Try.params4] at hA hval
  obtain ⟨v0, d0, rfl, rfl, h0⟩ := trodAll_one hA
  obtain ⟨rfl, rfl⟩ := trodVars_none hV
  obtain ⟨a, ⟨sa, rfl, ra⟩, ta⟩ := open_node (hval 0 24 v0 rfl rfl) h0
  refine (snested_any a sa W ra ta).mono fun e W' ⟨he, hw⟩ => ?_
  exact ⟨_, he, post_true Try.laidOut Try.underlying4 (by kernel_rfl) (by kernel_rfl) rfl rfl hW' hw⟩

theorem SpanNested_holds : Rows.SpanNestedSaid :=
  OpenClaim.holds_of_wide 4 Try.f4 rfl rfl rfl rfl rfl rfl rfl ⟨rfl, rfl, rfl, rfl, rfl⟩ rfl rfl rfl rfl rfl (by kernel_rfl) Try.func4 (by kernel_rfl)
    (of_decide_eq_true (by kernel_rfl)) (by unfold Func.isWrapper; first | (rw [if_pos (by decide +kernel)]; kernel_rfl) | (rw [if_neg (by decide +kernel)]; exact ⟨rfl, rfl⟩))
    (fun os started H enc _ => spanNested_lifted os started H enc)
end Go.Proofs.Ytdacpbdamliafaa
