/- Part 9 of 11 of a proof; its texts, joined: SnP, SnA, SnB, SnD, SnI, SnN, RegD. No condition. -/
import Derived.Test.YtdacpbdamliafaaJo8
import Derived.Test.YtdacpbdamliafaaJo7

/- What Offset and At make of the positions, and the lists of the reference. No program in sight. -/
namespace Go.Proofs.Ytdacpbdamliafaa.Tr
open Lx (Tok PTok)

abbrev Sorted (l : List (Path × Nat)) : Prop := l.Pairwise fun x y => cmp x.1 y.1 = -1

/-- The place of a position. -/
def offOf (l : List (Path × Nat)) (pos : Path) : Option Nat := (l.find? fun x => x.1 == pos).map (·.2)
theorem offOf_mem {l : List (Path × Nat)} (hs : Sorted l) {p : Path} {v : Nat} (h : (p, v) ∈ l) : offOf l p = some v := by
  unfold offOf
  induction l with
  | nil => cases h
  | cons y l ih =>
    rw [Sorted, List.pairwise_cons] at hs
    rcases List.mem_cons.1 h with rfl | h
    · rw [List.find?_cons]; simp
    · have hne : (y.1 == p) = false := by
        rw [beq_eq_false_iff_ne]
        intro e
        have := hs.1 _ h
        rw [e, cmp_refl] at this
        cases this
      rw [List.find?_cons, hne]
      exact ih hs.2 h
theorem offOf_none {l : List (Path × Nat)} {p : Path} (h : ∀ x ∈ l, x.1 ≠ p) : offOf l p = none := by
  unfold offOf
  rw [List.find?_eq_none.2 (by intro x hx; simpa using h x hx)]
  rfl
theorem offOf_some {l : List (Path × Nat)} {p : Path} {v : Nat} (h : offOf l p = some v) : (p, v) ∈ l := by
  unfold offOf at h
  rw [Option.map_eq_some_iff] at h
  obtain ⟨x, h1, rfl⟩ := h
  have h2 := List.find?_some h1
  have h3 := List.mem_of_find?_eq_some h1
  simp at h2
  rw [← h2]
  exact h3
/-- What the given Offset keeps. -/
def offG (P : Path → Bool) (s : Nat × Bool) (p : Path) (pl : Nat) : Nat × Bool := if s.2 = false ∧ P p = true then (pl, true) else s
theorem off_fold (P : Path → Bool) : ∀ l : List (Path × Nat), l.foldl (fun s x => offG P s x.1 x.2) (0, false) = match l.find? fun x => P x.1 with | some x => (x.2, true) | none => (0, false) := by
  have ht : ∀ (l : List (Path × Nat)) v, l.foldl (fun s x => offG P s x.1 x.2) (v, true) = (v, true) := by
    intro l v
    induction l with
    | nil => rfl
    | cons y l ih => rw [List.foldl_cons, show offG P (v, true) y.1 y.2 = (v, true) from by unfold offG; rw [if_neg (by simp)]]; exact ih
  intro l
  induction l with
  | nil => rfl
  | cons y l ih =>
    rw [List.foldl_cons, List.find?_cons]
    cases h : P y.1 with
    | true => rw [show offG P (0, false) y.1 y.2 = (y.2, true) from by unfold offG; rw [if_pos ⟨rfl, h⟩], ht]
    | false => rw [show offG P (0, false) y.1 y.2 = (0, false) from by unfold offG; rw [if_neg (by simp [h])], ih]

/-- What the given At keeps: the best position and its place. -/
def atG (k : Int) (s : Path × Int) (p : Path) (pl : Nat) : Path × Int :=
  if k < (pl : Int) ∨ (pl : Int) < s.2 then s else if s.2 < (pl : Int) ∨ cmp p s.1 < 0 then (p, pl) else s
/-- What the reference's At keeps. -/
def atR (k : Int) (s : Path × Int) (p : Path) (pl : Nat) : Path × Int := if (pl : Int) ≤ k ∧ s.2 < (pl : Int) then (p, pl) else s
theorem at_fold (k : Int) : ∀ (l : List (Path × Nat)) (s : Path × Int), Sorted l → (s.2 = -1 ∨ ∀ x ∈ l, cmp s.1 x.1 = -1) → l.foldl (fun s x => atG k s x.1 x.2) s = l.foldl (fun s x => atR k s x.1 x.2) s
  | [], _, _, _ => rfl
  | y :: l, s, hs, h => by
    rw [Sorted, List.pairwise_cons] at hs
    have e : atG k s y.1 y.2 = atR k s y.1 y.2 := by
      unfold atG atR
      by_cases h1 : (y.2 : Int) ≤ k ∧ s.2 < (y.2 : Int)
      · rw [if_pos h1, if_neg (by omega), if_pos (.inl h1.2)]
      · rw [if_neg h1]
        split
        · rfl
        · rw [if_neg]
          rintro (h3 | h3)
          · omega
          · rcases h with h | h
            · omega
            · have := cmp_swap _ _ (h y (by simp))
              omega
    rw [List.foldl_cons, List.foldl_cons, e]
    refine at_fold k l _ hs.2 ?_
    unfold atR
    split
    · exact .inr fun x hx => hs.1 x hx
    · exact h.imp id fun h x hx => h x (by simp [hx])

/-- The reference's At finds the first position with the greatest place that is not behind. -/
theorem at_stay (k : Int) : ∀ (l : List (Path × Nat)) (s : Path × Int), (∀ x ∈ l, (x.2 : Int) ≤ k → (x.2 : Int) ≤ s.2) → l.foldl (fun s x => atR k s x.1 x.2) s = s
  | [], _, _ => rfl
  | y :: l, s, h => by
    rw [List.foldl_cons, show atR k s y.1 y.2 = s from by unfold atR; rw [if_neg (by have := h y (by simp); omega)]]
    exact at_stay k l s fun x hx => h x (by simp [hx])
theorem at_hit : ∀ (l : List (Path × Nat)) (s : Path × Int) (p : Path) (v : Nat), Sorted l → l.Pairwise (fun x y => x.2 ≤ y.2) → s.2 < v → (p, v) ∈ l → ∃ q, l.foldl (fun s x => atR v s x.1 x.2) s = (q, (v : Int)) ∧ (q, v) ∈ l ∧ (q = p ∨ cmp q p = -1)
  | [], _, _, _, _, _, _, h => by cases h
  | y :: l, s, p, v, hs, hm, hlt, h => by
    rw [Sorted, List.pairwise_cons] at hs
    rw [List.pairwise_cons] at hm
    rw [List.foldl_cons]
    have hyv : y.2 ≤ v := by
      rcases List.mem_cons.1 h with h | h
      · rw [← h]; exact Nat.le_refl _
      · exact hm.1 _ h
    rcases Nat.lt_or_ge y.2 v with h1 | h1
    · have hl : (p, v) ∈ l := by
        rcases List.mem_cons.1 h with h | h
        · rw [← h] at h1; exact absurd h1 (Nat.lt_irrefl _)
        · exact h
      have hs2 : (atR v s y.1 y.2).2 < v := by
        unfold atR
        split
        · show (y.2 : Int) < v; omega
        · exact hlt
      obtain ⟨q, h3, h4, h5⟩ := at_hit l _ p v hs.2 hm.2 hs2 hl
      exact ⟨q, h3, by simp [h4], h5⟩
    · have hv : y.2 = v := by omega
      refine ⟨y.1, ?_, by rw [← hv]; simp, ?_⟩
      · rw [show atR v s y.1 y.2 = (y.1, (v : Int)) from by unfold atR; rw [if_pos (by omega), hv]]
        exact at_stay v l _ fun x hx h => h
      · rcases List.mem_cons.1 h with h | h
        · exact .inl (by rw [← h])
        · exact .inr (hs.1 _ h)

/-! The positions do not hang on the tokens. -/
theorem pos_paths (T T' : List PTok) : (∀ ks p i f f', (posRow T ks p i f).map (·.1) = (posRow T' ks p i f').map (·.1)) ∧ ∀ l p j f f', (posSegs T l p j f).map (·.1) = (posSegs T' l p j f').map (·.1) := by
  refine rows_ind (P := fun ks => ∀ p i f f', (posRow T ks p i f).map (·.1) = (posRow T' ks p i f').map (·.1)) (Q := fun l => ∀ p j f f', (posSegs T l p j f).map (·.1) = (posSegs T' l p j f').map (·.1)) ?_ ?_ ?_ ?_
  · intro p i f f'; rw [posRow, posRow]; rfl
  · intro n ns h1 h2 p i f f'
    rw [posRow, posRow, List.map_cons, List.map_cons, List.map_append, List.map_append, h1 _ _ f f', h2 _ _ _ (f' + (itemT n).length)]
  · intro p j f f'; rw [posSegs, posSegs]
  · intro k b a r h1 h2 p j f f'
    rw [posSegs, posSegs, List.map_append, List.map_append, h1 _ _ _ (f' + k + b.toNat), h2 _ _ _ (f' + segLen (k, b, a))]

/-! The reference's spans of rows and items. -/
structure RSp where
  path : Path
  row : Bool
  from_ : Nat
  to_ : Nat
  first : Nat
  count : Nat

section
variable (T : List PTok)
mutual
def rsItems : List Nd → Path → Nat → Nat → List RSp
  | [], _, _, _ => []
  | n :: ns, p, i, f => ⟨p ++ [i], false, fromAt T f, endAt T (f + (itemT n).length), f, (itemT n).length⟩ :: (rsSegs (segs n) (p ++ [i]) 0 f ++ rsItems ns p (i + 1) (f + (itemT n).length))
  termination_by ns => 2 * countL ns + 1
  decreasing_by
    · have := segs_rows n
      unfold rowsOf at this
      rw [this]
      simp only [countL, count_kids]
      omega
    · simp only [countL, count_kids]
      omega
def rsSegs : List (Nat × Bool × Nd) → Path → Nat → Nat → List RSp
  | [], _, _, _ => []
  | (k, b, a) :: r, p, j, f => (⟨p ++ [j], true, 0, 0, f + k + b.toNat, (rowT a.kids).length⟩ :: rsItems a.kids (p ++ [j]) 0 (f + k + b.toNat)) ++ rsSegs r p (j + 1) (f + segLen (k, b, a))
  termination_by l => 2 * countL (l.map fun x => x.2.2) + 1
  decreasing_by
    · simp only [List.map_cons, countL, count_kids]
      omega
    · simp only [List.map_cons, countL, count_kids]
      omega
end
def rsRow (ks : List Nd) (p : Path) (f : Nat) : List RSp := ⟨p, true, 0, 0, f, (rowT ks).length⟩ :: rsItems T ks p 0 f
end
def RSp.item (x : RSp) : Option (Path × Nat × Nat) := if x.row then none else some (x.path, x.from_, x.to_)
theorem rs_items (T : List PTok) : (∀ ks p i f, (rsItems T ks p i f).filterMap RSp.item = spRow T ks p i f) ∧ ∀ l p j f, (rsSegs T l p j f).filterMap RSp.item = spSegs T l p j f := by
  refine rows_ind (P := fun ks => ∀ p i f, (rsItems T ks p i f).filterMap RSp.item = spRow T ks p i f) (Q := fun l => ∀ p j f, (rsSegs T l p j f).filterMap RSp.item = spSegs T l p j f) ?_ ?_ ?_ ?_
  · intro p i f; rw [rsItems, spRow]; rfl
  · intro n ns h1 h2 p i f
    rw [rsItems, spRow, List.filterMap_cons, List.filterMap_append, h1, h2]
    rfl
  · intro p j f; rw [rsSegs, spSegs]; rfl
  · intro k b a r h1 h2 p j f
    rw [rsSegs, spSegs, List.filterMap_append, List.filterMap_cons, h1, h2]
    rfl
/-- Where a row lies, of those below a row. -/
theorem rw_under (T : List PTok) : (∀ ks p i f, ∀ x ∈ rsItems T ks p i f, x.row = true → ∃ j m q, i ≤ j ∧ x.path = p ++ j :: m :: q) ∧ ∀ l p j f, ∀ x ∈ rsSegs T l p j f, x.row = true → ∃ j' q, j ≤ j' ∧ x.path = p ++ j' :: q := by
  refine rows_ind (P := fun ks => ∀ p i f, ∀ x ∈ rsItems T ks p i f, x.row = true → ∃ j m q, i ≤ j ∧ x.path = p ++ j :: m :: q) (Q := fun l => ∀ p j f, ∀ x ∈ rsSegs T l p j f, x.row = true → ∃ j' q, j ≤ j' ∧ x.path = p ++ j' :: q) ?_ ?_ ?_ ?_
  · intro p i f x hx; rw [rsItems] at hx; cases hx
  · intro n ns h1 h2 p i f x hx hr
    rw [rsItems] at hx
    rcases List.mem_cons.1 hx with rfl | hx
    · cases hr
    · rcases List.mem_append.1 hx with hx | hx
      · obtain ⟨j, q, _, h⟩ := h1 _ _ _ x hx hr
        exact ⟨i, j, q, Nat.le_refl _, by rw [h, List.append_assoc]; rfl⟩
      · obtain ⟨j, m, q, h3, h⟩ := h2 _ _ _ x hx hr
        exact ⟨j, m, q, by omega, h⟩
  · intro p j f x hx; rw [rsSegs] at hx; cases hx
  · intro k b a r h1 h2 p j f x hx hr
    rw [rsSegs] at hx
    rcases List.mem_append.1 hx with hx | hx
    · rcases List.mem_cons.1 hx with rfl | hx
      · exact ⟨j, [], Nat.le_refl _, rfl⟩
      · obtain ⟨m, m', q, _, h⟩ := h1 _ _ _ x hx hr
        exact ⟨j, m :: m' :: q, Nat.le_refl _, by rw [h, List.append_assoc]; rfl⟩
    · obtain ⟨j', q, h3, h⟩ := h2 _ _ _ x hx hr
      exact ⟨j', q, by omega, h⟩
theorem app_ne {i j : Nat} (h : i ≠ j) (p q r : Path) : p ++ i :: q ≠ p ++ j :: r := fun e => by
  have := List.append_cancel_left e
  rw [List.cons.injEq] at this
  exact h this.1
/-- No two rows have the same path. -/
theorem rw_apart (T : List PTok) : (∀ ks p i f, (rsItems T ks p i f).Pairwise fun x y => x.row = true → y.row = true → x.path ≠ y.path) ∧ ∀ l p j f, (rsSegs T l p j f).Pairwise fun x y => x.row = true → y.row = true → x.path ≠ y.path := by
  obtain ⟨u1, u2⟩ := rw_under T
  refine rows_ind (P := fun ks => ∀ p i f, (rsItems T ks p i f).Pairwise fun x y => x.row = true → y.row = true → x.path ≠ y.path) (Q := fun l => ∀ p j f, (rsSegs T l p j f).Pairwise fun x y => x.row = true → y.row = true → x.path ≠ y.path) ?_ ?_ ?_ ?_
  · intro p i f; rw [rsItems]; exact List.Pairwise.nil
  · intro n ns h1 h2 p i f
    rw [rsItems, List.pairwise_cons, List.pairwise_append]
    refine ⟨(fun _ _ h => by cases h), h1 _ _ _, h2 _ _ _, fun x hx y hy hxr hyr => ?_⟩
    obtain ⟨j, q, _, h⟩ := u2 _ _ _ _ x hx hxr
    obtain ⟨j', m', q', h3, h'⟩ := u1 _ _ _ _ y hy hyr
    rw [h, h', List.append_assoc]
    exact app_ne (by omega) p _ _
  · intro p j f; rw [rsSegs]; exact List.Pairwise.nil
  · intro k b a r h1 h2 p j f
    rw [rsSegs, List.pairwise_append, List.pairwise_cons]
    refine ⟨⟨fun x hx _ hr => ?_, h1 _ _ _⟩, h2 _ _ _, fun x hx y hy hxr hyr => ?_⟩
    · obtain ⟨m, m', q, _, h⟩ := u1 _ _ _ _ x hx hr
      rw [h]
      intro e
      have := congrArg List.length e
      simp at this
    · obtain ⟨j', q', h3, h'⟩ := u2 _ _ _ _ y hy hyr
      rw [h']
      rcases List.mem_cons.1 hx with rfl | hx
      · exact app_ne (by omega) p [] q'
      · obtain ⟨m, m', q, _, h⟩ := u1 _ _ _ _ x hx hxr
        rw [h, List.append_assoc]
        exact app_ne (by omega) p _ _
theorem rsRow_apart (T : List PTok) (ks : List Nd) (p : Path) (f : Nat) : (rsRow T ks p f).Pairwise fun x y => x.row = true → y.row = true → x.path ≠ y.path := by
  unfold rsRow
  rw [List.pairwise_cons]
  refine ⟨fun x hx _ hr => ?_, (rw_apart T).1 _ _ _ _⟩
  obtain ⟨m, m', q, _, h⟩ := (rw_under T).1 _ _ _ _ x hx hr
  rw [h]
  intro e
  have := congrArg List.length e
  simp at this
/-- A position is that of an item, or the end of a row. -/
theorem pos_cases (T : List PTok) : (∀ ks p i f f0 n0, f0 + n0 = f + (rowT ks).length → ∀ x ∈ posRow T ks p i f, (∃ y ∈ spRow T ks p i f, y.1 = x.1 ∧ y.2.1 = x.2) ∨ ∃ y ∈ (⟨p, true, 0, 0, f0, n0⟩ : RSp) :: rsItems T ks p i f, y.row = true ∧ (∃ m, x.1 = y.path ++ [m]) ∧ x.2 = endAt T (y.first + y.count)) ∧
    ∀ l p j f, ∀ x ∈ posSegs T l p j f, (∃ y ∈ spSegs T l p j f, y.1 = x.1 ∧ y.2.1 = x.2) ∨ ∃ y ∈ rsSegs T l p j f, y.row = true ∧ (∃ m, x.1 = y.path ++ [m]) ∧ x.2 = endAt T (y.first + y.count) := by
  refine rows_ind (P := fun ks => ∀ p i f f0 n0, f0 + n0 = f + (rowT ks).length → ∀ x ∈ posRow T ks p i f, (∃ y ∈ spRow T ks p i f, y.1 = x.1 ∧ y.2.1 = x.2) ∨ ∃ y ∈ (⟨p, true, 0, 0, f0, n0⟩ : RSp) :: rsItems T ks p i f, y.row = true ∧ (∃ m, x.1 = y.path ++ [m]) ∧ x.2 = endAt T (y.first + y.count))
    (Q := fun l => ∀ p j f, ∀ x ∈ posSegs T l p j f, (∃ y ∈ spSegs T l p j f, y.1 = x.1 ∧ y.2.1 = x.2) ∨ ∃ y ∈ rsSegs T l p j f, y.row = true ∧ (∃ m, x.1 = y.path ++ [m]) ∧ x.2 = endAt T (y.first + y.count)) ?_ ?_ ?_ ?_
  · intro p i f f0 n0 h0 x hx
    rw [posRow] at hx
    rcases List.mem_singleton.1 hx with rfl
    rw [rowT_nil] at h0
    exact .inr ⟨⟨p, true, 0, 0, f0, n0⟩, List.mem_cons_self .., rfl, ⟨i, rfl⟩, by show endAt T f = endAt T (f0 + n0); rw [h0]; rfl⟩
  · intro n ns h1 h2 p i f f0 n0 h0 x hx
    rw [posRow] at hx
    rw [spRow, rsItems]
    rw [rowT_cons, List.length_append] at h0
    rcases List.mem_cons.1 hx with rfl | hx
    · exact .inl ⟨_, List.mem_cons_self .., rfl, rfl⟩
    · rcases List.mem_append.1 hx with hx | hx
      · rcases h1 _ _ _ x hx with ⟨y, hy, h⟩ | ⟨y, hy, h⟩
        · exact .inl ⟨y, by simp [hy], h⟩
        · exact .inr ⟨y, by simp [hy], h⟩
      · rcases h2 _ _ _ f0 n0 (by omega) x hx with ⟨y, hy, h⟩ | ⟨y, hy, h⟩
        · exact .inl ⟨y, by simp [hy], h⟩
        · rcases List.mem_cons.1 hy with hy | hy
          · exact .inr ⟨y, by simp [hy], h⟩
          · exact .inr ⟨y, by simp [hy], h⟩
  · intro p j f x hx; rw [posSegs] at hx; cases hx
  · intro k b a r h1 h2 p j f x hx
    rw [posSegs] at hx
    rw [spSegs, rsSegs]
    rcases List.mem_append.1 hx with hx | hx
    · rcases h1 _ _ _ (f + k + b.toNat) (rowT a.kids).length rfl x hx with ⟨y, hy, h⟩ | ⟨y, hy, h⟩
      · exact .inl ⟨y, by simp [hy], h⟩
      · exact .inr ⟨y, List.mem_append_left _ hy, h⟩
    · rcases h2 _ _ _ x hx with ⟨y, hy, h⟩ | ⟨y, hy, h⟩
      · exact .inl ⟨y, by simp [hy], h⟩
      · exact .inr ⟨y, List.mem_append_right _ hy, h⟩

/-- What the reference's Offset returns at a position of a tree. -/
def refOff (T : List PTok) (l : List RSp) (pos : Path) : Nat :=
  match l.find? fun x => !x.row && (x.path == pos) with
  | some x => x.from_
  | none => match l.find? fun x => x.row && (x.path == pos.dropLast) && decide (0 < x.first + x.count) with
    | some x => endAt T (x.first + x.count)
    | none => 0
theorem find_apart {l : List RSp} (h : l.Pairwise fun x y => x.row = true → y.row = true → x.path ≠ y.path) {y : RSp} (hy : y ∈ l) (hr : y.row = true) (hc : 0 < y.first + y.count) :
    l.find? (fun x => x.row && (x.path == y.path) && decide (0 < x.first + x.count)) = some y := by
  induction l with
  | nil => cases hy
  | cons z l ih =>
    rw [List.pairwise_cons] at h
    rcases List.mem_cons.1 hy with rfl | hy
    · rw [List.find?_cons]; simp [hr, hc]
    · have hne : (z.row && (z.path == y.path) && decide (0 < z.first + z.count)) = false := by
        cases hz : z.row with
        | false => rfl
        | true =>
          have := h.1 y hy hz hr
          simp [this]
      rw [List.find?_cons, hne]
      exact ih h.2 hy
theorem same_row {l : List RSp} (h : l.Pairwise fun x y => x.row = true → y.row = true → x.path ≠ y.path) {x y : RSp} (hx : x ∈ l) (hy : y ∈ l) (hxr : x.row = true) (hyr : y.row = true) (hp : x.path = y.path) : x = y := by
  induction l with
  | nil => cases hx
  | cons z l ih =>
    rw [List.pairwise_cons] at h
    rcases List.mem_cons.1 hx with hx | hx
    · rcases List.mem_cons.1 hy with hy | hy
      · rw [hx, hy]
      · rw [hx] at hxr hp
        exact absurd hp (h.1 y hy hxr hyr)
    · rcases List.mem_cons.1 hy with hy | hy
      · rw [hy] at hyr hp
        exact absurd hp.symm (h.1 x hx hyr hxr)
      · exact ih h.2 hx hy
theorem find_gone {l : List RSp} (h : l.Pairwise fun x y => x.row = true → y.row = true → x.path ≠ y.path) {y : RSp} (hy : y ∈ l) (hr : y.row = true) (hc : y.first + y.count = 0) :
    l.find? (fun x => x.row && (x.path == y.path) && decide (0 < x.first + x.count)) = none := by
  rw [List.find?_eq_none]
  intro x hx
  by_cases hxr : x.row = true
  · by_cases hp : x.path = y.path
    · rw [same_row h hx hy hxr hr hp]
      simp [hc]
    · simp [hp]
  · simp [hxr]
theorem refOff_eq (T : List PTok) (ks : List Nd) {pos : Path} {v : Nat} (h : (pos, v) ∈ posRow T ks [] 0 0) : refOff T (rsRow T ks [] 0) pos = v := by
  have hs := (pos_sorted T).1 ks [] 0 0
  have hit : ∀ x ∈ rsRow T ks [] 0, x.row = false → (x.path, x.from_, x.to_) ∈ spRow T ks [] 0 0 := by
    intro x hx hr
    rw [← (rs_items T).1 ks [] 0 0]
    unfold rsRow at hx
    rcases List.mem_cons.1 hx with rfl | hx
    · cases hr
    · exact List.mem_filterMap.2 ⟨x, hx, by unfold RSp.item; rw [hr]; rfl⟩
  unfold refOff
  split
  · rename_i x hx
    have h1 := List.find?_some hx
    have h2 := List.mem_of_find?_eq_some hx
    simp at h1
    have h3 := (sp_pos T).1 _ _ _ _ _ (hit x h2 h1.1)
    have h4 := offOf_mem hs h3
    rw [h1.2, offOf_mem hs h] at h4
    exact (Option.some.inj h4).symm
  · rename_i hn
    rw [List.find?_eq_none] at hn
    rcases (pos_cases T).1 ks [] 0 0 0 (rowT ks).length rfl _ h with ⟨y, hy, h1, _⟩ | ⟨y, hy, hr, ⟨m, h1⟩, h2⟩
    · exfalso
      rw [← (rs_items T).1 ks [] 0 0] at hy
      obtain ⟨x, hx, hxy⟩ := List.mem_filterMap.1 hy
      have := hn x (by unfold rsRow; simp [hx])
      unfold RSp.item at hxy
      split at hxy
      · cases hxy
      · rename_i hxr
        simp at hxy hxr
        apply this
        rw [← hxy] at h1
        have h1' : x.path = pos := h1
        simp [hxr, h1']
    · have hd : pos.dropLast = y.path := by
        have : pos = y.path ++ [m] := h1
        rw [this, List.dropLast_concat]
      rw [hd]
      have hy' : y ∈ rsRow T ks [] 0 := hy
      rcases Nat.eq_zero_or_pos (y.first + y.count) with h0 | h0
      · rw [find_gone (rsRow_apart T ks [] 0) hy' hr h0]
        have h2' : v = endAt T (y.first + y.count) := h2
        rw [h2', h0]
        rfl
      · rw [find_apart (rsRow_apart T ks [] 0) hy' hr h0]
        exact h2.symm
end Go.Proofs.Ytdacpbdamliafaa.Tr

/- span.Offset. -/
namespace Go.Proofs.Ytdacpbdamliafaa
open Go.RowKit
open Tr (Nd Clo runRow rowT offC offG posRow)

/-! Closures that do nothing for items. -/
theorem noItem_any (v : Value) (pl : Nat) (w : World) : Calls Try.prog 22 (#[v, .int .i64 (pl : Int)] ++ #[]) w fun e w' => e = .returned (.func (.func 38) #[] #[]) ∧ w' = w := by
  have e : (#[v, .int .i64 (pl : Int)] ++ #[] : Array Value) = #[v, .int .i64 (pl : Int)] := by simp
  rw [e]
  go_enter Try.func22, Try.ntmps22
  go_wp2_with fail
  go_ret
  exact ⟨rfl, rfl⟩
theorem noItem1_any (pl : Nat) (w : World) : Calls Try.prog 38 (#[.int .i64 (pl : Int)] ++ #[]) w fun e w' => e = .returned (.tuple #[]) ∧ w' = w := by
  have e : (#[.int .i64 (pl : Int)] ++ #[] : Array Value) = #[.int .i64 (pl : Int)] := by simp
  rw [e]
  go_enter Try.func38, Try.ntmps38
  go_wp2_with fail
  first | go_end0 | refine bodyPost_ret (v := .tuple #[]) (results_none rfl _ _ _) rfl ?_
  exact ⟨rfl, rfl⟩
theorem Mc.refl (S : Nat → Prop) (w : World) : Mc S S w w := ⟨Touch.refl _ _, fun _ h => .inl h⟩

/-- A slice of numbers in old blocks. -/
def IntsB (B : Nat) (w : World) (v : Value) (l : List Int) : Prop :=
  ∃ A cap, v = .slice A l.length cap ∧ (l = [] ∨ ∃ g o, A = some ⟨g, o, none⟩ ∧ g < B ∧ ∀ i (h : i < l.length), w.cell? ⟨g, o + i, none⟩ = some (.int .i64 l[i]))
theorem Ints.old {w : World} {v : Value} {l : List Int} (h : Ints w v l) {B : Nat} (hB : w.heap.size ≤ B) : IntsB B w v l := by
  obtain ⟨A, cap, h, h'⟩ := h
  exact ⟨A, cap, h, h'.imp id fun ⟨g, o, h1, h2, h3⟩ => ⟨g, o, h1, Nat.lt_of_lt_of_le h2 hB, h3⟩⟩
theorem IntsB.touch {B : Nat} {S : Nat → Prop} {w w' : World} {v : Value} {l : List Int} (h : IntsB B w v l) (ht : Touch S w w') (hS : ∀ b, S b → B ≤ b) : IntsB B w' v l := by
  obtain ⟨A, cap, h, h'⟩ := h
  exact ⟨A, cap, h, h'.imp id fun ⟨g, o, h1, h2, h3⟩ => ⟨g, o, h1, h2, fun i hi => ht.cell (h3 i hi) fun e => by have := hS _ e; have h2' : g < B := h2; simp only at this; omega⟩⟩
theorem IntsB.ints {B : Nat} {w : World} {v : Value} {l : List Int} (h : IntsB B w v l) : Ints w v l := by
  obtain ⟨A, cap, h, h'⟩ := h
  refine ⟨A, cap, h, ?_⟩
  rcases h' with h' | ⟨g, o, h1, h2, h3⟩
  · exact .inl h'
  · cases l with
    | nil => exact .inl rfl
    | cons x l => exact .inr ⟨g, o, h1, block_lt_of_cell (h3 0 (by simp)), h3⟩

/-! Offset. -/
def posIs (pos : List Int) (p : List Nat) : Bool := decide (up p = pos)
/-- What Offset's closure knows: the result, whether it is found, and the position. -/
structure OffSt (W0 : World) (B rb fb pb : Nat) (posv : Value) (pos : List Int) (g tg : Nat) (s : Nat × Bool) (S : Nat → Prop) (w : World) : Prop where
  own : ∀ b, S b ↔ b = rb ∨ b = fb
  res : Blk w rb 3 #[.int .i64 (s.1 : Int)]
  found : Blk w fb 4 #[.bool s.2]
  posc : w.cell? ⟨pb, 0, none⟩ = some posv
  ints : IntsB W0.heap.size w posv pos
  lo : W0.heap.size ≤ rb ∧ W0.heap.size ≤ fb ∧ rb < B ∧ fb < B ∧ pb < B ∧ rb ≠ fb ∧ pb ≠ rb ∧ pb ≠ fb ∧ W0.heap.size ≤ B
  hg : B ≤ g
  htg : B ≤ tg
theorem OffSt.touch {W0 : World} {B rb fb pb : Nat} {posv : Value} {pos : List Int} {g tg : Nat} {s : Nat × Bool} {S : Nat → Prop} {w w' : World} (h : OffSt W0 B rb fb pb posv pos g tg s S w) {Q : Nat → Prop} (ht : Touch Q w w') (hQ : ∀ b, Q b → B ≤ b) : OffSt W0 B rb fb pb posv pos g tg s S w' := by
  obtain ⟨h1, h2, h3, h4, h5, h6, h7⟩ := h.lo
  refine ⟨h.own, ht.blk h.res fun e => by have := hQ _ e; omega, ht.blk h.found fun e => by have := hQ _ e; omega, ht.cell h.posc fun e => by have := hQ _ e; simp only at this; omega, h.ints.touch ht fun b hb => ?_, h.lo, h.hg, h.htg⟩
  have := hQ b hb
  omega

set_option maxRecDepth 100000 in
set_option maxHeartbeats 1000000 in
theorem off1_any {W0 : World} {B rb fb pb : Nat} {posv : Value} {pos : List Int} {g tg : Nat} {s : Nat × Bool} {S : Nat → Prop} {w : World} (h : OffSt W0 B rb fb pb posv pos g tg s S w) {p : List Nat} {v : Value} (pl : Nat) (hp : PathIn g S w v p) (hpl : p.length ≤ 1000) (hl : pos.length ≤ maxLen) :
    Calls Try.prog 19 (#[v, .int .i64 (pl : Int)] ++ #[.pointer (some ⟨fb, 0, none⟩), .pointer (some ⟨pb, 0, none⟩), .pointer (some ⟨rb, 0, none⟩)]) w
      fun e w' => e = .returned (.tuple #[]) ∧ ∃ S', OffSt W0 B rb fb pb posv pos g tg (offG (posIs pos) s p pl) S' w' ∧ Mc S S' w w' := by
  have e : (#[v, .int .i64 (pl : Int)] ++ #[.pointer (some ⟨fb, 0, none⟩), .pointer (some ⟨pb, 0, none⟩), .pointer (some ⟨rb, 0, none⟩)] : Array Value) = #[v, .int .i64 (pl : Int), .pointer (some ⟨fb, 0, none⟩), .pointer (some ⟨pb, 0, none⟩), .pointer (some ⟨rb, 0, none⟩)] := by simp
  rw [e]
  clear e
  obtain ⟨r, f⟩ := s
  have HS := hid h
  have q0 : w.cell? ⟨rb, 0, none⟩ = some (.int .i64 (r : Int)) := h.res.cell 0
  have z0 : w.frozen? ⟨rb, 0, none⟩ = false := h.res.frozen 0
  have q1 : w.cell? ⟨fb, 0, none⟩ = some (.bool f) := h.found.cell 0
  have z1 : w.frozen? ⟨fb, 0, none⟩ = false := h.found.frozen 0
  have q2 := h.posc
  obtain ⟨_, _, _, _, _, hne, _⟩ := h.lo
  obtain ⟨A, cap, rfl⟩ := h.ints.ints.slice
  have HP := hid hp
  have HPL := hid hpl
  have HL := hid hl
  obtain ⟨Ap, capp, rfl⟩ := hp.slice
  clear h hp hpl hl
  cases f with
  | true =>
    have HR := hid (show offG (posIs pos) (r, true) p pl = (r, true) from by unfold offG; rw [if_neg (by simp)])
    go_enter Try.func19, Try.ntmps19
    go_wp2_with fail
    go_end0
    exact ⟨rfl, S, by rw [HR.out]; exact HS.out, Mc.refl _ _⟩
  | false =>
    cases hd : posIs pos p with
    | false =>
      have HR := hid (show offG (posIs pos) (r, false) p pl = (r, false) from by unfold offG; rw [if_neg (by simp [hd])])
      have HD := hid (show decide (up p = pos) = false from hd)
      clear hd
      go_enter Try.func19, Try.ntmps19
      go_wp2_with fail
      refine (equal_ints (up p) pos _ _ _ HP.out.ints HS.out.ints.ints (by have := HPL.out; simp only [List.length_map]; unfold maxLen; omega) HL.out).mono ?_
      rintro _ w1 ⟨rfl, hf⟩
      rw [HD.out]
      have HF := hid hf
      clear hf
      go_wp2_with fail
      go_end0
      exact ⟨rfl, S, by rw [HR.out]; exact HS.out.touch HF.out (fun _ h => h.elim), ⟨HF.out.mono fun _ h => h.elim, fun _ h => .inl h⟩⟩
    | true =>
      have HR := hid (show offG (posIs pos) (r, false) p pl = (pl, true) from by unfold offG; rw [if_pos ⟨rfl, hd⟩])
      have HD := hid (show decide (up p = pos) = true from hd)
      clear hd
      go_enter Try.func19, Try.ntmps19
      go_wp2_with fail
      refine (equal_ints (up p) pos _ _ _ HP.out.ints HS.out.ints.ints (by have := HPL.out; simp only [List.length_map]; unfold maxLen; omega) HL.out).mono ?_
      rintro _ w1 ⟨rfl, hf⟩
      rw [HD.out]
      have HF := hid hf
      have HS1 := hid (HS.out.touch hf (fun _ h => h.elim))
      have r0 : w1.cell? ⟨rb, 0, none⟩ = some (.int .i64 (r : Int)) := HS1.out.res.cell 0
      have y0 : w1.frozen? ⟨rb, 0, none⟩ = false := HS1.out.res.frozen 0
      have r1 : w1.cell? ⟨fb, 0, none⟩ = some (.bool false) := HS1.out.found.cell 0
      have y1 : w1.frozen? ⟨fb, 0, none⟩ = false := HS1.out.found.frozen 0
      clear hf q0 q1 q2 z0 z1
      go_wp2_with fail
      go_end0
      refine ⟨rfl, S, ?_, ⟨((HF.out.mono fun _ h => h.elim).setCell (p := ⟨rb, 0, none⟩) (.inl ((HS.out.own _).2 (.inl rfl))) _).setCell (p := ⟨fb, 0, none⟩) (.inl ((HS.out.own _).2 (.inr rfl))) _, fun _ h => .inl h⟩⟩
      rw [HR.out]
      obtain ⟨l1, l2, l3, l4, l5, l6, l7, l8, l9⟩ := HS1.out.lo
      have ht : Touch (fun b => b = rb ∨ b = fb) w1 ((w1.setCell ⟨rb, 0, none⟩ (.int .i64 (pl : Int))).setCell ⟨fb, 0, none⟩ (.bool true)) := ((Touch.refl (fun b => b = rb ∨ b = fb) w1).setCell (p := ⟨rb, 0, none⟩) (.inl (.inl rfl)) _).setCell (p := ⟨fb, 0, none⟩) (.inl (.inr rfl)) _
      exact ⟨HS1.out.own, ((HS1.out.res.put 0 _).far (p := ⟨fb, 0, none⟩) l6 _), ((HS1.out.found.far (p := ⟨rb, 0, none⟩) (Ne.symm l6) _).put 0 _), ht.cell HS1.out.posc (fun e => e.elim l7 l8), HS1.out.ints.touch ht (fun b hb => by rcases hb with rfl | rfl <;> assumption), HS1.out.lo, HS1.out.hg, HS1.out.htg⟩

/-- The closures of Offset. -/
def offCls (W0 : World) (B rb fb pb : Nat) (posv : Value) (pos : List Int) : Cls (Nat × Bool) Unit :=
  ⟨offC (offG (posIs pos)), 22, #[], 19, #[.pointer (some ⟨fb, 0, none⟩), .pointer (some ⟨pb, 0, none⟩), .pointer (some ⟨rb, 0, none⟩)], OffSt W0 B rb fb pb posv pos, fun _ _ _ _ _ d cd => d = 38 ∧ cd = #[], fun _ => True, fun _ _ => True⟩
theorem printT_len_le (n : Nd) (hc : Tr.count n ≤ 800) : (printT n).length ≤ 100000 := by
  cases h : Tr.valid n with
  | true =>
    rw [printT_len n h]
    have := row_len n (Tr.valid_row n h)
    omega
  | false =>
    unfold printT
    rw [h]
    exact Nat.zero_le _
set_option maxRecDepth 100000 in
theorem offCls_good (W0 : World) (B rb fb pb : Nat) (posv : Value) (pos : List Int) (hl : pos.length ≤ maxLen) (n : Nd) (hc : Tr.count n ≤ 800) (g tg : Nat) (tv : Value) (hg : W0.heap.size ≤ g) : ((offCls W0 B rb fb pb posv pos).wk W0 g tg tv (printT n)).Good where
  len := printT_len_le n hc
  place := printT_place n hc
  far := hg
  lt := fun s S w b h hb => by
    have h' : OffSt W0 B rb fb pb posv pos g tg s S w := h
    obtain ⟨l1, l2, l3, l4, _⟩ := h'.lo
    have h1 := h'.res.lt
    have h2 := h'.found.lt
    have h3 := h'.hg
    have h4 := h'.htg
    show W0.heap.size ≤ b ∧ b < w.heap.size ∧ b ≠ g ∧ b ≠ tg
    rcases (h'.own b).1 hb with rfl | rfl <;> omega
  stmv := fun s S w w' h ht => by
    have h' : OffSt W0 B rb fb pb posv pos g tg s S w := h
    exact h'.touch ht fun b hb => by have : b = g := hb; have := h'.hg; omega
  dnmv := fun q S S' w w' d cd h _ => h
  off := fun s S w p v pl h hp hpl _ _ => off1_any h pl hp hpl hl
  item := fun s S w p v pl h hp hpl _ _ => (noItem_any v pl w).mono fun e w' ⟨he, hw⟩ => by
    subst hw
    exact ⟨_, _, S, he, h, Mc.refl _ _, rfl, rfl⟩
  done := fun s S w q d cd pl h hd _ _ _ => by
    obtain ⟨rfl, rfl⟩ := hd
    exact (noItem1_any pl w).mono fun e w' ⟨he, hw⟩ => by subst hw; exact ⟨he, S, h, Mc.refl _ _⟩
  kp0 := fun _ _ _ => trivial
  kpo := fun _ _ _ _ _ => trivial
  kpi := fun _ _ _ _ _ => trivial
  kpd := fun _ _ _ _ _ => trivial
  limo := fun _ _ _ _ => trivial
  limi := fun _ _ _ _ => trivial
  limd := fun _ _ _ _ => trivial
  callo := fun _ _ => by kernel_rfl
  calli := fun _ _ => by kernel_rfl
  calld := fun q S w d cd hd => by
    obtain ⟨rfl, rfl⟩ := hd
    exact fun _ _ => by kernel_rfl

/-- What Offset returns. -/
def offR (n : Nd) (pos : List Int) : Nat × Int :=
  if Tr.valid n then match (posRow (printT n) n.kids [] 0 0).find? fun x => posIs pos x.1 with | some x => (x.2, 0) | none => (0, 2) else (0, 1)
theorem low_fresh {W0 w : World} (h : Low W0 w) : Fresh W0 w := ⟨h.os, h.tape, h.output, h.size, fun k hk _ => h.block k hk (by omega)⟩
theorem Blk.new4 (w : World) (o o' o'' : Obj) (t : TypeId) (cs : Array Value) : Blk ((((w.alloc o).alloc o').alloc o'').alloc (.cells cs t)) (w.heap.size + 1 + 1 + 1) t cs := by
  have := Blk.new3 (w.alloc o) o' o'' t cs
  simpa using this

set_option maxRecDepth 100000 in
set_option maxHeartbeats 2000000 in
theorem offset_any (n : Nd) (sl posv : Value) (pos : List Int) (w : World) (hsl : RepL w n.kids sl) (ht : n.text.length ≤ maxLen) (hc : Tr.count n ≤ 800) (hpos : Ints w posv pos) (hl : pos.length ≤ maxLen) :
    Calls Try.prog 8 #[nv n sl, posv] w fun e w' => e = .returned (.tuple #[.int .i64 ((offR n pos).1 : Nat), .int .i64 (offR n pos).2]) ∧ Fresh w w' := by
  obtain ⟨A, cap, rfl⟩ := hsl.slice
  obtain ⟨Ap, capp, rfl⟩ := hpos.slice
  have HSL := hid hsl
  have HP := hid hpos
  have HL := hid hl
  have HC := hid hc
  clear hsl hpos hl hc
  have hmf : ∀ (fn : Fn) (first cap : Array Value) (w : World), (Instr.makeFunc fn first cap).run Try.prog w = .ok (.func fn first cap) w := fun _ _ _ _ => rfl
  cases hv : Tr.valid n with
  | false =>
    have HR := hid (show offR n pos = (0, 1) from by unfold offR; rw [hv]; rfl)
    have HV := hid hv
    clear hv
    go_enter Try.func8, Try.ntmps8
    go_wp2_with fail
    have hf1 : Fresh w ((((w.alloc (.cells #[.int .i64 n.kind, .string ⟨n.text.toArray⟩, .int .i64 n.cols, .slice A n.kids.length cap] 24)).alloc (.cells #[.slice Ap pos.length capp] 31)).alloc (.cells #[.int .i64 0] 3)).alloc (.cells #[.bool false] 4)) := ((((Touch.refl _ _).alloc _).alloc _).alloc _).alloc _
    generalize ((((w.alloc (.cells #[.int .i64 n.kind, .string ⟨n.text.toArray⟩, .int .i64 n.cols, .slice A n.kids.length cap] 24)).alloc (.cells #[.slice Ap pos.length capp] 31)).alloc (.cells #[.int .i64 0] 3)).alloc (.cells #[.bool false] 4)) = W1 at hf1 ⊢
    have HF1 := hid hf1
    clear hf1
    refine (walk_err n _ 22 19 #[] _ W1 (HSL.out.fresh HF1.out) ht HC.out HV.out).mono ?_
    rintro _ w2 ⟨rfl, hf⟩
    have HF2 := hid (HF1.out.trans hf)
    clear hf
    go_wp2_with fail
    go_ret2
    exact ⟨by rw [HR.out]; rfl, HF2.out⟩
  | true =>
    have HV := hid hv
    clear hv
    go_enter Try.func8, Try.ntmps8
    go_wp2_with fail
    have hf1 : Fresh w ((((w.alloc (.cells #[.int .i64 n.kind, .string ⟨n.text.toArray⟩, .int .i64 n.cols, .slice A n.kids.length cap] 24)).alloc (.cells #[.slice Ap pos.length capp] 31)).alloc (.cells #[.int .i64 0] 3)).alloc (.cells #[.bool false] 4)) := ((((Touch.refl _ _).alloc _).alloc _).alloc _).alloc _
    have hbf : Blk ((((w.alloc (.cells #[.int .i64 n.kind, .string ⟨n.text.toArray⟩, .int .i64 n.cols, .slice A n.kids.length cap] 24)).alloc (.cells #[.slice Ap pos.length capp] 31)).alloc (.cells #[.int .i64 0] 3)).alloc (.cells #[.bool false] 4)) (w.heap.size + 1 + 1 + 1) 4 #[.bool false] := Blk.new4 _ _ _ _ _ _
    have hbr : Blk ((((w.alloc (.cells #[.int .i64 n.kind, .string ⟨n.text.toArray⟩, .int .i64 n.cols, .slice A n.kids.length cap] 24)).alloc (.cells #[.slice Ap pos.length capp] 31)).alloc (.cells #[.int .i64 0] 3)).alloc (.cells #[.bool false] 4)) (w.heap.size + 1 + 1) 3 #[.int .i64 0] := (Blk.new3 _ _ _ _ _).alloc _
    have hbp : Blk ((((w.alloc (.cells #[.int .i64 n.kind, .string ⟨n.text.toArray⟩, .int .i64 n.cols, .slice A n.kids.length cap] 24)).alloc (.cells #[.slice Ap pos.length capp] 31)).alloc (.cells #[.int .i64 0] 3)).alloc (.cells #[.bool false] 4)) (w.heap.size + 1) 31 #[.slice Ap pos.length capp] := ((Blk.new2 _ _ _ _).alloc _).alloc _
    generalize ((((w.alloc (.cells #[.int .i64 n.kind, .string ⟨n.text.toArray⟩, .int .i64 n.cols, .slice A n.kids.length cap] 24)).alloc (.cells #[.slice Ap pos.length capp] 31)).alloc (.cells #[.int .i64 0] 3)).alloc (.cells #[.bool false] 4)) = W1 at hf1 hbf hbr hbp ⊢
    have HF1 := hid hf1
    have HOS := hid (fun (g tg : Nat) (w' : World) (h1 : W1.heap.size ≤ g) (h2 : W1.heap.size ≤ tg) (hf : Fresh W1 w') => (show OffSt w W1.heap.size (w.heap.size + 1 + 1) (w.heap.size + 1 + 1 + 1) (w.heap.size + 1) (.slice Ap pos.length capp) pos g tg (0, false) (fun b => b = w.heap.size + 1 + 1 ∨ b = w.heap.size + 1 + 1 + 1) w' from
      ⟨fun b => Iff.rfl, hf.blk hbr (fun h => h), hf.blk hbf (fun h => h), (hf.blk hbp (fun h => h)).cell 0, (HP.out.old (Nat.le_refl _)).touch (HF1.out.trans hf) (fun _ h => h.elim), by have := hbf.lt; refine ⟨?_, ?_, ?_, ?_, ?_, ?_, ?_, ?_, ?_⟩ <;> omega, h1, h2⟩))
    clear hf1 hbf hbr hbp
    refine (walk_ok (offCls w W1.heap.size (w.heap.size + 1 + 1) (w.heap.size + 1 + 1 + 1) (w.heap.size + 1) (.slice Ap pos.length capp) pos) w n _ W1 (0, false) _ HV.out HC.out ht ((Low.fresh (Touch.refl _ _) HF1.out)) HSL.out (fun g tg tv hg => offCls_good _ _ _ _ _ _ _ HL.out n HC.out g tg tv hg) (fun g tg w' h1 h2 _ _ hf => HOS.out g tg w' h1 h2 hf) trivial).mono ?_
    rintro _ w2 ⟨rfl, g, tg, S2, hg, hst, hlow, hmv⟩
    have hst' : OffSt w W1.heap.size (w.heap.size + 1 + 1) (w.heap.size + 1 + 1 + 1) (w.heap.size + 1) (.slice Ap pos.length capp) pos g tg (runRow (offC (offG (posIs pos))) (printT n) n.kids [] 0 0 (0, false)) S2 w2 := hst
    rw [(Tr.off_run (offG (posIs pos)) (printT n)).1, Tr.off_fold] at hst'
    have HF2 := hid (low_fresh hlow)
    cases hfd : (posRow (printT n) n.kids [] 0 0).find? fun x => posIs pos x.1 with
    | none =>
      rw [hfd] at hst'
      have HR := hid (show offR n pos = (0, 2) from by unfold offR; rw [if_pos HV.out, hfd])
      have r0 : w2.cell? ⟨w.heap.size + 1 + 1, 0, none⟩ = some (.int .i64 0) := hst'.res.cell 0
      have r1 : w2.cell? ⟨w.heap.size + 1 + 1 + 1, 0, none⟩ = some (.bool false) := hst'.found.cell 0
      clear hst' hst hmv hlow hfd
      go_wp2_with fail
      go_ret2
      exact ⟨by rw [HR.out]; rfl, HF2.out⟩
    | some x =>
      rw [hfd] at hst'
      have HR := hid (show offR n pos = (x.2, 0) from by unfold offR; rw [if_pos HV.out, hfd])
      have r0 : w2.cell? ⟨w.heap.size + 1 + 1, 0, none⟩ = some (.int .i64 (x.2 : Int)) := hst'.res.cell 0
      have r1 : w2.cell? ⟨w.heap.size + 1 + 1 + 1, 0, none⟩ = some (.bool true) := hst'.found.cell 0
      clear hst' hst hmv hlow hfd
      go_wp2_with fail
      go_ret2
      exact ⟨by rw [HR.out]; rfl, HF2.out⟩
end Go.Proofs.Ytdacpbdamliafaa

/- span.At. -/
namespace Go.Proofs.Ytdacpbdamliafaa
open Go.RowKit
open Tr (Nd Clo runRow rowT offC atG posRow)

theorem cmpI_up : ∀ p q : List Nat, cmpI (up p) (up q) = Tr.cmp p q
  | [], [] => rfl
  | [], _ :: _ => rfl
  | _ :: _, [] => rfl
  | a :: p, b :: q => by
    simp only [List.map_cons, cmpI, Tr.cmp]
    by_cases h1 : a < b
    · rw [if_pos (by omega), if_pos h1]
    · rw [if_neg (by omega), if_neg h1]
      by_cases h2 : b < a
      · rw [if_pos (by omega), if_pos h2]
      · rw [if_neg (by omega), if_neg h2]
        exact cmpI_up p q

/-- What At's closure knows: the best position and its place. -/
structure AtSt (W0 : World) (B mb bb ob : Nat) (k : Int) (g tg : Nat) (s : List Nat × Int) (S : Nat → Prop) (w : World) : Prop where
  own : ∀ b, S b ↔ b = mb ∨ b = bb
  most : Blk w mb 3 #[.int .i64 s.2]
  best : ∃ bv, Blk w bb 31 #[bv] ∧ PathIn g S w bv s.1 ∧ s.1.length ≤ 1000
  offc : w.cell? ⟨ob, 0, none⟩ = some (.int .i64 k)
  lo : W0.heap.size ≤ mb ∧ W0.heap.size ≤ bb ∧ mb < B ∧ bb < B ∧ ob < B ∧ mb ≠ bb ∧ ob ≠ mb ∧ ob ≠ bb ∧ W0.heap.size ≤ B
  hg : B ≤ g
  htg : B ≤ tg
  glt : g < w.heap.size
theorem AtSt.touch {W0 : World} {B mb bb ob : Nat} {k : Int} {g tg : Nat} {s : List Nat × Int} {S : Nat → Prop} {w w' : World} (h : AtSt W0 B mb bb ob k g tg s S w) (ht : Touch (fun b => b = g) w w') : AtSt W0 B mb bb ob k g tg s S w' := by
  obtain ⟨h1, h2, h3, h4, h5, h6, h7⟩ := h.lo
  have hg := h.hg
  obtain ⟨bv, hb, hp, hl⟩ := h.best
  exact ⟨h.own, ht.blk h.most fun e => by have : mb = g := e; omega, ⟨bv, ht.blk hb fun e => by have : bb = g := e; omega, hp.mv ⟨ht.mono fun _ => .inr, fun _ h => .inl h⟩, hl⟩, ht.cell h.offc fun e => by have : ob = g := e; omega, h.lo, h.hg, h.htg, Nat.lt_of_lt_of_le h.glt ht.size⟩
/-- The closure keeps another position. -/
theorem AtSt.put {W0 : World} {B mb bb ob : Nat} {k : Int} {g tg : Nat} {s : List Nat × Int} {S : Nat → Prop} {w w1 : World} (h : AtSt W0 B mb bb ob k g tg s S w) (hf : Fresh w w1) {v : Value} {p : List Nat} (hl : p.length ≤ 1000) (hr : w1.ownsRow w.heap.size 3 1 v (up p).length (intVs (up p))) (pl : Int) :
    AtSt W0 B mb bb ob k g tg (p, pl) S ((w1.setCell ⟨bb, 0, none⟩ v).setCell ⟨mb, 0, none⟩ (.int .i64 pl)) ∧ Mc S S w ((w1.setCell ⟨bb, 0, none⟩ v).setCell ⟨mb, 0, none⟩ (.int .i64 pl)) := by
  obtain ⟨l1, l2, l3, l4, l5, l6, l7, l8, l9⟩ := h.lo
  have hS : ∀ b, S b → b < w.heap.size := fun b hb => by
    have h1 := h.most.lt
    obtain ⟨bv, h2, _⟩ := h.best
    have h2 := h2.lt
    rcases (h.own b).1 hb with rfl | rfl <;> assumption
  have ht : Touch S w1 ((w1.setCell ⟨bb, 0, none⟩ v).setCell ⟨mb, 0, none⟩ (.int .i64 pl)) := ((Touch.refl S w1).setCell (p := ⟨bb, 0, none⟩) (.inl ((h.own bb).2 (.inr rfl))) _).setCell (p := ⟨mb, 0, none⟩) (.inl ((h.own mb).2 (.inl rfl))) _
  have hp := PathIn.new (g := g) (S := S) (p := p) hS h.glt hr
  obtain ⟨bv, hb, _, _⟩ := h.best
  have hm1 : Mv g S S w1 ((w1.setCell ⟨bb, 0, none⟩ v).setCell ⟨mb, 0, none⟩ (.int .i64 pl)) := ⟨ht.mono fun _ => .inl, fun _ h => .inl h⟩
  refine ⟨⟨h.own, ((hf.blk h.most (fun h => h)).far (p := ⟨bb, 0, none⟩) l6 _).put 0 _, ⟨v, ((hf.blk hb (fun h => h)).put 0 _).far (p := ⟨mb, 0, none⟩) (Ne.symm l6) _, hp.mv hm1, hl⟩, ht.cell (hf.cell h.offc (fun h => h)) fun e => ((h.own _).1 e).elim l7 l8, h.lo, h.hg, h.htg, Nat.lt_of_lt_of_le h.glt (Nat.le_trans hf.size ht.size)⟩, ⟨(hf.mono fun _ h => h.elim).trans ht, fun _ h => .inl h⟩⟩

set_option maxRecDepth 100000 in
set_option maxHeartbeats 2000000 in
theorem at1_any {W0 : World} {B mb bb ob : Nat} {k : Int} {g tg : Nat} {s : List Nat × Int} {S : Nat → Prop} {w : World} (h : AtSt W0 B mb bb ob k g tg s S w) {p : List Nat} {v : Value} (pl : Nat) (hp : PathIn g S w v p) (hpl : p.length ≤ 1000) :
    Calls Try.prog 23 (#[v, .int .i64 (pl : Int)] ++ #[.pointer (some ⟨ob, 0, none⟩), .pointer (some ⟨mb, 0, none⟩), .pointer (some ⟨bb, 0, none⟩)]) w
      fun e w' => e = .returned (.tuple #[]) ∧ ∃ S', AtSt W0 B mb bb ob k g tg (atG k s p pl) S' w' ∧ Mc S S' w w' := by
  have e : (#[v, .int .i64 (pl : Int)] ++ #[.pointer (some ⟨ob, 0, none⟩), .pointer (some ⟨mb, 0, none⟩), .pointer (some ⟨bb, 0, none⟩)] : Array Value) = #[v, .int .i64 (pl : Int), .pointer (some ⟨ob, 0, none⟩), .pointer (some ⟨mb, 0, none⟩), .pointer (some ⟨bb, 0, none⟩)] := by simp
  rw [e]
  clear e
  obtain ⟨best, most⟩ := s
  have HS := hid h
  obtain ⟨bv, hbb, hbp, hbl⟩ := h.best
  obtain ⟨Ab, capb, rfl⟩ := hbp.slice
  have q0 : w.cell? ⟨mb, 0, none⟩ = some (.int .i64 most) := h.most.cell 0
  have z0 : w.frozen? ⟨mb, 0, none⟩ = false := h.most.frozen 0
  have q1 : w.cell? ⟨bb, 0, none⟩ = some (.slice Ab best.length capb) := hbb.cell 0
  have z1 : w.frozen? ⟨bb, 0, none⟩ = false := hbb.frozen 0
  have q2 := h.offc
  obtain ⟨_, _, _, _, _, hne, _⟩ := h.lo
  have HP := hid hp
  have HPL := hid hpl
  have HBP := hid hbp
  have HBL := hid hbl
  obtain ⟨Ap, capp, rfl⟩ := hp.slice
  have hput : ∀ (W1 : World) (v' : Value), Fresh w W1 → W1.ownsRow w.heap.size 3 1 v' (up p).length (intVs (up p)) → AtSt W0 B mb bb ob k g tg (p, (pl : Int)) S ((W1.setCell ⟨bb, 0, none⟩ v').setCell ⟨mb, 0, none⟩ (.int .i64 (pl : Int))) ∧ Mc S S w ((W1.setCell ⟨bb, 0, none⟩ v').setCell ⟨mb, 0, none⟩ (.int .i64 (pl : Int))) := fun W1 v' hf hr => h.put hf hpl hr (pl : Int)
  have HPUT := hid hput
  have h1 := h.most.lt
  have h2 := hbb.lt
  clear h hp hpl hbb hbp hbl hput
  by_cases c1 : k < (pl : Int)
  · have b1 : decide (k < (pl : Int)) = true := by simp [c1]
    have HR := hid (show atG k (best, most) p pl = (best, most) from by unfold atG; rw [if_pos (.inl c1)])
    go_enter Try.func23, Try.ntmps23
    go_wp2_with fail
    first | go_end0 | refine bodyPost_ret (v := .tuple #[]) (results_none rfl _ _ _) rfl ?_
    exact ⟨rfl, S, by rw [HR.out]; exact HS.out, Mc.refl _ _⟩
  · have b1 : decide (k < (pl : Int)) = false := by simp; omega
    by_cases c2 : (pl : Int) < most
    · have b2 : decide ((pl : Int) < most) = true := by simp [c2]
      have HR := hid (show atG k (best, most) p pl = (best, most) from by unfold atG; rw [if_pos (.inr c2)])
      go_enter Try.func23, Try.ntmps23
      go_wp2_with fail
      first | go_end0 | refine bodyPost_ret (v := .tuple #[]) (results_none rfl _ _ _) rfl ?_
      exact ⟨rfl, S, by rw [HR.out]; exact HS.out, Mc.refl _ _⟩
    · have b2 : decide ((pl : Int) < most) = false := by simp; omega
      by_cases c3 : most < (pl : Int)
      · have b3 : decide (most < (pl : Int)) = true := by simp [c3]
        have HR := hid (show atG k (best, most) p pl = (p, (pl : Int)) from by unfold atG; rw [if_neg (by simp; omega), if_pos (.inl c3)])
        go_enter Try.func23, Try.ntmps23
        go_wp2_with fail
        refine (ints_any (up p) _ _ HP.out.ints (by have := HPL.out; simp only [List.length_map]; omega)).mono ?_
        rintro _ w1 ⟨v', rfl, ho, hf⟩
        have HX := hid (HPUT.out w1 v' hf ho)
        have q0' := hf.cell q0 (fun h => h)
        have q1' := hf.cell q1 (fun h => h)
        have z0' := (hf.frozen (p := ⟨mb, 0, none⟩) h1 (fun h => h)).trans z0
        have z1' := (hf.frozen (p := ⟨bb, 0, none⟩) h2 (fun h => h)).trans z1
        obtain ⟨Av, capv, rfl⟩ : ∃ A c, v' = .slice A (up p).length c := (Ints.own ho).slice
        clear q0 q1 q2 z0 z1 ho hf
        go_wp2_with fail
        first | go_end0 | refine bodyPost_ret (v := .tuple #[]) (results_none rfl _ _ _) rfl ?_
        exact ⟨rfl, S, by rw [HR.out]; have := HX.out.1; rw [List.length_map] at this; exact this, by have := HX.out.2; rw [List.length_map] at this; exact this⟩
      · have b3 : decide (most < (pl : Int)) = false := by simp; omega
        by_cases c4 : Tr.cmp p best < 0
        · have HR := hid (show atG k (best, most) p pl = (p, (pl : Int)) from by unfold atG; rw [if_neg (by simp; omega), if_pos (.inr c4)])
          have b4 : decide (Tr.cmp p best < 0) = true := by simp [c4]
          go_enter Try.func23, Try.ntmps23
          go_wp2_with fail
          refine (pcompare_ints (up p) (up best) _ _ _ HP.out.ints HBP.out.ints (by have := HPL.out; simp only [List.length_map]; unfold maxLen; omega) (by have := HBL.out; simp only [List.length_map]; unfold maxLen; omega)).mono ?_
          rw [cmpI_up]
          rintro _ w0 ⟨rfl, hf0⟩
          have HF0 := hid hf0
          have HP0 := hid (HP.out.mv (Mv.fresh hf0))
          have q0' := hf0.cell q0 (fun h => h)
          have q1' := hf0.cell q1 (fun h => h)
          have z0' := (hf0.frozen (p := ⟨mb, 0, none⟩) h1 (fun h => h)).trans z0
          have z1' := (hf0.frozen (p := ⟨bb, 0, none⟩) h2 (fun h => h)).trans z1
          have h1' := Nat.lt_of_lt_of_le h1 hf0.size
          have h2' := Nat.lt_of_lt_of_le h2 hf0.size
          clear q0 q1 q2 z0 z1 hf0
          go_wp2_with fail
          refine (ints_any (up p) _ _ HP0.out.ints (by have := HPL.out; simp only [List.length_map]; omega)).mono ?_
          rintro _ w1 ⟨v', rfl, ho, hf⟩
          have HX := hid (HPUT.out w1 v' (HF0.out.trans hf) (ownsRow_low ho HF0.out.size))
          have q0'' := hf.cell q0' (fun h => h)
          have q1'' := hf.cell q1' (fun h => h)
          have z0'' := (hf.frozen (p := ⟨mb, 0, none⟩) h1' (fun h => h)).trans z0'
          have z1'' := (hf.frozen (p := ⟨bb, 0, none⟩) h2' (fun h => h)).trans z1'
          obtain ⟨Av, capv, rfl⟩ : ∃ A c, v' = .slice A (up p).length c := (Ints.own ho).slice
          clear q0' q1' z0' z1' ho hf
          go_wp2_with fail
          first | go_end0 | refine bodyPost_ret (v := .tuple #[]) (results_none rfl _ _ _) rfl ?_
          exact ⟨rfl, S, by rw [HR.out]; have := HX.out.1; rw [List.length_map] at this; exact this, by have := HX.out.2; rw [List.length_map] at this; exact this⟩
        · have HR := hid (show atG k (best, most) p pl = (best, most) from by unfold atG; rw [if_neg (by simp; omega), if_neg (by simp; omega)])
          have b4 : decide (Tr.cmp p best < 0) = false := by simp; omega
          go_enter Try.func23, Try.ntmps23
          go_wp2_with fail
          refine (pcompare_ints (up p) (up best) _ _ _ HP.out.ints HBP.out.ints (by have := HPL.out; simp only [List.length_map]; unfold maxLen; omega) (by have := HBL.out; simp only [List.length_map]; unfold maxLen; omega)).mono ?_
          rw [cmpI_up]
          rintro _ w0 ⟨rfl, hf0⟩
          have HF0 := hid hf0
          clear hf0
          go_wp2_with fail
          first | go_end0 | refine bodyPost_ret (v := .tuple #[]) (results_none rfl _ _ _) rfl ?_
          exact ⟨rfl, S, by rw [HR.out]; exact HS.out.touch (HF0.out.mono fun _ h => h.elim), ⟨HF0.out.mono fun _ h => h.elim, fun _ h => .inl h⟩⟩

/-- The closures of At. -/
def atCls (W0 : World) (B mb bb ob : Nat) (k : Int) : Cls (List Nat × Int) Unit :=
  ⟨offC (atG k), 22, #[], 23, #[.pointer (some ⟨ob, 0, none⟩), .pointer (some ⟨mb, 0, none⟩), .pointer (some ⟨bb, 0, none⟩)], AtSt W0 B mb bb ob k, fun _ _ _ _ _ d cd => d = 38 ∧ cd = #[], fun _ => True, fun _ _ => True⟩
set_option maxRecDepth 100000 in
theorem atCls_good (W0 : World) (B mb bb ob : Nat) (k : Int) (n : Nd) (hc : Tr.count n ≤ 800) (g tg : Nat) (tv : Value) (hg : W0.heap.size ≤ g) : ((atCls W0 B mb bb ob k).wk W0 g tg tv (printT n)).Good where
  len := printT_len_le n hc
  place := printT_place n hc
  far := hg
  lt := fun s S w b h hb => by
    have h' : AtSt W0 B mb bb ob k g tg s S w := h
    obtain ⟨l1, l2, l3, l4, _⟩ := h'.lo
    have h1 := h'.most.lt
    obtain ⟨bv, h2, _⟩ := h'.best
    have h2 := h2.lt
    have h3 := h'.hg
    have h4 := h'.htg
    show W0.heap.size ≤ b ∧ b < w.heap.size ∧ b ≠ g ∧ b ≠ tg
    rcases (h'.own b).1 hb with rfl | rfl <;> omega
  stmv := fun s S w w' h ht => by
    have h' : AtSt W0 B mb bb ob k g tg s S w := h
    exact h'.touch ht
  dnmv := fun q S S' w w' d cd h _ => h
  off := fun s S w p v pl h hp hpl _ _ => at1_any h pl hp hpl
  item := fun s S w p v pl h hp hpl _ _ => (noItem_any v pl w).mono fun e w' ⟨he, hw⟩ => by
    subst hw
    exact ⟨_, _, S, he, h, Mc.refl _ _, rfl, rfl⟩
  done := fun s S w q d cd pl h hd _ _ _ => by
    obtain ⟨rfl, rfl⟩ := hd
    exact (noItem1_any pl w).mono fun e w' ⟨he, hw⟩ => by subst hw; exact ⟨he, S, h, Mc.refl _ _⟩
  kp0 := fun _ _ _ => trivial
  kpo := fun _ _ _ _ _ => trivial
  kpi := fun _ _ _ _ _ => trivial
  kpd := fun _ _ _ _ _ => trivial
  limo := fun _ _ _ _ => trivial
  limi := fun _ _ _ _ => trivial
  limd := fun _ _ _ _ => trivial
  callo := fun _ _ => by kernel_rfl
  calli := fun _ _ => by kernel_rfl
  calld := fun q S w d cd hd => by
    obtain ⟨rfl, rfl⟩ := hd
    exact fun _ _ => by kernel_rfl

/-- What At returns. -/
def atP (n : Nd) (k : Int) : List Nat := if Tr.valid n = true ∧ 0 ≤ k ∧ k ≤ (printS n).length then ((posRow (printT n) n.kids [] 0 0).foldl (fun s x => atG k s x.1 x.2) ([], -1)).1 else []
def atE (n : Nd) (k : Int) : Int := if Tr.valid n = true then (if 0 ≤ k ∧ k ≤ (printS n).length then 0 else 2) else 1
def AtOf (n : Nd) (k : Int) (w : World) (e : Ending) (w' : World) : Prop := ∃ v, e = .returned (.tuple #[v, .int .i64 (atE n k)]) ∧ Ints w' v (up (atP n k)) ∧ Fresh w w'
theorem printS_le (n : Nd) (hc : Tr.count n ≤ 800) : (printS n).length ≤ 1000000 := by
  unfold printS
  split
  · rename_i h
    have hf := (row_fits n (Tr.valid_row n h) hc).2
    rw [adds_wtext] at hf
    exact hf
  · simp

set_option maxRecDepth 100000 in
set_option maxHeartbeats 2000000 in
theorem at_any (n : Nd) (sl : Value) (k : Int) (w : World) (hsl : RepL w n.kids sl) (ht : n.text.length ≤ maxLen) (hc : Tr.count n ≤ 800) :
    Calls Try.prog 9 #[nv n sl, .int .i64 k] w (AtOf n k w) := by
  obtain ⟨A, cap, rfl⟩ := hsl.slice
  have HSL := hid hsl
  have HC := hid hc
  have HPR := hid (fun (w : World) (hr : RepL w n.kids (.slice A n.kids.length cap)) => print_any n _ w hr ht hc)
  have HPL := hid (printS_le n hc)
  have hmf : ∀ (fn : Fn) (first cap : Array Value) (w : World), (Instr.makeFunc fn first cap).run Try.prog w = .ok (.func fn first cap) w := fun _ _ _ _ => rfl
  clear hsl hc
  cases hv : Tr.valid n with
  | false =>
    have HE := hid (show printE n = 1 from by unfold printE; rw [hv]; rfl)
    have HA := hid (show atE n k = 1 ∧ atP n k = [] from by unfold atE atP; rw [hv]; simp)
    clear hv
    go_enter Try.func9, Try.ntmps9
    go_wp2_with fail
    refine (HPR.out _ (HSL.out.fresh (((Touch.refl _ _).alloc _).alloc _))).mono ?_
    rintro _ w1 ⟨rfl, hf⟩
    have HF := hid (show Fresh w w1 from Touch.pre (Touch.pre hf))
    clear hf
    rw [HE.out]
    go_wp2_with fail
    go_ret2
    exact ⟨.slice none 0 0, by rw [HA.out.1]; rfl, by rw [HA.out.2]; exact Ints.nil _ _ _, HF.out⟩
  | true =>
    have HV := hid hv
    have HE := hid (show printE n = 0 from by unfold printE; rw [hv]; rfl)
    clear hv
    have hsz : (⟨(printS n).toArray⟩ : ByteArray).size = (printS n).length := by simp [ByteArray.size]
    by_cases c1 : k < 0
    · have b1 : decide (k < 0) = true := by simp [c1]
      have HA := hid (show atE n k = 2 ∧ atP n k = [] from by unfold atE atP; rw [if_pos HV.out, if_neg (by omega), if_neg (by omega)]; exact ⟨rfl, rfl⟩)
      go_enter Try.func9, Try.ntmps9
      go_wp2_with fail
      refine (HPR.out _ (HSL.out.fresh (((Touch.refl _ _).alloc _).alloc _))).mono ?_
      rintro _ w1 ⟨rfl, hf⟩
      have HF := hid (show Fresh w w1 from Touch.pre (Touch.pre hf))
      have q1 : w1.cell? ⟨w.heap.size + 1, 0, none⟩ = some (.int .i64 k) := (hf.blk (Blk.new2 w _ _ _) (fun h => h)).cell 0
      clear hf
      rw [HE.out]
      go_wp2_with fail
      go_ret2
      exact ⟨.slice none 0 0, by rw [HA.out.1]; rfl, by rw [HA.out.2]; exact Ints.nil _ _ _, HF.out⟩
    · have b1 : decide (k < 0) = false := by simp; omega
      by_cases c2 : ((printS n).length : Int) < k
      · have b2 : decide (((printS n).length : Int) < k) = true := by simp [c2]
        have HA := hid (show atE n k = 2 ∧ atP n k = [] from by unfold atE atP; rw [if_pos HV.out, if_neg (by omega), if_neg (by omega)]; exact ⟨rfl, rfl⟩)
        go_enter Try.func9, Try.ntmps9
        go_wp2_with fail
        refine (HPR.out _ (HSL.out.fresh (((Touch.refl _ _).alloc _).alloc _))).mono ?_
        rintro _ w1 ⟨rfl, hf⟩
        have HF := hid (show Fresh w w1 from Touch.pre (Touch.pre hf))
        have q1 : w1.cell? ⟨w.heap.size + 1, 0, none⟩ = some (.int .i64 k) := (hf.blk (Blk.new2 w _ _ _) (fun h => h)).cell 0
        clear hf
        rw [HE.out]
        go_wp2_with fail
        go_ret2
        exact ⟨.slice none 0 0, by rw [HA.out.1]; rfl, by rw [HA.out.2]; exact Ints.nil _ _ _, HF.out⟩
      · have b2 : decide (((printS n).length : Int) < k) = false := by simp; omega
        have HA := hid (show atE n k = 0 ∧ atP n k = ((posRow (printT n) n.kids [] 0 0).foldl (fun s x => atG k s x.1 x.2) ([], -1)).1 from by unfold atE atP; rw [if_pos HV.out, if_pos (by omega), if_pos ⟨HV.out, by omega⟩]; exact ⟨rfl, rfl⟩)
        go_enter Try.func9, Try.ntmps9
        go_wp2_with fail
        refine (HPR.out _ (HSL.out.fresh (((Touch.refl _ _).alloc _).alloc _))).mono ?_
        rintro _ w1 ⟨rfl, hf⟩
        have HF := hid (show Fresh w w1 from Touch.pre (Touch.pre hf))
        have q1 : w1.cell? ⟨w.heap.size + 1, 0, none⟩ = some (.int .i64 k) := (hf.blk (Blk.new2 w _ _ _) (fun h => h)).cell 0
        obtain ⟨p0, p1, p2, p3, _, _, _, _, hp4⟩ := Blk.four (hf.blk ((Blk.new w _ _).alloc _) (fun h => h))
        have hg1 : w.heap.size + 1 < w1.heap.size := (hf.blk (Blk.new2 w _ _ _) (fun h => h)).lt
        clear hf
        rw [HE.out]
        go_wp2_with fail
        have hf2 : Fresh w1 ((w1.alloc (.cells #[.slice none 0 0] 31)).alloc (.cells #[.int .i64 (-1)] 3)) := ((Touch.refl _ _).alloc _).alloc _
        have hbm : Blk ((w1.alloc (.cells #[.slice none 0 0] 31)).alloc (.cells #[.int .i64 (-1)] 3)) (w1.heap.size + 1) 3 #[.int .i64 (-1)] := Blk.new2 _ _ _ _
        have hbb : Blk ((w1.alloc (.cells #[.slice none 0 0] 31)).alloc (.cells #[.int .i64 (-1)] 3)) w1.heap.size 31 #[.slice none 0 0] := (Blk.new _ _ _).alloc _
        generalize ((w1.alloc (.cells #[.slice none 0 0] 31)).alloc (.cells #[.int .i64 (-1)] 3)) = W2 at hf2 hbm hbb ⊢
        have HF2 := hid (HF.out.trans hf2)
        have q2 := hf2.cell q1 (fun h => h)
        have HOS := hid (fun (g tg : Nat) (w' : World) (h1 : W2.heap.size ≤ g) (h2 : W2.heap.size ≤ tg) (h3 : g < w'.heap.size) (hf : Fresh W2 w') => (show AtSt w W2.heap.size (w1.heap.size + 1) w1.heap.size (w.heap.size + 1) k g tg ([], -1) (fun b => b = w1.heap.size + 1 ∨ b = w1.heap.size) w' from
          ⟨fun b => Iff.rfl, hf.blk hbm (fun h => h), ⟨_, hf.blk hbb (fun h => h), PathIn.nil _ _ _, by simp⟩, hf.cell q2 (fun h => h), by have := hbm.lt; have := HF.out.size; refine ⟨?_, ?_, ?_, ?_, ?_, ?_, ?_, ?_, ?_⟩ <;> omega, h1, h2, h3⟩))
        clear hf2 hbm hbb
        refine (walk_ok (atCls w W2.heap.size (w1.heap.size + 1) w1.heap.size (w.heap.size + 1) k) w n _ W2 ([], -1) _ HV.out HC.out ht ((Low.fresh (Touch.refl _ _) HF2.out)) HSL.out (fun g tg tv hg => atCls_good _ _ _ _ _ _ n HC.out g tg tv hg) (fun g tg w' h1 h2 h3 _ hf => HOS.out g tg w' h1 h2 h3 hf) trivial).mono ?_
        rintro _ w3 ⟨rfl, g, tg, S3, hg, hst, hlow, hmv⟩
        have hst' : AtSt w W2.heap.size (w1.heap.size + 1) w1.heap.size (w.heap.size + 1) k g tg (runRow (offC (atG k)) (printT n) n.kids [] 0 0 ([], -1)) S3 w3 := hst
        rw [(Tr.off_run (atG k) (printT n)).1] at hst'
        have HF3 := hid (low_fresh hlow)
        obtain ⟨bv, hbb3, hbp3, _⟩ := hst'.best
        rw [← HA.out.2] at hbp3
        have HI3 := hid hbp3.ints
        obtain ⟨Ab, capb, rfl⟩ := hbp3.slice
        have r0 : w3.cell? ⟨w1.heap.size, 0, none⟩ = some (.slice Ab (atP n k).length capb) := hbb3.cell 0
        clear hst' hst hmv hlow hbb3 hbp3 q1 q2 p0 p1 p2 p3
        go_wp2_with fail
        go_ret2
        exact ⟨_, by rw [HA.out.1]; rfl, HI3.out, HF3.out⟩
end Go.Proofs.Ytdacpbdamliafaa

/- span.Items. -/
namespace Go.Proofs.Ytdacpbdamliafaa
open Go.RowKit
open Tr (Nd Clo runRow rowT itemsC spRow)
attribute [local go_sem] stillV stillUpon

abbrev Spn := List Nat × Nat × Nat
/-- A slice with its capacity. -/
def Roomy (v : Value) (n : Nat) : Prop := ∃ A cap, v = .slice A n cap ∧ n ≤ cap ∧ cap ≤ maxLen
theorem Roomy.own {w : World} {B n k : Nat} {e : TypeId} {v : Value} {cs : List Value} (h : w.ownsRow B e k v n cs) : Roomy v n := by
  rcases h.2 with ⟨h1, h2⟩ | ⟨b, cap, cur, h1, _, _, h2, h3, _⟩
  · exact ⟨none, 0, by rw [h1, h2], by omega, by decide⟩
  · exact ⟨_, cap, h1, h2, h3⟩
structure PathR (g : Nat) (S : Nat → Prop) (w : World) (v : Value) (p : List Nat) : Prop where
  path : PathIn g S w v p
  room : Roomy v p.length
theorem PathR.mv {g : Nat} {S S' : Nat → Prop} {w w' : World} {v : Value} {p : List Nat} (h : PathR g S w v p) (m : Mv g S S' w w') : PathR g S' w' v p := ⟨h.path.mv m, h.room⟩
/-- Numbers with their capacity. -/
structure IntsR (w : World) (v : Value) (l : List Int) : Prop where
  ints : Ints w v l
  room : Roomy v l.length
theorem PathR.ints {g : Nat} {S : Nat → Prop} {w : World} {v : Value} {p : List Nat} (h : PathR g S w v p) : IntsR w v (up p) := ⟨h.path.ints, by rw [List.length_map]; exact h.room⟩
theorem IntsR.fresh {w w' : World} {v : Value} {l : List Int} (h : IntsR w v l) (hf : Fresh w w') : IntsR w' v l := ⟨h.ints.fresh hf, h.room⟩
/-- The cells of spans; their paths lie in blocks that closures don't turn. -/
def SpansAt (g : Nat) (S : Nat → Prop) (w : World) : List Spn → List Value → Prop
  | [], cs => cs = []
  | x :: xs, cs => ∃ pv ds, cs = pv :: .int .i64 (x.2.1 : Int) :: .int .i64 (x.2.2 : Int) :: ds ∧ PathR g S w pv x.1 ∧ SpansAt g S w xs ds
theorem SpansAt.mv {g : Nat} {S S' : Nat → Prop} {w w' : World} (m : Mv g S S' w w') : ∀ {s : List Spn} {cs : List Value}, SpansAt g S w s cs → SpansAt g S' w' s cs
  | [], _, h => h
  | _ :: _, _, ⟨pv, ds, h, hp, hd⟩ => ⟨pv, ds, h, hp.mv m, hd.mv m⟩
theorem SpansAt.snoc {g : Nat} {S : Nat → Prop} {w : World} {x : Spn} {pv : Value} (hp : PathR g S w pv x.1) : ∀ {s : List Spn} {cs : List Value}, SpansAt g S w s cs → SpansAt g S w (s ++ [x]) (cs ++ [pv, .int .i64 (x.2.1 : Int), .int .i64 (x.2.2 : Int)])
  | [], cs, h => by rw [show cs = [] from h]; exact ⟨pv, [], rfl, hp, rfl⟩
  | y :: s, cs, ⟨qv, ds, h, hq, hd⟩ => by
    subst h
    exact ⟨qv, ds ++ _, rfl, hq, hd.snoc hp⟩
theorem SpansAt.length {g : Nat} {S : Nat → Prop} {w : World} : ∀ {s : List Spn} {cs : List Value}, SpansAt g S w s cs → cs.length = s.length * 3
  | [], cs, h => by rw [show cs = [] from h]; rfl
  | _ :: s, _, ⟨pv, ds, h, hp, hd⟩ => by
    have := hd.length
    rw [h]
    simp only [List.length_cons]
    omega
theorem SpansAt.set {g : Nat} {S : Nat → Prop} {w : World} (pl : Nat) : ∀ {s : List Spn} {cs : List Value} (q : Nat), q < s.length → SpansAt g S w s cs → SpansAt g S w (s.modify q fun x => (x.1, x.2.1, pl)) (cs.set (q * 3 + 2) (.int .i64 (pl : Int)))
  | [], _, q, hq, _ => by simp at hq
  | x :: s, cs, q, hq, ⟨pv, ds, h, hp, hd⟩ => by
    subst h
    cases q with
    | zero => exact ⟨pv, ds, rfl, hp, hd⟩
    | succ q =>
      refine ⟨pv, ds.set (q * 3 + 2) (.int .i64 (pl : Int)), ?_, hp, ?_⟩
      · rw [show (q + 1) * 3 + 2 = (q * 3 + 2) + 1 + 1 + 1 by omega]; rfl
      · exact hd.set pl q (by simpa using hq)
theorem PathR.one {g : Nat} {S : Nat → Prop} {w : World} {v : Value} {p : List Nat} (h : PathR g S w v p) : v.oneCell' = true := by
  obtain ⟨A, cap, rfl, _⟩ := h.room
  rfl
theorem SpansAt.oneCell {g : Nat} {S : Nat → Prop} {w : World} : ∀ {s : List Spn} {cs : List Value}, SpansAt g S w s cs → ∀ u ∈ cs, u.oneCell' = true
  | [], cs, h, u, hu => by rw [show cs = [] from h] at hu; cases hu
  | _ :: s, _, ⟨pv, ds, h, hp, hd⟩, u, hu => by
    rw [h] at hu
    rcases List.mem_cons.1 hu with rfl | hu
    · exact hp.one
    · rcases List.mem_cons.1 hu with rfl | hu
      · rfl
      · rcases List.mem_cons.1 hu with rfl | hu
        · rfl
        · exact hd.oneCell u hu
theorem infoSpan : (Try.prog.info? 43).map (fun i => (i.zero, i.size, i.bytes)) = some (some (.agg #[.slice none 0 0, .int .i64 0, .int .i64 0]), 3, 40) := by kernel_rfl

/-- What the closures of Items keep. -/
structure ItemsSt (W0 : World) (B sb : Nat) (g tg : Nat) (s : List Spn) (S : Nat → Prop) (w : World) : Prop where
  row : ∃ v cs, Blk w sb 39 #[v] ∧ w.ownsRow B 43 3 v s.length cs ∧ SpansAt g S w s cs ∧ (∀ b, S b ↔ b = sb ∨ v.ownBlock = some b) ∧ ∀ b, v.ownBlock = some b → b ≠ g ∧ b ≠ tg
  lo : W0.heap.size ≤ sb ∧ sb < B ∧ W0.heap.size ≤ B
  hg : B ≤ g
  htg : B ≤ tg
  glt : g < w.heap.size
  tlt : tg < w.heap.size
theorem ItemsSt.touch {W0 : World} {B sb g tg : Nat} {s : List Spn} {S : Nat → Prop} {w w' : World} (h : ItemsSt W0 B sb g tg s S w) (ht : Touch (fun b => b = g) w w') : ItemsSt W0 B sb g tg s S w' := by
  obtain ⟨v, cs, h1, h2, h3, h4, h5⟩ := h.row
  have := h.lo
  have := h.hg
  exact ⟨⟨v, cs, ht.blk h1 (fun e => by have : sb = g := e; omega), ownsRow_touch h2 ht (fun b hb => (h5 b hb).1), h3.mv ⟨ht.mono fun _ => .inr, fun _ h => .inl h⟩, h4, h5⟩, h.lo, h.hg, h.htg, Nat.lt_of_lt_of_le h.glt ht.size, Nat.lt_of_lt_of_le h.tlt ht.size⟩
theorem ItemsSt.slt {W0 : World} {B sb g tg : Nat} {s : List Spn} {S : Nat → Prop} {w : World} (h : ItemsSt W0 B sb g tg s S w) : ∀ b, S b → W0.heap.size ≤ b ∧ b < w.heap.size ∧ b ≠ g ∧ b ≠ tg := by
  obtain ⟨v, cs, h1, h2, h3, h4, h5⟩ := h.row
  have l1 := h.lo
  have l2 := h.hg
  have l3 := h.htg
  have l4 := h1.lt
  intro b hb
  rcases (h4 b).1 hb with rfl | hb
  · omega
  · have := h2.lt b hb
    have := h5 b hb
    omega

/-- What the closure at the end of an item needs. -/
def DnI (sb g : Nat) (q : Nat) (S : Nat → Prop) (w : World) (d : Nat) (cd : Array Value) : Prop :=
  ∃ ib, d = 30 ∧ cd = #[.pointer (some ⟨sb, 0, none⟩), .pointer (some ⟨ib, 0, none⟩)] ∧ Blk w ib 3 #[.int .i64 (q : Int)] ∧ ¬ S ib ∧ ib ≠ g
theorem DnI.mv {sb g q : Nat} {S S' : Nat → Prop} {w w' : World} {d : Nat} {cd : Array Value} (h : DnI sb g q S w d cd) (m : Mv g S S' w w') : DnI sb g q S' w' d cd := by
  obtain ⟨ib, h1, h2, h3, h4, h5⟩ := h
  obtain ⟨h6, h7⟩ := m.blk h3 h4 h5
  exact ⟨ib, h1, h2, h6, h7, h5⟩
theorem noOff_any (v : Value) (pl : Nat) (w : World) : Calls Try.prog 31 (#[v, .int .i64 (pl : Int)] ++ #[]) w fun e w' => e = .returned (.tuple #[]) ∧ w' = w := by
  have e : (#[v, .int .i64 (pl : Int)] ++ #[] : Array Value) = #[v, .int .i64 (pl : Int)] := by simp
  rw [e]
  go_enter Try.func31, Try.ntmps31
  go_wp2_with fail
  first | go_end0 | refine bodyPost_ret (v := .tuple #[]) (results_none rfl _ _ _) rfl ?_
  exact ⟨rfl, rfl⟩
theorem owns_slice {W : World} {B e size n : Nat} {v : Value} {xs : List Value} (h : W.ownsRow B e size v n xs) : ∃ A c, v = .slice A n c := by
  rcases h.2 with ⟨h1, h2⟩ | ⟨g, cap, cur, h1, _⟩
  · exact ⟨none, 0, by rw [h1, h2]⟩
  · exact ⟨_, _, h1⟩

set_option maxRecDepth 100000 in
set_option maxHeartbeats 2000000 in
theorem items1_any {W0 : World} {B sb g tg : Nat} {s : List Spn} {S : Nat → Prop} {w : World} (h : ItemsSt W0 B sb g tg s S w) {p : List Nat} {v : Value} (pl : Nat) (hp : PathIn g S w v p) (hpl : p.length ≤ 1000) (hlim : s.length + 1 ≤ 100000) :
    Calls Try.prog 29 (#[v, .int .i64 (pl : Int)] ++ #[.pointer (some ⟨sb, 0, none⟩)]) w
      fun e w' => ∃ d cd S', e = .returned (.func (.func d) #[] cd) ∧ ItemsSt W0 B sb g tg (s ++ [(p, pl, 0)]) S' w' ∧ Mc S S' w w' ∧ DnI sb g s.length S' w' d cd := by
  have e : (#[v, .int .i64 (pl : Int)] ++ #[.pointer (some ⟨sb, 0, none⟩)] : Array Value) = #[v, .int .i64 (pl : Int), .pointer (some ⟨sb, 0, none⟩)] := by simp
  rw [e]
  clear e
  obtain ⟨i, hi, hz0, hz1, hz2⟩ := info_parts infoSpan
  have hmf : ∀ (fn : Fn) (first cap : Array Value) (w : World), (Instr.makeFunc fn first cap).run Try.prog w = .ok (.func fn first cap) w := fun _ _ _ _ => rfl
  have HS := hid h
  obtain ⟨rv, cs, hb, ho, hcs, hS, hne⟩ := h.row
  obtain ⟨Ar, capr, rfl⟩ := owns_slice ho
  obtain ⟨Ap, capp, rfl⟩ := hp.slice
  have q0 : w.cell? ⟨sb, 0, none⟩ = some (.slice Ar s.length capr) := hb.cell 0
  have hsbw := hb.lt
  have HP := hid hp
  have HPL := hid hpl
  have HLIM := hid hlim
  have HSD := hid hS
  have HNE := hid hne
  have HB := hid hb
  have HO := hid ho
  have HCS := hid hcs
  clear h hp hpl hlim hS hne hb ho hcs
  go_enter Try.func29, Try.ntmps29
  go_wp2_with fail
  refine forget_world (fun W => Fresh w W ∧ Blk W w.heap.size 3 #[.int .i64 (s.length : Int)]) ⟨(Touch.refl _ _).alloc _, Blk.new _ _ _⟩ ?_
  rintro W1 ⟨hf1, hbi⟩
  have HF1 := hid hf1
  have HBI := hid hbi
  have hiw := hbi.lt
  have q1 := hf1.cell q0 (fun h => h)
  have HP1 := hid (HP.out.mv (Mv.fresh hf1))
  have g1 := cell_regrown q1
  clear q0 hf1 hbi
  refine wp_region_mix [([(0, true), (1, true), (3, true), (2, false), (4, true), (5, false)], 6), ([], 7)] [] (by kernel_rfl) (fun _ _ d _ _ h => by cases d <;> exact h) (by kernel_rfl) ?_
  refine wpMix_seg ?_
  repeat (refine wpSeq_plain rfl (fun K hK => ?_); go_simp; refine hK _ ?_; clear hK K)
  refine wpSeq_lone rfl (fun K hK => ?_)
  go_wp2_with fail
  refine (ints_any (up p) _ _ (HP1.out.ints.fresh (show Fresh W1 _ from (Touch.refl _ _).drewN _)) (by have := HPL.out; simp only [List.length_map]; omega)).mono ?_
  rintro _ W2 ⟨v2, rfl, ho2, hf2⟩
  have hS1 : ∀ b, S b → b < W1.heap.size := fun b hb => Nat.lt_of_lt_of_le (HS.out.slt b hb).2.1 HF1.out.size
  have HP2 := hid (show PathR g S W2 v2 p from ⟨PathIn.new (g := g) (S := S) (p := p) hS1 (Nat.lt_of_lt_of_le HS.out.glt HF1.out.size) ho2, by have := Roomy.own ho2; rw [List.length_map] at this; exact this⟩)
  obtain ⟨A2, cap2, rfl⟩ := HP2.out.path.slice
  have HF2 := hid (show Fresh W1 W2 from Touch.ofN hf2)
  clear ho2 hf2
  go_wp2_with fail
  refine hK _ _ (growing_fresh HF2.out) ?_
  clear hK K
  repeat (refine wpSeq_plain rfl (fun K hK => ?_); go_simp; refine hK _ ?_; clear hK K)
  refine wpSeq_lone rfl (fun K hK => ?_)
  go_wp2_with fail
  refine hK _ _ (growing_fresh (HF2.out.alloc _)) ?_
  clear hK K
  have HB3 := hid (show Blk (W2.alloc (.cells #[.slice A2 p.length cap2, .int .i64 (pl : Int), .int .i64 0] 43)) W2.heap.size 43 #[.slice A2 p.length cap2, .int .i64 (pl : Int), .int .i64 0] from Blk.new _ _ _)
  have HF3 := hid (show Fresh W2 (W2.alloc (.cells #[.slice A2 p.length cap2, .int .i64 (pl : Int), .int .i64 0] 43)) from (Touch.refl _ _).alloc _)
  generalize (W2.alloc (.cells #[.slice A2 p.length cap2, .int .i64 (pl : Int), .int .i64 0] 43)) = W3 at *
  have HO3 := hid (ownsRow_touch HO.out ((HF1.out.trans HF2.out).trans HF3.out) (fun _ _ h => h))
  refine wpSeq_shut rfl (fun K hK => ?_)
  go_wp2_with (at_builtin; refine wpList_append_src _ rfl (.tmp 9) (.tmp 14) 39 rfl B 43 i _ 3 40 rfl hi hz0 hz1 hz2 rfl (by decide) (.slice Ar s.length capr) s.length cs (by simp [Act.eval]) HO3.out (.slice (some ⟨W2.heap.size, 0, none⟩) 1 1) 1 [.slice A2 p.length cap2, .int .i64 (pl : Int), .int .i64 0] (by simp [Act.eval]) (Src.of_blk HB3.out rfl) (by intro u hu; simp at hu; rcases hu with rfl | rfl | rfl <;> rfl) (by have := HLIM.out; unfold maxLen; omega) (by have := HLIM.out; omega) (by have := HS.out.hg; have := HS.out.glt; have := ((HF1.out.trans HF2.out).trans HF3.out).size; omega) ?_; intro v4 W4 ho4 hg4 hv4; refine Stay.mk ?_)
  obtain ⟨A4, cap4, rfl⟩ := owns_slice ho4
  have HF03 := hid ((HF1.out.trans HF2.out).trans HF3.out)
  have HT34 := hid (show Touch (fun k => (Value.slice Ar s.length capr).ownBlock = some k) W3 W4 from (Touch.refl _ _).grown hg4 fun g h => .inl h)
  have hsb : ¬ (Value.slice Ar s.length capr).ownBlock = some sb := fun e => by have := (HO3.out.lt sb e).1; have := HS.out.lo; omega
  have HB4 := hid (HT34.out.blk (HF03.out.blk HB.out (fun h => h)) hsb)
  have HTS := hid (show Touch S w W4 from ((HF03.out.mono (fun _ h => h.elim)).trans' HT34.out fun k hk => .inl ((HSD.out k).2 (.inr hk))))
  have q4 : W4.cell? ⟨sb, 0, none⟩ = some (.slice Ar s.length capr) := HB4.out.cell 0
  have z4 : W4.frozen? ⟨sb, 0, none⟩ = false := HB4.out.frozen 0
  have HO4 := hid ho4
  have HV4 := hid hv4
  clear ho4 hg4 hv4 q1 g1 hsb
  refine Stay.go ?_
  go_wp2_with fail
  refine wpMix_seg ?_
  refine wpSeq_shut rfl (fun K hK => ?_)
  go_wp2_with fail
  refine wpMix_end ?_
  go_wp2_with fail
  go_ret
  have hl := HS.out.lo
  have hs4 : S sb := (HSD.out sb).2 (.inl rfl)
  have HTF : Touch S w (W4.setCell ⟨sb, 0, none⟩ (.slice A4 (s.length + 1) cap4)) := HTS.out.setCell (p := ⟨sb, 0, none⟩) (.inl hs4) _
  have hgr : ∀ b, (b = sb ∨ (Value.slice A4 (s.length + 1) cap4).ownBlock = some b) → S b ∨ W3.heap.size ≤ b := by
    rintro b (rfl | hb)
    · exact .inl hs4
    · rcases HV4.out with e | e
      · exact .inl ((HSD.out b).2 (.inr (by rw [← e]; exact hb)))
      · rw [e] at hb
        exact .inr (by simp only [Option.some.injEq] at hb; omega)
  have ht3 : Touch S W3 (W4.setCell ⟨sb, 0, none⟩ (.slice A4 (s.length + 1) cap4)) := (HT34.out.mono fun k hk => (HSD.out k).2 (.inr hk)).setCell (p := ⟨sb, 0, none⟩) (.inl hs4) _
  have hm3 : Mv g S (fun b => b = sb ∨ (Value.slice A4 (s.length + 1) cap4).ownBlock = some b) W3 (W4.setCell ⟨sb, 0, none⟩ (.slice A4 (s.length + 1) cap4)) := ⟨ht3.mono fun _ => .inl, hgr⟩
  have h03 : Mv g S S w W3 := Mv.fresh HF03.out
  have hszs : W3.heap.size ≤ (W4.setCell ⟨sb, 0, none⟩ (.slice A4 (s.length + 1) cap4)).heap.size := ht3.size
  have hglt := HS.out.glt
  have htlt := HS.out.tlt
  have hws := HF03.out.size
  refine ⟨_, _, fun b => b = sb ∨ (Value.slice A4 (s.length + 1) cap4).ownBlock = some b, rfl, ⟨⟨.slice A4 (s.length + 1) cap4, cs ++ [.slice A2 p.length cap2, .int .i64 (pl : Int), .int .i64 0], HB4.out.put 0 _, ?_, ?_, fun _ => Iff.rfl, ?_⟩, HS.out.lo, HS.out.hg, HS.out.htg, by omega, by omega⟩, ⟨HTF, fun b hb => (hgr b hb).imp id (fun h => by omega)⟩, ⟨w.heap.size, rfl, rfl, ?_⟩⟩
  · rw [List.length_append]
    exact ownsRow_touch HO4.out ((Touch.refl (fun b => b = sb) W4).setCell (p := ⟨sb, 0, none⟩) (.inl rfl) _) fun k hk e => by
      have h1 := (HO4.out.lt k hk).1
      have : k = sb := e
      omega
  · exact ((HCS.out.mv h03).mv hm3).snoc (x := (p, pl, 0)) ((HP2.out.mv (Mv.fresh HF3.out)).mv hm3)
  · intro b hb
    rcases HV4.out with e | e
    · exact HNE.out b (by rw [← e]; exact hb)
    · rw [e] at hb
      simp only [Option.some.injEq] at hb
      omega
  · have hwS : ¬ S w.heap.size := fun e => by have := (HS.out.slt _ e).2.1; omega
    obtain ⟨b1, b2⟩ := Mv.blk ((Mv.fresh (HF2.out.trans HF3.out)).trans hm3) HBI.out hwS (by omega)
    exact ⟨b1, b2, by omega⟩

set_option maxRecDepth 100000 in
set_option maxHeartbeats 1000000 in
theorem items11_any {W0 : World} {B sb g tg : Nat} {s : List Spn} {S : Nat → Prop} {w : World} (h : ItemsSt W0 B sb g tg s S w) (q d : Nat) (cd : Array Value) (pl : Nat) (hd : DnI sb g q S w d cd) (hq : q < s.length) (_hlim : s.length ≤ 100000) :
    Calls Try.prog d (#[.int .i64 (pl : Int)] ++ cd) w
      fun e w' => e = .returned (.tuple #[]) ∧ ∃ S', ItemsSt W0 B sb g tg (s.modify q fun x => (x.1, x.2.1, pl)) S' w' ∧ Mc S S' w w' := by
  obtain ⟨ib, rfl, rfl, hbi, hib, hig⟩ := hd
  have e : (#[.int .i64 (pl : Int)] ++ #[.pointer (some ⟨sb, 0, none⟩), .pointer (some ⟨ib, 0, none⟩)] : Array Value) = #[.int .i64 (pl : Int), .pointer (some ⟨sb, 0, none⟩), .pointer (some ⟨ib, 0, none⟩)] := by simp
  rw [e]
  clear e
  have HS := hid h
  obtain ⟨rv, cs, hb, ho, hcs, hS, hne⟩ := h.row
  obtain ⟨g', cap, hv, hBg⟩ : ∃ g' cap, rv = .slice (some ⟨g', 0, none⟩) s.length cap ∧ B ≤ g' := by
    rcases ho.2 with ⟨_, h2⟩ | ⟨g', cap, cur, h1, h2, _⟩
    · omega
    · exact ⟨g', cap, h1, h2⟩
  subst hv
  have hlen := hcs.length
  have HST := hid (ho.stored (q * 3 + 2) (.int .i64 (pl : Int)))
  have q0 : w.cell? ⟨sb, 0, none⟩ = some (.slice (some ⟨g', 0, none⟩) s.length cap) := hb.cell 0
  have q1 : w.cell? ⟨ib, 0, none⟩ = some (.int .i64 (q : Int)) := hbi.cell 0
  have z2 := ho.frozenAt (q * 3 + 2)
  have q2 : ∃ x, w.cell? ⟨g', q * 3 + 2, none⟩ = some x := by
    rw [ho.cellAt (q * 3 + 2) (by omega), List.getElem?_eq_getElem (by omega)]
    exact ⟨_, rfl⟩
  obtain ⟨x2, q2⟩ := q2
  have hqi : (q : Int) < (s.length : Int) := by omega
  have HB := hid hb
  have HCS := hid hcs
  have HSD := hid hS
  have HNE := hid hne
  have HQ := hid hq
  have hl := HS.out.lo
  clear h hb ho hcs hS hne hbi hib hig
  go_enter Try.func30, Try.ntmps30
  go_wp2_with fail
  first | go_end0 | refine bodyPost_ret (v := .tuple #[]) (results_none rfl _ _ _) rfl ?_
  have ht : Touch S w (w.setCell ⟨g', q * 3 + 2, none⟩ (.int .i64 (pl : Int))) := (Touch.refl S w).setCell (p := ⟨g', q * 3 + 2, none⟩) (.inl ((HSD.out g').2 (.inr rfl))) _
  have hm : Mv g S S w (w.setCell ⟨g', q * 3 + 2, none⟩ (.int .i64 (pl : Int))) := ⟨ht.mono fun _ => .inl, fun _ h => .inl h⟩
  refine ⟨rfl, S, ⟨⟨.slice (some ⟨g', 0, none⟩) s.length cap, _, HB.out.far (p := ⟨g', q * 3 + 2, none⟩) (by show sb ≠ g'; omega) _, ?_, (HCS.out.mv hm).set pl q HQ.out, HSD.out, HNE.out⟩, HS.out.lo, HS.out.hg, HS.out.htg, Nat.lt_of_lt_of_le HS.out.glt ht.size, Nat.lt_of_lt_of_le HS.out.tlt ht.size⟩, ⟨ht, fun _ h => .inl h⟩⟩
  rw [List.length_modify]
  exact HST.out.1

/-- The closures of Items. -/
def itemsCls (W0 : World) (B sb : Nat) : Cls (List Spn) Nat :=
  ⟨itemsC, 29, #[.pointer (some ⟨sb, 0, none⟩)], 31, #[], ItemsSt W0 B sb, fun g _ => DnI sb g, fun s => s.length ≤ 100000, fun q s => q < s.length⟩
set_option maxRecDepth 100000 in
theorem itemsCls_good (W0 : World) (B sb : Nat) (n : Nd) (hc : Tr.count n ≤ 800) (g tg : Nat) (tv : Value) (hg : W0.heap.size ≤ g) : ((itemsCls W0 B sb).wk W0 g tg tv (printT n)).Good where
  len := printT_len_le n hc
  place := printT_place n hc
  far := hg
  lt := fun s S w b h hb => (show ItemsSt W0 B sb g tg s S w from h).slt b hb
  stmv := fun s S w w' h ht => (show ItemsSt W0 B sb g tg s S w from h).touch ht
  dnmv := fun q S S' w w' d cd h m => (show DnI sb g q S w d cd from h).mv m
  off := fun s S w p v pl h _ _ _ _ => (noOff_any v pl w).mono fun e w' ⟨he, hw⟩ => by subst hw; exact ⟨he, S, h, Mc.refl _ _⟩
  item := fun s S w p v pl h hp hpl _ hl => items1_any h pl hp hpl (by
    have : (s ++ [(p, pl, 0)]).length ≤ 100000 := hl
    simpa using this)
  done := fun s S w q d cd pl h hd hq _ hl => items11_any h q d cd pl hd hq (by
    have : (s.modify q fun x => (x.1, x.2.1, pl)).length ≤ 100000 := hl
    simpa using this)
  kp0 := fun s p pl => by show s.length < (s ++ [(p, pl, 0)]).length; simp
  kpo := fun _ _ _ _ h => h
  kpi := fun q s p pl h => by
    have h' : q < s.length := h
    show q < (s ++ [(p, pl, 0)]).length
    simp; omega
  kpd := fun q s q' pl h => by
    have h' : q < s.length := h
    show q < (s.modify q' fun x => (x.1, x.2.1, pl)).length
    simpa using h'
  limo := fun _ _ _ h => h
  limi := fun s p pl h => by
    have h' : (s ++ [(p, pl, 0)]).length ≤ 100000 := h
    show s.length ≤ 100000
    simp at h'; omega
  limd := fun s q pl h => by
    have h' : (s.modify q fun x => (x.1, x.2.1, pl)).length ≤ 100000 := h
    show s.length ≤ 100000
    simpa using h'
  callo := fun _ _ => by kernel_rfl
  calli := fun _ _ => by kernel_rfl
  calld := fun q S w d cd hd => by
    obtain ⟨ib, rfl, rfl, _⟩ := hd
    exact fun _ _ => by kernel_rfl

/-- The spans of a tree's items. -/
def spansOf (n : Nd) : List Spn := if Tr.valid n then spRow (printT n) n.kids [] 0 0 else []
/-- The cells of spans. -/
def SpnAt (w : World) : List Spn → List Value → Prop
  | [], cs => cs = []
  | x :: xs, cs => ∃ pv ds, cs = pv :: .int .i64 (x.2.1 : Int) :: .int .i64 (x.2.2 : Int) :: ds ∧ IntsR w pv (up x.1) ∧ SpnAt w xs ds
theorem SpansAt.spn {g : Nat} {S : Nat → Prop} {w : World} : ∀ {s : List Spn} {cs : List Value}, SpansAt g S w s cs → SpnAt w s cs
  | [], _, h => h
  | _ :: _, _, ⟨pv, ds, h, hp, hd⟩ => ⟨pv, ds, h, hp.ints, hd.spn⟩
theorem SpnAt.fresh {w w' : World} (hf : Fresh w w') : ∀ {s : List Spn} {cs : List Value}, SpnAt w s cs → SpnAt w' s cs
  | [], _, h => h
  | _ :: _, _, ⟨pv, ds, h, hp, hd⟩ => ⟨pv, ds, h, hp.fresh hf, hd.fresh hf⟩
theorem SpnAt.get {w : World} : ∀ {s : List Spn} {cs : List Value}, SpnAt w s cs → ∀ i (hi : i < s.length), ∃ pv, cs[i * 3]? = some pv ∧ cs[i * 3 + 1]? = some (.int .i64 (s[i].2.1 : Int)) ∧ cs[i * 3 + 2]? = some (.int .i64 (s[i].2.2 : Int)) ∧ IntsR w pv (up s[i].1)
  | [], _, _, i, hi => by simp at hi
  | x :: s, cs, ⟨pv, ds, h, hp, hd⟩, i, hi => by
    subst h
    cases i with
    | zero => exact ⟨pv, rfl, rfl, rfl, hp⟩
    | succ i =>
      obtain ⟨qv, h1, h2, h3, h4⟩ := hd.get i (by simpa using hi)
      refine ⟨qv, ?_, ?_, ?_, h4⟩
      · rw [show (i + 1) * 3 = i * 3 + 3 by omega]; exact h1
      · rw [show (i + 1) * 3 + 1 = i * 3 + 1 + 3 by omega]; exact h2
      · rw [show (i + 1) * 3 + 2 = i * 3 + 2 + 3 by omega]; exact h3
def ItemsOf (n : Nd) (w : World) (e : Ending) (w' : World) : Prop := ∃ v cs, e = .returned (.tuple #[v, .int .i64 (printE n)]) ∧ w'.ownsRow w.heap.size 43 3 v (spansOf n).length cs ∧ SpnAt w' (spansOf n) cs ∧ Fresh w w'

theorem sp_count (T : List Lx.PTok) : (∀ ks p i f, (spRow T ks p i f).length ≤ Tr.countL ks) ∧ ∀ l p j f, (Tr.spSegs T l p j f).length ≤ Tr.countL (Tr.rowsOf l) := by
  refine Tr.rows_ind (P := fun ks => ∀ p i f, (spRow T ks p i f).length ≤ Tr.countL ks) (Q := fun l => ∀ p j f, (Tr.spSegs T l p j f).length ≤ Tr.countL (Tr.rowsOf l)) ?_ ?_ ?_ ?_
  · intro p i f; rw [spRow]; simp
  · intro n ns h1 h2 p i f
    rw [spRow, Tr.countL, Tr.count_kids]
    have h3 := h1 (p ++ [i]) 0 f
    have h4 := h2 p (i + 1) (f + (Tr.itemT n).length)
    rw [Tr.segs_rows] at h3
    simp only [List.length_cons, List.length_append]
    omega
  · intro p j f; rw [Tr.spSegs]; simp
  · intro k b a r h1 h2 p j f
    rw [Tr.spSegs, List.length_append]
    have h3 := h1 (p ++ [j]) 0 (f + k + b.toNat)
    have h4 := h2 p (j + 1) (f + Tr.segLen (k, b, a))
    have h5 : Tr.rowsOf ((k, b, a) :: r) = a :: Tr.rowsOf r := rfl
    rw [h5, Tr.countL, Tr.count_kids]
    omega
theorem spans_few (n : Nd) (hc : Tr.count n ≤ 800) : (spansOf n).length ≤ 800 := by
  unfold spansOf
  split
  · have h1 := (sp_count (printT n)).1 n.kids [] 0 0
    have h2 := Tr.count_kids n
    omega
  · simp

set_option maxRecDepth 100000 in
set_option maxHeartbeats 2000000 in
theorem items_any (n : Nd) (sl : Value) (w : World) (hsl : RepL w n.kids sl) (ht : n.text.length ≤ maxLen) (hc : Tr.count n ≤ 800) :
    Calls Try.prog 12 #[nv n sl] w (ItemsOf n w) := by
  obtain ⟨A, cap, rfl⟩ := hsl.slice
  have HSL := hid hsl
  have HC := hid hc
  clear hsl hc
  have hmf : ∀ (fn : Fn) (first cap : Array Value) (w : World), (Instr.makeFunc fn first cap).run Try.prog w = .ok (.func fn first cap) w := fun _ _ _ _ => rfl
  cases hv : Tr.valid n with
  | false =>
    have HE := hid (show printE n = 1 from by unfold printE; rw [hv]; rfl)
    have HN := hid (show spansOf n = [] from by unfold spansOf; rw [hv]; rfl)
    have HV := hid hv
    clear hv
    go_enter Try.func12, Try.ntmps12
    go_wp2_with fail
    refine (walk_err n _ 29 31 _ #[] _ (HSL.out.fresh (((Touch.refl _ _).alloc _).alloc _)) ht HC.out HV.out).mono ?_
    rintro _ w2 ⟨rfl, hf⟩
    have HF2 := hid (show Fresh w w2 from Touch.pre (Touch.pre hf))
    clear hf
    go_wp2_with fail
    go_ret2
    exact ⟨.slice none 0 0, [], by rw [HE.out]; rfl, by rw [HN.out]; exact World.ownsRow_nil _ _ _ _, by rw [HN.out]; rfl, HF2.out⟩
  | true =>
    have HE := hid (show printE n = 0 from by unfold printE; rw [hv]; rfl)
    have HN := hid (show spansOf n = spRow (printT n) n.kids [] 0 0 from by unfold spansOf; rw [hv]; rfl)
    have HFEW := hid (spans_few n HC.out)
    have HV := hid hv
    clear hv
    go_enter Try.func12, Try.ntmps12
    go_wp2_with fail
    have hf1 : Fresh w ((w.alloc (.cells #[.int .i64 n.kind, .string ⟨n.text.toArray⟩, .int .i64 n.cols, .slice A n.kids.length cap] 24)).alloc (.cells #[.slice none 0 0] 39)) := ((Touch.refl _ _).alloc _).alloc _
    have hb1 : Blk ((w.alloc (.cells #[.int .i64 n.kind, .string ⟨n.text.toArray⟩, .int .i64 n.cols, .slice A n.kids.length cap] 24)).alloc (.cells #[.slice none 0 0] 39)) (w.heap.size + 1) 39 #[.slice none 0 0] := Blk.new2 _ _ _ _
    generalize ((w.alloc (.cells #[.int .i64 n.kind, .string ⟨n.text.toArray⟩, .int .i64 n.cols, .slice A n.kids.length cap] 24)).alloc (.cells #[.slice none 0 0] 39)) = W1 at hf1 hb1 ⊢
    have HF1 := hid hf1
    have HIS := hid (fun (g tg : Nat) (w' : World) (h1 : W1.heap.size ≤ g) (h2 : W1.heap.size ≤ tg) (h3 : g < w'.heap.size) (h4 : tg < w'.heap.size) (hf : Fresh W1 w') => (show ItemsSt w W1.heap.size (w.heap.size + 1) g tg [] (fun b => b = w.heap.size + 1) w' from
      ⟨⟨_, [], hf.blk hb1 (fun h => h), World.ownsRow_nil _ _ _ _, rfl, fun b => ⟨.inl, fun h => h.elim id fun h => by cases h⟩, fun b h => by cases h⟩, by have := hb1.lt; refine ⟨?_, ?_, ?_⟩ <;> omega, h1, h2, h3, h4⟩))
    clear hf1 hb1
    refine (walk_ok (itemsCls w W1.heap.size (w.heap.size + 1)) w n _ W1 [] _ HV.out HC.out ht ((Low.fresh (Touch.refl _ _) HF1.out)) HSL.out (fun g tg tv hg => itemsCls_good _ _ _ n HC.out g tg tv hg) (fun g tg w' h1 h2 h3 h4 hf => HIS.out g tg w' h1 h2 h3 h4 hf)
      (by show (runRow itemsC (printT n) n.kids [] 0 0 []).length ≤ 100000; rw [(Tr.items_run (printT n)).1, List.nil_append, ← HN.out]; have := HFEW.out; omega)).mono ?_
    rintro _ w2 ⟨rfl, g, tg, S2, hg, hst, hlow, hmv⟩
    have hst' : ItemsSt w W1.heap.size (w.heap.size + 1) g tg (runRow itemsC (printT n) n.kids [] 0 0 []) S2 w2 := hst
    rw [(Tr.items_run (printT n)).1, List.nil_append, ← HN.out] at hst'
    have HF2 := hid (low_fresh hlow)
    obtain ⟨v, cs, hb, ho, hcs, _, _⟩ := hst'.row
    have HO := hid (ownsRow_low ho (show w.heap.size ≤ W1.heap.size from HF1.out.size))
    have HCS := hid hcs.spn
    obtain ⟨Av, capv, rfl⟩ := owns_slice ho
    have q0 : w2.cell? ⟨w.heap.size + 1, 0, none⟩ = some (.slice Av (spansOf n).length capv) := hb.cell 0
    clear hst hst' hlow hmv hb ho hcs
    go_wp2_with fail
    go_ret2
    exact ⟨_, cs, by rw [HE.out]; rfl, HO.out, HCS.out, HF2.out⟩
end Go.Proofs.Ytdacpbdamliafaa

/- The positions as the reference lists them, and how they lie in memory. -/
namespace Go.Proofs.Ytdacpbdamliafaa
open Go.RowKit
open Tr (Nd posRow posSegs segs)

/-- The positions of a row, from its place i. -/
def allP (ks : List Nd) (p : List Nat) (i : Nat) : List (List Nat) := (posRow [] ks p i 0).map (·.1)
/-- The positions of rows, from the number j. -/
def allK : List Nd → List Nat → Nat → List (List Nat)
  | [], _, _ => []
  | a :: r, p, j => allP a.kids (p ++ [j]) 0 ++ allK r p (j + 1)
theorem allP_nil (p : List Nat) (i : Nat) : allP [] p i = [p ++ [i]] := by unfold allP; rw [posRow]; rfl
theorem segs_all : ∀ (l : List (Nat × Bool × Nd)) (p : List Nat) (j f : Nat), (posSegs [] l p j f).map (·.1) = allK (Tr.rowsOf l) p j
  | [], p, j, f => by rw [posSegs]; rfl
  | (k, b, a) :: r, p, j, f => by
    rw [posSegs, List.map_append, segs_all r]
    show _ = allK (a :: Tr.rowsOf r) p j
    rw [allK]
    congr 1
    exact (Tr.pos_paths [] []).1 a.kids (p ++ [j]) 0 _ _
theorem allP_cons (n : Nd) (ns : List Nd) (p : List Nat) (i : Nat) : allP (n :: ns) p i = (p ++ [i]) :: (allK n.kids (p ++ [i]) 0 ++ allP ns p (i + 1)) := by
  unfold allP
  rw [posRow, List.map_cons, List.map_append, segs_all, Tr.segs_rows, (Tr.pos_paths [] []).1 ns p (i + 1) _ 0]
theorem allP_drop (ks : List Nd) (p : List Nat) (i : Nat) (h : i < ks.length) : allP (ks.drop i) p i = (p ++ [i]) :: (allK ks[i].kids (p ++ [i]) 0 ++ allP (ks.drop (i + 1)) p (i + 1)) := by
  rw [List.drop_eq_getElem_cons h, allP_cons]
theorem allK_drop (ks : List Nd) (p : List Nat) (j : Nat) (h : j < ks.length) : allK (ks.drop j) p j = allP ks[j].kids (p ++ [j]) 0 ++ allK (ks.drop (j + 1)) p (j + 1) := by
  rw [List.drop_eq_getElem_cons h, allK]
theorem all_count (T : List Lx.PTok) : (∀ ks p i f, (posRow T ks p i f).length = Tr.countL ks + 1) ∧ ∀ l p j f, (posSegs T l p j f).length = Tr.countL (Tr.rowsOf l) := by
  refine Tr.rows_ind (P := fun ks => ∀ p i f, (posRow T ks p i f).length = Tr.countL ks + 1) (Q := fun l => ∀ p j f, (posSegs T l p j f).length = Tr.countL (Tr.rowsOf l)) ?_ ?_ ?_ ?_
  · intro p i f; rw [posRow]; simp [Tr.countL]
  · intro n ns h1 h2 p i f
    rw [posRow, Tr.countL, Tr.count_kids, List.length_cons, List.length_append, h1, h2, Tr.segs_rows]
    omega
  · intro p j f; rw [posSegs]; simp [Tr.rowsOf, Tr.countL]
  · intro k b a r h1 h2 p j f
    have h5 : Tr.rowsOf ((k, b, a) :: r) = a :: Tr.rowsOf r := rfl
    rw [posSegs, List.length_append, h1, h2, h5, Tr.countL, Tr.count_kids]
    omega
theorem allP_len (ks : List Nd) (p : List Nat) (i : Nat) : (allP ks p i).length = Tr.countL ks + 1 := by
  unfold allP
  rw [List.length_map, (all_count []).1]

/-- A path in a block of its own. -/
def PthAt (B : Nat) (own : Option Nat) (w : World) (v : Value) (p : List Nat) : Prop :=
  ∃ b cap, v = .slice (some ⟨b, 0, none⟩) p.length cap ∧ p.length ≤ cap ∧ cap ≤ maxLen ∧ B ≤ b ∧ b < w.heap.size ∧ own ≠ some b ∧ ∀ i (h : i < p.length), w.cell? ⟨b, i, none⟩ = some (.int .i64 (p[i] : Nat))
theorem PthAt.ints {B : Nat} {own : Option Nat} {w : World} {v : Value} {p : List Nat} (h : PthAt B own w v p) : IntsR w v (up p) := by
  obtain ⟨b, cap, rfl, h1, h2, h3, h4, h5, h6⟩ := h
  have e : Value.slice (some ⟨b, 0, none⟩) p.length cap = .slice (some ⟨b, 0, none⟩) (up p).length cap := by rw [List.length_map]
  refine ⟨⟨_, cap, e, .inr ⟨b, 0, rfl, h4, fun i hi => ?_⟩⟩, ⟨_, cap, e, by simpa using h1, h2⟩⟩
  rw [Nat.zero_add, List.getElem_map]
  exact h6 i (by simpa using hi)
theorem PthAt.mv {B B' : Nat} {own own' : Option Nat} {w w' : World} {v : Value} {p : List Nat} (h : PthAt B own w v p) (ht : Touch (fun b => own = some b) w w') (ho : ∀ b, own' = some b → own = some b ∨ w.heap.size ≤ b) (hB : B' ≤ B) : PthAt B' own' w' v p := by
  obtain ⟨b, cap, rfl, h1, h2, h3, h4, h5, h6⟩ := h
  refine ⟨b, cap, rfl, h1, h2, Nat.le_trans hB h3, Nat.lt_of_lt_of_le h4 ht.size, fun e => (ho b e).elim h5 (by omega), fun i hi => ht.cell (h6 i hi) h5⟩
/-- Paths, one cell each. -/
def PthsAt (B : Nat) (own : Option Nat) (w : World) : List (List Nat) → List Value → Prop
  | [], cs => cs = []
  | p :: l, cs => ∃ v ds, cs = v :: ds ∧ PthAt B own w v p ∧ PthsAt B own w l ds
theorem PthsAt.mv {B B' : Nat} {own own' : Option Nat} {w w' : World} (ht : Touch (fun b => own = some b) w w') (ho : ∀ b, own' = some b → own = some b ∨ w.heap.size ≤ b) (hB : B' ≤ B) : ∀ {l : List (List Nat)} {cs : List Value}, PthsAt B own w l cs → PthsAt B' own' w' l cs
  | [], _, h => h
  | _ :: _, _, ⟨v, ds, h, hp, hd⟩ => ⟨v, ds, h, hp.mv ht ho hB, hd.mv ht ho hB⟩
/-- Another row of one's own, that lies below. -/
theorem PthsAt.mv' {B : Nat} {own own' : Option Nat} {w : World} (ho : ∀ b, own' = some b → b < B) : ∀ {l : List (List Nat)} {cs : List Value}, PthsAt B own w l cs → PthsAt B own' w l cs
  | [], _, h => h
  | _ :: _, _, ⟨v, ds, h, ⟨b, cap, e, h1, h2, h3, h4, h5, h6⟩, hd⟩ => ⟨v, ds, h, ⟨b, cap, e, h1, h2, h3, h4, fun e => by have := ho b e; omega, h6⟩, hd.mv' ho⟩
theorem PthsAt.append {B : Nat} {own : Option Nat} {w : World} : ∀ {l m : List (List Nat)} {cs ds : List Value}, PthsAt B own w l cs → PthsAt B own w m ds → PthsAt B own w (l ++ m) (cs ++ ds)
  | [], _, _, _, h, hm => by rw [show _ = [] from h]; exact hm
  | _ :: _, _, _, _, ⟨v, es, h, hp, hd⟩, hm => by subst h; exact ⟨v, _, rfl, hp, hd.append hm⟩
theorem PthsAt.length {B : Nat} {own : Option Nat} {w : World} : ∀ {l : List (List Nat)} {cs : List Value}, PthsAt B own w l cs → cs.length = l.length
  | [], _, h => by rw [show _ = [] from h]; rfl
  | _ :: _, _, ⟨_, _, h, _, hd⟩ => by subst h; simp [hd.length]
theorem PthsAt.oneCell {B : Nat} {own : Option Nat} {w : World} : ∀ {l : List (List Nat)} {cs : List Value}, PthsAt B own w l cs → ∀ u ∈ cs, u.oneCell' = true
  | [], _, h, u, hu => by rw [show _ = [] from h] at hu; cases hu
  | _ :: _, _, ⟨v, ds, h, hp, hd⟩, u, hu => by
    subst h
    rcases List.mem_cons.1 hu with rfl | hu
    · obtain ⟨b, cap, rfl, _⟩ := hp; rfl
    · exact hd.oneCell u hu
theorem PthsAt.get {B : Nat} {own : Option Nat} {w : World} : ∀ {l : List (List Nat)} {cs : List Value}, PthsAt B own w l cs → ∀ i (hi : i < l.length), ∃ v, cs[i]? = some v ∧ PthAt B own w v l[i]
  | [], _, _, i, hi => by simp at hi
  | p :: l, _, ⟨v, ds, h, hp, hd⟩, i, hi => by
    subst h
    cases i with
    | zero => exact ⟨v, rfl, hp⟩
    | succ i =>
      obtain ⟨u, h1, h2⟩ := hd.get i (by simpa using hi)
      exact ⟨u, by simpa using h1, h2⟩
end Go.Proofs.Ytdacpbdamliafaa

/- The plain law of SpanOrder. -/
namespace Go.Proofs.Ytdacpbdamliafaa
open Go.RowKit
open Tr (Nd posRow)

/-- The positions of a printed tree, with their places. -/
def posL (n : Nd) : List (List Nat × Nat) := posRow (printT n) n.kids [] 0 0
theorem posL_all (n : Nd) : (posL n).map (·.1) = allP n.kids [] 0 := (Tr.pos_paths _ _).1 _ _ _ _ _
theorem up_inj {p q : List Nat} (h : up p = up q) : p = q := by
  have h1 := congrArg (List.map Int.toNat) h
  rw [List.map_map, List.map_map] at h1
  have e : (Int.toNat ∘ fun n : Nat => (n : Int)) = id := by funext n; simp
  rw [e, List.map_id, List.map_id] at h1
  exact h1
theorem off_hit (n : Nd) (hv : Tr.valid n = true) {p : List Nat} {v : Nat} (h : (p, v) ∈ posL n) : offR n (up p) = (v, 0) := by
  have h1 := Tr.offOf_mem ((Tr.pos_sorted (printT n)).1 _ _ _ _) h
  unfold Tr.offOf at h1
  have e : (fun x : List Nat × Nat => posIs (up p) x.1) = fun x => x.1 == p := by
    funext x
    unfold posIs
    rw [Bool.eq_iff_iff, decide_eq_true_eq, beq_iff_eq]
    exact ⟨fun h => up_inj h, fun h => by rw [h]⟩
  unfold offR
  rw [if_pos hv, e]
  rw [Option.map_eq_some_iff] at h1
  obtain ⟨x, h2, h3⟩ := h1
  have h2' : List.find? (fun x : List Nat × Nat => x.1 == p) (posRow (printT n) n.kids [] 0 0) = some x := h2
  rw [h2', ← h3]
theorem pos_fits (n : Nd) (hv : Tr.valid n = true) : 0 + (Tr.rowT n.kids).length ≤ (printT n).length := by rw [printT_len n hv]; omega
theorem pos_le (n : Nd) (hv : Tr.valid n = true) {p : List Nat} {v : Nat} (h : (p, v) ∈ posL n) : v ≤ (printS n).length := by
  have h1 := ((Tr.pos_bounds (printT_mono n)).1 n.kids (Tr.valid_row n hv).views [] 0 0 (pos_fits n hv) _ h).2
  rw [Nat.zero_add, printS_len n hv] at h1
  exact h1
theorem pos_up (n : Nd) (hv : Tr.valid n = true) : (posL n).Pairwise fun x y => x.2 ≤ y.2 := (Tr.pos_mono (printT_mono n)).1 n.kids (Tr.valid_row n hv).views [] 0 0 (pos_fits n hv)
theorem cmp_self : ∀ p : List Nat, Tr.cmp p p = 0 := Tr.cmp_refl
theorem at_pos (n : Nd) (hv : Tr.valid n = true) {p : List Nat} {v : Nat} (h : (p, v) ∈ posL n) : atE n v = 0 ∧ (atP n v, v) ∈ posL n ∧ Tr.cmp (atP n v) p ≤ 0 := by
  have hle := pos_le n hv h
  have hs := (Tr.pos_sorted (printT n)).1 n.kids [] 0 0
  have e1 : atP n v = ((posL n).foldl (fun s x => Tr.atG v s x.1 x.2) ([], -1)).1 := by
    unfold atP
    rw [if_pos ⟨hv, by omega, by omega⟩]
    rfl
  rw [Tr.at_fold v (posL n) _ hs (.inl rfl)] at e1
  obtain ⟨q, h1, h2, h3⟩ := Tr.at_hit (posL n) ([], -1) p v hs (pos_up n hv) (by show (-1 : Int) < v; omega) h
  rw [h1] at e1
  refine ⟨by unfold atE; rw [if_pos hv, if_pos ⟨by omega, by omega⟩], by rw [e1]; exact h2, ?_⟩
  rw [e1]
  rcases h3 with h3 | h3
  · have h3' : q = p := h3
    show Tr.cmp q p ≤ 0
    rw [h3', cmp_self]
    omega
  · show Tr.cmp q p ≤ 0
    omega

/-- The place of the position ahead. -/
def lastAt (l : List (List Nat × Nat)) (i : Nat) : Nat := if i = 0 then 0 else (l[i - 1]?.map (·.2)).getD 0
theorem lastAt_succ (l : List (List Nat × Nat)) (i : Nat) (h : i < l.length) : lastAt l (i + 1) = l[i].2 := by
  unfold lastAt
  rw [if_neg (by omega), Nat.add_sub_cancel, List.getElem?_eq_getElem h]
  rfl
theorem lastAt_le (l : List (List Nat × Nat)) (hp : l.Pairwise fun x y => x.2 ≤ y.2) (i : Nat) (h : i < l.length) : lastAt l i ≤ l[i].2 := by
  cases i with
  | zero => exact Nat.zero_le _
  | succ i =>
    rw [lastAt_succ l i (by omega)]
    exact List.pairwise_iff_getElem.1 hp i (i + 1) (by omega) h (by omega)
theorem lastAt_end (n : Nd) (hv : Tr.valid n = true) : lastAt (posL n) (posL n).length = (printS n).length := by
  obtain ⟨l, h⟩ := Tr.pos_last (printT n) n.kids [] 0 0
  have h' : posL n = l ++ [([] ++ [0 + n.kids.length], Tr.endAt (printT n) (0 + (Tr.rowT n.kids).length))] := h
  rw [h', List.length_append, List.length_singleton, lastAt_succ _ _ (by simp)]
  rw [List.getElem_append_right (Nat.le_refl _)]
  simp only [Nat.sub_self, List.getElem_cons_zero]
  rw [Nat.zero_add, printS_len n hv]
end Go.Proofs.Ytdacpbdamliafaa

/- A law on regions that draw their order: where two lone operations may come first, both ways are walked. -/
namespace Go.Proofs.Ytdacpbdamliafaa
open Go.RowKit

section
variable {P : Program} {ops : Array Oper} {md : Region.Mode} {C : World → Prop} {Q : Exit → Act → World → Prop}

/-- An order of a stretch; a fork: two lone operations of which either may come first. -/
inductive Plan where
  | nil
  | plain (i : Nat) (r : Plan)
  | lone (i : Nat) (r : Plan)
  | fork (i : Nat) (p : Plan) (j : Nat) (q : Plan)
def Plan.of : List (Nat × Bool) → Plan → Plan
  | [], r => r
  | (i, true) :: l, r => .plain i (Plan.of l r)
  | (i, false) :: l, r => .lone i (Plan.of l r)
def Plan.len : Plan → Nat
  | .nil => 0
  | .plain _ r => r.len + 1
  | .lone _ r => r.len + 1
  | .fork _ p _ _ => p.len + 1
def Plan.within (ns : List Nat) : Plan → Bool
  | .nil => true
  | .plain i r => ns.contains i && r.within ns
  | .lone i r => ns.contains i && r.within ns
  | .fork i p j q => ns.contains i && p.within ns && ns.contains j && q.within ns
def planB (md : Region.Mode) (ops : Array Oper) (fin : Array Bool) : Plan → Array Bool → Bool
  | .nil, listed => decide (listed = fin)
  | .plain k r, listed => (Region.ready md ops listed).contains k && Region.free md ops listed k && planB md ops fin r (listed.setIfInBounds k true)
  | .lone k r, listed => decide (Region.ready md ops listed = [k]) && planB md ops fin r (listed.setIfInBounds k true)
  | .fork i p j q, listed => decide (Region.ready md ops listed = [i, j]) && decide (p.len = q.len) && planB md ops fin p (listed.setIfInBounds i true) && planB md ops fin q (listed.setIfInBounds j true)
/-- The walk of a plan. -/
def wpPlan (P : Program) (l : List Oper) (Q : Exit → Act → World → Prop) (C : World → Prop) (L : Act → World → Prop) : Plan → Act → World → Prop
  | .nil, a, w => L a w
  | .plain i r, a, w => match l[i]? with
    | some o => if Region.wanted o (yielded l.toArray a.tmps) then stillV P o a C (fun a' => wpPlan P l Q C L r a' w) else wpPlan P l Q C L r (a.put o.dst undef) w
    | none => wpPlan P l Q C L r a w
  | .lone i r, a, w => wpList P l.toArray (Exit.then (fun a' w' => C w' ∧ wpPlan P l Q C L r a' w') Q) (pick l [i]) a w
  | .fork i p j q, a, w => wpList P l.toArray (Exit.then (fun a' w' => C w' ∧ wpPlan P l Q C L p a' w') Q) (pick l [i]) a w ∧ wpList P l.toArray (Exit.then (fun a' w' => C w' ∧ wpPlan P l Q C L q a' w') Q) (pick l [j]) a w
theorem wpPlan_plain {l : List Oper} {L : Act → World → Prop} {i : Nat} {o : Oper} {r : Plan} {a : Act} {w : World} (ho : l[i]? = some o)
    (h : ∀ K : Act → Prop, (∀ a, wpPlan P l Q C L r a w → K a) → if Region.wanted o (yielded l.toArray a.tmps) then stillV P o a C K else K (a.put o.dst undef)) : wpPlan P l Q C L (.plain i r) a w := by
  unfold wpPlan
  rw [ho]
  exact h _ (fun _ h => h)
theorem wpPlan_lone {l : List Oper} {L : Act → World → Prop} {i : Nat} {o : Oper} {r : Plan} {a : Act} {w : World} (ho : l[i]? = some o)
    (h : ∀ K : Act → World → Prop, (∀ a w, C w → wpPlan P l Q C L r a w → K a w) → wpList P l.toArray (Exit.then K Q) [o] a w) : wpPlan P l Q C L (.lone i r) a w := by
  unfold wpPlan
  have hp : pick l [i] = [o] := by simp [pick, ho]
  rw [hp]
  exact h _ (fun _ _ h1 h2 => ⟨h1, h2⟩)
theorem wpPlan_fork {l : List Oper} {L : Act → World → Prop} {i j : Nat} {p q : Plan} {a : Act} {w : World} (h1 : wpPlan P l Q C L (.lone i p) a w) (h2 : wpPlan P l Q C L (.lone j q) a w) : wpPlan P l Q C L (.fork i p j q) a w := ⟨h1, h2⟩
theorem wpPlan_nil {l : List Oper} {L : Act → World → Prop} {a : Act} {w : World} (h : L a w) : wpPlan P l Q C L .nil a w := h

theorem wpPlan_shut {l : List Oper} {Cl : World → World → Prop} {t : Nat} {o : Oper} {segs : List (List (Nat × Bool) × Nat)} {last : List (Nat × Bool)} {a : Act} {w : World} (ho : l[t]? = some o)
    (h : ∀ K : Act → World → Prop, (∀ a w, wpMix Cl P l Q segs last a w w → K a w) → wpList P l.toArray (Exit.then K Q) [o] a w) : wpPlan P l Q C (fun a' w' => wpList P l.toArray (Exit.then (fun a'' w'' => wpMix Cl P l Q segs last a'' w'' w'') Q) (pick l [t]) a' w') .nil a w := by
  unfold wpPlan
  have hp : pick l [t] = [o] := by simp [pick, ho]
  rw [hp]
  exact h _ (fun _ _ h1 => h1)

theorem plan_inv {ns : List Nat} {listed0 fin : Array Bool} : ∀ (p : Plan) (listed : Array Bool), p.within ns = true → ZInv md ops ns listed0 listed → planB md ops fin p listed = true → ZInv md ops ns listed0 fin
  | .nil, listed, _, inv, hB => by
    simp only [planB, decide_eq_true_eq] at hB
    rw [← hB]
    exact inv
  | .plain k r, listed, hn, inv, hB => by
    simp only [planB, Bool.and_eq_true] at hB
    simp only [Plan.within, Bool.and_eq_true] at hn
    exact plan_inv r _ hn.2 (inv.put (by simpa using hB.1.1) (by simpa using hn.1)) hB.2
  | .lone k r, listed, hn, inv, hB => by
    simp only [planB, Bool.and_eq_true, decide_eq_true_eq] at hB
    simp only [Plan.within, Bool.and_eq_true] at hn
    exact plan_inv r _ hn.2 (inv.put (by rw [hB.1]; simp) (by simpa using hn.1)) hB.2
  | .fork i p j q, listed, hn, inv, hB => by
    simp only [planB, Bool.and_eq_true, decide_eq_true_eq] at hB
    simp only [Plan.within, Bool.and_eq_true] at hn
    exact plan_inv p _ hn.1.1.2 (inv.put (by rw [hB.1.1.1]; simp) (by simpa using hn.1.1.1)) hB.1.2

theorem wpAnyU_plan {l0 : List Oper} {ns : List Nat} {t : Option Nat} {listed0 : Array Bool} {Lq : Act → World → Prop} {fin : Array Bool} (hsel : Region.noSelect l0.toArray = true) (hQ : ∀ c a d v w, Q (.panic c) (Act.put a d v) w → Q (.panic c) a w)
    (hs : shutB md l0.toArray ns t listed0 = true) (hfin : ∀ j ∈ Region.ready md l0.toArray fin, j ∉ ns) :
    ∀ (p : Plan) (listed : Array Bool) (a : Act) (w : World), p.within ns = true → ZInv md l0.toArray ns listed0 listed → planB md l0.toArray fin p listed = true → C w →
    wpPlan P l0 Q C Lq p a w → wpAnyU P md l0.toArray Q C ns (fun listed' a' w' => listed' = fin ∧ Lq a' w') p.len listed a w
  | .nil, listed, a, w, _, _, hB, _, h => by
    simp only [planB, decide_eq_true_eq] at hB
    exact ⟨hB, h⟩
  | .plain k r, listed, a, w, hn, inv, hB, hC, h => by
    simp only [planB, Bool.and_eq_true] at hB
    simp only [Plan.within, Bool.and_eq_true] at hn
    obtain ⟨⟨hr, hfr⟩, hB'⟩ := hB
    have hr' : k ∈ Region.ready md l0.toArray listed := by simpa using hr
    obtain ⟨_, o, ho, _⟩ := mem_ready.1 hr'
    have ho' : l0[k]? = some o := by simpa using ho
    unfold wpPlan at h
    rw [ho'] at h
    have hkq : k ∈ ns := by simpa using hn.1
    obtain ⟨v, hy, hK⟩ : ∃ v, YieldsIf P l0.toArray C o v a ∧ wpPlan P l0 Q C Lq r (a.put o.dst v) w := by
      by_cases hw : Region.wanted o (yielded l0.toArray a.tmps) = true
      · simp only [hw, if_true] at h
        obtain ⟨v, h1, h2⟩ := h
        exact ⟨v, .inl ⟨hw, fun w hw => stillUpon_ok (h1 w hw)⟩, h2⟩
      · simp only [hw] at h
        exact ⟨undef, .inr ⟨by simpa using hw, rfl⟩, h⟩
    exact wpAnyU_first ho (Region.noSelect_spec hsel) (fun c a w => hQ c a o.dst v w) hs hkq (fun listed' a' w' hL => by rw [hL.1]; exact hfin) r.len listed a w inv (Region.free_spec ho hfr) hr' hy hC
      (wpAnyU_plan hsel hQ hs hfin r _ _ w hn.2 (inv.put hr' hkq) hB' hC hK)
  | .lone k r, listed, a, w, hn, inv, hB, hC, h => by
    simp only [planB, Bool.and_eq_true, decide_eq_true_eq] at hB
    simp only [Plan.within, Bool.and_eq_true] at hn
    obtain ⟨hr, hB'⟩ := hB
    have hr' : k ∈ Region.ready md l0.toArray listed := by rw [hr]; simp
    obtain ⟨_, o, ho, _⟩ := mem_ready.1 hr'
    have hkq : k ∈ ns := by simpa using hn.1
    refine ⟨by rw [hr]; simp, fun i hi => ?_⟩
    rw [hr] at hi
    rw [List.mem_singleton.1 hi]
    unfold wpPlan at h
    exact ⟨hkq, wpOp_mono (fun a' w' h' => ⟨h'.1, wpAnyU_plan hsel hQ hs hfin r _ a' w' hn.2 (inv.put hr' hkq) hB' h'.1 h'.2⟩) (wpOp_of_single ho h)⟩
  | .fork i p j q, listed, a, w, hn, inv, hB, hC, h => by
    simp only [planB, Bool.and_eq_true, decide_eq_true_eq] at hB
    simp only [Plan.within, Bool.and_eq_true] at hn
    obtain ⟨⟨⟨hr, hlen⟩, hBp⟩, hBq⟩ := hB
    have hri : i ∈ Region.ready md l0.toArray listed := by rw [hr]; simp
    have hrj : j ∈ Region.ready md l0.toArray listed := by rw [hr]; simp
    obtain ⟨_, oi, hoi, _⟩ := mem_ready.1 hri
    obtain ⟨_, oj, hoj, _⟩ := mem_ready.1 hrj
    have hki : i ∈ ns := by simpa using hn.1.1.1
    have hkj : j ∈ ns := by simpa using hn.1.2
    unfold wpPlan at h
    refine ⟨by rw [hr]; simp, fun k hk => ?_⟩
    rw [hr] at hk
    rcases List.mem_cons.1 hk with rfl | hk
    · exact ⟨hki, wpOp_mono (fun a' w' h' => ⟨h'.1, wpAnyU_plan hsel hQ hs hfin p _ a' w' hn.1.1.2 (inv.put hri hki) hBp h'.1 h'.2⟩) (wpOp_of_single hoi h.1)⟩
    · rw [List.mem_singleton.1 hk]
      exact ⟨hkj, wpOp_mono (fun a' w' h' => ⟨h'.1, by rw [hlen]; exact wpAnyU_plan hsel hQ hs hfin q _ a' w' hn.2 (inv.put hrj hkj) hBq h'.1 h'.2⟩) (wpOp_of_single hoj h.2)⟩

/-- **A region that draws its order: a plan, shut by an operation that waits for it; then stretches.** -/
theorem wp_region_plan {id : Nat} {a : Act} {w : World} {l : List Oper} (p : Plan) (ns : List Nat) (t : Nat) (fin : Array Bool) (segs : List (List (Nat × Bool) × Nat)) (last : List (Nat × Bool)) (hm : P.follows .mixedOrders = true) (hQ : ∀ c a d v w, Q (.panic c) (Act.put a d v) w → Q (.panic c) a w)
    (hB : (Region.noSelect l.toArray && decide (p.len + (mixN segs last + 1) = l.toArray.size) && p.within ns && planB .any l.toArray fin p (Array.replicate l.toArray.size false) && shutB .any l.toArray ns (some t) (Array.replicate l.toArray.size false) &&
      decide (Region.ready .any l.toArray fin = [t]) && !ns.contains t && mixB .any l.toArray segs last (fin.setIfInBounds t true)) = true)
    (h : wpPlan P l Q (fun w' => ∃ p : Regrown, w' = Go.Sort.grow (redrawn w p.d) p.os) (fun a' w' => wpList P l.toArray (Exit.then (fun a'' w'' => wpMix (fun w w' => ∃ p : Regrown, w' = Go.Sort.grow (redrawn w p.d) p.os) P l Q segs last a'' w'' w'') Q) (pick l [t]) a' w') p a (w.drewN 1)) : (Code.region id l.toArray true).wp P Q a w := by
  simp only [Bool.and_eq_true, decide_eq_true_eq, Bool.not_eq_true'] at hB
  obtain ⟨⟨⟨⟨⟨⟨⟨hsel, hn⟩, hin⟩, hp⟩, hs⟩, hr⟩, ht⟩, hB'⟩ := hB
  refine wp_region_any hm ?_
  rw [← hn]
  rw [← hn] at hp hs
  have hz : ZInv .any l.toArray ns (Array.replicate (p.len + (mixN segs last + 1)) false) (Array.replicate (p.len + (mixN segs last + 1)) false) :=
    ⟨⟨by simp [hn], fun j oj _ hl => by rw [getD_repl] at hl; cases hl⟩, fun _ h => h, fun _ h => .inl h⟩
  have hz' := plan_inv p _ hin hz hp
  have htr : t ∈ Region.ready .any l.toArray fin := by rw [hr]; simp
  have htn : t ∉ ns := by
    intro hx
    rw [List.contains_iff_mem.2 hx] at ht
    cases ht
  obtain ⟨_, ot, hot, _⟩ := mem_ready.1 htr
  have := wpAnyU_plan (P := P) (Q := Q) (fin := fin) hsel hQ hs (by rw [hr]; intro j hj; rw [List.mem_singleton.1 hj]; exact htn) p _ a (w.drewN 1) hin hz hp (Growing.drew w) h
  refine wpAny_of_U (g := mixN segs last + 1) (fun listed' a' w' _ hL => ?_) p.len _ a _ (Growing.drew w) this
  refine wpAny_all (rs := [t]) (by rw [hL.1]; exact hr) (by simp) (fun i hi => ?_)
  rw [List.mem_singleton.1 hi, hL.1]
  exact wpOp_mono (fun a'' w'' h'' => wpAny_of_mix Growing.refl hsel hQ segs last _ a'' w'' w'' (hz'.closed.put htr) hB' (Growing.refl w'') h'') (wpOp_of_single hot hL.2)
end
end Go.Proofs.Ytdacpbdamliafaa
