/- The tokens of a tree tell the tree. -/
import Derived.Test.YtilgpmpiidccjaaPrE
namespace Go.Proofs.Ytilgpmpiidccjaa.Tr
open Lx (Tok)

theorem itemT_sym (t : Bytes) : itemT (.mk 2 t 0 []) = [if t.length = 1 then ⟨1, t⟩ else ⟨4, t⟩] := by rw [itemT] <;> first | rfl | (intros; simp_all)
theorem itemT_num (t : Bytes) : itemT (.mk 3 t 0 []) = [⟨2, t⟩] := by rw [itemT] <;> first | rfl | (intros; simp_all)
theorem itemT_text (t : Bytes) : itemT (.mk 4 t 0 []) = [⟨3, t⟩] := by rw [itemT] <;> first | rfl | (intros; simp_all)
theorem itemT_frac (a b : Nd) : itemT (.mk 5 [] 0 [a, b]) = name sFrac :: (argT a ++ argT b) := by rw [itemT] <;> first | rfl | (intros; simp_all)
theorem itemT_root (a b : Nd) : itemT (.mk 6 [] 0 [a, b]) = name sRoot :: ((if a.kids = [] then [] else mk7 91 :: (rowT a.kids ++ [mk7 93])) ++ argT b) := by rw [itemT] <;> first | rfl | (intros; simp_all)
theorem itemT_sub (a b : Nd) : itemT (.mk 7 [] 0 [a, b]) = baseT a ++ mk7 95 :: argT b := by rw [itemT] <;> first | rfl | (intros; simp_all)
theorem itemT_sup (a b : Nd) : itemT (.mk 8 [] 0 [a, b]) = baseT a ++ mk7 94 :: argT b := by rw [itemT] <;> first | rfl | (intros; simp_all)
theorem itemT_both (a b d : Nd) : itemT (.mk 9 [] 0 [a, b, d]) = baseT a ++ mk7 95 :: (argT b ++ mk7 94 :: argT d) := by rw [itemT] <;> first | rfl | (intros; simp_all)
theorem itemT_accent (t : Bytes) (a : Nd) : itemT (.mk 10 t 0 [a]) = name t :: argT a := by rw [itemT] <;> first | rfl | (intros; simp_all)
theorem itemT_fence (t : Bytes) (a : Nd) : itemT (.mk 11 t 0 [a]) = if t = [40, 41] ∨ t = [91, 93] then mk7 (t.headD 0) :: (rowT a.kids ++ [mk7 (t.getLastD 0)]) else ⟨5, t⟩ :: argT a := by rw [itemT] <;> first | rfl | (intros; simp_all)
theorem itemT_matrix (c : Int) (ks : List Nd) (h : ks ≠ []) : itemT (.mk 12 [] c ks) = name sMatrix :: mk7 123 :: (cellsT c 0 ks ++ [mk7 125]) := by
  match ks, h with
  | [a], _ => rw [itemT] <;> first | rfl | (intros; simp_all)
  | [a, b], _ => rw [itemT] <;> first | rfl | (intros; simp_all)
  | [a, b, d], _ => rw [itemT] <;> first | rfl | (intros; simp_all)
  | a :: b :: d :: e :: l, _ => rw [itemT] <;> first | rfl | (intros; simp_all)
theorem argT_eq (a : Nd) : argT a = match a.kids with | [x] => if leaf x then itemT x else mk7 123 :: (rowT [x] ++ [mk7 125]) | ks => mk7 123 :: (rowT ks ++ [mk7 125]) := by
  obtain ⟨k, t, c, ks⟩ := a
  match ks with
  | [] => rw [argT] <;> first | rfl | (intros; simp_all)
  | [x] => rw [argT]; rfl
  | x :: y :: l => rw [argT] <;> first | rfl | (intros; simp_all)
theorem baseT_eq (a : Nd) : baseT a = match a.kids with | [x] => if scripted x then mk7 123 :: (rowT [x] ++ [mk7 125]) else itemT x | ks => mk7 123 :: (rowT ks ++ [mk7 125]) := by
  obtain ⟨k, t, c, ks⟩ := a
  match ks with
  | [] => rw [baseT] <;> first | rfl | (intros; simp_all)
  | [x] => rw [baseT]; rfl
  | x :: y :: l => rw [baseT] <;> first | rfl | (intros; simp_all)
theorem rowT_cons (n : Nd) (ns : List Nd) : rowT (n :: ns) = itemT n ++ rowT ns := by rw [rowT]
theorem rowT_nil : rowT [] = [] := by rw [rowT]

theorem start_noScript (x : Tok) (r : List Tok) (h : startTok x = true) : noScript (x :: r) := by
  refine ⟨expect_other _ _ _ ?_, expect_other _ _ _ ?_⟩ <;> (rintro rfl; revert h; decide)
theorem IsRow.views {a : Nd} (h : IsRow a) : ∀ x ∈ a.kids, View x := fun x hx => view_of x (h.items x hx).2 (h.items x hx).1

theorem base_start (a : Nd) (ha : IsRow a) (ih : ∀ x ∈ a.kids, View x → ∃ t r, itemT x = t :: r ∧ startTok t = true) : ∃ t r, baseT a = t :: r ∧ startTok t = true := by
  rw [baseT_eq]
  have hv := ha.views
  split
  · rename_i x hx
    split
    · exact ⟨mk7 123, _, rfl, rfl⟩
    · exact ih x (by rw [hx]; simp) (hv x (by rw [hx]; simp))
  · exact ⟨mk7 123, _, rfl, rfl⟩
theorem item_start (n : Nd) : View n → ∃ t r, itemT n = t :: r ∧ startTok t = true := by
  have : ∀ m n, count n ≤ m → View n → ∃ t r, itemT n = t :: r ∧ startTok t = true := by
    intro m
    induction m with
    | zero => intro n h; have := count_pos n; omega
    | succ m ih =>
      intro n hc v
      have hb : ∀ (k : Int) (t : Bytes) (c : Int) (a : Nd) (l : List Nd), n = .mk k t c (a :: l) → IsRow a → ∃ t r, baseT a = t :: r ∧ startTok t = true := fun k t c a l e ha => base_start a ha fun x hx vx => ih x (by
        have h1 := count_mem hx
        have h2 := count_kids a
        rw [e, count, countL] at hc
        omega) vx
      cases v with
      | sym t h => rw [itemT_sym]; by_cases hl : t.length = 1 <;> simp only [hl, if_true, if_false] <;> exact ⟨_, _, rfl, rfl⟩
      | num t h => rw [itemT_num]; exact ⟨_, _, rfl, rfl⟩
      | text t h => rw [itemT_text]; exact ⟨_, _, rfl, rfl⟩
      | frac a b ha hb => rw [itemT_frac]; exact ⟨_, _, rfl, rfl⟩
      | root a b ha hb => rw [itemT_root]; exact ⟨_, _, rfl, rfl⟩
      | sub a b ha hb' =>
        rw [itemT_sub]
        obtain ⟨x, r, e, h⟩ := hb _ _ _ a _ rfl ha
        rw [e]; exact ⟨x, _, rfl, h⟩
      | sup a b ha hb' =>
        rw [itemT_sup]
        obtain ⟨x, r, e, h⟩ := hb _ _ _ a _ rfl ha
        rw [e]; exact ⟨x, _, rfl, h⟩
      | both a b d ha hb' hd =>
        rw [itemT_both]
        obtain ⟨x, r, e, h⟩ := hb _ _ _ a _ rfl ha
        rw [e]; exact ⟨x, _, rfl, h⟩
      | accent t a h ha => rw [itemT_accent]; exact ⟨_, _, rfl, rfl⟩
      | fence t a h ha =>
        rw [itemT_fence]
        split
        · rename_i ht
          rcases ht with rfl | rfl <;> exact ⟨_, _, rfl, rfl⟩
        · exact ⟨_, _, rfl, rfl⟩
      | matrix c ks hc hn hm h =>
        rw [itemT_matrix c ks (by rintro rfl; simp at hn)]; exact ⟨_, _, rfl, rfl⟩
  exact this _ n (Nat.le_refl _)

theorem row_noScript (ks : List Nd) (hk : ∀ x ∈ ks, View x) (r : List Tok) (hr : noScript r) : noScript (rowT ks ++ r) := by
  cases ks with
  | nil => rw [rowT_nil]; exact hr
  | cons x ks =>
    obtain ⟨t, r', e, h⟩ := item_start x (hk x (by simp))
    rw [rowT_cons, e]
    exact start_noScript t _ h

/-- Items of at most m nodes are read again. -/
structure PU (m : Nat) : Prop where
  item : ∀ n, count n ≤ m → View n → ∀ r, noScript r → Ev fun f => pItem f (itemT n ++ r) = some (n, r)
  base : ∀ n, count n ≤ m → View n → scripted n = false → ∀ r, Ev fun f => pBase f (itemT n ++ r) = some ([n], r)

theorem PU.row {m : Nat} (h : PU m) : ∀ ks, (∀ x ∈ ks, View x ∧ count x ≤ m) → ∀ r, stop r → Ev fun f => pRow f (rowT ks ++ r) = some (ks, r)
  | [], _, r, hr => Ev.succ (Ev.of fun f => by rw [rowT_nil, List.nil_append, pRow, if_neg (by rw [hr.1]; decide)])
  | x :: ks, hk, r, hr => by
    obtain ⟨hv, hc⟩ := hk x (by simp)
    have ih := PU.row h ks (fun y hy => hk y (by simp [hy])) r hr
    have hns : noScript (rowT ks ++ r) := row_noScript ks (fun y hy => (hk y (by simp [hy])).1) r hr.2
    refine Ev.succ (((h.item x hc hv _ hns).and ih).mono fun f ⟨h1, h2⟩ => ?_)
    obtain ⟨t, r', e, hs⟩ := item_start x hv
    have hst : starts (itemT x ++ (rowT ks ++ r)) = true := by rw [e]; exact hs
    rw [rowT_cons, List.append_assoc, pRow, if_pos hst, h1]
    simp [h2]
end Go.Proofs.Ytilgpmpiidccjaa.Tr
