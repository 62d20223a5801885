/- The text of a valid tree has the tree's tokens; two valid trees with one text are equal. -/
import Derived.Test.YtilgpmpiidccjaaPrG
namespace Go.Proofs.Ytilgpmpiidccjaa.Tr
open Lx (Tok TokOK)

theorem byte_all (p : UInt8 → Prop) [DecidablePred p] (h : ∀ n : Fin 256, p (UInt8.ofNat n.1)) (c : UInt8) : p c := by
  have := h ⟨c.toNat, c.toNat_lt⟩
  simpa using this
theorem letter_isB (c : UInt8) : letter c = Lx.isB 3 c := byte_all (fun c => letter c = Lx.isB 3 c) (by decide +kernel) c
theorem digit_isB (c : UInt8) : digit c = Lx.isB 2 c := byte_all (fun c => digit c = Lx.isB 2 c) (by decide +kernel) c
theorem sign_isB (c : UInt8) : signs.contains c = Lx.isB 4 c := byte_all (fun c => signs.contains c = Lx.isB 4 c) (by decide +kernel) c
theorem delim_is (c : UInt8) : delims.contains c = Lx.isDelim c := byte_all (fun c => delims.contains c = Lx.isDelim c) (by decide +kernel) c
theorem all_letter (l : Bytes) : l.all letter = l.all (Lx.isB 3) := by
  congr 1; funext c; exact letter_isB c
theorem all_digit (l : Bytes) : l.all digit = l.all (Lx.isB 2) := by
  congr 1; funext c; exact digit_isB c

theorem tok_mark (b : UInt8) (h : Lx.isB 5 b = true) : TokOK (mk7 b) := .inr (.inr (.inr (.inr (.inr (.inr (.inl ⟨rfl, b, rfl, h⟩))))))
theorem tok_break : TokOK ⟨8, [92, 92]⟩ := .inr (.inr (.inr (.inr (.inr (.inr (.inr ⟨rfl, rfl⟩))))))
theorem tok_name (t : Bytes) (h1 : t.length ≤ 16) (h2 : t ≠ []) (h3 : t.all letter = true) (h4 : t ≠ [102, 101, 110, 99, 101]) : TokOK (name t) :=
  .inr (.inr (.inr (.inl ⟨rfl, h1, h2, by rw [← all_letter]; exact h3, h4⟩)))
theorem tok_sym (t : Bytes) (h : symbol t = true) : TokOK (if t.length = 1 then ⟨1, t⟩ else ⟨4, t⟩) := by
  unfold symbol at h
  match t, h with
  | [c], h =>
    rw [if_pos (show ([c] : Bytes).length = 1 from rfl)]
    refine .inl ⟨rfl, c, rfl, ?_⟩
    have h' : (letter c || signs.contains c) = true := h
    rw [letter_isB, sign_isB, Bool.or_eq_true] at h'
    exact h'
  | [], h => exact absurd (show symbol [] = true from h) (by decide)
  | a :: b :: l, h =>
    rw [if_neg (by simp)]
    simp only [Bool.and_eq_true, Bool.not_eq_true', decide_eq_true_eq] at h
    obtain ⟨⟨⟨⟨h1, h2⟩, h3⟩, h4⟩, h5⟩ := h
    exact tok_name _ h3 (by simp) h1 (by intro e; rw [e] at h4; revert h4; decide)
theorem tok_num (t : Bytes) (h : isNum t = true) : TokOK ⟨2, t⟩ := by
  unfold isNum at h
  rw [Bool.and_eq_true, Bool.and_eq_true, decide_eq_true_iff, decide_eq_true_iff, Bool.or_eq_true] at h
  obtain ⟨⟨h1, h2⟩, h3⟩ := h
  refine .inr (.inl ⟨rfl, h1, ?_⟩)
  rcases h3 with h3 | h3
  · exact ⟨t, h2, by rw [← all_digit]; exact h3, .inl rfl⟩
  · split at h3
    · rename_i x b hd
      simp only [Bool.and_eq_true, decide_eq_true_eq] at h3
      obtain ⟨⟨⟨h4, h5⟩, h6⟩, h7⟩ := h3
      refine ⟨t.takeWhile (· ≠ 46), h4, by rw [← all_digit]; exact h5, .inr ⟨b, h6, by rw [← all_digit]; exact h7, ?_⟩⟩
      have hx : x = 46 := by
        have := List.head?_dropWhile_not (fun b : UInt8 => decide (b ≠ 46)) t
        rw [hd] at this
        simpa using this
      have := List.takeWhile_append_dropWhile (p := fun b : UInt8 => decide (b ≠ 46)) (l := t)
      rw [hd, hx] at this
      exact this.symm
    · cases h3
theorem tok_text (t : Bytes) (h : (decide (t.length ≤ 200) && printable t) = true) : TokOK ⟨3, t⟩ := by
  rw [Bool.and_eq_true, decide_eq_true_iff] at h
  refine .inr (.inr (.inl ⟨rfl, h.1, ?_⟩))
  have h2 := h.2
  unfold printable at h2
  rw [List.all_eq_true] at h2 ⊢
  intro b hb
  have := h2 b hb
  simpa using this
theorem tok_fence (t : Bytes) (h : fence t = true) : TokOK ⟨5, t⟩ := by
  unfold fence at h
  split at h
  · rename_i a b
    rw [Bool.and_eq_true, delim_is, delim_is] at h
    exact .inr (.inr (.inr (.inr (.inl ⟨rfl, a, b, rfl, h.1, h.2⟩))))
  · cases h
theorem tok_accent (t : Bytes) (h : accents.contains t = true) : TokOK (name t) := by
  have : t ∈ accents := by simpa using h
  simp only [accents, List.mem_cons, List.not_mem_nil, or_false] at this
  rcases this with rfl | rfl | rfl | rfl | rfl | rfl <;> exact tok_name _ (by decide) (by decide) (by decide) (by decide)

def AllOK (l : List Tok) : Prop := ∀ t ∈ l, TokOK t
theorem AllOK.app {l m : List Tok} (h : AllOK l) (k : AllOK m) : AllOK (l ++ m) := fun t ht => (List.mem_append.1 ht).elim (h t) (k t)
theorem AllOK.cons {x : Tok} {m : List Tok} (h : TokOK x) (k : AllOK m) : AllOK (x :: m) := fun t ht => (List.mem_cons.1 ht).elim (fun e => e ▸ h) (k t)
theorem AllOK.nil : AllOK [] := fun t ht => by cases ht

theorem rows_ok (ks : List Nd) (h : ∀ x ∈ ks, AllOK (itemT x)) : AllOK (rowT ks) := by
  induction ks with
  | nil => rw [rowT_nil]; exact .nil
  | cons x ks ih => rw [rowT_cons]; exact (h x (by simp)).app (ih fun y hy => h y (by simp [hy]))
theorem braces_ok (ks : List Nd) (h : ∀ x ∈ ks, AllOK (itemT x)) (a b : UInt8) (ha : Lx.isB 5 a = true) (hb : Lx.isB 5 b = true) : AllOK (mk7 a :: (rowT ks ++ [mk7 b])) :=
  .cons (tok_mark a ha) ((rows_ok ks h).app (.cons (tok_mark b hb) .nil))
theorem args_ok (a : Nd) (h : ∀ x ∈ a.kids, AllOK (itemT x)) : AllOK (argT a) := by
  rw [argT_eq]
  split
  · rename_i x hx
    rw [hx] at h
    split
    · exact h x (by simp)
    · exact braces_ok _ h _ _ rfl rfl
  · exact braces_ok _ h _ _ rfl rfl
theorem base_ok (a : Nd) (h : ∀ x ∈ a.kids, AllOK (itemT x)) : AllOK (baseT a) := by
  rw [baseT_eq]
  split
  · rename_i x hx
    rw [hx] at h
    split
    · exact braces_ok _ h _ _ rfl rfl
    · exact h x (by simp)
  · exact braces_ok _ h _ _ rfl rfl
theorem cells_ok (c : Int) (ks : List Nd) : ∀ i, (∀ k ∈ ks, ∀ x ∈ k.kids, AllOK (itemT x)) → AllOK (cellsT c i ks) := by
  induction ks with
  | nil => intro i _; rw [cellsT]; exact .nil
  | cons k ks ih =>
    intro i h
    rw [cellsT]
    refine .app ?_ ((rows_ok _ (h k (by simp))).app (ih _ fun y hy => h y (by simp [hy])))
    split
    · exact .nil
    · split
      · exact .cons tok_break .nil
      · exact .cons (tok_mark _ rfl) .nil

theorem item_ok (m : Nat) : ∀ n, count n ≤ m → View n → AllOK (itemT n) := by
  induction m with
  | zero => intro n h; have := count_pos n; omega
  | succ m ih =>
    intro n hc v
    have hk : ∀ (k : Int) (t : Bytes) (c : Int) (ks : List Nd), n = .mk k t c ks → ∀ a ∈ ks, IsRow a → ∀ x ∈ a.kids, AllOK (itemT x) := fun k t c ks e a ha hr x hx => by
      have h1 := count_mem hx
      have h2 := count_kids a
      have h3 := count_mem ha
      rw [e, count] at hc
      exact ih x (by omega) (hr.views x hx)
    cases v with
    | sym t h => rw [itemT_sym]; exact .cons (tok_sym t h) .nil
    | num t h => rw [itemT_num]; exact .cons (tok_num t h) .nil
    | text t h => rw [itemT_text]; exact .cons (tok_text t h) .nil
    | frac a b ha hb =>
      rw [itemT_frac]
      exact .cons (tok_name _ (by decide) (by decide) (by decide) (by decide)) ((args_ok a (hk _ _ _ _ rfl a (by simp) ha)).app (args_ok b (hk _ _ _ _ rfl b (by simp) hb)))
    | root a b ha hb =>
      rw [itemT_root]
      refine .cons (tok_name _ (by decide) (by decide) (by decide) (by decide)) (.app ?_ (args_ok b (hk _ _ _ _ rfl b (by simp) hb)))
      split
      · exact .nil
      · exact braces_ok _ (hk _ _ _ _ rfl a (by simp) ha) _ _ rfl rfl
    | sub a b ha hb =>
      rw [itemT_sub]
      exact (base_ok a (hk _ _ _ _ rfl a (by simp) ha)).app (.cons (tok_mark _ rfl) (args_ok b (hk _ _ _ _ rfl b (by simp) hb)))
    | sup a b ha hb =>
      rw [itemT_sup]
      exact (base_ok a (hk _ _ _ _ rfl a (by simp) ha)).app (.cons (tok_mark _ rfl) (args_ok b (hk _ _ _ _ rfl b (by simp) hb)))
    | both a b d ha hb hd =>
      rw [itemT_both]
      exact (base_ok a (hk _ _ _ _ rfl a (by simp) ha)).app (.cons (tok_mark _ rfl) ((args_ok b (hk _ _ _ _ rfl b (by simp) hb)).app (.cons (tok_mark _ rfl) (args_ok d (hk _ _ _ _ rfl d (by simp) hd)))))
    | accent t a h ha =>
      rw [itemT_accent]
      exact .cons (tok_accent t h) (args_ok a (hk _ _ _ _ rfl a (by simp) ha))
    | fence t a h ha =>
      rw [itemT_fence]
      split
      · rename_i ht
        rcases ht with rfl | rfl <;> exact braces_ok _ (hk _ _ _ _ rfl a (by simp) ha) _ _ rfl rfl
      · exact .cons (tok_fence t h) (args_ok a (hk _ _ _ _ rfl a (by simp) ha))
    | matrix c ks hc1 hn hm h =>
      rw [itemT_matrix c ks (by rintro rfl; simp at hn)]
      exact .cons (tok_name _ (by decide) (by decide) (by decide) (by decide)) (.cons (tok_mark _ rfl) ((cells_ok c ks 0 fun k hk' => hk _ _ _ _ rfl k hk' (h k hk')).app (.cons (tok_mark _ rfl) .nil)))
theorem row_ok (a : Nd) (ha : IsRow a) : AllOK (rowT a.kids) := rows_ok _ fun x hx => item_ok _ x (Nat.le_refl _) (ha.views x hx)

/-- Tokens, each behind a space if it joins with the one before. -/
def sepd : Option Tok → List Tok → List (Bytes × Tok)
  | _, [] => []
  | o, t :: ts => ((match o with | some a => if Lx.join a t then [32] else [] | none => []), t) :: sepd (some t) ts
def wtext (l : List Tok) : Bytes := Lx.flat (sepd none l)
theorem sepd_spaced : ∀ (l : List Tok) (o : Option Tok), AllOK l → Lx.spaced o (sepd o l)
  | [], _, _ => trivial
  | t :: ts, o, h => by
    refine ⟨?_, h t (by simp), ?_, sepd_spaced ts (some t) fun x hx => h x (by simp [hx])⟩
    · cases o with
      | none => rfl
      | some a => simp only; split <;> rfl
    · intro e a ha
      subst ha
      simp only at e
      cases hj : Lx.join a t with
      | false => rfl
      | true => rw [hj] at e; simp at e
theorem sepd_toks : ∀ (l : List Tok) (o : Option Tok), (sepd o l).map (·.2) = l
  | [], _ => rfl
  | t :: ts, o => by simp only [sepd, List.map_cons, sepd_toks ts]
theorem wtext_lex (l : List Tok) (h : AllOK l) : Lx.lexAll (wtext l) = (Lx.placed 0 (sepd none l), none) := Lx.lexAll_flat _ (sepd_spaced l none h)
theorem wtext_inj (l m : List Tok) (hl : AllOK l) (hm : AllOK m) (h : wtext l = wtext m) : l = m := by
  have h1 := wtext_lex l hl
  have h2 := wtext_lex m hm
  rw [h, h2] at h1
  have h3 := congrArg (fun p : List Lx.PTok × Option (Nat × Nat) => p.1.map Lx.tok) h1
  simp only [Lx.placed_toks, sepd_toks] at h3
  exact h3.symm

/-- Two valid trees have the same text exactly if they are equal. -/
theorem text_tells (a b : Nd) (ha : IsRow a) (hb : IsRow b) : (wtext (rowT a.kids) = wtext (rowT b.kids)) ↔ a = b :=
  ⟨fun h => rowT_inj a b ha hb (wtext_inj _ _ (row_ok a ha) (row_ok b hb) h), fun h => by rw [h]⟩
theorem valid_row (a : Nd) (h : valid a = true) : IsRow a := by
  unfold valid at h
  simp only [Bool.and_eq_true, beq_iff_eq, decide_eq_true_eq] at h
  exact ⟨h.1.1.1, h.1.1.2⟩
end Go.Proofs.Ytilgpmpiidccjaa.Tr
