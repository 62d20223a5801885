/- Part 5 of 53 of a proof; its texts, joined: PrH, NuD. No condition. -/
import Derived.Test.YtgfhlfbcoimojaaGreatUb4
import Derived.Test.YtgfhlfbcoimojaaGreatUb3

/- The text of a valid tree has the tree's tokens; two valid trees with one text are equal. -/
namespace Go.Proofs.YtgfhlfbcoimojaaGreat.Tr
open Lx (Tok TokOK)
theorem byte_all (p : UInt8 → Prop) [DecidablePred p] (h : ∀ n : Fin 256, p (UInt8.ofNat n.1)) (c : UInt8) : p c := by
 have := h ⟨c.toNat, c.toNat_lt⟩
 simpa using this
theorem letter_isB (c : UInt8) : letter c = Lx.isB 3 c := byte_all (fun c => letter c = Lx.isB 3 c) (by decide +kernel) c
theorem digit_isB (c : UInt8) : digit c = Lx.isB 2 c := byte_all (fun c => digit c = Lx.isB 2 c) (by decide +kernel) c
theorem sign_isB (c : UInt8) : signs.contains c = Lx.isB 4 c := byte_all (fun c => signs.contains c = Lx.isB 4 c) (by decide +kernel) c
theorem delim_is (c : UInt8) : delims.contains c = Lx.isDelim c := byte_all (fun c => delims.contains c = Lx.isDelim c) (by decide +kernel) c
theorem all_letter (l : Bytes) : l.all letter = l.all (Lx.isB 3) := by
 congr 1; funext c; exact letter_isB c
theorem all_digit (l : Bytes) : l.all digit = l.all (Lx.isB 2) := by
 congr 1; funext c; exact digit_isB c
theorem tok_mark (b : UInt8) (h : Lx.isB 5 b = true) : TokOK (mk7 b) := .inr (.inr (.inr (.inr (.inr (.inr (.inl ⟨rfl, b, rfl, h⟩))))))
theorem tok_break : TokOK ⟨8, [92, 92]⟩ := .inr (.inr (.inr (.inr (.inr (.inr (.inr ⟨rfl, rfl⟩))))))
theorem tok_name (t : Bytes) (h1 : t.length ≤ 16) (h2 : t ≠ []) (h3 : t.all letter = true) (h4 : t ≠ [102, 101, 110, 99, 101]) : TokOK (name t) :=
 .inr (.inr (.inr (.inl ⟨rfl, h1, h2, by rw [← all_letter]; exact h3, h4⟩)))
theorem tok_sym (t : Bytes) (h : symbol t = true) : TokOK (if t.length = 1 then ⟨1, t⟩ else ⟨4, t⟩) := by
 unfold symbol at h
 match t, h with
 | [c], h =>
  rw [if_pos (show ([c] : Bytes).length = 1 from rfl)]
  refine .inl ⟨rfl, c, rfl, ?_⟩
  have h' : (letter c || signs.contains c) = true := h
  rw [letter_isB, sign_isB, Bool.or_eq_true] at h'
  exact h'
 | [], h => exact absurd (show symbol [] = true from h) (by decide)
 | a :: b :: l, h =>
  rw [if_neg (by simp)]
  simp only [Bool.and_eq_true, Bool.not_eq_true', decide_eq_true_eq] at h
  obtain ⟨⟨⟨⟨h1, h2⟩, h3⟩, h4⟩, h5⟩ := h
  exact tok_name _ h3 (by simp) h1 (by intro e; rw [e] at h4; revert h4; decide)
theorem tok_num (t : Bytes) (h : isNum t = true) : TokOK ⟨2, t⟩ := by
 unfold isNum at h
 rw [Bool.and_eq_true, Bool.and_eq_true, decide_eq_true_iff, decide_eq_true_iff, Bool.or_eq_true] at h
 obtain ⟨⟨h1, h2⟩, h3⟩ := h
 refine .inr (.inl ⟨rfl, h1, ?_⟩)
 rcases h3 with h3 | h3
 ·exact ⟨t, h2, by rw [← all_digit]; exact h3, .inl rfl⟩
 ·split at h3
  ·rename_i x b hd
   simp only [Bool.and_eq_true, decide_eq_true_eq] at h3
   obtain ⟨⟨⟨h4, h5⟩, h6⟩, h7⟩ := h3
   refine ⟨t.takeWhile (· ≠ 46), h4, by rw [← all_digit]; exact h5, .inr ⟨b, h6, by rw [← all_digit]; exact h7, ?_⟩⟩
   have hx : x = 46 := by
    have := List.head?_dropWhile_not (fun b : UInt8 => decide (b ≠ 46)) t
    rw [hd] at this
    simpa using this
   have := List.takeWhile_append_dropWhile (p := fun b : UInt8 => decide (b ≠ 46)) (l := t)
   rw [hd, hx] at this
   exact this.symm
  ·cases h3
theorem tok_text (t : Bytes) (h : (decide (t.length ≤ 200) && printable t) = true) : TokOK ⟨3, t⟩ := by
 rw [Bool.and_eq_true, decide_eq_true_iff] at h
 refine .inr (.inr (.inl ⟨rfl, h.1, ?_⟩))
 have h2 := h.2
 unfold printable at h2
 rw [List.all_eq_true] at h2 ⊢
 intro b hb
 have := h2 b hb
 simpa using this
theorem tok_fence (t : Bytes) (h : fence t = true) : TokOK ⟨5, t⟩ := by
 unfold fence at h
 split at h
 ·rename_i a b
  rw [Bool.and_eq_true, delim_is, delim_is] at h
  exact .inr (.inr (.inr (.inr (.inl ⟨rfl, a, b, rfl, h.1, h.2⟩))))
 ·cases h
theorem tok_accent (t : Bytes) (h : accents.contains t = true) : TokOK (name t) := by
 have : t ∈ accents := by simpa using h
 simp only [accents, List.mem_cons, List.not_mem_nil, or_false] at this
 rcases this with rfl | rfl | rfl | rfl | rfl | rfl <;> exact tok_name _ (by decide) (by decide) (by decide) (by decide)
def AllOK (l : List Tok) : Prop := ∀ t ∈ l, TokOK t
theorem AllOK.app {l m : List Tok} (h : AllOK l) (k : AllOK m) : AllOK (l ++ m) := fun t ht => (List.mem_append.1 ht).elim (h t) (k t)
theorem AllOK.cons {x : Tok} {m : List Tok} (h : TokOK x) (k : AllOK m) : AllOK (x :: m) := fun t ht => (List.mem_cons.1 ht).elim (fun e => e ▸ h) (k t)
theorem AllOK.nil : AllOK [] := fun t ht => by cases ht
theorem rows_ok (ks : List Nd) (h : ∀ x ∈ ks, AllOK (itemT x)) : AllOK (rowT ks) := by
 induction ks with
 | nil => rw [rowT_nil]; exact .nil
 | cons x ks ih => rw [rowT_cons]; exact (h x (by simp)).app (ih fun y hy => h y (by simp [hy]))
theorem braces_ok (ks : List Nd) (h : ∀ x ∈ ks, AllOK (itemT x)) (a b : UInt8) (ha : Lx.isB 5 a = true) (hb : Lx.isB 5 b = true) : AllOK (mk7 a :: (rowT ks ++ [mk7 b])) :=
 .cons (tok_mark a ha) ((rows_ok ks h).app (.cons (tok_mark b hb) .nil))
theorem args_ok (a : Nd) (h : ∀ x ∈ a.kids, AllOK (itemT x)) : AllOK (argT a) := by
 rw [argT_eq]
 split
 ·rename_i x hx
  rw [hx] at h
  split
  ·exact h x (by simp)
  ·exact braces_ok _ h _ _ rfl rfl
 ·exact braces_ok _ h _ _ rfl rfl
theorem base_ok (a : Nd) (h : ∀ x ∈ a.kids, AllOK (itemT x)) : AllOK (baseT a) := by
 rw [baseT_eq]
 split
 ·rename_i x hx
  rw [hx] at h
  split
  ·exact braces_ok _ h _ _ rfl rfl
  ·exact h x (by simp)
 ·exact braces_ok _ h _ _ rfl rfl
theorem cells_ok (c : Int) (ks : List Nd) : ∀ i, (∀ k ∈ ks, ∀ x ∈ k.kids, AllOK (itemT x)) → AllOK (cellsT c i ks) := by
 induction ks with
 | nil => intro i _; rw [cellsT]; exact .nil
 | cons k ks ih =>
  intro i h
  rw [cellsT]
  refine .app ?_ ((rows_ok _ (h k (by simp))).app (ih _ fun y hy => h y (by simp [hy])))
  split
  ·exact .nil
  ·split
   ·exact .cons tok_break .nil
   ·exact .cons (tok_mark _ rfl) .nil
theorem item_ok (m : Nat) : ∀ n, count n ≤ m → View n → AllOK (itemT n) := by
 induction m with
 | zero => intro n h; have := count_pos n; omega
 | succ m ih =>
  intro n hc v
  have hk : ∀ (k : Int) (t : Bytes) (c : Int) (ks : List Nd), n = .mk k t c ks → ∀ a ∈ ks, IsRow a → ∀ x ∈ a.kids, AllOK (itemT x) := fun k t c ks e a ha hr x hx => by
   have h1 := count_mem hx
   have h2 := count_kids a
   have h3 := count_mem ha
   rw [e, count] at hc
   exact ih x (by omega) (hr.views x hx)
  cases v with
  | sym t h => rw [itemT_sym]; exact .cons (tok_sym t h) .nil
  | num t h => rw [itemT_num]; exact .cons (tok_num t h) .nil
  | text t h => rw [itemT_text]; exact .cons (tok_text t h) .nil
  | frac a b ha hb =>
   rw [itemT_frac]
   exact .cons (tok_name _ (by decide) (by decide) (by decide) (by decide)) ((args_ok a (hk _ _ _ _ rfl a (by simp) ha)).app (args_ok b (hk _ _ _ _ rfl b (by simp) hb)))
  | root a b ha hb =>
   rw [itemT_root]
   refine .cons (tok_name _ (by decide) (by decide) (by decide) (by decide)) (.app ?_ (args_ok b (hk _ _ _ _ rfl b (by simp) hb)))
   split
   ·exact .nil
   ·exact braces_ok _ (hk _ _ _ _ rfl a (by simp) ha) _ _ rfl rfl
  | sub a b ha hb =>
   rw [itemT_sub]
   exact (base_ok a (hk _ _ _ _ rfl a (by simp) ha)).app (.cons (tok_mark _ rfl) (args_ok b (hk _ _ _ _ rfl b (by simp) hb)))
  | sup a b ha hb =>
   rw [itemT_sup]
   exact (base_ok a (hk _ _ _ _ rfl a (by simp) ha)).app (.cons (tok_mark _ rfl) (args_ok b (hk _ _ _ _ rfl b (by simp) hb)))
  | both a b d ha hb hd =>
   rw [itemT_both]
   exact (base_ok a (hk _ _ _ _ rfl a (by simp) ha)).app (.cons (tok_mark _ rfl) ((args_ok b (hk _ _ _ _ rfl b (by simp) hb)).app (.cons (tok_mark _ rfl) (args_ok d (hk _ _ _ _ rfl d (by simp) hd)))))
  | accent t a h ha =>
   rw [itemT_accent]
   exact .cons (tok_accent t h) (args_ok a (hk _ _ _ _ rfl a (by simp) ha))
  | fence t a h ha =>
   rw [itemT_fence]
   split
   ·rename_i ht
    rcases ht with rfl | rfl <;> exact braces_ok _ (hk _ _ _ _ rfl a (by simp) ha) _ _ rfl rfl
   ·exact .cons (tok_fence t h) (args_ok a (hk _ _ _ _ rfl a (by simp) ha))
  | matrix c ks hc1 hn hm h =>
   rw [itemT_matrix c ks (by rintro rfl; simp at hn)]
   exact .cons (tok_name _ (by decide) (by decide) (by decide) (by decide)) (.cons (tok_mark _ rfl) ((cells_ok c ks 0 fun k hk' => hk _ _ _ _ rfl k hk' (h k hk')).app (.cons (tok_mark _ rfl) .nil)))
theorem row_ok (a : Nd) (ha : IsRow a) : AllOK (rowT a.kids) := rows_ok _ fun x hx => item_ok _ x (Nat.le_refl _) (ha.views x hx)
def sepd : Option Tok → List Tok → List (Bytes × Tok)
 | _, [] => []
 | o, t :: ts => ((match o with | some a => if Lx.join a t then [32] else [] | none => []), t) :: sepd (some t) ts
def wtext (l : List Tok) : Bytes := Lx.flat (sepd none l)
theorem sepd_spaced : ∀ (l : List Tok) (o : Option Tok), AllOK l → Lx.spaced o (sepd o l)
 | [], _, _ => trivial
 | t :: ts, o, h => by
  refine ⟨?_, h t (by simp), ?_, sepd_spaced ts (some t) fun x hx => h x (by simp [hx])⟩
  ·cases o with
   | none => rfl
   | some a => simp only; split <;> rfl
  ·intro e a ha
   subst ha
   simp only at e
   cases hj : Lx.join a t with
   | false => rfl
   | true => rw [hj] at e; simp at e
theorem sepd_toks : ∀ (l : List Tok) (o : Option Tok), (sepd o l).map (·.2) = l
 | [], _ => rfl
 | t :: ts, o => by simp only [sepd, List.map_cons, sepd_toks ts]
theorem wtext_lex (l : List Tok) (h : AllOK l) : Lx.lexAll (wtext l) = (Lx.placed 0 (sepd none l), none) := Lx.lexAll_flat _ (sepd_spaced l none h)
theorem wtext_inj (l m : List Tok) (hl : AllOK l) (hm : AllOK m) (h : wtext l = wtext m) : l = m := by
 have h1 := wtext_lex l hl
 have h2 := wtext_lex m hm
 rw [h, h2] at h1
 have h3 := congrArg (fun p : List Lx.PTok × Option (Nat × Nat) => p.1.map Lx.tok) h1
 simp only [Lx.placed_toks, sepd_toks] at h3
 exact h3.symm
theorem text_tells (a b : Nd) (ha : IsRow a) (hb : IsRow b) : (wtext (rowT a.kids) = wtext (rowT b.kids)) ↔ a = b :=
 ⟨fun h => rowT_inj a b ha hb (wtext_inj _ _ (row_ok a ha) (row_ok b hb) h), fun h => by rw [h]⟩
theorem valid_row (a : Nd) (h : valid a = true) : IsRow a := by
 unfold valid at h
 simp only [Bool.and_eq_true, beq_iff_eq, decide_eq_true_eq] at h
 exact ⟨h.1.1.1, h.1.1.2⟩
end Go.Proofs.YtgfhlfbcoimojaaGreat.Tr

/- The parser against the printer: what is parsed to an item is at least as long as what is printed for it, and where the two begin to differ. No program in sight. -/
namespace Go.Proofs.YtgfhlfbcoimojaaGreat.Np
open Lx (PTok Tok)
open Tr (Nd View IsRow mk7 rowT itemT argT baseT cellsT leaf scripted sFrac sRoot sMatrix)
def nb (t : Tok) : Bool := decide (t = mk7 123) || decide (t = mk7 125)
def wt : List Tok → Nat
 | [] => 0
 | t :: l => (if nb t then 0 else (Lx.spell t).length) + wt l
def br : List Tok → Nat
 | [] => 0
 | t :: l => (if nb t then 1 else 0) + br l
def qs : List Tok → Nat
 | [] => 0
 | t :: l => (Lx.spell t).count 34 + qs l
theorem wt_app (l m : List Tok) : wt (l ++ m) = wt l + wt m := by
 induction l with
 | nil => simp [wt]
 | cons t l ih => simp only [List.cons_append, wt, ih]; omega
theorem br_app (l m : List Tok) : br (l ++ m) = br l + br m := by
 induction l with
 | nil => simp [br]
 | cons t l ih => simp only [List.cons_append, br, ih]; omega
theorem qs_app (l m : List Tok) : qs (l ++ m) = qs l + qs m := by
 induction l with
 | nil => simp [qs]
 | cons t l ih => simp only [List.cons_append, qs, ih]; omega
def Dp (a a' : Tok) : Prop := (a' = mk7 123 ∧ a ≠ mk7 123) ∨ (a = mk7 95 ∧ a' = mk7 94) ∨ ((a = mk7 40 ∨ a = mk7 91) ∧ a'.kind = 5) ∨ (a' = mk7 91 ∧ a ≠ mk7 91)
def Diff (c m : List Tok) : Prop := ∃ p a x a' y, c = p ++ a :: x ∧ m = p ++ a' :: y ∧ Dp a a'
structure Cmp (c m : List Tok) : Prop where
 df : c = m ∨ Diff c m
 wt : wt c ≤ wt m
 br : br c ≤ br m
 qs : qs c = qs m
theorem Cmp.refl (c : List Tok) : Cmp c c := ⟨.inl rfl, Nat.le_refl _, Nat.le_refl _, rfl⟩
theorem Cmp.app {c m c' m' : List Tok} (h : Cmp c m) (k : Cmp c' m') : Cmp (c ++ c') (m ++ m') := by
 refine ⟨?_, ?_, ?_, ?_⟩
 ·rcases h.df with rfl | ⟨p, a, x, a', y, rfl, rfl, hd⟩
  ·rcases k.df with rfl | ⟨p, a, x, a', y, rfl, rfl, hd⟩
   ·exact .inl rfl
   ·exact .inr ⟨c ++ p, a, x, a', y, by simp, by simp, hd⟩
  ·exact .inr ⟨p, a, x ++ c', a', y ++ m', by simp, by simp, hd⟩
 ·rw [wt_app, wt_app]; exact Nat.add_le_add h.wt k.wt
 ·rw [br_app, br_app]; exact Nat.add_le_add h.br k.br
 ·rw [qs_app, qs_app, h.qs, k.qs]
theorem Cmp.cons (t : Tok) {c m : List Tok} (h : Cmp c m) : Cmp (t :: c) (t :: m) := (Cmp.refl [t]).app h
theorem Cmp.braced {c m : List Tok} (h : Cmp c m) (a b : Tok) : Cmp (a :: (c ++ [b])) (a :: (m ++ [b])) := (h.app (Cmp.refl [b])).cons a
theorem Cmp.wrap {c m : List Tok} {a : Tok} {x : List Tok} (h : Cmp c m) (hc : c = a :: x) (ha : a ≠ mk7 123) : Cmp c (mk7 123 :: (m ++ [mk7 125])) := by
 refine ⟨.inr ⟨[], a, x, mk7 123, m ++ [mk7 125], hc, rfl, .inl ⟨rfl, ha⟩⟩, ?_, ?_, ?_⟩
 ·have : Np.wt (mk7 123 :: (m ++ [mk7 125])) = Np.wt m := by
   simp only [Np.wt, wt_app]
   simp [nb]
  rw [this]; exact h.wt
 ·have : Np.br (mk7 123 :: (m ++ [mk7 125])) = Np.br m + 2 := by
   simp only [Np.br, br_app]
   simp [nb]
   omega
  rw [this]; have := h.br; omega
 ·have : Np.qs (mk7 123 :: (m ++ [mk7 125])) = Np.qs m := by
   simp only [Np.qs, qs_app]
   simp [Lx.spell, Lx.spellL, mk7]
  rw [this]; exact h.qs
def tk (p : List PTok) : List Tok := p.map Lx.tok
theorem tk_app (p q : List PTok) : tk (p ++ q) = tk p ++ tk q := List.map_append
theorem tk_cons (t : PTok) (p : List PTok) : tk (t :: p) = Lx.tok t :: tk p := rfl
def G (l : List PTok) : Prop := ∀ t ∈ l, Lx.TokOK (Lx.tok t)
theorem G.app {p r : List PTok} (h : G (p ++ r)) : G p ∧ G r := ⟨fun t ht => h t (List.mem_append_left _ ht), fun t ht => h t (List.mem_append_right _ ht)⟩
theorem G.tail {t : PTok} {r : List PTok} (h : G (t :: r)) : G r := fun x hx => h x (List.mem_cons_of_mem _ hx)
theorem isM_tok {b : UInt8} {l : List PTok} (h : isM b l = true) : ∃ t r, l = t :: r ∧ Lx.tok t = mk7 b := by
 cases l with
 | nil => cases h
 | cons t r =>
  simp only [isM, Bool.and_eq_true, beq_iff_eq] at h
  refine ⟨t, r, rfl, ?_⟩
  unfold Lx.tok mk7
  rw [h.1, h.2]
theorem break_tok {l : List PTok} (hg : G l) (h : isBreak l = true) : ∃ t r, l = t :: r ∧ Lx.tok t = ⟨8, [92, 92]⟩ := by
 cases l with
 | nil => cases h
 | cons t r =>
  simp only [isBreak, beq_iff_eq] at h
  refine ⟨t, r, rfl, ?_⟩
  have hk : (Lx.tok t).kind = 8 := h
  rcases hg t (by simp) with ⟨e, _⟩ | ⟨e, _⟩ | ⟨e, _⟩ | ⟨e, _⟩ | ⟨e, _⟩ | ⟨e, _⟩ | ⟨e, _⟩ | ⟨_, e⟩
  all_goals first | omega | skip
  have : Lx.tok t = ⟨(Lx.tok t).kind, (Lx.tok t).text⟩ := rfl
  rw [this, hk, e]
theorem leaf_item {t : PTok} {x : Nd} (h : leafOf t = some x) (ok : Lx.TokOK (Lx.tok t)) : itemT x = [Lx.tok t] ∧ leaf x = true ∧ scripted x = false := by
 unfold leafOf at h
 by_cases h1 : t.kind = 1
 ·rw [if_pos h1] at h
  cases h
  have hl : t.text.length = 1 := by
   have hk : (Lx.tok t).kind = 1 := h1
   rcases ok with ⟨_, c, e, _⟩ | ⟨e, _⟩ | ⟨e, _⟩ | ⟨e, _⟩ | ⟨e, _⟩ | ⟨e, _⟩ | ⟨e, _⟩ | ⟨e, _⟩
   all_goals first | omega | skip
   have : t.text = [c] := e
   rw [this]; rfl
  refine ⟨?_, rfl, rfl⟩
  rw [Tr.itemT_sym, if_pos hl]
  unfold Lx.tok
  rw [h1]
 ·rw [if_neg h1] at h
  by_cases h2 : t.kind = 2
  ·rw [if_pos h2] at h
   cases h
   refine ⟨?_, rfl, rfl⟩
   rw [Tr.itemT_num]
   unfold Lx.tok
   rw [h2]
  ·rw [if_neg h2] at h
   by_cases h3 : t.kind = 3
   ·rw [if_pos h3] at h
    cases h
    refine ⟨?_, rfl, rfl⟩
    rw [Tr.itemT_text]
    unfold Lx.tok
    rw [h3]
   ·rw [if_neg h3] at h
    cases h
theorem rowT_one (x : Nd) : rowT [x] = itemT x := by rw [Tr.rowT_cons, Tr.rowT_nil, List.append_nil]
theorem item_head {x : Nd} (v : View x) (hs : scripted x = false) : ∃ a y, itemT x = a :: y ∧ a ≠ mk7 123 := by
 obtain ⟨a, y, h, _⟩ := Tr.item_start x v
 refine ⟨a, y, h, fun e => ?_⟩
 have := Tr.item_noGroup x v hs []
 rw [h, e] at this
 simp [Tr.groupAt] at this
theorem leaf_unscripted {x : Nd} (h : leaf x = true) : scripted x = false := by
 unfold leaf at h
 unfold scripted
 simp only [Bool.or_eq_true, beq_iff_eq] at h
 rcases h with (h | h) | h <;> rw [h] <;> rfl
theorem argT_leaf {x : Nd} (h : leaf x = true) : argT (slot [x]) = itemT x := by
 rw [Tr.argT_eq]
 show (if leaf x then itemT x else _) = _
 rw [if_pos h]
theorem argT_wrap {ks : List Nd} {m : List Tok} (h : Cmp (rowT ks) m) (hv : ∀ x ∈ ks, View x) : Cmp (argT (slot ks)) (mk7 123 :: (m ++ [mk7 125])) := by
 rw [Tr.argT_eq]
 rw [show (slot ks).kids = ks from rfl]
 split
 ·rename_i x
  split
  ·rename_i hl
   rw [rowT_one] at h
   obtain ⟨a, y, e, ha⟩ := item_head (hv x (by simp)) (leaf_unscripted hl)
   exact h.wrap e ha
  ·exact h.braced _ _
 ·exact h.braced _ _
theorem baseT_wrap {ks : List Nd} {m : List Tok} (h : Cmp (rowT ks) m) (hv : ∀ x ∈ ks, View x) : Cmp (baseT (slot ks)) (mk7 123 :: (m ++ [mk7 125])) := by
 rw [Tr.baseT_eq]
 rw [show (slot ks).kids = ks from rfl]
 split
 ·rename_i x
  split
  ·exact h.braced _ _
  ·rename_i hl
   rw [rowT_one] at h
   obtain ⟨a, y, e, ha⟩ := item_head (hv x (by simp)) (by simpa using hl)
   exact h.wrap e ha
 ·exact h.braced _ _
theorem baseT_one {x : Nd} (hs : scripted x = false) : baseT (slot [x]) = itemT x := by
 rw [Tr.baseT_eq]
 show (if scripted x then _ else itemT x) = _
 rw [if_neg (by simp [hs])]
theorem row_in_arg (a : Nd) : wt (rowT a.kids) ≤ wt (argT a) ∧ br (rowT a.kids) ≤ br (argT a) ∧ qs (rowT a.kids) = qs (argT a) := by
 have hb : ∀ l : List Tok, wt l ≤ wt (mk7 123 :: (l ++ [mk7 125])) ∧ br l ≤ br (mk7 123 :: (l ++ [mk7 125])) ∧ qs l = qs (mk7 123 :: (l ++ [mk7 125])) := fun l => by
  refine ⟨?_, ?_, ?_⟩
  ·simp only [wt, wt_app]; omega
  ·simp only [br, br_app]; omega
  ·simp only [qs, qs_app]; simp [Lx.spell, Lx.spellL, mk7]
 rw [Tr.argT_eq]
 split
 ·rename_i x hx
  rw [hx]
  split
  ·rw [rowT_one]; exact ⟨Nat.le_refl _, Nat.le_refl _, rfl⟩
  ·exact hb _
 ·exact hb _
theorem fence_cmp {t : PTok} {a : Nd} {m : List Tok} (hk : t.kind = 5) (h : Cmp (argT a) m) : Cmp (itemT (.mk 11 t.text 0 [a])) (Lx.tok t :: m) := by
 have ht : Lx.tok t = ⟨5, t.text⟩ := by unfold Lx.tok; rw [hk]
 rw [Tr.itemT_fence]
 split
 ·rename_i hc
  obtain ⟨h1, h2, h3⟩ := row_in_arg a
  have hq : (Lx.spell (Lx.tok t)).count 34 = 0 := by
   rw [ht]
   rcases hc with e | e <;> rw [e] <;> rfl
  have hw : 2 ≤ (Lx.spell (Lx.tok t)).length := by
   rw [ht]
   rcases hc with e | e <;> rw [e] <;> decide
  have hn : nb (Lx.tok t) = false := by
   rw [ht]
   simp [nb, mk7]
  refine ⟨.inr ⟨[], mk7 (t.text.headD 0), _, Lx.tok t, m, rfl, rfl, .inr (.inr (.inl ⟨?_, hk⟩))⟩, ?_, ?_, ?_⟩
  ·rcases hc with e | e <;> rw [e] <;> simp
  ·have e1 : wt (mk7 (t.text.headD 0) :: (rowT a.kids ++ [mk7 (t.text.getLastD 0)])) = wt (rowT a.kids) + 2 := by
    simp only [wt, wt_app]
    rcases hc with e | e <;> rw [e] <;> simp [nb, mk7, Lx.spell, Lx.spellL] <;> omega
   have e2 : wt (Lx.tok t :: m) = (Lx.spell (Lx.tok t)).length + wt m := by simp only [wt, hn]; rfl
   rw [e1, e2]
   have := h.wt
   omega
  ·have e1 : br (mk7 (t.text.headD 0) :: (rowT a.kids ++ [mk7 (t.text.getLastD 0)])) = br (rowT a.kids) := by
    simp only [br, br_app]
    rcases hc with e | e <;> rw [e] <;> simp [nb, mk7]
   have e2 : br (Lx.tok t :: m) = br m := by simp only [br, hn]; simp
   rw [e1, e2]
   have := h.br
   omega
  ·have e1 : qs (mk7 (t.text.headD 0) :: (rowT a.kids ++ [mk7 (t.text.getLastD 0)])) = qs (rowT a.kids) := by
    simp only [qs, qs_app]
    rcases hc with e | e <;> rw [e] <;> simp [mk7, Lx.spell, Lx.spellL]
   have e2 : qs (Lx.tok t :: m) = qs m := by simp only [qs, hq]; omega
   rw [e1, e2, h3, h.qs]
 ·rw [ht]
  exact h.cons _
end Go.Proofs.YtgfhlfbcoimojaaGreat.Np
