/- Part 2 of 48 of a proof; its texts, joined: WrM, WrN. No condition. -/
import Derived.Test.YtncnoeoicaglaaaGreatVc1

/- The plain law of writing tokens and reading them again. -/
namespace Go.Proofs.YtncnoeoicaglaaaGreat.Lx
def TokOK (t : Tok) : Prop :=
 (t.kind = 1 ∧ ∃ c, t.text = [c] ∧ (isB 3 c = true ∨ isB 4 c = true)) ∨
 (t.kind = 2 ∧ t.text.length ≤ 20 ∧ ∃ ds, ds ≠ [] ∧ ds.all (isB 2) = true ∧ (t.text = ds ∨ ∃ es, es ≠ [] ∧ es.all (isB 2) = true ∧ t.text = ds ++ 46 :: es)) ∨
 (t.kind = 3 ∧ t.text.length ≤ 200 ∧ t.text.all (fun b => decide (32 ≤ b ∧ b ≤ 126)) = true) ∨
 (t.kind = 4 ∧ t.text.length ≤ 16 ∧ t.text ≠ [] ∧ t.text.all (isB 3) = true ∧ t.text ≠ [102, 101, 110, 99, 101]) ∨
 (t.kind = 5 ∧ ∃ a b, t.text = [a, b] ∧ isDelim a = true ∧ isDelim b = true) ∨
 (t.kind = 6 ∧ ∃ d, t.text = [d] ∧ 49 ≤ d ∧ d ≤ 52) ∨
 (t.kind = 7 ∧ ∃ c, t.text = [c] ∧ isB 5 c = true) ∨
 (t.kind = 8 ∧ t.text = [92, 92])
def spell (t : Tok) : Bytes := spellL t.kind t.text
def join (a b : Tok) : Bool := (a.kind == 2 && b.kind == 2) || (a.kind == 4 && b.kind == 1 && (match b.text with | [] => false | c :: _ => isB 3 c))
def headNot (k : Nat) (q : Bytes) : Prop := ∀ c, q.head? = some c → isB k c = false
def okAfter (t : Tok) (q : Bytes) : Prop := (t.kind = 2 → headNot 2 q ∧ q.head? ≠ some 46) ∧ (t.kind = 4 → headNot 3 q)
theorem isB_unique {j k : Nat} {c : UInt8} (h : isB j c = true) (hk : j ≠ k) : isB k c = false := by
 unfold isB at *
 rw [beq_iff_eq] at h
 rw [h]; simpa using hk
theorem runLen_app (k : Nat) (x y : Bytes) (hx : x.all (isB k) = true) (hy : headNot k y) : runLen k (x ++ y) = x.length := by
 unfold runLen
 induction x with
 | nil =>
  cases y with
  | nil => rfl
  | cons c y => rw [List.nil_append, List.takeWhile_cons, hy c rfl]; rfl
 | cons c x ih =>
  simp only [List.all_cons, Bool.and_eq_true] at hx
  rw [List.cons_append, List.takeWhile_cons, if_pos hx.1, List.length_cons, ih hx.2, List.length_cons]
theorem runLen_split (k : Nat) (r : Bytes) : ∃ y, r = r.take (runLen k r) ++ y ∧ (r.take (runLen k r)).all (isB k) = true ∧ headNot k y ∧ y = r.drop (runLen k r) := by
 unfold runLen
 induction r with
 | nil => exact ⟨[], rfl, rfl, (fun c h => nomatch h), rfl⟩
 | cons c r ih =>
  rw [List.takeWhile_cons]
  cases hc : isB k c with
  | true =>
   obtain ⟨y, h1, h2, h3, h4⟩ := ih
   refine ⟨y, ?_, ?_, h3, ?_⟩
   ·simp only [if_true, List.length_cons, List.take_succ_cons, List.cons_append]; rw [← h1]
   ·simp only [if_true, List.length_cons, List.take_succ_cons, List.all_cons, hc, h2]; rfl
   ·simpa using h4
  | false => exact ⟨c :: r, rfl, rfl, fun d h => by cases h; exact hc, rfl⟩
theorem isAt_split (k : Nat) (x y : Bytes) : isAt k (x ++ y) x.length = (match y with | [] => false | c :: _ => isB k c) := by
 unfold isAt
 rw [List.getElem?_append_right (Nat.le_refl _), Nat.sub_self]
 cases y <;> rfl
theorem numLen_plain (ds q : Bytes) (h : ds.all (isB 2) = true) (hq : headNot 2 q) (h46 : q.head? ≠ some 46) : numLen (ds ++ q) = ds.length := by
 unfold numLen
 rw [runLen_app 2 ds q h hq, if_neg]
 rintro ⟨h1, _⟩
 rw [List.getElem?_append_right (Nat.le_refl _), Nat.sub_self] at h1
 exact h46 (by rw [← h1]; cases q <;> rfl)
theorem numLen_point (ds es q : Bytes) (h : ds.all (isB 2) = true) (he : es.all (isB 2) = true) (hn : es ≠ []) (hq : headNot 2 q) : numLen ((ds ++ 46 :: es) ++ q) = (ds ++ 46 :: es).length := by
 have e1 : (ds ++ 46 :: es) ++ q = ds ++ (46 :: (es ++ q)) := by simp
 have hr : runLen 2 (ds ++ (46 :: (es ++ q))) = ds.length := runLen_app 2 ds _ h (fun c hc => by cases hc; rfl)
 unfold numLen
 rw [e1, hr, if_pos]
 ·have : (ds ++ (46 :: (es ++ q))).drop (ds.length + 1) = es ++ q := by
   simp [List.drop_append]
  rw [this, runLen_app 2 es q he hq]
  simp; omega
 ·constructor
  ·rw [List.getElem?_append_right (Nat.le_refl _), Nat.sub_self]; rfl
  ·cases es with
   | nil => exact absurd rfl hn
   | cons e es =>
    have e2 : ds ++ (46 :: (e :: es ++ q)) = (ds ++ [46]) ++ (e :: (es ++ q)) := by simp
    have := isAt_split 2 (ds ++ [46]) (e :: (es ++ q))
    rw [e2, show ds.length + 1 = (ds ++ [46]).length by simp, this]
    simp only [List.all_cons, Bool.and_eq_true] at he
    exact he.1
theorem number_ok (r : Bytes) (t : Tok) (n : Nat) (h0 : isAt 2 r 0 = true) (h : number r = .ok t n) : TokOK t := by
 unfold number at h
 obtain ⟨h1, h2⟩ := lim_as h
 have hl : t.text.length ≤ 20 := by
  unfold lim at h
  split at h
  ·cases h
  ·rw [← h1]; simp only at *; omega
 subst h1 h2
 refine .inr (.inl ⟨rfl, hl, ?_⟩)
 simp only
 obtain ⟨y, e1, e2, e3, e4⟩ := runLen_split 2 r
 have hne : r.take (runLen 2 r) ≠ [] := by
  intro h
  rw [h, List.nil_append] at e1
  unfold isAt at h0
  cases r with
  | nil => cases h0
  | cons c r =>
   subst e1
   have := e3 c rfl
   simp only [List.getElem?_cons_zero] at h0
   rw [h0] at this; cases this
 refine ⟨_, hne, e2, ?_⟩
 unfold numLen
 split
 ·rename_i hc
  obtain ⟨c1, c2⟩ := hc
  obtain ⟨y', f1, f2, f3, f4⟩ := runLen_split 2 (r.drop (runLen 2 r + 1))
  right
  refine ⟨_, ?_, f2, ?_⟩
  ·intro h
   rw [h, List.nil_append] at f1
   unfold isAt at c2
   rw [← Nat.add_zero (runLen 2 r + 1), ← List.getElem?_drop, f1] at c2
   cases y' with
   | nil => cases c2
   | cons c y' =>
    have := f3 c rfl
    simp only [List.getElem?_cons_zero] at c2
    rw [c2] at this; cases this
  ·rw [show runLen 2 r + 1 + runLen 2 (r.drop (runLen 2 r + 1)) = runLen 2 r + (1 + runLen 2 (r.drop (runLen 2 r + 1))) by omega, List.take_add]
   congr 1
   have hlt := (List.getElem?_eq_some_iff.1 c1)
   obtain ⟨hlt, hv⟩ := hlt
   rw [List.drop_eq_getElem_cons hlt, hv, Nat.add_comm 1, List.take_succ_cons]
 ·exact .inl rfl
theorem quo_ok : ∀ (q acc : Bytes) (i : Nat) (t : Tok) (n : Nat), quo q acc i = .ok t n → acc.all (fun b => decide (32 ≤ b ∧ b ≤ 126)) = true → t.kind = 3 ∧ t.text.length ≤ 200 ∧ t.text.all (fun b => decide (32 ≤ b ∧ b ≤ 126)) = true
 | [], acc, i, t, n, h, _ => by simp [quo] at h
 | c :: q, acc, i, t, n, h, ha => by
  unfold quo at h
  split at h
  ·obtain ⟨h1, h2⟩ := lim_as h
   have hl : t.text.length ≤ 200 := by
    unfold lim at h
    split at h
    ·cases h
    ·rw [← h1]; simp only at *; omega
   subst h1
   exact ⟨rfl, hl, ha⟩
  ·split at h
   ·cases h
   ·rename_i hc
    have hcp : 32 ≤ c ∧ c ≤ 126 := by
     constructor
     ·exact UInt8.not_lt.1 (fun h => hc (.inl h))
     ·exact UInt8.not_lt.1 (fun h => hc (.inr h))
    split at h
    ·cases q with
     | nil => simp at h
     | cons d q' =>
      simp only at h
      split at h
      ·rename_i hd
       refine quo_ok q' _ _ t n h ?_
       rw [List.all_append, ha]
       rcases hd with rfl | rfl <;> rfl
      ·cases h
    ·refine quo_ok q _ _ t n h ?_
     rw [List.all_append, ha]
     simp [hcp]
theorem next_tokOK (r : Bytes) (t : Tok) (n : Nat) (h : next r = .ok t n) : TokOK t := by
 cases r with
 | nil => simp [next] at h
 | cons c q =>
  rw [next] at h
  split at h
  ·rename_i hc
   exact number_ok (c :: q) t n (show isAt 2 (c :: q) 0 = true from hc) h
  ·split at h
   ·rename_i hc
    cases h
    exact .inr (.inr (.inr (.inr (.inr (.inr (.inl ⟨rfl, c, rfl, hc⟩))))))
   ·split at h
    ·exact .inr (.inr (.inl (quo_ok q [] 1 t n h rfl)))
    ·split at h
     ·cases h
      exact .inr (.inr (.inr (.inr (.inr (.inr (.inr ⟨rfl, rfl⟩))))))
     ·split at h
      ·rename_i hc
       obtain ⟨hc, hl⟩ := hc
       unfold name at h
       simp only [List.drop_succ_cons, List.drop_zero] at h
       obtain ⟨y, e1, e2, e3, e4⟩ := runLen_split 3 q
       split at h
       ·rename_i hf
        have hlen : t.text.length ≤ 16 := by
         obtain ⟨h1, h2⟩ := lim_as h
         unfold lim at h
         split at h
         ·cases h
         ·rw [← h1]; simp only at *; omega
        obtain ⟨h1, h2⟩ := lim_as h
        subst h1
        refine .inr (.inr (.inr (.inl ⟨rfl, hlen, ?_, e2, hf⟩)))
        intro h
        simp only at h
        rw [h, List.nil_append] at e1
        subst e1
        cases q with
        | nil => cases hl
        | cons c' q =>
         have := e3 c' rfl
         unfold isAt at hl
         simp only [List.getElem?_cons_zero] at hl
         rw [hl] at this; cases this
       ·split at h
        ·rename_i hd
         cases h
         obtain ⟨d1, d2⟩ := hd
         refine .inr (.inr (.inr (.inr (.inl ⟨rfl, ?_⟩))))
         simp only
         unfold delimAt at d1 d2
         rw [show 1 + runLen 3 q = runLen 3 q + 1 by omega, List.getElem?_cons_succ] at d1
         rw [show 2 + runLen 3 q = (runLen 3 q + 1) + 1 by omega, List.getElem?_cons_succ] at d2
         rw [show 1 + runLen 3 q = runLen 3 q + 1 by omega, List.drop_succ_cons]
         generalize runLen 3 q = m at *
         split at d1
         ·rename_i a ha
          split at d2
          ·rename_i b hb
           refine ⟨a, b, ?_, d1, d2⟩
           obtain ⟨ha1, ha2⟩ := List.getElem?_eq_some_iff.1 ha
           obtain ⟨hb1, hb2⟩ := List.getElem?_eq_some_iff.1 hb
           rw [List.drop_eq_getElem_cons ha1, List.drop_eq_getElem_cons hb1, ha2, hb2]
           rfl
          ·cases d2
         ·cases d1
        ·cases h
      ·split at h
       ·rename_i hc
        obtain ⟨h1, h2⟩ := hc
        cases h
        cases q with
        | nil => cases h2
        | cons d q =>
         exact .inr (.inr (.inr (.inr (.inr (.inl ⟨rfl, d, rfl, by simpa [parAt] using h2⟩)))))
       ·split at h
        ·rename_i hc
         cases h
         exact .inl ⟨rfl, c, rfl, hc⟩
        ·cases h
end Go.Proofs.YtncnoeoicaglaaaGreat.Lx

/- A token that is written is read again. -/
namespace Go.Proofs.YtncnoeoicaglaaaGreat.Lx
theorem lim_le {most : Nat} {t : Tok} {n : Nat} (h : t.text.length ≤ most) : lim most t n = .ok t n := by
 unfold lim; rw [if_neg (by omega)]
theorem byte_cases (p : UInt8 → Prop) [DecidablePred p] (h : ∀ n : Fin 256, p (UInt8.ofNat n.1)) (c : UInt8) : p c := by
 have := h ⟨c.toNat, c.toNat_lt⟩
 simpa using this
theorem isB_digit_not (c : UInt8) : isB 2 c = true → isB 5 c = false ∧ isB 3 c = false ∧ isB 1 c = false ∧ isB 4 c = false ∧ c ≠ 34 ∧ c ≠ 92 ∧ c ≠ 35 ∧ c ≠ 46 := by
 revert c; exact fun c => byte_cases (fun c => isB 2 c = true → isB 5 c = false ∧ isB 3 c = false ∧ isB 1 c = false ∧ isB 4 c = false ∧ c ≠ 34 ∧ c ≠ 92 ∧ c ≠ 35 ∧ c ≠ 46) (by decide +kernel) c
theorem isB_sym_not (c : UInt8) : (isB 3 c = true ∨ isB 4 c = true) → isB 2 c = false ∧ isB 5 c = false ∧ isB 1 c = false ∧ c ≠ 34 ∧ c ≠ 92 ∧ c ≠ 35 ∧ c ≠ 46 :=
 byte_cases (fun c => (isB 3 c = true ∨ isB 4 c = true) → isB 2 c = false ∧ isB 5 c = false ∧ isB 1 c = false ∧ c ≠ 34 ∧ c ≠ 92 ∧ c ≠ 35 ∧ c ≠ 46) (by decide +kernel) c
theorem isB_mark_not (c : UInt8) : isB 5 c = true → isB 2 c = false ∧ isB 3 c = false ∧ isB 1 c = false ∧ c ≠ 34 ∧ c ≠ 92 ∧ c ≠ 35 ∧ c ≠ 46 :=
 byte_cases (fun c => isB 5 c = true → isB 2 c = false ∧ isB 3 c = false ∧ isB 1 c = false ∧ c ≠ 34 ∧ c ≠ 92 ∧ c ≠ 35 ∧ c ≠ 46) (by decide +kernel) c
theorem isDelim_not (c : UInt8) : isDelim c = true → isB 3 c = false :=
 byte_cases (fun c => isDelim c = true → isB 3 c = false) (by decide +kernel) c
theorem isB_blank_not (c : UInt8) : isB 1 c = true → isB 2 c = false ∧ isB 3 c = false ∧ c ≠ 46 :=
 byte_cases (fun c => isB 1 c = true → isB 2 c = false ∧ isB 3 c = false ∧ c ≠ 46) (by decide +kernel) c
theorem quo_esc_all : ∀ (x q acc : Bytes) (i : Nat), x.all (fun b => decide (32 ≤ b ∧ b ≤ 126)) = true → (acc ++ x).length ≤ 200 → quo (esc x ++ 34 :: q) acc i = .ok ⟨3, acc ++ x⟩ (i + (esc x).length + 1)
 | [], q, acc, i, _, hl => by
  simp only [esc, List.flatMap_nil, List.nil_append, List.append_nil, List.length_nil, Nat.add_zero] at *
  rw [quo.eq_def]
  simp only
  rw [if_pos trivial]
  exact lim_le (t := ⟨3, acc⟩) hl
 | c :: x, q, acc, i, hx, hl => by
  simp only [List.all_cons, Bool.and_eq_true, decide_eq_true_eq] at hx
  obtain ⟨⟨h1, h2⟩, hx⟩ := hx
  have hacc : acc ++ c :: x = (acc ++ [c]) ++ x := by simp
  have ih := fun j => quo_esc_all x q (acc ++ [c]) j hx (by rw [← hacc]; exact hl)
  have he : esc (c :: x) = escB c ++ esc x := rfl
  rw [he, hacc]
  unfold escB
  by_cases hc : c = 34 ∨ c = 92
  ·rw [if_pos hc]
   simp only [List.cons_append, List.nil_append]
   rw [quo.eq_def]
   simp only
   rw [if_neg (by decide), if_neg (by decide), if_pos trivial]
   rw [if_pos hc, ih]
   simp only [List.length_cons]
   congr 1; omega
  ·rw [if_neg hc]
   simp only [List.cons_append, List.nil_append]
   rw [quo.eq_def]
   simp only
   rw [if_neg (fun h => hc (.inl h)), if_neg (fun h => h.elim (UInt8.not_lt.2 h1) (UInt8.not_lt.2 h2)), if_neg (fun h => hc (.inr h)), ih]
   simp only [List.length_cons]
   congr 1; omega
theorem numLen_ok {t : Tok} {q : Bytes} (ds : Bytes) (h : ds.all (isB 2) = true) (ht : t.text = ds ∨ ∃ es, es ≠ [] ∧ es.all (isB 2) = true ∧ t.text = ds ++ 46 :: es) (hq : headNot 2 q) (h46 : q.head? ≠ some 46) :
  numLen (t.text ++ q) = t.text.length := by
 rcases ht with e | ⟨es, e1, e2, e3⟩
 ·rw [e]; exact numLen_plain ds q h hq h46
 ·rw [e3]; exact numLen_point ds es q h e2 e1 hq
theorem take_app (x q : Bytes) : (x ++ q).take x.length = x := by simp
theorem reread (t : Tok) (q : Bytes) (ht : TokOK t) (hq : okAfter t q) : next (spell t ++ q) = .ok t (spell t).length := by
 obtain ⟨k, x⟩ := t
 rcases ht with ⟨h1, c, h2, h3⟩ | ⟨h1, h2, ds, h3, h4, h5⟩ | ⟨h1, h2, h3⟩ | ⟨h1, h2, h3, h4, h5⟩ | ⟨h1, a, b, h2, h3, h4⟩ | ⟨h1, d, h2, h3, h4⟩ | ⟨h1, c, h2, h3⟩ | ⟨h1, h2⟩
 ·simp only at h1 h2; subst h1 h2
  obtain ⟨n1, n2, n3, n4, n5, n6, n7⟩ := isB_sym_not c h3
  show next ([c] ++ q) = _
  rw [List.cons_append, next, if_neg (by rw [n1]; decide), if_neg (by rw [n2]; decide), if_neg n4, if_neg (fun h => n5 h.1), if_neg (fun h => n5 h.1), if_neg (fun h => n6 h.1), if_pos h3]
  rfl
 ·simp only at h1 h2 h5; subst h1
  have hx : ∃ c y, x = c :: y ∧ isB 2 c = true := by
   cases ds with
   | nil => exact absurd rfl h3
   | cons c ds =>
    simp only [List.all_cons, Bool.and_eq_true] at h4
    rcases h5 with rfl | ⟨es, _, _, rfl⟩
    ·exact ⟨c, ds, rfl, h4.1⟩
    ·exact ⟨c, _, rfl, h4.1⟩
  obtain ⟨q1, q2⟩ := hq.1 rfl
  have hn : numLen (x ++ q) = x.length := numLen_ok (t := ⟨2, x⟩) ds h4 h5 q1 q2
  show next (x ++ q) = _
  obtain ⟨c, y, rfl, hc⟩ := hx
  rw [List.cons_append, next, if_pos hc, ← List.cons_append]
  unfold number
  rw [hn, take_app, lim_le (by exact h2)]
  rfl
 ·simp only at h1 h2 h3; subst h1
  show next (quoteL x ++ q) = _
  unfold quoteL
  rw [List.cons_append, next, if_neg (by decide), if_neg (by decide), if_pos rfl, List.append_assoc]
  have := quo_esc_all x q [] 1 h3 h2
  simp only [List.nil_append] at this
  rw [List.singleton_append, this]
  show Res.ok _ _ = Res.ok _ (quoteL x).length
  unfold quoteL
  simp only [List.length_cons, List.length_append, List.length_nil]
  congr 1; omega
 ·simp only at h1 h2 h3 h4 h5; subst h1
  have hr : runLen 3 (x ++ q) = x.length := runLen_app 3 x q h4 (hq.2 rfl)
  have hh : isAt 3 (x ++ q) 0 = true := by
   cases x with
   | nil => exact absurd rfl h3
   | cons c y =>
    simp only [List.all_cons, Bool.and_eq_true] at h4
    exact h4.1
  have h92 : (x ++ q).head? ≠ some 92 := by
   cases x with
   | nil => exact absurd rfl h3
   | cons c y =>
    simp only [List.all_cons, Bool.and_eq_true] at h4
    intro h
    have : c = 92 := by simpa using h
    exact (isB_sym_not c (.inl h4.1)).2.2.2.2.1 this
  show next ((92 :: x) ++ q) = _
  rw [List.cons_append, next, if_neg (by decide), if_neg (by decide), if_neg (by decide), if_neg (fun h => h92 h.2), if_pos ⟨rfl, hh⟩]
  unfold name
  simp only [List.drop_succ_cons, List.drop_zero]
  rw [hr, take_app, if_pos h5, lim_le (by exact h2)]
  show Res.ok _ _ = Res.ok _ (92 :: x).length
  rw [List.length_cons, Nat.add_comm]
 ·simp only at h1 h2; subst h1 h2
  have hr : runLen 3 ([102, 101, 110, 99, 101] ++ (a :: b :: q)) = 5 := runLen_app 3 [102, 101, 110, 99, 101] _ (by decide) (fun c hc => by cases hc; exact isDelim_not a h3)
  show next (92 :: ([102, 101, 110, 99, 101] ++ (a :: b :: q))) = _
  rw [next, if_neg (by decide), if_neg (by decide), if_neg (by decide), if_neg (fun h => absurd h.2 (by simp)), if_pos ⟨rfl, rfl⟩]
  unfold name
  simp only [List.drop_succ_cons, List.drop_zero]
  rw [hr, if_neg (by simp), if_pos]
  ·rfl
  ·exact ⟨h3, h4⟩
 ·simp only at h1 h2; subst h1 h2
  show next (35 :: d :: q) = _
  rw [next, if_neg (by decide), if_neg (by decide), if_neg (by decide), if_neg (fun h => absurd h.1 (by decide)), if_neg (fun h => absurd h.1 (by decide)), if_pos ⟨rfl, by simp [parAt, h3, h4]⟩]
  rfl
 ·simp only at h1 h2; subst h1 h2
  obtain ⟨n1, _⟩ := isB_mark_not c h3
  show next (c :: q) = _
  rw [next, if_neg (by rw [n1]; decide), if_pos h3]
  rfl
 ·simp only at h1 h2; subst h1 h2
  show next (92 :: 92 :: q) = _
  rw [next, if_neg (by decide), if_neg (by decide), if_neg (by decide), if_pos ⟨rfl, rfl⟩]
  rfl
theorem spell_head (t : Tok) (ht : TokOK t) : ∃ c y, spell t = c :: y ∧ isB 1 c = false ∧ c ≠ 46 ∧ (isB 2 c = true → t.kind = 2) ∧ (isB 3 c = true → t.kind = 1 ∧ ∃ z, t.text = c :: z) ∧ (t.kind = 2 → isB 2 c = true) := by
 obtain ⟨k, x⟩ := t
 rcases ht with ⟨h1, c, h2, h3⟩ | ⟨h1, h2, ds, h3, h4, h5⟩ | ⟨h1, h2, h3⟩ | ⟨h1, h2, h3, h4, h5⟩ | ⟨h1, a, b, h2, h3, h4⟩ | ⟨h1, d, h2, h3, h4⟩ | ⟨h1, c, h2, h3⟩ | ⟨h1, h2⟩
 ·simp only at h1 h2; subst h1 h2
  obtain ⟨n1, n2, n3, n4, n5, n6, n7⟩ := isB_sym_not c h3
  exact ⟨c, [], rfl, n3, n7, fun h => (by rw [n1] at h; cases h), fun h => ⟨rfl, [], rfl⟩, (fun h => by cases h)⟩
 ·simp only at h1 h2 h5; subst h1
  have hx : ∃ c y, x = c :: y ∧ isB 2 c = true := by
   cases ds with
   | nil => exact absurd rfl h3
   | cons c ds =>
    simp only [List.all_cons, Bool.and_eq_true] at h4
    rcases h5 with rfl | ⟨es, _, _, rfl⟩
    ·exact ⟨c, ds, rfl, h4.1⟩
    ·exact ⟨c, _, rfl, h4.1⟩
  obtain ⟨c, y, rfl, hc⟩ := hx
  obtain ⟨n1, n2, n3, n4, n5, n6, n7, n8⟩ := isB_digit_not c hc
  exact ⟨c, y, rfl, n3, n8, fun _ => rfl, fun h => (by rw [n2] at h; cases h), fun _ => hc⟩
 ·simp only at h1; subst h1
  exact ⟨34, _, rfl, rfl, by decide, (fun h => by cases h), (fun h => by cases h), (fun h => by cases h)⟩
 ·simp only at h1; subst h1
  exact ⟨92, _, rfl, rfl, by decide, (fun h => by cases h), (fun h => by cases h), (fun h => by cases h)⟩
 ·simp only at h1; subst h1
  exact ⟨92, _, rfl, rfl, by decide, (fun h => by cases h), (fun h => by cases h), (fun h => by cases h)⟩
 ·simp only at h1; subst h1
  exact ⟨35, _, rfl, rfl, by decide, (fun h => by cases h), (fun h => by cases h), (fun h => by cases h)⟩
 ·simp only at h1 h2; subst h1 h2
  obtain ⟨n1, n2, n3, n4, n5, n6, n7⟩ := isB_mark_not c h3
  exact ⟨c, [], rfl, n3, n7, fun h => (by rw [n1] at h; cases h), fun h => (by rw [n2] at h; cases h), (fun h => by cases h)⟩
 ·simp only at h1 h2; subst h1 h2
  exact ⟨92, _, rfl, rfl, by decide, (fun h => by cases h), (fun h => by cases h), (fun h => by cases h)⟩
theorem okAfter_tok (a b : Tok) (hb : TokOK b) (hj : join a b = false) (q : Bytes) : okAfter a (spell b ++ q) := by
 obtain ⟨c, y, e, n1, n2, n3, n4, n5⟩ := spell_head b hb
 rw [e, List.cons_append]
 unfold join at hj
 simp only [Bool.or_eq_false_iff, Bool.and_eq_false_iff] at hj
 constructor
 ·intro hk
  refine ⟨fun d hd => ?_, fun h => n2 (by simpa using h)⟩
  cases hd
  cases h2 : isB 2 c with
  | false => rfl
  | true =>
   rcases hj.1 with h | h
   ·rw [hk] at h; cases h
   ·rw [n3 h2] at h; cases h
 ·intro hk d hd
  cases hd
  cases h3 : isB 3 c with
  | false => rfl
  | true =>
   obtain ⟨m1, z, m2⟩ := n4 h3
   rcases hj.2 with (h | h) | h
   ·rw [hk] at h; cases h
   ·rw [m1] at h; cases h
   ·rw [m2] at h; simp only at h; rw [h3] at h; cases h
theorem okAfter_blank (a : Tok) (c : UInt8) (q : Bytes) (hc : isB 1 c = true) : okAfter a (c :: q) := by
 obtain ⟨n1, n2, n3⟩ := isB_blank_not c hc
 exact ⟨fun _ => ⟨fun d hd => by cases hd; exact n1, fun h => n3 (by simpa using h)⟩, fun _ d hd => by cases hd; exact n2⟩
theorem okAfter_end (a : Tok) : okAfter a [] := ⟨fun _ => ⟨(fun c h => nomatch h), by simp⟩, fun _ => (fun c h => nomatch h)⟩
theorem joined_other (a b : Tok) (ha : TokOK a) (hb : TokOK b) (hj : join a b = true) (n : Nat) : next (spell a ++ spell b) ≠ .ok a n := by
 intro h
 obtain ⟨k, x⟩ := a
 obtain ⟨k', x'⟩ := b
 unfold join at hj
 simp only [Bool.or_eq_true, Bool.and_eq_true, beq_iff_eq] at hj
 rcases hj with ⟨rfl, rfl⟩ | ⟨⟨rfl, rfl⟩, hl⟩
 ·obtain ⟨c, y, e, _, _, _, _, hd⟩ := spell_head ⟨2, x'⟩ hb
  replace hd := hd rfl
  have e' : x' = c :: y := e
  subst e'
  rcases ha with ⟨h1, _⟩ | ⟨_, h2, ds, h3, h4, h5⟩ | ⟨h1, _⟩ | ⟨h1, _⟩ | ⟨h1, _⟩ | ⟨h1, _⟩ | ⟨h1, _⟩ | ⟨h1, _⟩ <;> try (simp at h1)
  simp only at h5 h2
  have hs := next_spell _ _ _ h
  have hx : ∃ c y, x = c :: y ∧ isB 2 c = true := by
   cases ds with
   | nil => exact absurd rfl h3
   | cons c ds =>
    simp only [List.all_cons, Bool.and_eq_true] at h4
    rcases h5 with rfl | ⟨es, _, _, rfl⟩
    ·exact ⟨c, ds, rfl, h4.1⟩
    ·exact ⟨c, _, rfl, h4.1⟩
  obtain ⟨c0, y0, hx0, hc0⟩ := hx
  have hnum : next (spell ⟨2, x⟩ ++ spell ⟨2, c :: y⟩) = number (x ++ c :: y) := by
   show next (x ++ c :: y) = _
   rw [hx0, List.cons_append, next, if_pos hc0]
  rw [hnum] at h
  unfold number at h
  obtain ⟨e1, e2⟩ := lim_as h
  simp only [Tok.mk.injEq, true_and] at e1
  have hlen : numLen (x ++ c :: y) ≤ x.length := by
   have h1 := congrArg List.length e1
   rw [List.length_take] at h1
   have := numLen_le (x ++ c :: y)
   omega
  rcases h5 with rfl | ⟨es, g1, g2, rfl⟩
  ·have h1 : x.length + 1 ≤ runLen 2 (x ++ c :: y) := by
    unfold runLen
    have : (x ++ c :: y).takeWhile (isB 2) = x ++ (c :: y).takeWhile (isB 2) := List.takeWhile_append_of_pos (by simpa using h4)
    rw [this, List.takeWhile_cons, if_pos hd]; simp
   unfold numLen at hlen
   split at hlen <;> omega
  ·have q1 : (ds ++ 46 :: es) ++ c :: y = ds ++ 46 :: (es ++ c :: y) := by simp
   have hr : runLen 2 (ds ++ 46 :: (es ++ c :: y)) = ds.length := runLen_app 2 ds _ h4 (fun c hc => by cases hc; rfl)
   unfold numLen at hlen
   rw [q1, hr, if_pos] at hlen
   ·have hdr : (ds ++ (46 :: (es ++ c :: y))).drop (ds.length + 1) = es ++ c :: y := by simp [List.drop_append]
    rw [hdr] at hlen
    have h1 : es.length + 1 ≤ runLen 2 (es ++ c :: y) := by
     unfold runLen
     have : (es ++ c :: y).takeWhile (isB 2) = es ++ (c :: y).takeWhile (isB 2) := List.takeWhile_append_of_pos (by simpa using g2)
     rw [this, List.takeWhile_cons, if_pos hd]; simp
    simp at hlen; omega
   ·constructor
    ·rw [List.getElem?_append_right (Nat.le_refl _), Nat.sub_self]; rfl
    ·cases es with
     | nil => exact absurd rfl g1
     | cons e es =>
      have e2 : ds ++ (46 :: (e :: es ++ c :: y)) = (ds ++ [46]) ++ (e :: (es ++ c :: y)) := by simp
      have := isAt_split 2 (ds ++ [46]) (e :: (es ++ c :: y))
      rw [e2, show ds.length + 1 = (ds ++ [46]).length by simp, this]
      simp only [List.all_cons, Bool.and_eq_true] at g2
      exact g2.1
 ·cases x' with
  | nil => cases hl
  | cons c y =>
   simp only at hl
   rcases ha with ⟨h1, _⟩ | ⟨h1, _⟩ | ⟨h1, _⟩ | ⟨_, h2, h3, h4, h5⟩ | ⟨h1, _⟩ | ⟨h1, _⟩ | ⟨h1, _⟩ | ⟨h1, _⟩ <;> try (simp at h1)
   simp only at h2 h3 h4 h5
   have hh : isAt 3 (x ++ c :: y) 0 = true := by
    cases x with
    | nil => exact absurd rfl h3
    | cons c y =>
     simp only [List.all_cons, Bool.and_eq_true] at h4
     exact h4.1
   have h92 : (x ++ c :: y).head? ≠ some 92 := by
    cases x with
    | nil => exact absurd rfl h3
    | cons c y =>
     simp only [List.all_cons, Bool.and_eq_true] at h4
     intro h
     have : c = 92 := by simpa using h
     exact (isB_sym_not c (.inl h4.1)).2.2.2.2.1 this
   have hname : next (spell ⟨4, x⟩ ++ spell ⟨1, c :: y⟩) = name (92 :: (x ++ c :: y)) := by
    show next (92 :: x ++ c :: y) = _
    rw [List.cons_append, next, if_neg (by decide), if_neg (by decide), if_neg (by decide), if_neg (fun h => h92 h.2), if_pos ⟨rfl, hh⟩]
   rw [hname] at h
   unfold name at h
   simp only [List.drop_succ_cons, List.drop_zero] at h
   have h1 : x.length + 1 ≤ runLen 3 (x ++ c :: y) := by
    unfold runLen
    have : (x ++ c :: y).takeWhile (isB 3) = x ++ (c :: y).takeWhile (isB 3) := List.takeWhile_append_of_pos (by simpa using h4)
    rw [this, List.takeWhile_cons, if_pos hl]; simp
   have h2 := runLen_le 3 (x ++ c :: y)
   split at h
   ·obtain ⟨e1, e2⟩ := lim_as h
    simp only [Tok.mk.injEq, true_and] at e1
    have := congrArg List.length e1
    rw [List.length_take] at this
    omega
   ·split at h
    ·cases h
    ·cases h
end Go.Proofs.YtncnoeoicaglaaaGreat.Lx
