/- The plain law of writing tokens and reading them again. -/
import Derived.Test.YtilgpmpiidccjaaPlM
namespace Go.Proofs.Ytilgpmpiidccjaa.Lx

/-- What the text of a token is. -/
def TokOK (t : Tok) : Prop :=
  (t.kind = 1 ∧ ∃ c, t.text = [c] ∧ (isB 3 c = true ∨ isB 4 c = true)) ∨
  (t.kind = 2 ∧ t.text.length ≤ 20 ∧ ∃ ds, ds ≠ [] ∧ ds.all (isB 2) = true ∧ (t.text = ds ∨ ∃ es, es ≠ [] ∧ es.all (isB 2) = true ∧ t.text = ds ++ 46 :: es)) ∨
  (t.kind = 3 ∧ t.text.length ≤ 200 ∧ t.text.all (fun b => decide (32 ≤ b ∧ b ≤ 126)) = true) ∨
  (t.kind = 4 ∧ t.text.length ≤ 16 ∧ t.text ≠ [] ∧ t.text.all (isB 3) = true ∧ t.text ≠ [102, 101, 110, 99, 101]) ∨
  (t.kind = 5 ∧ ∃ a b, t.text = [a, b] ∧ isDelim a = true ∧ isDelim b = true) ∨
  (t.kind = 6 ∧ ∃ d, t.text = [d] ∧ 49 ≤ d ∧ d ≤ 52) ∨
  (t.kind = 7 ∧ ∃ c, t.text = [c] ∧ isB 5 c = true) ∨
  (t.kind = 8 ∧ t.text = [92, 92])

def spell (t : Tok) : Bytes := spellL t.kind t.text
def join (a b : Tok) : Bool := (a.kind == 2 && b.kind == 2) || (a.kind == 4 && b.kind == 1 && (match b.text with | [] => false | c :: _ => isB 3 c))
/-- No byte of a class comes first. -/
def headNot (k : Nat) (q : Bytes) : Prop := ∀ c, q.head? = some c → isB k c = false
/-- What may stand behind a token. -/
def okAfter (t : Tok) (q : Bytes) : Prop := (t.kind = 2 → headNot 2 q ∧ q.head? ≠ some 46) ∧ (t.kind = 4 → headNot 3 q)

theorem isB_unique {j k : Nat} {c : UInt8} (h : isB j c = true) (hk : j ≠ k) : isB k c = false := by
  unfold isB at *
  rw [beq_iff_eq] at h
  rw [h]; simpa using hk

theorem runLen_app (k : Nat) (x y : Bytes) (hx : x.all (isB k) = true) (hy : headNot k y) : runLen k (x ++ y) = x.length := by
  unfold runLen
  induction x with
  | nil =>
    cases y with
    | nil => rfl
    | cons c y => rw [List.nil_append, List.takeWhile_cons, hy c rfl]; rfl
  | cons c x ih =>
    simp only [List.all_cons, Bool.and_eq_true] at hx
    rw [List.cons_append, List.takeWhile_cons, if_pos hx.1, List.length_cons, ih hx.2, List.length_cons]
theorem runLen_split (k : Nat) (r : Bytes) : ∃ y, r = r.take (runLen k r) ++ y ∧ (r.take (runLen k r)).all (isB k) = true ∧ headNot k y ∧ y = r.drop (runLen k r) := by
  unfold runLen
  induction r with
  | nil => exact ⟨[], rfl, rfl, (fun c h => nomatch h), rfl⟩
  | cons c r ih =>
    rw [List.takeWhile_cons]
    cases hc : isB k c with
    | true =>
      obtain ⟨y, h1, h2, h3, h4⟩ := ih
      refine ⟨y, ?_, ?_, h3, ?_⟩
      · simp only [if_true, List.length_cons, List.take_succ_cons, List.cons_append]; rw [← h1]
      · simp only [if_true, List.length_cons, List.take_succ_cons, List.all_cons, hc, h2]; rfl
      · simpa using h4
    | false => exact ⟨c :: r, rfl, rfl, fun d h => by cases h; exact hc, rfl⟩

theorem isAt_split (k : Nat) (x y : Bytes) : isAt k (x ++ y) x.length = (match y with | [] => false | c :: _ => isB k c) := by
  unfold isAt
  rw [List.getElem?_append_right (Nat.le_refl _), Nat.sub_self]
  cases y <;> rfl

theorem numLen_plain (ds q : Bytes) (h : ds.all (isB 2) = true) (hq : headNot 2 q) (h46 : q.head? ≠ some 46) : numLen (ds ++ q) = ds.length := by
  unfold numLen
  rw [runLen_app 2 ds q h hq, if_neg]
  rintro ⟨h1, _⟩
  rw [List.getElem?_append_right (Nat.le_refl _), Nat.sub_self] at h1
  exact h46 (by rw [← h1]; cases q <;> rfl)

theorem numLen_point (ds es q : Bytes) (h : ds.all (isB 2) = true) (he : es.all (isB 2) = true) (hn : es ≠ []) (hq : headNot 2 q) : numLen ((ds ++ 46 :: es) ++ q) = (ds ++ 46 :: es).length := by
  have e1 : (ds ++ 46 :: es) ++ q = ds ++ (46 :: (es ++ q)) := by simp
  have hr : runLen 2 (ds ++ (46 :: (es ++ q))) = ds.length := runLen_app 2 ds _ h (fun c hc => by cases hc; rfl)
  unfold numLen
  rw [e1, hr, if_pos]
  · have : (ds ++ (46 :: (es ++ q))).drop (ds.length + 1) = es ++ q := by
      simp [List.drop_append]
    rw [this, runLen_app 2 es q he hq]
    simp; omega
  · constructor
    · rw [List.getElem?_append_right (Nat.le_refl _), Nat.sub_self]; rfl
    · cases es with
      | nil => exact absurd rfl hn
      | cons e es =>
        have e2 : ds ++ (46 :: (e :: es ++ q)) = (ds ++ [46]) ++ (e :: (es ++ q)) := by simp
        have := isAt_split 2 (ds ++ [46]) (e :: (es ++ q))
        rw [e2, show ds.length + 1 = (ds ++ [46]).length by simp, this]
        simp only [List.all_cons, Bool.and_eq_true] at he
        exact he.1

theorem number_ok (r : Bytes) (t : Tok) (n : Nat) (h0 : isAt 2 r 0 = true) (h : number r = .ok t n) : TokOK t := by
  unfold number at h
  obtain ⟨h1, h2⟩ := lim_as h
  have hl : t.text.length ≤ 20 := by
    unfold lim at h
    split at h
    · cases h
    · rw [← h1]; simp only at *; omega
  subst h1 h2
  refine .inr (.inl ⟨rfl, hl, ?_⟩)
  simp only
  obtain ⟨y, e1, e2, e3, e4⟩ := runLen_split 2 r
  have hne : r.take (runLen 2 r) ≠ [] := by
    intro h
    rw [h, List.nil_append] at e1
    unfold isAt at h0
    cases r with
    | nil => cases h0
    | cons c r =>
      subst e1
      have := e3 c rfl
      simp only [List.getElem?_cons_zero] at h0
      rw [h0] at this; cases this
  refine ⟨_, hne, e2, ?_⟩
  unfold numLen
  split
  · rename_i hc
    obtain ⟨c1, c2⟩ := hc
    obtain ⟨y', f1, f2, f3, f4⟩ := runLen_split 2 (r.drop (runLen 2 r + 1))
    right
    refine ⟨_, ?_, f2, ?_⟩
    · intro h
      rw [h, List.nil_append] at f1
      unfold isAt at c2
      rw [← Nat.add_zero (runLen 2 r + 1), ← List.getElem?_drop, f1] at c2
      cases y' with
      | nil => cases c2
      | cons c y' =>
        have := f3 c rfl
        simp only [List.getElem?_cons_zero] at c2
        rw [c2] at this; cases this
    · rw [show runLen 2 r + 1 + runLen 2 (r.drop (runLen 2 r + 1)) = runLen 2 r + (1 + runLen 2 (r.drop (runLen 2 r + 1))) by omega, List.take_add]
      congr 1
      have hlt := (List.getElem?_eq_some_iff.1 c1)
      obtain ⟨hlt, hv⟩ := hlt
      rw [List.drop_eq_getElem_cons hlt, hv, Nat.add_comm 1, List.take_succ_cons]
  · exact .inl rfl

theorem quo_ok : ∀ (q acc : Bytes) (i : Nat) (t : Tok) (n : Nat), quo q acc i = .ok t n → acc.all (fun b => decide (32 ≤ b ∧ b ≤ 126)) = true → t.kind = 3 ∧ t.text.length ≤ 200 ∧ t.text.all (fun b => decide (32 ≤ b ∧ b ≤ 126)) = true
  | [], acc, i, t, n, h, _ => by simp [quo] at h
  | c :: q, acc, i, t, n, h, ha => by
    unfold quo at h
    split at h
    · obtain ⟨h1, h2⟩ := lim_as h
      have hl : t.text.length ≤ 200 := by
        unfold lim at h
        split at h
        · cases h
        · rw [← h1]; simp only at *; omega
      subst h1
      exact ⟨rfl, hl, ha⟩
    · split at h
      · cases h
      · rename_i hc
        have hcp : 32 ≤ c ∧ c ≤ 126 := by
          constructor
          · exact UInt8.not_lt.1 (fun h => hc (.inl h))
          · exact UInt8.not_lt.1 (fun h => hc (.inr h))
        split at h
        · cases q with
          | nil => simp at h
          | cons d q' =>
            simp only at h
            split at h
            · rename_i hd
              refine quo_ok q' _ _ t n h ?_
              rw [List.all_append, ha]
              rcases hd with rfl | rfl <;> rfl
            · cases h
        · refine quo_ok q _ _ t n h ?_
          rw [List.all_append, ha]
          simp [hcp]

theorem next_tokOK (r : Bytes) (t : Tok) (n : Nat) (h : next r = .ok t n) : TokOK t := by
  cases r with
  | nil => simp [next] at h
  | cons c q =>
    rw [next] at h
    split at h
    · rename_i hc
      exact number_ok (c :: q) t n (show isAt 2 (c :: q) 0 = true from hc) h
    · split at h
      · rename_i hc
        cases h
        exact .inr (.inr (.inr (.inr (.inr (.inr (.inl ⟨rfl, c, rfl, hc⟩))))))
      · split at h
        · exact .inr (.inr (.inl (quo_ok q [] 1 t n h rfl)))
        · split at h
          · cases h
            exact .inr (.inr (.inr (.inr (.inr (.inr (.inr ⟨rfl, rfl⟩))))))
          · split at h
            · rename_i hc
              obtain ⟨hc, hl⟩ := hc
              unfold name at h
              simp only [List.drop_succ_cons, List.drop_zero] at h
              obtain ⟨y, e1, e2, e3, e4⟩ := runLen_split 3 q
              split at h
              · rename_i hf
                have hlen : t.text.length ≤ 16 := by
                  obtain ⟨h1, h2⟩ := lim_as h
                  unfold lim at h
                  split at h
                  · cases h
                  · rw [← h1]; simp only at *; omega
                obtain ⟨h1, h2⟩ := lim_as h
                subst h1
                refine .inr (.inr (.inr (.inl ⟨rfl, hlen, ?_, e2, hf⟩)))
                intro h
                simp only at h
                rw [h, List.nil_append] at e1
                subst e1
                cases q with
                | nil => cases hl
                | cons c' q =>
                  have := e3 c' rfl
                  unfold isAt at hl
                  simp only [List.getElem?_cons_zero] at hl
                  rw [hl] at this; cases this
              · split at h
                · rename_i hd
                  cases h
                  obtain ⟨d1, d2⟩ := hd
                  refine .inr (.inr (.inr (.inr (.inl ⟨rfl, ?_⟩))))
                  simp only
                  unfold delimAt at d1 d2
                  rw [show 1 + runLen 3 q = runLen 3 q + 1 by omega, List.getElem?_cons_succ] at d1
                  rw [show 2 + runLen 3 q = (runLen 3 q + 1) + 1 by omega, List.getElem?_cons_succ] at d2
                  rw [show 1 + runLen 3 q = runLen 3 q + 1 by omega, List.drop_succ_cons]
                  generalize runLen 3 q = m at *
                  split at d1
                  · rename_i a ha
                    split at d2
                    · rename_i b hb
                      refine ⟨a, b, ?_, d1, d2⟩
                      obtain ⟨ha1, ha2⟩ := List.getElem?_eq_some_iff.1 ha
                      obtain ⟨hb1, hb2⟩ := List.getElem?_eq_some_iff.1 hb
                      rw [List.drop_eq_getElem_cons ha1, List.drop_eq_getElem_cons hb1, ha2, hb2]
                      rfl
                    · cases d2
                  · cases d1
                · cases h
            · split at h
              · rename_i hc
                obtain ⟨h1, h2⟩ := hc
                cases h
                cases q with
                | nil => cases h2
                | cons d q =>
                  exact .inr (.inr (.inr (.inr (.inr (.inl ⟨rfl, d, rfl, by simpa [parAt] using h2⟩)))))
              · split at h
                · rename_i hc
                  cases h
                  exact .inl ⟨rfl, c, rfl, hc⟩
                · cases h
end Go.Proofs.Ytilgpmpiidccjaa.Lx
