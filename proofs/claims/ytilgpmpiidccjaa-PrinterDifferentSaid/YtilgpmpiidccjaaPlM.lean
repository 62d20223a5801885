/- The plain law of the places of tokens. -/
import Derived.Test.YtilgpmpiidccjaaSpM
namespace Go.Proofs.Ytilgpmpiidccjaa.Lx

/-- Tokens that stand in order from an offset on, each with its spelling at its place, with nothing but blanks around them. -/
def okFrom (l : Bytes) : Nat → List PTok → Prop
  | a, [] => a ≤ l.length ∧ (l.drop a).all (isB 1) = true
  | a, t :: ts => a ≤ t.from_ ∧ t.from_ < t.to_ ∧ t.to_ ≤ l.length ∧ ((l.drop a).take (t.from_ - a)).all (isB 1) = true ∧ (l.drop t.from_).take (t.to_ - t.from_) = spellL t.kind t.text ∧ okFrom l t.to_ ts

theorem spellL_len (k : Int) (t : Bytes) : t.length ≤ (spellL k t).length := by
  have he : ∀ l : Bytes, l.length ≤ (esc l).length := fun l => by
    induction l with
    | nil => simp
    | cons b l ih =>
      have : 1 ≤ (escB b).length := by unfold escB; split <;> simp
      simp [esc] at ih ⊢; omega
  unfold spellL
  have := he t
  repeat' split
  · simp [quoteL]; omega
  · simp
  · simp; omega
  · simp
  · exact Nat.le_refl _

theorem lim_as {most : Nat} {t t' : Tok} {n n' : Nat} (h : lim most t n = .ok t' n') : t = t' ∧ n = n' := by
  obtain ⟨h1, h2⟩ := lim_ok h
  exact ⟨h1.symm, h2.symm⟩

theorem quo_spell : ∀ (q acc : Bytes) (i : Nat) (t : Tok) (n : Nat), quo q acc i = .ok t n → t.kind = 3 ∧ ∃ x, t.text = acc ++ x ∧ i < n ∧ q.take (n - i) = esc x ++ [34]
  | [], acc, i, t, n, h => by simp [quo] at h
  | c :: q, acc, i, t, n, h => by
    unfold quo at h
    split at h
    · rename_i hc
      obtain ⟨h1, h2⟩ := lim_as h
      subst h1 h2 hc
      exact ⟨rfl, [], by simp, by omega, by simp [esc]⟩
    · rename_i hc
      split at h
      · cases h
      · split at h
        · rename_i hc2
          subst hc2
          cases q with
          | nil => simp at h
          | cons d q' =>
            simp only at h
            split at h
            · rename_i hd
              obtain ⟨h1, x, h2, h3, h4⟩ := quo_spell q' _ _ t n h
              refine ⟨h1, d :: x, by rw [h2]; simp, by omega, ?_⟩
              have e1 : n - i = (n - (i + 2)) + 1 + 1 := by omega
              rw [e1, List.take_succ_cons, List.take_succ_cons, h4]
              have : escB d = [92, d] := by unfold escB; rw [if_pos hd]
              simp [esc, this]
            · cases h
        · rename_i hc2
          obtain ⟨h1, x, h2, h3, h4⟩ := quo_spell q _ _ t n h
          refine ⟨h1, c :: x, by rw [h2]; simp, by omega, ?_⟩
          have e1 : n - i = (n - (i + 1)) + 1 := by omega
          rw [e1, List.take_succ_cons, h4]
          have : escB c = [c] := by unfold escB; rw [if_neg (by rintro (h | h) <;> contradiction)]
          simp [esc, this]

theorem next_spell (r : Bytes) (t : Tok) (n : Nat) (h : next r = .ok t n) : r.take n = spellL t.kind t.text := by
  cases r with
  | nil => simp [next] at h
  | cons c q =>
    rw [next] at h
    split at h
    · obtain ⟨h1, h2⟩ := lim_as h
      subst h1 h2; rfl
    · split at h
      · cases h; rfl
      · split at h
        · rename_i hc
          obtain ⟨h1, x, h2, h3, h4⟩ := quo_spell q [] 1 t n h
          have e1 : n = (n - 1) + 1 := by omega
          rw [e1, List.take_succ_cons, h4, h1, h2, hc]
          simp [spellL, quoteL]
        · split at h
          · rename_i hc
            obtain ⟨h1, h2⟩ := hc
            cases h
            cases q with
            | nil => simp at h2
            | cons d q' => simp at h2; subst h1 h2; rfl
          · split at h
            · rename_i hc
              obtain ⟨hc, _⟩ := hc
              subst hc
              unfold name at h
              simp only [List.drop_succ_cons, List.drop_zero] at h
              split at h
              · obtain ⟨h1, h2⟩ := lim_as h
                subst h1 h2
                rw [Nat.add_comm 1, List.take_succ_cons]; rfl
              · rename_i hf
                simp only [ne_eq, Decidable.not_not] at hf
                split at h
                · cases h
                  rw [show 3 + runLen 3 q = (runLen 3 q + 2) + 1 by omega, List.take_succ_cons, List.take_add, hf, Nat.add_comm 1, List.drop_succ_cons]
                  rfl
                · cases h
            · split at h
              · rename_i hc
                obtain ⟨h1, _⟩ := hc
                cases h
                subst h1
                rfl
              · split at h
                · cases h; rfl
                · cases h

theorem skip_blank (l : Bytes) (a : Nat) : ((l.drop a).take (skip l a - a)).all (isB 1) = true := by
  have : skip l a - a = ((l.drop a).takeWhile (fun b => (cls b.toNat : Int) == 1)).length := by unfold skip runI; omega
  rw [this]
  have hp : (fun b : UInt8 => (cls b.toNat : Int) == 1) = isB 1 := by
    funext b
    unfold isB
    rw [Bool.eq_iff_iff, beq_iff_eq, beq_iff_eq]
    omega
  rw [hp]
  generalize l.drop a = m
  induction m with
  | nil => rfl
  | cons b m ih =>
    rw [List.takeWhile_cons]
    split
    · rename_i hb; simp [hb, ih]
    · rfl

theorem lexGo_places (l : Bytes) : ∀ (f a : Nat), a ≤ l.length → l.length < a + f → (lexGo l f a).2 = none → okFrom l a (lexGo l f a).1
  | 0, a, h1, h2, _ => by omega
  | f + 1, a, h1, h2, h => by
    obtain ⟨s1, s2⟩ := skip_le l a h1
    have hb := skip_blank l a
    rw [lexGo] at h ⊢
    split at h
    · rename_i hs
      rw [if_pos hs]
      refine ⟨h1, ?_⟩
      have : skip l a = l.length := by omega
      rw [this, List.take_of_length_le (by simp)] at hb
      exact hb
    · rename_i hs
      rw [if_neg hs]
      cases hn : next (l.drop (skip l a)) with
      | err i e => rw [hn] at h; cases h
      | ok t n =>
        rw [hn] at h
        obtain ⟨n1, n2⟩ := next_pos _ _ _ hn
        rw [List.length_drop] at n2
        have := next_spell _ _ _ hn
        refine ⟨s1, by simp only; omega, by simp only; omega, hb, ?_, lexGo_places l f _ (by simp only; omega) (by simp only; omega) h⟩
        rw [show skip l a + n - skip l a = n by omega, this]

theorem lexGo_count (l : Bytes) : ∀ (f a : Nat), a ≤ l.length → (lexGo l f a).1.length + a ≤ l.length
  | 0, a, h1 => by simpa [lexGo] using h1
  | f + 1, a, h1 => by
    obtain ⟨s1, s2⟩ := skip_le l a h1
    rw [lexGo]
    split
    · simpa using h1
    · cases hn : next (l.drop (skip l a)) with
      | err i e => simpa using h1
      | ok t n =>
        obtain ⟨n1, n2⟩ := next_pos _ _ _ hn
        rw [List.length_drop] at n2
        have := lexGo_count l f (skip l a + n) (by omega)
        simp only [List.length_cons]; omega

theorem lexAll_places (l : Bytes) (h : (lexAll l).2 = none) : okFrom l 0 (lexAll l).1 := lexGo_places l _ _ (Nat.zero_le _) (by omega) h
theorem lexAll_count (l : Bytes) : (lexAll l).1.length ≤ l.length := lexGo_count l _ 0 (Nat.zero_le _)

theorem lim_err0 {most : Nat} {t : Tok} {n i e : Nat} (h : lim most t n = .err i e) : i = 0 := by
  unfold lim at h; split at h
  · cases h; rfl
  · cases h
theorem quo_err_le : ∀ (q acc : Bytes) (i a e : Nat), quo q acc i = .err a e → a ≤ i + q.length
  | [], acc, i, a, e, h => by simp [quo] at h; omega
  | c :: q, acc, i, a, e, h => by
    unfold quo at h
    split at h
    · have := lim_err0 h; omega
    · split at h
      · cases h; omega
      · split at h
        · cases q with
          | nil => simp at h; obtain ⟨h1, _⟩ := h; omega
          | cons d q' =>
            simp only at h
            split at h
            · have := quo_err_le q' _ _ a e h; simp only [List.length_cons]; omega
            · cases h; omega
        · have := quo_err_le q _ _ a e h; simp only [List.length_cons]; omega
theorem next_err_le (r : Bytes) (i e : Nat) (h : next r = .err i e) : i ≤ r.length := by
  cases r with
  | nil => simp [next] at h; omega
  | cons c q =>
    rw [next] at h
    split at h
    · have := lim_err0 h; omega
    · split at h
      · cases h
      · split at h
        · have := quo_err_le q [] 1 i e h; simp only [List.length_cons]; omega
        · split at h
          · cases h
          · split at h
            · unfold name at h
              simp only at h
              split at h
              · have := lim_err0 h; omega
              · split at h
                · cases h
                · cases h; omega
            · split at h
              · cases h
              · split at h
                · cases h
                · cases h; omega
theorem lexGo_err_le (l : Bytes) : ∀ (f a p e : Nat), a ≤ l.length → (lexGo l f a).2 = some (p, e) → p ≤ l.length
  | 0, a, p, e, _, h => by simp [lexGo] at h
  | f + 1, a, p, e, h1, h => by
    obtain ⟨s1, s2⟩ := skip_le l a h1
    rw [lexGo] at h
    split at h
    · cases h
    · cases hn : next (l.drop (skip l a)) with
      | err i e' =>
        rw [hn] at h
        have := next_err_le _ _ _ hn
        rw [List.length_drop] at this
        simp only [Option.some.injEq, Prod.mk.injEq] at h
        omega
      | ok t n =>
        rw [hn] at h
        obtain ⟨n1, n2⟩ := next_pos _ _ _ hn
        rw [List.length_drop] at n2
        exact lexGo_err_le l f (skip l a + n) p e (by omega) h
theorem lexAll_err_le (l : Bytes) (p e : Nat) (h : (lexAll l).2 = some (p, e)) : p ≤ l.length := lexGo_err_le l _ 0 p e (Nat.zero_le _) h
end Go.Proofs.Ytilgpmpiidccjaa.Lx
