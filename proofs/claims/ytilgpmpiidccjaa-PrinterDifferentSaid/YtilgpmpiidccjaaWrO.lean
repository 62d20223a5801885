/- Tokens that are written one after the other are read again. -/
import Derived.Test.YtilgpmpiidccjaaWrN
namespace Go.Proofs.Ytilgpmpiidccjaa.Lx

/-- The text of tokens, each behind blanks. -/
def flat : List (Bytes × Tok) → Bytes
  | [] => []
  | (s, t) :: l => s ++ (spell t ++ flat l)
/-- The tokens with their places. -/
def placed : Nat → List (Bytes × Tok) → List PTok
  | _, [] => []
  | a, (s, t) :: l => ⟨t.kind, t.text, a + s.length, a + s.length + (spell t).length⟩ :: placed (a + s.length + (spell t).length) l
/-- Nothing but blanks stands between, and something stands between tokens that join. -/
def spaced : Option Tok → List (Bytes × Tok) → Prop
  | _, [] => True
  | o, (s, t) :: l => s.all (isB 1) = true ∧ TokOK t ∧ (s = [] → ∀ a, o = some a → join a t = false) ∧ spaced (some t) l

theorem runI_isB (l : Bytes) (k : Nat) : runI 1 l k = runLen 1 (l.drop k) := by
  unfold runI runLen
  have hp : (fun b : UInt8 => (cls b.toNat : Int) == 1) = isB 1 := by
    funext b
    unfold isB
    rw [Bool.eq_iff_iff, beq_iff_eq, beq_iff_eq]
    omega
  rw [hp]

theorem spell_pos (t : Tok) (ht : TokOK t) : 0 < (spell t).length := by
  obtain ⟨c, y, e, _⟩ := spell_head t ht
  rw [e]; simp

theorem okAfter_flat (t : Tok) : ∀ (W : List (Bytes × Tok)), spaced (some t) W → okAfter t (flat W)
  | [], _ => okAfter_end t
  | (s, b) :: l, ⟨h1, h2, h3, _⟩ => by
    cases s with
    | nil => exact okAfter_tok t b h2 (h3 rfl t rfl) _
    | cons c s =>
      simp only [List.all_cons, Bool.and_eq_true] at h1
      exact okAfter_blank t c _ h1.1

theorem lexGo_flat (l : Bytes) : ∀ (W : List (Bytes × Tok)) (o : Option Tok) (p : Bytes) (f : Nat), l = p ++ flat W → W.length < f → spaced o W → lexGo l f p.length = (placed p.length W, none)
  | [], o, p, f, hl, hf, _ => by
    cases f with
    | zero => cases hf
    | succ f =>
      rw [lexGo, if_pos]
      · rfl
      · rw [hl]; unfold skip flat; simp
  | (s, t) :: W, o, p, f, hl, hf, ⟨h1, h2, h3, h4⟩ => by
    cases f with
    | zero => cases hf
    | succ f =>
      have hd : l.drop p.length = s ++ (spell t ++ flat W) := by rw [hl]; simp [flat]
      have hsk : skip l p.length = p.length + s.length := by
        unfold skip
        rw [runI_isB, hd, runLen_app 1 s _ h1]
        obtain ⟨c, y, e, n1, _⟩ := spell_head t h2
        rw [e]
        intro d hd'
        cases hd'
        exact n1
      have hl2 : l = (p ++ s) ++ (spell t ++ flat W) := by rw [hl]; simp [flat]
      have hl3 : l = (p ++ s ++ spell t) ++ flat W := by rw [hl]; simp [flat]
      have hsp := spell_pos t h2
      have hnx : next (l.drop (p.length + s.length)) = .ok t (spell t).length := by
        have : l.drop (p.length + s.length) = spell t ++ flat W := by
          rw [hl2, ← List.length_append, List.drop_left]
        rw [this]
        exact reread t _ h2 (okAfter_flat t W h4)
      have ih := lexGo_flat l W (some t) (p ++ s ++ spell t) f hl3 (by simpa using hf) h4
      rw [lexGo, hsk, if_neg]
      · rw [hnx]
        simp only
        have e3 : (p ++ s ++ spell t).length = p.length + s.length + (spell t).length := by simp [Nat.add_assoc]
        rw [e3] at ih
        rw [ih]
        rfl
      · rw [hl2]; simp; omega

theorem flat_len : ∀ (W : List (Bytes × Tok)) (o : Option Tok), spaced o W → W.length ≤ (flat W).length
  | [], _, _ => Nat.le_refl _
  | (s, t) :: W, o, ⟨_, h2, _, h4⟩ => by
    have := flat_len W (some t) h4
    have := spell_pos t h2
    simp [flat]; omega

theorem lexAll_flat (W : List (Bytes × Tok)) (h : spaced none W) : lexAll (flat W) = (placed 0 W, none) :=
  lexGo_flat (flat W) W none [] _ rfl (by have := flat_len W none h; omega) h

def tok (t : PTok) : Tok := ⟨t.kind, t.text⟩
theorem placed_toks : ∀ (W : List (Bytes × Tok)) (a : Nat), (placed a W).map tok = W.map (·.2)
  | [], _ => rfl
  | (s, t) :: W, a => by simp only [placed, List.map_cons, placed_toks W]; rfl

theorem lexGo_ok (l : Bytes) : ∀ (f a : Nat), ∀ t ∈ (lexGo l f a).1, TokOK (tok t)
  | 0, a, t, ht => by simp [lexGo] at ht
  | f + 1, a, t, ht => by
    rw [lexGo] at ht
    split at ht
    · cases ht
    · cases hn : next (l.drop (skip l a)) with
      | err i e => rw [hn] at ht; cases ht
      | ok t' n =>
        rw [hn] at ht
        rcases List.mem_cons.1 ht with rfl | h
        · exact next_tokOK _ _ _ hn
        · exact lexGo_ok l f _ t h

/-- Two tokens written one after the other. -/
theorem lexAll_two (a b : Tok) (ha : TokOK a) (hb : TokOK b) (hj : join a b = false) : ∃ x y, lexAll (spell a ++ spell b) = ([x, y], none) ∧ tok x = a ∧ tok y = b := by
  have := lexAll_flat [([], a), ([], b)] ⟨rfl, ha, (fun _ c hc => nomatch hc), rfl, hb, (fun _ c hc => by cases hc; exact hj), trivial⟩
  simp only [flat, List.nil_append, List.append_nil] at this
  exact ⟨_, _, this, rfl, rfl⟩
theorem lexAll_joined (a b : Tok) (ha : TokOK a) (hb : TokOK b) (hj : join a b = true) : (lexAll (spell a ++ spell b)).2 ≠ none ∨ (lexAll (spell a ++ spell b)).1.map tok ≠ [a, b] := by
  unfold lexAll
  obtain ⟨c, y, e, n1, _⟩ := spell_head a ha
  have hsk : skip (spell a ++ spell b) 0 = 0 := by
    unfold skip
    rw [runI_isB, List.drop_zero, e]
    have := runLen_app 1 [] (c :: y ++ spell b) rfl (fun d hd => by cases hd; exact n1)
    simpa using this
  have hp : 0 < (spell a ++ spell b).length := by have := spell_pos a ha; simp; omega
  rw [lexGo, hsk, if_neg (by omega), List.drop_zero]
  cases hn : next (spell a ++ spell b) with
  | err i e => left; simp
  | ok t n =>
    right
    intro h
    simp only [List.map_cons, List.cons.injEq] at h
    have : t = a := h.1
    subst this
    exact joined_other t b ha hb hj n hn

/-- The reference's comparison of tokens. -/
def sameT (x y : PTok) (places : Bool) : Bool := x.kind == y.kind && x.text == y.text && (!places || (x.from_ == y.from_ && x.to_ == y.to_))
def sameL : List PTok → List PTok → Bool → Bool
  | [], [], _ => true
  | x :: xs, y :: ys, p => sameT x y p && sameL xs ys p
  | _, _, _ => false
theorem sameT_iff (x y : PTok) : sameT x y false = decide (tok x = tok y) := by
  unfold sameT tok
  rw [Bool.eq_iff_iff]
  simp
theorem sameL_iff : ∀ (xs ys : List PTok), sameL xs ys false = decide (xs.map tok = ys.map tok)
  | [], [] => rfl
  | x :: xs, y :: ys => by
    rw [sameL, sameT_iff, sameL_iff xs ys]
    simp
  | [], y :: ys => by simp [sameL]
  | x :: xs, [] => by simp [sameL]
end Go.Proofs.Ytilgpmpiidccjaa.Lx
