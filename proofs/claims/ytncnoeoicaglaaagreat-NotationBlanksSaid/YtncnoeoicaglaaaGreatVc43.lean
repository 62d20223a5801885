/- Part 43 of 48 of a proof; its texts, joined: NvA, NwD. No condition. -/
import Derived.Test.YtncnoeoicaglaaaGreatVc42

/- Two texts, one behind the other with a blank between: their tokens, and their items. No program in sight. -/
namespace Go.Proofs.YtncnoeoicaglaaaGreat.Lx
def After (o : Option Tok) (q : Bytes) : Prop := ∀ a, o = some a → (a.kind = 2 → headNot 2 q) ∧ (a.kind = 4 → headNot 3 q)
theorem join_after {a t : Tok} {q : Bytes} (ht : TokOK t) (h : (a.kind = 2 → headNot 2 (spell t ++ q)) ∧ (a.kind = 4 → headNot 3 (spell t ++ q))) : join a t = false := by
 obtain ⟨c, y, e, n1, n2, n3, n4, n5⟩ := spell_head t ht
 rw [e] at h
 cases hj : join a t with
 | false => rfl
 | true =>
  unfold join at hj
  simp only [Bool.or_eq_true, Bool.and_eq_true, beq_iff_eq] at hj
  rcases hj with ⟨h1, h2⟩ | ⟨⟨h1, h2⟩, h3⟩
  ·have := h.1 h1 c rfl
   rw [n5 h2] at this
   cases this
  ·have hs : spell t = t.text := by unfold spell; rw [h2]; rfl
   rw [← hs, e] at h3
   have := h.2 h1 c rfl
   simp only at h3
   rw [h3] at this
   cases this
theorem blank_split (q : Bytes) : ∃ sp y, q = sp ++ y ∧ sp.all (isB 1) = true ∧ headNot 1 y := by
 obtain ⟨y, h1, h2, h3, _⟩ := runLen_split 1 q
 exact ⟨_, y, h1, h2, h3⟩
theorem decomp (l : Bytes) : ∀ (m : Nat) (q p : Bytes) (o : Option Tok), q.length ≤ m → l = p ++ q → (lexFrom l p.length).2 = none → After o q →
  ∃ W bl, q = flat W ++ bl ∧ bl.all (isB 1) = true ∧ spaced o W ∧ (lexFrom l p.length).1.map tok = W.map (·.2) := by
 intro m
 induction m with
 | zero =>
  intro q p o hm hl hn ha
  have hq : q = [] := List.eq_nil_of_length_eq_zero (by omega)
  subst hq
  refine ⟨[], [], rfl, rfl, trivial, ?_⟩
  rw [lexFrom_end l p.length (by rw [hl]; unfold skip; simp)]
  rfl
 | succ m ih =>
  intro q p o hm hl hn ha
  obtain ⟨sp, y, rfl, hsp, hy⟩ := blank_split q
  cases y with
  | nil =>
   refine ⟨[], sp, by simp [flat], hsp, trivial, ?_⟩
   rw [lexFrom_end l p.length (by rw [skip_at l p sp [] hl hsp hy, hl]; simp)]
   rfl
  | cons c y =>
   have hc : isB 1 c = false := hy c rfl
   obtain ⟨t, n, hx, h1, h2⟩ := lex_step l p sp c y hl hsp hc hn
   have hts := Np.take_spell hx
   have hok := next_tokOK _ t n hx
   have hpos := next_pos _ t n hx
   have hmu := next_munch _ t n hx
   have hcy : c :: y = spell t ++ (c :: y).drop n := by rw [← hts.1, List.take_append_drop]
   generalize (c :: y).drop n = z at hcy hmu
   have hlen : (c :: y).length = n + z.length := by rw [hcy, List.length_append, ← hts.2]
   have hp : (p ++ sp ++ spell t).length = p.length + sp.length + n := by simp [← hts.2, Nat.add_assoc]
   rw [List.length_append] at hm
   obtain ⟨W, bl, e1, e2, e3, e4⟩ := ih z (p ++ sp ++ spell t) (some t) (by omega) (by rw [hl, hcy]; simp) (by rw [hp]; exact h2) (fun a e => by cases e; exact hmu)
   rw [hp] at e4
   refine ⟨(sp, t) :: W, bl, ?_, e2, ⟨hsp, hok, ?_, e3⟩, ?_⟩
   ·rw [hcy, e1]; simp [flat]
   ·intro hs a ho
    subst hs
    have := ha a ho
    rw [List.nil_append, hcy] at this
    exact join_after hok this
   ·rw [h1, e4]; rfl
theorem lex_trail (l bl : Bytes) (hb : bl.all (isB 1) = true) : ∀ (W : List (Bytes × Tok)) (o : Option Tok) (p : Bytes), l = p ++ (flat W ++ bl) → spaced o W →
  (lexFrom l p.length).2 = none ∧ (lexFrom l p.length).1.map tok = W.map (·.2)
 | [], o, p, hl, _ => by
  have hl' : l = p ++ (bl ++ []) := by rw [hl]; simp [flat]
  rw [lexFrom_end l p.length (by rw [skip_at l p bl [] hl' hb (fun c h => nomatch h), hl']; simp)]
  exact ⟨rfl, rfl⟩
 | (s, t) :: W, o, p, hl, ⟨h1, h2, h3, h4⟩ => by
  have hl2 : l = p ++ (s ++ (spell t ++ (flat W ++ bl))) := by rw [hl]; simp [flat]
  have hl3 : l = (p ++ s ++ spell t) ++ (flat W ++ bl) := by rw [hl2]; simp
  have ih := lex_trail l bl hb W (some t) (p ++ s ++ spell t) hl3 h4
  obtain ⟨c, y, e, n1, _⟩ := spell_head t h2
  have hsk := skip_at l p s (spell t ++ (flat W ++ bl)) hl2 h1 (by rw [e]; intro d hd; cases hd; exact n1)
  have hsp := spell_pos t h2
  have hoa : okAfter t (flat W ++ bl) := by
   cases W with
   | nil =>
    cases bl with
    | nil => exact okAfter_end t
    | cons c y => rw [List.all_cons, Bool.and_eq_true] at hb; exact okAfter_blank t c y hb.1
   | cons x W =>
    obtain ⟨s', b⟩ := x
    obtain ⟨k1, k2, k3, _⟩ := h4
    cases s' with
    | nil =>
     have := okAfter_tok t b k2 (k3 rfl t rfl) (flat W ++ bl)
     simpa [flat] using this
    | cons c s' =>
     rw [List.all_cons, Bool.and_eq_true] at k1
     have := okAfter_blank t c (s' ++ (spell b ++ flat W) ++ bl) k1.1
     simpa [flat] using this
  have hnx : next (l.drop (skip l p.length)) = .ok t (spell t).length := by
   have : l.drop (skip l p.length) = spell t ++ (flat W ++ bl) := by
    rw [hsk, hl2, ← List.append_assoc p s, ← List.length_append, List.drop_left]
   rw [this]
   exact reread t _ h2 hoa
  have hlt : skip l p.length < l.length := by rw [hsk, hl2]; simp; omega
  have hp : (p ++ s ++ spell t).length = skip l p.length + (spell t).length := by rw [hsk]; simp [Nat.add_assoc]
  rw [lexFrom_ok l _ _ t hlt hnx]
  rw [hp] at ih
  exact ⟨ih.1, by simp only [List.map_cons, ih.2]; rfl⟩
theorem flat_append : ∀ (l m : List (Bytes × Tok)), flat (l ++ m) = flat l ++ flat m
 | [], m => rfl
 | (s, t) :: l, m => by simp only [List.cons_append, flat, flat_append l m, List.append_assoc]
theorem spaced_app : ∀ (l : List (Bytes × Tok)) (o : Option Tok) (s : Bytes) (t : Tok) (m : List (Bytes × Tok)), spaced o l → s.all (isB 1) = true → TokOK t → s ≠ [] → spaced (some t) m → spaced o (l ++ (s, t) :: m)
 | [], _, _, _, _, _, h1, h2, h3, h4 => ⟨h1, h2, fun e => absurd e h3, h4⟩
 | (_, _) :: l, _, s, t, m, ⟨k1, k2, k3, k4⟩, h1, h2, h3, h4 => ⟨k1, k2, k3, spaced_app l _ s t m k4 h1 h2 h3 h4⟩
theorem lex_two (a b : Bytes) (ha : (lexAll a).2 = none) (hb : (lexAll b).2 = none) : (lexAll (a ++ 32 :: b)).2 = none ∧ (lexAll (a ++ 32 :: b)).1.map tok = (lexAll a).1.map tok ++ (lexAll b).1.map tok := by
 obtain ⟨W, x, e1, x1, s1, t1⟩ := decomp a a.length a [] none (Nat.le_refl _) rfl ha (fun a e => nomatch e)
 obtain ⟨V, y, e2, y1, s2, t2⟩ := decomp b b.length b [] none (Nat.le_refl _) rfl hb (fun a e => nomatch e)
 have t1' : (lexAll a).1.map tok = W.map (·.2) := t1
 have t2' : (lexAll b).1.map tok = V.map (·.2) := t2
 rw [t1', t2']
 cases V with
 | nil =>
  have h := lex_trail (a ++ 32 :: b) (x ++ 32 :: y) (by rw [List.all_append, x1, List.all_cons, y1]; rfl) W none [] (by rw [e1, e2]; simp [flat]) s1
  exact ⟨h.1, by rw [List.map_nil, List.append_nil]; exact h.2⟩
 | cons v V =>
  obtain ⟨s, t⟩ := v
  obtain ⟨k1, k2, _, k4⟩ := s2
  have h := lex_trail (a ++ 32 :: b) y y1 (W ++ (x ++ 32 :: s, t) :: V) none [] (by rw [e1, e2, flat_append]; simp [flat])
   (spaced_app W none _ t V s1 (by rw [List.all_append, x1, List.all_cons, k1]; rfl) k2 (by simp) k4)
  exact ⟨h.1, by have := h.2; show (lexFrom (a ++ 32 :: b) 0).1.map tok = _; simpa using this⟩
end Go.Proofs.YtncnoeoicaglaaaGreat.Lx
namespace Go.Proofs.YtncnoeoicaglaaaGreat.Np
open Lx (PTok Tok)
open Tr (Nd)
def NoMark (m : List PTok) : Prop := isM 95 m = false ∧ isM 94 m = false
theorem isM_app {b : UInt8} {l : List PTok} (h : isM b l = true) (m : List PTok) : isM b (l ++ m) = true ∧ (l ++ m).tail = l.tail ++ m := by
 cases l with
 | nil => cases h
 | cons t r => exact ⟨h, rfl⟩
theorem isM_ne {b : UInt8} {l : List PTok} (h : l ≠ []) (m : List PTok) : isM b (l ++ m) = isM b l := by
 cases l with
 | nil => exact absurd rfl h
 | cons t r => rfl
theorem isBreak_ne {l : List PTok} (h : l ≠ []) (m : List PTok) : isBreak (l ++ m) = isBreak l := by
 cases l with
 | nil => exact absurd rfl h
 | cons t r => rfl
theorem stops_ne {l : List PTok} (h : l ≠ []) (m : List PTok) : stops (l ++ m) = stops l := by
 unfold stops
 rw [isBreak_ne h, isM_ne h, isM_ne h, isM_ne h, isM_ne h]
theorem bind_got {α β : Type} {x : R α} {k : α → List PTok → R β} {b : β} {r : List PTok} (h : x.bind k = .ok b r) : ∃ a s, x = .ok a s ∧ k a s = .ok b r := by
 cases x with
 | ok a s => exact ⟨a, s, rfl, h⟩
 | err i e => cases h
 | out => cases h
theorem map_got {α β : Type} {x : R α} {k : α → β} {b : β} {r : List PTok} (h : x.map k = .ok b r) : ∃ a, x = .ok a r ∧ k a = b := by
 obtain ⟨a, s, h1, h2⟩ := bind_got h
 cases h2
 exact ⟨a, h1, rfl⟩
theorem refuse_ok {α : Type} {en : Nat} {l r : List PTok} {a : α} (h : (refuse en l : R α) = .ok a r) : False := nomatch h
theorem scripts_ext {g : Bool} {en : Nat} {b : List Nd} {x y : Option Nd} {l r : List PTok} {a : List Nd} (h : scripts g en b x y l = .ok a r) (m : List PTok) : scripts g en b x y (l ++ m) = .ok a (r ++ m) := by
 unfold scripts at h ⊢
 split at h
 ·cases h; rfl
 ·cases h; rfl
 ·cases h; rfl
 ·split at h
  ·exact (refuse_ok h).elim
  ·cases h
   rename_i hg
   exact if_neg hg
theorem plain_ext {t : PTok} {l r : List PTok} {a : List Nd} (h : plainName t l = .ok a r) (m : List PTok) : plainName t (l ++ m) = .ok a (r ++ m) := by
 unfold plainName at h ⊢
 split at h
 ·cases h
 ·rename_i hc
  cases h
  rw [if_neg hc]
structure Ext (en : Nat) (m : List PTok) (f : Nat) : Prop where
 row : ∀ op l a r, op ≠ [] → pRow en f op l = .ok a r → r ≠ [] ∧ pRow en f op (l ++ m) = .ok a (r ++ m)
 within : ∀ b op l a r, l ≠ [] → pIn en f b op l = .ok a r → pIn en f b op (l ++ m) = .ok a (r ++ m)
 arg : ∀ op l a r, pArg en f op l = .ok a r → pArg en f op (l ++ m) = .ok a (r ++ m)
 args : ∀ n op l a r, pArgs en f n op l = .ok a r → pArgs en f n op (l ++ m) = .ok a (r ++ m)
 script : ∀ b op l a r, (b = 95 ∨ b = 94) → pScript en f b op l = .ok a r → pScript en f b op (l ++ m) = .ok a (r ++ m)
 item : ∀ op l a r, l ≠ [] → pItem en f op l = .ok a r → pItem en f op (l ++ m) = .ok a (r ++ m)
 prim : ∀ op l a r, pPrim en f op l = .ok a r → pPrim en f op (l ++ m) = .ok a (r ++ m)
 name : ∀ op t l a r, pName en f op t l = .ok a r → pName en f op t (l ++ m) = .ok a (r ++ m)
 cells : ∀ op ks b c l a r, op ≠ [] → pCells en f op ks b c l = .ok a r → pCells en f op ks b c (l ++ m) = .ok a (r ++ m)
theorem ext_zero (en : Nat) (m : List PTok) : Ext en m 0 := by
 constructor
 ·intro op l a r _ h; rw [pRow] at h; cases h
 ·intro b op l a r _ h; rw [pIn] at h; cases h
 ·intro op l a r h; rw [pArg] at h; cases h
 ·intro n op l a r h; rw [pArgs] at h; cases h
 ·intro b op l a r _ h; rw [pScript] at h; cases h
 ·intro op l a r _ h; rw [pItem] at h; cases h
 ·intro op l a r h; rw [pPrim] at h; cases h
 ·intro op t l a r h; rw [pName] at h; cases h
 ·intro op ks b c l a r _ h; rw [pCells] at h; cases h
theorem ext (en : Nat) (m : List PTok) (hm : NoMark m) : ∀ f, Ext en m f
 | 0 => ext_zero en m
 | f + 1 => by
  have ih := ext en m hm f
  constructor
  ·intro op l a r ho h
   rw [pRow] at h ⊢
   cases l with
   | nil => rw [if_pos ⟨rfl, ho⟩] at h; cases h
   | cons t l =>
    have hne : t :: l ≠ [] := by simp
    rw [if_neg (by simp)] at h
    rw [if_neg (by simp), stops_ne hne]
    by_cases hs : stops (t :: l) = true
    ·rw [if_pos (.inr hs)] at h
     cases h
     exact ⟨hne, by rw [if_pos (.inr hs)]⟩
    ·rw [if_neg (by simp [hs])] at h
     rw [if_neg (by simp [hs])]
     obtain ⟨more, s, h1, h2⟩ := bind_got h
     obtain ⟨items, h3, h4⟩ := map_got h2
     obtain ⟨h5, h6⟩ := ih.row op s items r ho h3
     refine ⟨h5, ?_⟩
     rw [ih.item op _ _ _ hne h1]
     simp only [R.bind, h6, R.map, h4]
  ·intro b op l a r hne h
   rw [pIn] at h ⊢
   obtain ⟨t, l, rfl⟩ := List.exists_cons_of_ne_nil hne
   obtain ⟨items, s, h1, h2⟩ := bind_got h
   have hp : place en (t :: l ++ m) = place en (t :: l) := rfl
   have ht : (t :: l ++ m).tail = (t :: l).tail ++ m := rfl
   obtain ⟨h3, h4⟩ := ih.row _ _ _ _ (by simp) h1
   rw [hp, ht, h4]
   simp only [R.bind]
   by_cases hb : isM b s = true
   ·rw [if_pos hb] at h2
    cases h2
    obtain ⟨k1, k2⟩ := isM_app hb m
    rw [if_pos k1, k2]
   ·rw [if_neg hb] at h2
    exact (refuse_ok h2).elim
  ·intro op l a r h
   cases l with
   | nil => rw [pArg] at h; exact (refuse_ok h).elim
   | cons t l =>
    rw [List.cons_append]
    rw [pArg] at h ⊢
    cases hf : leafOf t with
    | some x => rw [hf] at h; simp only at h ⊢; cases h; rfl
    | none =>
     rw [hf] at h
     simp only at h ⊢
     have hne : t :: l ≠ [] := by simp
     rw [← List.cons_append, isM_ne hne]
     by_cases h1 : isM 123 (t :: l) = true
     ·rw [if_pos h1] at h ⊢
      obtain ⟨items, h2, h3⟩ := map_got h
      rw [ih.within _ _ _ _ _ hne h2]
      simp only [R.map, R.bind, h3]
     ·rw [if_neg h1] at h ⊢
      by_cases h2 : t.kind = 4 ∧ special t.text = false
      ·rw [if_pos h2] at h ⊢
       obtain ⟨items, h3, h4⟩ := map_got h
       rw [plain_ext h3 m]
       simp only [R.map, R.bind, h4]
      ·rw [if_neg h2] at h
       exact (refuse_ok h).elim
  ·intro n op l a r h
   cases n with
   | zero => rw [pArgs] at h ⊢; cases h; rfl
   | succ n =>
    rw [pArgs] at h ⊢
    obtain ⟨x, s, h1, h2⟩ := bind_got h
    obtain ⟨ks, h3, h4⟩ := map_got h2
    rw [ih.arg _ _ _ _ h1]
    simp only [R.bind, ih.args _ _ _ _ _ h3, R.map, h4]
  ·intro b op l a r hb h
   rw [pScript] at h ⊢
   by_cases h1 : isM b l = true
   ·rw [if_pos h1] at h
    obtain ⟨k1, k2⟩ := isM_app h1 m
    obtain ⟨x, h2, h3⟩ := map_got h
    rw [if_pos k1, k2, ih.arg _ _ _ _ h2]
    simp only [R.map, R.bind, h3]
   ·rw [if_neg h1] at h
    cases h
    rw [if_neg]
    cases l with
    | nil =>
     rcases hb with rfl | rfl
     ·rw [List.nil_append, hm.1]; simp
     ·rw [List.nil_append, hm.2]; simp
    | cons t l => exact h1
  ·intro op l a r hne h
   rw [pItem] at h ⊢
   obtain ⟨base, s1, h1, h2⟩ := bind_got h
   obtain ⟨sub, s2, h3, h4⟩ := bind_got h2
   obtain ⟨sup, s3, h5, h6⟩ := bind_got h4
   rw [ih.prim _ _ _ _ h1]
   simp only [R.bind, ih.script _ _ _ _ _ (.inl rfl) h3, ih.script _ _ _ _ _ (.inr rfl) h5, isM_ne hne]
   by_cases hc : (sup.isSome && sub.isNone) = true
   ·rw [if_pos hc] at h6 ⊢
    obtain ⟨sub', s4, h7, h8⟩ := bind_got h6
    simp only [ih.script _ _ _ _ _ (.inl rfl) h7]
    exact scripts_ext h8 m
   ·rw [if_neg hc] at h6 ⊢
    exact scripts_ext h6 m
  ·intro op l a r h
   cases l with
   | nil => rw [pPrim] at h; exact (refuse_ok h).elim
   | cons t l =>
    have hne : t :: l ≠ [] := by simp
    rw [List.cons_append]
    rw [pPrim] at h ⊢
    cases hf : leafOf t with
    | some x => rw [hf] at h; simp only at h ⊢; cases h; rfl
    | none =>
     rw [hf] at h
     simp only at h ⊢
     rw [← List.cons_append, isM_ne hne, isM_ne hne, isM_ne hne]
     split at h
     ·rename_i hk
      rw [if_pos hk]
      exact ih.name _ _ _ _ _ h
     ·rename_i hk
      rw [if_neg hk]
      split at h
      ·rename_i hk
       rw [if_pos hk]
       obtain ⟨x, h2, h3⟩ := map_got h
       rw [ih.args _ _ _ _ _ h2]
       simp only [R.map, R.bind, h3]
      ·rename_i hk
       rw [if_neg hk]
       split at h
       ·rename_i hk
        rw [if_pos hk]
        obtain ⟨x, h2, h3⟩ := map_got h
        rw [ih.within _ _ _ _ _ hne h2]
        simp only [R.map, R.bind, h3]
       ·rename_i hk
        rw [if_neg hk]
        split at h
        ·rename_i hk
         rw [if_pos hk]
         obtain ⟨x, h2, h3⟩ := map_got h
         rw [ih.within _ _ _ _ _ hne h2]
         simp only [R.map, R.bind, h3]
        ·rename_i hk
         rw [if_neg hk]
         split at h
         ·rename_i hk
          rw [if_pos hk]
          exact ih.within _ _ _ _ _ hne h
         ·exact (refuse_ok h).elim
  ·intro op t l a r h
   rw [pName] at h ⊢
   split at h
   ·rename_i hk
    rw [if_pos hk]
    obtain ⟨x, h2, h3⟩ := map_got h
    rw [ih.args _ _ _ _ _ h2]
    simp only [R.map, R.bind, h3]
   ·rename_i hk
    rw [if_neg hk]
    split at h
    ·rename_i hk
     rw [if_pos hk]
     split at h
     ·rename_i hb
      obtain ⟨k1, _⟩ := isM_app hb m
      rw [if_pos k1]
      obtain ⟨d, s, h1, h2⟩ := bind_got h
      obtain ⟨x, h3, h4⟩ := map_got h2
      rw [ih.within _ _ _ _ _ (by rintro rfl; cases hb) h1]
      simp only [R.bind, ih.args _ _ _ _ _ h3, R.map, h4]
     ·rename_i hb
      obtain ⟨x, h2, h3⟩ := map_got h
      have hne : l ≠ [] := by
       rintro rfl
       cases f with
       | zero => rw [pArgs] at h2; cases h2
       | succ f =>
        rw [pArgs] at h2
        obtain ⟨y, s, h4, _⟩ := bind_got h2
        cases f with
        | zero => rw [pArg] at h4; cases h4
        | succ f => rw [pArg] at h4; exact (refuse_ok h4).elim
      rw [isM_ne hne, if_neg hb, ih.args _ _ _ _ _ h2]
      simp only [R.map, R.bind, h3]
    ·rename_i hk
     rw [if_neg hk]
     split at h
     ·rename_i hk
      rw [if_pos hk]
      split at h
      ·rename_i hb
       obtain ⟨k1, k2⟩ := isM_app hb m
       obtain ⟨x, h2, h3⟩ := map_got h
       have hp : place en (l ++ m) = place en l := by
        cases l with
        | nil => cases hb
        | cons t l => rfl
       rw [if_pos k1, k2, hp, ih.cells _ _ _ _ _ _ _ (by simp) h2]
       simp only [R.map, R.bind, h3]
      ·exact (refuse_ok h).elim
     ·rename_i hk
      rw [if_neg hk]
      split at h
      ·rename_i hk
       rw [if_pos hk]
       obtain ⟨x, h2, h3⟩ := map_got h
       rw [ih.args _ _ _ _ _ h2]
       simp only [R.map, R.bind, h3]
      ·rename_i hk
       rw [if_neg hk]
       exact plain_ext h m
  ·intro op ks b c l a r ho h
   rw [pCells] at h ⊢
   obtain ⟨items, s, h1, h2⟩ := bind_got h
   obtain ⟨hs, h3⟩ := ih.row _ _ _ _ ho h1
   have htl : (s ++ m).tail = s.tail ++ m := by
    cases s with
    | nil => exact absurd rfl hs
    | cons t s => rfl
   have hpl : place en (s ++ m) = place en s := by
    cases s with
    | nil => exact absurd rfl hs
    | cons t s => rfl
   rw [h3]
   simp only [R.bind, isM_ne hs, isBreak_ne hs, htl, hpl]
   split at h2
   ·rename_i hk
    rw [if_pos hk]
    exact ih.cells _ _ _ _ _ _ _ ho h2
   ·rename_i hk
    rw [if_neg hk]
    split at h2
    ·exact (refuse_ok h2).elim
    ·rename_i hk
     rw [if_neg hk]
     split at h2
     ·cases h2
     ·rename_i hk
      rw [if_neg hk]
      split at h2
      ·rename_i hk
       rw [if_pos hk]
       cases h2
       rfl
      ·rename_i hk
       rw [if_neg hk]
       exact ih.cells _ _ _ _ _ _ _ ho h2
theorem mono_item (en : Nat) (op : List Nat) (l : List PTok) (f : Nat) (h : pItem en f op l ≠ .out) : ∀ n, pItem en (f + n) op l = pItem en f op l
 | 0 => rfl
 | n + 1 => by
  rw [← Nat.add_assoc, (mono en (f + n)).item op l (by rw [mono_item en op l f h n]; exact h), mono_item en op l f h n]
theorem row_noMark (en f : Nat) (l : List PTok) (a : List Nd) (h : pRow en f [] l = .ok a []) : NoMark l := by
 cases l with
 | nil => exact ⟨rfl, rfl⟩
 | cons t l =>
  cases f with
  | zero => rw [pRow] at h; cases h
  | succ f =>
   rw [pRow, if_neg (by simp)] at h
   split at h
   ·cases h
   ·obtain ⟨x, s, h1, _⟩ := bind_got h
    cases f with
    | zero => rw [pItem] at h1; cases h1
    | succ f =>
     rw [pItem] at h1
     obtain ⟨y, s1, h2, _⟩ := bind_got h1
     cases f with
     | zero => rw [pPrim] at h2; cases h2
     | succ f =>
      have key : ∀ b : UInt8, (b = 95 ∨ b = 94) → isM b (t :: l) = false := by
       intro b hb
       cases hi : isM b (t :: l) with
       | false => rfl
       | true =>
        exfalso
        have h7 : t.kind = 7 ∧ t.text = [b] := by simpa [isM] using hi
        rw [pPrim] at h2
        have hl : leafOf t = none := by unfold leafOf; rw [h7.1]; rfl
        rw [hl] at h2
        simp only at h2
        rw [if_neg (by omega), if_neg (by omega), if_neg (by rcases hb with rfl | rfl <;> simp [isM, h7.2]), if_neg (by rcases hb with rfl | rfl <;> simp [isM, h7.2]), if_neg (by rcases hb with rfl | rfl <;> simp [isM, h7.2])] at h2
        exact refuse_ok h2
      exact ⟨key 95 (.inl rfl), key 94 (.inr rfl)⟩
theorem row_cat (en f2 : Nat) (m : List PTok) (ks2 : List Nd) (h2 : pRow en f2 [] m = .ok ks2 []) : ∀ (f : Nat) (l : List PTok) (ks : List Nd), pRow en f [] l = .ok ks [] → pRow en (f + f2) [] (l ++ m) = .ok (ks ++ ks2) []
 | 0, l, ks, h => by rw [pRow] at h; cases h
 | f + 1, l, ks, h => by
  cases l with
  | nil =>
   rw [pRow, if_neg (by simp), if_pos (.inl rfl)] at h
   cases h
   have := row_mono en [] m f2 (by rw [h2]; simp) (f + 1)
   rw [Nat.add_comm (f + 1) f2, List.nil_append, List.nil_append, this, h2]
  | cons t l =>
   have hne : t :: l ≠ [] := by simp
   rw [pRow, if_neg (by simp)] at h
   split at h
   ·cases h
   ·rename_i hs
    obtain ⟨more, s, h3, h4⟩ := bind_got h
    obtain ⟨items, h5, h6⟩ := map_got h4
    have e : f + 1 + f2 = (f + f2) + 1 := by omega
    have hs' : ¬ stops (t :: l) = true := fun e => hs (.inr e)
    rw [e, pRow, if_neg (by simp), if_neg (by rw [stops_ne hne]; simp [hs'])]
    have h7 := (ext en m (row_noMark en f2 m ks2 h2) f).item [] _ _ _ hne h3
    rw [mono_item en [] _ f (by rw [h7]; simp) f2, h7]
    simp only [R.bind, row_cat en f2 m ks2 h2 f s items h5, R.map, ← h6, List.append_assoc]
theorem parseT_row {en : Nat} {l : List PTok} {ks : List Nd} {r : List PTok} (h : parseT en l = .ok ks r) : r = [] ∧ ∃ f, pRow en f [] l = .ok ks [] := by
 unfold parseT at h
 obtain ⟨a, s, h1, h2⟩ := bind_got h
 split at h2
 ·rename_i hs
  cases h2
  cases r with
  | nil => exact ⟨rfl, _, h1⟩
  | cons t r => cases hs
 ·exact (refuse_ok h2).elim
theorem parseT_two (en : Nat) (l m : List PTok) (ks1 ks2 : List Nd) (r1 r2 : List PTok) (h1 : parseT en l = .ok ks1 r1) (h2 : parseT en m = .ok ks2 r2) : parseT en (l ++ m) = .ok (ks1 ++ ks2) [] := by
 obtain ⟨_, f1, k1⟩ := parseT_row h1
 obtain ⟨_, f2, k2⟩ := parseT_row h2
 have h := row_cat en f2 m ks2 k2 f1 l ks1 k1
 refine parseT_of en (l ++ m) (ks1 ++ ks2) ⟨f1 + f2, fun F hF => ?_⟩
 obtain ⟨n, rfl⟩ := Nat.le.dest hF
 rw [row_mono en [] _ (f1 + f2) (by rw [h]; simp) n, h]
end Go.Proofs.YtncnoeoicaglaaaGreat.Np
namespace Go.Proofs.YtncnoeoicaglaaaGreat
open Np (R)
open Tr (Nd)
open Lx (PTok Tok)
theorem parseS_lex {l : List UInt8} {ks : List Nd} {r : List PTok} (h : parseS l = .ok ks r) : (Lx.lexAll l).2 = none ∧ Np.parseT l.length (Lx.lexAll l).1 = .ok ks r := by
 unfold parseS at h
 split at h
 ·rename_i ts hl
  rw [hl]
  exact ⟨rfl, h⟩
 ·cases h
theorem parse_al {l m : List PTok} {en en' : Nat} {ks : List Nd} {r : List PTok} (ha : Np.Al l m) (h : Np.parseT en l = .ok ks r) : Np.parseT en' m = .ok ks [] := by
 have hs := Np.parseT_alike en en' l m ha
 rw [h] at hs
 cases hp : Np.parseT en' m with
 | ok a s =>
  rw [hp] at hs
  obtain ⟨rfl, _⟩ := hs
  rw [(Np.parseT_row hp).1]
 | err i e => rw [hp] at hs; exact hs.elim
 | out => rw [hp] at hs; exact hs.elim
theorem parseS_two (a b : List UInt8) (ks1 ks2 : List Nd) (r1 r2 : List PTok) (h1 : parseS a = .ok ks1 r1) (h2 : parseS b = .ok ks2 r2) : parseS (a ++ 32 :: b) = .ok (ks1 ++ ks2) [] := by
 obtain ⟨a1, a2⟩ := parseS_lex h1
 obtain ⟨b1, b2⟩ := parseS_lex h2
 obtain ⟨c1, c2⟩ := Lx.lex_two a b a1 b1
 have h := Np.parseT_two 0 (Lx.lexAll a).1 (Lx.lexAll b).1 ks1 ks2 [] [] (parse_al (en' := 0) rfl a2) (parse_al (en' := 0) rfl b2)
 have h' := parse_al (en' := (a ++ 32 :: b).length) (m := (Lx.lexAll (a ++ 32 :: b)).1) (by unfold Np.Al; rw [c2, List.map_append]) h
 unfold parseS
 generalize Lx.lexAll (a ++ 32 :: b) = X at c1 h'
 obtain ⟨ts, er⟩ := X
 simp only at c1
 subst c1
 exact h'
end Go.Proofs.YtncnoeoicaglaaaGreat

/- The plain side of NotationBlanks: tokens that are written with blanks between are read again. No program in sight. -/
namespace Go.Proofs.YtncnoeoicaglaaaGreat
open Np (R)
open Tr (Nd)
def pad (r : Nat) : List UInt8 := match r with | 0 => [] | 1 => [32] | 2 => [9] | _ => [10, 32, 32]
def tokAt (ts : List Lx.PTok) (i : Nat) : Lx.Tok := Lx.tok (ts.getD i ⟨0, [], 0, 0⟩)
def sepJ (ts : List Lx.PTok) (i : Nat) : List UInt8 := if 0 < i ∧ Lx.join (tokAt ts (i - 1)) (tokAt ts i) = true then [10] else []
def sepP (zs : List Nat) (i : Nat) : List UInt8 := if h : i < zs.length then pad (zs[i] % 4) else []
def wrL (ts : List Lx.PTok) (zs : List Nat) (k : Nat) : List (List UInt8 × Lx.Tok) := (List.range k).map fun i => (sepJ ts i ++ sepP zs i, tokAt ts i)
theorem flat_app : ∀ (l m : List (List UInt8 × Lx.Tok)), Lx.flat (l ++ m) = Lx.flat l ++ Lx.flat m
 | [], m => rfl
 | (s, t) :: l, m => by simp [Lx.flat, flat_app l m]
theorem flat_wr (ts : List Lx.PTok) (zs : List Nat) (k : Nat) : Lx.flat (wrL ts zs (k + 1)) = Lx.flat (wrL ts zs k) ++ ((sepJ ts k ++ sepP zs k) ++ Lx.spell (tokAt ts k)) := by
 unfold wrL
 rw [List.range_succ, List.map_append, flat_app]
 simp [Lx.flat]
theorem spaced_of : ∀ (l : List (List UInt8 × Lx.Tok)) (o : Option Lx.Tok), (∀ i (h : i < l.length), l[i].1.all (Lx.isB 1) = true ∧ Lx.TokOK l[i].2 ∧ (l[i].1 = [] → ∀ a, (if i = 0 then o else (l[i - 1]?).map (·.2)) = some a → Lx.join a l[i].2 = false)) → Lx.spaced o l
 | [], _, _ => trivial
 | (s, t) :: l, o, h => by
  obtain ⟨h1, h2, h3⟩ := h 0 (by simp)
  refine ⟨h1, h2, fun e a ha => h3 e a (by simpa using ha), spaced_of l (some t) fun i hi => ?_⟩
  obtain ⟨k1, k2, k3⟩ := h (i + 1) (by simpa using hi)
  simp only [List.getElem_cons_succ] at k1 k2 k3
  refine ⟨k1, k2, fun e a ha => k3 e a ?_⟩
  rw [if_neg (by omega)]
  cases i with
  | zero => simpa using ha
  | succ i => simpa using ha
theorem pad_blank (r : Nat) : (pad r).all (Lx.isB 1) = true := by
 unfold pad; split <;> rfl
theorem pad_len (r : Nat) : (pad r).length ≤ 3 := by
 unfold pad; split <;> simp
theorem wr_spaced (ts : List Lx.PTok) (zs : List Nat) (k : Nat) (hk : k ≤ ts.length) (ht : ∀ t ∈ ts, Lx.TokOK (Lx.tok t)) : Lx.spaced none (wrL ts zs k) := by
 refine spaced_of _ none fun i hi => ?_
 have hi' : i < k := by simpa [wrL] using hi
 have e : (wrL ts zs k)[i] = (sepJ ts i ++ sepP zs i, tokAt ts i) := by simp [wrL]
 have hat : ∀ j, j < k → Lx.TokOK (tokAt ts j) := fun j hj => by
  unfold tokAt
  rw [List.getD_eq_getElem?_getD, List.getElem?_eq_getElem (show j < ts.length by omega)]
  exact ht _ (List.getElem_mem _)
 rw [e]
 refine ⟨?_, hat i hi', ?_⟩
 ·rw [List.all_append]
  have h1 : (sepJ ts i).all (Lx.isB 1) = true := by unfold sepJ; split <;> rfl
  have h2 : (sepP zs i).all (Lx.isB 1) = true := by
   unfold sepP; split
   ·exact pad_blank _
   ·rfl
  rw [h1, h2]; rfl
 ·intro he a ha
  simp only at he ⊢
  have h1 : sepJ ts i = [] := (List.append_eq_nil_iff.1 he).1
  split at ha
  ·cases ha
  ·rename_i h0
   have e2 : (wrL ts zs k)[i - 1]? = some (sepJ ts (i - 1) ++ sepP zs (i - 1), tokAt ts (i - 1)) := by
    simp [wrL, show i - 1 < k by omega]
   rw [e2] at ha
   simp only [Option.map_some, Option.some.injEq] at ha
   subst ha
   unfold sepJ at h1
   split at h1
   ·cases h1
   ·rename_i hn
    cases hj : Lx.join (tokAt ts (i - 1)) (tokAt ts i) with
    | false => rfl
    | true => exact absurd ⟨by omega, hj⟩ hn
theorem wr_len (ts : List Lx.PTok) (zs : List Nat) (m : Nat) (hm : ∀ t ∈ ts, (Lx.spell (Lx.tok t)).length ≤ m) : ∀ k, k ≤ ts.length → (Lx.flat (wrL ts zs k)).length ≤ k * (m + 4)
 | 0, _ => by simp [wrL, Lx.flat]
 | k + 1, hk => by
  have ih := wr_len ts zs m hm k (by omega)
  rw [flat_wr]
  have h1 : (sepJ ts k).length ≤ 1 := by unfold sepJ; split <;> simp
  have h2 : (sepP zs k).length ≤ 3 := by
   unfold sepP; split
   ·exact pad_len _
   ·simp
  have h3 : (Lx.spell (tokAt ts k)).length ≤ m := by
   unfold tokAt
   rw [List.getD_eq_getElem?_getD, List.getElem?_eq_getElem (show k < ts.length by omega)]
   exact hm _ (List.getElem_mem _)
  simp only [List.length_append]
  rw [Nat.succ_mul]
  omega
theorem okFrom_spell_le {l : List UInt8} : ∀ {ts : List Lx.PTok} {a : Nat}, Lx.okFrom l a ts → ∀ t ∈ ts, (Lx.spell (Lx.tok t)).length ≤ l.length
 | [], _, _, t, ht => by cases ht
 | x :: ts, a, h, t, ht => by
  obtain ⟨_, _, h3, _, h5, h6⟩ := h
  rcases List.mem_cons.1 ht with rfl | ht
  ·have : Lx.spell (Lx.tok t) = (l.drop t.from_).take (t.to_ - t.from_) := by rw [h5]; rfl
   rw [this, List.length_take, List.length_drop]; omega
  ·exact okFrom_spell_le h6 t ht
theorem wr_same (ts : List Lx.PTok) (zs : List Nat) (ht : ∀ t ∈ ts, Lx.TokOK (Lx.tok t)) : ∃ ys, Lx.lexAll (Lx.flat (wrL ts zs ts.length)) = (ys, none) ∧ ys.length = ts.length ∧ Lx.sameL ts ys false = true := by
 refine ⟨_, Lx.lexAll_flat _ (wr_spaced ts zs _ (Nat.le_refl _) ht), ?_, ?_⟩
 ·have := congrArg List.length (Lx.placed_toks (wrL ts zs ts.length) 0)
  simpa [wrL] using this
 ·rw [Lx.sameL_iff, Lx.placed_toks, decide_eq_true_iff]
  apply List.ext_getElem
  ·simp [wrL]
  ·intro i h1 h2
   simp [wrL, tokAt, List.getD_eq_getElem?_getD]
   rw [List.getElem?_eq_getElem (by simpa using h1)]; rfl
theorem parse_wr (l : List UInt8) (ts : List Lx.PTok) (zs : List Nat) (hl : Lx.lexAll l = (ts, none)) :
  Np.Sim (parseS l) (parseS (Lx.flat (wrL ts zs ts.length))) := by
 obtain ⟨ys, h1, _, h3⟩ := wr_same ts zs (by have := lexAll_ok l; rw [hl] at this; exact this)
 rw [Lx.sameL_iff, decide_eq_true_iff] at h3
 unfold parseS
 rw [hl, h1]
 exact Np.parseT_alike _ _ ts ys h3
theorem wr_count (l : List UInt8) (ts : List Lx.PTok) (zs : List Nat) (hl : Lx.lexAll l = (ts, none)) : (Lx.lexAll (Lx.flat (wrL ts zs ts.length))).1.length = ts.length := by
 obtain ⟨ys, h1, h2, _⟩ := wr_same ts zs (by have := lexAll_ok l; rw [hl] at this; exact this)
 rw [h1]; exact h2
end Go.Proofs.YtncnoeoicaglaaaGreat
