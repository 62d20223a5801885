/- Part 51 of 53 of a proof; its texts, joined: NuH, NuI. No condition. -/
import Derived.Test.YtgfhlfbcoimojaaGreatUb6
import Derived.Test.YtgfhlfbcoimojaaGreatUb50

/- A character left out of a printed text: the rest has another tree or an error. No program in sight. -/
namespace Go.Proofs.YtgfhlfbcoimojaaGreat.Lx
theorem drop_runLen (k : Nat) (r : Bytes) : headNot k (r.drop (runLen k r)) := by
 obtain ⟨y, _, _, h, e⟩ := runLen_split k r
 rw [← e]; exact h
theorem next_munch (r : Bytes) (t : Tok) (n : Nat) (h : next r = .ok t n) : (t.kind = 2 → headNot 2 (r.drop n)) ∧ (t.kind = 4 → headNot 3 (r.drop n)) := by
 cases r with
 | nil => cases h
 | cons c q =>
  rw [next] at h
  split at h
  ·obtain ⟨rfl, rfl⟩ := lim_ok h
   refine ⟨fun _ => ?_, fun hk => by simp only at hk; omega⟩
   unfold numLen
   split
   ·rw [← List.drop_drop]
    exact drop_runLen 2 _
   ·exact drop_runLen 2 _
  ·split at h
   ·cases h
    exact ⟨fun hk => by simp only at hk; omega, fun hk => by simp only at hk; omega⟩
   ·split at h
    ·have := (quo_spell _ _ _ _ _ h).1
     exact ⟨fun hk => by omega, fun hk => by omega⟩
    ·split at h
     ·cases h
      exact ⟨fun hk => by simp only at hk; omega, fun hk => by simp only at hk; omega⟩
     ·split at h
      ·unfold name at h
       simp only at h
       split at h
       ·obtain ⟨rfl, rfl⟩ := lim_ok h
        refine ⟨fun hk => by simp only at hk; omega, fun _ => ?_⟩
        rw [← List.drop_drop]
        exact drop_runLen 3 _
       ·split at h
        ·cases h
         exact ⟨fun hk => by simp only at hk; omega, fun hk => by simp only at hk; omega⟩
        ·cases h
      ·split at h
       ·cases h
        exact ⟨fun hk => by simp only at hk; omega, fun hk => by simp only at hk; omega⟩
       ·split at h
        ·cases h
         exact ⟨fun hk => by simp only at hk; omega, fun hk => by simp only at hk; omega⟩
        ·cases h
theorem skip_at (l p sp y : Bytes) (hl : l = p ++ (sp ++ y)) (hsp : sp.all (isB 1) = true) (hy : headNot 1 y) : skip l p.length = p.length + sp.length := by
 unfold skip
 rw [runI_isB, hl, List.drop_left, runLen_app 1 sp y hsp hy]
theorem lex_step (l p sp : Bytes) (c : UInt8) (y : Bytes) (hl : l = p ++ (sp ++ c :: y)) (hsp : sp.all (isB 1) = true) (hc : isB 1 c = false) (hok : (lexFrom l p.length).2 = none) :
  ∃ t n, next (c :: y) = .ok t n ∧ (lexFrom l p.length).1.map tok = t :: (lexFrom l (p.length + sp.length + n)).1.map tok ∧ (lexFrom l (p.length + sp.length + n)).2 = none := by
 have hs : skip l p.length = p.length + sp.length := skip_at l p sp (c :: y) hl hsp (fun x hx => by cases hx; exact hc)
 have hlt : skip l p.length < l.length := by rw [hs, hl]; simp
 have hd : l.drop (skip l p.length) = c :: y := by
  rw [hs, hl, ← List.append_assoc]
  exact List.drop_left' (by simp)
 cases hn : next (l.drop (skip l p.length)) with
 | err i e => rw [lexFrom_err l _ i e hlt hn] at hok; cases hok
 | ok t n =>
  rw [lexFrom_ok l _ n t hlt hn] at hok ⊢
  rw [hd] at hn
  rw [hs] at hok ⊢
  exact ⟨t, n, hn, rfl, hok⟩
theorem blank_count : ∀ sp : Bytes, sp.all (isB 1) = true → sp.count 34 = 0
 | [], _ => rfl
 | c :: sp, h => by
  rw [List.all_cons, Bool.and_eq_true] at h
  have hc : c ≠ 34 := fun e => by rw [e] at h; exact absurd h.1 (by decide)
  rw [List.count_cons, blank_count sp h.2]
  simp [hc]
theorem lex_count (l : Bytes) : ∀ (f a : Nat), a ≤ l.length → l.length < a + f → (lexGo l f a).2 = none → (l.drop a).count 34 = Np.qs ((lexGo l f a).1.map tok)
 | 0, a, h1, h2, _ => by omega
 | f + 1, a, h1, h2, hok => by
  have hb := blank_count _ (skip_blank l a)
  have hsk : a ≤ skip l a := by unfold skip; omega
  have hsplit : l.drop a = (l.drop a).take (skip l a - a) ++ l.drop (skip l a) := by
   rw [show l.drop (skip l a) = (l.drop a).drop (skip l a - a) by rw [List.drop_drop]; congr 1; omega, List.take_append_drop]
  rw [hsplit, List.count_append, hb, Nat.zero_add]
  rw [lexGo] at hok ⊢
  split at hok
  ·rename_i hle
   rw [if_pos hle, List.drop_eq_nil_of_le hle]
   rfl
  ·rename_i hle
   rw [if_neg hle]
   split at hok
   ·cases hok
   ·rename_i t n hn
    simp only [List.map_cons]
    have hp := next_pos _ _ _ hn
    have hs := next_spell _ _ _ hn
    rw [List.length_drop] at hp
    have ih := lex_count l f (skip l a + n) (by omega) (by omega) hok
    simp only [Np.qs]
    rw [← ih, show (tok ⟨t.kind, t.text, skip l a, skip l a + n⟩) = t from rfl]
    have : l.drop (skip l a) = (l.drop (skip l a)).take n ++ l.drop (skip l a + n) := by
     rw [← List.drop_drop, List.take_append_drop]
    rw [this, List.count_append, hs]
    rfl
theorem lexAll_quotes (l : Bytes) (h : (lexAll l).2 = none) : l.count 34 = Np.qs ((lexAll l).1.map tok) := lex_count l (l.length + 1) 0 (Nat.zero_le _) (by omega) h
end Go.Proofs.YtgfhlfbcoimojaaGreat.Lx
namespace Go.Proofs.YtgfhlfbcoimojaaGreat.Np
open Lx (Tok TokOK PTok isB headNot spell flat lexFrom)
open Tr (Nd mk7 AllOK sepd)
theorem head_class {a : Tok} (ok : TokOK a) {c : UInt8} {y : List UInt8} (h : spell a = c :: y) (hk : a.kind ≠ 7) : isB 5 c = false := by
 rcases ok with ⟨e, c', e1, e2⟩ | ⟨e, _, ds, e1, e2, e3⟩ | ⟨e, _⟩ | ⟨e, _⟩ | ⟨e, _⟩ | ⟨e, _⟩ | ⟨e, _⟩ | ⟨e, e1⟩
 ·have hs : spell a = a.text := by unfold Lx.spell Lx.spellL; rw [e]; simp
  rw [hs, e1] at h
  cases h
  rcases e2 with e2 | e2
  ·exact Lx.isB_unique e2 (by decide)
  ·exact Lx.isB_unique e2 (by decide)
 ·have hs : spell a = a.text := by unfold Lx.spell Lx.spellL; rw [e]; simp
  rw [hs] at h
  have hd : isB 2 c = true := by
   cases ds with
   | nil => exact absurd rfl e1
   | cons d ds =>
    rw [List.all_cons, Bool.and_eq_true] at e2
    rcases e3 with e3 | ⟨es, _, _, e3⟩
    ·rw [e3] at h; cases h; exact e2.1
    ·rw [e3] at h; cases h; exact e2.1
  exact Lx.isB_unique hd (by decide)
 ·have hs : spell a = 34 :: (Lx.esc a.text ++ [34]) := by unfold Lx.spell Lx.spellL Lx.quoteL; rw [e]; simp
  rw [hs] at h; cases h; rfl
 ·have hs : spell a = 92 :: a.text := by unfold Lx.spell Lx.spellL; rw [e]; simp
  rw [hs] at h; cases h; rfl
 ·have hs : spell a = [92, 102, 101, 110, 99, 101] ++ a.text := by unfold Lx.spell Lx.spellL; rw [e]; simp
  rw [hs] at h; cases h; rfl
 ·have hs : spell a = 35 :: a.text := by unfold Lx.spell Lx.spellL; rw [e]; simp
  rw [hs] at h; cases h; rfl
 ·exact absurd e hk
 ·have hs : spell a = a.text := by unfold Lx.spell Lx.spellL; rw [e]; simp
  rw [hs, e1] at h; cases h; rfl
theorem mark_text {a : Tok} (ok : TokOK a) {c : UInt8} {y : List UInt8} (h : spell a = c :: y) (hc : isB 5 c = true) : a = mk7 c := by
 have hk : a.kind = 7 := by
  by_cases hk : a.kind = 7
  ·exact hk
  ·rw [head_class ok h hk] at hc; cases hc
 have hs : spell a = a.text := by unfold Lx.spell Lx.spellL; rw [hk]; simp
 rcases ok with ⟨e, _⟩ | ⟨e, _⟩ | ⟨e, _⟩ | ⟨e, _⟩ | ⟨e, _⟩ | ⟨e, _⟩ | ⟨_, c', e1, _⟩ | ⟨e, _⟩
 all_goals first | omega | skip
 rw [hs, e1] at h
 cases h
 obtain ⟨k, t⟩ := a
 simp only at hk e1
 rw [hk, e1]
 rfl
theorem spell_mark (b : UInt8) : spell (mk7 b) = [b] := rfl
theorem head_Dp {a a' : Tok} (ok : TokOK a) (ok' : TokOK a') {c : UInt8} {y y' : List UInt8} (h : spell a = c :: y) (h' : spell a' = c :: y') : ¬ Dp a a' := by
 rintro (⟨e, hn⟩ | ⟨e, e'⟩ | ⟨e, e'⟩ | ⟨e, hn⟩)
 ·rw [e, spell_mark] at h'
  cases h'
  exact hn (mark_text ok h (by decide))
 ·rw [e, spell_mark] at h
  rw [e', spell_mark] at h'
  cases h
  cases h'
 ·have h5 : isB 5 c = true := by
   rcases e with e | e <;> (rw [e, spell_mark] at h; cases h; decide)
  rw [head_class ok' h' (by omega)] at h5
  cases h5
 ·rw [e, spell_mark] at h'
  cases h'
  exact hn (mark_text ok h (by decide))
theorem Dp.ne {a a' : Tok} (h : Dp a a') : a ≠ a' := by
 rintro rfl
 rcases h with ⟨e, hn⟩ | ⟨e, e'⟩ | ⟨e, e'⟩ | ⟨e, hn⟩
 ·exact hn e
 ·rw [e] at e'; cases e'
 ·rcases e with e | e <;> (rw [e] at e'; cases e')
 ·exact hn e
theorem dp_at {P x y : List Tok} {a a' : Tok} (hne : a ≠ a') (hc : Cmp (P ++ a :: x) (P ++ a' :: y)) : Dp a a' := by
 rcases hc.df with e | ⟨p, b, u, b', v, e1, e2, hd⟩
 ·have := List.append_cancel_left e
  cases this
  exact absurd rfl hne
 ·have g1 : (P ++ a :: x)[p.length]? = some b := by rw [e1]; simp
  have g2 : (P ++ a' :: y)[p.length]? = some b' := by rw [e2]; simp
  rcases Nat.lt_trichotomy p.length P.length with hl | hl | hl
  ·rw [List.getElem?_append_left hl] at g1 g2
   rw [g1] at g2
   cases g2
   exact absurd rfl hd.ne
  ·rw [hl] at g1 g2
   simp at g1 g2
   rw [g1, g2]
   exact hd
  ·have g3 : (p ++ b :: u)[P.length]? = some a := by rw [← e1]; simp
   have g4 : (p ++ b' :: v)[P.length]? = some a' := by rw [← e2]; simp
   rw [List.getElem?_append_left hl] at g3 g4
   rw [g3] at g4
   cases g4
   exact absurd rfl hne
set_option maxRecDepth 100000 in
theorem second_char {t : Tok} (ok : TokOK t) {c c2 : UInt8} {y : List UInt8} (h : spell t = c :: c2 :: y) (hc : c ≠ 34) : isB 1 c2 = false ∧ isB 5 c2 = false := by
 rcases ok with ⟨e, c', e1, e2⟩ | ⟨e, _, ds, e1, e2, e3⟩ | ⟨e, _⟩ | ⟨e, _, e1, e2, _⟩ | ⟨e, _⟩ | ⟨e, d, e1, h1, h2⟩ | ⟨e, c', e1, _⟩ | ⟨e, e1⟩
 ·have hs : spell t = t.text := by unfold Lx.spell Lx.spellL; rw [e]; simp
  rw [hs, e1] at h; cases h
 ·have hs : spell t = t.text := by unfold Lx.spell Lx.spellL; rw [e]; simp
  rw [hs] at h
  have hd : isB 2 c2 = true ∨ c2 = 46 := by
   cases ds with
   | nil => exact absurd rfl e1
   | cons d ds =>
    rw [List.all_cons, Bool.and_eq_true] at e2
    cases ds with
    | nil =>
     rcases e3 with e3 | ⟨es, _, _, e3⟩
     ·rw [e3] at h; cases h
     ·rw [e3] at h; cases h; exact .inr rfl
    | cons d2 ds =>
     rw [List.all_cons, Bool.and_eq_true] at e2
     rcases e3 with e3 | ⟨es, _, _, e3⟩
     ·rw [e3] at h; cases h; exact .inl e2.2.1
     ·rw [e3] at h; cases h; exact .inl e2.2.1
  rcases hd with hd | hd
  ·exact ⟨Lx.isB_unique hd (by decide), Lx.isB_unique hd (by decide)⟩
  ·rw [hd]; exact ⟨rfl, rfl⟩
 ·have hs : spell t = 34 :: (Lx.esc t.text ++ [34]) := by unfold Lx.spell Lx.spellL Lx.quoteL; rw [e]; simp
  rw [hs] at h
  exact absurd (List.cons.inj h).1.symm hc
 ·have hs : spell t = 92 :: t.text := by unfold Lx.spell Lx.spellL; rw [e]; simp
  rw [hs] at h
  cases ht : t.text with
  | nil => exact absurd ht e1
  | cons x l =>
   rw [ht] at h e2
   rw [List.all_cons, Bool.and_eq_true] at e2
   cases h
   exact ⟨Lx.isB_unique e2.1 (by decide), Lx.isB_unique e2.1 (by decide)⟩
 ·have hs : spell t = [92, 102, 101, 110, 99, 101] ++ t.text := by unfold Lx.spell Lx.spellL; rw [e]; simp
  rw [hs] at h; cases h; exact ⟨rfl, rfl⟩
 ·have hs : spell t = 35 :: t.text := by unfold Lx.spell Lx.spellL; rw [e]; simp
  rw [hs, e1] at h
  cases h
  have hd : isB 2 c2 = true := by
   revert h1 h2
   refine Lx.byte_cases (fun d => 49 ≤ d → d ≤ 52 → isB 2 d = true) (by decide) c2
  exact ⟨Lx.isB_unique hd (by decide), Lx.isB_unique hd (by decide)⟩
 ·have hs : spell t = t.text := by unfold Lx.spell Lx.spellL; rw [e]; simp
  rw [hs, e1] at h; cases h
 ·have hs : spell t = t.text := by unfold Lx.spell Lx.spellL; rw [e]; simp
  rw [hs, e1] at h; cases h; exact ⟨rfl, rfl⟩
end Go.Proofs.YtgfhlfbcoimojaaGreat.Np

/- A character left out of a printed text: the induction along the text. No program in sight. -/
namespace Go.Proofs.YtgfhlfbcoimojaaGreat.Np
open Lx (Tok TokOK PTok isB headNot spell flat lexFrom)
open Tr (Nd mk7 AllOK sepd)
def gapB (o : Option Tok) (t : Tok) : List UInt8 := match o with | some a => if Lx.join a t then [32] else [] | none => []
theorem flat_sepd (o : Option Tok) (t : Tok) (U : List Tok) : flat (sepd o (t :: U)) = gapB o t ++ (spell t ++ flat (sepd (some t) U)) := by
 cases o <;> rfl
theorem gap_cases (o : Option Tok) (t : Tok) : gapB o t = [] ∨ (gapB o t = [32] ∧ ∃ a, o = some a ∧ Lx.join a t = true) := by
 cases o with
 | none => exact .inl rfl
 | some a =>
  cases h : Lx.join a t with
  | false => exact .inl (by simp [gapB, h])
  | true => exact .inr ⟨by simp [gapB, h], a, rfl, h⟩
theorem gap_blank (o : Option Tok) (t : Tok) : (gapB o t).all (isB 1) = true := by
 rcases gap_cases o t with h | ⟨h, _⟩ <;> rw [h] <;> rfl
theorem lexFrom_flat (l : List UInt8) (W : List (List UInt8 × Tok)) (o : Option Tok) (p : List UInt8) (hl : l = p ++ flat W) (hs : Lx.spaced o W) : (lexFrom l p.length).1.map Lx.tok = W.map (·.2) := by
 unfold lexFrom
 have hw := Lx.flat_len W o hs
 rw [Lx.lexGo_flat l W o p (l.length + 1) hl (by rw [hl, List.length_append]; omega) hs]
 exact Lx.placed_toks W _
theorem rest_toks (l pre sp : List UInt8) (t : Tok) (U : List Tok) (hU : AllOK U) (hsp : sp = [] ∨ sp = [32]) (hl : l = pre ++ (sp ++ flat (sepd (some t) U))) : (lexFrom l pre.length).1.map Lx.tok = U := by
 have hs := Tr.sepd_spaced U (some t) hU
 rcases hsp with rfl | rfl
 ·rw [List.nil_append] at hl
  rw [lexFrom_flat l _ _ pre hl hs, Tr.sepd_toks]
 ·cases U with
  | nil =>
   have he : l = pre ++ ([32] ++ []) := hl
   have hk := Lx.skip_at l pre [32] [] he rfl (fun c h => by cases h)
   rw [Lx.lexFrom_end l pre.length (by rw [hk, he]; simp)]
   rfl
  | cons t1 U =>
   have hs' : Lx.spaced (some t) ((32 :: gapB (some t) t1, t1) :: sepd (some t1) U) := by
    have h2 : Lx.spaced (some t) ((gapB (some t) t1, t1) :: sepd (some t1) U) := hs
    refine ⟨?_, h2.2.1, (fun h => by cases h), h2.2.2.2⟩
    rw [List.all_cons, gap_blank]
    rfl
   rw [lexFrom_flat l _ _ pre (by rw [hl, flat_sepd]; rfl) hs']
   have := Tr.sepd_toks U (some t1)
   simp [this]
theorem take_spell {r : List UInt8} {t : Tok} {n : Nat} (h : Lx.next r = .ok t n) : r.take n = spell t ∧ n = (spell t).length := by
 have h1 := Lx.next_spell r t n h
 have h2 := Lx.next_pos r t n h
 refine ⟨h1, ?_⟩
 have := congrArg List.length h1
 rw [List.length_take] at this
 have e : (Lx.spellL t.kind t.text).length = (spell t).length := rfl
 omega
set_option maxHeartbeats 1000000 in
theorem left_out (l : List UInt8) (T T' : List Tok) (hc : Cmp T T') (hok' : AllOK T') : ∀ (U P : List Tok) (o : Option Tok) (pre : List UInt8) (j : Nat),
  AllOK U → l = pre ++ (flat (sepd o U)).eraseIdx j → j < (flat (sepd o U)).length → (∀ x, (flat (sepd o U))[j]? = some x → (flat (sepd o U))[j + 1]? ≠ some x) → (flat (sepd o U))[j]? ≠ some 34 → (lexFrom l pre.length).2 = none →
  (∀ a, o = some a → (a.kind = 2 → headNot 2 (l.drop pre.length)) ∧ (a.kind = 4 → headNot 3 (l.drop pre.length))) → T' = P ++ (lexFrom l pre.length).1.map Lx.tok → T = P ++ U → False
 | [], P, o, pre, j, _, _, hj, _, _, _, _, _, _ => by simp [sepd, flat] at hj
 | t :: U, P, o, pre, j, hU, hl, hj, hn, hq, hok, hm, hT', hT => by
  have htok := hU t (by simp)
  have hU' : AllOK U := fun x hx => hU x (by simp [hx])
  obtain ⟨c, y, hs, hb1, _, _, hc3, hk2⟩ := Lx.spell_head t htok
  rw [flat_sepd] at hl hj hn hq
  have hgb := gap_blank o t
  have hgc := gap_cases o t
  -- the token that stands where t should
  have hother : ∀ a'' : Tok, (∃ V, T' = P ++ a'' :: V) → a'' ≠ t → Dp t a'' := fun a'' ⟨V, e⟩ hne => by
   rw [hT, e] at hc
   exact dp_at (Ne.symm hne) hc
  have hsame : ∀ (a'' : Tok) (y' : List UInt8), TokOK a'' → spell a'' = c :: y' → (∃ V, T' = P ++ a'' :: V) → a'' = t := fun a'' y' ho he hV => by
   by_cases hne : a'' = t
   ·exact hne
   ·exact absurd (hother a'' hV hne) (head_Dp htok ho hs he)
  generalize gapB o t = sp at *
  by_cases hjs : j < sp.length
  ·-- a blank is left out
   rcases hgc with h0 | ⟨h1, a, ha, hjoin⟩
   ·rw [h0] at hjs; simp at hjs
   ·have hj0 : j = 0 := by rw [h1] at hjs; simpa using hjs
    rw [h1, hj0] at hl
    have hd : l.drop pre.length = c :: (y ++ flat (sepd (some t) U)) := by
     rw [hl, hs]
     simp
    obtain ⟨m2, m4⟩ := hm a ha
    unfold Lx.join at hjoin
    simp only [Bool.or_eq_true, Bool.and_eq_true, beq_iff_eq] at hjoin
    rcases hjoin with ⟨k1, k2⟩ | ⟨⟨k1, k2⟩, k3⟩
    ·have := m2 k1 c (by rw [hd]; rfl)
     rw [hk2 k2] at this
     cases this
    ·have := m4 k1 c (by rw [hd]; rfl)
     have hst : spell t = t.text := by unfold Lx.spell Lx.spellL; rw [k2]; simp
     rw [hst] at hs
     rw [hs] at k3
     simp only at k3
     rw [k3] at this
     cases this
  ·have hle : sp.length ≤ j := by omega
   obtain ⟨i, rfl⟩ : ∃ i, j = sp.length + i := ⟨j - sp.length, by omega⟩
   clear hjs hle
   have hF : ∀ k, (sp ++ (spell t ++ flat (sepd (some t) U)))[sp.length + k]? = (spell t ++ flat (sepd (some t) U))[k]? := fun k => by
    rw [List.getElem?_append_right (by omega)]
    congr 1; omega
   rw [hF i] at hq
   have hn' : ∀ x, (spell t ++ flat (sepd (some t) U))[i]? = some x → (spell t ++ flat (sepd (some t) U))[i + 1]? ≠ some x := fun x hx => by
    have := hn x (by rw [hF]; exact hx)
    rwa [Nat.add_assoc, hF] at this
   have hi : i < (spell t ++ flat (sepd (some t) U)).length := by
    rw [List.length_append] at hj
    omega
   rw [List.eraseIdx_append_of_length_le (by omega), show sp.length + i - sp.length = i by omega] at hl
   -- if t itself is read where it should be, then the next character is the same
   have hrun : ∀ r : List UInt8, l = pre ++ (sp ++ r) → r = (spell t ++ flat (sepd (some t) U)).eraseIdx i → i < (spell t).length → r.take (spell t).length = spell t → False := fun r _ hr hlt htk => by
    obtain ⟨x, hx⟩ : ∃ x, (spell t)[i]? = some x := ⟨_, List.getElem?_eq_getElem hlt⟩
    have h1 : (spell t ++ flat (sepd (some t) U))[i]? = some x := by rw [List.getElem?_append_left hlt]; exact hx
    have h2 : r[i]? = some x := by
     have h3 : (r.take (spell t).length)[i]? = some x := by rw [htk]; exact hx
     rw [List.getElem?_take, if_pos hlt] at h3
     exact h3
    rw [hr, List.getElem?_eraseIdx, if_neg (by omega)] at h2
    exact hn' x h1 h2
   by_cases hit : i < (spell t).length
   ·rw [List.eraseIdx_append_of_lt_length hit] at hl
    have hEr : (spell t).eraseIdx i ++ flat (sepd (some t) U) = (spell t ++ flat (sepd (some t) U)).eraseIdx i := (List.eraseIdx_append_of_lt_length hit _).symm
    by_cases hi0 : i = 0
    ·subst hi0
     rw [hs] at hl hEr
     simp only [List.eraseIdx_zero, List.tail_cons] at hl
     cases y with
     | nil =>
      have hr := rest_toks l pre sp t U hU' (hgc.imp id (·.1)) (by rw [hl]; rfl)
      rw [hr] at hT'
      have hw := hc.wt
      have hbr := hc.br
      rw [hT, hT', wt_app, wt_app] at hw
      rw [hT, hT', br_app, br_app] at hbr
      simp only [Np.wt, Np.br] at hw hbr
      have hlen : (spell t).length = 1 := by rw [hs]; rfl
      cases hnb : nb t with
      | true => rw [hnb] at hbr; simp at hbr; omega
      | false => rw [hnb, hlen] at hw; simp at hw; omega
     | cons c2 y2 =>
      have hc34 : c ≠ 34 := fun e => hq (by rw [hs, e]; rfl)
      obtain ⟨b1, b5⟩ := second_char htok hs hc34
      obtain ⟨a'', n, hnx, hmap, hok2⟩ := Lx.lex_step l pre sp c2 (y2 ++ flat (sepd (some t) U)) hl hgb b1 hok
      have hV : ∃ V, T' = P ++ a'' :: V := ⟨_, by rw [hT', hmap]⟩
      have hta : TokOK a'' := by
       obtain ⟨V, e⟩ := hV
       exact hok' a'' (by rw [e]; simp)
      obtain ⟨htake, hn1⟩ := take_spell hnx
      by_cases heq : a'' = t
      ·subst heq
       exact hrun (c2 :: (y2 ++ flat (sepd (some a'') U))) hl (by rw [hs]; rfl) hit (by rw [← hn1]; exact htake)
      ·have hd := hother a'' hV heq
       have hp := Lx.next_pos _ _ _ hnx
       obtain ⟨n', rfl⟩ : ∃ n', n = n' + 1 := ⟨n - 1, by omega⟩
       rw [List.take_succ_cons] at htake
       rcases hd with ⟨e, _⟩ | ⟨_, e⟩ | ⟨e, _⟩ | ⟨e, _⟩
       ·rw [e, spell_mark] at htake; have e2 := (List.cons.inj htake).1; rw [e2] at b5; cases b5
       ·rw [e, spell_mark] at htake; have e2 := (List.cons.inj htake).1; rw [e2] at b5; cases b5
       ·rcases e with e | e <;> (rw [e, spell_mark] at hs; cases hs)
       ·rw [e, spell_mark] at htake; have e2 := (List.cons.inj htake).1; rw [e2] at b5; cases b5
    ·obtain ⟨i', rfl⟩ : ∃ i', i = i' + 1 := ⟨i - 1, by omega⟩
     have hl2 : l = pre ++ (sp ++ c :: (y.eraseIdx i' ++ flat (sepd (some t) U))) := by rw [hl, hs]; rfl
     obtain ⟨a'', n, hnx, hmap, hok2⟩ := Lx.lex_step l pre sp c (y.eraseIdx i' ++ flat (sepd (some t) U)) hl2 hgb hb1 hok
     have hV : ∃ V, T' = P ++ a'' :: V := ⟨_, by rw [hT', hmap]⟩
     have hta : TokOK a'' := by
      obtain ⟨V, e⟩ := hV
      exact hok' a'' (by rw [e]; simp)
     obtain ⟨htake, hn1⟩ := take_spell hnx
     have hp := Lx.next_pos _ _ _ hnx
     obtain ⟨n', rfl⟩ : ∃ n', n = n' + 1 := ⟨n - 1, by omega⟩
     have heq := hsame a'' _ hta (by rw [← htake, List.take_succ_cons]) hV
     subst heq
     exact hrun (c :: (y.eraseIdx i' ++ flat (sepd (some a'') U))) hl2 (by rw [← hEr, hs]; rfl) hit (by rw [← hn1]; exact htake)
   ·obtain ⟨i', rfl⟩ : ∃ i', i = (spell t).length + i' := ⟨i - (spell t).length, by omega⟩
    rw [List.eraseIdx_append_of_length_le (by omega), show (spell t).length + i' - (spell t).length = i' by omega] at hl
    have hl2 : l = pre ++ (sp ++ c :: (y ++ (flat (sepd (some t) U)).eraseIdx i')) := by rw [hl, hs]; rfl
    obtain ⟨a'', n, hnx, hmap, hok2⟩ := Lx.lex_step l pre sp c (y ++ (flat (sepd (some t) U)).eraseIdx i') hl2 hgb hb1 hok
    have hV : ∃ V, T' = P ++ a'' :: V := ⟨_, by rw [hT', hmap]⟩
    have hta : TokOK a'' := by
     obtain ⟨V, e⟩ := hV
     exact hok' a'' (by rw [e]; simp)
    obtain ⟨htake, hn1⟩ := take_spell hnx
    have hp := Lx.next_pos _ _ _ hnx
    have hmunch := Lx.next_munch _ _ _ hnx
    have heq : a'' = t := by
     obtain ⟨n', rfl⟩ : ∃ n', n = n' + 1 := ⟨n - 1, by omega⟩
     exact hsame a'' _ hta (by rw [← htake, List.take_succ_cons]) hV
    subst heq
    have hpl : (pre ++ (sp ++ spell a'')).length = pre.length + sp.length + n := by rw [List.length_append, List.length_append, hn1]; omega
    have hl3 : l = (pre ++ (sp ++ spell a'')) ++ (flat (sepd (some a'') U)).eraseIdx i' := by rw [hl]; simp
    have hdrop : l.drop (pre ++ (sp ++ spell a'')).length = (c :: (y ++ (flat (sepd (some a'') U)).eraseIdx i')).drop n := by
     rw [hl3, List.drop_left, hn1, show c :: (y ++ (flat (sepd (some a'') U)).eraseIdx i') = spell a'' ++ (flat (sepd (some a'') U)).eraseIdx i' by rw [hs]; rfl, List.drop_left]
    have hG : ∀ k, (spell a'' ++ flat (sepd (some a'') U))[(spell a'').length + k]? = (flat (sepd (some a'') U))[k]? := fun k => by
     rw [List.getElem?_append_right (by omega)]
     congr 1; omega
    refine left_out l T T' hc hok' U (P ++ [a'']) (some a'') (pre ++ (sp ++ spell a'')) i' hU' hl3 ?_ ?_ ?_ ?_ ?_ ?_ ?_
    ·rw [List.length_append] at hi; omega
    ·intro x hx
     have := hn' x (by rw [hG]; exact hx)
     rwa [Nat.add_assoc, hG] at this
    ·rw [hG] at hq; exact hq
    ·rw [hpl]; exact hok2
    ·intro a ha
     cases ha
     rw [hdrop]
     exact hmunch
    ·rw [hT', hmap, hpl]; simp
    ·rw [hT]; simp
end Go.Proofs.YtgfhlfbcoimojaaGreat.Np
