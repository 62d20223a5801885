/- Part 2 of 42 of a proof; its texts, joined: WrO, PrM, PrD, PrE, PrF, SnM, SnL, SnO. No condition. -/
import Derived.Test.YtncnoeoicaglaaaGreatVs1
set_option maxRecDepth 100000
namespace Go.Proofs.YtncnoeoicaglaaaGreat.Lx
def flat : List (Bytes × Tok) → Bytes
 | [] => []
 | (s, t) :: l => s ++ (spell t ++ flat l)
def placed : Nat → List (Bytes × Tok) → List PTok
 | _, [] => []
 | a, (s, t) :: l => ⟨t.kind, t.text, a + s.length, a + s.length + (spell t).length⟩ :: placed (a + s.length + (spell t).length) l
def spaced : Option Tok → List (Bytes × Tok) → Prop
 | _, [] => True
 | o, (s, t) :: l => s.all (isB 1) = true ∧ TokOK t ∧ (s = [] → ∀ a, o = some a → join a t = false) ∧ spaced (some t) l
theorem runI_isB (l : Bytes) (k : Nat) : runI 1 l k = runLen 1 (l.drop k) := by
 unfold runI runLen
 have hp : (fun b : UInt8 => (cls b.toNat : Int) == 1) = isB 1 := by
  funext b
  unfold isB;rw [Bool.eq_iff_iff, beq_iff_eq, beq_iff_eq];omega
 rw [hp]
theorem spell_pos (t : Tok) (ht : TokOK t) : 0 < (spell t).length := by
 obtain ⟨c, y, e, _⟩ := spell_head t ht;rw [e]; simp
theorem okAfter_flat (t : Tok) : ∀ (W : List (Bytes × Tok)), spaced (some t) W → okAfter t (flat W)
 | [], _ => okAfter_end t
 | (s, b) :: l, ⟨h1, h2, h3, _⟩ => by
  cases s with
  | nil => exact okAfter_tok t b h2 (h3 rfl t rfl) _
  | cons c s =>
   simp only [List.all_cons, Bool.and_eq_true] at h1;exact okAfter_blank t c _ h1.1
theorem lexGo_flat (l : Bytes) : ∀ (W : List (Bytes × Tok)) (o : Option Tok) (p : Bytes) (f : Nat), l = p ++ flat W → W.length < f → spaced o W → lexGo l f p.length = (placed p.length W, none)
 | [], o, p, f, hl, hf, _ => by
  cases f with
  | zero => cases hf
  | succ f =>
   rw [lexGo, if_pos]
   ·rfl
   ·rw [hl]; unfold skip flat; simp
 | (s, t) :: W, o, p, f, hl, hf, ⟨h1, h2, h3, h4⟩ => by
  cases f with
  | zero => cases hf
  | succ f =>
   have hd : l.drop p.length = s ++ (spell t ++ flat W) := by rw [hl]; simp [flat]
   have hsk : skip l p.length = p.length + s.length := by
    unfold skip;rw [runI_isB, hd, runLen_app 1 s _ h1];obtain ⟨c, y, e, n1, _⟩ := spell_head t h2;rw [e];intro d hd';cases hd';exact n1
   have hl2 : l = (p ++ s) ++ (spell t ++ flat W) := by rw [hl]; simp [flat]
   have hl3 : l = (p ++ s ++ spell t) ++ flat W := by rw [hl]; simp [flat]
   have hsp := spell_pos t h2
   have hnx : next (l.drop (p.length + s.length)) = .ok t (spell t).length := by
    have : l.drop (p.length + s.length) = spell t ++ flat W := by
     rw [hl2, ← List.length_append, List.drop_left]
    rw [this];exact reread t _ h2 (okAfter_flat t W h4)
   have ih := lexGo_flat l W (some t) (p ++ s ++ spell t) f hl3 (by simpa using hf) h4;rw [lexGo, hsk, if_neg]
   ·rw [hnx]
    simp only
    have e3 : (p ++ s ++ spell t).length = p.length + s.length + (spell t).length := by simp [Nat.add_assoc]
    rw [e3] at ih;rw [ih];rfl
   ·rw [hl2]; simp; omega
theorem flat_len : ∀ (W : List (Bytes × Tok)) (o : Option Tok), spaced o W → W.length ≤ (flat W).length
 | [], _, _ => Nat.le_refl _
 | (s, t) :: W, o, ⟨_, h2, _, h4⟩ => by
  have := flat_len W (some t) h4;have := spell_pos t h2;simp [flat]; omega
theorem lexAll_flat (W : List (Bytes × Tok)) (h : spaced none W) : lexAll (flat W) = (placed 0 W, none) :=
 lexGo_flat (flat W) W none [] _ rfl (by have := flat_len W none h; omega) h
def tok (t : PTok) : Tok := ⟨t.kind, t.text⟩
theorem placed_toks : ∀ (W : List (Bytes × Tok)) (a : Nat), (placed a W).map tok = W.map (·.2)
 | [], _ => rfl
 | (s, t) :: W, a => by simp only [placed, List.map_cons, placed_toks W]; rfl
theorem lexGo_ok (l : Bytes) : ∀ (f a : Nat), ∀ t ∈ (lexGo l f a).1, TokOK (tok t)
 | 0, a, t, ht => by simp [lexGo] at ht
 | f + 1, a, t, ht => by
  rw [lexGo] at ht;split at ht
  ·cases ht
  ·cases hn : next (l.drop (skip l a)) with
   | err i e => rw [hn] at ht; cases ht
   | ok t' n =>
    rw [hn] at ht
    rcases List.mem_cons.1 ht with rfl | h
    ·exact next_tokOK _ _ _ hn
    ·exact lexGo_ok l f _ t h
end Go.Proofs.YtncnoeoicaglaaaGreat.Lx
namespace Go.Proofs.YtncnoeoicaglaaaGreat.Tr
open Lx (Tok)
def mk7 (b : UInt8) : Tok := ⟨7, [b]⟩
def name (s : Bytes) : Tok := ⟨4, s⟩
def sFrac : Bytes := [102, 114, 97, 99]
def sRoot : Bytes := [114, 111, 111, 116]
def sMatrix : Bytes := [109, 97, 116, 114, 105, 120]
def leaf (n : Nd) : Bool := (n.kind == 2) || (n.kind == 3) || (n.kind == 4)
def scripted (n : Nd) : Bool := (n.kind == 7) || (n.kind == 8) || (n.kind == 9)
mutual
def itemT : Nd → List Tok
 | .mk k t c ks =>
  if k = 2 then [if t.length = 1 then ⟨1, t⟩ else ⟨4, t⟩]
  else if k = 3 then [⟨2, t⟩]
  else if k = 4 then [⟨3, t⟩]
  else match ks with
   | [a] =>
    if k = 10 then name t :: argT a
    else if k = 11 then (if t = [40, 41] ∨ t = [91, 93] then mk7 (t.headD 0) :: (rowT a.kids ++ [mk7 (t.getLastD 0)]) else ⟨5, t⟩ :: argT a)
    else if k = 12 then name sMatrix :: mk7 123 :: (cellsT c 0 [a] ++ [mk7 125])
    else []
   | [a, b] =>
    if k = 5 then name sFrac :: (argT a ++ argT b)
    else if k = 6 then name sRoot :: ((if a.kids = [] then [] else mk7 91 :: (rowT a.kids ++ [mk7 93])) ++ argT b)
    else if k = 7 then baseT a ++ mk7 95 :: argT b
    else if k = 8 then baseT a ++ mk7 94 :: argT b
    else if k = 12 then name sMatrix :: mk7 123 :: (cellsT c 0 [a, b] ++ [mk7 125])
    else []
   | [a, b, d] =>
    if k = 9 then baseT a ++ mk7 95 :: (argT b ++ mk7 94 :: argT d)
    else if k = 12 then name sMatrix :: mk7 123 :: (cellsT c 0 [a, b, d] ++ [mk7 125])
    else []
   | ks => if k = 12 then name sMatrix :: mk7 123 :: (cellsT c 0 ks ++ [mk7 125]) else []
 termination_by n => 2 * count n
 decreasing_by all_goals (simp only [count_kids, countL, Nd.kids]; omega)
def argT : Nd → List Tok
 | .mk _ _ _ ks => match ks with
  | [x] => if leaf x then itemT x else mk7 123 :: (rowT [x] ++ [mk7 125])
  | ks => mk7 123 :: (rowT ks ++ [mk7 125])
 termination_by n => 2 * count n + 1
 decreasing_by all_goals (simp only [count_kids, countL, Nd.kids]; omega)
def baseT : Nd → List Tok
 | .mk _ _ _ ks => match ks with
  | [x] => if scripted x then mk7 123 :: (rowT [x] ++ [mk7 125]) else itemT x
  | ks => mk7 123 :: (rowT ks ++ [mk7 125])
 termination_by n => 2 * count n + 1
 decreasing_by all_goals (simp only [count_kids, countL, Nd.kids]; omega)
def rowT : List Nd → List Tok
 | [] => []
 | n :: ns => itemT n ++ rowT ns
 termination_by ns => 2 * countL ns + 1
 decreasing_by all_goals (simp only [count_kids, countL, Nd.kids]; omega)
def cellsT (c : Int) : Nat → List Nd → List Tok
 | _, [] => []
 | i, n :: ns => (if i = 0 then [] else if (i : Int) % c = 0 then [⟨8, [92, 92]⟩] else [mk7 38]) ++ (rowT n.kids ++ cellsT c (i + 1) ns)
 termination_by _ ns => 2 * countL ns + 1
 decreasing_by all_goals (simp only [count_kids, countL, Nd.kids]; omega)
end
end Go.Proofs.YtncnoeoicaglaaaGreat.Tr
namespace Go.Proofs.YtncnoeoicaglaaaGreat.Tr
open Lx (Tok)
def row (ks : List Nd) : Nd := .mk 1 [] 0 ks
def expect (t : Tok) : List Tok → Option (List Tok)
 | x :: r => if x = t then some r else none
 | [] => none
def startTok (x : Tok) : Bool := (x.kind == 1) || (x.kind == 2) || (x.kind == 3) || (x.kind == 4) || (x.kind == 5) || (x.kind == 7 && (x.text == [40] || x.text == [91] || x.text == [123]))
def starts : List Tok → Bool
 | x :: _ => startTok x
 | [] => false
def ends (c : Int) (n : Nat) : List Bool := (List.range n).map fun (i : Nat) => decide (((i : Int) + 1) % c = 0)
def plainN (t : Bytes) : Bool := !(t.length == 1) && !(t == sFrac) && !(t == sRoot) && !(t == sMatrix) && !(accents.contains t)
def groupAt : List Tok → Bool
 | x :: _ => decide (x = mk7 123)
 | [] => false
def colsOf : List (Nd × Bool) → Int
 | [] => 0
 | (_, b) :: l => if b then 1 else 1 + colsOf l
mutual
def pArg : Nat → List Tok → Option (Nd × List Tok)
 | f + 1, x :: r =>
  if x.kind = 1 ∨ (x.kind = 4 ∧ plainN x.text = true) then some (row [.mk 2 x.text 0 []], r)
  else if x.kind = 2 then some (row [.mk 3 x.text 0 []], r)
  else if x.kind = 3 then some (row [.mk 4 x.text 0 []], r)
  else if x = mk7 123 then (pRow f r).bind fun p => (expect (mk7 125) p.2).map fun r' => (row p.1, r')
  else none
 | _, _ => none
def pBase : Nat → List Tok → Option (List Nd × List Tok)
 | f + 1, x :: r =>
  if x.kind = 1 then some ([.mk 2 x.text 0 []], r)
  else if x.kind = 2 then some ([.mk 3 x.text 0 []], r)
  else if x.kind = 3 then some ([.mk 4 x.text 0 []], r)
  else if x.kind = 5 then (pArg f r).map fun p => ([.mk 11 x.text 0 [p.1]], p.2)
  else if x.kind = 4 then
   if x.text = sFrac then (pArg f r).bind fun p => (pArg f p.2).map fun q => ([.mk 5 [] 0 [p.1, q.1]], q.2)
   else if x.text = sRoot then
    match expect (mk7 91) r with
    | some r1 => (pRow f r1).bind fun p => (expect (mk7 93) p.2).bind fun r2 => (pArg f r2).map fun q => ([.mk 6 [] 0 [row p.1, q.1]], q.2)
    | none => (pArg f r).map fun q => ([.mk 6 [] 0 [row [], q.1]], q.2)
   else if x.text = sMatrix then (expect (mk7 123) r).bind fun r1 => (pCells f r1).bind fun p => (expect (mk7 125) p.2).bind fun r2 => if p.1.map (·.2) = ends (colsOf p.1) p.1.length then some ([.mk 12 [] (colsOf p.1) (p.1.map (·.1))], r2) else none
   else if accents.contains x.text then (pArg f r).map fun p => ([.mk 10 x.text 0 [p.1]], p.2)
   else if x.text.length = 1 then none else some ([.mk 2 x.text 0 []], r)
  else if x = mk7 40 then (pRow f r).bind fun p => (expect (mk7 41) p.2).map fun r' => ([.mk 11 [40, 41] 0 [row p.1]], r')
  else if x = mk7 91 then (pRow f r).bind fun p => (expect (mk7 93) p.2).map fun r' => ([.mk 11 [91, 93] 0 [row p.1]], r')
  else if x = mk7 123 then (pRow f r).bind fun p => (expect (mk7 125) p.2).map fun r' => (p.1, r')
  else none
 | _, _ => none
def pItem : Nat → List Tok → Option (Nd × List Tok)
 | f + 1, ts => (pBase f ts).bind fun p =>
  match expect (mk7 95) p.2 with
  | some r1 => (pArg f r1).bind fun q =>
   match expect (mk7 94) q.2 with
   | some r2 => (pArg f r2).map fun s => (.mk 9 [] 0 [row p.1, q.1, s.1], s.2)
   | none => some (.mk 7 [] 0 [row p.1, q.1], q.2)
  | none =>
   match expect (mk7 94) p.2 with
   | some r1 => (pArg f r1).map fun q => (.mk 8 [] 0 [row p.1, q.1], q.2)
   | none => match p.1 with
    | [u] => if groupAt ts then none else some (u, p.2)
    | _ => none
 | 0, _ => none
def pRow : Nat → List Tok → Option (List Nd × List Tok)
 | f + 1, ts => if starts ts then (pItem f ts).bind fun p => (pRow f p.2).map fun q => (p.1 :: q.1, q.2) else some ([], ts)
 | 0, _ => none
def pCells : Nat → List Tok → Option (List (Nd × Bool) × List Tok)
 | f + 1, ts => (pRow f ts).bind fun p =>
  match expect (mk7 38) p.2 with
  | some r => (pCells f r).map fun q => ((row p.1, false) :: q.1, q.2)
  | none =>
   match expect ⟨8, [92, 92]⟩ p.2 with
   | some r => (pCells f r).map fun q => ((row p.1, true) :: q.1, q.2)
   | none => some ([(row p.1, true)], p.2)
 | 0, _ => none
end
def noScript (r : List Tok) : Prop := expect (mk7 95) r = none ∧ expect (mk7 94) r = none
def stop (r : List Tok) : Prop := starts r = false ∧ noScript r
theorem expect_same (t : Tok) (r : List Tok) : expect t (t :: r) = some r := by simp [expect]
theorem expect_other (t x : Tok) (r : List Tok) (h : x ≠ t) : expect t (x :: r) = none := by simp [expect, h]
def Ev (p : Nat → Prop) : Prop := ∃ F, ∀ f, F ≤ f → p f
theorem Ev.of {p : Nat → Prop} (h : ∀ f, p f) : Ev p := ⟨0, fun f _ => h f⟩
theorem Ev.and {p q : Nat → Prop} (h : Ev p) (k : Ev q) : Ev fun f => p f ∧ q f := by
 obtain ⟨F, h⟩ := h;obtain ⟨G, k⟩ := k;exact ⟨max F G, fun f hf => ⟨h f (by omega), k f (by omega)⟩⟩
theorem Ev.mono {p q : Nat → Prop} (h : Ev p) (k : ∀ f, p f → q f) : Ev q := by
 obtain ⟨F, h⟩ := h;exact ⟨F, fun f hf => k f (h f hf)⟩
theorem Ev.succ {p : Nat → Prop} (h : Ev fun f => p (f + 1)) : Ev p := by
 obtain ⟨F, h⟩ := h;refine ⟨F + 1, fun f hf => ?_⟩;obtain ⟨g, rfl⟩ : ∃ g, f = g + 1 := ⟨f - 1, by omega⟩;exact h g (by omega)
theorem row_eq (a : Nd) (h1 : a.kind = 1) (h2 : form a = true) : a = row a.kids := by
 rw [form_eq, Bool.and_eq_true, Bool.and_eq_true] at h2;obtain ⟨⟨h3, h4⟩, _⟩ := h2;rw [h1] at h3 h4
 have h5 : a.text = [] := by
  unfold textOK at h3;simpa using h3
 have h6 : a.cols = 0 := by
  unfold kidsOK at h4;rw [if_neg (by decide)] at h4;split at h4
  ·cases h4
  ·rename_i hc; simpa using hc
 have := Nd.eta a;rw [h1, h5, h6] at this;exact this
end Go.Proofs.YtncnoeoicaglaaaGreat.Tr
namespace Go.Proofs.YtncnoeoicaglaaaGreat.Tr
open Lx (Tok)
def IsRow (a : Nd) : Prop := a.kind = 1 ∧ form a = true
inductive View : Nd → Prop
 | sym (t : Bytes) (h : symbol t = true) : View (.mk 2 t 0 [])
 | num (t : Bytes) (h : isNum t = true) : View (.mk 3 t 0 [])
 | text (t : Bytes) (h : (decide (t.length ≤ 200) && printable t) = true) : View (.mk 4 t 0 [])
 | frac (a b : Nd) (ha : IsRow a) (hb : IsRow b) : View (.mk 5 [] 0 [a, b])
 | root (a b : Nd) (ha : IsRow a) (hb : IsRow b) : View (.mk 6 [] 0 [a, b])
 | sub (a b : Nd) (ha : IsRow a) (hb : IsRow b) : View (.mk 7 [] 0 [a, b])
 | sup (a b : Nd) (ha : IsRow a) (hb : IsRow b) : View (.mk 8 [] 0 [a, b])
 | both (a b d : Nd) (ha : IsRow a) (hb : IsRow b) (hd : IsRow d) : View (.mk 9 [] 0 [a, b, d])
 | accent (t : Bytes) (a : Nd) (h : accents.contains t = true) (ha : IsRow a) : View (.mk 10 t 0 [a])
 | fence (t : Bytes) (a : Nd) (h : Tr.fence t = true) (ha : IsRow a) : View (.mk 11 t 0 [a])
 | matrix (c : Int) (ks : List Nd) (hc : 1 ≤ c) (hn : 1 ≤ ks.length) (hm : (ks.length : Int) % c = 0) (h : ∀ k ∈ ks, IsRow k) : View (.mk 12 [] c ks)
theorem rows_of (l : List Nd) (h : formL false l = true) : ∀ x ∈ l, IsRow x := by
 induction l with
 | nil => intro x hx; cases hx
 | cons y l ih =>
  rw [formL, Bool.and_eq_true, Bool.and_eq_true] at h;obtain ⟨⟨h1, h2⟩, h3⟩ := h;intro x hx
  rcases List.mem_cons.1 hx with rfl | hx
  ·exact ⟨by simpa using h1, h2⟩
  ·exact ih h3 x hx
theorem items_of (l : List Nd) (h : formL true l = true) : ∀ x ∈ l, x.kind ≠ 1 ∧ form x = true := by
 induction l with
 | nil => intro x hx; cases hx
 | cons y l ih =>
  rw [formL, Bool.and_eq_true, Bool.and_eq_true] at h;obtain ⟨⟨h1, h2⟩, h3⟩ := h;intro x hx
  rcases List.mem_cons.1 hx with rfl | hx
  ·exact ⟨by simpa using h1, h2⟩
  ·exact ih h3 x hx
theorem IsRow.items {a : Nd} (h : IsRow a) : ∀ x ∈ a.kids, x.kind ≠ 1 ∧ form x = true := by
 obtain ⟨h1, h2⟩ := h;rw [form_eq, h1, Bool.and_eq_true] at h2;exact items_of _ h2.2
theorem view_of (n : Nd) (hf : form n = true) (hk : n.kind ≠ 1) : View n := by
 obtain ⟨k, t, c, ks⟩ := n;rw [form, Bool.and_eq_true, Bool.and_eq_true] at hf;obtain ⟨⟨h1, h2⟩, h3⟩ := hf;have hk1 : (k == 1) = false := by rw [beq_eq_false_iff_ne]; exact hk
 rw [hk1] at h3;have hrows := rows_of ks h3;unfold kidsOK at h2;unfold textOK at h1
 by_cases e12 : k = 12
 ·subst e12
  simp at h1 h2
  subst h1;obtain ⟨⟨⟨⟨h4, h5⟩, h6⟩, h7⟩, h8⟩ := h2;exact .matrix c ks h4 h6 (by omega) hrows
 ·rw [if_neg e12] at h2
  by_cases hc : c = 0
  ·subst hc
   simp only [ne_eq, not_true_eq_false, if_false] at h2;have hk' : k ≠ 1 := hk;rw [if_neg hk'] at h2
   by_cases e2 : k = 2
   ·subst e2
    simp at h1 h2
    subst h2;exact .sym t h1
   ·by_cases e3 : k = 3
    ·subst e3
     simp at h1 h2
     subst h2;exact .num t h1
    ·by_cases e4 : k = 4
     ·subst e4
      simp at h2
      subst h2;rw [if_neg (by decide), if_neg (by decide), if_pos rfl] at h1;exact .text t h1
     ·rw [if_neg (by omega)] at h2
      rw [if_neg e2, if_neg e3, if_neg e4] at h1
      by_cases e10 : k = 10
      ·subst e10
       simp only [if_true] at h1;rw [if_neg (by decide), if_neg (by decide), if_pos (by decide)] at h2
       match ks, h2, hrows with
       | [a], _, hr => exact .accent t a h1 (hr a (by simp))
      ·by_cases e11 : k = 11
       ·subst e11
        rw [if_neg (by decide), if_pos rfl] at h1;rw [if_neg (by decide), if_neg (by decide), if_pos (by decide)] at h2
        match ks, h2, hrows with
        | [a], _, hr => exact .fence t a h1 (hr a (by simp))
       ·rw [if_neg e10, if_neg e11] at h1
        have ht : t = [] := by simpa using h1
        subst ht
        by_cases e9 : k = 9
        ·subst e9
         rw [if_neg (by decide), if_pos rfl] at h2
         match ks, h2, hrows with
         | [a, b, d], _, hr => exact .both a b d (hr a (by simp)) (hr b (by simp)) (hr d (by simp))
        ·by_cases e58 : k = 5 ∨ k = 6 ∨ k = 7 ∨ k = 8
         ·rw [if_pos e58] at h2
          match ks, h2, hrows with
          | [a, b], _, hr =>
           have ha := hr a (by simp);have hb := hr b (by simp)
           rcases e58 with rfl | rfl | rfl | rfl
           ·exact .frac a b ha hb
           ·exact .root a b ha hb
           ·exact .sub a b ha hb
           ·exact .sup a b ha hb
         ·rw [if_neg e58, if_neg e9, if_neg (by omega)] at h2
          cases h2
  ·rw [if_pos hc] at h2; cases h2
end Go.Proofs.YtncnoeoicaglaaaGreat.Tr
namespace Go.Proofs.YtncnoeoicaglaaaGreat.Tr
open Lx (Tok)
theorem itemT_sym (t : Bytes) : itemT (.mk 2 t 0 []) = [if t.length = 1 then ⟨1, t⟩ else ⟨4, t⟩] := by rw [itemT] <;> first | rfl | (intros; simp_all)
theorem itemT_num (t : Bytes) : itemT (.mk 3 t 0 []) = [⟨2, t⟩] := by rw [itemT] <;> first | rfl | (intros; simp_all)
theorem itemT_text (t : Bytes) : itemT (.mk 4 t 0 []) = [⟨3, t⟩] := by rw [itemT] <;> first | rfl | (intros; simp_all)
theorem itemT_frac (a b : Nd) : itemT (.mk 5 [] 0 [a, b]) = name sFrac :: (argT a ++ argT b) := by rw [itemT] <;> first | rfl | (intros; simp_all)
theorem itemT_root (a b : Nd) : itemT (.mk 6 [] 0 [a, b]) = name sRoot :: ((if a.kids = [] then [] else mk7 91 :: (rowT a.kids ++ [mk7 93])) ++ argT b) := by rw [itemT] <;> first | rfl | (intros; simp_all)
theorem itemT_sub (a b : Nd) : itemT (.mk 7 [] 0 [a, b]) = baseT a ++ mk7 95 :: argT b := by rw [itemT] <;> first | rfl | (intros; simp_all)
theorem itemT_sup (a b : Nd) : itemT (.mk 8 [] 0 [a, b]) = baseT a ++ mk7 94 :: argT b := by rw [itemT] <;> first | rfl | (intros; simp_all)
theorem itemT_both (a b d : Nd) : itemT (.mk 9 [] 0 [a, b, d]) = baseT a ++ mk7 95 :: (argT b ++ mk7 94 :: argT d) := by rw [itemT] <;> first | rfl | (intros; simp_all)
theorem itemT_accent (t : Bytes) (a : Nd) : itemT (.mk 10 t 0 [a]) = name t :: argT a := by rw [itemT] <;> first | rfl | (intros; simp_all)
theorem itemT_fence (t : Bytes) (a : Nd) : itemT (.mk 11 t 0 [a]) = if t = [40, 41] ∨ t = [91, 93] then mk7 (t.headD 0) :: (rowT a.kids ++ [mk7 (t.getLastD 0)]) else ⟨5, t⟩ :: argT a := by rw [itemT] <;> first | rfl | (intros; simp_all)
theorem itemT_matrix (c : Int) (ks : List Nd) (h : ks ≠ []) : itemT (.mk 12 [] c ks) = name sMatrix :: mk7 123 :: (cellsT c 0 ks ++ [mk7 125]) := by
 match ks, h with
 | [a], _ => rw [itemT] <;> first | rfl | (intros; simp_all)
 | [a, b], _ => rw [itemT] <;> first | rfl | (intros; simp_all)
 | [a, b, d], _ => rw [itemT] <;> first | rfl | (intros; simp_all)
 | a :: b :: d :: e :: l, _ => rw [itemT] <;> first | rfl | (intros; simp_all)
theorem argT_eq (a : Nd) : argT a = match a.kids with | [x] => if leaf x then itemT x else mk7 123 :: (rowT [x] ++ [mk7 125]) | ks => mk7 123 :: (rowT ks ++ [mk7 125]) := by
 obtain ⟨k, t, c, ks⟩ := a
 match ks with
 | [] => rw [argT] <;> first | rfl | (intros; simp_all)
 | [x] => rw [argT]; rfl
 | x :: y :: l => rw [argT] <;> first | rfl | (intros; simp_all)
theorem baseT_eq (a : Nd) : baseT a = match a.kids with | [x] => if scripted x then mk7 123 :: (rowT [x] ++ [mk7 125]) else itemT x | ks => mk7 123 :: (rowT ks ++ [mk7 125]) := by
 obtain ⟨k, t, c, ks⟩ := a
 match ks with
 | [] => rw [baseT] <;> first | rfl | (intros; simp_all)
 | [x] => rw [baseT]; rfl
 | x :: y :: l => rw [baseT] <;> first | rfl | (intros; simp_all)
theorem rowT_cons (n : Nd) (ns : List Nd) : rowT (n :: ns) = itemT n ++ rowT ns := by rw [rowT]
theorem rowT_nil : rowT [] = [] := by rw [rowT]
theorem start_noScript (x : Tok) (r : List Tok) (h : startTok x = true) : noScript (x :: r) := by
 refine ⟨expect_other _ _ _ ?_, expect_other _ _ _ ?_⟩ <;> (rintro rfl; revert h; decide)
theorem IsRow.views {a : Nd} (h : IsRow a) : ∀ x ∈ a.kids, View x := fun x hx => view_of x (h.items x hx).2 (h.items x hx).1
theorem base_start (a : Nd) (ha : IsRow a) (ih : ∀ x ∈ a.kids, View x → ∃ t r, itemT x = t :: r ∧ startTok t = true) : ∃ t r, baseT a = t :: r ∧ startTok t = true := by
 rw [baseT_eq];have hv := ha.views;split
 ·rename_i x hx
  split
  ·exact ⟨mk7 123, _, rfl, rfl⟩
  ·exact ih x (by rw [hx]; simp) (hv x (by rw [hx]; simp))
 ·exact ⟨mk7 123, _, rfl, rfl⟩
theorem item_start (n : Nd) : View n → ∃ t r, itemT n = t :: r ∧ startTok t = true := by
 have : ∀ m n, count n ≤ m → View n → ∃ t r, itemT n = t :: r ∧ startTok t = true := by
  intro m
  induction m with
  | zero => intro n h; have := count_pos n; omega
  | succ m ih =>
   intro n hc v
   have hb : ∀ (k : Int) (t : Bytes) (c : Int) (a : Nd) (l : List Nd), n = .mk k t c (a :: l) → IsRow a → ∃ t r, baseT a = t :: r ∧ startTok t = true := fun k t c a l e ha => base_start a ha fun x hx vx => ih x (by
    have h1 := count_mem hx;have h2 := count_kids a;rw [e, count, countL] at hc;omega) vx
   cases v with
   | sym t h => rw [itemT_sym]; by_cases hl : t.length = 1 <;> simp only [hl, if_true, if_false] <;> exact ⟨_, _, rfl, rfl⟩
   | num t h => rw [itemT_num]; exact ⟨_, _, rfl, rfl⟩
   | text t h => rw [itemT_text]; exact ⟨_, _, rfl, rfl⟩
   | frac a b ha hb => rw [itemT_frac]; exact ⟨_, _, rfl, rfl⟩
   | root a b ha hb => rw [itemT_root]; exact ⟨_, _, rfl, rfl⟩
   | sub a b ha hb' =>
    rw [itemT_sub];obtain ⟨x, r, e, h⟩ := hb _ _ _ a _ rfl ha;rw [e]; exact ⟨x, _, rfl, h⟩
   | sup a b ha hb' =>
    rw [itemT_sup];obtain ⟨x, r, e, h⟩ := hb _ _ _ a _ rfl ha;rw [e]; exact ⟨x, _, rfl, h⟩
   | both a b d ha hb' hd =>
    rw [itemT_both];obtain ⟨x, r, e, h⟩ := hb _ _ _ a _ rfl ha;rw [e]; exact ⟨x, _, rfl, h⟩
   | accent t a h ha => rw [itemT_accent]; exact ⟨_, _, rfl, rfl⟩
   | fence t a h ha =>
    rw [itemT_fence];split
    ·rename_i ht
     rcases ht with rfl | rfl <;> exact ⟨_, _, rfl, rfl⟩
    ·exact ⟨_, _, rfl, rfl⟩
   | matrix c ks hc hn hm h =>
    rw [itemT_matrix c ks (by rintro rfl; simp at hn)]; exact ⟨_, _, rfl, rfl⟩
 exact this _ n (Nat.le_refl _)
theorem row_noScript (ks : List Nd) (hk : ∀ x ∈ ks, View x) (r : List Tok) (hr : noScript r) : noScript (rowT ks ++ r) := by
 cases ks with
 | nil => rw [rowT_nil]; exact hr
 | cons x ks =>
  obtain ⟨t, r', e, h⟩ := item_start x (hk x (by simp));rw [rowT_cons, e];exact start_noScript t _ h
structure PU (m : Nat) : Prop where
 item : ∀ n, count n ≤ m → View n → ∀ r, noScript r → Ev fun f => pItem f (itemT n ++ r) = some (n, r)
 base : ∀ n, count n ≤ m → View n → scripted n = false → ∀ r, Ev fun f => pBase f (itemT n ++ r) = some ([n], r)
theorem PU.row {m : Nat} (h : PU m) : ∀ ks, (∀ x ∈ ks, View x ∧ count x ≤ m) → ∀ r, stop r → Ev fun f => pRow f (rowT ks ++ r) = some (ks, r)
 | [], _, r, hr => Ev.succ (Ev.of fun f => by rw [rowT_nil, List.nil_append, pRow, if_neg (by rw [hr.1]; decide)])
 | x :: ks, hk, r, hr => by
  obtain ⟨hv, hc⟩ := hk x (by simp);have ih := PU.row h ks (fun y hy => hk y (by simp [hy])) r hr;have hns : noScript (rowT ks ++ r) := row_noScript ks (fun y hy => (hk y (by simp [hy])).1) r hr.2;refine Ev.succ (((h.item x hc hv _ hns).and ih).mono fun f ⟨h1, h2⟩ => ?_);obtain ⟨t, r', e, hs⟩ := item_start x hv;have hst : starts (itemT x ++ (rowT ks ++ r)) = true := by rw [e]; exact hs
  rw [rowT_cons, List.append_assoc, pRow, if_pos hst, h1];simp [h2]
end Go.Proofs.YtncnoeoicaglaaaGreat.Tr
namespace Go.Proofs.YtncnoeoicaglaaaGreat.Tr
open Lx (Tok PTok)
def grp (a : Nd) : Bool := match a.kids with | [x] => !leaf x | _ => true
def bgrp (a : Nd) : Bool := match a.kids with | [x] => scripted x | _ => true
def round (k : Int) (t : Bytes) : Bool := (k == 11) && ((t == [40, 41]) || (t == [91, 93]))
def segs : Nd → List (Nat × Bool × Nd)
 | .mk k t _ ks =>
  match ks with
  | [] => []
  | a :: r =>
   if k = 12 then (2, false, a) :: r.map fun b => (1, false, b)
   else if k = 7 ∨ k = 8 ∨ k = 9 then (0, bgrp a, a) :: r.map fun b => (1, grp b, b)
   else if round k t = true then (0, true, a) :: r.map fun b => (0, grp b, b)
   else if k = 6 then (1, !a.kids.isEmpty, a) :: r.map fun b => (0, grp b, b)
   else (1, grp a, a) :: r.map fun b => (0, grp b, b)
def tailN (n : Nd) : Nat := if n.kind = 12 ∨ n.kids = [] then 1 else 0
def rowsOf (l : List (Nat × Bool × Nd)) : List Nd := l.map fun x => x.2.2
theorem rowsOf_map (c : Nat) (f : Nd → Bool) (l : List Nd) : rowsOf (l.map fun b => (c, f b, b)) = l := by
 unfold rowsOf;rw [List.map_map];exact (List.map_congr_left fun x _ => rfl).trans (List.map_id l)
theorem segs_rows (n : Nd) : rowsOf (segs n) = n.kids := by
 obtain ⟨k, t, c, ks⟩ := n;cases ks with
 | nil => rfl
 | cons a r =>
  unfold segs;simp only
  have h1 := rowsOf_map 1 (fun _ => false) r;have h2 := rowsOf_map 1 grp r;have h3 := rowsOf_map 0 grp r;unfold rowsOf at h1 h2 h3 ⊢;split
  ·rw [List.map_cons, h1]; rfl
  ·split
   ·rw [List.map_cons, h2]; rfl
   ·split
    ·rw [List.map_cons, h3]; rfl
    ·split <;> (rw [List.map_cons, h3]; rfl)
def segLen (x : Nat × Bool × Nd) : Nat := x.1 + (if x.2.1 then 2 else 0) + (rowT x.2.2.kids).length
def segsLen : List (Nat × Bool × Nd) → Nat
 | [] => 0
 | x :: r => segLen x + segsLen r
theorem segLen_eq (k : Nat) (b : Bool) (a : Nd) : segLen (k, b, a) = k + 2 * b.toNat + (rowT a.kids).length := by cases b <;> simp [segLen]
structure Clo (σ κ : Type) where
 off : σ → List Nat → Nat → σ
 item : σ → List Nat → Nat → σ
 key : σ → κ
 done : σ → κ → Nat → σ
def fromAt (T : List PTok) (k : Nat) : Nat := (T[k]?.map (·.from_)).getD 0
def endAt (T : List PTok) (k : Nat) : Nat := if k = 0 then 0 else (T[k - 1]?.map (·.to_)).getD 0
section
variable {σ κ : Type} (C : Clo σ κ) (T : List PTok)
mutual
def runRow : List Nd → List Nat → Nat → Nat → σ → σ
 | [], p, i, f, s => C.off s (p ++ [i]) (endAt T f)
 | n :: ns, p, i, f, s =>
  let s1 := C.off s (p ++ [i]) (fromAt T f)
  let s2 := C.item s1 (p ++ [i]) (fromAt T f)
  let s3 := runSegs (segs n) (p ++ [i]) 0 f s2
  let f' := f + (itemT n).length
  runRow ns p (i + 1) f' (C.done s3 (C.key s1) (endAt T f'))
 termination_by ns => 2 * countL ns + 1
 decreasing_by
  ·have := segs_rows n
   unfold rowsOf at this;rw [this];simp only [countL, count_kids];omega
  ·simp only [countL, count_kids]
   omega
def runSegs : List (Nat × Bool × Nd) → List Nat → Nat → Nat → σ → σ
 | [], _, _, _, s => s
 | (k, b, a) :: r, p, j, f, s => runSegs r p (j + 1) (f + segLen (k, b, a)) (runRow a.kids (p ++ [j]) 0 (f + k + b.toNat) s)
 termination_by l => 2 * countL (l.map fun x => x.2.2) + 1
 decreasing_by
  ·simp only [List.map_cons, countL, count_kids]
   omega
  ·simp only [List.map_cons, countL, count_kids]
   omega
end
end
theorem argT_grpLen (a : Nd) : (argT a).length = (if grp a then 2 else 0) + (rowT a.kids).length := by
 rw [argT_eq];unfold grp;generalize a.kids = ks
 match ks with
 | [] => simp [rowT_nil]
 | [x] =>
  cases hl : leaf x with
  | true => simp [hl, rowT_cons, rowT_nil]
  | false => simp [hl]; omega
 | x :: y :: l => simp; omega
theorem baseT_grpLen (a : Nd) : (baseT a).length = (if bgrp a then 2 else 0) + (rowT a.kids).length := by
 rw [baseT_eq];unfold bgrp;generalize a.kids = ks
 match ks with
 | [] => simp [rowT_nil]
 | [x] =>
  cases hl : scripted x with
  | true => simp [hl]; omega
  | false => simp [hl, rowT_cons, rowT_nil]
 | x :: y :: l => simp; omega
theorem cellsT_grpLen (c : Int) : ∀ (i : Nat) (l : List Nd), (cellsT c (i + 1) l).length = segsLen (l.map fun b => (1, false, b))
 | _, [] => by rw [cellsT]; rfl
 | i, n :: ns => by
  rw [cellsT, if_neg (by omega)];simp only [List.length_append, List.map_cons, segsLen, segLen];rw [cellsT_grpLen c (i + 1) ns];split <;> simp <;> omega
theorem item_segs (n : Nd) (v : View n) : (itemT n).length = segsLen (segs n) + tailN n := by
 cases v with
 | sym t ht => rw [itemT_sym]; rfl
 | num t ht => rw [itemT_num]; rfl
 | text t ht => rw [itemT_text]; rfl
 | frac a b ha hb =>
  rw [itemT_frac];simp [segs, round, segsLen, segLen, tailN, Nd.kind, Nd.kids, argT_grpLen]
  omega
 | root a b ha hb =>
  rw [itemT_root];obtain ⟨ka, ta, ca, la⟩ := a;cases la with
  | nil => simp [segs, round, segsLen, segLen, tailN, Nd.kind, Nd.kids, argT_grpLen, rowT_nil]; omega
  | cons x l => simp [segs, round, segsLen, segLen, tailN, Nd.kind, Nd.kids, argT_grpLen]; omega
 | sub a b ha hb =>
  rw [itemT_sub];simp [segs, segsLen, segLen, tailN, Nd.kind, Nd.kids, argT_grpLen, baseT_grpLen]
  omega
 | sup a b ha hb =>
  rw [itemT_sup];simp [segs, segsLen, segLen, tailN, Nd.kind, Nd.kids, argT_grpLen, baseT_grpLen]
  omega
 | both a b d ha hb hd =>
  rw [itemT_both];simp [segs, segsLen, segLen, tailN, Nd.kind, Nd.kids, argT_grpLen, baseT_grpLen]
  omega
 | accent t a ht ha =>
  rw [itemT_accent];simp [segs, round, segsLen, segLen, tailN, Nd.kind, Nd.kids, argT_grpLen]
  omega
 | fence t a ht ha =>
  rw [itemT_fence]
  by_cases h : t = [40, 41] ∨ t = [91, 93]
  ·rw [if_pos h]
   have hr : round 11 t = true := by unfold round; simp [h]
   simp [segs, hr, segsLen, segLen, tailN, Nd.kind, Nd.kids]
   omega
  ·rw [if_neg h]
   have hr : round 11 t = false := by
    unfold round;simp only [not_or] at h;simp [h.1, h.2]
   simp [segs, hr, segsLen, segLen, tailN, Nd.kind, Nd.kids, argT_grpLen]
   omega
 | matrix c ks hc hn hm h =>
  match ks, hn with
  | a :: l, _ =>
   rw [itemT_matrix c (a :: l) (by simp), cellsT];simp [segs, segsLen, segLen, tailN, Nd.kind, cellsT_grpLen]
   omega
theorem item_pos (n : Nd) (v : View n) : 1 ≤ (itemT n).length := by
 obtain ⟨t, r, h, _⟩ := item_start n v;rw [h];simp
theorem segs_first (n : Nd) (v : View n) : ∀ x ∈ segs n, x.1 = 0 → x.2.1 = false → x.2.2.kids ≠ [] := by
 have hg : ∀ a : Nd, grp a = false → a.kids ≠ [] := by
  intro a h h2;unfold grp at h;rw [h2] at h;cases h
 have hb : ∀ a : Nd, bgrp a = false → a.kids ≠ [] := by
  intro a h h2;unfold bgrp at h;rw [h2] at h;cases h
 obtain ⟨k, t, c, ks⟩ := n;cases ks with
 | nil => intro x hx; cases hx
 | cons a r =>
  intro x hx h0 h1;unfold segs at hx;simp only at hx;split at hx
  ·rcases List.mem_cons.1 hx with rfl | hx
   ·cases h0
   ·obtain ⟨b, _, rfl⟩ := List.mem_map.1 hx; cases h0
  ·split at hx
   ·rcases List.mem_cons.1 hx with rfl | hx
    ·exact hb _ h1
    ·obtain ⟨b, _, rfl⟩ := List.mem_map.1 hx; cases h0
   ·split at hx
    ·rcases List.mem_cons.1 hx with rfl | hx
     ·cases h1
     ·obtain ⟨b, _, rfl⟩ := List.mem_map.1 hx; exact hg _ h1
    ·split at hx
     ·rcases List.mem_cons.1 hx with rfl | hx
      ·cases h0
      ·obtain ⟨b, _, rfl⟩ := List.mem_map.1 hx; exact hg _ h1
     ·rcases List.mem_cons.1 hx with rfl | hx
      ·cases h0
      ·obtain ⟨b, _, rfl⟩ := List.mem_map.1 hx; exact hg _ h1
end Go.Proofs.YtncnoeoicaglaaaGreat.Tr
namespace Go.Proofs.YtncnoeoicaglaaaGreat.Tr
open Lx (Tok PTok)
abbrev Path := List Nat
section
variable (T : List PTok)
mutual
def spRow : List Nd → Path → Nat → Nat → List (Path × Nat × Nat)
 | [], _, _, _ => []
 | n :: ns, p, i, f => (p ++ [i], fromAt T f, endAt T (f + (itemT n).length)) :: (spSegs (segs n) (p ++ [i]) 0 f ++ spRow ns p (i + 1) (f + (itemT n).length))
 termination_by ns => 2 * countL ns + 1
 decreasing_by
  ·have := segs_rows n
   unfold rowsOf at this;rw [this];simp only [countL, count_kids];omega
  ·simp only [countL, count_kids]
   omega
def spSegs : List (Nat × Bool × Nd) → Path → Nat → Nat → List (Path × Nat × Nat)
 | [], _, _, _ => []
 | (k, b, a) :: r, p, j, f => spRow a.kids (p ++ [j]) 0 (f + k + b.toNat) ++ spSegs r p (j + 1) (f + segLen (k, b, a))
 termination_by l => 2 * countL (l.map fun x => x.2.2) + 1
 decreasing_by
  ·simp only [List.map_cons, countL, count_kids]
   omega
  ·simp only [List.map_cons, countL, count_kids]
   omega
end
mutual
def posRow : List Nd → Path → Nat → Nat → List (Path × Nat)
 | [], p, i, f => [(p ++ [i], endAt T f)]
 | n :: ns, p, i, f => (p ++ [i], fromAt T f) :: (posSegs (segs n) (p ++ [i]) 0 f ++ posRow ns p (i + 1) (f + (itemT n).length))
 termination_by ns => 2 * countL ns + 1
 decreasing_by
  ·have := segs_rows n
   unfold rowsOf at this;rw [this];simp only [countL, count_kids];omega
  ·simp only [countL, count_kids]
   omega
def posSegs : List (Nat × Bool × Nd) → Path → Nat → Nat → List (Path × Nat)
 | [], _, _, _ => []
 | (k, b, a) :: r, p, j, f => posRow a.kids (p ++ [j]) 0 (f + k + b.toNat) ++ posSegs r p (j + 1) (f + segLen (k, b, a))
 termination_by l => 2 * countL (l.map fun x => x.2.2) + 1
 decreasing_by
  ·simp only [List.map_cons, countL, count_kids]
   omega
  ·simp only [List.map_cons, countL, count_kids]
   omega
end
end
theorem rows_ind {P : List Nd → Prop} {Q : List (Nat × Bool × Nd) → Prop} (h0 : P []) (h1 : ∀ n ns, Q (segs n) → P ns → P (n :: ns)) (q0 : Q []) (q1 : ∀ k b a r, P a.kids → Q r → Q ((k, b, a) :: r)) :
  (∀ ks, P ks) ∧ ∀ l, Q l := by
 have : ∀ m, (∀ ks, 2 * countL ks + 1 ≤ m → P ks) ∧ ∀ l : List (Nat × Bool × Nd), 2 * countL (rowsOf l) + 1 ≤ m → Q l := by
  intro m
  induction m with
  | zero => exact ⟨fun _ h => by omega, fun _ h => by omega⟩
  | succ m ih =>
   refine ⟨fun ks h => ?_, fun l h => ?_⟩
   ·cases ks with
    | nil => exact h0
    | cons n ns =>
     refine h1 n ns (ih.2 _ ?_) (ih.1 _ ?_)
     ·rw [segs_rows]; simp only [countL, count_kids] at h; omega
     ·simp only [countL, count_kids] at h; omega
   ·match l with
    | [] => exact q0
    | (k, b, a) :: r =>
     have h' : 2 * (count a + countL (rowsOf r)) + 1 ≤ m + 1 := h;rw [count_kids] at h';exact q1 k b a r (ih.1 _ (by omega)) (ih.2 _ (by omega))
 exact ⟨fun ks => (this _).1 ks (Nat.le_refl _), fun l => (this _).2 l (Nat.le_refl _)⟩
def itemsC : Clo (List (Path × Nat × Nat)) Nat where
 off s _ _ := s
 item s p f := s ++ [(p, f, 0)]
 key s := s.length
 done s k t := s.modify k fun x => (x.1, x.2.1, t)
theorem modify_mid {α : Type} (f : α → α) (l r : List α) (x : α) : (l ++ x :: r).modify l.length f = l ++ f x :: r := by
 induction l with
 | nil => rfl
 | cons y l ih => simpa [List.modify] using ih
theorem items_run (T : List PTok) : (∀ ks p i f s, runRow itemsC T ks p i f s = s ++ spRow T ks p i f) ∧ ∀ l p j f s, runSegs itemsC T l p j f s = s ++ spSegs T l p j f := by
 refine rows_ind (P := fun ks => ∀ p i f s, runRow itemsC T ks p i f s = s ++ spRow T ks p i f) (Q := fun l => ∀ p j f s, runSegs itemsC T l p j f s = s ++ spSegs T l p j f) ?_ ?_ ?_ ?_
 ·intro p i f s; rw [runRow, spRow, List.append_nil]; rfl
 ·intro n ns h1 h2 p i f s
  rw [runRow, spRow, h1, h2];show (((s ++ [(p ++ [i], fromAt T f, 0)]) ++ spSegs T (segs n) (p ++ [i]) 0 f).modify s.length _) ++ _ = _;rw [List.append_assoc, List.singleton_append, modify_mid];simp
 ·intro p j f s; rw [runSegs, spSegs, List.append_nil]
 ·intro k b a r h1 h2 p j f s
  rw [runSegs, spSegs, h1, h2, List.append_assoc]
def offC {σ : Type} (g : σ → Path → Nat → σ) : Clo σ Unit where
 off := g
 item s _ _ := s
 key _ := ()
 done s _ _ := s
theorem off_run {σ : Type} (g : σ → Path → Nat → σ) (T : List PTok) : (∀ ks p i f s, runRow (offC g) T ks p i f s = (posRow T ks p i f).foldl (fun s x => g s x.1 x.2) s) ∧ ∀ l p j f s, runSegs (offC g) T l p j f s = (posSegs T l p j f).foldl (fun s x => g s x.1 x.2) s := by
 refine rows_ind (P := fun ks => ∀ p i f s, runRow (offC g) T ks p i f s = (posRow T ks p i f).foldl (fun s x => g s x.1 x.2) s) (Q := fun l => ∀ p j f s, runSegs (offC g) T l p j f s = (posSegs T l p j f).foldl (fun s x => g s x.1 x.2) s) ?_ ?_ ?_ ?_
 ·intro p i f s; rw [runRow, posRow]; rfl
 ·intro n ns h1 h2 p i f s
  rw [runRow, posRow, h1, h2];simp only [List.foldl_cons, List.foldl_append];rfl
 ·intro p j f s; rw [runSegs, posSegs]; rfl
 ·intro k b a r h1 h2 p j f s
  rw [runSegs, posSegs, h1, h2, List.foldl_append]
def cmp : Path → Path → Int
 | [], [] => 0
 | [], _ :: _ => -1
 | _ :: _, [] => 1
 | a :: l, b :: m => if a < b then -1 else if b < a then 1 else cmp l m
end Go.Proofs.YtncnoeoicaglaaaGreat.Tr
namespace Go.Proofs.YtncnoeoicaglaaaGreat.Tr
open Lx (Tok PTok)
theorem View.rows {n : Nd} (v : View n) : ∀ a ∈ n.kids, IsRow a := by
 cases v with
 | sym t h => intro a ha; cases ha
 | num t h => intro a ha; cases ha
 | text t h => intro a ha; cases ha
 | frac a b ha hb => intro x hx; simp [Nd.kids] at hx; rcases hx with rfl | rfl <;> assumption
 | root a b ha hb => intro x hx; simp [Nd.kids] at hx; rcases hx with rfl | rfl <;> assumption
 | sub a b ha hb => intro x hx; simp [Nd.kids] at hx; rcases hx with rfl | rfl <;> assumption
 | sup a b ha hb => intro x hx; simp [Nd.kids] at hx; rcases hx with rfl | rfl <;> assumption
 | both a b d ha hb hd => intro x hx; simp [Nd.kids] at hx; rcases hx with rfl | rfl | rfl <;> assumption
 | accent t a h ha => intro x hx; simp [Nd.kids] at hx; rcases hx with rfl; assumption
 | fence t a h ha => intro x hx; simp [Nd.kids] at hx; rcases hx with rfl; assumption
 | matrix c ks hc hn hm h => exact h
theorem View.segRows {n : Nd} (v : View n) : ∀ x ∈ segs n, IsRow x.2.2 := by
 intro x hx;refine v.rows _ ?_;rw [← segs_rows];exact List.mem_map.2 ⟨x, hx, rfl⟩
structure Mono (T : List PTok) : Prop where
 own : ∀ i (h : i < T.length), T[i].from_ ≤ T[i].to_
 next : ∀ i (h : i + 1 < T.length), T[i].to_ ≤ T[i + 1].from_
namespace Mono
variable {T : List PTok} (hm : Mono T)
include hm
theorem ends (f : Nat) (h : f < T.length) : endAt T f ≤ fromAt T f := by
 unfold endAt fromAt;rw [List.getElem?_eq_getElem h];split
 ·exact Nat.zero_le _
 ·rename_i h0
  obtain ⟨f, rfl⟩ : ∃ g, f = g + 1 := ⟨f - 1, by omega⟩;rw [Nat.add_sub_cancel, List.getElem?_eq_getElem (by omega)];exact hm.next f h
theorem one (f : Nat) (h : f < T.length) : fromAt T f ≤ endAt T (f + 1) := by
 unfold endAt fromAt;rw [if_neg (by omega), Nat.add_sub_cancel, List.getElem?_eq_getElem h];exact hm.own f h
end Mono
def firsts (l : List (Nat × Bool × Nd)) : Prop := ∀ x ∈ l, x.1 = 0 → x.2.1 = false → x.2.2.kids ≠ []
def segsOK (l : List (Nat × Bool × Nd)) : Prop := (∀ x ∈ l, IsRow x.2.2) ∧ firsts l
theorem View.segsOK {n : Nd} (v : View n) : segsOK (segs n) := ⟨v.segRows, segs_first n v⟩
theorem segsOK.tail {x : Nat × Bool × Nd} {l : List (Nat × Bool × Nd)} (h : Tr.segsOK (x :: l)) : Tr.segsOK l := ⟨fun y hy => h.1 y (by simp [hy]), fun y hy => h.2 y (by simp [hy])⟩
end Go.Proofs.YtncnoeoicaglaaaGreat.Tr
