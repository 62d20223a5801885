/- Part 3 of 48 of a proof; its texts, joined: WrO, PrM, NpM, NpF, PrD. No condition. -/
import Derived.Test.YtncnoeoicaglaaaGreatVc2
import Derived.Test.YtncnoeoicaglaaaGreatVc1

/- Tokens that are written one after the other are read again. -/
namespace Go.Proofs.YtncnoeoicaglaaaGreat.Lx
def flat : List (Bytes × Tok) → Bytes
 | [] => []
 | (s, t) :: l => s ++ (spell t ++ flat l)
def placed : Nat → List (Bytes × Tok) → List PTok
 | _, [] => []
 | a, (s, t) :: l => ⟨t.kind, t.text, a + s.length, a + s.length + (spell t).length⟩ :: placed (a + s.length + (spell t).length) l
def spaced : Option Tok → List (Bytes × Tok) → Prop
 | _, [] => True
 | o, (s, t) :: l => s.all (isB 1) = true ∧ TokOK t ∧ (s = [] → ∀ a, o = some a → join a t = false) ∧ spaced (some t) l
theorem runI_isB (l : Bytes) (k : Nat) : runI 1 l k = runLen 1 (l.drop k) := by
 unfold runI runLen
 have hp : (fun b : UInt8 => (cls b.toNat : Int) == 1) = isB 1 := by
  funext b
  unfold isB
  rw [Bool.eq_iff_iff, beq_iff_eq, beq_iff_eq]
  omega
 rw [hp]
theorem spell_pos (t : Tok) (ht : TokOK t) : 0 < (spell t).length := by
 obtain ⟨c, y, e, _⟩ := spell_head t ht
 rw [e]; simp
theorem okAfter_flat (t : Tok) : ∀ (W : List (Bytes × Tok)), spaced (some t) W → okAfter t (flat W)
 | [], _ => okAfter_end t
 | (s, b) :: l, ⟨h1, h2, h3, _⟩ => by
  cases s with
  | nil => exact okAfter_tok t b h2 (h3 rfl t rfl) _
  | cons c s =>
   simp only [List.all_cons, Bool.and_eq_true] at h1
   exact okAfter_blank t c _ h1.1
theorem lexGo_flat (l : Bytes) : ∀ (W : List (Bytes × Tok)) (o : Option Tok) (p : Bytes) (f : Nat), l = p ++ flat W → W.length < f → spaced o W → lexGo l f p.length = (placed p.length W, none)
 | [], o, p, f, hl, hf, _ => by
  cases f with
  | zero => cases hf
  | succ f =>
   rw [lexGo, if_pos]
   ·rfl
   ·rw [hl]; unfold skip flat; simp
 | (s, t) :: W, o, p, f, hl, hf, ⟨h1, h2, h3, h4⟩ => by
  cases f with
  | zero => cases hf
  | succ f =>
   have hd : l.drop p.length = s ++ (spell t ++ flat W) := by rw [hl]; simp [flat]
   have hsk : skip l p.length = p.length + s.length := by
    unfold skip
    rw [runI_isB, hd, runLen_app 1 s _ h1]
    obtain ⟨c, y, e, n1, _⟩ := spell_head t h2
    rw [e]
    intro d hd'
    cases hd'
    exact n1
   have hl2 : l = (p ++ s) ++ (spell t ++ flat W) := by rw [hl]; simp [flat]
   have hl3 : l = (p ++ s ++ spell t) ++ flat W := by rw [hl]; simp [flat]
   have hsp := spell_pos t h2
   have hnx : next (l.drop (p.length + s.length)) = .ok t (spell t).length := by
    have : l.drop (p.length + s.length) = spell t ++ flat W := by
     rw [hl2, ← List.length_append, List.drop_left]
    rw [this]
    exact reread t _ h2 (okAfter_flat t W h4)
   have ih := lexGo_flat l W (some t) (p ++ s ++ spell t) f hl3 (by simpa using hf) h4
   rw [lexGo, hsk, if_neg]
   ·rw [hnx]
    simp only
    have e3 : (p ++ s ++ spell t).length = p.length + s.length + (spell t).length := by simp [Nat.add_assoc]
    rw [e3] at ih
    rw [ih]
    rfl
   ·rw [hl2]; simp; omega
theorem flat_len : ∀ (W : List (Bytes × Tok)) (o : Option Tok), spaced o W → W.length ≤ (flat W).length
 | [], _, _ => Nat.le_refl _
 | (s, t) :: W, o, ⟨_, h2, _, h4⟩ => by
  have := flat_len W (some t) h4
  have := spell_pos t h2
  simp [flat]; omega
theorem lexAll_flat (W : List (Bytes × Tok)) (h : spaced none W) : lexAll (flat W) = (placed 0 W, none) :=
 lexGo_flat (flat W) W none [] _ rfl (by have := flat_len W none h; omega) h
def tok (t : PTok) : Tok := ⟨t.kind, t.text⟩
theorem placed_toks : ∀ (W : List (Bytes × Tok)) (a : Nat), (placed a W).map tok = W.map (·.2)
 | [], _ => rfl
 | (s, t) :: W, a => by simp only [placed, List.map_cons, placed_toks W]; rfl
theorem lexGo_ok (l : Bytes) : ∀ (f a : Nat), ∀ t ∈ (lexGo l f a).1, TokOK (tok t)
 | 0, a, t, ht => by simp [lexGo] at ht
 | f + 1, a, t, ht => by
  rw [lexGo] at ht
  split at ht
  ·cases ht
  ·cases hn : next (l.drop (skip l a)) with
   | err i e => rw [hn] at ht; cases ht
   | ok t' n =>
    rw [hn] at ht
    rcases List.mem_cons.1 ht with rfl | h
    ·exact next_tokOK _ _ _ hn
    ·exact lexGo_ok l f _ t h
theorem lexAll_two (a b : Tok) (ha : TokOK a) (hb : TokOK b) (hj : join a b = false) : ∃ x y, lexAll (spell a ++ spell b) = ([x, y], none) ∧ tok x = a ∧ tok y = b := by
 have := lexAll_flat [([], a), ([], b)] ⟨rfl, ha, (fun _ c hc => nomatch hc), rfl, hb, (fun _ c hc => by cases hc; exact hj), trivial⟩
 simp only [flat, List.nil_append, List.append_nil] at this
 exact ⟨_, _, this, rfl, rfl⟩
theorem lexAll_joined (a b : Tok) (ha : TokOK a) (hb : TokOK b) (hj : join a b = true) : (lexAll (spell a ++ spell b)).2 ≠ none ∨ (lexAll (spell a ++ spell b)).1.map tok ≠ [a, b] := by
 unfold lexAll
 obtain ⟨c, y, e, n1, _⟩ := spell_head a ha
 have hsk : skip (spell a ++ spell b) 0 = 0 := by
  unfold skip
  rw [runI_isB, List.drop_zero, e]
  have := runLen_app 1 [] (c :: y ++ spell b) rfl (fun d hd => by cases hd; exact n1)
  simpa using this
 have hp : 0 < (spell a ++ spell b).length := by have := spell_pos a ha; simp; omega
 rw [lexGo, hsk, if_neg (by omega), List.drop_zero]
 cases hn : next (spell a ++ spell b) with
 | err i e => left; simp
 | ok t n =>
  right
  intro h
  simp only [List.map_cons, List.cons.injEq] at h
  have : t = a := h.1
  subst this
  exact joined_other t b ha hb hj n hn
def sameT (x y : PTok) (places : Bool) : Bool := x.kind == y.kind && x.text == y.text && (!places || (x.from_ == y.from_ && x.to_ == y.to_))
def sameL : List PTok → List PTok → Bool → Bool
 | [], [], _ => true
 | x :: xs, y :: ys, p => sameT x y p && sameL xs ys p
 | _, _, _ => false
theorem sameT_iff (x y : PTok) : sameT x y false = decide (tok x = tok y) := by
 unfold sameT tok
 rw [Bool.eq_iff_iff]
 simp
theorem sameL_iff : ∀ (xs ys : List PTok), sameL xs ys false = decide (xs.map tok = ys.map tok)
 | [], [] => rfl
 | x :: xs, y :: ys => by
  rw [sameL, sameT_iff, sameL_iff xs ys]
  simp
 | [], y :: ys => by simp [sameL]
 | x :: xs, [] => by simp [sameL]
end Go.Proofs.YtncnoeoicaglaaaGreat.Lx

/- The tokens of a formula tree, and that they tell the tree: no program in sight. -/
namespace Go.Proofs.YtncnoeoicaglaaaGreat.Tr
open Lx (Tok)
def mk7 (b : UInt8) : Tok := ⟨7, [b]⟩
def name (s : Bytes) : Tok := ⟨4, s⟩
def sFrac : Bytes := [102, 114, 97, 99]
def sRoot : Bytes := [114, 111, 111, 116]
def sMatrix : Bytes := [109, 97, 116, 114, 105, 120]
def leaf (n : Nd) : Bool := (n.kind == 2) || (n.kind == 3) || (n.kind == 4)
def scripted (n : Nd) : Bool := (n.kind == 7) || (n.kind == 8) || (n.kind == 9)
mutual
def itemT : Nd → List Tok
 | .mk k t c ks =>
  if k = 2 then [if t.length = 1 then ⟨1, t⟩ else ⟨4, t⟩]
  else if k = 3 then [⟨2, t⟩]
  else if k = 4 then [⟨3, t⟩]
  else match ks with
   | [a] =>
    if k = 10 then name t :: argT a
    else if k = 11 then (if t = [40, 41] ∨ t = [91, 93] then mk7 (t.headD 0) :: (rowT a.kids ++ [mk7 (t.getLastD 0)]) else ⟨5, t⟩ :: argT a)
    else if k = 12 then name sMatrix :: mk7 123 :: (cellsT c 0 [a] ++ [mk7 125])
    else []
   | [a, b] =>
    if k = 5 then name sFrac :: (argT a ++ argT b)
    else if k = 6 then name sRoot :: ((if a.kids = [] then [] else mk7 91 :: (rowT a.kids ++ [mk7 93])) ++ argT b)
    else if k = 7 then baseT a ++ mk7 95 :: argT b
    else if k = 8 then baseT a ++ mk7 94 :: argT b
    else if k = 12 then name sMatrix :: mk7 123 :: (cellsT c 0 [a, b] ++ [mk7 125])
    else []
   | [a, b, d] =>
    if k = 9 then baseT a ++ mk7 95 :: (argT b ++ mk7 94 :: argT d)
    else if k = 12 then name sMatrix :: mk7 123 :: (cellsT c 0 [a, b, d] ++ [mk7 125])
    else []
   | ks => if k = 12 then name sMatrix :: mk7 123 :: (cellsT c 0 ks ++ [mk7 125]) else []
 termination_by n => 2 * count n
 decreasing_by all_goals (simp only [count_kids, countL, Nd.kids]; omega)
def argT : Nd → List Tok
 | .mk _ _ _ ks => match ks with
  | [x] => if leaf x then itemT x else mk7 123 :: (rowT [x] ++ [mk7 125])
  | ks => mk7 123 :: (rowT ks ++ [mk7 125])
 termination_by n => 2 * count n + 1
 decreasing_by all_goals (simp only [count_kids, countL, Nd.kids]; omega)
def baseT : Nd → List Tok
 | .mk _ _ _ ks => match ks with
  | [x] => if scripted x then mk7 123 :: (rowT [x] ++ [mk7 125]) else itemT x
  | ks => mk7 123 :: (rowT ks ++ [mk7 125])
 termination_by n => 2 * count n + 1
 decreasing_by all_goals (simp only [count_kids, countL, Nd.kids]; omega)
def rowT : List Nd → List Tok
 | [] => []
 | n :: ns => itemT n ++ rowT ns
 termination_by ns => 2 * countL ns + 1
 decreasing_by all_goals (simp only [count_kids, countL, Nd.kids]; omega)
def cellsT (c : Int) : Nat → List Nd → List Tok
 | _, [] => []
 | i, n :: ns => (if i = 0 then [] else if (i : Int) % c = 0 then [⟨8, [92, 92]⟩] else [mk7 38]) ++ (rowT n.kids ++ cellsT c (i + 1) ns)
 termination_by _ ns => 2 * countL ns + 1
 decreasing_by all_goals (simp only [count_kids, countL, Nd.kids]; omega)
end
end Go.Proofs.YtncnoeoicaglaaaGreat.Tr

/- The parser of the notation with no macros, on lists of tokens with places. No program in sight. -/
namespace Go.Proofs.YtncnoeoicaglaaaGreat.Np
open Lx (PTok)
open Tr (Nd sFrac sRoot sMatrix)
inductive R (α : Type) where
 | ok (a : α) (r : List PTok)
 | err (i e : Nat)
 | out
def R.bind {α β : Type} (x : R α) (k : α → List PTok → R β) : R β :=
 match x with
 | .ok a r => k a r
 | .err i e => .err i e
 | .out => .out
def R.map {α β : Type} (x : R α) (k : α → β) : R β := x.bind fun a r => .ok (k a) r
def place (en : Nat) : List PTok → Nat
 | [] => en
 | t :: _ => t.from_
def isM (b : UInt8) : List PTok → Bool
 | [] => false
 | t :: _ => (t.kind == 7) && (t.text == [b])
def refuse {α : Type} (en : Nat) (l : List PTok) : R α := .err (place en l) 3
def leafOf (t : PTok) : Option Nd :=
 if t.kind = 1 then some (.mk 2 t.text 0 [])
 else if t.kind = 2 then some (.mk 3 t.text 0 [])
 else if t.kind = 3 then some (.mk 4 t.text 0 [])
 else none
def slot (l : List Nd) : Nd := .mk 1 [] 0 l
def accented (t : List UInt8) : Bool := Tr.accents.contains t
def special (t : List UInt8) : Bool := (t == sFrac) || (t == sRoot) || (t == sMatrix) || accented t
def isBreak : List PTok → Bool
 | [] => false
 | t :: _ => t.kind == 8
def colN (b c n : Nat) : Nat := if b = 0 then n else c
def stops (l : List PTok) : Bool := isBreak l || isM 41 l || isM 93 l || isM 125 l || isM 38 l
def scripts (group : Bool) (en : Nat) (base : List Nd) (sub sup : Option Nd) (l : List PTok) : R (List Nd) :=
 match sub, sup with
 | some a, some b => .ok [.mk 9 [] 0 [slot base, a, b]] l
 | none, some b => .ok [.mk 8 [] 0 [slot base, b]] l
 | some a, none => .ok [.mk 7 [] 0 [slot base, a]] l
 | none, none => if group then refuse en l else .ok base l
def plainName (t : PTok) (r : List PTok) : R (List Nd) := if t.text.length = 1 then .err t.from_ 11 else .ok [.mk 2 t.text 0 []] r
mutual
def pRow (en : Nat) : Nat → List Nat → List PTok → R (List Nd)
 | 0, _, _ => .out
 | f + 1, op, l =>
  if l.isEmpty ∧ op ≠ [] then .err (op.getLastD 0) 12
  else if l.isEmpty ∨ stops l = true then .ok [] l
  else (pItem en f op l).bind fun more r => (pRow en f op r).map fun items => more ++ items
def pIn (en : Nat) : Nat → UInt8 → List Nat → List PTok → R (List Nd)
 | 0, _, _, _ => .out
 | f + 1, b, op, l => (pRow en f (op ++ [place en l]) l.tail).bind fun items r => if isM b r then .ok items r.tail else refuse en r
def pScript (en : Nat) : Nat → UInt8 → List Nat → List PTok → R (Option Nd)
 | 0, _, _, _ => .out
 | f + 1, b, op, l => if isM b l then (pArg en f op l.tail).map some else .ok none l
def pItem (en : Nat) : Nat → List Nat → List PTok → R (List Nd)
 | 0, _, _ => .out
 | f + 1, op, l => (pPrim en f op l).bind fun base r => (pScript en f 95 op r).bind fun sub r => (pScript en f 94 op r).bind fun sup r =>
  if sup.isSome && sub.isNone then (pScript en f 95 op r).bind fun sub r => scripts (isM 123 l) en base sub sup r
  else scripts (isM 123 l) en base sub sup r
def pPrim (en : Nat) : Nat → List Nat → List PTok → R (List Nd)
 | 0, _, _ => .out
 | f + 1, op, l =>
  match l with
  | [] => refuse en l
  | t :: r =>
   match leafOf t with
   | some x => .ok [x] r
   | none =>
    if t.kind = 4 then pName en f op t r
    else if t.kind = 5 then (pArgs en f 1 op r).map fun ks => [.mk 11 t.text 0 ks]
    else if isM 40 l then (pIn en f 41 op l).map fun items => [.mk 11 [40, 41] 0 [slot items]]
    else if isM 91 l then (pIn en f 93 op l).map fun items => [.mk 11 [91, 93] 0 [slot items]]
    else if isM 123 l then pIn en f 125 op l
    else refuse en l
def pArgs (en : Nat) : Nat → Nat → List Nat → List PTok → R (List Nd)
 | 0, _, _, _ => .out
 | _ + 1, 0, _, l => .ok [] l
 | f + 1, n + 1, op, l => (pArg en f op l).bind fun a r => (pArgs en f n op r).map fun ks => a :: ks
def pName (en : Nat) : Nat → List Nat → PTok → List PTok → R (List Nd)
 | 0, _, _, _ => .out
 | f + 1, op, t, r =>
  if t.text = sFrac then (pArgs en f 2 op r).map fun ks => [.mk 5 [] 0 ks]
  else if t.text = sRoot then
   if isM 91 r then (pIn en f 93 op r).bind fun d r' => (pArgs en f 1 op r').map fun ks => [.mk 6 [] 0 (slot d :: ks)]
   else (pArgs en f 1 op r).map fun ks => [.mk 6 [] 0 (slot [] :: ks)]
  else if t.text = sMatrix then
   if isM 123 r then (pCells en f (op ++ [place en r]) [] 0 0 r.tail).map fun p => [.mk 12 [] p.2 p.1] else refuse en r
  else if accented t.text then (pArgs en f 1 op r).map fun ks => [.mk 10 t.text 0 ks]
  else plainName t r
def pCells (en : Nat) : Nat → List Nat → List Nd → Nat → Nat → List PTok → R (List Nd × Nat)
 | 0, _, _, _, _, _ => .out
 | f + 1, op, ks, b, c, l => (pRow en f op l).bind fun items r =>
  if isM 38 r then pCells en f op (ks ++ [slot items]) b c r.tail
  else if isBreak r = false ∧ isM 125 r = false then refuse en r
  else if ks.length + 1 - b ≠ (colN b c (ks.length + 1)) then .err (place en r) 3
  else if isBreak r = false then .ok (ks ++ [slot items], colN b c (ks.length + 1)) r.tail
  else pCells en f op (ks ++ [slot items]) (ks.length + 1) (colN b c (ks.length + 1)) r.tail
def pArg (en : Nat) : Nat → List Nat → List PTok → R Nd
 | 0, _, _ => .out
 | f + 1, op, l =>
  match l with
  | [] => refuse en l
  | t :: r =>
   match leafOf t with
   | some x => .ok (slot [x]) r
   | none =>
    if isM 123 l then (pIn en f 125 op l).map slot
    else if t.kind = 4 ∧ special t.text = false then (plainName t r).map slot
    else refuse en l
end
def parseT (en : Nat) (l : List PTok) : R (List Nd) :=
 (pRow en (8 * l.length + 8) [] l).bind fun items r => if r.isEmpty then .ok items r else refuse en r
end Go.Proofs.YtncnoeoicaglaaaGreat.Np

/- The parser comes to an end: how much fuel it takes. -/
namespace Go.Proofs.YtncnoeoicaglaaaGreat.Np
open Lx (PTok)
open Tr (Nd)
def Fine {α : Type} (x : R α) (n : Nat) : Prop :=
 match x with
 | .ok _ r => r.length < n
 | .err _ _ => True
 | .out => False
theorem Fine.bind {α β : Type} {x : R α} {k : α → List PTok → R β} {n m : Nat} (h : Fine x n) (hk : ∀ a r, r.length < n → Fine (k a r) m) : Fine (x.bind k) m := by
 cases x with
 | ok a r => exact hk a r h
 | err i e => trivial
 | out => exact h.elim
theorem Fine.map {α β : Type} {x : R α} {k : α → β} {n m : Nat} (h : Fine x n) (hm : n ≤ m) : Fine (x.map k) m := h.bind fun _ _ hr => Nat.lt_of_lt_of_le hr hm
theorem Fine.mono {α : Type} {x : R α} {n m : Nat} (h : Fine x n) (hm : n ≤ m) : Fine x m := by
 cases x with
 | ok a r => exact Nat.lt_of_lt_of_le h hm
 | err i e => trivial
 | out => exact h.elim
theorem Fine.refuse {α : Type} (en : Nat) (l : List PTok) (n : Nat) : Fine (refuse en l : R α) n := trivial
theorem isM_pos {b : UInt8} {l : List PTok} (h : isM b l = true) : l.tail.length < l.length := by
 cases l with
 | nil => cases h
 | cons t r => simp
theorem Fine.scripts (g : Bool) (en : Nat) (b : List Nd) (x y : Option Nd) (l : List PTok) (n : Nat) (h : l.length < n) : Fine (scripts g en b x y l) n := by
 unfold Np.scripts
 split
 ·exact h
 ·exact h
 ·exact h
 ·split
  ·trivial
  ·exact h
theorem Fine.plainName (t : PTok) (r : List PTok) (n : Nat) (h : r.length < n) : Fine (plainName t r) n := by
 unfold Np.plainName
 split
 ·trivial
 ·exact h
structure Good (en f : Nat) : Prop where
 row : ∀ op l, 8 * l.length + 5 ≤ f → Fine (pRow en f op l) (l.length + 1)
 within : ∀ b op l, l.tail.length < l.length → 8 * l.length + 2 ≤ f → Fine (pIn en f b op l) l.length
 arg : ∀ op l, 8 * l.length + 3 ≤ f → Fine (pArg en f op l) l.length
 args : ∀ n op l, 8 * l.length + 4 + n ≤ f → Fine (pArgs en f n op l) (l.length + 1)
 script : ∀ b op l, 8 * l.length + 4 ≤ f → Fine (pScript en f b op l) (l.length + 1)
 item : ∀ op l, 8 * l.length + 4 ≤ f → Fine (pItem en f op l) l.length
 prim : ∀ op l, 8 * l.length + 3 ≤ f → Fine (pPrim en f op l) l.length
 name : ∀ op t r, 8 * r.length + 7 ≤ f → Fine (pName en f op t r) (r.length + 1)
 cells : ∀ op ks b c l, 8 * l.length + 6 ≤ f → Fine (pCells en f op ks b c l) (l.length + 1)
theorem good (en : Nat) : ∀ f, Good en f
 | 0 => by constructor <;> (intros; exfalso; omega)
 | f + 1 => by
  have ih := good en f
  constructor
  ·intro op l h
   rw [pRow]
   split
   ·trivial
   ·split
    ·exact Nat.lt_succ_self _
    ·exact (ih.item op l (by omega)).bind fun a r hr => (ih.row op r (by omega)).map (by omega)
  ·intro b op l hl h
   rw [pIn]
   refine (ih.row _ l.tail (by omega)).bind fun a r hr => ?_
   split
   ·show r.tail.length < l.length
    rw [List.length_tail]
    omega
   ·trivial
  ·intro op l h
   rw [pArg.eq_def]
   cases l with
   | nil => trivial
   | cons t r =>
    simp only
    split
    ·show r.length < _; simp
    ·split
     ·exact (ih.within 125 op (t :: r) (by simp) (by omega)).map (Nat.le_refl _)
     ·split
      ·exact (Fine.plainName t r (t :: r).length (by simp)).map (Nat.le_refl _)
      ·trivial
  ·intro n op l h
   cases n with
   | zero => rw [pArgs]; exact Nat.lt_succ_self _
   | succ n =>
    rw [pArgs]
    exact (ih.arg op l (by omega)).bind fun a r hr => (ih.args n op r (by omega)).map (by omega)
  ·intro b op l h
   rw [pScript]
   split
   ·rename_i hm
    have := isM_pos hm
    exact (ih.arg op l.tail (by omega)).map (by omega)
   ·exact Nat.lt_succ_self _
  ·intro op l h
   rw [pItem]
   refine (ih.prim op l (by omega)).bind fun a r hr => (ih.script 95 op r (by omega)).bind fun sub r hr => (ih.script 94 op r (by omega)).bind fun sup r hr => ?_
   split
   ·exact (ih.script 95 op r (by omega)).bind fun sub r hr => Fine.scripts _ _ _ _ _ _ _ (by omega)
   ·exact Fine.scripts _ _ _ _ _ _ _ (by omega)
  ·intro op l h
   rw [pPrim.eq_def]
   cases l with
   | nil => trivial
   | cons t r =>
    simp only
    have hl : (t :: r).length = r.length + 1 := rfl
    have ht : (t :: r).tail.length < (t :: r).length := by simp
    split
    ·show r.length < _; simp
    ·split
     ·exact (ih.name op t r (by omega)).mono (by omega)
     ·split
      ·exact (ih.args 1 op r (by omega)).map (by omega)
      ·split
       ·exact (ih.within 41 op (t :: r) ht (by omega)).map (Nat.le_refl _)
       ·split
        ·exact (ih.within 93 op (t :: r) ht (by omega)).map (Nat.le_refl _)
        ·split
         ·exact ih.within 125 op (t :: r) ht (by omega)
         ·trivial
  ·intro op t r h
   rw [pName]
   split
   ·exact (ih.args 2 op r (by omega)).map (Nat.le_refl _)
   ·split
    ·split
     ·rename_i hm
      exact (ih.within 93 op r (isM_pos hm) (by omega)).bind fun d r' hr => (ih.args 1 op r' (by omega)).map (by omega)
     ·exact (ih.args 1 op r (by omega)).map (Nat.le_refl _)
    ·split
     ·split
      ·rename_i hm
       have := isM_pos hm
       exact (ih.cells _ _ _ _ r.tail (by omega)).map (by omega)
      ·trivial
     ·split
      ·exact (ih.args 1 op r (by omega)).map (Nat.le_refl _)
      ·exact Fine.plainName _ _ _ (Nat.lt_succ_self _)
  ·intro op ks b c l h
   rw [pCells]
   refine (ih.row op l (by omega)).bind fun items r hr => ?_
   have ht : r.tail.length ≤ r.length := by rw [List.length_tail]; omega
   split
   ·rename_i hm
    have := isM_pos hm
    exact (ih.cells _ _ _ _ r.tail (by omega)).mono (by omega)
   ·split
    ·trivial
    ·split
     ·trivial
     ·split
      ·show r.tail.length < _; omega
      ·cases r with
       | nil => rename_i h2; exact absurd rfl h2
       | cons x r =>
        have hx : (x :: r).length = r.length + 1 := rfl
        exact (ih.cells _ _ _ _ r (by omega)).mono (by omega)
theorem parseT_ends (en : Nat) (l : List PTok) : parseT en l ≠ .out := by
 have h := (good en (8 * l.length + 8)).row [] l (by omega)
 unfold parseT
 cases hx : pRow en (8 * l.length + 8) [] l with
 | ok a r =>
  show (if r.isEmpty then R.ok a r else refuse en r) ≠ _
  split <;> (intro h; cases h)
 | err i e => intro h; cases h
 | out => rw [hx] at h; exact h.elim
end Go.Proofs.YtncnoeoicaglaaaGreat.Np

/- A reader of the tokens of a tree: the tokens tell the tree. No program in sight. -/
namespace Go.Proofs.YtncnoeoicaglaaaGreat.Tr
open Lx (Tok)
def row (ks : List Nd) : Nd := .mk 1 [] 0 ks
def expect (t : Tok) : List Tok → Option (List Tok)
 | x :: r => if x = t then some r else none
 | [] => none
def startTok (x : Tok) : Bool := (x.kind == 1) || (x.kind == 2) || (x.kind == 3) || (x.kind == 4) || (x.kind == 5) || (x.kind == 7 && (x.text == [40] || x.text == [91] || x.text == [123]))
def starts : List Tok → Bool
 | x :: _ => startTok x
 | [] => false
def ends (c : Int) (n : Nat) : List Bool := (List.range n).map fun (i : Nat) => decide (((i : Int) + 1) % c = 0)
def plainN (t : Bytes) : Bool := !(t.length == 1) && !(t == sFrac) && !(t == sRoot) && !(t == sMatrix) && !(accents.contains t)
def groupAt : List Tok → Bool
 | x :: _ => decide (x = mk7 123)
 | [] => false
def colsOf : List (Nd × Bool) → Int
 | [] => 0
 | (_, b) :: l => if b then 1 else 1 + colsOf l
mutual
def pArg : Nat → List Tok → Option (Nd × List Tok)
 | f + 1, x :: r =>
  if x.kind = 1 ∨ (x.kind = 4 ∧ plainN x.text = true) then some (row [.mk 2 x.text 0 []], r)
  else if x.kind = 2 then some (row [.mk 3 x.text 0 []], r)
  else if x.kind = 3 then some (row [.mk 4 x.text 0 []], r)
  else if x = mk7 123 then (pRow f r).bind fun p => (expect (mk7 125) p.2).map fun r' => (row p.1, r')
  else none
 | _, _ => none
def pBase : Nat → List Tok → Option (List Nd × List Tok)
 | f + 1, x :: r =>
  if x.kind = 1 then some ([.mk 2 x.text 0 []], r)
  else if x.kind = 2 then some ([.mk 3 x.text 0 []], r)
  else if x.kind = 3 then some ([.mk 4 x.text 0 []], r)
  else if x.kind = 5 then (pArg f r).map fun p => ([.mk 11 x.text 0 [p.1]], p.2)
  else if x.kind = 4 then
   if x.text = sFrac then (pArg f r).bind fun p => (pArg f p.2).map fun q => ([.mk 5 [] 0 [p.1, q.1]], q.2)
   else if x.text = sRoot then
    match expect (mk7 91) r with
    | some r1 => (pRow f r1).bind fun p => (expect (mk7 93) p.2).bind fun r2 => (pArg f r2).map fun q => ([.mk 6 [] 0 [row p.1, q.1]], q.2)
    | none => (pArg f r).map fun q => ([.mk 6 [] 0 [row [], q.1]], q.2)
   else if x.text = sMatrix then (expect (mk7 123) r).bind fun r1 => (pCells f r1).bind fun p => (expect (mk7 125) p.2).bind fun r2 => if p.1.map (·.2) = ends (colsOf p.1) p.1.length then some ([.mk 12 [] (colsOf p.1) (p.1.map (·.1))], r2) else none
   else if accents.contains x.text then (pArg f r).map fun p => ([.mk 10 x.text 0 [p.1]], p.2)
   else if x.text.length = 1 then none else some ([.mk 2 x.text 0 []], r)
  else if x = mk7 40 then (pRow f r).bind fun p => (expect (mk7 41) p.2).map fun r' => ([.mk 11 [40, 41] 0 [row p.1]], r')
  else if x = mk7 91 then (pRow f r).bind fun p => (expect (mk7 93) p.2).map fun r' => ([.mk 11 [91, 93] 0 [row p.1]], r')
  else if x = mk7 123 then (pRow f r).bind fun p => (expect (mk7 125) p.2).map fun r' => (p.1, r')
  else none
 | _, _ => none
def pItem : Nat → List Tok → Option (Nd × List Tok)
 | f + 1, ts => (pBase f ts).bind fun p =>
  match expect (mk7 95) p.2 with
  | some r1 => (pArg f r1).bind fun q =>
   match expect (mk7 94) q.2 with
   | some r2 => (pArg f r2).map fun s => (.mk 9 [] 0 [row p.1, q.1, s.1], s.2)
   | none => some (.mk 7 [] 0 [row p.1, q.1], q.2)
  | none =>
   match expect (mk7 94) p.2 with
   | some r1 => (pArg f r1).map fun q => (.mk 8 [] 0 [row p.1, q.1], q.2)
   | none => match p.1 with
    | [u] => if groupAt ts then none else some (u, p.2)
    | _ => none
 | 0, _ => none
def pRow : Nat → List Tok → Option (List Nd × List Tok)
 | f + 1, ts => if starts ts then (pItem f ts).bind fun p => (pRow f p.2).map fun q => (p.1 :: q.1, q.2) else some ([], ts)
 | 0, _ => none
def pCells : Nat → List Tok → Option (List (Nd × Bool) × List Tok)
 | f + 1, ts => (pRow f ts).bind fun p =>
  match expect (mk7 38) p.2 with
  | some r => (pCells f r).map fun q => ((row p.1, false) :: q.1, q.2)
  | none =>
   match expect ⟨8, [92, 92]⟩ p.2 with
   | some r => (pCells f r).map fun q => ((row p.1, true) :: q.1, q.2)
   | none => some ([(row p.1, true)], p.2)
 | 0, _ => none
end
def noScript (r : List Tok) : Prop := expect (mk7 95) r = none ∧ expect (mk7 94) r = none
def stop (r : List Tok) : Prop := starts r = false ∧ noScript r
theorem expect_same (t : Tok) (r : List Tok) : expect t (t :: r) = some r := by simp [expect]
theorem expect_other (t x : Tok) (r : List Tok) (h : x ≠ t) : expect t (x :: r) = none := by simp [expect, h]
def Ev (p : Nat → Prop) : Prop := ∃ F, ∀ f, F ≤ f → p f
theorem Ev.of {p : Nat → Prop} (h : ∀ f, p f) : Ev p := ⟨0, fun f _ => h f⟩
theorem Ev.and {p q : Nat → Prop} (h : Ev p) (k : Ev q) : Ev fun f => p f ∧ q f := by
 obtain ⟨F, h⟩ := h
 obtain ⟨G, k⟩ := k
 exact ⟨max F G, fun f hf => ⟨h f (by omega), k f (by omega)⟩⟩
theorem Ev.mono {p q : Nat → Prop} (h : Ev p) (k : ∀ f, p f → q f) : Ev q := by
 obtain ⟨F, h⟩ := h
 exact ⟨F, fun f hf => k f (h f hf)⟩
theorem Ev.succ {p : Nat → Prop} (h : Ev fun f => p (f + 1)) : Ev p := by
 obtain ⟨F, h⟩ := h
 refine ⟨F + 1, fun f hf => ?_⟩
 obtain ⟨g, rfl⟩ : ∃ g, f = g + 1 := ⟨f - 1, by omega⟩
 exact h g (by omega)
theorem row_eq (a : Nd) (h1 : a.kind = 1) (h2 : form a = true) : a = row a.kids := by
 rw [form_eq, Bool.and_eq_true, Bool.and_eq_true] at h2
 obtain ⟨⟨h3, h4⟩, _⟩ := h2
 rw [h1] at h3 h4
 have h5 : a.text = [] := by
  unfold textOK at h3
  simpa using h3
 have h6 : a.cols = 0 := by
  unfold kidsOK at h4
  rw [if_neg (by decide)] at h4
  split at h4
  ·cases h4
  ·rename_i hc; simpa using hc
 have := Nd.eta a
 rw [h1, h5, h6] at this
 exact this
end Go.Proofs.YtncnoeoicaglaaaGreat.Tr
