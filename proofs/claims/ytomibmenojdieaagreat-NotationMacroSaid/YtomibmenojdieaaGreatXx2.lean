/- Part 2 of 42 of a proof; its texts, joined: WrO, PrM, NpM, NpS, PrD, PrE, PrF. No condition. -/
import Derived.Test.YtomibmenojdieaaGreatXx1
set_option maxRecDepth 100000
namespace Go.Proofs.YtomibmenojdieaaGreat.Lx
def flat : List (Bytes × Tok) → Bytes
 | [] => []
 | (s, t) :: l => s ++ (spell t ++ flat l)
def spaced : Option Tok → List (Bytes × Tok) → Prop
 | _, [] => True
 | o, (s, t) :: l => s.all (isB 1) = true ∧ TokOK t ∧ (s = [] → ∀ a, o = some a → join a t = false) ∧ spaced (some t) l
theorem runI_isB (l : Bytes) (k : Nat) : runI 1 l k = runLen 1 (l.drop k) := by
 unfold runI runLen
 have hp : (fun b : UInt8 => (cls b.toNat : Int) == 1) = isB 1 := by
  funext b
  unfold isB;rw [Bool.eq_iff_iff, beq_iff_eq, beq_iff_eq];omega
 rw [hp]
theorem spell_pos (t : Tok) (ht : TokOK t) : 0 < (spell t).length := by
 obtain ⟨c, y, e, _⟩ := spell_head t ht;rw [e]; simp
def tok (t : PTok) : Tok := ⟨t.kind, t.text⟩
theorem lexGo_ok (l : Bytes) : ∀ (f a : Nat), ∀ t ∈ (lexGo l f a).1, TokOK (tok t)
 | 0, a, t, ht => by simp [lexGo] at ht
 | f + 1, a, t, ht => by
  rw [lexGo] at ht;split at ht
  ·cases ht
  ·cases hn : next (l.drop (skip l a)) with
   | err i e => rw [hn] at ht; cases ht
   | ok t' n =>
    rw [hn] at ht
    rcases List.mem_cons.1 ht with rfl | h
    ·exact next_tokOK _ _ _ hn
    ·exact lexGo_ok l f _ t h
end Go.Proofs.YtomibmenojdieaaGreat.Lx
namespace Go.Proofs.YtomibmenojdieaaGreat.Tr
open Lx (Tok)
def mk7 (b : UInt8) : Tok := ⟨7, [b]⟩
def name (s : Bytes) : Tok := ⟨4, s⟩
def sFrac : Bytes := [102, 114, 97, 99]
def sRoot : Bytes := [114, 111, 111, 116]
def sMatrix : Bytes := [109, 97, 116, 114, 105, 120]
def leaf (n : Nd) : Bool := (n.kind == 2) || (n.kind == 3) || (n.kind == 4)
def scripted (n : Nd) : Bool := (n.kind == 7) || (n.kind == 8) || (n.kind == 9)
mutual
def itemT : Nd → List Tok
 | .mk k t c ks =>
  if k = 2 then [if t.length = 1 then ⟨1, t⟩ else ⟨4, t⟩]
  else if k = 3 then [⟨2, t⟩]
  else if k = 4 then [⟨3, t⟩]
  else match ks with
   | [a] =>
    if k = 10 then name t :: argT a
    else if k = 11 then (if t = [40, 41] ∨ t = [91, 93] then mk7 (t.headD 0) :: (rowT a.kids ++ [mk7 (t.getLastD 0)]) else ⟨5, t⟩ :: argT a)
    else if k = 12 then name sMatrix :: mk7 123 :: (cellsT c 0 [a] ++ [mk7 125])
    else []
   | [a, b] =>
    if k = 5 then name sFrac :: (argT a ++ argT b)
    else if k = 6 then name sRoot :: ((if a.kids = [] then [] else mk7 91 :: (rowT a.kids ++ [mk7 93])) ++ argT b)
    else if k = 7 then baseT a ++ mk7 95 :: argT b
    else if k = 8 then baseT a ++ mk7 94 :: argT b
    else if k = 12 then name sMatrix :: mk7 123 :: (cellsT c 0 [a, b] ++ [mk7 125])
    else []
   | [a, b, d] =>
    if k = 9 then baseT a ++ mk7 95 :: (argT b ++ mk7 94 :: argT d)
    else if k = 12 then name sMatrix :: mk7 123 :: (cellsT c 0 [a, b, d] ++ [mk7 125])
    else []
   | ks => if k = 12 then name sMatrix :: mk7 123 :: (cellsT c 0 ks ++ [mk7 125]) else []
 termination_by n => 2 * count n
 decreasing_by all_goals (simp only [count_kids, countL, Nd.kids]; omega)
def argT : Nd → List Tok
 | .mk _ _ _ ks => match ks with
  | [x] => if leaf x then itemT x else mk7 123 :: (rowT [x] ++ [mk7 125])
  | ks => mk7 123 :: (rowT ks ++ [mk7 125])
 termination_by n => 2 * count n + 1
 decreasing_by all_goals (simp only [count_kids, countL, Nd.kids]; omega)
def baseT : Nd → List Tok
 | .mk _ _ _ ks => match ks with
  | [x] => if scripted x then mk7 123 :: (rowT [x] ++ [mk7 125]) else itemT x
  | ks => mk7 123 :: (rowT ks ++ [mk7 125])
 termination_by n => 2 * count n + 1
 decreasing_by all_goals (simp only [count_kids, countL, Nd.kids]; omega)
def rowT : List Nd → List Tok
 | [] => []
 | n :: ns => itemT n ++ rowT ns
 termination_by ns => 2 * countL ns + 1
 decreasing_by all_goals (simp only [count_kids, countL, Nd.kids]; omega)
def cellsT (c : Int) : Nat → List Nd → List Tok
 | _, [] => []
 | i, n :: ns => (if i = 0 then [] else if (i : Int) % c = 0 then [⟨8, [92, 92]⟩] else [mk7 38]) ++ (rowT n.kids ++ cellsT c (i + 1) ns)
 termination_by _ ns => 2 * countL ns + 1
 decreasing_by all_goals (simp only [count_kids, countL, Nd.kids]; omega)
end
end Go.Proofs.YtomibmenojdieaaGreat.Tr
namespace Go.Proofs.YtomibmenojdieaaGreat.Np
open Lx (PTok)
open Tr (Nd sFrac sRoot sMatrix)
inductive R (α : Type) where
 | ok (a : α) (r : List PTok)
 | err (i e : Nat)
 | out
def R.bind {α β : Type} (x : R α) (k : α → List PTok → R β) : R β :=
 match x with
 | .ok a r => k a r
 | .err i e => .err i e
 | .out => .out
def R.map {α β : Type} (x : R α) (k : α → β) : R β := x.bind fun a r => .ok (k a) r
def place (en : Nat) : List PTok → Nat
 | [] => en
 | t :: _ => t.from_
def isM (b : UInt8) : List PTok → Bool
 | [] => false
 | t :: _ => (t.kind == 7) && (t.text == [b])
def refuse {α : Type} (en : Nat) (l : List PTok) : R α := .err (place en l) 3
def leafOf (t : PTok) : Option Nd :=
 if t.kind = 1 then some (.mk 2 t.text 0 [])
 else if t.kind = 2 then some (.mk 3 t.text 0 [])
 else if t.kind = 3 then some (.mk 4 t.text 0 [])
 else none
def slot (l : List Nd) : Nd := .mk 1 [] 0 l
def accented (t : List UInt8) : Bool := Tr.accents.contains t
def special (t : List UInt8) : Bool := (t == sFrac) || (t == sRoot) || (t == sMatrix) || accented t
def isBreak : List PTok → Bool
 | [] => false
 | t :: _ => t.kind == 8
def colN (b c n : Nat) : Nat := if b = 0 then n else c
def stops (l : List PTok) : Bool := isBreak l || isM 41 l || isM 93 l || isM 125 l || isM 38 l
def scripts (group : Bool) (en : Nat) (base : List Nd) (sub sup : Option Nd) (l : List PTok) : R (List Nd) :=
 match sub, sup with
 | some a, some b => .ok [.mk 9 [] 0 [slot base, a, b]] l
 | none, some b => .ok [.mk 8 [] 0 [slot base, b]] l
 | some a, none => .ok [.mk 7 [] 0 [slot base, a]] l
 | none, none => if group then refuse en l else .ok base l
def plainName (t : PTok) (r : List PTok) : R (List Nd) := if t.text.length = 1 then .err t.from_ 11 else .ok [.mk 2 t.text 0 []] r
mutual
def pRow (en : Nat) : Nat → List Nat → List PTok → R (List Nd)
 | 0, _, _ => .out
 | f + 1, op, l =>
  if l.isEmpty ∧ op ≠ [] then .err (op.getLastD 0) 12
  else if l.isEmpty ∨ stops l = true then .ok [] l
  else (pItem en f op l).bind fun more r => (pRow en f op r).map fun items => more ++ items
def pIn (en : Nat) : Nat → UInt8 → List Nat → List PTok → R (List Nd)
 | 0, _, _, _ => .out
 | f + 1, b, op, l => (pRow en f (op ++ [place en l]) l.tail).bind fun items r => if isM b r then .ok items r.tail else refuse en r
def pScript (en : Nat) : Nat → UInt8 → List Nat → List PTok → R (Option Nd)
 | 0, _, _, _ => .out
 | f + 1, b, op, l => if isM b l then (pArg en f op l.tail).map some else .ok none l
def pItem (en : Nat) : Nat → List Nat → List PTok → R (List Nd)
 | 0, _, _ => .out
 | f + 1, op, l => (pPrim en f op l).bind fun base r => (pScript en f 95 op r).bind fun sub r => (pScript en f 94 op r).bind fun sup r =>
  if sup.isSome && sub.isNone then (pScript en f 95 op r).bind fun sub r => scripts (isM 123 l) en base sub sup r
  else scripts (isM 123 l) en base sub sup r
def pPrim (en : Nat) : Nat → List Nat → List PTok → R (List Nd)
 | 0, _, _ => .out
 | f + 1, op, l =>
  match l with
  | [] => refuse en l
  | t :: r =>
   match leafOf t with
   | some x => .ok [x] r
   | none =>
    if t.kind = 4 then pName en f op t r
    else if t.kind = 5 then (pArgs en f 1 op r).map fun ks => [.mk 11 t.text 0 ks]
    else if isM 40 l then (pIn en f 41 op l).map fun items => [.mk 11 [40, 41] 0 [slot items]]
    else if isM 91 l then (pIn en f 93 op l).map fun items => [.mk 11 [91, 93] 0 [slot items]]
    else if isM 123 l then pIn en f 125 op l
    else refuse en l
def pArgs (en : Nat) : Nat → Nat → List Nat → List PTok → R (List Nd)
 | 0, _, _, _ => .out
 | _ + 1, 0, _, l => .ok [] l
 | f + 1, n + 1, op, l => (pArg en f op l).bind fun a r => (pArgs en f n op r).map fun ks => a :: ks
def pName (en : Nat) : Nat → List Nat → PTok → List PTok → R (List Nd)
 | 0, _, _, _ => .out
 | f + 1, op, t, r =>
  if t.text = sFrac then (pArgs en f 2 op r).map fun ks => [.mk 5 [] 0 ks]
  else if t.text = sRoot then
   if isM 91 r then (pIn en f 93 op r).bind fun d r' => (pArgs en f 1 op r').map fun ks => [.mk 6 [] 0 (slot d :: ks)]
   else (pArgs en f 1 op r).map fun ks => [.mk 6 [] 0 (slot [] :: ks)]
  else if t.text = sMatrix then
   if isM 123 r then (pCells en f (op ++ [place en r]) [] 0 0 r.tail).map fun p => [.mk 12 [] p.2 p.1] else refuse en r
  else if accented t.text then (pArgs en f 1 op r).map fun ks => [.mk 10 t.text 0 ks]
  else plainName t r
def pCells (en : Nat) : Nat → List Nat → List Nd → Nat → Nat → List PTok → R (List Nd × Nat)
 | 0, _, _, _, _, _ => .out
 | f + 1, op, ks, b, c, l => (pRow en f op l).bind fun items r =>
  if isM 38 r then pCells en f op (ks ++ [slot items]) b c r.tail
  else if isBreak r = false ∧ isM 125 r = false then refuse en r
  else if ks.length + 1 - b ≠ (colN b c (ks.length + 1)) then .err (place en r) 3
  else if isBreak r = false then .ok (ks ++ [slot items], colN b c (ks.length + 1)) r.tail
  else pCells en f op (ks ++ [slot items]) (ks.length + 1) (colN b c (ks.length + 1)) r.tail
def pArg (en : Nat) : Nat → List Nat → List PTok → R Nd
 | 0, _, _ => .out
 | f + 1, op, l =>
  match l with
  | [] => refuse en l
  | t :: r =>
   match leafOf t with
   | some x => .ok (slot [x]) r
   | none =>
    if isM 123 l then (pIn en f 125 op l).map slot
    else if t.kind = 4 ∧ special t.text = false then (plainName t r).map slot
    else refuse en l
end
def parseT (en : Nat) (l : List PTok) : R (List Nd) :=
 (pRow en (8 * l.length + 8) [] l).bind fun items r => if r.isEmpty then .ok items r else refuse en r
end Go.Proofs.YtomibmenojdieaaGreat.Np
namespace Go.Proofs.YtomibmenojdieaaGreat.Np
open Lx (PTok)
open Tr (Nd)
def Al (l l' : List PTok) : Prop := l.map Lx.tok = l'.map Lx.tok
def Sim {α : Type} (x y : R α) : Prop :=
 match x, y with
 | .ok a r, .ok a' r' => a = a' ∧ Al r r'
 | .err _ e, .err _ e' => e = e'
 | .out, .out => True
 | _, _ => False
theorem Sim.bind {α β : Type} {x y : R α} {k k' : α → List PTok → R β} (h : Sim x y) (hk : ∀ a r r', Al r r' → Sim (k a r) (k' a r')) : Sim (x.bind k) (y.bind k') := by
 cases x <;> cases y <;> first | exact h.elim | skip
 ·obtain ⟨rfl, hr⟩ := h
  exact hk _ _ _ hr
 ·exact h
 ·trivial
theorem Sim.map {α β : Type} {x y : R α} {k : α → β} (h : Sim x y) : Sim (x.map k) (y.map k) := h.bind fun _ _ _ hr => ⟨rfl, hr⟩
theorem Sim.refuse {α : Type} (en en' : Nat) (l l' : List PTok) : Sim (refuse en l : R α) (refuse en' l') := rfl
theorem Al.nil {l' : List PTok} (h : Al [] l') : l' = [] := by
 cases l' with
 | nil => rfl
 | cons t r => cases h
theorem Al.cons {t : PTok} {r l' : List PTok} (h : Al (t :: r) l') : ∃ t' r', l' = t' :: r' ∧ t.kind = t'.kind ∧ t.text = t'.text ∧ Al r r' := by
 cases l' with
 | nil => cases h
 | cons t' r' =>
  have h1 := List.cons.inj (show Lx.tok t :: r.map Lx.tok = Lx.tok t' :: r'.map Lx.tok from h);exact ⟨t', r', rfl, congrArg Lx.Tok.kind h1.1, congrArg Lx.Tok.text h1.1, h1.2⟩
theorem Al.tail {l l' : List PTok} (h : Al l l') : Al l.tail l'.tail := by
 cases l with
 | nil => rw [h.nil]; rfl
 | cons t r => obtain ⟨t', r', rfl, _, _, h⟩ := h.cons; exact h
theorem Al.isM {l l' : List PTok} (h : Al l l') (b : UInt8) : isM b l = isM b l' := by
 cases l with
 | nil => rw [h.nil]
 | cons t r => obtain ⟨t', r', rfl, h1, h2, h⟩ := h.cons; simp only [Np.isM, h1, h2]
theorem Al.isBreak {l l' : List PTok} (h : Al l l') : isBreak l = isBreak l' := by
 cases l with
 | nil => rw [h.nil]
 | cons t r => obtain ⟨t', r', rfl, h1, h2, h⟩ := h.cons; simp only [Np.isBreak, h1]
theorem Al.isEmpty {l l' : List PTok} (h : Al l l') : l.isEmpty = l'.isEmpty := by
 cases l with
 | nil => rw [h.nil]
 | cons t r => obtain ⟨t', r', rfl, h1, h2, h⟩ := h.cons; rfl
theorem Al.stops {l l' : List PTok} (h : Al l l') : stops l = stops l' := by
 unfold Np.stops;rw [h.isBreak, h.isM, h.isM, h.isM, h.isM]
theorem leafOf_al {t t' : PTok} (h1 : t.kind = t'.kind) (h2 : t.text = t'.text) : leafOf t = leafOf t' := by
 unfold leafOf;rw [h1, h2]
theorem Sim.scripts (g : Bool) (en en' : Nat) (b : List Nd) (x y : Option Nd) {l l' : List PTok} (h : Al l l') : Sim (scripts g en b x y l) (scripts g en' b x y l') := by
 unfold Np.scripts;split
 ·exact ⟨rfl, h⟩
 ·exact ⟨rfl, h⟩
 ·exact ⟨rfl, h⟩
 ·split
  ·rfl
  ·exact ⟨rfl, h⟩
theorem Sim.plainName {t t' : PTok} {r r' : List PTok} (h2 : t.text = t'.text) (h : Al r r') : Sim (plainName t r) (plainName t' r') := by
 unfold Np.plainName;rw [h2];split
 ·rfl
 ·exact ⟨rfl, h⟩
structure Alike (en en' f : Nat) : Prop where
 row : ∀ op op' l l', Al l l' → (op = [] ↔ op' = []) → Sim (pRow en f op l) (pRow en' f op' l')
 within : ∀ b op op' l l', Al l l' → Sim (pIn en f b op l) (pIn en' f b op' l')
 arg : ∀ op op' l l', Al l l' → Sim (pArg en f op l) (pArg en' f op' l')
 args : ∀ n op op' l l', Al l l' → Sim (pArgs en f n op l) (pArgs en' f n op' l')
 script : ∀ b op op' l l', Al l l' → Sim (pScript en f b op l) (pScript en' f b op' l')
 item : ∀ op op' l l', Al l l' → Sim (pItem en f op l) (pItem en' f op' l')
 prim : ∀ op op' l l', Al l l' → Sim (pPrim en f op l) (pPrim en' f op' l')
 name : ∀ op op' t t' r r', t.text = t'.text → Al r r' → Sim (pName en f op t r) (pName en' f op' t' r')
 cells : ∀ op op' ks b c l l', Al l l' → (op = [] ↔ op' = []) → Sim (pCells en f op ks b c l) (pCells en' f op' ks b c l')
end Go.Proofs.YtomibmenojdieaaGreat.Np
namespace Go.Proofs.YtomibmenojdieaaGreat.Tr
open Lx (Tok)
def row (ks : List Nd) : Nd := .mk 1 [] 0 ks
def expect (t : Tok) : List Tok → Option (List Tok)
 | x :: r => if x = t then some r else none
 | [] => none
def startTok (x : Tok) : Bool := (x.kind == 1) || (x.kind == 2) || (x.kind == 3) || (x.kind == 4) || (x.kind == 5) || (x.kind == 7 && (x.text == [40] || x.text == [91] || x.text == [123]))
def starts : List Tok → Bool
 | x :: _ => startTok x
 | [] => false
def ends (c : Int) (n : Nat) : List Bool := (List.range n).map fun (i : Nat) => decide (((i : Int) + 1) % c = 0)
def plainN (t : Bytes) : Bool := !(t.length == 1) && !(t == sFrac) && !(t == sRoot) && !(t == sMatrix) && !(accents.contains t)
def groupAt : List Tok → Bool
 | x :: _ => decide (x = mk7 123)
 | [] => false
def colsOf : List (Nd × Bool) → Int
 | [] => 0
 | (_, b) :: l => if b then 1 else 1 + colsOf l
mutual
def pArg : Nat → List Tok → Option (Nd × List Tok)
 | f + 1, x :: r =>
  if x.kind = 1 ∨ (x.kind = 4 ∧ plainN x.text = true) then some (row [.mk 2 x.text 0 []], r)
  else if x.kind = 2 then some (row [.mk 3 x.text 0 []], r)
  else if x.kind = 3 then some (row [.mk 4 x.text 0 []], r)
  else if x = mk7 123 then (pRow f r).bind fun p => (expect (mk7 125) p.2).map fun r' => (row p.1, r')
  else none
 | _, _ => none
def pBase : Nat → List Tok → Option (List Nd × List Tok)
 | f + 1, x :: r =>
  if x.kind = 1 then some ([.mk 2 x.text 0 []], r)
  else if x.kind = 2 then some ([.mk 3 x.text 0 []], r)
  else if x.kind = 3 then some ([.mk 4 x.text 0 []], r)
  else if x.kind = 5 then (pArg f r).map fun p => ([.mk 11 x.text 0 [p.1]], p.2)
  else if x.kind = 4 then
   if x.text = sFrac then (pArg f r).bind fun p => (pArg f p.2).map fun q => ([.mk 5 [] 0 [p.1, q.1]], q.2)
   else if x.text = sRoot then
    match expect (mk7 91) r with
    | some r1 => (pRow f r1).bind fun p => (expect (mk7 93) p.2).bind fun r2 => (pArg f r2).map fun q => ([.mk 6 [] 0 [row p.1, q.1]], q.2)
    | none => (pArg f r).map fun q => ([.mk 6 [] 0 [row [], q.1]], q.2)
   else if x.text = sMatrix then (expect (mk7 123) r).bind fun r1 => (pCells f r1).bind fun p => (expect (mk7 125) p.2).bind fun r2 => if p.1.map (·.2) = ends (colsOf p.1) p.1.length then some ([.mk 12 [] (colsOf p.1) (p.1.map (·.1))], r2) else none
   else if accents.contains x.text then (pArg f r).map fun p => ([.mk 10 x.text 0 [p.1]], p.2)
   else if x.text.length = 1 then none else some ([.mk 2 x.text 0 []], r)
  else if x = mk7 40 then (pRow f r).bind fun p => (expect (mk7 41) p.2).map fun r' => ([.mk 11 [40, 41] 0 [row p.1]], r')
  else if x = mk7 91 then (pRow f r).bind fun p => (expect (mk7 93) p.2).map fun r' => ([.mk 11 [91, 93] 0 [row p.1]], r')
  else if x = mk7 123 then (pRow f r).bind fun p => (expect (mk7 125) p.2).map fun r' => (p.1, r')
  else none
 | _, _ => none
def pItem : Nat → List Tok → Option (Nd × List Tok)
 | f + 1, ts => (pBase f ts).bind fun p =>
  match expect (mk7 95) p.2 with
  | some r1 => (pArg f r1).bind fun q =>
   match expect (mk7 94) q.2 with
   | some r2 => (pArg f r2).map fun s => (.mk 9 [] 0 [row p.1, q.1, s.1], s.2)
   | none => some (.mk 7 [] 0 [row p.1, q.1], q.2)
  | none =>
   match expect (mk7 94) p.2 with
   | some r1 => (pArg f r1).map fun q => (.mk 8 [] 0 [row p.1, q.1], q.2)
   | none => match p.1 with
    | [u] => if groupAt ts then none else some (u, p.2)
    | _ => none
 | 0, _ => none
def pRow : Nat → List Tok → Option (List Nd × List Tok)
 | f + 1, ts => if starts ts then (pItem f ts).bind fun p => (pRow f p.2).map fun q => (p.1 :: q.1, q.2) else some ([], ts)
 | 0, _ => none
def pCells : Nat → List Tok → Option (List (Nd × Bool) × List Tok)
 | f + 1, ts => (pRow f ts).bind fun p =>
  match expect (mk7 38) p.2 with
  | some r => (pCells f r).map fun q => ((row p.1, false) :: q.1, q.2)
  | none =>
   match expect ⟨8, [92, 92]⟩ p.2 with
   | some r => (pCells f r).map fun q => ((row p.1, true) :: q.1, q.2)
   | none => some ([(row p.1, true)], p.2)
 | 0, _ => none
end
def noScript (r : List Tok) : Prop := expect (mk7 95) r = none ∧ expect (mk7 94) r = none
def stop (r : List Tok) : Prop := starts r = false ∧ noScript r
theorem expect_same (t : Tok) (r : List Tok) : expect t (t :: r) = some r := by simp [expect]
theorem expect_other (t x : Tok) (r : List Tok) (h : x ≠ t) : expect t (x :: r) = none := by simp [expect, h]
def Ev (p : Nat → Prop) : Prop := ∃ F, ∀ f, F ≤ f → p f
theorem Ev.of {p : Nat → Prop} (h : ∀ f, p f) : Ev p := ⟨0, fun f _ => h f⟩
theorem Ev.and {p q : Nat → Prop} (h : Ev p) (k : Ev q) : Ev fun f => p f ∧ q f := by
 obtain ⟨F, h⟩ := h;obtain ⟨G, k⟩ := k;exact ⟨max F G, fun f hf => ⟨h f (by omega), k f (by omega)⟩⟩
theorem Ev.mono {p q : Nat → Prop} (h : Ev p) (k : ∀ f, p f → q f) : Ev q := by
 obtain ⟨F, h⟩ := h;exact ⟨F, fun f hf => k f (h f hf)⟩
theorem Ev.succ {p : Nat → Prop} (h : Ev fun f => p (f + 1)) : Ev p := by
 obtain ⟨F, h⟩ := h;refine ⟨F + 1, fun f hf => ?_⟩;obtain ⟨g, rfl⟩ : ∃ g, f = g + 1 := ⟨f - 1, by omega⟩;exact h g (by omega)
theorem row_eq (a : Nd) (h1 : a.kind = 1) (h2 : form a = true) : a = row a.kids := by
 rw [form_eq, Bool.and_eq_true, Bool.and_eq_true] at h2;obtain ⟨⟨h3, h4⟩, _⟩ := h2;rw [h1] at h3 h4
 have h5 : a.text = [] := by
  unfold textOK at h3;simpa using h3
 have h6 : a.cols = 0 := by
  unfold kidsOK at h4;rw [if_neg (by decide)] at h4;split at h4
  ·cases h4
  ·rename_i hc; simpa using hc
 have := Nd.eta a;rw [h1, h5, h6] at this;exact this
end Go.Proofs.YtomibmenojdieaaGreat.Tr
namespace Go.Proofs.YtomibmenojdieaaGreat.Tr
open Lx (Tok)
def IsRow (a : Nd) : Prop := a.kind = 1 ∧ form a = true
inductive View : Nd → Prop
 | sym (t : Bytes) (h : symbol t = true) : View (.mk 2 t 0 [])
 | num (t : Bytes) (h : isNum t = true) : View (.mk 3 t 0 [])
 | text (t : Bytes) (h : (decide (t.length ≤ 200) && printable t) = true) : View (.mk 4 t 0 [])
 | frac (a b : Nd) (ha : IsRow a) (hb : IsRow b) : View (.mk 5 [] 0 [a, b])
 | root (a b : Nd) (ha : IsRow a) (hb : IsRow b) : View (.mk 6 [] 0 [a, b])
 | sub (a b : Nd) (ha : IsRow a) (hb : IsRow b) : View (.mk 7 [] 0 [a, b])
 | sup (a b : Nd) (ha : IsRow a) (hb : IsRow b) : View (.mk 8 [] 0 [a, b])
 | both (a b d : Nd) (ha : IsRow a) (hb : IsRow b) (hd : IsRow d) : View (.mk 9 [] 0 [a, b, d])
 | accent (t : Bytes) (a : Nd) (h : accents.contains t = true) (ha : IsRow a) : View (.mk 10 t 0 [a])
 | fence (t : Bytes) (a : Nd) (h : Tr.fence t = true) (ha : IsRow a) : View (.mk 11 t 0 [a])
 | matrix (c : Int) (ks : List Nd) (hc : 1 ≤ c) (hn : 1 ≤ ks.length) (hm : (ks.length : Int) % c = 0) (h : ∀ k ∈ ks, IsRow k) : View (.mk 12 [] c ks)
theorem rows_of (l : List Nd) (h : formL false l = true) : ∀ x ∈ l, IsRow x := by
 induction l with
 | nil => intro x hx; cases hx
 | cons y l ih =>
  rw [formL, Bool.and_eq_true, Bool.and_eq_true] at h;obtain ⟨⟨h1, h2⟩, h3⟩ := h;intro x hx
  rcases List.mem_cons.1 hx with rfl | hx
  ·exact ⟨by simpa using h1, h2⟩
  ·exact ih h3 x hx
theorem items_of (l : List Nd) (h : formL true l = true) : ∀ x ∈ l, x.kind ≠ 1 ∧ form x = true := by
 induction l with
 | nil => intro x hx; cases hx
 | cons y l ih =>
  rw [formL, Bool.and_eq_true, Bool.and_eq_true] at h;obtain ⟨⟨h1, h2⟩, h3⟩ := h;intro x hx
  rcases List.mem_cons.1 hx with rfl | hx
  ·exact ⟨by simpa using h1, h2⟩
  ·exact ih h3 x hx
theorem IsRow.items {a : Nd} (h : IsRow a) : ∀ x ∈ a.kids, x.kind ≠ 1 ∧ form x = true := by
 obtain ⟨h1, h2⟩ := h;rw [form_eq, h1, Bool.and_eq_true] at h2;exact items_of _ h2.2
theorem view_of (n : Nd) (hf : form n = true) (hk : n.kind ≠ 1) : View n := by
 obtain ⟨k, t, c, ks⟩ := n;rw [form, Bool.and_eq_true, Bool.and_eq_true] at hf;obtain ⟨⟨h1, h2⟩, h3⟩ := hf;have hk1 : (k == 1) = false := by rw [beq_eq_false_iff_ne]; exact hk
 rw [hk1] at h3;have hrows := rows_of ks h3;unfold kidsOK at h2;unfold textOK at h1
 by_cases e12 : k = 12
 ·subst e12
  simp at h1 h2
  subst h1;obtain ⟨⟨⟨⟨h4, h5⟩, h6⟩, h7⟩, h8⟩ := h2;exact .matrix c ks h4 h6 (by omega) hrows
 ·rw [if_neg e12] at h2
  by_cases hc : c = 0
  ·subst hc
   simp only [ne_eq, not_true_eq_false, if_false] at h2;have hk' : k ≠ 1 := hk;rw [if_neg hk'] at h2
   by_cases e2 : k = 2
   ·subst e2
    simp at h1 h2
    subst h2;exact .sym t h1
   ·by_cases e3 : k = 3
    ·subst e3
     simp at h1 h2
     subst h2;exact .num t h1
    ·by_cases e4 : k = 4
     ·subst e4
      simp at h2
      subst h2;rw [if_neg (by decide), if_neg (by decide), if_pos rfl] at h1;exact .text t h1
     ·rw [if_neg (by omega)] at h2
      rw [if_neg e2, if_neg e3, if_neg e4] at h1
      by_cases e10 : k = 10
      ·subst e10
       simp only [if_true] at h1;rw [if_neg (by decide), if_neg (by decide), if_pos (by decide)] at h2
       match ks, h2, hrows with
       | [a], _, hr => exact .accent t a h1 (hr a (by simp))
      ·by_cases e11 : k = 11
       ·subst e11
        rw [if_neg (by decide), if_pos rfl] at h1;rw [if_neg (by decide), if_neg (by decide), if_pos (by decide)] at h2
        match ks, h2, hrows with
        | [a], _, hr => exact .fence t a h1 (hr a (by simp))
       ·rw [if_neg e10, if_neg e11] at h1
        have ht : t = [] := by simpa using h1
        subst ht
        by_cases e9 : k = 9
        ·subst e9
         rw [if_neg (by decide), if_pos rfl] at h2
         match ks, h2, hrows with
         | [a, b, d], _, hr => exact .both a b d (hr a (by simp)) (hr b (by simp)) (hr d (by simp))
        ·by_cases e58 : k = 5 ∨ k = 6 ∨ k = 7 ∨ k = 8
         ·rw [if_pos e58] at h2
          match ks, h2, hrows with
          | [a, b], _, hr =>
           have ha := hr a (by simp);have hb := hr b (by simp)
           rcases e58 with rfl | rfl | rfl | rfl
           ·exact .frac a b ha hb
           ·exact .root a b ha hb
           ·exact .sub a b ha hb
           ·exact .sup a b ha hb
         ·rw [if_neg e58, if_neg e9, if_neg (by omega)] at h2
          cases h2
  ·rw [if_pos hc] at h2; cases h2
end Go.Proofs.YtomibmenojdieaaGreat.Tr
namespace Go.Proofs.YtomibmenojdieaaGreat.Tr
open Lx (Tok)
theorem itemT_sym (t : Bytes) : itemT (.mk 2 t 0 []) = [if t.length = 1 then ⟨1, t⟩ else ⟨4, t⟩] := by rw [itemT] <;> first | rfl | (intros; simp_all)
theorem itemT_num (t : Bytes) : itemT (.mk 3 t 0 []) = [⟨2, t⟩] := by rw [itemT] <;> first | rfl | (intros; simp_all)
theorem itemT_text (t : Bytes) : itemT (.mk 4 t 0 []) = [⟨3, t⟩] := by rw [itemT] <;> first | rfl | (intros; simp_all)
theorem itemT_frac (a b : Nd) : itemT (.mk 5 [] 0 [a, b]) = name sFrac :: (argT a ++ argT b) := by rw [itemT] <;> first | rfl | (intros; simp_all)
theorem itemT_root (a b : Nd) : itemT (.mk 6 [] 0 [a, b]) = name sRoot :: ((if a.kids = [] then [] else mk7 91 :: (rowT a.kids ++ [mk7 93])) ++ argT b) := by rw [itemT] <;> first | rfl | (intros; simp_all)
theorem itemT_sub (a b : Nd) : itemT (.mk 7 [] 0 [a, b]) = baseT a ++ mk7 95 :: argT b := by rw [itemT] <;> first | rfl | (intros; simp_all)
theorem itemT_sup (a b : Nd) : itemT (.mk 8 [] 0 [a, b]) = baseT a ++ mk7 94 :: argT b := by rw [itemT] <;> first | rfl | (intros; simp_all)
theorem itemT_both (a b d : Nd) : itemT (.mk 9 [] 0 [a, b, d]) = baseT a ++ mk7 95 :: (argT b ++ mk7 94 :: argT d) := by rw [itemT] <;> first | rfl | (intros; simp_all)
theorem itemT_accent (t : Bytes) (a : Nd) : itemT (.mk 10 t 0 [a]) = name t :: argT a := by rw [itemT] <;> first | rfl | (intros; simp_all)
theorem itemT_fence (t : Bytes) (a : Nd) : itemT (.mk 11 t 0 [a]) = if t = [40, 41] ∨ t = [91, 93] then mk7 (t.headD 0) :: (rowT a.kids ++ [mk7 (t.getLastD 0)]) else ⟨5, t⟩ :: argT a := by rw [itemT] <;> first | rfl | (intros; simp_all)
theorem itemT_matrix (c : Int) (ks : List Nd) (h : ks ≠ []) : itemT (.mk 12 [] c ks) = name sMatrix :: mk7 123 :: (cellsT c 0 ks ++ [mk7 125]) := by
 match ks, h with
 | [a], _ => rw [itemT] <;> first | rfl | (intros; simp_all)
 | [a, b], _ => rw [itemT] <;> first | rfl | (intros; simp_all)
 | [a, b, d], _ => rw [itemT] <;> first | rfl | (intros; simp_all)
 | a :: b :: d :: e :: l, _ => rw [itemT] <;> first | rfl | (intros; simp_all)
theorem argT_eq (a : Nd) : argT a = match a.kids with | [x] => if leaf x then itemT x else mk7 123 :: (rowT [x] ++ [mk7 125]) | ks => mk7 123 :: (rowT ks ++ [mk7 125]) := by
 obtain ⟨k, t, c, ks⟩ := a
 match ks with
 | [] => rw [argT] <;> first | rfl | (intros; simp_all)
 | [x] => rw [argT]; rfl
 | x :: y :: l => rw [argT] <;> first | rfl | (intros; simp_all)
theorem baseT_eq (a : Nd) : baseT a = match a.kids with | [x] => if scripted x then mk7 123 :: (rowT [x] ++ [mk7 125]) else itemT x | ks => mk7 123 :: (rowT ks ++ [mk7 125]) := by
 obtain ⟨k, t, c, ks⟩ := a
 match ks with
 | [] => rw [baseT] <;> first | rfl | (intros; simp_all)
 | [x] => rw [baseT]; rfl
 | x :: y :: l => rw [baseT] <;> first | rfl | (intros; simp_all)
theorem rowT_cons (n : Nd) (ns : List Nd) : rowT (n :: ns) = itemT n ++ rowT ns := by rw [rowT]
theorem rowT_nil : rowT [] = [] := by rw [rowT]
theorem start_noScript (x : Tok) (r : List Tok) (h : startTok x = true) : noScript (x :: r) := by
 refine ⟨expect_other _ _ _ ?_, expect_other _ _ _ ?_⟩ <;> (rintro rfl; revert h; decide)
theorem IsRow.views {a : Nd} (h : IsRow a) : ∀ x ∈ a.kids, View x := fun x hx => view_of x (h.items x hx).2 (h.items x hx).1
theorem base_start (a : Nd) (ha : IsRow a) (ih : ∀ x ∈ a.kids, View x → ∃ t r, itemT x = t :: r ∧ startTok t = true) : ∃ t r, baseT a = t :: r ∧ startTok t = true := by
 rw [baseT_eq];have hv := ha.views;split
 ·rename_i x hx
  split
  ·exact ⟨mk7 123, _, rfl, rfl⟩
  ·exact ih x (by rw [hx]; simp) (hv x (by rw [hx]; simp))
 ·exact ⟨mk7 123, _, rfl, rfl⟩
theorem item_start (n : Nd) : View n → ∃ t r, itemT n = t :: r ∧ startTok t = true := by
 have : ∀ m n, count n ≤ m → View n → ∃ t r, itemT n = t :: r ∧ startTok t = true := by
  intro m
  induction m with
  | zero => intro n h; have := count_pos n; omega
  | succ m ih =>
   intro n hc v
   have hb : ∀ (k : Int) (t : Bytes) (c : Int) (a : Nd) (l : List Nd), n = .mk k t c (a :: l) → IsRow a → ∃ t r, baseT a = t :: r ∧ startTok t = true := fun k t c a l e ha => base_start a ha fun x hx vx => ih x (by
    have h1 := count_mem hx;have h2 := count_kids a;rw [e, count, countL] at hc;omega) vx
   cases v with
   | sym t h => rw [itemT_sym]; by_cases hl : t.length = 1 <;> simp only [hl, if_true, if_false] <;> exact ⟨_, _, rfl, rfl⟩
   | num t h => rw [itemT_num]; exact ⟨_, _, rfl, rfl⟩
   | text t h => rw [itemT_text]; exact ⟨_, _, rfl, rfl⟩
   | frac a b ha hb => rw [itemT_frac]; exact ⟨_, _, rfl, rfl⟩
   | root a b ha hb => rw [itemT_root]; exact ⟨_, _, rfl, rfl⟩
   | sub a b ha hb' =>
    rw [itemT_sub];obtain ⟨x, r, e, h⟩ := hb _ _ _ a _ rfl ha;rw [e]; exact ⟨x, _, rfl, h⟩
   | sup a b ha hb' =>
    rw [itemT_sup];obtain ⟨x, r, e, h⟩ := hb _ _ _ a _ rfl ha;rw [e]; exact ⟨x, _, rfl, h⟩
   | both a b d ha hb' hd =>
    rw [itemT_both];obtain ⟨x, r, e, h⟩ := hb _ _ _ a _ rfl ha;rw [e]; exact ⟨x, _, rfl, h⟩
   | accent t a h ha => rw [itemT_accent]; exact ⟨_, _, rfl, rfl⟩
   | fence t a h ha =>
    rw [itemT_fence];split
    ·rename_i ht
     rcases ht with rfl | rfl <;> exact ⟨_, _, rfl, rfl⟩
    ·exact ⟨_, _, rfl, rfl⟩
   | matrix c ks hc hn hm h =>
    rw [itemT_matrix c ks (by rintro rfl; simp at hn)]; exact ⟨_, _, rfl, rfl⟩
 exact this _ n (Nat.le_refl _)
theorem row_noScript (ks : List Nd) (hk : ∀ x ∈ ks, View x) (r : List Tok) (hr : noScript r) : noScript (rowT ks ++ r) := by
 cases ks with
 | nil => rw [rowT_nil]; exact hr
 | cons x ks =>
  obtain ⟨t, r', e, h⟩ := item_start x (hk x (by simp));rw [rowT_cons, e];exact start_noScript t _ h
structure PU (m : Nat) : Prop where
 item : ∀ n, count n ≤ m → View n → ∀ r, noScript r → Ev fun f => pItem f (itemT n ++ r) = some (n, r)
 base : ∀ n, count n ≤ m → View n → scripted n = false → ∀ r, Ev fun f => pBase f (itemT n ++ r) = some ([n], r)
theorem PU.row {m : Nat} (h : PU m) : ∀ ks, (∀ x ∈ ks, View x ∧ count x ≤ m) → ∀ r, stop r → Ev fun f => pRow f (rowT ks ++ r) = some (ks, r)
 | [], _, r, hr => Ev.succ (Ev.of fun f => by rw [rowT_nil, List.nil_append, pRow, if_neg (by rw [hr.1]; decide)])
 | x :: ks, hk, r, hr => by
  obtain ⟨hv, hc⟩ := hk x (by simp);have ih := PU.row h ks (fun y hy => hk y (by simp [hy])) r hr;have hns : noScript (rowT ks ++ r) := row_noScript ks (fun y hy => (hk y (by simp [hy])).1) r hr.2;refine Ev.succ (((h.item x hc hv _ hns).and ih).mono fun f ⟨h1, h2⟩ => ?_);obtain ⟨t, r', e, hs⟩ := item_start x hv;have hst : starts (itemT x ++ (rowT ks ++ r)) = true := by rw [e]; exact hs
  rw [rowT_cons, List.append_assoc, pRow, if_pos hst, h1];simp [h2]
end Go.Proofs.YtomibmenojdieaaGreat.Tr
