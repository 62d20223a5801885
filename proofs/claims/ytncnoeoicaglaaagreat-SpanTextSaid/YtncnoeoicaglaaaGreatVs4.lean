/- Part 4 of 42 of a proof; its texts, joined: NpM, NpT, NpU, NpF, NpS. No condition. -/
import Derived.Test.YtncnoeoicaglaaaGreatVs2
import Derived.Test.YtncnoeoicaglaaaGreatVs3
set_option maxRecDepth 100000
namespace Go.Proofs.YtncnoeoicaglaaaGreat.Np
open Lx (PTok)
open Tr (Nd sFrac sRoot sMatrix)
inductive R (α : Type) where
 | ok (a : α) (r : List PTok)
 | err (i e : Nat)
 | out
def R.bind {α β : Type} (x : R α) (k : α → List PTok → R β) : R β :=
 match x with
 | .ok a r => k a r
 | .err i e => .err i e
 | .out => .out
def R.map {α β : Type} (x : R α) (k : α → β) : R β := x.bind fun a r => .ok (k a) r
def place (en : Nat) : List PTok → Nat
 | [] => en
 | t :: _ => t.from_
def isM (b : UInt8) : List PTok → Bool
 | [] => false
 | t :: _ => (t.kind == 7) && (t.text == [b])
def refuse {α : Type} (en : Nat) (l : List PTok) : R α := .err (place en l) 3
def leafOf (t : PTok) : Option Nd :=
 if t.kind = 1 then some (.mk 2 t.text 0 [])
 else if t.kind = 2 then some (.mk 3 t.text 0 [])
 else if t.kind = 3 then some (.mk 4 t.text 0 [])
 else none
def slot (l : List Nd) : Nd := .mk 1 [] 0 l
def accented (t : List UInt8) : Bool := Tr.accents.contains t
def special (t : List UInt8) : Bool := (t == sFrac) || (t == sRoot) || (t == sMatrix) || accented t
def isBreak : List PTok → Bool
 | [] => false
 | t :: _ => t.kind == 8
def colN (b c n : Nat) : Nat := if b = 0 then n else c
def stops (l : List PTok) : Bool := isBreak l || isM 41 l || isM 93 l || isM 125 l || isM 38 l
def scripts (group : Bool) (en : Nat) (base : List Nd) (sub sup : Option Nd) (l : List PTok) : R (List Nd) :=
 match sub, sup with
 | some a, some b => .ok [.mk 9 [] 0 [slot base, a, b]] l
 | none, some b => .ok [.mk 8 [] 0 [slot base, b]] l
 | some a, none => .ok [.mk 7 [] 0 [slot base, a]] l
 | none, none => if group then refuse en l else .ok base l
def plainName (t : PTok) (r : List PTok) : R (List Nd) := if t.text.length = 1 then .err t.from_ 11 else .ok [.mk 2 t.text 0 []] r
mutual
def pRow (en : Nat) : Nat → List Nat → List PTok → R (List Nd)
 | 0, _, _ => .out
 | f + 1, op, l =>
  if l.isEmpty ∧ op ≠ [] then .err (op.getLastD 0) 12
  else if l.isEmpty ∨ stops l = true then .ok [] l
  else (pItem en f op l).bind fun more r => (pRow en f op r).map fun items => more ++ items
def pIn (en : Nat) : Nat → UInt8 → List Nat → List PTok → R (List Nd)
 | 0, _, _, _ => .out
 | f + 1, b, op, l => (pRow en f (op ++ [place en l]) l.tail).bind fun items r => if isM b r then .ok items r.tail else refuse en r
def pScript (en : Nat) : Nat → UInt8 → List Nat → List PTok → R (Option Nd)
 | 0, _, _, _ => .out
 | f + 1, b, op, l => if isM b l then (pArg en f op l.tail).map some else .ok none l
def pItem (en : Nat) : Nat → List Nat → List PTok → R (List Nd)
 | 0, _, _ => .out
 | f + 1, op, l => (pPrim en f op l).bind fun base r => (pScript en f 95 op r).bind fun sub r => (pScript en f 94 op r).bind fun sup r =>
  if sup.isSome && sub.isNone then (pScript en f 95 op r).bind fun sub r => scripts (isM 123 l) en base sub sup r
  else scripts (isM 123 l) en base sub sup r
def pPrim (en : Nat) : Nat → List Nat → List PTok → R (List Nd)
 | 0, _, _ => .out
 | f + 1, op, l =>
  match l with
  | [] => refuse en l
  | t :: r =>
   match leafOf t with
   | some x => .ok [x] r
   | none =>
    if t.kind = 4 then pName en f op t r
    else if t.kind = 5 then (pArgs en f 1 op r).map fun ks => [.mk 11 t.text 0 ks]
    else if isM 40 l then (pIn en f 41 op l).map fun items => [.mk 11 [40, 41] 0 [slot items]]
    else if isM 91 l then (pIn en f 93 op l).map fun items => [.mk 11 [91, 93] 0 [slot items]]
    else if isM 123 l then pIn en f 125 op l
    else refuse en l
def pArgs (en : Nat) : Nat → Nat → List Nat → List PTok → R (List Nd)
 | 0, _, _, _ => .out
 | _ + 1, 0, _, l => .ok [] l
 | f + 1, n + 1, op, l => (pArg en f op l).bind fun a r => (pArgs en f n op r).map fun ks => a :: ks
def pName (en : Nat) : Nat → List Nat → PTok → List PTok → R (List Nd)
 | 0, _, _, _ => .out
 | f + 1, op, t, r =>
  if t.text = sFrac then (pArgs en f 2 op r).map fun ks => [.mk 5 [] 0 ks]
  else if t.text = sRoot then
   if isM 91 r then (pIn en f 93 op r).bind fun d r' => (pArgs en f 1 op r').map fun ks => [.mk 6 [] 0 (slot d :: ks)]
   else (pArgs en f 1 op r).map fun ks => [.mk 6 [] 0 (slot [] :: ks)]
  else if t.text = sMatrix then
   if isM 123 r then (pCells en f (op ++ [place en r]) [] 0 0 r.tail).map fun p => [.mk 12 [] p.2 p.1] else refuse en r
  else if accented t.text then (pArgs en f 1 op r).map fun ks => [.mk 10 t.text 0 ks]
  else plainName t r
def pCells (en : Nat) : Nat → List Nat → List Nd → Nat → Nat → List PTok → R (List Nd × Nat)
 | 0, _, _, _, _, _ => .out
 | f + 1, op, ks, b, c, l => (pRow en f op l).bind fun items r =>
  if isM 38 r then pCells en f op (ks ++ [slot items]) b c r.tail
  else if isBreak r = false ∧ isM 125 r = false then refuse en r
  else if ks.length + 1 - b ≠ (colN b c (ks.length + 1)) then .err (place en r) 3
  else if isBreak r = false then .ok (ks ++ [slot items], colN b c (ks.length + 1)) r.tail
  else pCells en f op (ks ++ [slot items]) (ks.length + 1) (colN b c (ks.length + 1)) r.tail
def pArg (en : Nat) : Nat → List Nat → List PTok → R Nd
 | 0, _, _ => .out
 | f + 1, op, l =>
  match l with
  | [] => refuse en l
  | t :: r =>
   match leafOf t with
   | some x => .ok (slot [x]) r
   | none =>
    if isM 123 l then (pIn en f 125 op l).map slot
    else if t.kind = 4 ∧ special t.text = false then (plainName t r).map slot
    else refuse en l
end
def parseT (en : Nat) (l : List PTok) : R (List Nd) :=
 (pRow en (8 * l.length + 8) [] l).bind fun items r => if r.isEmpty then .ok items r else refuse en r
end Go.Proofs.YtncnoeoicaglaaaGreat.Np
namespace Go.Proofs.YtncnoeoicaglaaaGreat.Np
open Lx (PTok Tok)
open Tr (Nd Ev mk7 expect sFrac sRoot sMatrix)
def bare (ts : List Tok) : List PTok := ts.map fun t => ⟨t.kind, t.text, 0, 0⟩
theorem bare_cons (t : Tok) (r : List Tok) : bare (t :: r) = ⟨t.kind, t.text, 0, 0⟩ :: bare r := rfl
theorem expect_some {t : Tok} {ts r : List Tok} (h : expect t ts = some r) : ts = t :: r := by
 cases ts with
 | nil => cases h
 | cons x l =>
  simp only [expect] at h
  by_cases hx : x = t
  ·rw [if_pos hx] at h; cases h; rw [hx]
  ·rw [if_neg hx] at h; cases h
theorem isM_expect (b : UInt8) (ts : List Tok) : isM b (bare ts) = (expect (mk7 b) ts).isSome := by
 cases ts with
 | nil => rfl
 | cons x l =>
  simp only [expect]
  by_cases hx : x = mk7 b
  ·rw [if_pos hx]; subst hx; simp [bare_cons, isM, mk7]
  ·rw [if_neg hx]
   simp only [bare_cons, isM]
   by_cases hk : x.kind = 7
   ·have : x.text ≠ [b] := fun ht => hx (by obtain ⟨k, t⟩ := x; simp at hk ht; rw [hk, ht]; rfl)
    simp [this]
   ·simp [hk]
theorem special_plain {t : List UInt8} (h : Tr.plainN t = true) : t.length ≠ 1 ∧ special t = false := by
 unfold Tr.plainN at h;simp only [Bool.and_eq_true, Bool.not_eq_true', beq_eq_false_iff_ne] at h;obtain ⟨⟨⟨⟨h1, h2⟩, h3⟩, h4⟩, h5⟩ := h;refine ⟨h1, ?_⟩;unfold special accented;rw [h5];simp [h2, h3, h4]
def okEnd (op : List Nat) (r : List Tok) : Prop := (r = [] ∧ op = []) ∨ stops (bare r) = true
structure Reads (f : Nat) : Prop where
 arg : ∀ ts a r, Tr.pArg f ts = some (a, r) → ∀ op, Ev fun F => pArg 0 F op (bare ts) = .ok a (bare r)
 row : ∀ ts ks r, Tr.pRow f ts = some (ks, r) → ∀ op, okEnd op r → Ev fun F => pRow 0 F op (bare ts) = .ok ks (bare r)
 base : ∀ ts ks r, Tr.pBase f ts = some (ks, r) → ∀ op, Ev fun F => pPrim 0 F op (bare ts) = .ok ks (bare r)
 item : ∀ ts u r, Tr.pItem f ts = some (u, r) → isM 95 (bare r) = false → ∀ op, Ev fun F => pItem 0 F op (bare ts) = .ok [u] (bare r)
theorem within_of {b o : UInt8} {ts r : List Tok} {ks : List Nd} (hb : stops (bare (mk7 b :: r)) = true) (h : ∀ op, okEnd op (mk7 b :: r) → Ev fun F => pRow 0 F op (bare ts) = .ok ks (bare (mk7 b :: r))) (op : List Nat) :
  Ev fun F => pIn 0 F b op (bare (mk7 o :: ts)) = .ok ks (bare r) := by
 refine Ev.succ ((h (op ++ [0]) (.inr hb)).mono fun F h1 => ?_);rw [pIn];show R.bind (pRow 0 F (op ++ [0]) (bare ts)) _ = _;rw [h1];show (if isM b (bare (mk7 b :: r)) then _ else _) = _;rw [isM_expect, Tr.expect_same];rfl
theorem Reads.argS {f : Nat} (ih : Reads f) (ts : List Tok) (a : Nd) (r : List Tok) (h : Tr.pArg (f + 1) ts = some (a, r)) (op : List Nat) : Ev fun F => pArg 0 F op (bare ts) = .ok a (bare r) := by
 cases ts with
 | nil => simp [Tr.pArg] at h
 | cons x l =>
  rw [Tr.pArg] at h;split at h
  ·rename_i hk
   cases h;refine Ev.succ (Ev.of fun F => ?_)
   rcases hk with hk | ⟨hk, hp⟩
   ·simp [bare_cons, pArg, leafOf, hk, slot, Tr.row]
   ·obtain ⟨p1, p2⟩ := special_plain hp
    simp [bare_cons, pArg, leafOf, hk, slot, Tr.row, isM, p1, p2, plainName, R.map, R.bind]
  ·split at h
   ·rename_i hk
    cases h;exact Ev.succ (Ev.of fun F => by simp [bare_cons, pArg, leafOf, hk, slot, Tr.row])
   ·split at h
    ·rename_i hk
     cases h;exact Ev.succ (Ev.of fun F => by simp [bare_cons, pArg, leafOf, hk, slot, Tr.row])
    ·split at h
     ·rename_i hk
      subst hk;simp only [Option.bind_eq_some_iff, Option.map_eq_some_iff] at h;obtain ⟨⟨ks, r1⟩, h1, r2, h2, h3⟩ := h;cases h3;have e := expect_some h2;simp only at e;subst e;refine Ev.succ ((within_of (o := 123) (by rfl) (fun op ho => ih.row _ _ _ h1 op ho) op).mono fun F h4 => ?_);rw [bare_cons, pArg];simp only [leafOf, mk7];rw [bare_cons] at h4;simp [isM, mk7, R.map, R.bind, slot, Tr.row] at h4 ⊢
      rw [h4]
     ·cases h
theorem start_kinds {x : Tok} (h : Tr.startTok x = true) : x.kind ≠ 8 ∧ (x.kind = 7 → x.text = [40] ∨ x.text = [91] ∨ x.text = [123]) := by
 unfold Tr.startTok at h;simp only [Bool.or_eq_true, Bool.and_eq_true, beq_iff_eq] at h
 rcases h with ((((h | h) | h) | h) | h) | ⟨h, h2⟩
 all_goals (refine ⟨by omega, fun hk => ?_⟩)
 all_goals first | omega | (rcases h2 with (h2 | h2) | h2 <;> simp [h2])
theorem start_nostop {ts : List Tok} (h : Tr.starts ts = true) : (bare ts).isEmpty = false ∧ stops (bare ts) = false ∧ isM 95 (bare ts) = false := by
 cases ts with
 | nil => cases h
 | cons x l =>
  obtain ⟨h1, h2⟩ := start_kinds (x := x) h;refine ⟨rfl, ?_, ?_⟩
  ·simp only [stops, isBreak, isM, bare_cons]
   by_cases hk : x.kind = 7
   ·rcases h2 hk with ht | ht | ht <;> simp [hk, ht]
   ·simp [hk, h1]
  ·simp only [isM, bare_cons]
   by_cases hk : x.kind = 7
   ·rcases h2 hk with ht | ht | ht <;> simp [hk, ht]
   ·simp [hk]
theorem end_no95 {op : List Nat} {r : List Tok} (h : okEnd op r) : isM 95 (bare r) = false := by
 rcases h with ⟨rfl, _⟩ | h
 ·rfl
 ·cases r with
  | nil => cases h
  | cons x l =>
   simp only [stops, isBreak, isM, bare_cons, Bool.or_eq_true, Bool.and_eq_true, beq_iff_eq] at h ⊢
   rcases h with (((h | ⟨h, h'⟩) | ⟨h, h'⟩) | ⟨h, h'⟩) | ⟨h, h'⟩
   all_goals simp [h]
   all_goals simp [h']
theorem Reads.rowS {f : Nat} (ih : Reads f) (ts : List Tok) (ks : List Nd) (r : List Tok) (h : Tr.pRow (f + 1) ts = some (ks, r)) (op : List Nat) (ho : okEnd op r) : Ev fun F => pRow 0 F op (bare ts) = .ok ks (bare r) := by
 rw [Tr.pRow] at h;split at h
 ·rename_i hs
  simp only [Option.bind_eq_some_iff, Option.map_eq_some_iff] at h;obtain ⟨⟨u, r1⟩, h1, ⟨q, r2⟩, h2, h3⟩ := h;cases h3;obtain ⟨e1, e2, _⟩ := start_nostop hs
  have hn : isM 95 (bare r1) = false := by
   cases f with
   | zero => rw [Tr.pRow] at h2; cases h2
   | succ f =>
    rw [Tr.pRow] at h2;split at h2
    ·rename_i hs2; exact (start_nostop hs2).2.2
    ·cases h2; exact end_no95 ho
  refine Ev.succ (((ih.item _ _ _ h1 hn op).and (ih.row _ _ _ h2 op ho)).mono fun F ⟨h4, h5⟩ => ?_);rw [pRow, if_neg (by simp [e1]), if_neg (by simp [e1, e2]), h4];show R.map (pRow 0 F op (bare r1)) _ = _;rw [h5];rfl
 ·cases h
  refine Ev.succ (Ev.of fun F => ?_);rw [pRow]
  rcases ho with ⟨rfl, rfl⟩ | ho
  ·rfl
  ·have hne : (bare ts).isEmpty = false := by
    cases ts with
    | nil => cases ho
    | cons x l => rfl
   rw [if_neg (by simp [hne]), if_pos (.inr ho)]
theorem Reads.scriptS {f : Nat} (ih : Reads f) {b : UInt8} {ts r1 : List Tok} {a : Nd} {r : List Tok} (he : expect (mk7 b) ts = some r1) (h : Tr.pArg f r1 = some (a, r)) (op : List Nat) : Ev fun F => pScript 0 F b op (bare ts) = .ok (some a) (bare r) := by
 have e := expect_some he;subst e;refine Ev.succ ((ih.arg _ _ _ h op).mono fun F h1 => ?_);rw [pScript, isM_expect, he];show R.map (pArg 0 F op (bare r1)) some = _;rw [h1];rfl
theorem script_none {b : UInt8} {ts : List Tok} (h : isM b (bare ts) = false) (op : List Nat) : Ev fun F => pScript 0 F b op (bare ts) = .ok none (bare ts) :=
 Ev.succ (Ev.of fun F => by rw [pScript, if_neg (by simp [h])])
theorem no_expect {b : UInt8} {ts : List Tok} (h : expect (mk7 b) ts = none) : isM b (bare ts) = false := by rw [isM_expect, h]; rfl
theorem group_isM (ts : List Tok) : isM 123 (bare ts) = Tr.groupAt ts := by
 cases ts with
 | nil => rfl
 | cons x l =>
  rw [isM_expect];simp only [expect, Tr.groupAt]
  by_cases h : x = mk7 123 <;> simp [h]
theorem Reads.itemS {f : Nat} (ih : Reads f) (ts : List Tok) (u : Nd) (r : List Tok) (h : Tr.pItem (f + 1) ts = some (u, r)) (h95 : isM 95 (bare r) = false) (op : List Nat) : Ev fun F => pItem 0 F op (bare ts) = .ok [u] (bare r) := by
 rw [Tr.pItem] at h;simp only [Option.bind_eq_some_iff] at h;obtain ⟨⟨base, p⟩, h1, h⟩ := h;simp only at h;have HB := ih.base _ _ _ h1 op;split at h
 ·rename_i r1 he
  simp only [Option.bind_eq_some_iff] at h;obtain ⟨⟨q, q2⟩, h2, h⟩ := h;simp only at h;have HS := ih.scriptS he h2 op;split at h
  ·rename_i r2 he2
   simp only [Option.map_eq_some_iff] at h;obtain ⟨⟨s, s2⟩, h3, h⟩ := h;cases h;refine Ev.succ ((HB.and (HS.and (ih.scriptS he2 h3 op))).mono fun F ⟨k1, k2, k3⟩ => ?_);rw [pItem, k1];simp only [R.bind, k2, k3];rfl
  ·rename_i he2
   cases h;refine Ev.succ ((HB.and (HS.and (script_none (no_expect he2) op))).mono fun F ⟨k1, k2, k3⟩ => ?_);rw [pItem, k1];simp only [R.bind, k2, k3];rfl
 ·rename_i he
  split at h
  ·rename_i r1 he2
   simp only [Option.map_eq_some_iff] at h;obtain ⟨⟨q, q2⟩, h2, h⟩ := h;cases h;refine Ev.succ ((HB.and ((script_none (no_expect he) op).and ((ih.scriptS he2 h2 op).and (script_none h95 op)))).mono fun F ⟨k1, k2, k3, k4⟩ => ?_);rw [pItem, k1];simp only [R.bind, k2, k3, k4];rfl
  ·rename_i he2
   split at h
   ·split at h
    ·cases h
    ·rename_i hg
     cases h;refine Ev.succ ((HB.and ((script_none (no_expect he) op).and (script_none (no_expect he2) op))).mono fun F ⟨k1, k2, k3⟩ => ?_);rw [pItem, k1];simp only [R.bind, k2, k3, group_isM];rw [Bool.not_eq_true] at hg;rw [hg];rfl
   ·cases h
theorem Reads.argsS1 {f : Nat} (ih : Reads f) {ts r : List Tok} {a : Nd} (h : Tr.pArg f ts = some (a, r)) (op : List Nat) : Ev fun F => pArgs 0 F 1 op (bare ts) = .ok [a] (bare r) := by
 refine Ev.succ (Ev.mono ((ih.arg _ _ _ h op).and (⟨1, fun F hF => by obtain ⟨g, rfl⟩ : ∃ g, F = g + 1 := ⟨F - 1, by omega⟩; rw [pArgs]⟩ : Ev fun F => pArgs 0 F 0 op (bare r) = .ok [] (bare r))) fun F ⟨h1, h2⟩ => ?_);rw [pArgs, h1];show R.map (pArgs 0 F 0 op (bare r)) _ = _;rw [h2];rfl
theorem Reads.argsS2 {f : Nat} (ih : Reads f) {ts r r' : List Tok} {a b : Nd} (h : Tr.pArg f ts = some (a, r)) (h' : Tr.pArg f r = some (b, r')) (op : List Nat) : Ev fun F => pArgs 0 F 2 op (bare ts) = .ok [a, b] (bare r') := by
 refine Ev.succ (Ev.mono ((ih.arg _ _ _ h op).and (ih.argsS1 h' op)) fun F ⟨h1, h2⟩ => ?_);rw [pArgs, h1];show R.map (pArgs 0 F 1 op (bare r)) _ = _;rw [h2];rfl
theorem colsOf_nonneg : ∀ cs : List (Nd × Bool), 0 ≤ Tr.colsOf cs
 | [] => Int.le_refl _
 | (_, b) :: l => by
  have := colsOf_nonneg l;rw [Tr.colsOf];split <;> omega
def CellsRead (f : Nat) : Prop := ∀ (ts : List Tok) (cs : List (Nd × Bool)) (r1 r2 : List Tok), Tr.pCells f ts = some (cs, r1) → expect (mk7 125) r1 = some r2 → cs.map (·.2) = Tr.ends (Tr.colsOf cs) cs.length →
 ∀ op, Ev fun F => pCells 0 F op [] 0 0 (bare ts) = .ok (cs.map (·.1), (Tr.colsOf cs).toNat) (bare r2)
theorem Reads.nameS {f : Nat} (ih : Reads f) (hm : CellsRead f) (x : Tok) (ts : List Tok) (ks : List Nd) (r : List Tok) (hk : x.kind = 4) (h : Tr.pBase (f + 1) (x :: ts) = some (ks, r)) (op : List Nat) :
  Ev fun F => pName 0 F op ⟨x.kind, x.text, 0, 0⟩ (bare ts) = .ok ks (bare r) := by
 rw [Tr.pBase, if_neg (by omega), if_neg (by omega), if_neg (by omega), if_neg (by omega), if_pos hk] at h;split at h
 ·rename_i ht
  simp only [Option.bind_eq_some_iff, Option.map_eq_some_iff] at h;obtain ⟨⟨a, r1⟩, h1, ⟨b, r2⟩, h2, h3⟩ := h;cases h3;refine Ev.succ ((ih.argsS2 h1 h2 op).mono fun F k1 => ?_);rw [pName, if_pos ht, k1];rfl
 ·rename_i n1
  split at h
  ·rename_i ht
   split at h
   ·rename_i r1 he
    simp only [Option.bind_eq_some_iff, Option.map_eq_some_iff] at h;obtain ⟨⟨d, r2⟩, h1, r3, h2, ⟨a, r4⟩, h3, h4⟩ := h;cases h4;have e1 := expect_some he;have e2 := expect_some h2;simp only at e2;subst e1 e2;refine Ev.succ (((within_of (o := 91) (by rfl) (fun op ho => ih.row _ _ _ h1 op ho) op).and (ih.argsS1 h3 op)).mono fun F ⟨k1, k2⟩ => ?_);rw [pName, if_neg n1, if_pos ht, isM_expect, he, Option.isSome_some, if_pos rfl, k1];show R.map (pArgs 0 F 1 op (bare r3)) _ = _;rw [k2];rfl
   ·rename_i he
    simp only [Option.map_eq_some_iff] at h;obtain ⟨⟨a, r1⟩, h1, h2⟩ := h;cases h2;refine Ev.succ ((ih.argsS1 h1 op).mono fun F k1 => ?_);rw [pName, if_neg n1, if_pos ht, no_expect he, if_neg (by decide), k1];rfl
  ·rename_i n2
   split at h
   ·rename_i ht
    simp only [Option.bind_eq_some_iff] at h;obtain ⟨r1, h1, ⟨cs, r2⟩, h2, r3, h3, h4⟩ := h;simp only at h3 h4;split at h4
    ·rename_i hE
     cases h4;have e := expect_some h1;subst e;refine Ev.succ ((hm _ _ _ _ h2 h3 hE (op ++ [0])).mono fun F k1 => ?_);rw [pName, if_neg n1, if_neg n2, if_pos ht, isM_expect, h1, Option.isSome_some, if_pos rfl];show R.map (pCells 0 F (op ++ [0]) [] 0 0 (bare r1)) _ = _;rw [k1];have := colsOf_nonneg cs;simp only [R.map, R.bind, Int.toNat_of_nonneg this]
    ·cases h4
   ·rename_i n3
    split at h
    ·rename_i ht
     simp only [Option.map_eq_some_iff] at h;obtain ⟨⟨a, r1⟩, h1, h2⟩ := h;cases h2;refine Ev.succ ((ih.argsS1 h1 op).mono fun F k1 => ?_);rw [pName, if_neg n1, if_neg n2, if_neg n3, if_pos (show accented x.text = true from ht), k1];rfl
    ·rename_i n4
     split at h
     ·cases h
     ·rename_i n5
      cases h;refine Ev.succ (Ev.of fun F => ?_);rw [pName, if_neg n1, if_neg n2, if_neg n3, if_neg (show ¬ accented x.text = true from n4), plainName, if_neg n5]
theorem Reads.baseS {f : Nat} (ih : Reads f) (hm : CellsRead f) (ts : List Tok) (ks : List Nd) (r : List Tok) (h : Tr.pBase (f + 1) ts = some (ks, r)) (op : List Nat) : Ev fun F => pPrim 0 F op (bare ts) = .ok ks (bare r) := by
 cases ts with
 | nil => simp [Tr.pBase] at h
 | cons x l =>
  by_cases hk4 : x.kind = 4
  ·refine Ev.succ ((ih.nameS hm x l ks r hk4 h op).mono fun F k1 => ?_)
   rw [bare_cons, pPrim];simp [leafOf, hk4] at k1 ⊢
   exact k1
  ·rw [Tr.pBase] at h
   split at h
   ·rename_i hk; cases h
    exact Ev.succ (Ev.of fun F => by simp [bare_cons, pPrim, leafOf, hk])
   ·split at h
    ·rename_i hk; cases h
     exact Ev.succ (Ev.of fun F => by simp [bare_cons, pPrim, leafOf, hk])
    ·split at h
     ·rename_i hk; cases h
      exact Ev.succ (Ev.of fun F => by simp [bare_cons, pPrim, leafOf, hk])
     ·split at h
      ·rename_i hk
       simp only [Option.map_eq_some_iff] at h;obtain ⟨⟨a, r1⟩, h1, h2⟩ := h;cases h2;refine Ev.succ ((ih.argsS1 h1 op).mono fun F k1 => ?_);simp [bare_cons, pPrim, leafOf, hk, k1, R.map, R.bind]
      ·split at h
       ·
        rename_i hx;subst hx;simp only [Option.bind_eq_some_iff, Option.map_eq_some_iff] at h;obtain ⟨⟨d, r2⟩, h1, r3, h2, h4⟩ := h;cases h4;have e2 := expect_some h2;simp only at e2;subst e2;refine Ev.succ ((within_of (o := 40) (by rfl) (fun op ho => ih.row _ _ _ h1 op ho) op).mono fun F k1 => ?_);rw [bare_cons] at k1 ⊢;simp [pPrim, leafOf, mk7, isM, R.map, R.bind] at k1 ⊢
        rw [k1];rfl
       ·split at h
        ·
         rename_i hx;subst hx;simp only [Option.bind_eq_some_iff, Option.map_eq_some_iff] at h;obtain ⟨⟨d, r2⟩, h1, r3, h2, h4⟩ := h;cases h4;have e2 := expect_some h2;simp only at e2;subst e2;refine Ev.succ ((within_of (o := 91) (by rfl) (fun op ho => ih.row _ _ _ h1 op ho) op).mono fun F k1 => ?_);rw [bare_cons] at k1 ⊢;simp [pPrim, leafOf, mk7, isM, R.map, R.bind] at k1 ⊢
         rw [k1];rfl
        ·split at h
         ·
          rename_i hx;subst hx;simp only [Option.bind_eq_some_iff, Option.map_eq_some_iff] at h;obtain ⟨⟨d, r2⟩, h1, r3, h2, h4⟩ := h;cases h4;have e2 := expect_some h2;simp only at e2;subst e2;refine Ev.succ ((within_of (o := 123) (by rfl) (fun op ho => ih.row _ _ _ h1 op ho) op).mono fun F k1 => ?_);rw [bare_cons] at k1 ⊢;simp [pPrim, leafOf, mk7, isM] at k1 ⊢
          rw [k1]
         ·cases h
end Go.Proofs.YtncnoeoicaglaaaGreat.Np
namespace Go.Proofs.YtncnoeoicaglaaaGreat.Np
open Lx (PTok Tok)
open Tr (Nd Ev mk7 expect sFrac sRoot sMatrix)
theorem line_end {C q n : Nat} (h1 : C * q ≤ n) (h2 : n < C * q + C) (h : (n + 1) % C = 0) : n + 1 = C * q + C := by
 obtain ⟨r, hr⟩ : ∃ r, n + 1 = C * q + r := ⟨n + 1 - C * q, by omega⟩;rw [hr, Nat.mul_add_mod] at h
 by_cases hc : r < C
 ·rw [Nat.mod_eq_of_lt hc] at h; omega
 ·omega
theorem line_mid {C q n : Nat} (h2 : n < C * q + C) (h : (n + 1) % C ≠ 0) : n + 1 < C * q + C := by
 rcases Nat.lt_or_ge (n + 1) (C * q + C) with h3 | h3
 ·exact h3
 ·exfalso
  have : n + 1 = C * q + C := by omega
  rw [this, Nat.mul_add_mod, Nat.mod_self] at h;exact h rfl
theorem cellsS (C : Nat) (hC : 1 ≤ C) : ∀ f, (∀ g, g < f → Reads g) → ∀ ts cs r1 r2, Tr.pCells f ts = some (cs, r1) → expect (mk7 125) r1 = some r2 → ∀ (ks : List Nd) (q c : Nat), C * q ≤ ks.length → ks.length < C * q + C → (C * q = 0 ∨ c = C) →
  (∀ i (h : i < cs.length), cs[i].2 = decide ((ks.length + i + 1) % C = 0)) → ∀ op, Ev fun F => pCells 0 F op ks (C * q) c (bare ts) = .ok (ks ++ cs.map (·.1), C) (bare r2)
 | 0, _, _, _, _, _, h, _, _, _, _, _, _, _, _, _ => by rw [Tr.pCells] at h; cases h
 | f + 1, ih, ts, cs, r1, r2, h, he, ks, q, c, h1, h2, hc, hf, op => by
  have e1 := expect_some he;subst e1;rw [Tr.pCells] at h;simp only [Option.bind_eq_some_iff] at h;obtain ⟨⟨items, p⟩, hr, h⟩ := h;simp only at h;have hrow := (ih f (Nat.lt_succ_self _)).row _ _ _ hr;split at h
  ·rename_i r hx
   simp only [Option.map_eq_some_iff] at h;obtain ⟨⟨qq, q2⟩, h3, h4⟩ := h;cases h4;have e2 := expect_some hx;subst e2;have hf0 := hf 0 (by simp);simp only [List.getElem_cons_zero, Nat.add_zero] at hf0;have hn : (ks.length + 1) % C ≠ 0 := by simpa using hf0.symm
   have hrec := cellsS C hC f (fun g hg => ih g (by omega)) _ _ _ _ h3 he (ks ++ [slot items]) q c (by simp; omega) (by have := line_mid h2 hn; simp; omega) hc (fun i hi => by
    have := hf (i + 1) (by simpa using hi);simp only [List.getElem_cons_succ] at this;rw [this, List.length_append, List.length_singleton, show ks.length + (i + 1) + 1 = ks.length + 1 + i + 1 by omega]) op
   refine Ev.succ (((hrow op (.inr (by rfl))).and hrec).mono fun F ⟨k1, k2⟩ => ?_);rw [pCells, k1];simp only [R.bind];rw [if_pos (by simp [bare_cons, isM, mk7]), bare_cons, List.tail_cons, k2];simp [slot, Tr.row]
  ·rename_i hx
   have hcol : ks.length + 1 = C * q + C → colN (C * q) c (ks.length + 1) = C := fun hl => by
    unfold colN;split
    ·omega
    ·rcases hc with hc | hc
     ·contradiction
     ·exact hc
   split at h
   ·rename_i r hx2
    simp only [Option.map_eq_some_iff] at h;obtain ⟨⟨qq, q2⟩, h3, h4⟩ := h;cases h4;have e2 := expect_some hx2;subst e2;have hf0 := hf 0 (by simp);simp only [List.getElem_cons_zero, Nat.add_zero] at hf0;have hn : (ks.length + 1) % C = 0 := by simpa using hf0.symm
    have hl := line_end h1 h2 hn;have hq : ks.length + 1 = C * (q + 1) := by rw [hl, Nat.mul_succ]
    have hrec := cellsS C hC f (fun g hg => ih g (by omega)) _ _ _ _ h3 he (ks ++ [slot items]) (q + 1) C (by simp; omega) (by simp; omega) (.inr rfl) (fun i hi => by
     have := hf (i + 1) (by simpa using hi);simp only [List.getElem_cons_succ] at this;rw [this, List.length_append, List.length_singleton, show ks.length + (i + 1) + 1 = ks.length + 1 + i + 1 by omega]) op
    refine Ev.succ (((hrow op (.inr (by rfl))).and hrec).mono fun F ⟨k1, k2⟩ => ?_);rw [pCells, k1];simp only [R.bind];rw [hcol hl, if_neg (by simp [bare_cons, isM]), if_neg (by simp [bare_cons, isBreak]), if_neg (by omega), if_neg (by simp [bare_cons, isBreak]), hq, bare_cons, List.tail_cons, k2];simp [slot, Tr.row]
   ·rename_i hx2
    cases h;have hf0 := hf 0 (by simp);simp only [List.getElem_cons_zero, Nat.add_zero] at hf0;have hn : (ks.length + 1) % C = 0 := by simpa using hf0.symm
    have hl := line_end h1 h2 hn;refine Ev.succ ((hrow op (.inr (by rfl))).mono fun F k1 => ?_);rw [pCells, k1];simp only [R.bind];rw [hcol hl, if_neg (by simp [bare_cons, isM, mk7]), if_neg (by simp [bare_cons, isBreak, isM, mk7]), if_neg (by omega), if_pos (by simp [bare_cons, isBreak, mk7]), bare_cons, List.tail_cons];simp [slot, Tr.row]
theorem cells_ne : ∀ f ts cs r, Tr.pCells f ts = some (cs, r) → cs ≠ []
 | 0, _, _, _, h => by rw [Tr.pCells] at h; cases h
 | f + 1, ts, cs, r, h => by
  rw [Tr.pCells] at h;simp only [Option.bind_eq_some_iff] at h;obtain ⟨⟨items, p⟩, hr, h⟩ := h;simp only at h;split at h
  ·simp only [Option.map_eq_some_iff] at h
   obtain ⟨_, _, h4⟩ := h;cases h4; exact List.cons_ne_nil _ _
  ·split at h
   ·simp only [Option.map_eq_some_iff] at h
    obtain ⟨_, _, h4⟩ := h;cases h4; exact List.cons_ne_nil _ _
   ·cases h; exact List.cons_ne_nil _ _
theorem cellsRead (f : Nat) (ih : ∀ g, g < f → Reads g) : CellsRead f := fun ts cs r1 r2 h he hE op => by
 have hne := cells_ne f ts cs r1 h
 have hpos : 1 ≤ Tr.colsOf cs := by
  cases cs with
  | nil => exact absurd rfl hne
  | cons x l =>
   obtain ⟨n, b⟩ := x;have := colsOf_nonneg l;rw [Tr.colsOf];split <;> omega
 obtain ⟨C, hC⟩ : ∃ C : Nat, Tr.colsOf cs = (C : Int) := ⟨(Tr.colsOf cs).toNat, by omega⟩;rw [hC] at hE hpos ⊢
 have := cellsS C (by omega) f ih ts cs r1 r2 h he [] 0 0 (by simp) (by simp; omega) (.inl (by simp)) (fun i hi => by
  have h1 : (cs.map (·.2))[i]? = (Tr.ends (C : Int) cs.length)[i]? := by rw [hE]
  simp only [Tr.ends, List.getElem?_map, List.getElem?_range hi, List.getElem?_eq_getElem hi, Option.map_some, Option.some.injEq] at h1;rw [h1, List.length_nil, Nat.zero_add, decide_eq_decide, show ((i : Int) + 1) % (C : Int) = (((i + 1) % C : Nat) : Int) by rw [Int.natCast_emod]; rfl];omega) op
 simpa using this
theorem reads : ∀ f, ∀ g, g ≤ f → Reads g
 | 0 => fun g hg => by
  obtain rfl : g = 0 := by omega
  constructor <;> intro ts a r h <;> first | (rw [Tr.pArg] at h; cases h) | (rw [Tr.pRow] at h; cases h) | (rw [Tr.pBase] at h; cases h) | (rw [Tr.pItem] at h; cases h) | skip
  all_goals (first | (simp [Tr.pArg] at h) | (simp [Tr.pBase] at h))
 | f + 1 => fun g hg => by
  rcases Nat.lt_or_ge g (f + 1) with h | h
  ·exact reads f g (by omega)
  ·obtain rfl : g = f + 1 := by omega
   have ih := reads f f (Nat.le_refl _);have hm := cellsRead f fun g hg => reads f g (by omega)
   exact ⟨ih.argS, ih.rowS, ih.baseS hm, ih.itemS⟩
end Go.Proofs.YtncnoeoicaglaaaGreat.Np
namespace Go.Proofs.YtncnoeoicaglaaaGreat.Np
open Lx (PTok)
open Tr (Nd)
def Fine {α : Type} (x : R α) (n : Nat) : Prop :=
 match x with
 | .ok _ r => r.length < n
 | .err _ _ => True
 | .out => False
theorem Fine.bind {α β : Type} {x : R α} {k : α → List PTok → R β} {n m : Nat} (h : Fine x n) (hk : ∀ a r, r.length < n → Fine (k a r) m) : Fine (x.bind k) m := by
 cases x with
 | ok a r => exact hk a r h
 | err i e => trivial
 | out => exact h.elim
theorem Fine.map {α β : Type} {x : R α} {k : α → β} {n m : Nat} (h : Fine x n) (hm : n ≤ m) : Fine (x.map k) m := h.bind fun _ _ hr => Nat.lt_of_lt_of_le hr hm
theorem Fine.mono {α : Type} {x : R α} {n m : Nat} (h : Fine x n) (hm : n ≤ m) : Fine x m := by
 cases x with
 | ok a r => exact Nat.lt_of_lt_of_le h hm
 | err i e => trivial
 | out => exact h.elim
theorem Fine.refuse {α : Type} (en : Nat) (l : List PTok) (n : Nat) : Fine (refuse en l : R α) n := trivial
theorem isM_pos {b : UInt8} {l : List PTok} (h : isM b l = true) : l.tail.length < l.length := by
 cases l with
 | nil => cases h
 | cons t r => simp
theorem Fine.scripts (g : Bool) (en : Nat) (b : List Nd) (x y : Option Nd) (l : List PTok) (n : Nat) (h : l.length < n) : Fine (scripts g en b x y l) n := by
 unfold Np.scripts;split
 ·exact h
 ·exact h
 ·exact h
 ·split
  ·trivial
  ·exact h
theorem Fine.plainName (t : PTok) (r : List PTok) (n : Nat) (h : r.length < n) : Fine (plainName t r) n := by
 unfold Np.plainName;split
 ·trivial
 ·exact h
structure Good (en f : Nat) : Prop where
 row : ∀ op l, 8 * l.length + 5 ≤ f → Fine (pRow en f op l) (l.length + 1)
 within : ∀ b op l, l.tail.length < l.length → 8 * l.length + 2 ≤ f → Fine (pIn en f b op l) l.length
 arg : ∀ op l, 8 * l.length + 3 ≤ f → Fine (pArg en f op l) l.length
 args : ∀ n op l, 8 * l.length + 4 + n ≤ f → Fine (pArgs en f n op l) (l.length + 1)
 script : ∀ b op l, 8 * l.length + 4 ≤ f → Fine (pScript en f b op l) (l.length + 1)
 item : ∀ op l, 8 * l.length + 4 ≤ f → Fine (pItem en f op l) l.length
 prim : ∀ op l, 8 * l.length + 3 ≤ f → Fine (pPrim en f op l) l.length
 name : ∀ op t r, 8 * r.length + 7 ≤ f → Fine (pName en f op t r) (r.length + 1)
 cells : ∀ op ks b c l, 8 * l.length + 6 ≤ f → Fine (pCells en f op ks b c l) (l.length + 1)
theorem good (en : Nat) : ∀ f, Good en f
 | 0 => by constructor <;> (intros; exfalso; omega)
 | f + 1 => by
  have ih := good en f;constructor
  ·intro op l h
   rw [pRow];split
   ·trivial
   ·split
    ·exact Nat.lt_succ_self _
    ·exact (ih.item op l (by omega)).bind fun a r hr => (ih.row op r (by omega)).map (by omega)
  ·intro b op l hl h
   rw [pIn];refine (ih.row _ l.tail (by omega)).bind fun a r hr => ?_
   split
   ·show r.tail.length < l.length
    rw [List.length_tail];omega
   ·trivial
  ·intro op l h
   rw [pArg.eq_def];cases l with
   | nil => trivial
   | cons t r =>
    simp only
    split
    ·show r.length < _; simp
    ·split
     ·exact (ih.within 125 op (t :: r) (by simp) (by omega)).map (Nat.le_refl _)
     ·split
      ·exact (Fine.plainName t r (t :: r).length (by simp)).map (Nat.le_refl _)
      ·trivial
  ·intro n op l h
   cases n with
   | zero => rw [pArgs]; exact Nat.lt_succ_self _
   | succ n =>
    rw [pArgs];exact (ih.arg op l (by omega)).bind fun a r hr => (ih.args n op r (by omega)).map (by omega)
  ·intro b op l h
   rw [pScript];split
   ·rename_i hm
    have := isM_pos hm;exact (ih.arg op l.tail (by omega)).map (by omega)
   ·exact Nat.lt_succ_self _
  ·intro op l h
   rw [pItem];refine (ih.prim op l (by omega)).bind fun a r hr => (ih.script 95 op r (by omega)).bind fun sub r hr => (ih.script 94 op r (by omega)).bind fun sup r hr => ?_
   split
   ·exact (ih.script 95 op r (by omega)).bind fun sub r hr => Fine.scripts _ _ _ _ _ _ _ (by omega)
   ·exact Fine.scripts _ _ _ _ _ _ _ (by omega)
  ·intro op l h
   rw [pPrim.eq_def];cases l with
   | nil => trivial
   | cons t r =>
    simp only
    have hl : (t :: r).length = r.length + 1 := rfl;have ht : (t :: r).tail.length < (t :: r).length := by simp
    split
    ·show r.length < _; simp
    ·split
     ·exact (ih.name op t r (by omega)).mono (by omega)
     ·split
      ·exact (ih.args 1 op r (by omega)).map (by omega)
      ·split
       ·exact (ih.within 41 op (t :: r) ht (by omega)).map (Nat.le_refl _)
       ·split
        ·exact (ih.within 93 op (t :: r) ht (by omega)).map (Nat.le_refl _)
        ·split
         ·exact ih.within 125 op (t :: r) ht (by omega)
         ·trivial
  ·intro op t r h
   rw [pName];split
   ·exact (ih.args 2 op r (by omega)).map (Nat.le_refl _)
   ·split
    ·split
     ·rename_i hm
      exact (ih.within 93 op r (isM_pos hm) (by omega)).bind fun d r' hr => (ih.args 1 op r' (by omega)).map (by omega)
     ·exact (ih.args 1 op r (by omega)).map (Nat.le_refl _)
    ·split
     ·split
      ·rename_i hm
       have := isM_pos hm;exact (ih.cells _ _ _ _ r.tail (by omega)).map (by omega)
      ·trivial
     ·split
      ·exact (ih.args 1 op r (by omega)).map (Nat.le_refl _)
      ·exact Fine.plainName _ _ _ (Nat.lt_succ_self _)
  ·intro op ks b c l h
   rw [pCells];refine (ih.row op l (by omega)).bind fun items r hr => ?_
   have ht : r.tail.length ≤ r.length := by rw [List.length_tail]; omega
   split
   ·rename_i hm
    have := isM_pos hm;exact (ih.cells _ _ _ _ r.tail (by omega)).mono (by omega)
   ·split
    ·trivial
    ·split
     ·trivial
     ·split
      ·show r.tail.length < _; omega
      ·cases r with
       | nil => rename_i h2; exact absurd rfl h2
       | cons x r =>
        have hx : (x :: r).length = r.length + 1 := rfl;exact (ih.cells _ _ _ _ r (by omega)).mono (by omega)
theorem parseT_ends (en : Nat) (l : List PTok) : parseT en l ≠ .out := by
 have h := (good en (8 * l.length + 8)).row [] l (by omega);unfold parseT;cases hx : pRow en (8 * l.length + 8) [] l with
 | ok a r =>
  show (if r.isEmpty then R.ok a r else refuse en r) ≠ _;split <;> (intro h; cases h)
 | err i e => intro h; cases h
 | out => rw [hx] at h; exact h.elim
end Go.Proofs.YtncnoeoicaglaaaGreat.Np
namespace Go.Proofs.YtncnoeoicaglaaaGreat.Np
open Lx (PTok)
open Tr (Nd)
def Al (l l' : List PTok) : Prop := l.map Lx.tok = l'.map Lx.tok
def Sim {α : Type} (x y : R α) : Prop :=
 match x, y with
 | .ok a r, .ok a' r' => a = a' ∧ Al r r'
 | .err _ e, .err _ e' => e = e'
 | .out, .out => True
 | _, _ => False
theorem Sim.bind {α β : Type} {x y : R α} {k k' : α → List PTok → R β} (h : Sim x y) (hk : ∀ a r r', Al r r' → Sim (k a r) (k' a r')) : Sim (x.bind k) (y.bind k') := by
 cases x <;> cases y <;> first | exact h.elim | skip
 ·obtain ⟨rfl, hr⟩ := h
  exact hk _ _ _ hr
 ·exact h
 ·trivial
theorem Sim.map {α β : Type} {x y : R α} {k : α → β} (h : Sim x y) : Sim (x.map k) (y.map k) := h.bind fun _ _ _ hr => ⟨rfl, hr⟩
theorem Sim.refuse {α : Type} (en en' : Nat) (l l' : List PTok) : Sim (refuse en l : R α) (refuse en' l') := rfl
theorem Al.nil {l' : List PTok} (h : Al [] l') : l' = [] := by
 cases l' with
 | nil => rfl
 | cons t r => cases h
theorem Al.cons {t : PTok} {r l' : List PTok} (h : Al (t :: r) l') : ∃ t' r', l' = t' :: r' ∧ t.kind = t'.kind ∧ t.text = t'.text ∧ Al r r' := by
 cases l' with
 | nil => cases h
 | cons t' r' =>
  have h1 := List.cons.inj (show Lx.tok t :: r.map Lx.tok = Lx.tok t' :: r'.map Lx.tok from h);exact ⟨t', r', rfl, congrArg Lx.Tok.kind h1.1, congrArg Lx.Tok.text h1.1, h1.2⟩
theorem Al.tail {l l' : List PTok} (h : Al l l') : Al l.tail l'.tail := by
 cases l with
 | nil => rw [h.nil]; rfl
 | cons t r => obtain ⟨t', r', rfl, _, _, h⟩ := h.cons; exact h
theorem Al.isM {l l' : List PTok} (h : Al l l') (b : UInt8) : isM b l = isM b l' := by
 cases l with
 | nil => rw [h.nil]
 | cons t r => obtain ⟨t', r', rfl, h1, h2, h⟩ := h.cons; simp only [Np.isM, h1, h2]
theorem Al.isBreak {l l' : List PTok} (h : Al l l') : isBreak l = isBreak l' := by
 cases l with
 | nil => rw [h.nil]
 | cons t r => obtain ⟨t', r', rfl, h1, h2, h⟩ := h.cons; simp only [Np.isBreak, h1]
theorem Al.isEmpty {l l' : List PTok} (h : Al l l') : l.isEmpty = l'.isEmpty := by
 cases l with
 | nil => rw [h.nil]
 | cons t r => obtain ⟨t', r', rfl, h1, h2, h⟩ := h.cons; rfl
theorem Al.stops {l l' : List PTok} (h : Al l l') : stops l = stops l' := by
 unfold Np.stops;rw [h.isBreak, h.isM, h.isM, h.isM, h.isM]
theorem leafOf_al {t t' : PTok} (h1 : t.kind = t'.kind) (h2 : t.text = t'.text) : leafOf t = leafOf t' := by
 unfold leafOf;rw [h1, h2]
theorem Sim.scripts (g : Bool) (en en' : Nat) (b : List Nd) (x y : Option Nd) {l l' : List PTok} (h : Al l l') : Sim (scripts g en b x y l) (scripts g en' b x y l') := by
 unfold Np.scripts;split
 ·exact ⟨rfl, h⟩
 ·exact ⟨rfl, h⟩
 ·exact ⟨rfl, h⟩
 ·split
  ·rfl
  ·exact ⟨rfl, h⟩
theorem Sim.plainName {t t' : PTok} {r r' : List PTok} (h2 : t.text = t'.text) (h : Al r r') : Sim (plainName t r) (plainName t' r') := by
 unfold Np.plainName;rw [h2];split
 ·rfl
 ·exact ⟨rfl, h⟩
structure Alike (en en' f : Nat) : Prop where
 row : ∀ op op' l l', Al l l' → (op = [] ↔ op' = []) → Sim (pRow en f op l) (pRow en' f op' l')
 within : ∀ b op op' l l', Al l l' → Sim (pIn en f b op l) (pIn en' f b op' l')
 arg : ∀ op op' l l', Al l l' → Sim (pArg en f op l) (pArg en' f op' l')
 args : ∀ n op op' l l', Al l l' → Sim (pArgs en f n op l) (pArgs en' f n op' l')
 script : ∀ b op op' l l', Al l l' → Sim (pScript en f b op l) (pScript en' f b op' l')
 item : ∀ op op' l l', Al l l' → Sim (pItem en f op l) (pItem en' f op' l')
 prim : ∀ op op' l l', Al l l' → Sim (pPrim en f op l) (pPrim en' f op' l')
 name : ∀ op op' t t' r r', t.text = t'.text → Al r r' → Sim (pName en f op t r) (pName en' f op' t' r')
 cells : ∀ op op' ks b c l l', Al l l' → (op = [] ↔ op' = []) → Sim (pCells en f op ks b c l) (pCells en' f op' ks b c l')
theorem alike (en en' : Nat) : ∀ f, Alike en en' f
 | 0 => by constructor <;> (intros; trivial)
 | f + 1 => by
  have ih := alike en en' f;constructor
  ·intro op op' l l' h ho
   rw [pRow, pRow, h.isEmpty, h.stops];have hc : (l'.isEmpty = true ∧ op ≠ []) ↔ (l'.isEmpty = true ∧ op' ≠ []) := by rw [ne_eq, ne_eq, ho]
   by_cases c1 : l'.isEmpty = true ∧ op' ≠ []
   ·rw [if_pos c1, if_pos (hc.2 c1)]; rfl
   ·rw [if_neg c1, if_neg (fun x => c1 (hc.1 x))]
    split
    ·exact ⟨rfl, h⟩
    ·exact (ih.item op op' l l' h).bind fun a r r' hr => (ih.row op op' r r' hr ho).map
  ·intro b op op' l l' h
   rw [pIn, pIn];refine (ih.row _ _ _ _ h.tail (by simp)).bind fun a r r' hr => ?_
   rw [hr.isM];split
   ·exact ⟨rfl, hr.tail⟩
   ·rfl
  ·intro op op' l l' h
   cases l with
   | nil => rw [h.nil, pArg, pArg]; rfl
   | cons t r =>
    obtain ⟨t', r', rfl, h1, h2, hr⟩ := h.cons;rw [pArg, pArg, leafOf_al h1 h2, h.isM, h1, h2];split
    ·exact ⟨rfl, hr⟩
    ·split
     ·exact (ih.within 125 op op' _ _ h).map
     ·split
      ·exact (Sim.plainName h2 hr).map
      ·rfl
  ·intro n op op' l l' h
   cases n with
   | zero => rw [pArgs, pArgs]; exact ⟨rfl, h⟩
   | succ n =>
    rw [pArgs, pArgs];exact (ih.arg op op' l l' h).bind fun a r r' hr => (ih.args n op op' r r' hr).map
  ·intro b op op' l l' h
   rw [pScript, pScript, h.isM];split
   ·exact (ih.arg op op' _ _ h.tail).map
   ·exact ⟨rfl, h⟩
  ·intro op op' l l' h
   rw [pItem, pItem, h.isM];refine (ih.prim op op' l l' h).bind fun a r r' hr => (ih.script 95 op op' r r' hr).bind fun sub r r' hr => (ih.script 94 op op' r r' hr).bind fun sup r r' hr => ?_
   split
   ·exact (ih.script 95 op op' r r' hr).bind fun sub r r' hr => Sim.scripts _ _ _ _ _ _ hr
   ·exact Sim.scripts _ _ _ _ _ _ hr
  ·intro op op' l l' h
   cases l with
   | nil => rw [h.nil, pPrim, pPrim]; rfl
   | cons t r =>
    obtain ⟨t', r', rfl, h1, h2, hr⟩ := h.cons;rw [pPrim, pPrim, leafOf_al h1 h2, h.isM, h.isM, h.isM, h1, h2];split
    ·exact ⟨rfl, hr⟩
    ·split
     ·exact ih.name op op' t t' r r' h2 hr
     ·split
      ·exact (ih.args 1 op op' r r' hr).map
      ·split
       ·exact (ih.within 41 op op' _ _ h).map
       ·split
        ·exact (ih.within 93 op op' _ _ h).map
        ·split
         ·exact ih.within 125 op op' _ _ h
         ·rfl
  ·intro op op' t t' r r' h2 h
   rw [pName, pName, h2, h.isM, h.isM];split
   ·exact (ih.args 2 op op' r r' h).map
   ·split
    ·split
     ·exact (ih.within 93 op op' r r' h).bind fun d r r' hr => (ih.args 1 op op' r r' hr).map
     ·exact (ih.args 1 op op' r r' h).map
    ·split
     ·split
      ·exact (ih.cells _ _ _ _ _ _ _ h.tail (by simp)).map
      ·rfl
     ·split
      ·exact (ih.args 1 op op' r r' h).map
      ·exact Sim.plainName h2 h
  ·intro op op' ks b c l l' h ho
   rw [pCells, pCells];refine (ih.row op op' l l' h ho).bind fun items r r' hr => ?_
   rw [hr.isM, hr.isM, hr.isBreak];split
   ·exact ih.cells _ _ _ _ _ _ _ hr.tail ho
   ·split
    ·rfl
    ·split
     ·rfl
     ·split
      ·exact ⟨rfl, hr.tail⟩
      ·exact ih.cells _ _ _ _ _ _ _ hr.tail ho
theorem parseT_alike (en en' : Nat) (l l' : List PTok) (h : Al l l') : Sim (parseT en l) (parseT en' l') := by
 have hl : l.length = l'.length := by
  have := congrArg List.length h;simpa using this
 unfold parseT;rw [hl];refine ((alike en en' _).row [] [] l l' h Iff.rfl).bind fun a r r' hr => ?_
 rw [hr.isEmpty];split
 ·exact ⟨rfl, hr⟩
 ·rfl
end Go.Proofs.YtncnoeoicaglaaaGreat.Np
