/- Part 18 of 42 of a proof; its texts, joined: NmM, PrZ, NqA, NmC. No condition. -/
import Derived.Test.YtomibmenojdieaaGreatXx2
import Derived.Test.YtomibmenojdieaaGreatXx7
import Derived.Test.YtomibmenojdieaaGreatXx5
import Derived.Test.YtomibmenojdieaaGreatXx4
import Derived.Test.YtomibmenojdieaaGreatXx9
set_option maxRecDepth 100000
namespace Go.Proofs.YtomibmenojdieaaGreat.Mcr
open Lx (PTok)
open Tr (Nd sFrac sRoot sMatrix)
open Np (place isM leafOf slot accented special isBreak colN stops)
abbrev Bytes := List UInt8
def placeN (n : Nd) : Option Nat :=
 if n.kind = 2 ∧ n.cols = 0 ∧ n.kids = [] then match n.text with
  | [a, b] => if a = 35 ∧ 49 ≤ b ∧ b ≤ 52 then some (b.toNat - 48) else none
  | _ => none
 else none
mutual
def plainR (P : Int) : Nat → Nd → Nat × Bool → Nd × (Nat × Bool)
 | d, .mk k t c ks, (m, z) =>
  if 1000 < m + 1 ∨ 24 < d then (.mk 0 [] 0 [], (m + 1, false))
  else
   let z1 := match placeN (.mk k t c ks) with
    | some j => z && decide ((j : Int) ≤ P)
    | none => z
   let t1 := if (placeN (.mk k t c ks)).isSome then [120] else t
   let r := plainL P (d + 1) ks (m + 1, z1)
   (.mk k t1 c r.1, r.2)
def plainL (P : Int) : Nat → List Nd → Nat × Bool → List Nd × (Nat × Bool)
 | _, [], s => ([], s)
 | d, x :: xs, (m, z) =>
  if z = false then ([], (m, z))
  else
   let r := plainR P d x (m, z)
   let q := plainL P d xs r.2
   (r.1 :: q.1, q.2)
end
def templF (n : Nd) (P : Int) : Bool := if P < 0 ∨ 4 < P then false else (plainR P 1 n (0, true)).2.2 && Tr.valid (plainR P 1 n (0, true)).1
mutual
def fillL (args : List Nd) : List Nd → List Nd
 | [] => []
 | x :: xs => (match placeN x with
  | some j => (args.getD (j - 1) (.mk 0 [] 0 [])).kids
  | none => [fillS args x]) ++ fillL args xs
def fillS (args : List Nd) : Nd → Nd
 | .mk k t c ks => .mk k t c (slotsL args ks)
def slotsL (args : List Nd) : List Nd → List Nd
 | [] => []
 | .mk _ _ _ ks :: xs => slot (fillL args ks) :: slotsL args xs
end
def nilNd : Nd := .mk 0 [] 0 []
def fillF (t : Nd) (args : List Nd) : Nd × Int :=
 if templF t args.length = false then (nilNd, 1)
 else if args.all (fun a => templF a 4) = false then (nilNd, 1)
 else if templF (slot (fillL args t.kids)) 4 = false then (nilNd, 6)
 else (slot (fillL args t.kids), 0)
structure Mac where
 name : Bytes
 params : Nat
 tree : Nd
abbrev Table := List Mac
def getF (tb : Table) (s : Bytes) : Option Mac := tb.find? (fun m => m.name == s)
def expandF (tb : Table) (s : Bytes) (args : List Nd) : Nd × Int := match getF tb s with
 | none => (nilNd, 8)
 | some m => if args.length ≠ m.params then (nilNd, 13) else fillF m.tree args
structure St where
 l : List PTok
 n : Nat
 b : Bool
inductive R (α : Type) where
 | ok (a : α) (s : St)
 | err (i e : Nat)
 | out
def R.bind {α β : Type} (x : R α) (k : α → St → R β) : R β := match x with
 | .ok a s => k a s
 | .err i e => .err i e
 | .out => .out
def R.map {α β : Type} (x : R α) (k : α → β) : R β := x.bind fun a s => .ok (k a) s
structure En where
 en : Nat
 P : Nat
 tb : Table
def St.up (s : St) : St := { s with l := s.l.tail }
def refuse {α : Type} (E : En) (s : St) : R α := .err (place E.en s.l) 3
def leafP (P : Nat) (t : PTok) : Option Nd := match leafOf t with
 | some x => some x
 | none => if t.kind = 6 ∧ (t.text.headD 0).toNat ≤ P + 48 then some (.mk 2 (35 :: t.text) 0 []) else none
def scripts (group : Bool) (E : En) (base : List Nd) (sub sup : Option Nd) (s : St) : R (List Nd) := match sub, sup with
 | some a, some b => .ok [.mk 9 [] 0 [slot base, a, b]] s
 | none, some b => .ok [.mk 8 [] 0 [slot base, b]] s
 | some a, none => .ok [.mk 7 [] 0 [slot base, a]] s
 | none, none => if group then refuse E s else .ok base s
def expandS (E : En) (t : PTok) (n0 : Nat) (b0 : Bool) (fits : Bool) (args : List Nd) (s : St) : R (List Nd) :=
 if fits = false then .err t.from_ 6
 else if (expandF E.tb t.text args).2 ≠ 0 then .err t.from_ 6
 else if 1000 < n0 + (Tr.count (expandF E.tb t.text args).1 - 1) then .ok [] ⟨s.l, n0 + (Tr.count (expandF E.tb t.text args).1 - 1), true⟩
 else .ok (expandF E.tb t.text args).1.kids ⟨s.l, n0 + (Tr.count (expandF E.tb t.text args).1 - 1), b0⟩
def plainName (t : PTok) (s : St) : R (List Nd) := if t.text.length = 1 then .err t.from_ 11 else .ok [.mk 2 t.text 0 []] s
mutual
def pRow (E : En) : Nat → List Nat → St → R (List Nd)
 | 0, _, _ => .out
 | f + 1, op, s =>
  if s.l.isEmpty ∧ op ≠ [] then .err (op.getLastD 0) 12
  else if s.l.isEmpty ∨ stops s.l = true then .ok [] s
  else (pItem E f op s).bind fun more r => (pRow E f op r).map fun items => more ++ items
def pIn (E : En) : Nat → UInt8 → List Nat → St → R (List Nd)
 | 0, _, _, _ => .out
 | f + 1, b, op, s => (pRow E f (op ++ [place E.en s.l]) s.up).bind fun items r => if isM b r.l then .ok items r.up else refuse E r
def pScript (E : En) : Nat → UInt8 → List Nat → St → R (Option Nd)
 | 0, _, _, _ => .out
 | f + 1, b, op, s => if isM b s.l then (pArg E f op s.up).map some else .ok none s
def pItem (E : En) : Nat → List Nat → St → R (List Nd)
 | 0, _, _ => .out
 | f + 1, op, s => (pPrim E f op s).bind fun base r => (pScript E f 95 op r).bind fun sub r => (pScript E f 94 op r).bind fun sup r =>
  if sup.isSome && sub.isNone then (pScript E f 95 op r).bind fun sub r => scripts (isM 123 s.l) E base sub sup r
  else scripts (isM 123 s.l) E base sub sup r
def pPrim (E : En) : Nat → List Nat → St → R (List Nd)
 | 0, _, _ => .out
 | f + 1, op, s =>
  match s.l with
  | [] => refuse E s
  | t :: _ =>
   match leafP E.P t with
   | some x => .ok [x] s.up
   | none =>
    if t.kind = 4 then pName E f op t s.up
    else if t.kind = 5 then (pArgs E f 1 op s.up).map fun ks => [.mk 11 t.text 0 ks]
    else if isM 40 s.l then (pIn E f 41 op s).map fun items => [.mk 11 [40, 41] 0 [slot items]]
    else if isM 91 s.l then (pIn E f 93 op s).map fun items => [.mk 11 [91, 93] 0 [slot items]]
    else if isM 123 s.l then pIn E f 125 op s
    else refuse E s
def pArgs (E : En) : Nat → Nat → List Nat → St → R (List Nd)
 | 0, _, _, _ => .out
 | _ + 1, 0, _, s => .ok [] s
 | f + 1, n + 1, op, s => (pArg E f op s).bind fun a r => (pArgs E f n op r).map fun ks => a :: ks
def pFill (E : En) : Nat → Nat → List Nat → Bool → List Nd → St → R (Bool × List Nd)
 | 0, _, _, _, _, _ => .out
 | _ + 1, 0, _, z, as_, s => .ok (z, as_) s
 | f + 1, n + 1, op, z, as_, s => (pArg E f op ⟨s.l, 0, false⟩).bind fun a r => pFill E f n op (z && !r.b) (as_ ++ [a]) r
def pMac (E : En) : Nat → Nat → List Nat → PTok → St → R (List Nd)
 | 0, _, _, _, _ => .out
 | f + 1, n, op, t, s => (pFill E f n op true [] s).bind fun p r => expandS E t s.n s.b p.1 p.2 r
def pName (E : En) : Nat → List Nat → PTok → St → R (List Nd)
 | 0, _, _, _ => .out
 | f + 1, op, t, s =>
  if t.text = sFrac then (pArgs E f 2 op s).map fun ks => [.mk 5 [] 0 ks]
  else if t.text = sRoot then
   if isM 91 s.l then (pIn E f 93 op s).bind fun d r' => (pArgs E f 1 op r').map fun ks => [.mk 6 [] 0 (slot d :: ks)]
   else (pArgs E f 1 op s).map fun ks => [.mk 6 [] 0 (slot [] :: ks)]
  else if t.text = sMatrix then
   if isM 123 s.l then (pCells E f (op ++ [place E.en s.l]) [] 0 0 s.up).map fun p => [.mk 12 [] p.2 p.1] else refuse E s
  else if accented t.text then (pArgs E f 1 op s).map fun ks => [.mk 10 t.text 0 ks]
  else match getF E.tb t.text with
   | some m => pMac E f m.params op t s
   | none => plainName t s
def pCells (E : En) : Nat → List Nat → List Nd → Nat → Nat → St → R (List Nd × Nat)
 | 0, _, _, _, _, _ => .out
 | f + 1, op, ks, b, c, s => (pRow E f op s).bind fun items r =>
  if isM 38 r.l then pCells E f op (ks ++ [slot items]) b c r.up
  else if isBreak r.l = false ∧ isM 125 r.l = false then refuse E r
  else if ks.length + 1 - b ≠ (colN b c (ks.length + 1)) then .err (place E.en r.l) 3
  else if isBreak r.l = false then .ok (ks ++ [slot items], colN b c (ks.length + 1)) r.up
  else pCells E f op (ks ++ [slot items]) (ks.length + 1) (colN b c (ks.length + 1)) r.up
def pArg (E : En) : Nat → List Nat → St → R Nd
 | 0, _, _ => .out
 | f + 1, op, s =>
  match s.l with
  | [] => refuse E s
  | t :: _ =>
   match leafP E.P t with
   | some x => .ok (slot [x]) s.up
   | none =>
    if isM 123 s.l then (pIn E f 125 op s).map slot
    else if t.kind = 4 ∧ special t.text = false then
     match getF E.tb t.text with
     | some m => if 0 < m.params then refuse E s else (pMac E f 0 op t s.up).map slot
     | none => (plainName t s.up).map slot
    else refuse E s
end
def parseT (E : En) (l : List PTok) : R (List Nd × Bool) :=
 (pRow E (8 * l.length + 8) [] ⟨l, 0, false⟩).bind fun items r => if r.l.isEmpty then .ok (items, !r.b) r else refuse E r
end Go.Proofs.YtomibmenojdieaaGreat.Mcr
namespace Go.Proofs.YtomibmenojdieaaGreat
open Go.RowKit
abbrev Low (W0 w : World) : Prop := Touch (fun k => W0.heap.size ≤ k) W0 w
theorem low_no {W0 : World} {q : Addr} {v : Value} (h : W0.cell? q = some v) : ¬ W0.heap.size ≤ q.block := by
 have := bL (a := q) (v := v) h;omega
theorem Low.cell {W0 w : World} (hl : Low W0 w) {q : Addr} {v : Value} (h : W0.cell? q = some v) : w.cell? q = some v := Touch.cell hl h (low_no h)
theorem Low.fresh {W0 w w' : World} (hl : Low W0 w) (hf : Fresh w w') : Low W0 w' := hl.trans' hf fun _ h => h.elim
theorem RepL.low {W0 w : World} {ks : List Tr.Nd} {v : Value} (h : RepL W0 ks v) (hl : Low W0 w) : RepL w ks v := by
 induction h with
 | nil A cap => exact .nil A cap
 | row g o cap ks sl hg hln ht h0 h1 h2 h3 hk ih =>
  exact .row g o cap ks sl (Nat.lt_of_lt_of_le hg hl.size) hln ht (fun i hi => hl.cell (h0 i hi)) (fun i hi => hl.cell (h1 i hi)) (fun i hi => hl.cell (h2 i hi)) (fun i hi => hl.cell (h3 i hi)) ih
abbrev nv (n : Tr.Nd) (sl : Value) : Value := .agg #[.int .i64 n.kind, .string ⟨n.text.toArray⟩, .int .i64 n.cols, sl]
theorem owns_type {w : World} {B e size n g : Nat} {v : Value} {xs : List Value} (h : w.ownsRow B e size v n xs) (hg : v.ownBlock = some g) : B ≤ g ∧ ∃ cur, w.heap[g]? = some (.cells cur e (0, 0)) := by
 rcases h.2 with ⟨h1, _⟩ | ⟨g', cap, cur, h1, h2, h3, _⟩
 ·rw [h1] at hg; cases hg
 ·rw [h1] at hg
  simp only [Value.ownBlock, Option.some.injEq] at hg;subst hg;exact ⟨h2, cur, h3⟩
end Go.Proofs.YtomibmenojdieaaGreat
namespace Go.Proofs.YtomibmenojdieaaGreat
open Go.RowKit
open Tr (Nd)
open Lx (PTok)
def PT (g B : Nat) (w : World) (b : Nat) : Prop := b = g ∨ (B ≤ b ∧ ∃ cs fr, w.heap[b]? = some (.cells cs 3 fr))
abbrev Mp (g B : Nat) (w w' : World) : Prop := Touch (PT g B w) w w'
theorem Mp.trans {g B : Nat} {a b c : World} (h : Mp g B a b) (k : Mp g B b c) : Mp g B a c := by
 refine ⟨k.os.trans h.os, k.tape.trans h.tape, k.output.trans h.output, Nat.le_trans h.size k.size, fun i hi hn => ?_⟩;have h1 := h.block i hi hn;refine (k.block i (Nat.lt_of_lt_of_le hi h.size) fun hs => hn ?_).trans h1
 rcases hs with hs | ⟨h2, cs, fr, h3⟩
 ·exact .inl hs
 ·exact .inr ⟨h2, cs, fr, by rw [← h1]; exact h3⟩
theorem Mp.fresh {g B : Nat} {a b : World} (h : Fresh a b) : Mp g B a b := h.mono fun _ h => h.elim
theorem Mp.blk {g B : Nat} {a b : World} {k : Nat} {t : TypeId} {cs : Array Value} (h : Mp g B a b) (hb : Blk a k t cs) (hk : k ≠ g) (ht : t ≠ 3) : Blk b k t cs := by
 refine Touch.blk h hb ?_;rintro (e | ⟨_, cur, fr, h3⟩)
 ·exact hk e
 ·unfold Blk at hb
  rw [hb] at h3;cases h3;exact ht rfl
theorem Mp.put {g B : Nat} (w : World) (i : Nat) (v : Value) : Mp g B w (w.setCell ⟨g, i, none⟩ v) := (Touch.refl _ _).setCell (.inl (.inl rfl)) v
theorem Mp.grown {g B : Nat} {a b c : World} {n : Nat} {v : Value} {xs : List Value} (h : Mp g B a b) (ho : b.ownsRow B 3 1 v n xs) (hg : b.grownBy c v.ownBlock) : Mp g B a c :=
 Mp.trans h (Touch.grown (S := PT g B b) (Touch.refl _ b) hg fun k hk => .inl (by
  obtain ⟨h1, cur, h2⟩ := owns_type ho hk;exact .inr ⟨h1, cur, _, h2⟩))
inductive TreT (B : Nat) (W : World) : List Nd → Value → Prop
 | nil (A : Option Addr) (cap : Nat) : TreT B W [] (.slice A 0 cap)
 | row (g cap : Nat) (ks : List Nd) (sl : Nat → Value) (hB : B ≤ g) (hg : ∃ cs fr, W.heap[g]? = some (.cells cs 35 fr)) (hl : ks.length ≤ maxLen)
   (ht : ∀ i (hi : i < ks.length), ks[i].text.length ≤ maxLen)
   (h0 : ∀ i (hi : i < ks.length), W.cell? ⟨g, i * 4, none⟩ = some (.int .i64 ks[i].kind))
   (h1 : ∀ i (hi : i < ks.length), W.cell? ⟨g, i * 4 + 1, none⟩ = some (.string ⟨ks[i].text.toArray⟩))
   (h2 : ∀ i (hi : i < ks.length), W.cell? ⟨g, i * 4 + 2, none⟩ = some (.int .i64 ks[i].cols))
   (h3 : ∀ i (_hi : i < ks.length), W.cell? ⟨g, i * 4 + 3, none⟩ = some (sl i))
   (hk : ∀ i (hi : i < ks.length), TreT B W ks[i].kids (sl i)) : TreT B W ks (.slice (some ⟨g, 0, none⟩) ks.length cap)
theorem TreT.slice {B : Nat} {W : World} {ks : List Nd} {v : Value} (h : TreT B W ks v) : ∃ A cap, v = .slice A ks.length cap := by
 cases h with
 | nil A cap => exact ⟨A, cap, rfl⟩
 | row g cap _ sl => exact ⟨_, _, rfl⟩
theorem TreT.len {B : Nat} {W : World} {ks : List Nd} {v : Value} (h : TreT B W ks v) : ks.length ≤ maxLen := by
 cases h with
 | nil A cap => exact Nat.zero_le _
 | row g cap _ sl hB hg hl => exact hl
theorem TreT.mv {B : Nat} {W W' : World} {S : Nat → Prop} {ks : List Nd} {v : Value} (h : TreT B W ks v) (ht : Touch S W W') (hS : ∀ k cs fr, S k → B ≤ k → W.heap[k]? ≠ some (.cells cs 35 fr)) : TreT B W' ks v := by
 induction h with
 | nil A cap => exact .nil A cap
 | row g cap ks sl hB hg hl hx h0 h1 h2 h3 hk ih =>
  obtain ⟨cs, fr, hg⟩ := hg;have hn : ¬ S g := fun hs => hS g cs fr hs hB hg
  exact .row g cap ks sl hB ⟨cs, fr, (ht.block g (Array.getElem?_eq_some_iff.1 hg).1 hn).trans hg⟩ hl hx (fun i hi => ht.cell (h0 i hi) hn) (fun i hi => ht.cell (h1 i hi) hn) (fun i hi => ht.cell (h2 i hi) hn) (fun i hi => ht.cell (h3 i hi) hn) ih
theorem TreT.base {B B' : Nat} {W : World} {ks : List Nd} {v : Value} (h : TreT B W ks v) (hb : B' ≤ B) : TreT B' W ks v := by
 induction h with
 | nil A cap => exact .nil A cap
 | row g cap ks sl hB hg hl hx h0 h1 h2 h3 hk ih => exact .row g cap ks sl (Nat.le_trans hb hB) hg hl hx h0 h1 h2 h3 ih
theorem TreT.fresh {B : Nat} {W W' : World} {ks : List Nd} {v : Value} (h : TreT B W ks v) (hf : Fresh W W') : TreT B W' ks v := h.mv hf fun _ _ _ h _ => h.elim
theorem TreT.rep {B : Nat} {W : World} {ks : List Nd} {v : Value} (h : TreT B W ks v) : RepL W ks v := by
 induction h with
 | nil A cap => exact .nil A cap
 | row g cap ks sl hB hg hl hx h0 h1 h2 h3 hk ih =>
  obtain ⟨cs, fr, hg⟩ := hg;exact RepL.row g 0 cap ks sl (Array.getElem?_eq_some_iff.1 hg).1 hl hx (by simpa using h0) (by simpa using h1) (by simpa using h2) (by simpa using h3) ih
def NodesT (B : Nat) (W : World) : List Nd → List Value → Prop
 | [], cs => cs = []
 | n :: ks, cs => ∃ sl ds, cs = .int .i64 n.kind :: .string ⟨n.text.toArray⟩ :: .int .i64 n.cols :: sl :: ds ∧ (TreT B W n.kids sl ∧ n.text.length ≤ maxLen) ∧ NodesT B W ks ds
theorem NodesT.length {B : Nat} {W : World} : ∀ {ks : List Nd} {cs : List Value}, NodesT B W ks cs → cs.length = ks.length * 4
 | [], _, h => by rw [show _ = [] from h]; rfl
 | _ :: _, _, ⟨_, _, h, _, hd⟩ => by subst h; simp [hd.length]; omega
theorem NodesT.mv {B : Nat} {W W' : World} {S : Nat → Prop} (ht : Touch S W W') (hS : ∀ k cs fr, S k → B ≤ k → W.heap[k]? ≠ some (.cells cs 35 fr)) : ∀ {ks : List Nd} {cs : List Value}, NodesT B W ks cs → NodesT B W' ks cs
 | [], _, h => h
 | _ :: _, _, ⟨sl, ds, h, h1, hd⟩ => ⟨sl, ds, h, ⟨h1.1.mv ht hS, h1.2⟩, hd.mv ht hS⟩
theorem NodesT.base {B B' : Nat} {W : World} (hb : B' ≤ B) : ∀ {ks : List Nd} {cs : List Value}, NodesT B W ks cs → NodesT B' W ks cs
 | [], _, h => h
 | _ :: _, _, ⟨sl, ds, h, h1, hd⟩ => ⟨sl, ds, h, ⟨h1.1.base hb, h1.2⟩, hd.base hb⟩
theorem NodesT.fresh {B : Nat} {W W' : World} (hf : Fresh W W') {ks : List Nd} {cs : List Value} (h : NodesT B W ks cs) : NodesT B W' ks cs := h.mv hf fun _ _ _ h _ => h.elim
theorem NodesT.append {B : Nat} {W : World} : ∀ {ks ms : List Nd} {cs ds : List Value}, NodesT B W ks cs → NodesT B W ms ds → NodesT B W (ks ++ ms) (cs ++ ds)
 | [], _, _, _, h, hm => by rw [show _ = [] from h]; exact hm
 | _ :: _, _, _, _, ⟨sl, es, h, h1, hd⟩, hm => by subst h; exact ⟨sl, es ++ _, by simp, h1, hd.append hm⟩
theorem TreT.oneCell {B : Nat} {W : World} {ks : List Nd} {v : Value} (h : TreT B W ks v) : v.oneCell' = true := by
 obtain ⟨A, c, rfl⟩ := h.slice;rfl
theorem NodesT.oneCell {B : Nat} {W : World} : ∀ {ks : List Nd} {cs : List Value}, NodesT B W ks cs → ∀ u ∈ cs, u.oneCell' = true
 | [], _, h, u, hu => by rw [show _ = [] from h] at hu; cases hu
 | _ :: _, _, ⟨sl, ds, h, h1, hd⟩, u, hu => by
  subst h
  rcases List.mem_cons.1 hu with rfl | hu
  ·rfl
  ·rcases List.mem_cons.1 hu with rfl | hu
   ·rfl
   ·rcases List.mem_cons.1 hu with rfl | hu
    ·rfl
    ·rcases List.mem_cons.1 hu with rfl | hu
     ·exact h1.1.oneCell
     ·exact hd.oneCell u hu
theorem NodesT.get {B : Nat} {W : World} : ∀ {ks : List Nd} {cs : List Value}, NodesT B W ks cs → ∀ i (hi : i < ks.length), ∃ sl, cs[i * 4]? = some (.int .i64 ks[i].kind) ∧ cs[i * 4 + 1]? = some (.string ⟨ks[i].text.toArray⟩) ∧ cs[i * 4 + 2]? = some (.int .i64 ks[i].cols) ∧ cs[i * 4 + 3]? = some sl ∧
  TreT B W ks[i].kids sl ∧ ks[i].text.length ≤ maxLen
 | [], _, _, i, hi => by simp at hi
 | n :: ks, _, ⟨sl, ds, h, h1, hd⟩, i, hi => by
  subst h;cases i with
  | zero => exact ⟨sl, rfl, rfl, rfl, rfl, h1.1, h1.2⟩
  | succ i =>
   obtain ⟨sl', e0, e1, e2, e3, e4, e5⟩ := hd.get i (by simpa using hi)
   have hx : ∀ j, (.int .i64 n.kind :: .string ⟨n.text.toArray⟩ :: .int .i64 n.cols :: sl :: ds : List Value)[(i + 1) * 4 + j]? = ds[i * 4 + j]? := fun j => by
    rw [show (i + 1) * 4 + j = (i * 4 + j) + 4 by omega];rfl
   exact ⟨sl', (hx 0).trans e0, (hx 1).trans e1, (hx 2).trans e2, (hx 3).trans e3, e4, e5⟩
theorem NodesT.own {B B' : Nat} {W : World} {ks : List Nd} {cs : List Value} {v : Value} (h : NodesT B W ks cs) (hBB : B ≤ B') (ho : W.ownsRow B' 35 4 v ks.length cs) : TreT B W ks v := by
 rcases ho.2 with ⟨h1, h2⟩ | ⟨g, cap, cur, h1, hB', hg, h2, h3, _⟩
 ·rw [List.length_eq_zero_iff] at h2
  subst h2;rw [h1];exact .nil _ _
 ·have hc : ∀ j u, cs[j]? = some u → W.cell? ⟨g, j, none⟩ = some u := fun j u hu => by
   have := ho.cells (g := g) (by rw [h1]; rfl) j u hu
   rwa [Addr.add_mid, Nat.zero_add] at this
  have hsl : ∀ i, ∃ sl, ∀ (hi : i < ks.length), cs[i * 4 + 3]? = some sl ∧ TreT B W ks[i].kids sl := fun i => by
   by_cases hi : i < ks.length
   ·obtain ⟨sl, _, _, _, e3, e4, _⟩ := h.get i hi
    exact ⟨sl, fun _ => ⟨e3, e4⟩⟩
   ·exact ⟨.bool false, fun h => absurd h hi⟩
  rw [h1];refine .row g cap ks (fun i => Classical.choose (hsl i)) (Nat.le_trans hBB hB') ⟨_, _, hg⟩ (Nat.le_trans h2 h3) (fun i hi => (h.get i hi).elim fun _ e => e.2.2.2.2.2) (fun i hi => ?_) (fun i hi => ?_) (fun i hi => ?_) (fun i hi => hc _ _ (Classical.choose_spec (hsl i) hi).1) (fun i hi => (Classical.choose_spec (hsl i) hi).2)
  ·obtain ⟨_, e0, _⟩ := h.get i hi; exact hc _ _ e0
  ·obtain ⟨_, _, e1, _⟩ := h.get i hi; exact hc _ _ e1
  ·obtain ⟨_, _, _, e2, _⟩ := h.get i hi; exact hc _ _ e2
theorem TreT.src {B : Nat} {W : World} {ks : List Nd} {v : Value} (h : TreT B W ks v) : ∃ cs, NodesT B W ks cs ∧ Src W 4 v ks.length cs := by
 cases h with
 | nil A cap => 
  refine ⟨[], rfl, A, cap, rfl, rfl, ?_⟩;cases A with
  | none => exact .inl ⟨rfl, rfl, rfl⟩
  | some a => exact .inr ⟨a, rfl, fun j u hu => by simp at hu⟩
 | row g cap _ sl hB hg hl hx h0 h1 h2 h3 hk =>
  have : ∀ (l : List Nd) (o : Nat), (∀ i (hi : i < l.length), ∃ hq : o + i < ks.length, l[i] = ks[o + i]) → ∃ cs, NodesT B W l cs ∧ ∀ j u, cs[j]? = some u → W.cell? ⟨g, o * 4 + j, none⟩ = some u := by
   intro l
   induction l with
   | nil => intro o _; exact ⟨[], rfl, fun j u hu => by simp at hu⟩
   | cons n l ih =>
    intro o hl
    obtain ⟨ds, d1, d2⟩ := ih (o + 1) fun i hi => by
     obtain ⟨hq, e⟩ := hl (i + 1) (by simpa using hi);refine ⟨by omega, ?_⟩;have e' : l[i] = ks[o + (i + 1)] := by simpa using e
     rw [e']
     congr 1
     omega
    obtain ⟨hq, e⟩ := hl 0 (by simp);simp only [List.getElem_cons_zero, Nat.add_zero] at e hq;refine ⟨.int .i64 n.kind :: .string ⟨n.text.toArray⟩ :: .int .i64 n.cols :: sl o :: ds, ⟨sl o, ds, rfl, ⟨by rw [e]; exact hk o hq, by rw [e]; exact hx o hq⟩, d1⟩, fun j u hu => ?_⟩
    match j, hu with
    | 0, hu => cases hu; rw [e]; exact h0 o hq
    | 1, hu => cases hu; rw [e]; exact h1 o hq
    | 2, hu => cases hu; rw [e]; exact h2 o hq
    | 3, hu => cases hu; exact h3 o hq
    | j + 4, hu =>
     have := d2 j u hu;rw [show o * 4 + (j + 4) = (o + 1) * 4 + j by omega];exact this
  obtain ⟨cs, d1, d2⟩ := this ks 0 fun i hi => ⟨by simpa using hi, by simp⟩
  refine ⟨cs, d1, _, cap, rfl, d1.length, .inr ⟨_, rfl, fun j u hu => ?_⟩⟩;rw [Addr.add_mid, Nat.zero_add];simpa using d2 j u hu
end Go.Proofs.YtomibmenojdieaaGreat
namespace Go.Proofs.YtomibmenojdieaaGreat
open Go.RowKit
open Tr (Nd)
theorem RepL.same {W : World} : ∀ {ks : List Nd} {v : Value}, RepL W ks v → ∀ {ms : List Nd}, RepL W ms v → ks = ms := by
 intro ks v h
 induction h with
 | nil A cap =>
  intro ms hm;obtain ⟨A', c', e⟩ := hm.slice;have hl : (0 : Nat) = ms.length := by injection e
  exact (List.length_eq_zero_iff.1 hl.symm).symm
 | row g o cap ks sl hg hl ht h0 h1 h2 h3 hk ih =>
  intro ms hm;obtain ⟨A', c', e⟩ := hm.slice;have hlen : ks.length = ms.length := by injection e
  rw [e] at hm;have eA : A' = some ⟨g, o, none⟩ := by injection e with e1; exact e1.symm
  subst eA;refine List.ext_getElem hlen fun i hi hj => ?_
  obtain ⟨g', o', sl', e0, _, k0, k1, k2, k3, k4⟩ := hm.get i hj;cases e0;have c0 := (h0 i hi).symm.trans k0;have c1 := (h1 i hi).symm.trans k1;have c2 := (h2 i hi).symm.trans k2;have c3 := (h3 i hi).symm.trans k3;cases c3;have c4 := ih i hi k4;have c5 : ks[i].kind = ms[i].kind := by simpa using c0
  have c6 : ks[i].cols = ms[i].cols := by simpa using c2
  have c7 : ks[i].text = ms[i].text := by
   have : ks[i].text.toArray = ms[i].text.toArray := by simpa using c1
   simpa using this
  cases hx : ks[i] with
  | mk a b c d =>
   cases hy : ms[i] with
   | mk a' b' c' d' =>
    rw [hx, hy] at c4 c5 c6 c7;simp only [Tr.Nd.kids, Tr.Nd.kind, Tr.Nd.cols, Tr.Nd.text] at c4 c5 c6 c7;rw [c4, c5, c6, c7]
inductive TreX (w0 : World) (pend : List Addr) (W : World) : Addr → List Nd → Value → Prop
 | wait (a : Addr) (ks : List Nd) (v : Value) (ha : a ∈ pend) (h : RepL w0 ks v) : TreX w0 pend W a ks v
 | nil (a : Addr) (A : Option Addr) (cap : Nat) : TreX w0 pend W a [] (.slice A 0 cap)
 | row (a : Addr) (g cap : Nat) (ks : List Nd) (sl : Nat → Value) (hB : w0.heap.size + 2 ≤ g) (hg : ∃ cs fr, W.heap[g]? = some (.cells cs 35 fr)) (hl : ks.length ≤ maxLen) (ht : ∀ i (hi : i < ks.length), ks[i].text.length ≤ maxLen)
   (h0 : ∀ i (hi : i < ks.length), W.cell? ⟨g, i * 4, none⟩ = some (.int .i64 ks[i].kind))
   (h1 : ∀ i (hi : i < ks.length), W.cell? ⟨g, i * 4 + 1, none⟩ = some (.string ⟨ks[i].text.toArray⟩))
   (h2 : ∀ i (hi : i < ks.length), W.cell? ⟨g, i * 4 + 2, none⟩ = some (.int .i64 ks[i].cols))
   (h3 : ∀ i, i < ks.length → W.cell? ⟨g, i * 4 + 3, none⟩ = some (sl i))
   (hk : ∀ i (hi : i < ks.length), TreX w0 pend W ⟨g, i * 4, none⟩ ks[i].kids (sl i)) : TreX w0 pend W a ks (.slice (some ⟨g, 0, none⟩) ks.length cap)
theorem TreX.done {w0 W : World} {pend : List Addr} {a : Addr} {ks : List Nd} {v : Value} (h : TreX w0 pend W a ks v) (hp : pend = []) : TreT w0.heap.size W ks v := by
 induction h with
 | wait a ks v ha h => rw [hp] at ha; cases ha
 | nil a A cap => exact .nil A cap
 | row a g cap ks sl hB hg hl ht h0 h1 h2 h3 hk ih => exact .row g cap ks sl (by omega) hg hl ht h0 h1 h2 h3 ih
theorem TreX.mv {w0 W W' : World} {pend : List Addr} {S : Nat → Prop} {a : Addr} {ks : List Nd} {v : Value} (h : TreX w0 pend W a ks v) (ht : Touch S W W') (hS : ∀ k, S k → (k ≤ w0.heap.size + 1) ∨ ∀ cs fr, W.heap[k]? ≠ some (.cells cs 35 fr)) : TreX w0 pend W' a ks v := by
 induction h with
 | wait a ks v ha h => exact .wait a ks v ha h
 | nil a A cap => exact .nil a A cap
 | row a g cap ks sl hB hg hl hx h0 h1 h2 h3 hk ih =>
  obtain ⟨cs, fr, hg⟩ := hg
  have hn : ¬ S g := fun hs => by
   rcases hS g hs with h | h
   ·omega
   ·exact h cs fr hg
  exact .row a g cap ks sl hB ⟨cs, fr, (ht.block g (Array.getElem?_eq_some_iff.1 hg).1 hn).trans hg⟩ hl hx (fun i hi => ht.cell (h0 i hi) hn) (fun i hi => ht.cell (h1 i hi) hn) (fun i hi => ht.cell (h2 i hi) hn) (fun i hi => ht.cell (h3 i hi) hn) ih
theorem TreX.kids {w0 W : World} {pend : List Addr} {a : Addr} {ks ms : List Nd} {A : Option Addr} {n c : Nat} (h : TreX w0 pend W a ks (.slice A n c)) (hm : RepL w0 ms (.slice A n c)) : ks = ms := by
 generalize hv : Value.slice A n c = v at h
 have hml : n = ms.length := by
  obtain ⟨_, _, e⟩ := hm.slice;injection e
 cases h with
 | wait _ _ _ ha h => subst hv; exact h.same hm
 | nil _ A' cap =>
  injection hv with _ e2
  rw [e2] at hml;exact (List.length_eq_zero_iff.1 hml.symm).symm
 | row _ g cap _ sl hB hg hl ht h0 h1 h2 h3 hk =>
  injection hv with e1 e2
  cases hms : ms with
  | nil =>
   rw [hms, List.length_nil, e2] at hml;exact List.length_eq_zero_iff.1 hml
  | cons y ys =>
   obtain ⟨g', o', _, e3, e4, _⟩ := hm.get 0 (by rw [hms]; simp);rw [e1] at e3;cases e3;omega
theorem TreX.swap {w0 W W' : World} {P P' : List Addr} {g0 j : Nat} {cs0 : Array Value} {A : Option Addr} {n c : Nat} {ms : List Nd} {s' : Value} (h0 : Blk W g0 35 cs0) (hj : cs0[j + 3]? = some (.slice A n c)) (h1 : Blk W' g0 35 (cs0.setIfInBounds (j + 3) s')) (ht : Touch (fun k => k = g0) W W')
  (hm : RepL w0 ms (.slice A n c)) (hP : ∀ a ∈ P, a ≠ ⟨g0, j, none⟩ → a ∈ P') (hs : TreX w0 P' W' ⟨g0, j, none⟩ ms s') : ∀ {a : Addr} {ks : List Nd} {v : Value}, a ≠ ⟨g0, j, none⟩ → TreX w0 P W a ks v → TreX w0 P' W' a ks v := by
 have hjl : j + 3 < cs0.size := (Array.getElem?_eq_some_iff.1 hj).1
 have hp' : W'.cell? ⟨g0, j + 3, none⟩ = some s' := by
  have := h1.cell (j + 3);rw [this];simp [hjl]
 have hq : ∀ g i v, W.cell? ⟨g, i, none⟩ = some v → ¬ (g = g0 ∧ i = j + 3) → W'.cell? ⟨g, i, none⟩ = some v := fun g i v h hn => by
  by_cases e : g = g0
  ·subst e
   have hij : i ≠ j + 3 := fun e => hn ⟨rfl, e⟩
   rw [h0.cell i] at h;rw [h1.cell i, Array.getElem?_setIfInBounds_ne (fun e => hij e.symm)];exact h
  ·exact ht.cell h e
 have hp : W.cell? ⟨g0, j + 3, none⟩ = some (.slice A n c) := by rw [h0.cell (j + 3)]; exact hj
 intro a ks v hne h
 have hc : ∀ g i v, W.cell? ⟨g, i, none⟩ = some v → (∀ a b c, v ≠ .slice a b c) → W'.cell? ⟨g, i, none⟩ = some v := fun g i v h hv => by
  refine hq g i v h fun ⟨e1, e2⟩ => ?_
  subst e1 e2;rw [hp] at h;cases h;exact hv _ _ _ rfl
 induction h with
 | wait a ks v ha h => exact .wait a ks v (hP a ha hne) h
 | nil a A cap => exact .nil a A cap
 | row a g cap ks sl hB hg hl hx k0 k1 k2 k3 hk ih =>
  have hz : ∀ i, ∃ t, ∀ (hi : i < ks.length), W'.cell? ⟨g, i * 4 + 3, none⟩ = some t ∧ TreX w0 P' W' ⟨g, i * 4, none⟩ ks[i].kids t := fun i => by
   by_cases hi : i < ks.length
   ·by_cases e : (⟨g, i * 4, none⟩ : Addr) = ⟨g0, j, none⟩
    ·simp only [Addr.mk.injEq, and_true] at e
     have h4 := k3 i hi;rw [e.1, e.2, hp] at h4;have h5 : sl i = .slice A n c := by injection h4 with h4; exact h4.symm
     have h6 := hk i hi;rw [h5] at h6;have h7 := h6.kids hm;refine ⟨s', fun _ => ⟨by rw [e.1, e.2]; exact hp', by rw [h7, e.1, e.2]; exact hs⟩⟩
    ·refine ⟨sl i, fun _ => ⟨hq _ _ _ (k3 i hi) fun e2 => e (by rw [e2.1, show i * 4 = j by omega]), ih i hi e⟩⟩
   ·exact ⟨s', fun h => absurd h hi⟩
  refine .row a g cap ks (fun i => Classical.choose (hz i)) hB ?_ hl hx (fun i hi => hc _ _ _ (k0 i hi) (fun _ _ _ e => by cases e)) (fun i hi => hc _ _ _ (k1 i hi) (fun _ _ _ e => by cases e)) (fun i hi => hc _ _ _ (k2 i hi) (fun _ _ _ e => by cases e))
   (fun i hi => (Classical.choose_spec (hz i) hi).1) (fun i hi => (Classical.choose_spec (hz i) hi).2)
  obtain ⟨cs, fr, e3⟩ := hg
  by_cases e : g = g0
  ·exact ⟨_, _, by rw [e]; exact h1⟩
  ·exact ⟨cs, fr, (ht.block g (Array.getElem?_eq_some_iff.1 e3).1 e).trans e3⟩
end Go.Proofs.YtomibmenojdieaaGreat
