/- Part 1 of 11 of a proof; its texts, joined: Base, Row, LxM, TrM, TrR, Reg, RegB, NdA, NdB. No condition. -/
import Derived.Test.YtilgpmpiidccjaaRows
import Derived.WalkKit
import Derived.WalkSpells
import Derived.WalkLawsBesides
import Derived.Deep.QuietTactic
import Derived.BigQuiet
import Derived.Deep.Draws
import Derived.StillTailTactics
import Derived.Deep.RegionHeld3
import Derived.ProofKit
import Derived.ChangeMaps5
import Derived.WideKeyArgs
import Derived.Lib.SmallJoins
import Derived.Lib.QuietBelow

/- Words for memory used by all walks of this seat: a block known whole, and which blocks a call may turn. -/
namespace Go.Proofs.Ytilgpmpiidccjaa
open Go.RowKit

theorem ret_int {k : IntKind} {a b : Int} (h : a = b) : Ending.returned (.int k a) = .returned (.int k b) := by rw [h]
theorem ret_bool {a b : Bool} (h : a = b) : Ending.returned (.bool a) = .returned (.bool b) := by rw [h]

theorem hid {p : Prop} (h : p) : Hid p := h

/-- Block g is just these cells, none frozen. -/
def Blk (w : World) (g : Nat) (t : TypeId) (cs : Array Value) : Prop := w.heap[g]? = some (.cells cs t (0, 0))

theorem Blk.lt {w : World} {g : Nat} {t : TypeId} {cs : Array Value} (h : Blk w g t cs) : g < w.heap.size := (Array.getElem?_eq_some_iff.1 h).1
theorem Blk.cell {w : World} {g : Nat} {t : TypeId} {cs : Array Value} (h : Blk w g t cs) (i : Nat) : w.cell? ⟨g, i, none⟩ = cs[i]? := by
  unfold Blk at h; simp [World.cell?, h]
theorem Blk.frozen {w : World} {g : Nat} {t : TypeId} {cs : Array Value} (h : Blk w g t cs) (i : Nat) : w.frozen? ⟨g, i, none⟩ = false := by
  unfold Blk at h; simp [World.frozen?, h]
theorem Blk.new (w : World) (t : TypeId) (cs : Array Value) : Blk (w.alloc (.cells cs t)) w.heap.size t cs := heap_alloc_new w _
theorem Blk.new2 (w : World) (o : Obj) (t : TypeId) (cs : Array Value) : Blk ((w.alloc o).alloc (.cells cs t)) (w.heap.size + 1) t cs := by
  have := Blk.new (w.alloc o) t cs
  simpa using this
theorem Blk.drewN {w : World} {g : Nat} {t : TypeId} {cs : Array Value} (h : Blk w g t cs) (n : Nat) : Blk (w.drewN n) g t cs := h
theorem Blk.alloc {w : World} {g : Nat} {t : TypeId} {cs : Array Value} (h : Blk w g t cs) (o : Obj) : Blk (w.alloc o) g t cs := (Below.heap_alloc w o g h.lt).trans h
theorem Blk.put {w : World} {g : Nat} {t : TypeId} {cs : Array Value} (h : Blk w g t cs) (i : Nat) (u : Value) : Blk (w.setCell ⟨g, i, none⟩ u) g t (cs.setIfInBounds i u) := by
  unfold Blk at h ⊢
  simp [World.setCell, Array.getElem?_modify, h]
theorem Blk.far {w : World} {g : Nat} {t : TypeId} {cs : Array Value} (h : Blk w g t cs) {p : Addr} (hp : g ≠ p.block) (u : Value) : Blk (w.setCell p u) g t cs := (Below.heap_setCell w p u g hp).trans h

theorem Blk.four {w : World} {g : Nat} {t : TypeId} {x0 x1 x2 x3 : Value} (h : Blk w g t #[x0, x1, x2, x3]) :
    w.cell? ⟨g, 0, none⟩ = some x0 ∧ w.cell? ⟨g, 1, none⟩ = some x1 ∧ w.cell? ⟨g, 2, none⟩ = some x2 ∧ w.cell? ⟨g, 3, none⟩ = some x3 ∧
    w.frozen? ⟨g, 0, none⟩ = false ∧ w.frozen? ⟨g, 1, none⟩ = false ∧ w.frozen? ⟨g, 2, none⟩ = false ∧ w.frozen? ⟨g, 3, none⟩ = false ∧ g < w.heap.size :=
  ⟨h.cell 0, h.cell 1, h.cell 2, h.cell 3, h.frozen 0, h.frozen 1, h.frozen 2, h.frozen 3, h.lt⟩

/-- From w to w' only blocks of S and new ones have turned. -/
structure Touch (S : Nat → Prop) (w w' : World) : Prop where
  os : w'.os = w.os
  tape : w'.tape = w.tape
  output : w'.output = w.output
  size : w.heap.size ≤ w'.heap.size
  block : ∀ k, k < w.heap.size → ¬ S k → w'.heap[k]? = w.heap[k]?

namespace Touch
variable {S S' : Nat → Prop} {a b c w w' : World}
theorem refl (S : Nat → Prop) (w : World) : Touch S w w := ⟨rfl, rfl, rfl, Nat.le_refl _, fun _ _ _ => rfl⟩
theorem trans' (h : Touch S a b) (k : Touch S' b c) (hS : ∀ i, S' i → S i ∨ a.heap.size ≤ i) : Touch S a c :=
  ⟨k.os.trans h.os, k.tape.trans h.tape, k.output.trans h.output, Nat.le_trans h.size k.size, fun i hi hn =>
    (k.block i (Nat.lt_of_lt_of_le hi h.size) (fun hs => (hS i hs).elim hn (fun hle => absurd hi (by omega)))).trans (h.block i hi hn)⟩
theorem trans (h : Touch S a b) (k : Touch S b c) : Touch S a c := h.trans' k fun _ hs => .inl hs
theorem mono (h : Touch S a b) (hS : ∀ i, S i → S' i) : Touch S' a b := ⟨h.os, h.tape, h.output, h.size, fun i hi hn => h.block i hi (fun hs => hn (hS i hs))⟩
theorem drew (h : Touch S a w) : Touch S a w.drew := ⟨h.os, h.tape, h.output, h.size, h.block⟩
theorem drewN (h : Touch S a w) (n : Nat) : Touch S a (w.drewN n) := ⟨h.os, h.tape, h.output, h.size, h.block⟩
theorem alloc (h : Touch S a w) (o : Obj) : Touch S a (w.alloc o) :=
  h.trans ⟨rfl, rfl, rfl, by simp, fun i hi _ => Below.heap_alloc _ _ _ hi⟩
theorem setCell (h : Touch S a w) {p : Addr} (hp : S p.block ∨ a.heap.size ≤ p.block) (u : Value) : Touch S a (w.setCell p u) :=
  ⟨h.os, h.tape, h.output, by simpa [World.setCell] using h.size, fun i hi hn => (Below.heap_setCell w p u i (by
    rintro rfl
    exact hp.elim hn (fun hle => absurd hi (by omega)))).trans (h.block i hi hn)⟩
theorem grown (h : Touch S a w) {row : Option Nat} (hg : w.grownBy w' row) (hr : ∀ g, row = some g → S g ∨ a.heap.size ≤ g) : Touch S a w' :=
  ⟨hg.os.trans h.os, hg.tape.trans h.tape, hg.output.trans h.output, Nat.le_trans h.size hg.size, fun i hi hn =>
    (hg.block i (Nat.lt_of_lt_of_le hi h.size) (fun e => (hr i e.symm).elim hn (fun hle => absurd hi (by omega)))).trans (h.block i hi hn)⟩
theorem below (h : Touch S a w) {B : Nat} (hB : B ≤ a.heap.size) (hS : ∀ i, S i → B ≤ i) : Below B a w :=
  ⟨h.os, h.tape, h.output, h.size, fun i hi => h.block i (by omega) (fun hs => by have := hS i hs; omega)⟩
theorem of_below {B : Nat} (h : Below B a w) (hS : ∀ i, B ≤ i → i < a.heap.size → S i) : Touch S a w :=
  ⟨h.os, h.tape, h.output, h.size, fun i hi hn => h.block i (by
    rcases Nat.lt_or_ge i B with h' | h'
    · exact h'
    · exact absurd (hS i h' hi) hn)⟩
theorem blk (h : Touch S w w') {g : Nat} {t : TypeId} {cs : Array Value} (hb : Blk w g t cs) (hn : ¬ S g) : Blk w' g t cs := (h.block g hb.lt hn).trans hb
theorem cell (h : Touch S w w') {p : Addr} {v : Value} (hc : w.cell? p = some v) (hn : ¬ S p.block) : w'.cell? p = some v := by
  have hlt : p.block < w.heap.size := by
    rcases Nat.lt_or_ge p.block w.heap.size with h' | h'
    · exact h'
    · simp [World.cell?, Array.getElem?_eq_none h'] at hc
  exact (World.cell?_of_block (w := w) (h.block p.block hlt hn)).trans hc
theorem frozen (h : Touch S w w') {p : Addr} (hlt : p.block < w.heap.size) (hn : ¬ S p.block) : w'.frozen? p = w.frozen? p :=
  World.frozen?_of_block (w := w) (h.block p.block hlt hn)
end Touch

theorem Touch.setRow {S : Nat → Prop} {a w : World} (h : Touch S a w) {g : Nat} (hg : S g ∨ a.heap.size ≤ g) (cs : Array Value) : Touch S a (w.setRow g cs) :=
  ⟨h.os, h.tape, h.output, by simpa [World.setRow] using h.size, fun i hi hn => (setRow_other w g i cs (by
    rintro rfl
    exact hg.elim hn (fun hle => absurd hi (by omega)))).trans (h.block i hi hn)⟩
/-- Four stores into a block g. -/
def put4 (w : World) (g : Nat) (x0 x1 x2 x3 : Value) : World := (((w.setCell ⟨g, 0, none⟩ x0).setCell ⟨g, 1, none⟩ x1).setCell ⟨g, 2, none⟩ x2).setCell ⟨g, 3, none⟩ x3
theorem Blk.far4 {w : World} {L g : Nat} {t : TypeId} {cs : Array Value} (h : Blk w L t cs) (hne : L ≠ g) (x0 x1 x2 x3 : Value) : Blk (put4 w g x0 x1 x2 x3) L t cs :=
  (((h.far (p := ⟨g, 0, none⟩) hne _).far (p := ⟨g, 1, none⟩) hne _).far (p := ⟨g, 2, none⟩) hne _).far (p := ⟨g, 3, none⟩) hne _
theorem Touch.put4 {S : Nat → Prop} {w w' : World} {g : Nat} (h : Touch S w w') (hg : S g ∨ w.heap.size ≤ g) (x0 x1 x2 x3 : Value) : Touch S w (put4 w' g x0 x1 x2 x3) :=
  (((h.setCell (p := ⟨g, 0, none⟩) hg _).setCell (p := ⟨g, 1, none⟩) hg _).setCell (p := ⟨g, 2, none⟩) hg _).setCell (p := ⟨g, 3, none⟩) hg _
/-- A block laid ahead of a call counts for nothing behind it. -/
theorem Touch.pre {S : Nat → Prop} {w w' : World} {o : Obj} (h : Touch S (w.alloc o) w') : Touch S w w' := ((Touch.refl S w).alloc o).trans h
theorem Touch.preN {S : Nat → Prop} {w w' : World} {o : Obj} {n : Nat} (h : Touch S ((w.alloc o).drewN n) w') : Touch S w w' := (((Touch.refl S w).alloc o).drewN n).trans h
theorem Touch.ofN {S : Nat → Prop} {w w' : World} {n : Nat} (h : Touch S (w.drewN n) w') : Touch S w w' := ((Touch.refl S w).drewN n).trans h

/-- Nothing that was there has turned. -/
abbrev Fresh (w w' : World) : Prop := Touch (fun _ => False) w w'
theorem Fresh.below {w w' : World} (h : Fresh w w') : Below w.heap.size w w' := Touch.below h (Nat.le_refl _) (fun _ hf => hf.elim)
theorem fresh_of_below {w w' : World} (h : Below w.heap.size w w') : Fresh w w' := Touch.of_below h fun _ h1 h2 => absurd h2 (by omega)
end Go.Proofs.Ytilgpmpiidccjaa

/- A general law for the rows of this seat: a law that returns true and only makes new memory leaves its arguments reading as they did. -/
namespace Go.Proofs.Ytilgpmpiidccjaa
open Go.ChangeShapes Go.WideShapes Go.ChangeAt Go.RowKit
open Go.ChangeMaps (open_string shut_string)

theorem Try.ownKnob : ownKnob Try.prog.godebug = none := by kernel_rfl
theorem Try.laidOut : laidOutB Try.prog = true := by kernel_rfl

section
variable {H : Type} {enc : TypeId × Value → H} {P : Program}
theorem post_of_below {f : Func} {s : ChangeSpec} {apart fresh handsOn again : Bool} {W W' : World} {args : Array Value} {v : Value} {ds gs : List (DataW H)} {before pa pv : List MemPlace}
    (hW : DataW.Whole enc P f.params.toList s.vars apart W args.toList ds gs before)
    (hres : ∀ (b : Nat) (sp : Nat → Bool) (hd : Bool), DataW.TrodAll enc P W' b sp hd f.resultTypes.toList (v.resultList f.resultTypes.size) (s.fn H (ds ++ gs)).results [])
    (hargs : ∀ sp : Nat → Bool, (∀ p ∈ before, sp p.block = true) → DataW.TrodAll enc P W' 0 sp true f.params.toList args.toList (s.fn H (ds ++ gs)).args pa)
    (hvars : ∀ sp : Nat → Bool, (∀ p ∈ before, sp p.block = true) → DataW.TrodVars enc P W' sp s.vars (s.fn H (ds ++ gs)).vars pv)
    (hps : before = pa ++ pv) (hb : Below W.heap.size W W')
    (hok : ∀ (j : Nat) (t : TypeId) (r : Value), f.resultTypes[j]? = some t → (v.resultList f.resultTypes.size)[j]? = some r → Value.okWide P W' .any 0 t r) :
    s.post enc P f apart fresh handsOn again W args v W' := by
  have hlt : ∀ p ∈ before, p.block < W.heap.size := fun p hp => hW.lt p hp
  have hold : ∀ p ∈ before, (fun b => decide (b < W.heap.size)) p.block = true := fun p hp => by simpa using hlt p hp
  refine ⟨ds, gs, before, [], pa, pv, hW, hres _ _ _, hargs _ hold, hvars _ hold, World.keptBut_mono (fun p hp => ⟨hp, ?_⟩) (hb.frame (· ∈ before)), fun _ => ?_⟩
  · rw [hps, List.mem_append] at hp
    exact Or.inr hp
  · obtain ⟨_, _, _, _, _, hz, hn⟩ := hW
    refine ⟨hok, _, _, ([] ++ pa) ++ pv, ⟨[] ++ pa, pv, trodAll_append (hargs _ (fun _ _ => rfl)) (hres _ _ _), hvars _ (fun _ _ => rfl), rfl, ?_, ?_⟩, ?_⟩
    · intro b off hp
      have hin : MemPlace.cell b off ∈ before := by rw [hps]; simpa using hp
      rw [hb.frozen (hlt _ hin)]
      exact hz b off hin
    · intro ha
      have := hn ha
      rw [hps] at this
      simpa using this
    · intro p hp _
      rw [hps]
      simpa using hp

theorem trodAll_stays (hl : laidOutB P = true) {W W' : World} {sp' : Nat → Bool} (hb : Below W.heap.size W W') : ∀ {ts : List TypeId} {vs : List Value} {ds : List (DataW H)} {ps : List MemPlace}, (∀ t ∈ ts, P.readableRec t = true ∧ t < P.types.size) →
    DataW.TrodAll enc P W 0 (fun _ => true) true ts vs ds ps → (∀ x ∈ ps, x.block < W.heap.size) → (∀ x ∈ ps, sp' x.block = true) → DataW.TrodAll enc P W' 0 sp' true ts vs ds ps
  | [], [], [], _, _, h, _, _ => h
  | _ :: _, _ :: _, _ :: _, _, ht, ⟨p, q, h1, h2, e⟩, hlt, hs => by
    subst e
    exact ⟨p, q, WideElems.Trod_stays hl (ht _ (List.mem_cons_self ..)).1 (ht _ (List.mem_cons_self ..)).2 h1 (fun x hx => hb.same (hlt x (List.mem_append_left _ hx))) (fun x hx => hs x (List.mem_append_left _ hx)),
      trodAll_stays hl hb (fun t h => ht t (List.mem_cons_of_mem _ h)) h2 (fun x hx => hlt x (List.mem_append_right _ hx)) (fun x hx => hs x (List.mem_append_right _ hx)), rfl⟩

/-- The end of a law that returns true. -/
theorem post_true {f : Func} {s : ChangeSpec} {W W' : World} {args : Array Value} {ds : List (DataW H)} {before : List MemPlace} {tb : TypeId} (hl : laidOutB P = true)
    (htb : P.underlying tb = some .bool) (hres : f.resultTypes = #[tb]) (hp : (f.params.toList.all fun t => P.readableRec t && decide (t < P.types.size)) = true) (hv : s.vars = [])
    (hfn : s.fn H ds = ({ results := [.lit (.bool true)], args := ds } : Left H))
    (hW : DataW.Whole enc P f.params.toList s.vars false W args.toList ds [] before) (hb : Fresh W W') : s.post enc P f false true false false W args (.bool true) W' := by
  have hW' := hW
  obtain ⟨p, q, hA, hV, rfl, hfz, hnd⟩ := hW
  have hlt := hW'.lt
  rw [hv] at hV
  obtain ⟨_, rfl⟩ := trodVars_none hV
  have hpt : ∀ t ∈ f.params.toList, P.readableRec t = true ∧ t < P.types.size := fun t ht => by
    have := List.all_eq_true.1 hp t ht
    simpa using this
  refine post_of_below (pa := p) (pv := []) (gs := []) hW' ?_ ?_ ?_ rfl hb.below ?_
  · intro b sp hd
    rw [hres, List.append_nil, hfn]
    exact trodAll_mk1 (shut_bool htb _)
  · intro sp hs
    rw [List.append_nil, hfn]
    exact trodAll_stays hl hb.below hpt hA (fun x hx => hlt x (List.mem_append_left _ hx)) (fun x hx => hs x (List.mem_append_left _ hx))
  · intro sp hs
    rw [hv, List.append_nil, hfn]
    rfl
  · exact ok_one (f := f) (t := tb) hres rfl (okWide_bool_mk htb _)
end
end Go.Proofs.Ytilgpmpiidccjaa

/- The lexer of layer 18 as plain functions on lists of bytes: no program in sight. -/
namespace Go.Proofs.Ytilgpmpiidccjaa.Lx

abbrev Bytes := List UInt8

/-- The classes of characters. -/
def cls (c : Nat) : Nat :=
  if c = 32 ∨ c = 9 ∨ c = 10 then 1
  else if 48 ≤ c ∧ c ≤ 57 then 2
  else if (97 ≤ c ∧ c ≤ 122) ∨ (65 ≤ c ∧ c ≤ 90) then 3
  else if c ∈ [43, 45, 42, 47, 61, 60, 62, 44, 59, 58, 33, 124, 39, 63, 126, 64] then 4
  else if c ∈ [123, 125, 40, 41, 91, 93, 94, 95, 38] then 5
  else 0

def isB (k : Nat) (b : UInt8) : Bool := cls b.toNat == k
/-- How many bytes of a class a list begins with. -/
def runLen (k : Nat) (l : Bytes) : Nat := (l.takeWhile (isB k)).length
/-- Is the byte with an index of a class? -/
def isAt (k : Nat) (l : Bytes) (i : Nat) : Bool := match l[i]? with | some b => isB k b | none => false

/-- The class of the byte with an index, -1 behind the end. -/
def clsI (l : Bytes) (i : Nat) : Int := match l[i]? with | some b => (cls b.toNat : Int) | none => -1
theorem clsI_lt (l : Bytes) (i : Nat) (h : i < l.length) : clsI l i = (cls l[i].toNat : Int) := by simp [clsI, List.getElem?_eq_getElem h]
theorem clsI_ge (l : Bytes) (i : Nat) (h : l.length ≤ i) : clsI l i = -1 := by simp [clsI, List.getElem?_eq_none h]

/-- How many bytes of a class there are from an index on. -/
def runI (c : Int) (l : Bytes) (k : Nat) : Nat := ((l.drop k).takeWhile fun b => (cls b.toNat : Int) == c).length
theorem runI_yes (c : Int) (l : Bytes) (k : Nat) (hc : 0 ≤ c) (h : clsI l k = c) : k < l.length ∧ k + 1 + runI c l (k + 1) = k + runI c l k := by
  rcases Nat.lt_or_ge k l.length with hk | hk
  · refine ⟨hk, ?_⟩
    rw [clsI_lt l k hk] at h
    unfold runI
    rw [List.drop_eq_getElem_cons hk, List.takeWhile_cons]
    simp only [h, BEq.rfl, ↓reduceIte, List.length_cons]
    omega
  · rw [clsI_ge l k hk] at h; omega
theorem runI_no (c : Int) (l : Bytes) (k : Nat) (h : clsI l k ≠ c) : runI c l k = 0 := by
  unfold runI
  rcases Nat.lt_or_ge k l.length with hk | hk
  · rw [List.drop_eq_getElem_cons hk, List.takeWhile_cons]
    rw [clsI_lt l k hk] at h
    simp [h]
  · rw [List.drop_eq_nil_of_le hk]; rfl
theorem runI_le (c : Int) (l : Bytes) (k : Nat) : runI c l k ≤ l.length - k := by
  unfold runI
  have := (List.takeWhile_sublist (fun b : UInt8 => (cls b.toNat : Int) == c) (l := l.drop k)).length_le
  rwa [List.length_drop] at this

structure Tok where
  kind : Nat
  text : Bytes
  deriving DecidableEq

/-- What is read at a place: a token with its length, or an error with its place behind the beginning. -/
inductive Res where
  | ok (t : Tok) (n : Nat)
  | err (at_ e : Nat)
  deriving DecidableEq

def lim (most : Nat) (t : Tok) (n : Nat) : Res := if most < t.text.length then .err 0 6 else .ok t n

def numLen (r : Bytes) : Nat :=
  if r[runLen 2 r]? = some 46 ∧ isAt 2 r (runLen 2 r + 1) = true then runLen 2 r + 1 + runLen 2 (r.drop (runLen 2 r + 1)) else runLen 2 r

def number (r : Bytes) : Res := lim 20 ⟨2, r.take (numLen r)⟩ (numLen r)

/-- The rest of a quoted text: what has been read, and how many bytes. -/
def quo : Bytes → Bytes → Nat → Res
  | [], _, _ => .err 0 12
  | c :: q, acc, i =>
    if c = 34 then lim 200 ⟨3, acc⟩ (i + 1)
    else if c < 32 ∨ 126 < c then .err i 3
    else if c = 92 then
      match q with
      | [] => .err i 3
      | d :: q' => if d = 34 ∨ d = 92 then quo q' (acc ++ [d]) (i + 2) else .err i 3
    else quo q (acc ++ [c]) (i + 1)

def isDelim (b : UInt8) : Bool := [40, 41, 91, 93, 123, 125, 60, 62, 47, 124, 46].contains b
def delimAt (r : Bytes) (i : Nat) : Bool := match r[i]? with | some b => isDelim b | none => false

def name (r : Bytes) : Res :=
  let n := runLen 3 (r.drop 1)
  if (r.drop 1).take n ≠ [102, 101, 110, 99, 101] then lim 16 ⟨4, (r.drop 1).take n⟩ (1 + n)
  else if delimAt r (1 + n) = true ∧ delimAt r (2 + n) = true then .ok ⟨5, (r.drop (1 + n)).take 2⟩ (3 + n)
  else .err 0 3

def parAt (q : Bytes) : Bool := match q with | d :: _ => decide (49 ≤ d ∧ d ≤ 52) | [] => false

/-- The token that a text begins with. -/
def next (r : Bytes) : Res :=
  match r with
  | [] => .err 0 3
  | c :: q =>
    if isB 2 c then number r
    else if isB 5 c then .ok ⟨7, [c]⟩ 1
    else if c = 34 then quo q [] 1
    else if c = 92 ∧ q.head? = some 92 then .ok ⟨8, [92, 92]⟩ 2
    else if c = 92 ∧ isAt 3 q 0 = true then name r
    else if c = 35 ∧ parAt q = true then .ok ⟨6, q.take 1⟩ 2
    else if isB 3 c ∨ isB 4 c then .ok ⟨1, [c]⟩ 1
    else .err 0 3


theorem quo_end (l acc : Bytes) (j i : Nat) (h : l.length ≤ j) : quo (l.drop j) acc i = .err 0 12 := by rw [List.drop_eq_nil_of_le h]; rfl
theorem quo_cons (l acc : Bytes) (j i : Nat) (h : j < l.length) : quo (l.drop j) acc i =
    if l[j] = 34 then lim 200 ⟨3, acc⟩ (i + 1)
    else if l[j] < 32 ∨ 126 < l[j] then .err i 3
    else if l[j] = 92 then
      match l.drop (j + 1) with
      | [] => .err i 3
      | d :: q' => if d = 34 ∨ d = 92 then quo q' (acc ++ [d]) (i + 2) else .err i 3
    else quo (l.drop (j + 1)) (acc ++ [l[j]]) (i + 1) := by
  rw [List.drop_eq_getElem_cons h]
  rw [quo.eq_def]
theorem quo_esc (l acc : Bytes) (j i : Nat) (h : j < l.length) (hc : l[j] = 92) (h1 : j + 1 < l.length) : quo (l.drop j) acc i =
    if l[j + 1] = 34 ∨ l[j + 1] = 92 then quo (l.drop (j + 2)) (acc ++ [l[j + 1]]) (i + 2) else .err i 3 := by
  rw [quo_cons l acc j i h, hc, if_neg (by decide), if_neg (by decide), if_pos rfl, List.drop_eq_getElem_cons h1]
theorem quo_esc_end (l acc : Bytes) (j i : Nat) (h : j < l.length) (hc : l[j] = 92) (h1 : l.length ≤ j + 1) : quo (l.drop j) acc i = .err i 3 := by
  rw [quo_cons l acc j i h, hc, if_neg (by decide), if_neg (by decide), if_pos rfl, List.drop_eq_nil_of_le h1]
theorem quo_plain (l acc : Bytes) (j i : Nat) (h : j < l.length) (h1 : l[j] ≠ 34) (h2 : ¬ (l[j] < 32 ∨ 126 < l[j])) (h3 : l[j] ≠ 92) : quo (l.drop j) acc i = quo (l.drop (j + 1)) (acc ++ [l[j]]) (i + 1) := by
  rw [quo_cons l acc j i h, if_neg h1, if_neg h2, if_neg h3]


/-- A token with its place. -/
structure PTok where
  kind : Nat
  text : Bytes
  from_ : Nat
  to_ : Nat
  deriving DecidableEq

def skip (l : Bytes) (a : Nat) : Nat := a + runI 1 l a

/-- The tokens from an offset on, and the error that ends them, if there is one. -/
def lexGo (l : Bytes) : Nat → Nat → List PTok × Option (Nat × Nat)
  | 0, _ => ([], none)
  | fuel + 1, a =>
    if l.length ≤ skip l a then ([], none)
    else match next (l.drop (skip l a)) with
      | .err i e => ([], some (skip l a + i, e))
      | .ok t n => (⟨t.kind, t.text, skip l a, skip l a + n⟩ :: (lexGo l fuel (skip l a + n)).1, (lexGo l fuel (skip l a + n)).2)

theorem lim_ok {most : Nat} {t t' : Tok} {n n' : Nat} (h : lim most t n = .ok t' n') : t' = t ∧ n' = n := by
  unfold lim at h
  split at h
  · cases h
  · injection h with h1 h2; exact ⟨h1.symm, h2.symm⟩

theorem quo_pos : ∀ (q acc : Bytes) (i : Nat) (t : Tok) (n : Nat), quo q acc i = .ok t n → i < n ∧ n ≤ i + q.length
  | [], _, _, _, _, h => by rw [quo.eq_def] at h; cases h
  | [c], acc, i, t, n, h => by
    rw [quo.eq_def] at h
    simp only at h
    split at h
    · have := (lim_ok h).2; simp; omega
    · split at h
      · cases h
      · split at h
        · cases h
        · rw [quo.eq_def] at h; cases h
  | c :: d :: q, acc, i, t, n, h => by
    rw [quo.eq_def] at h
    simp only at h
    split at h
    · have := (lim_ok h).2; simp; omega
    · split at h
      · cases h
      · split at h
        · split at h
          · have := quo_pos q _ _ _ _ h; simp; omega
          · cases h
        · have := quo_pos (d :: q) _ _ _ _ h; simp at this ⊢; omega

theorem runLen_le (k : Nat) (l : Bytes) : runLen k l ≤ l.length := (List.takeWhile_sublist _).length_le

theorem numLen_le (r : Bytes) : numLen r ≤ r.length := by
  unfold numLen
  split
  · rename_i h
    have h1 := runLen_le 2 (r.drop (runLen 2 r + 1))
    rw [List.length_drop] at h1
    have h2 := h.1
    have h3 : runLen 2 r < r.length := (List.getElem?_eq_some_iff.1 h2).1
    omega
  · exact runLen_le 2 r

theorem next_pos (r : Bytes) (t : Tok) (n : Nat) (h : next r = .ok t n) : 0 < n ∧ n ≤ r.length := by
  unfold next at h
  split at h
  · cases h
  · rename_i c q
    split at h
    · rename_i hc
      obtain ⟨_, rfl⟩ := lim_ok h
      refine ⟨?_, numLen_le _⟩
      have : 0 < runLen 2 (c :: q) := by unfold runLen; rw [List.takeWhile_cons, if_pos hc]; simp
      unfold numLen
      split <;> omega
    · split at h
      · cases h; simp
      · split at h
        · have := quo_pos _ _ _ _ _ h; simp; omega
        · split at h
          · rename_i hc
            cases h
            cases q with
            | nil => cases hc.2
            | cons => simp
          · split at h
            · unfold name at h
              simp only at h
              have hr := runLen_le 3 ((c :: q).drop 1)
              simp only [List.drop_succ_cons, List.drop_zero] at hr
              split at h
              · obtain ⟨_, rfl⟩ := lim_ok h
                simp only [List.drop_succ_cons, List.drop_zero, List.length_cons]; omega
              · split at h
                · rename_i hd
                  injection h with _ h2
                  subst h2
                  have hx := hd.2
                  unfold delimAt at hx
                  split at hx
                  · rename_i b hb
                    have := (List.getElem?_eq_some_iff.1 hb).1
                    simp only [List.drop_succ_cons, List.drop_zero, List.length_cons] at *
                    omega
                  · cases hx
                · cases h
            · split at h
              · rename_i hc
                cases h
                cases q with
                | nil => cases hc.2
                | cons => simp
              · split at h
                · cases h; simp
                · cases h

theorem skip_le (l : Bytes) (a : Nat) (h : a ≤ l.length) : a ≤ skip l a ∧ skip l a ≤ l.length := by
  have := runI_le 1 l a
  unfold skip; omega

/-- Any fuel that is great enough does. -/
theorem lexGo_fuel (l : Bytes) : ∀ (f g a : Nat), l.length < a + f → l.length < a + g → lexGo l f a = lexGo l g a
  | 0, g, a, hf, hg => by
    cases g with
    | zero => rfl
    | succ g => rw [lexGo, lexGo, if_pos (by unfold skip; omega)]
  | f + 1, 0, a, hf, hg => by rw [lexGo, lexGo, if_pos (by unfold skip; omega)]
  | f + 1, g + 1, a, hf, hg => by
    rw [lexGo, lexGo]
    split
    · rfl
    · rename_i hl
      cases hn : next (l.drop (skip l a)) with
      | err i e => rfl
      | ok t n =>
        have hp := (next_pos _ _ _ hn).1
        have : skip l a + n = skip l a + n := rfl
        simp only
        rw [lexGo_fuel l f g (skip l a + n) (by unfold skip; omega) (by unfold skip; omega)]

/-- All tokens of a text, and the error that ends them. -/
def lexAll (l : Bytes) : List PTok × Option (Nat × Nat) := lexGo l (l.length + 1) 0
/-- The tokens from an offset on. -/
def lexFrom (l : Bytes) (a : Nat) : List PTok × Option (Nat × Nat) := lexGo l (l.length + 1) a
theorem lexFrom_end (l : Bytes) (a : Nat) (h : l.length ≤ skip l a) : lexFrom l a = ([], none) := by unfold lexFrom; rw [lexGo, if_pos h]
theorem lexFrom_err (l : Bytes) (a i e : Nat) (h : skip l a < l.length) (hn : next (l.drop (skip l a)) = .err i e) : lexFrom l a = ([], some (skip l a + i, e)) := by
  unfold lexFrom; rw [lexGo, if_neg (by omega), hn]
theorem lexFrom_ok (l : Bytes) (a n : Nat) (t : Tok) (h : skip l a < l.length) (hn : next (l.drop (skip l a)) = .ok t n) :
    lexFrom l a = (⟨t.kind, t.text, skip l a, skip l a + n⟩ :: (lexFrom l (skip l a + n)).1, (lexFrom l (skip l a + n)).2) := by
  have hp := (next_pos _ _ _ hn).1
  unfold lexFrom
  conv => lhs; rw [lexGo, if_neg (by omega), hn]
  simp only
  rw [lexGo_fuel l l.length (l.length + 1) (skip l a + n) (by unfold skip; omega) (by omega)]


theorem lim_err {most : Nat} {t : Tok} {n i e : Nat} (h : lim most t n = .err i e) : e ≠ 0 := by
  unfold lim at h
  split at h
  · cases h; decide
  · cases h

theorem quo_err : ∀ (q acc : Bytes) (i a e : Nat), quo q acc i = .err a e → e ≠ 0
  | [], _, _, _, _, h => by rw [quo.eq_def] at h; cases h; decide
  | [c], acc, i, a, e, h => by
    rw [quo.eq_def] at h
    simp only at h
    split at h
    · exact lim_err h
    · split at h
      · cases h; decide
      · split at h
        · cases h; decide
        · rw [quo.eq_def] at h; cases h; decide
  | c :: d :: q, acc, i, a, e, h => by
    rw [quo.eq_def] at h
    simp only at h
    split at h
    · exact lim_err h
    · split at h
      · cases h; decide
      · split at h
        · split at h
          · exact quo_err q _ _ _ _ h
          · cases h; decide
        · exact quo_err (d :: q) _ _ _ _ h

theorem next_err (r : Bytes) (i e : Nat) (h : next r = .err i e) : e ≠ 0 := by
  unfold next at h
  split at h
  · cases h; decide
  · split at h
    · exact lim_err h
    · split at h
      · cases h
      · split at h
        · exact quo_err _ _ _ _ _ h
        · split at h
          · cases h
          · split at h
            · unfold name at h
              simp only at h
              split at h
              · exact lim_err h
              · split at h
                · cases h
                · cases h; decide
            · split at h
              · cases h
              · split at h
                · cases h
                · cases h; decide

theorem lexGo_err (l : Bytes) : ∀ (f a p e : Nat), (lexGo l f a).2 = some (p, e) → e ≠ 0
  | 0, _, _, _, h => by cases h
  | f + 1, a, p, e, h => by
    rw [lexGo] at h
    split at h
    · cases h
    · cases hn : next (l.drop (skip l a)) with
      | err i er =>
        rw [hn] at h
        simp only [Option.some.injEq, Prod.mk.injEq] at h
        obtain ⟨_, rfl⟩ := h
        exact next_err _ _ _ hn
      | ok t n =>
        rw [hn] at h
        exact lexGo_err l f _ p e h

end Go.Proofs.Ytilgpmpiidccjaa.Lx

/- Formula trees as plain data, and when they are valid: no program in sight. -/
namespace Go.Proofs.Ytilgpmpiidccjaa.Tr

abbrev Bytes := List UInt8

inductive Nd where
  | mk (kind : Int) (text : Bytes) (cols : Int) (kids : List Nd)

namespace Nd
def kind : Nd → Int | mk k _ _ _ => k
def text : Nd → Bytes | mk _ t _ _ => t
def cols : Nd → Int | mk _ _ c _ => c
def kids : Nd → List Nd | mk _ _ _ ks => ks
end Nd
theorem Nd.eta (n : Nd) : n = .mk n.kind n.text n.cols n.kids := by cases n; rfl

mutual
/-- The number of nodes. -/
def count : Nd → Nat
  | .mk _ _ _ ks => 1 + countL ks
def countL : List Nd → Nat
  | [] => 0
  | n :: ns => count n + countL ns
end
mutual
/-- The greatest number of nodes on a path. -/
def depth : Nd → Nat
  | .mk _ _ _ ks => depthL ks + 1
def depthL : List Nd → Nat
  | [] => 0
  | n :: ns => max (depth n) (depthL ns)
end

theorem count_pos (n : Nd) : 0 < count n := by cases n; rw [count]; omega
theorem depth_pos (n : Nd) : 0 < depth n := by cases n; rw [depth]; omega
theorem count_kids (n : Nd) : count n = 1 + countL n.kids := by cases n; rw [count]; rfl
theorem depth_kids (n : Nd) : depth n = depthL n.kids + 1 := by cases n; rw [depth]; rfl
theorem countL_take (l : List Nd) (i : Nat) (h : i < l.length) : countL (l.take (i + 1)) = countL (l.take i) + count l[i] := by
  induction l generalizing i with
  | nil => simp at h
  | cons x l ih =>
    cases i with
    | zero => simp [countL]
    | succ i =>
      simp only [List.take_succ_cons, countL, List.getElem_cons_succ]
      rw [ih i (by simpa using h)]; omega
theorem countL_le (l : List Nd) (i : Nat) : countL (l.take i) ≤ countL l := by
  induction l generalizing i with
  | nil => simp [countL]
  | cons x l ih =>
    cases i with
    | zero => simp [countL]
    | succ i => simp only [List.take_succ_cons, countL]; have := ih i; omega
theorem count_mem {l : List Nd} {n : Nd} (h : n ∈ l) : count n ≤ countL l := by
  induction l with
  | nil => cases h
  | cons x l ih =>
    rw [countL]
    rcases List.mem_cons.1 h with rfl | h
    · omega
    · have := ih h; omega
theorem countL_len (l : List Nd) : l.length ≤ countL l := by
  induction l with
  | nil => simp [countL]
  | cons x l ih => rw [countL]; have := count_pos x; simp; omega

/-- An induction on trees through their kids. -/
theorem Nd.ind {p : Nd → Prop} (h : ∀ n, (∀ m ∈ n.kids, p m) → p n) (n : Nd) : p n := by
  have : ∀ k n, count n ≤ k → p n := by
    intro k
    induction k with
    | zero => intro n hn; have := count_pos n; omega
    | succ k ih =>
      intro n hn
      refine h n fun m hm => ih m ?_
      have := count_mem hm
      have := count_kids n
      omega
  exact this _ n (Nat.le_refl _)

def letter (b : UInt8) : Bool := (decide (97 ≤ b) && decide (b ≤ 122)) || (decide (65 ≤ b) && decide (b ≤ 90))
def digit (b : UInt8) : Bool := decide (48 ≤ b) && decide (b ≤ 57)
def signs : Bytes := [43, 45, 42, 47, 61, 60, 62, 44, 59, 58, 33, 124, 39, 63, 126, 64]
def delims : Bytes := [40, 41, 91, 93, 123, 125, 124, 60, 62, 47, 46]
def keywords : List Bytes := [[102, 114, 97, 99], [114, 111, 111, 116], [109, 97, 116, 114, 105, 120], [102, 101, 110, 99, 101]]
def accents : List Bytes := [[104, 97, 116], [98, 97, 114], [118, 101, 99], [100, 111, 116], [116, 105, 108, 100, 101], [99, 104, 101, 99, 107]]
def character (b : UInt8) : Bool := letter b || signs.contains b
def symbol (s : Bytes) : Bool :=
  match s with
  | [c] => character c
  | s => s.all letter && decide (2 ≤ s.length) && decide (s.length ≤ 16) && !keywords.contains s && !accents.contains s
def isNum (s : Bytes) : Bool :=
  decide (s.length ≤ 20) && decide (s ≠ []) &&
  (s.all digit || match s.dropWhile (· ≠ 46) with | _ :: b => decide (s.takeWhile (· ≠ 46) ≠ []) && (s.takeWhile (· ≠ 46)).all digit && decide (b ≠ []) && b.all digit | [] => false)
def printable (s : Bytes) : Bool := s.all fun b => decide (32 ≤ b) && decide (b ≤ 126)
def fence (s : Bytes) : Bool := match s with | [a, b] => delims.contains a && delims.contains b | _ => false

/-- Does the text of a node conform to its kind? -/
def textOK (k : Int) (s : Bytes) : Bool :=
  if k = 2 then symbol s else if k = 3 then isNum s else if k = 4 then decide (s.length ≤ 200) && printable s
  else if k = 10 then accents.contains s else if k = 11 then fence s else s.isEmpty
/-- Do the columns and the number of kids of a node conform to its kind? -/
def kidsOK (k c : Int) (n : Nat) : Bool :=
  if k = 12 then decide (1 ≤ c) && decide (c ≤ 16) && decide (1 ≤ n) && decide (n ≤ 256) && decide ((n : Int) % c = 0)
  else if c ≠ 0 then false
  else if k = 1 then decide (n ≤ 200)
  else if k = 2 ∨ k = 3 ∨ k = 4 then decide (n = 0)
  else if k = 5 ∨ k = 6 ∨ k = 7 ∨ k = 8 then decide (n = 2)
  else if k = 9 then decide (n = 3)
  else if k = 10 ∨ k = 11 then decide (n = 1)
  else false

mutual
def form : Nd → Bool
  | .mk k t c ks => textOK k t && kidsOK k c ks.length && formL (k == 1) ks
def formL : Bool → List Nd → Bool
  | _, [] => true
  | r, n :: ns => ((n.kind == 1) != r) && form n && formL r ns
end
def valid (n : Nd) : Bool := (n.kind == 1) && form n && decide (count n ≤ 1000) && decide (depth n ≤ 24)

mutual
def eqN : Nd → Nd → Bool
  | .mk k t c ks, .mk k' t' c' ks' => (k == k') && (t == t') && (c == c') && eqL ks ks'
def eqL : List Nd → List Nd → Bool
  | [], [] => true
  | n :: ns, m :: ms => eqN n m && eqL ns ms
  | _, _ => false
end
theorem eqL_len : ∀ (l m : List Nd), l.length ≠ m.length → eqL l m = false
  | [], [], h => absurd rfl h
  | x :: l, y :: m, h => by rw [eqL, eqL_len l m (by simpa using h), Bool.and_false]
  | [], _ :: _, _ => by simp [eqL]
  | _ :: _, [], _ => by simp [eqL]

theorem form_eq (n : Nd) : form n = (textOK n.kind n.text && kidsOK n.kind n.cols n.kids.length && formL (n.kind == 1) n.kids) := by
  cases n; rw [form]; rfl
theorem formL_take (r : Bool) : ∀ (l : List Nd) (i : Nat) (h : i < l.length), formL r (l.take (i + 1)) = (formL r (l.take i) && (((l[i].kind == 1) != r) && form l[i]))
  | [], i, h => by simp at h
  | x :: l, 0, h => by simp [formL]
  | x :: l, i + 1, h => by
    simp only [List.take_succ_cons, formL, List.getElem_cons_succ]
    rw [formL_take r l i (by simpa using h)]
    simp only [Bool.and_assoc]
theorem formL_no (r : Bool) : ∀ (l : List Nd) (i : Nat) (h : i < l.length), (((l[i].kind == 1) != r) && form l[i]) = false → formL r l = false
  | [], i, h, _ => by simp at h
  | x :: l, 0, h, hn => by simp only [List.getElem_cons_zero] at hn; rw [formL, hn, Bool.false_and]
  | x :: l, i + 1, h, hn => by
    simp only [List.getElem_cons_succ] at hn
    rw [formL, formL_no r l i (by simpa using h) hn, Bool.and_false]
theorem eqN_eq (n m : Nd) : eqN n m = ((n.kind == m.kind) && (n.text == m.text) && (n.cols == m.cols) && eqL n.kids m.kids) := by
  cases n; cases m; rw [eqN]; rfl
theorem eqN_iff (n : Nd) : ∀ m, eqN n m = true ↔ n = m := by
  induction n using Nd.ind with
  | h n ih =>
    intro m
    have hL : ∀ (l l' : List Nd), (∀ x ∈ l, ∀ y, eqN x y = true ↔ x = y) → (eqL l l' = true ↔ l = l') := by
      intro l
      induction l with
      | nil =>
        intro l' _
        cases l' with
        | nil => simp [eqL]
        | cons y l' => simp [eqL]
      | cons x l ih2 =>
        intro l' h
        cases l' with
        | nil => simp [eqL]
        | cons y l' =>
          rw [eqL, Bool.and_eq_true, h x (by simp) y, ih2 l' (fun z hz => h z (by simp [hz]))]
          simp
    rw [eqN_eq, Bool.and_eq_true, Bool.and_eq_true, Bool.and_eq_true, hL n.kids m.kids ih, beq_iff_eq, beq_iff_eq, beq_iff_eq, Nd.eta n, Nd.eta m]
    simp [Nd.kind, Nd.text, Nd.cols, Nd.kids, and_assoc]
end Go.Proofs.Ytilgpmpiidccjaa.Tr

/- Formula trees in memory. -/
namespace Go.Proofs.Ytilgpmpiidccjaa
open Go.ChangeShapes Go.WideShapes Go.ChangeAt Go.RowKit

/-- A slice whose elements are these trees. -/
inductive RepL (W : World) : List Tr.Nd → Value → Prop
  | nil (A : Option Addr) (cap : Nat) : RepL W [] (.slice A 0 cap)
  | row (g o cap : Nat) (ks : List Tr.Nd) (sl : Nat → Value) (hg : g < W.heap.size) (hl : ks.length ≤ maxLen) (ht : ∀ i (hi : i < ks.length), ks[i].text.length ≤ maxLen)
      (h0 : ∀ i (hi : i < ks.length), W.cell? ⟨g, o + i * 4, none⟩ = some (.int .i64 ks[i].kind))
      (h1 : ∀ i (hi : i < ks.length), W.cell? ⟨g, o + i * 4 + 1, none⟩ = some (.string ⟨ks[i].text.toArray⟩))
      (h2 : ∀ i (hi : i < ks.length), W.cell? ⟨g, o + i * 4 + 2, none⟩ = some (.int .i64 ks[i].cols))
      (h3 : ∀ i, i < ks.length → W.cell? ⟨g, o + i * 4 + 3, none⟩ = some (sl i))
      (hk : ∀ i (hi : i < ks.length), RepL W ks[i].kids (sl i)) : RepL W ks (.slice (some ⟨g, o, none⟩) ks.length cap)

/-- A value that is this tree. -/
def RepN (W : World) (n : Tr.Nd) (v : Value) : Prop := ∃ sl, v = .agg #[.int .i64 n.kind, .string ⟨n.text.toArray⟩, .int .i64 n.cols, sl] ∧ RepL W n.kids sl

theorem RepL.fresh {W W' : World} {ks : List Tr.Nd} {v : Value} (h : RepL W ks v) (hf : Fresh W W') : RepL W' ks v := by
  induction h with
  | nil A cap => exact .nil A cap
  | row g o cap ks sl hg hl ht h0 h1 h2 h3 hk ih =>
    exact .row g o cap ks sl (Nat.lt_of_lt_of_le hg hf.size) hl ht (fun i hi => hf.cell (h0 i hi) (fun h => h)) (fun i hi => hf.cell (h1 i hi) (fun h => h)) (fun i hi => hf.cell (h2 i hi) (fun h => h)) (fun i hi => hf.cell (h3 i hi) (fun h => h)) ih
theorem RepN.fresh {W W' : World} {n : Tr.Nd} {v : Value} (h : RepN W n v) (hf : Fresh W W') : RepN W' n v := by
  obtain ⟨sl, h1, h2⟩ := h
  exact ⟨sl, h1, h2.fresh hf⟩

theorem RepL.slice {W : World} {ks : List Tr.Nd} {v : Value} (h : RepL W ks v) : ∃ A cap, v = .slice A ks.length cap := by
  cases h with
  | nil A cap => exact ⟨A, cap, rfl⟩
  | row g o cap _ sl => exact ⟨_, cap, rfl⟩

theorem RepL.len {W : World} {ks : List Tr.Nd} {v : Value} (h : RepL W ks v) : ks.length ≤ maxLen := by
  cases h with
  | nil A cap => exact Nat.zero_le _
  | row g o cap _ sl hg hl => exact hl

theorem RepL.texts {W : World} {ks : List Tr.Nd} {v : Value} (h : RepL W ks v) (i : Nat) (hi : i < ks.length) : ks[i].text.length ≤ maxLen := by
  cases h with
  | nil A cap => simp at hi
  | row g o cap _ sl hg hl ht => exact ht i hi

/-- One of the kids. -/
theorem RepL.get {W : World} {ks : List Tr.Nd} {A : Option Addr} {len cap : Nat} (h : RepL W ks (.slice A len cap)) (i : Nat) (hi : i < ks.length) :
    ∃ g o sl, A = some ⟨g, o, none⟩ ∧ g < W.heap.size ∧ W.cell? ⟨g, o + i * 4, none⟩ = some (.int .i64 ks[i].kind) ∧ W.cell? ⟨g, o + i * 4 + 1, none⟩ = some (.string ⟨ks[i].text.toArray⟩) ∧
      W.cell? ⟨g, o + i * 4 + 2, none⟩ = some (.int .i64 ks[i].cols) ∧ W.cell? ⟨g, o + i * 4 + 3, none⟩ = some sl ∧ RepL W ks[i].kids sl := by
  generalize hv : Value.slice A len cap = v at h
  cases h with
  | nil A cap => simp at hi
  | row g o cap _ sl hg hl ht h0 h1 h2 h3 hk =>
    cases hv
    exact ⟨g, o, sl i, rfl, hg, h0 i hi, h1 i hi, h2 i hi, h3 i hi, hk i hi⟩

theorem cells4 {W : World} {base : Nat} {a : Addr} {cs : List Value} (h : W.cells? base a 4 = some cs) : ∃ c0 c1 c2 c3, cs = [c0, c1, c2, c3] ∧ a.spot = none ∧ a.block < W.heap.size ∧
    W.cell? ⟨a.block, a.off, none⟩ = some c0 ∧ W.cell? ⟨a.block, a.off + 1, none⟩ = some c1 ∧ W.cell? ⟨a.block, a.off + 2, none⟩ = some c2 ∧ W.cell? ⟨a.block, a.off + 3, none⟩ = some c3 := by
  obtain ⟨_, hl, hc⟩ := World.cells?_some h
  match cs, hl with
  | [c0, c1, c2, c3], _ =>
    have e0 := hc 0 (by decide)
    have e1 := hc 1 (by decide)
    have e2 := hc 2 (by decide)
    have e3 := hc 3 (by decide)
    obtain ⟨g, o, s⟩ := a
    have hs : s = none := by
      cases s with
      | none => rfl
      | some x =>
        simp only [Addr.add, if_true, List.getElem?_cons_zero] at e0
        unfold World.cell? at e0
        split at e0
        · simp at e0
        · cases e0
    subst hs
    have hlt := block_lt_of_cell (a := ⟨g, o, none⟩) (v := c0) (by simpa [Addr.add] using e0)
    exact ⟨c0, c1, c2, c3, rfl, rfl, hlt, by simpa [Addr.add] using e0, by simpa [Addr.add] using e1, by simpa [Addr.add] using e2, by simpa [Addr.add] using e3⟩

section
variable {H : Type} {enc : TypeId × Value → H}
theorem open_node4 {w : World} {base : Nat} {sp : Nat → Bool} {hd : Bool} {fuel : Nat} {c0 c1 c2 c3 : Value} {y : DataW H × List MemPlace} (h : DataW.trod enc Try.prog w base sp hd fuel 24 [c0, c1, c2, c3] = some y) :
    ∃ (k c : Int) (s : ByteArray) (n : Nat) (z : DataW H × List MemPlace), n < fuel ∧ c0 = .int .i64 k ∧ c1 = .string s ∧ c2 = .int .i64 c ∧ s.size ≤ maxLen ∧ DataW.trod enc Try.prog w base sp hd n 22 [c3] = some z := by
  obtain ⟨xs, n, hfuel, _, _, hlen, hf⟩ := DataW.trod_struct Try.underlying24 h
  have e0 := hf 0 _ rfl
  have e1 := hf 1 _ rfl
  have e2 := hf 2 _ rfl
  have e3 := hf 3 _ rfl
  match xs, hlen with
  | [y0, y1, y2, y3], _ =>
    obtain ⟨k, g0, _⟩ := DataW.trod_int Try.underlying3 (by exact e0)
    obtain ⟨s, g1, _, hsz⟩ := DataW.trod_string Try.underlying9 (by exact e1)
    obtain ⟨c, g2, _⟩ := DataW.trod_int Try.underlying3 (by exact e2)
    have hC1 : Try.prog.cellsOf 3 = 1 := by kernel_rfl
    have hC2 : Try.prog.cellsOf 9 = 1 := by kernel_rfl
    have hC3 : Try.prog.cellsOf 22 = 1 := by kernel_rfl
    simp [hC1] at g0
    simp [hC2] at g1
    simp [hC1] at g2
    refine ⟨k, c, s, n, y3, by omega, g0, g1, g2, hsz, ?_⟩
    simpa [hC3] using e3

theorem open_nodes {w : World} {base : Nat} {sp : Nat → Bool} {hd : Bool} : ∀ (fuel : Nat) (cs : List Value) (y : DataW H × List MemPlace), DataW.trod enc Try.prog w base sp hd fuel 22 cs = some y → ∃ ks v, cs = [v] ∧ RepL w ks v := by
  intro fuel
  induction fuel using Nat.strongRecOn with
  | _ fuel ih =>
    intro cs y h
    rcases DataW.trod_slice Try.underlying22 h with ⟨rfl, _⟩ | ⟨a, len, cap, elems, rest, n, hn, rfl, _, hb, hl, hm, hlen, hel, _, _⟩
    · exact ⟨[], _, rfl, .nil _ _⟩
    · have hC : Try.prog.cellsOf 24 = 4 := by kernel_rfl
      rw [hC] at hel
      have each : ∀ i, i < len → ∃ (t : Tr.Nd) (sl : Value), a.spot = none ∧ a.block < w.heap.size ∧ w.cell? ⟨a.block, a.off + i * 4, none⟩ = some (.int .i64 t.kind) ∧ w.cell? ⟨a.block, a.off + i * 4 + 1, none⟩ = some (.string ⟨t.text.toArray⟩) ∧
          w.cell? ⟨a.block, a.off + i * 4 + 2, none⟩ = some (.int .i64 t.cols) ∧ w.cell? ⟨a.block, a.off + i * 4 + 3, none⟩ = some sl ∧ RepL w t.kids sl ∧ t.text.length ≤ maxLen := by
        intro i hi
        have h0 := hel i hi
        rw [List.getElem?_eq_getElem (by omega), Option.bind_eq_some_iff] at h0
        obtain ⟨cs', hcs, hy⟩ := h0
        obtain ⟨c0, c1, c2, c3, rfl, hs, hlt, e0, e1, e2, e3⟩ := cells4 hcs
        obtain ⟨k, c, s, m, z, hm', rfl, rfl, rfl, hsz, hz⟩ := open_node4 hy
        obtain ⟨ks, v, hv, hr⟩ := ih m (by omega) _ _ hz
        cases hv
        have hsp : a.spot = none ∨ 0 < i := by
          rcases Nat.eq_zero_or_pos i with h | h
          · subst h; left; simpa [Addr.add] using hs
          · exact .inr h
        have hblk : (a.add (i * 4)).block = a.block := by unfold Addr.add; split <;> rfl
        have hoff : (a.add (i * 4)).off = a.off + i * 4 := by
          unfold Addr.add
          split
          · omega
          · rfl
        rw [hblk, hoff] at e0 e1 e2 e3
        rw [hblk] at hlt
        have hs0 : a.spot = none := by
          rcases hsp with h | h
          · exact h
          · have h00 := hel 0 (by omega)
            rw [List.getElem?_eq_getElem (by omega), Option.bind_eq_some_iff] at h00
            obtain ⟨cs0, hcs0, _⟩ := h00
            obtain ⟨_, _, _, _, _, hs', _⟩ := cells4 hcs0
            simpa [Addr.add] using hs'
        exact ⟨.mk k s.data.toList c ks, c3, hs0, hlt, e0, e1, e2, e3, hr, by show s.data.toList.length ≤ maxLen; simpa using hsz⟩
      cases hl0 : len with
      | zero => subst hl0; exact ⟨[], _, rfl, .nil _ _⟩
      | succ l =>
        rw [← hl0]
        have hpos : 0 < len := by omega
        have he : ∃ f : Nat → Tr.Nd × Value, ∀ i, i < len → w.cell? ⟨a.block, a.off + i * 4, none⟩ = some (.int .i64 (f i).1.kind) ∧ w.cell? ⟨a.block, a.off + i * 4 + 1, none⟩ = some (.string ⟨(f i).1.text.toArray⟩) ∧
          w.cell? ⟨a.block, a.off + i * 4 + 2, none⟩ = some (.int .i64 (f i).1.cols) ∧ w.cell? ⟨a.block, a.off + i * 4 + 3, none⟩ = some (f i).2 ∧ RepL w (f i).1.kids (f i).2 ∧ (f i).1.text.length ≤ maxLen := by
          refine ⟨fun i => if h : i < len then ⟨Classical.choose (each i h), Classical.choose (Classical.choose_spec (each i h))⟩ else ⟨.mk 0 [] 0 [], .bool false⟩, fun i hi => ?_⟩
          simp only [dif_pos hi]
          exact (Classical.choose_spec (Classical.choose_spec (each i hi))).2.2
        obtain ⟨f, hf⟩ := he
        obtain ⟨_, _, hs, hlt, _⟩ := each 0 hpos
        obtain ⟨g, o, s⟩ := a
        simp only at hs hlt hf
        subst hs
        have hln : ((List.range len).map fun i => (f i).1).length = len := by simp
        refine ⟨(List.range len).map fun i => (f i).1, _, rfl, ?_⟩
        have := RepL.row (W := w) g o cap ((List.range len).map fun i => (f i).1) (fun i => (f i).2) hlt (by rw [hln]; omega) (fun i hi => by simpa using (hf i (by simpa using hi)).2.2.2.2.2)
          (fun i hi => by simpa using (hf i (by simpa using hi)).1) (fun i hi => by simpa using (hf i (by simpa using hi)).2.1) (fun i hi => by simpa using (hf i (by simpa using hi)).2.2.1)
          (fun i hi => by simpa using (hf i (by simpa using hi)).2.2.2.1) (fun i hi => by simpa using (hf i (by simpa using hi)).2.2.2.2.1)
        rw [hln] at this
        exact this

set_option maxRecDepth 100000 in
/-- An argument that is a tree, opened. -/
theorem open_node {w : World} {base b0 : Nat} {sp : Nat → Bool} {hd : Bool} {v : Value} {d : DataW H} {p : List MemPlace} (hv : Value.okWide Try.prog w .any b0 24 v) (h : DataW.Trod enc Try.prog w base sp hd 24 v d p) :
    ∃ n, RepN w n v ∧ n.text.length ≤ maxLen := by
  obtain ⟨cs, rfl, hsz⟩ := okWide_struct Try.underlying24 hv
  have hC : Try.prog.cellsOf 24 = 4 := by kernel_rfl
  rw [hC] at hsz
  obtain ⟨fuel, hf⟩ := h
  obtain ⟨l, rfl⟩ : ∃ l : List Value, cs = l.toArray := ⟨cs.toList, by simp⟩
  match l, hsz with
  | [c0, c1, c2, c3], _ =>
    obtain ⟨k, c, s, m, z, _, rfl, rfl, rfl, hsz, hz⟩ := open_node4 hf
    obtain ⟨ks, v, hv, hr⟩ := open_nodes m _ _ hz
    cases hv
    exact ⟨.mk k s.data.toList c ks, ⟨c3, rfl, hr⟩, by show s.data.toList.length ≤ maxLen; simpa using hsz⟩
end
end Go.Proofs.Ytilgpmpiidccjaa

/- A law on regions that draw their order: quiet stretches between operations that come up alone. One walk serves every order. -/
namespace Go.Proofs.Ytilgpmpiidccjaa
open Go.RowKit

section
variable {P : Program} {ops : Array Oper} {md : Region.Mode} {C : World → Prop}

structure Closed (md : Region.Mode) (ops : Array Oper) (listed : Array Bool) : Prop where
  size : listed.size = ops.size
  closed : ∀ j oj, ops[j]? = some oj → listed.getD j false = true → ∀ e ∈ oj.after, Region.binds md e = true → listed.getD e.on false = true

theorem Closed.put {i : Nat} {listed : Array Bool} (inv : Closed md ops listed) (hi : i ∈ Region.ready md ops listed) : Closed md ops (listed.setIfInBounds i true) := by
  obtain ⟨_, oi, hoi, hall⟩ := mem_ready.1 hi
  refine ⟨by simp [inv.size], fun j oj hj hl e he hb => ?_⟩
  by_cases hij : i = j
  · subst hij
    have : oj = oi := Option.some.inj (hj.symm.trans hoi)
    subst this
    exact getD_set_true (hall e he hb)
  · rw [getD_set_ne false hij] at hl
    exact getD_set_true (inv.closed j oj hj hl e he hb)

/-- Each of these is waited for by one behind it in the list, or by t. -/
def sinkL (md : Region.Mode) (ops : Array Oper) : List Nat → Option Nat → Bool
  | [], _ => true
  | q :: qs, t => (qs.any (fun j => Region.waitsFor md ops j q) || (match t with | some t => Region.waitsFor md ops t q | none => true)) && sinkL md ops qs t

def shutB (md : Region.Mode) (ops : Array Oper) (qs : List Nat) (t : Option Nat) (listed : Array Bool) : Bool :=
  (List.range ops.size).all (fun u => listed.getD u false || qs.contains u || t == some u || (List.range ops.size).any (fun v => Region.waitsFor md ops u v && !listed.getD v false && !qs.contains v))
  && sinkL md ops qs t

theorem sink_spec {t : Nat} {listed : Array Bool} (inv : Closed md ops listed) : ∀ (qs : List Nat), sinkL md ops qs (some t) = true → (∃ q ∈ qs, listed.getD q false = false) → ∃ v, Region.waitsFor md ops t v = true ∧ listed.getD v false = false
  | [], _, h => by obtain ⟨q, hq, _⟩ := h; cases hq
  | q :: qs, hs, h => by
    simp only [sinkL, Bool.and_eq_true, Bool.or_eq_true] at hs
    by_cases hr : ∃ q ∈ qs, listed.getD q false = false
    · exact sink_spec inv qs hs.2 hr
    · obtain ⟨x, hx, hxl⟩ := h
      have hxq : x = q := by
        rcases List.mem_cons.1 hx with h1 | h1
        · exact h1
        · exact absurd ⟨x, h1, hxl⟩ hr
      subst hxq
      rcases hs.1 with h1 | h1
      · obtain ⟨j, hj, hw⟩ := List.any_eq_true.1 h1
        obtain ⟨oj, hoj, e, he, hb, hon⟩ := Region.waitsFor_spec hw
        cases hl : listed.getD j false with
        | true =>
          have h2 := inv.closed j oj hoj hl e he hb
          rw [hon, hxl] at h2
          cases h2
        | false => exact absurd ⟨j, hj, hl⟩ hr
      · exact ⟨x, h1, hxl⟩

theorem ready_waits {u v : Nat} {listed : Array Bool} (hu : u ∈ Region.ready md ops listed) (hw : Region.waitsFor md ops u v = true) : listed.getD v false = true := by
  obtain ⟨_, ou, hou, hall⟩ := mem_ready.1 hu
  obtain ⟨o', ho', e, he, hb, hon⟩ := Region.waitsFor_spec hw
  have : o' = ou := Option.some.inj (ho'.symm.trans hou)
  subst this
  have := hall e he hb
  rwa [hon] at this

theorem shut_spec {qs : List Nat} {t : Option Nat} {listed0 listed : Array Bool} (h : shutB md ops qs t listed0 = true) (inv : Closed md ops listed)
    (h1 : ∀ j, listed0.getD j false = true → listed.getD j false = true) (h2 : ∀ j, listed.getD j false = true → listed0.getD j false = true ∨ j ∈ qs)
    (hq : ∃ q ∈ qs, listed.getD q false = false) : ∀ u ∈ Region.ready md ops listed, u ∈ qs := by
  intro u hu
  simp only [shutB, Bool.and_eq_true] at h
  obtain ⟨hun, ou, hou, _⟩ := mem_ready.1 hu
  have hlt : u < ops.size := (Array.getElem?_eq_some_iff.1 hou).1
  have hx := List.all_eq_true.1 h.1 u (List.mem_range.2 hlt)
  simp only [Bool.or_eq_true] at hx
  rcases hx with ((hx | hx) | hx) | hx
  · have := h1 u hx
    rw [getD_both hun] at this
    cases this
  · simpa using hx
  · have ht : t = some u := by simpa using hx
    subst ht
    obtain ⟨v, hw, hv⟩ := sink_spec inv qs h.2 hq
    rw [ready_waits hu hw] at hv
    cases hv
  · obtain ⟨v, hv, hx⟩ := List.any_eq_true.1 hx
    simp only [Bool.and_eq_true, Bool.not_eq_true'] at hx
    have hl := ready_waits hu hx.1.1
    rcases h2 v hl with h3 | h3
    · rw [hx.1.2] at h3; cases h3
    · simp [h3] at hx

def wpAnyZ (P : Program) (md : Region.Mode) (ops : Array Oper) (C : World → Prop) (qs : List Nat) (L : Array Bool → Act → Prop) : Nat → Array Bool → Act → Prop
  | 0, listed, a => L listed a
  | f + 1, listed, a => Region.ready md ops listed ≠ [] ∧ ∀ i ∈ Region.ready md ops listed, i ∈ qs ∧ qOp P ops C i (wpAnyZ P md ops C qs L f (listed.setIfInBounds i true)) a

theorem wpAny_of_Z {qs : List Nat} {g : Nat} {L : Array Bool → Act → Prop} {Q' : Exit → Act → World → Prop} (hL : ∀ listed a w, C w → L listed a → wpAny P md ops Q' g listed a w) :
    ∀ (f : Nat) (listed : Array Bool) (a : Act) (w : World), C w → wpAnyZ P md ops C qs L f listed a → wpAny P md ops Q' (f + g) listed a w
  | 0, listed, a, w, hC, h => by rw [Nat.zero_add]; exact hL _ _ _ hC h
  | f + 1, listed, a, w, hC, h => by
    rw [show f + 1 + g = (f + g) + 1 by omega]
    exact ⟨fun h0 => absurd h0 h.1, fun i hi => wpOp_of_qOp hC (fun a' w' hC' h' => wpAny_of_Z hL f _ a' w' hC' h') (h.2 i hi).2⟩

structure ZInv (md : Region.Mode) (ops : Array Oper) (qs : List Nat) (listed0 listed : Array Bool) : Prop where
  closed : Closed md ops listed
  sub : ∀ j, listed0.getD j false = true → listed.getD j false = true
  sup : ∀ j, listed.getD j false = true → listed0.getD j false = true ∨ j ∈ qs

theorem ZInv.put {qs : List Nat} {listed0 listed : Array Bool} {i : Nat} (inv : ZInv md ops qs listed0 listed) (hi : i ∈ Region.ready md ops listed) (hq : i ∈ qs) : ZInv md ops qs listed0 (listed.setIfInBounds i true) :=
  ⟨inv.closed.put hi, fun j hj => getD_set_true (inv.sub j hj), fun j hj => by
    by_cases hij : i = j
    · subst hij; exact .inr hq
    · rw [getD_set_ne false hij] at hj; exact inv.sup j hj⟩

theorem wpAnyZ_first {qs : List Nat} {t : Option Nat} {listed0 : Array Bool} {i : Nat} {oi : Oper} {v : Value} {L : Array Bool → Act → Prop} (hi : ops[i]? = some oi) (hsel : ∀ (j : Nat) (o : Oper) cs b, ops[j]? = some o → o.op ≠ .select cs b)
    (hs : shutB md ops qs t listed0 = true) (hin : i ∈ qs) (hdone : ∀ listed a, L listed a → ∀ j ∈ Region.ready md ops listed, j ∉ qs) :
    ∀ (f : Nat) (listed : Array Bool) (a : Act), ZInv md ops qs listed0 listed →
      (∀ j oj, ops[j]? = some oj → j ≠ i → listed.getD j true = false → (∀ e ∈ oj.after, Region.binds md e = true → e.on ≠ i) → oi.apart ops oj = true) →
      i ∈ Region.ready md ops listed → YieldsIn P ops C oi v a →
      wpAnyZ P md ops C qs L f (listed.setIfInBounds i true) (a.put oi.dst v) → wpAnyZ P md ops C qs L (f + 1) listed a := by
  intro f
  induction f with
  | zero =>
    intro listed a inv _ hr hy H
    have hun := (mem_ready.1 hr).1
    refine ⟨fun h => (by rw [h] at hr; cases hr), fun j hj => ?_⟩
    have hjn := shut_spec hs inv.closed inv.sub inv.sup ⟨i, hin, getD_both hun⟩ j hj
    refine ⟨hjn, ?_⟩
    by_cases hji : j = i
    · subst hji; exact hy.qOp hi H
    · exact absurd hjn (hdone _ _ H j (ready_mono hj hji))
  | succ f ih =>
    intro listed a inv hfree hr hy H
    have hun := (mem_ready.1 hr).1
    refine ⟨fun h => (by rw [h] at hr; cases hr), fun j hj => ?_⟩
    have hjn := shut_spec hs inv.closed inv.sub inv.sup ⟨i, hin, getD_both hun⟩ j hj
    refine ⟨hjn, ?_⟩
    by_cases hji : j = i
    · subst hji; exact hy.qOp hi H
    · have h1 := (H.2 j (ready_mono hj hji)).2
      obtain ⟨hjun, oj, hoj, hall⟩ := mem_ready.1 hj
      have hnot : ∀ e ∈ oj.after, Region.binds md e = true → e.on ≠ i := fun e he hb heq => by
        have h1 := hall e he hb
        rw [heq, getD_both hun] at h1
        cases h1
      have h2 := qOp_put hoj (hfree j oj hoj hji hjun hnot) (fun cs b => hsel i oi cs b hi) (fun cs b => hsel j oj cs b hoj) hy h1
      have hfree' : ∀ k ok, ops[k]? = some ok → k ≠ i → (listed.setIfInBounds j true).getD k true = false →
          (∀ e ∈ ok.after, Region.binds md e = true → e.on ≠ i) → oi.apart ops ok = true := fun k ok hk hki hun hno => by
        refine hfree k ok hk hki ?_ hno
        by_cases hjk : j = k
        · subst hjk; exact hjun
        · rw [getD_set_ne true hjk] at hun; exact hun
      refine qOp_mono (fun a' h3 => ih (listed.setIfInBounds j true) a' (inv.put hj hjn) hfree' (ready_mono hr (Ne.symm hji)) h3.1 ?_) h2
      rw [Array.setIfInBounds_comm _ _ hji]
      exact h3.2

def setAll : List Nat → Array Bool → Array Bool
  | [], x => x
  | k :: l, x => setAll l (x.setIfInBounds k true)

def lexZ (md : Region.Mode) (ops : Array Oper) : List Nat → Array Bool → Bool
  | [], _ => true
  | k :: l, listed => (Region.ready md ops listed).contains k && Region.free md ops listed k && lexZ md ops l (listed.setIfInBounds k true)

def pick (l : List Oper) : List Nat → List Oper
  | [] => []
  | k :: r => match l[k]? with
    | some o => o :: pick l r
    | none => pick l r

theorem setAll_true {k : Nat} : ∀ (l : List Nat) (x : Array Bool), x.getD k false = true → (setAll l x).getD k false = true
  | [], _, h => h
  | _ :: l, _, h => setAll_true l _ (getD_set_true h)
theorem setAll_mem {k : Nat} : ∀ (l : List Nat) (x : Array Bool), k ∈ l → k < x.size → (setAll l x).getD k false = true
  | j :: l, x, h, hk => by
    rcases List.mem_cons.1 h with h1 | h1
    · subst h1; exact setAll_true l _ (by simp [hk])
    · exact setAll_mem l _ h1 (by simpa using hk)

theorem wpAnyZ_lex {l0 : List Oper} {qs : List Nat} {t : Option Nat} {listed0 : Array Bool} {Lq : Act → Prop} {fin : Array Bool} (hsel : Region.noSelect l0.toArray = true) (hs : shutB md l0.toArray qs t listed0 = true)
    (hfin : ∀ j ∈ Region.ready md l0.toArray fin, j ∉ qs) :
    ∀ (l : List Nat) (listed : Array Bool) (a : Act), (∀ k ∈ l, k ∈ qs) → ZInv md l0.toArray qs listed0 listed → lexZ md l0.toArray l listed = true → setAll l listed = fin →
    wpQuiet P l0.toArray C Lq (pick l0 l) a → wpAnyZ P md l0.toArray C qs (fun listed' a' => listed' = fin ∧ Lq a') l.length listed a
  | [], listed, a, _, _, _, hf, h => ⟨hf, h⟩
  | k :: l, listed, a, hq, inv, hB, hf, h => by
    simp only [lexZ, Bool.and_eq_true] at hB
    obtain ⟨⟨hr, hfr⟩, hB'⟩ := hB
    have hr' : k ∈ Region.ready md l0.toArray listed := by simpa using hr
    obtain ⟨_, o, ho, _⟩ := mem_ready.1 hr'
    have ho' : l0[k]? = some o := by simpa using ho
    have hpick : pick l0 (k :: l) = o :: pick l0 l := by simp [pick, ho']
    rw [hpick] at h
    have hst : qOp P l0.toArray C k (wpQuiet P l0.toArray C Lq (pick l0 l)) a := by unfold qOp; rw [ho]; exact h
    obtain ⟨v, hy, hK⟩ := yieldsIn_of_qOp ho hst
    have hkq := hq k (by simp)
    exact wpAnyZ_first ho (Region.noSelect_spec hsel) hs hkq (fun listed' a' hL => by rw [hL.1]; exact hfin) l.length listed a inv (Region.free_spec ho hfr) hr' hy
      (wpAnyZ_lex hsel hs hfin l _ _ (fun x hx => hq x (by simp [hx])) (inv.put hr' hkq) hB' hf hK)

theorem closed_after {qs : List Nat} {listed0 : Array Bool} : ∀ (l : List Nat) (listed : Array Bool), (∀ k ∈ l, k ∈ qs) → ZInv md ops qs listed0 listed → lexZ md ops l listed = true → ZInv md ops qs listed0 (setAll l listed)
  | [], _, _, inv, _ => inv
  | k :: l, listed, hq, inv, hB => by
    simp only [lexZ, Bool.and_eq_true] at hB
    exact closed_after l _ (fun x hx => hq x (by simp [hx])) (inv.put (by simpa using hB.1.1) (hq k (by simp))) hB.2

/-- The order's own check: quiet stretches, each shut by an operation that then comes up alone. -/
def segsB (md : Region.Mode) (ops : Array Oper) : List (List Nat × Nat) → List Nat → Array Bool → Bool
  | [], last, listed => shutB md ops last none listed && lexZ md ops last listed && (Region.ready md ops (setAll last listed)).isEmpty
  | (qs, t) :: segs, last, listed => shutB md ops qs (some t) listed && lexZ md ops qs listed && decide (Region.ready md ops (setAll qs listed) = [t]) && !qs.contains t &&
      segsB md ops segs last ((setAll qs listed).setIfInBounds t true)

def segsN : List (List Nat × Nat) → List Nat → Nat
  | [], last => last.length
  | (qs, _) :: segs, last => qs.length + (segsN segs last + 1)

/-- The walk: each quiet stretch in the class of the worlds that are w after some draws; each lone operation as in a plain region. -/
def wpSegs (P : Program) (l : List Oper) (Q : Exit → Act → World → Prop) : List (List Nat × Nat) → List Nat → Act → World → Prop
  | [], last, a, w => wpQuiet P l.toArray (fun w' => ∃ n, w' = w.drewN n) (fun a' => ∀ w', (∃ n, w' = w.drewN n) → Q .normal a' w') (pick l last) a
  | (qs, t) :: segs, last, a, w => wpQuiet P l.toArray (fun w' => ∃ n, w' = w.drewN n)
      (fun a' => ∀ w', (∃ n, w' = w.drewN n) → wpList P l.toArray (Exit.then (wpSegs P l Q segs last) Q) (pick l [t]) a' w') (pick l qs) a

theorem wpOp_of_single {l : List Oper} {t : Nat} {o : Oper} {K : Act → World → Prop} {Q : Exit → Act → World → Prop} {a : Act} {w : World} (ho : l.toArray[t]? = some o)
    (h : wpList P l.toArray (Exit.then K Q) (pick l [t]) a w) : wpOp P l.toArray Q t K a w := by
  have ho' : l[t]? = some o := by simpa using ho
  have hp : pick l [t] = [o] := by simp [pick, ho']
  rw [hp] at h
  unfold wpOp
  rw [ho]
  exact h

theorem wpAny_of_segs {l : List Oper} {Q : Exit → Act → World → Prop} (hsel : Region.noSelect l.toArray = true) : ∀ (segs : List (List Nat × Nat)) (last : List Nat) (listed : Array Bool) (a : Act) (w w0 : World),
    Closed md l.toArray listed → segsB md l.toArray segs last listed = true → (∃ n, w = w0.drewN n) → wpSegs P l Q segs last a w0 → wpAny P md l.toArray Q (segsN segs last) listed a w
  | [], last, listed, a, w, w0, inv, hB, hC, h => by
    simp only [segsB, Bool.and_eq_true, List.isEmpty_iff] at hB
    obtain ⟨⟨hs, hl⟩, hr⟩ := hB
    have hz : ZInv md l.toArray last listed listed := ⟨inv, fun _ h => h, fun _ h => .inl h⟩
    have := wpAnyZ_lex (P := P) (C := fun w' => ∃ n, w' = w0.drewN n) (fin := setAll last listed) (Lq := fun a' => ∀ w', (∃ n, w' = w0.drewN n) → Q .normal a' w') hsel hs (by rw [hr]; simp) last listed a (fun _ h => h) hz hl rfl h
    refine wpAny_of_Z (g := 0) (fun listed' a' w' hC' hL => ?_) last.length listed a w hC this
    exact wpAny_done (by rw [hL.1]; exact hr) (hL.2 w' hC') 0
  | (qs, t) :: segs, last, listed, a, w, w0, inv, hB, hC, h => by
    simp only [segsB, Bool.and_eq_true, decide_eq_true_eq, Bool.not_eq_true'] at hB
    obtain ⟨⟨⟨⟨hs, hl⟩, hr⟩, ht⟩, hB'⟩ := hB
    have hz : ZInv md l.toArray qs listed listed := ⟨inv, fun _ h => h, fun _ h => .inl h⟩
    have hz' := closed_after qs listed (fun _ h => h) hz hl
    have htr : t ∈ Region.ready md l.toArray (setAll qs listed) := by rw [hr]; simp
    have htn : t ∉ qs := by simpa using ht
    obtain ⟨_, ot, hot, _⟩ := mem_ready.1 htr
    have := wpAnyZ_lex (P := P) (C := fun w' => ∃ n, w' = w0.drewN n) (fin := setAll qs listed) (Lq := fun a' => ∀ w', (∃ n, w' = w0.drewN n) → wpList P l.toArray (Exit.then (wpSegs P l Q segs last) Q) (pick l [t]) a' w') hsel hs
      (by rw [hr]; intro j hj; rw [List.mem_singleton.1 hj]; exact htn) qs listed a (fun _ h => h) hz hl rfl h
    refine wpAny_of_Z (g := segsN segs last + 1) (fun listed' a' w' hC' hL => ?_) qs.length listed a w hC this
    refine wpAny_all (rs := [t]) (by rw [hL.1]; exact hr) (by simp) (fun i hi => ?_)
    rw [List.mem_singleton.1 hi, hL.1]
    exact wpOp_mono (fun a'' w'' h'' => wpAny_of_segs hsel segs last _ a'' w'' w'' (hz'.closed.put htr) hB' ⟨0, rfl⟩ h'') (wpOp_of_single hot (hL.2 w' hC'))

theorem getD_repl (m j : Nat) : (Array.replicate m false).getD j false = false := by
  rcases Nat.lt_or_ge j m with h | h
  · simp [h]
  · simp [h]

/-- **A region that draws its order, walked in one order.** -/
theorem wp_region_segs {id : Nat} {Q : Exit → Act → World → Prop} {a : Act} {w : World} {l : List Oper} (segs : List (List Nat × Nat)) (last : List Nat) (hm : P.follows .mixedOrders = true)
    (hB : (Region.noSelect l.toArray && decide (segsN segs last = l.toArray.size) && segsB .any l.toArray segs last (Array.replicate l.toArray.size false)) = true)
    (h : wpSegs P l Q segs last a w) : (Code.region id l.toArray true).wp P Q a w := by
  simp only [Bool.and_eq_true, decide_eq_true_eq] at hB
  obtain ⟨⟨hsel, hn⟩, hB⟩ := hB
  refine wp_region_any hm ?_
  rw [← hn]
  rw [← hn] at hB
  exact wpAny_of_segs hsel segs last _ a _ w ⟨by simp [hn], fun j oj _ hl => by rw [getD_repl] at hl; cases hl⟩ hB ⟨1, rfl⟩ h
end
end Go.Proofs.Ytilgpmpiidccjaa

/- The law of Reg over whatever class of worlds the quiet stretches end in; and at the class of worlds that have only grown. -/
namespace Go.Proofs.Ytilgpmpiidccjaa
open Go.RowKit

section
variable {P : Program} {ops : Array Oper} {md : Region.Mode} {C : World → Prop}
/-- The walk: each quiet stretch in a class of worlds; each lone operation as in a plain region. -/
def wpSegsC (Cl : World → World → Prop) (P : Program) (l : List Oper) (Q : Exit → Act → World → Prop) : List (List Nat × Nat) → List Nat → Act → World → Prop
  | [], last, a, w => wpQuiet P l.toArray (fun w' => Cl w w') (fun a' => ∀ w', Cl w w' → Q .normal a' w') (pick l last) a
  | (qs, t) :: segs, last, a, w => wpQuiet P l.toArray (fun w' => Cl w w')
      (fun a' => ∀ w', Cl w w' → wpList P l.toArray (Exit.then (wpSegsC Cl P l Q segs last) Q) (pick l [t]) a' w') (pick l qs) a

theorem wpAny_of_segsC {Cl : World → World → Prop} (hrefl : ∀ w, Cl w w) {l : List Oper} {Q : Exit → Act → World → Prop} (hsel : Region.noSelect l.toArray = true) : ∀ (segs : List (List Nat × Nat)) (last : List Nat) (listed : Array Bool) (a : Act) (w w0 : World),
    Closed md l.toArray listed → segsB md l.toArray segs last listed = true → Cl w0 w → wpSegsC Cl P l Q segs last a w0 → wpAny P md l.toArray Q (segsN segs last) listed a w
  | [], last, listed, a, w, w0, inv, hB, hC, h => by
    simp only [segsB, Bool.and_eq_true, List.isEmpty_iff] at hB
    obtain ⟨⟨hs, hl⟩, hr⟩ := hB
    have hz : ZInv md l.toArray last listed listed := ⟨inv, fun _ h => h, fun _ h => .inl h⟩
    have := wpAnyZ_lex (P := P) (C := fun w' => Cl w0 w') (fin := setAll last listed) (Lq := fun a' => ∀ w', Cl w0 w' → Q .normal a' w') hsel hs (by rw [hr]; simp) last listed a (fun _ h => h) hz hl rfl h
    refine wpAny_of_Z (g := 0) (fun listed' a' w' hC' hL => ?_) last.length listed a w hC this
    exact wpAny_done (by rw [hL.1]; exact hr) (hL.2 w' hC') 0
  | (qs, t) :: segs, last, listed, a, w, w0, inv, hB, hC, h => by
    simp only [segsB, Bool.and_eq_true, decide_eq_true_eq, Bool.not_eq_true'] at hB
    obtain ⟨⟨⟨⟨hs, hl⟩, hr⟩, ht⟩, hB'⟩ := hB
    have hz : ZInv md l.toArray qs listed listed := ⟨inv, fun _ h => h, fun _ h => .inl h⟩
    have hz' := closed_after qs listed (fun _ h => h) hz hl
    have htr : t ∈ Region.ready md l.toArray (setAll qs listed) := by rw [hr]; simp
    have htn : t ∉ qs := by simpa using ht
    obtain ⟨_, ot, hot, _⟩ := mem_ready.1 htr
    have := wpAnyZ_lex (P := P) (C := fun w' => Cl w0 w') (fin := setAll qs listed) (Lq := fun a' => ∀ w', Cl w0 w' → wpList P l.toArray (Exit.then (wpSegsC Cl P l Q segs last) Q) (pick l [t]) a' w') hsel hs
      (by rw [hr]; intro j hj; rw [List.mem_singleton.1 hj]; exact htn) qs listed a (fun _ h => h) hz hl rfl h
    refine wpAny_of_Z (g := segsN segs last + 1) (fun listed' a' w' hC' hL => ?_) qs.length listed a w hC this
    refine wpAny_all (rs := [t]) (by rw [hL.1]; exact hr) (by simp) (fun i hi => ?_)
    rw [List.mem_singleton.1 hi, hL.1]
    exact wpOp_mono (fun a'' w'' h'' => wpAny_of_segsC hrefl hsel segs last _ a'' w'' w'' (hz'.closed.put htr) hB' (hrefl _) h'') (wpOp_of_single hot (hL.2 w' hC'))

/-- **A region that draws its order, walked in one order.** -/
theorem wp_region_segsC (Cl : World → World → Prop) (hrefl : ∀ w, Cl w w) (hdrew : ∀ w, Cl w (w.drewN 1)) {id : Nat} {Q : Exit → Act → World → Prop} {a : Act} {w : World} {l : List Oper} (segs : List (List Nat × Nat)) (last : List Nat) (hm : P.follows .mixedOrders = true)
    (hB : (Region.noSelect l.toArray && decide (segsN segs last = l.toArray.size) && segsB .any l.toArray segs last (Array.replicate l.toArray.size false)) = true)
    (h : wpSegsC Cl P l Q segs last a w) : (Code.region id l.toArray true).wp P Q a w := by
  simp only [Bool.and_eq_true, decide_eq_true_eq] at hB
  obtain ⟨⟨hsel, hn⟩, hB⟩ := hB
  refine wp_region_any hm ?_
  rw [← hn]
  rw [← hn] at hB
  exact wpAny_of_segsC hrefl hsel segs last _ a _ w ⟨by simp [hn], fun j oj _ hl => by rw [getD_repl] at hl; cases hl⟩ hB (hdrew w) h
end

/-- The worlds that have only grown since. -/
def Growing (w w' : World) : Prop := ∃ p : Regrown, w' = Go.Sort.grow (redrawn w p.d) p.os
theorem Growing.refl (w : World) : Growing w w := ⟨⟨w.drawn, #[]⟩, by rw [Go.Sort.grow_empty]; rfl⟩
theorem Growing.drew (w : World) : Growing w (w.drewN 1) := ⟨⟨w.drawn + 1, #[]⟩, by rw [Go.Sort.grow_empty]; rfl⟩

theorem wp_region_segs_below {P : Program} {id : Nat} {Q : Exit → Act → World → Prop} {a : Act} {w : World} {l : List Oper} (segs : List (List Nat × Nat)) (last : List Nat) (hm : P.follows .mixedOrders = true)
    (hB : (Region.noSelect l.toArray && decide (segsN segs last = l.toArray.size) && segsB .any l.toArray segs last (Array.replicate l.toArray.size false)) = true)
    (h : wpSegsC (fun w w' => ∃ p : Regrown, w' = Go.Sort.grow (redrawn w p.d) p.os) P l Q segs last a w) : (Code.region id l.toArray true).wp P Q a w :=
  wp_region_segsC _ Growing.refl Growing.drew segs last hm hB h

/-- A call that leaves all that was there, in any world that has only grown since. -/
theorem calmP {P : Program} {f : Nat} {args : Array Value} {v : Value} (h : ∀ w, Calls P f args w fun e w' => e = .returned v ∧ Fresh w w') (W : World) :
    ∀ d os, Calls P f args (Go.Sort.grow (redrawn W d) os) fun e w'' => e = .returned v ∧ ∃ p : Regrown, w'' = Go.Sort.grow (redrawn W p.d) p.os :=
  fun _ _ => Calls.regrown_of ((h _).mono fun _ _ h => ⟨h.1, h.2.below⟩)
end Go.Proofs.Ytilgpmpiidccjaa

/- The walks of the reference's left, Few, Equal and SameItems. -/
namespace Go.Proofs.Ytilgpmpiidccjaa
open Go.RowKit

theorem forget_world {p : World → Prop} {W : World} (F : World → Prop) (hF : F W) (h : ∀ W', F W' → p W') : p W := h W hF
theorem Blk.new3 (w : World) (o o' : Obj) (t : TypeId) (cs : Array Value) : Blk (((w.alloc o).alloc o').alloc (.cells cs t)) (w.heap.size + 1 + 1) t cs := by
  have := Blk.new2 (w.alloc o) o' t cs
  simpa using this
/-- A call that leaves all that was there, in any world that has only grown since. -/
theorem calmF {P : Program} {f : Nat} {args : Array Value} {v : Value} (W : World) (h : ∀ w, Fresh W w → Calls P f args w fun e w' => e = .returned v ∧ Fresh w w') :
    ∀ d os, Calls P f args (Go.Sort.grow (redrawn W d) os) fun e w'' => e = .returned v ∧ ∃ p : Regrown, w'' = Go.Sort.grow (redrawn W p.d) p.os :=
  fun _ _ => Calls.regrown_of ((h _ (fresh_of_below (below_regrown _ _ _))).mono fun _ _ h => ⟨h.1, h.2.below⟩)

theorem str_eq' (a b : ByteArray) : (a == b) = (a.data.toList == b.data.toList) := by
  show (a.data == b.data) = _
  simp

def leftF (n : Tr.Nd) (most : Int) : Int := if (Tr.count n : Int) ≤ most then most - Tr.count n else -1
def leftL (l : List Tr.Nd) (most : Int) : Int := if (1 + Tr.countL l : Int) ≤ most then most - 1 - Tr.countL l else -1

theorem ret_i64 (a b : Int) (h : a = b) : Ending.returned (.int .i64 a) = .returned (.int .i64 b) := by rw [h]

set_option maxHeartbeats 1000000 in
theorem left_any (m : Nat) : ∀ (n : Tr.Nd) (sl : Value) (most : Int) (w : World), Tr.count n ≤ m → RepL w n.kids sl → 0 ≤ most → most ≤ 1000000 →
    Calls Try.prog 37 #[.agg #[.int .i64 n.kind, .string ⟨n.text.toArray⟩, .int .i64 n.cols, sl], .int .i64 most] w fun e w' => e = .returned (.int .i64 (leftF n most)) ∧ Fresh w w' := by
  induction m with
  | zero => intro n _ _ _ h; have := Tr.count_pos n; omega
  | succ m ih =>
    intro n sl most w hm hr h0 h1
    obtain ⟨A, cap, rfl⟩ := hr.slice
    have hlen := hr.len
    unfold maxLen at hlen
    have HIH := hid ih
    have HR := hid hr
    have hk : Tr.countL n.kids ≤ m := by have := Tr.count_kids n; omega
    have HN := hid (Tr.count_kids n)
    clear ih hr hm
    generalize hks : n.kids = ks at *
    clear hks
    go_enter Try.func37, Try.ntmps37
    go_wp2_with fail
    go_loopw [1, 5] (fun x i wr => ∃ (j : Nat) (cur : Int), i = .int .i64 j ∧ x = .int .i64 cur ∧ j ≤ ks.length ∧ Hid (cur = leftL (ks.take j) most) ∧ Hid (Blk wr w.heap.size 24 #[.int .i64 n.kind, .string ⟨n.text.toArray⟩, .int .i64 n.cols, .slice A ks.length cap]) ∧ Hid (Fresh w wr)) (fun _ i _ => ks.length - (intOf i).toNat)
    case atStart => exact ⟨0, most - 1, rfl, by simp, Nat.zero_le _, by unfold leftL; simp [Tr.countL, Hid]; omega, Blk.new _ _ _, (Touch.refl _ w).alloc _⟩
    case round =>
      obtain ⟨j, cur, rfl, rfl, hj, HC, HB, HF⟩ := hrel
      obtain ⟨q0, q1, q2, q3, _, _, _, _, hg⟩ := Blk.four HB.out
      have hcur : -1 ≤ cur ∧ cur ≤ 1000000 := by rw [HC.out]; unfold leftL; split <;> omega
      obtain ⟨hcl, hcu⟩ := hcur
      by_cases c1 : j < ks.length
      · have d1 : decide ((j : Int) < (ks.length : Int)) = true := by simp; omega
        have d1' : (j : Int) < (ks.length : Int) := by omega
        by_cases c2 : 0 ≤ cur
        · have d2 : decide ((0 : Int) ≤ cur) = true := by simp; omega
          obtain ⟨g, o, sl, rfl, hg', m0, m1, m2, m3, hrk⟩ := HR.out.get j c1
          have p0 := HF.out.cell m0 (fun h => h)
          have p1 := HF.out.cell m1 (fun h => h)
          have p2 := HF.out.cell m2 (fun h => h)
          have p3 := HF.out.cell m3 (fun h => h)
          have hcnt := Tr.count_mem (List.getElem_mem (l := ks) (n := j) c1)
          have HTK := hid (Tr.countL_take ks j c1)
          have HRK := hid hrk
          clear m0 m1 m2 m3 hrk
          generalize ks[j] = x at *
          go_wp2_with fail
          refine (HIH.out x sl cur _ (by omega) (HRK.out.fresh HF.out) c2 hcu).mono ?_
          rintro e1 w1 ⟨rfl, hf⟩
          have HF1 := hid hf
          have HB1 := hid (hf.blk HB.out (fun h => h))
          clear hf q0 q1 q2 q3 p0 p1 p2 p3
          go_wp2_with fail
          go_roundw
          case rel =>
            refine ⟨j + 1, leftF x cur, by go_num, rfl, c1, ?_, HB1, HF.out.trans HF1.out⟩
            unfold Hid
            have h1 := HC.out
            unfold leftL at h1 ⊢
            unfold leftF
            rw [HTK.out]
            split at h1 <;> split <;> split <;> omega
          case measure => simp [intOf]; omega
        · have d2 : decide ((0 : Int) ≤ cur) = false := by simp; omega
          go_wp2_with fail
          go_ret
          refine ⟨ret_i64 _ _ ?_, HF.out⟩
          clear q0 q1 q2 q3
          have h1 := HC.out
          have h2 := Tr.countL_le ks j
          unfold leftL at h1
          unfold leftF
          rw [HN.out]
          split at h1 <;> split <;> omega
      · have d1 : decide ((j : Int) < (ks.length : Int)) = false := by simp; omega
        obtain rfl : j = ks.length := by omega
        go_wp2_with fail
        go_ret
        refine ⟨ret_i64 _ _ ?_, HF.out⟩
        have h1 := HC.out
        rw [List.take_length] at h1
        rw [h1]
        unfold leftL leftF
        rw [HN.out]
        split <;> split <;> omega
end Go.Proofs.Ytilgpmpiidccjaa

/- The walks of the reference's Few, Equal and SameItems. -/
namespace Go.Proofs.Ytilgpmpiidccjaa
open Go.RowKit

theorem ret_bool' (a b : Bool) (h : a = b) : Ending.returned (.bool a) = .returned (.bool b) := by rw [h]

theorem left_top (n : Tr.Nd) (sl : Value) (most : Int) (w : World) (hr : RepL w n.kids sl) (h0 : 0 ≤ most) (h1 : most ≤ 1000000) :
    Calls Try.prog 37 #[.agg #[.int .i64 n.kind, .string ⟨n.text.toArray⟩, .int .i64 n.cols, sl], .int .i64 most] w fun e w' => e = .returned (.int .i64 (leftF n most)) ∧ Fresh w w' := left_any _ n sl most w (Nat.le_refl _) hr h0 h1

theorem few_any (n : Tr.Nd) (sl : Value) (most : Int) (w : World) (hr : RepL w n.kids sl) (h0 : 0 ≤ most) (h1 : most ≤ 1000000) :
    Calls Try.prog 18 #[.agg #[.int .i64 n.kind, .string ⟨n.text.toArray⟩, .int .i64 n.cols, sl], .int .i64 most] w fun e w' => e = .returned (.bool (decide ((Tr.count n : Int) ≤ most))) ∧ Fresh w w' := by
  have HR := hid hr
  clear hr
  go_enter Try.func18, Try.ntmps18
  go_wp2_with fail
  refine Calls.mono (left_top n sl most _ (HR.out.fresh (by first | exact (Touch.refl _ _) | exact (Touch.refl _ _).alloc _ | exact ((Touch.refl _ _).alloc _).alloc _ | exact (((Touch.refl _ _).alloc _).alloc _).alloc _ | exact (Touch.refl _ _).drewN _ | exact ((Touch.refl _ _).alloc _).drewN _ | exact (((Touch.refl _ _).alloc _).alloc _).drewN _)) h0 h1) ?_
  rintro _ w1 ⟨rfl, hfw1⟩
  have HF1 := hid (show Fresh w w1 from by first | exact hfw1 | exact Touch.pre hfw1 | exact Touch.pre (Touch.pre hfw1) | exact Touch.ofN hfw1 | exact Touch.preN hfw1 | exact Touch.pre (Touch.pre (Touch.pre hfw1)))
  have B0_w1 : Blk w1 (w.heap.size) 24 #[.int .i64 n.kind, .string (⟨n.text.toArray⟩ : ByteArray), .int .i64 n.cols, sl] := Touch.blk hfw1 (by first | exact Blk.new _ _ _ | exact (Blk.new _ _ _).alloc _ | exact Blk.new2 _ _ _ _ | exact ((Blk.new _ _ _).alloc _).alloc _ | exact (Blk.new2 _ _ _ _).alloc _ | exact Blk.new3 _ _ _ _ _ | assumption | exact Blk.alloc (by assumption) _ | exact (Blk.alloc (Blk.alloc (by assumption) _) _)) (fun h => h)
  have q0_0_w1 : World.cell? w1 ⟨w.heap.size, 0, none⟩ = some (.int .i64 n.kind) := Blk.cell B0_w1 0
  have q0_1_w1 : World.cell? w1 ⟨w.heap.size, 1, none⟩ = some (.string (⟨n.text.toArray⟩ : ByteArray)) := Blk.cell B0_w1 1
  have q0_2_w1 : World.cell? w1 ⟨w.heap.size, 2, none⟩ = some (.int .i64 n.cols) := Blk.cell B0_w1 2
  have q0_3_w1 : World.cell? w1 ⟨w.heap.size, 3, none⟩ = some (sl) := Blk.cell B0_w1 3
  clear hfw1
  go_wp2_with fail
  go_ret
  refine ⟨ret_bool' _ _ ?_, HF1.out⟩
  rw [Bool.eq_iff_iff, decide_eq_true_iff, decide_eq_true_iff]
  unfold leftF
  split <;> omega

theorem few21_any (n : Tr.Nd) (sl : Value) (w : World) (hr : RepL w n.kids sl) :
    Calls Try.prog 9 #[.agg #[.int .i64 n.kind, .string ⟨n.text.toArray⟩, .int .i64 n.cols, sl]] w fun e w' => e = .returned (.bool (decide ((Tr.count n : Int) ≤ 300))) ∧ Fresh w w' := by
  have HR := hid hr
  clear hr
  go_enter Try.func9, Try.ntmps9
  go_wp2_with fail
  refine Calls.mono (few_any n sl (300 : Int) _ (HR.out.fresh (by first | exact (Touch.refl _ _) | exact (Touch.refl _ _).alloc _ | exact ((Touch.refl _ _).alloc _).alloc _ | exact (((Touch.refl _ _).alloc _).alloc _).alloc _ | exact (Touch.refl _ _).drewN _ | exact ((Touch.refl _ _).alloc _).drewN _ | exact (((Touch.refl _ _).alloc _).alloc _).drewN _)) (by decide) (by decide)) ?_
  rintro _ w2 ⟨rfl, hfw2⟩
  have HF2 := hid (show Fresh w w2 from by first | exact hfw2 | exact Touch.pre hfw2 | exact Touch.pre (Touch.pre hfw2) | exact Touch.ofN hfw2 | exact Touch.preN hfw2 | exact Touch.pre (Touch.pre (Touch.pre hfw2)))
  have B0_w2 : Blk w2 (w.heap.size) 24 #[.int .i64 n.kind, .string (⟨n.text.toArray⟩ : ByteArray), .int .i64 n.cols, sl] := Touch.blk hfw2 (by first | exact Blk.new _ _ _ | exact (Blk.new _ _ _).alloc _ | exact Blk.new2 _ _ _ _ | exact ((Blk.new _ _ _).alloc _).alloc _ | exact (Blk.new2 _ _ _ _).alloc _ | exact Blk.new3 _ _ _ _ _ | assumption | exact Blk.alloc (by assumption) _ | exact (Blk.alloc (Blk.alloc (by assumption) _) _)) (fun h => h)
  have q0_0_w2 : World.cell? w2 ⟨w.heap.size, 0, none⟩ = some (.int .i64 n.kind) := Blk.cell B0_w2 0
  have q0_1_w2 : World.cell? w2 ⟨w.heap.size, 1, none⟩ = some (.string (⟨n.text.toArray⟩ : ByteArray)) := Blk.cell B0_w2 1
  have q0_2_w2 : World.cell? w2 ⟨w.heap.size, 2, none⟩ = some (.int .i64 n.cols) := Blk.cell B0_w2 2
  have q0_3_w2 : World.cell? w2 ⟨w.heap.size, 3, none⟩ = some (sl) := Blk.cell B0_w2 3
  clear hfw2
  go_wp2_with fail
  go_ret
  exact ⟨rfl, HF2.out⟩

/-- Equal, if SameItems is known for the kids. -/
theorem equal_step (n m : Tr.Nd) (sl sm : Value) (w : World) (hi : ∀ w', Fresh w w' → Calls Try.prog 32 #[sl, sm] w' fun e w'' => e = .returned (.bool (Tr.eqL n.kids m.kids)) ∧ Fresh w' w'') :
    Calls Try.prog 11 #[.agg #[.int .i64 n.kind, .string ⟨n.text.toArray⟩, .int .i64 n.cols, sl], .agg #[.int .i64 m.kind, .string ⟨m.text.toArray⟩, .int .i64 m.cols, sm]] w fun e w' => e = .returned (.bool (Tr.eqN n m)) ∧ Fresh w w' := by
  have HI := hid hi
  clear hi
  have HE := hid (Tr.eqN_eq n m)
  go_enter Try.func11, Try.ntmps11
  cases h1 : (n.kind == m.kind) with
  | false =>
    have h1m : (n.kind != m.kind) = true := by rw [bne, h1]; rfl
    go_wp2_with fail
    go_ret
    exact ⟨ret_bool' _ _ (by rw [HE.out]; simp_all), (by first | exact (Touch.refl _ _) | exact (Touch.refl _ _).alloc _ | exact ((Touch.refl _ _).alloc _).alloc _ | exact (((Touch.refl _ _).alloc _).alloc _).alloc _ | exact (Touch.refl _ _).drewN _ | exact ((Touch.refl _ _).alloc _).drewN _ | exact (((Touch.refl _ _).alloc _).alloc _).drewN _)⟩
  | true =>
    have h1m : (n.kind != m.kind) = false := by rw [bne, h1]; rfl
    cases h2 : (n.text == m.text) with
    | false =>
      have h2s : ((⟨n.text.toArray⟩ : ByteArray) == (⟨m.text.toArray⟩ : ByteArray)) = false := by rw [str_eq']; exact h2
      have h2t : ((⟨n.text.toArray⟩ : ByteArray) != (⟨m.text.toArray⟩ : ByteArray)) = true := by rw [bne, h2s]; rfl
      go_wp2_with fail
      go_ret
      exact ⟨ret_bool' _ _ (by rw [HE.out]; simp_all), (by first | exact (Touch.refl _ _) | exact (Touch.refl _ _).alloc _ | exact ((Touch.refl _ _).alloc _).alloc _ | exact (((Touch.refl _ _).alloc _).alloc _).alloc _ | exact (Touch.refl _ _).drewN _ | exact ((Touch.refl _ _).alloc _).drewN _ | exact (((Touch.refl _ _).alloc _).alloc _).drewN _)⟩
    | true =>
      have h2s : ((⟨n.text.toArray⟩ : ByteArray) == (⟨m.text.toArray⟩ : ByteArray)) = true := by rw [str_eq']; exact h2
      have h2t : ((⟨n.text.toArray⟩ : ByteArray) != (⟨m.text.toArray⟩ : ByteArray)) = false := by rw [bne, h2s]; rfl
      cases h3 : (n.cols == m.cols) with
      | false =>
        have h3m : (n.cols != m.cols) = true := by rw [bne, h3]; rfl
        go_wp2_with fail
        go_ret
        exact ⟨ret_bool' _ _ (by rw [HE.out]; simp_all), (by first | exact (Touch.refl _ _) | exact (Touch.refl _ _).alloc _ | exact ((Touch.refl _ _).alloc _).alloc _ | exact (((Touch.refl _ _).alloc _).alloc _).alloc _ | exact (Touch.refl _ _).drewN _ | exact ((Touch.refl _ _).alloc _).drewN _ | exact (((Touch.refl _ _).alloc _).alloc _).drewN _)⟩
      | true =>
        have h3m : (n.cols != m.cols) = false := by rw [bne, h3]; rfl
        go_wp2_with fail
        refine Calls.mono (HI.out _ (by first | exact (Touch.refl _ _) | exact (Touch.refl _ _).alloc _ | exact ((Touch.refl _ _).alloc _).alloc _ | exact (((Touch.refl _ _).alloc _).alloc _).alloc _ | exact (Touch.refl _ _).drewN _ | exact ((Touch.refl _ _).alloc _).drewN _ | exact (((Touch.refl _ _).alloc _).alloc _).drewN _)) ?_
        rintro _ w3 ⟨rfl, hfw3⟩
        have HF3 := hid (show Fresh w w3 from by first | exact hfw3 | exact Touch.pre hfw3 | exact Touch.pre (Touch.pre hfw3) | exact Touch.ofN hfw3 | exact Touch.preN hfw3 | exact Touch.pre (Touch.pre (Touch.pre hfw3)))
        have B0_w3 : Blk w3 (w.heap.size) 24 #[.int .i64 n.kind, .string (⟨n.text.toArray⟩ : ByteArray), .int .i64 n.cols, sl] := Touch.blk hfw3 (by first | exact Blk.new _ _ _ | exact (Blk.new _ _ _).alloc _ | exact Blk.new2 _ _ _ _ | exact ((Blk.new _ _ _).alloc _).alloc _ | exact (Blk.new2 _ _ _ _).alloc _ | exact Blk.new3 _ _ _ _ _ | assumption | exact Blk.alloc (by assumption) _ | exact (Blk.alloc (Blk.alloc (by assumption) _) _)) (fun h => h)
        have B1_w3 : Blk w3 (w.heap.size + 1) 24 #[.int .i64 m.kind, .string (⟨m.text.toArray⟩ : ByteArray), .int .i64 m.cols, sm] := Touch.blk hfw3 (by first | exact Blk.new _ _ _ | exact (Blk.new _ _ _).alloc _ | exact Blk.new2 _ _ _ _ | exact ((Blk.new _ _ _).alloc _).alloc _ | exact (Blk.new2 _ _ _ _).alloc _ | exact Blk.new3 _ _ _ _ _ | assumption | exact Blk.alloc (by assumption) _ | exact (Blk.alloc (Blk.alloc (by assumption) _) _)) (fun h => h)
        have q0_0_w3 : World.cell? w3 ⟨w.heap.size, 0, none⟩ = some (.int .i64 n.kind) := Blk.cell B0_w3 0
        have q0_1_w3 : World.cell? w3 ⟨w.heap.size, 1, none⟩ = some (.string (⟨n.text.toArray⟩ : ByteArray)) := Blk.cell B0_w3 1
        have q0_2_w3 : World.cell? w3 ⟨w.heap.size, 2, none⟩ = some (.int .i64 n.cols) := Blk.cell B0_w3 2
        have q0_3_w3 : World.cell? w3 ⟨w.heap.size, 3, none⟩ = some (sl) := Blk.cell B0_w3 3
        have q1_0_w3 : World.cell? w3 ⟨w.heap.size + 1, 0, none⟩ = some (.int .i64 m.kind) := Blk.cell B1_w3 0
        have q1_1_w3 : World.cell? w3 ⟨w.heap.size + 1, 1, none⟩ = some (.string (⟨m.text.toArray⟩ : ByteArray)) := Blk.cell B1_w3 1
        have q1_2_w3 : World.cell? w3 ⟨w.heap.size + 1, 2, none⟩ = some (.int .i64 m.cols) := Blk.cell B1_w3 2
        have q1_3_w3 : World.cell? w3 ⟨w.heap.size + 1, 3, none⟩ = some (sm) := Blk.cell B1_w3 3
        clear hfw3
        go_wp2_with fail
        go_ret
        exact ⟨ret_bool' _ _ (by rw [HE.out]; simp_all), (by first | exact HF3.out | exact HF3.out.alloc _ | exact (HF3.out.alloc _).alloc _ | exact ((HF3.out.alloc _).alloc _).alloc _ | exact HF3.out.drewN _ | exact (HF3.out.alloc _).drewN _ | exact ((HF3.out.alloc _).alloc _).drewN _)⟩

theorem eqL_snoc : ∀ (xs ys : List Tr.Nd) (k : Nat) (hx : k < xs.length) (hy : k < ys.length), Tr.eqL (xs.take (k + 1)) (ys.take (k + 1)) = (Tr.eqL (xs.take k) (ys.take k) && Tr.eqN xs[k] ys[k])
  | x :: xs, y :: ys, 0, _, _ => by simp [Tr.eqL]
  | x :: xs, y :: ys, k + 1, hx, hy => by
    simp only [List.take_succ_cons, Tr.eqL, List.getElem_cons_succ]
    rw [eqL_snoc xs ys k (by simpa using hx) (by simpa using hy), Bool.and_assoc]
  | [], _, _, hx, _ => by simp at hx
  | _ :: _, [], _, _, hy => by simp at hy
theorem eqL_no : ∀ (xs ys : List Tr.Nd) (k : Nat) (hx : k < xs.length) (hy : k < ys.length), Tr.eqN xs[k] ys[k] = false → Tr.eqL xs ys = false
  | x :: xs, y :: ys, 0, _, _, h => by simp only [List.getElem_cons_zero] at h; rw [Tr.eqL, h, Bool.false_and]
  | x :: xs, y :: ys, k + 1, hx, hy, h => by
    simp only [List.getElem_cons_succ] at h
    rw [Tr.eqL, eqL_no xs ys k (by simpa using hx) (by simpa using hy) h, Bool.and_false]
  | [], _, _, hx, _, _ => by simp at hx
  | _ :: _, [], _, _, hy, _ => by simp at hy

set_option maxRecDepth 100000 in
set_option maxHeartbeats 1000000 in
/-- SameItems, if Equal is known for the items. -/
theorem same_step (ks ls : List Tr.Nd) (v1 v2 : Value) (w : World) (h1 : RepL w ks v1) (h2 : RepL w ls v2)
    (hi : ∀ x ∈ ks, ∀ (y : Tr.Nd) (sx sy : Value) (w' : World), RepL w' x.kids sx → RepL w' y.kids sy → Calls Try.prog 11 #[.agg #[.int .i64 x.kind, .string ⟨x.text.toArray⟩, .int .i64 x.cols, sx], .agg #[.int .i64 y.kind, .string ⟨y.text.toArray⟩, .int .i64 y.cols, sy]] w' fun e w'' => e = .returned (.bool (Tr.eqN x y)) ∧ Fresh w' w'') :
    Calls Try.prog 32 #[v1, v2] w fun e w' => e = .returned (.bool (Tr.eqL ks ls)) ∧ Fresh w w' := by
  have HI := hid hi
  clear hi
  have hlen := h1.len
  unfold maxLen at hlen
  obtain ⟨A, cap, rfl⟩ := h1.slice
  obtain ⟨B, cbp, rfl⟩ := h2.slice
  have HR1 := hid h1
  have HR2 := hid h2
  clear h1 h2
  have HLL := hid (Tr.eqL_len ks ls)
  by_cases c0 : ks.length = ls.length
  · have b0 : ((ks.length : Int) == (ls.length : Int)) = true := by rw [c0]; simp
    have b0' : ((ks.length : Int) != (ls.length : Int)) = false := by rw [bne, b0]; rfl
    have C0 := hid c0
    clear c0
    go_enter Try.func32, Try.ntmps32
    go_wp2_with fail
    go_loopw [5] (fun i wr => ∃ j : Nat, i = .int .i64 j ∧ j ≤ ks.length ∧ Hid (Tr.eqL (ks.take j) (ls.take j) = true) ∧ Hid (Fresh w wr)) (fun i _ => ks.length - (intOf i).toNat)
    case atStart => exact ⟨0, rfl, Nat.zero_le _, by simp [Tr.eqL, Hid], Touch.refl _ _⟩
    case round =>
      obtain ⟨j, rfl, hj, HA, HF⟩ := hrel
      by_cases c1 : j < ks.length
      · have d1 : decide ((j : Int) < (ks.length : Int)) = true := by simp; omega
        have d1' : (j : Int) < (ks.length : Int) := by omega
        have c1y : j < ls.length := by rw [← C0.out]; exact c1
        have d1y : (j : Int) < (ls.length : Int) := by omega
        obtain ⟨g, o, sx, rfl, hg, m0, m1, m2, m3, hrk⟩ := HR1.out.get j c1
        obtain ⟨g', o', sy, rfl, hg', n0, n1, n2, n3, hrl⟩ := HR2.out.get j c1y
        have HS := hid (eqL_snoc ks ls j c1 c1y)
        have HN := hid (eqL_no ks ls j c1 c1y)
        have HX := hid (HI.out ks[j] (List.getElem_mem c1) ls[j] sx sy)
        have a0 := HF.out.cell m0 (fun h => h)
        have a1 := HF.out.cell m1 (fun h => h)
        have a2 := HF.out.cell m2 (fun h => h)
        have a3 := HF.out.cell m3 (fun h => h)
        have b0 := HF.out.cell n0 (fun h => h)
        have b1 := HF.out.cell n1 (fun h => h)
        have b2 := HF.out.cell n2 (fun h => h)
        have b3 := HF.out.cell n3 (fun h => h)
        have HRK := hid hrk
        have HRL := hid hrl
        clear m0 m1 m2 m3 n0 n1 n2 n3 hrk hrl HI HR1 HR2
        generalize ks[j] = x at *
        generalize ls[j] = y at *
        go_wp2_with fail
        refine forget_world (fun W => Fresh wr W) (by first | exact (Touch.refl _ _) | exact (Touch.refl _ _).alloc _ | exact ((Touch.refl _ _).alloc _).alloc _ | exact (((Touch.refl _ _).alloc _).alloc _).alloc _ | exact (Touch.refl _ _).drewN _ | exact ((Touch.refl _ _).alloc _).drewN _ | exact (((Touch.refl _ _).alloc _).alloc _).drewN _) ?_
        rintro w4 hfw4
        have HF4 := hid hfw4
        clear hfw4
        have a0_w4 : World.cell? w4 ⟨g, o + j * 4, none⟩ = some (.int .i64 x.kind) := Touch.cell HF4.out a0 (fun h => h)
        have a1_w4 : World.cell? w4 ⟨g, o + j * 4 + 1, none⟩ = some (.string (⟨x.text.toArray⟩ : ByteArray)) := Touch.cell HF4.out a1 (fun h => h)
        have a2_w4 : World.cell? w4 ⟨g, o + j * 4 + 2, none⟩ = some (.int .i64 x.cols) := Touch.cell HF4.out a2 (fun h => h)
        have a3_w4 : World.cell? w4 ⟨g, o + j * 4 + 3, none⟩ = some (sx) := Touch.cell HF4.out a3 (fun h => h)
        have b0_w4 : World.cell? w4 ⟨g', o' + j * 4, none⟩ = some (.int .i64 y.kind) := Touch.cell HF4.out b0 (fun h => h)
        have b1_w4 : World.cell? w4 ⟨g', o' + j * 4 + 1, none⟩ = some (.string (⟨y.text.toArray⟩ : ByteArray)) := Touch.cell HF4.out b1 (fun h => h)
        have b2_w4 : World.cell? w4 ⟨g', o' + j * 4 + 2, none⟩ = some (.int .i64 y.cols) := Touch.cell HF4.out b2 (fun h => h)
        have b3_w4 : World.cell? w4 ⟨g', o' + j * 4 + 3, none⟩ = some (sy) := Touch.cell HF4.out b3 (fun h => h)
        clear a0 a1 a2 a3 b0 b1 b2 b3
        have ga0_w4 := cell_regrown a0_w4
        have ga1_w4 := cell_regrown a1_w4
        have ga2_w4 := cell_regrown a2_w4
        have ga3_w4 := cell_regrown a3_w4
        have gb0_w4 := cell_regrown b0_w4
        have gb1_w4 := cell_regrown b1_w4
        have gb2_w4 := cell_regrown b2_w4
        have gb3_w4 := cell_regrown b3_w4
        have C0_w4 := hid (calmF (P := Try.prog) w4 (fun w hw => HX.out _ (HRK.out.fresh (Touch.trans (HF.out.trans HF4.out) hw)) (HRL.out.fresh (Touch.trans (HF.out.trans HF4.out) hw))))
        refine wp_region_quiet_below (by kernel_rfl) (by kernel_rfl) ?_
        repeat (quiet_step (first | with_reducible exact C0_w4.out _ _))
        refine wpQuiet_nil ?_
        rintro w5 ⟨⟨_, _⟩, hWw5⟩
        have hfw5 : Fresh w4 w5 := by rw [hWw5]; exact fresh_of_below (below_regrown _ _ _)
        clear hWw5 ga0_w4 ga1_w4 ga2_w4 ga3_w4 gb0_w4 gb1_w4 gb2_w4 gb3_w4
        have HF5 := hid (show Fresh w4 w5 from by first | exact hfw5 | exact Touch.pre hfw5 | exact Touch.pre (Touch.pre hfw5) | exact Touch.ofN hfw5 | exact Touch.preN hfw5 | exact Touch.pre (Touch.pre (Touch.pre hfw5)))
        have a0_w5 : World.cell? w5 ⟨g, o + j * 4, none⟩ = some (.int .i64 x.kind) := Touch.cell HF5.out a0_w4 (fun h => h)
        have a1_w5 : World.cell? w5 ⟨g, o + j * 4 + 1, none⟩ = some (.string (⟨x.text.toArray⟩ : ByteArray)) := Touch.cell HF5.out a1_w4 (fun h => h)
        have a2_w5 : World.cell? w5 ⟨g, o + j * 4 + 2, none⟩ = some (.int .i64 x.cols) := Touch.cell HF5.out a2_w4 (fun h => h)
        have a3_w5 : World.cell? w5 ⟨g, o + j * 4 + 3, none⟩ = some (sx) := Touch.cell HF5.out a3_w4 (fun h => h)
        have b0_w5 : World.cell? w5 ⟨g', o' + j * 4, none⟩ = some (.int .i64 y.kind) := Touch.cell HF5.out b0_w4 (fun h => h)
        have b1_w5 : World.cell? w5 ⟨g', o' + j * 4 + 1, none⟩ = some (.string (⟨y.text.toArray⟩ : ByteArray)) := Touch.cell HF5.out b1_w4 (fun h => h)
        have b2_w5 : World.cell? w5 ⟨g', o' + j * 4 + 2, none⟩ = some (.int .i64 y.cols) := Touch.cell HF5.out b2_w4 (fun h => h)
        have b3_w5 : World.cell? w5 ⟨g', o' + j * 4 + 3, none⟩ = some (sy) := Touch.cell HF5.out b3_w4 (fun h => h)
        clear a0_w4 a1_w4 a2_w4 a3_w4 b0_w4 b1_w4 b2_w4 b3_w4
        clear hfw5
        cases h4 : Tr.eqN x y with
        | false =>
          go_wp2_with fail
          go_ret
          exact ⟨by rw [HN.out (by assumption)]; rfl, (HF.out.trans (HF4.out.trans HF5.out))⟩
        | true =>
          go_wp2_with fail
          go_roundw
          case rel => exact ⟨j + 1, by go_num, c1, by unfold Hid; rw [HS.out, HA.out]; simpa using (by assumption), (HF.out.trans (HF4.out.trans HF5.out))⟩
          case measure => simp [intOf]; omega
      · have d1 : decide ((j : Int) < (ks.length : Int)) = false := by simp; omega
        obtain rfl : j = ks.length := by omega
        go_wp2_with fail
        go_ret
        refine ⟨?_, HF.out⟩
        have := HA.out
        rw [List.take_length, C0.out, List.take_length] at this
        rw [this]; rfl
  · have b0 : ((ks.length : Int) == (ls.length : Int)) = false := by rw [beq_eq_false_iff_ne]; omega
    have b0' : ((ks.length : Int) != (ls.length : Int)) = true := by rw [bne, b0]; rfl
    have HLN := hid (HLL.out c0)
    clear c0
    go_enter Try.func32, Try.ntmps32
    go_wp2_with fail
    go_ret
    exact ⟨by rw [HLN.out]; rfl, Touch.refl _ _⟩

theorem equal_any (m : Nat) : ∀ (n : Tr.Nd) (y : Tr.Nd) (sl sm : Value) (w : World), Tr.count n ≤ m → RepL w n.kids sl → RepL w y.kids sm →
    Calls Try.prog 11 #[.agg #[.int .i64 n.kind, .string ⟨n.text.toArray⟩, .int .i64 n.cols, sl], .agg #[.int .i64 y.kind, .string ⟨y.text.toArray⟩, .int .i64 y.cols, sm]] w fun e w' => e = .returned (.bool (Tr.eqN n y)) ∧ Fresh w w' := by
  induction m with
  | zero => intro n _ _ _ _ h; have := Tr.count_pos n; omega
  | succ m ih =>
    intro n y sl sm w hc h1 h2
    refine equal_step n y sl sm w fun w' hf => same_step n.kids y.kids sl sm w' (h1.fresh hf) (h2.fresh hf) fun x hx z sx sz w'' g1 g2 => ih x z sx sz w'' ?_ g1 g2
    have := Tr.count_mem hx
    have := Tr.count_kids n
    omega
end Go.Proofs.Ytilgpmpiidccjaa
