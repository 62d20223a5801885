/- Part 4 of 42 of a proof; its texts, joined: Base, Row, Reg, RegB, App, Tkr, SlA, SlB. No condition. -/
import Derived.Test.YtomibmenojdieaaGreatRows
import Derived.WalkKit
import Derived.WalkSpells
import Derived.WalkLawsBesides
import Derived.Deep.QuietTactic
import Derived.BigQuiet
import Derived.Deep.Draws
import Derived.StillTailTactics
import Derived.Deep.RegionHeld3
import Derived.Lib.QuietBelow
import Derived.ProofKit
import Derived.ChangeMaps5
import Derived.WideKeyArgs
import Derived.Lib.SmallJoins
import Derived.Maps.AppendAt
import Derived.Deep.RegionLaw
import Derived.Deep.DeepCutAuto
import Derived.Test.YtomibmenojdieaaGreatXx1
import Derived.Lib.AppendZeros
import Derived.Lib.SliceRun
set_option maxRecDepth 100000
namespace Go.Proofs.YtomibmenojdieaaGreat
open Go.RowKit
theorem ret_int {k : IntKind} {a b : Int} (h : a = b) : Ending.returned (.int k a) = .returned (.int k b) := by rw [h]
theorem hid {p : Prop} (h : p) : Hid p := h
def Blk (w : World) (g : Nat) (t : TypeId) (cs : Array Value) : Prop := w.heap[g]? = some (.cells cs t (0, 0))
theorem Blk.lt {w : World} {g : Nat} {t : TypeId} {cs : Array Value} (h : Blk w g t cs) : g < w.heap.size := (Array.getElem?_eq_some_iff.1 h).1
theorem Blk.cell {w : World} {g : Nat} {t : TypeId} {cs : Array Value} (h : Blk w g t cs) (i : Nat) : w.cell? ⟨g, i, none⟩ = cs[i]? := by
 unfold Blk at h; simp [World.cell?, h]
theorem Blk.frozen {w : World} {g : Nat} {t : TypeId} {cs : Array Value} (h : Blk w g t cs) (i : Nat) : w.frozen? ⟨g, i, none⟩ = false := by
 unfold Blk at h; simp [World.frozen?, h]
theorem Blk.new (w : World) (t : TypeId) (cs : Array Value) : Blk (w.alloc (.cells cs t)) w.heap.size t cs := heap_alloc_new w _
theorem Blk.new2 (w : World) (o : Obj) (t : TypeId) (cs : Array Value) : Blk ((w.alloc o).alloc (.cells cs t)) (w.heap.size + 1) t cs := by
 have := Blk.new (w.alloc o) t cs;simpa using this
theorem Blk.drewN {w : World} {g : Nat} {t : TypeId} {cs : Array Value} (h : Blk w g t cs) (n : Nat) : Blk (w.drewN n) g t cs := h
theorem Blk.alloc {w : World} {g : Nat} {t : TypeId} {cs : Array Value} (h : Blk w g t cs) (o : Obj) : Blk (w.alloc o) g t cs := (Below.heap_alloc w o g h.lt).trans h
theorem Blk.put {w : World} {g : Nat} {t : TypeId} {cs : Array Value} (h : Blk w g t cs) (i : Nat) (u : Value) : Blk (w.setCell ⟨g, i, none⟩ u) g t (cs.setIfInBounds i u) := by
 unfold Blk at h ⊢;simp [World.setCell, Array.getElem?_modify, h]
theorem Blk.far {w : World} {g : Nat} {t : TypeId} {cs : Array Value} (h : Blk w g t cs) {p : Addr} (hp : g ≠ p.block) (u : Value) : Blk (w.setCell p u) g t cs := (Below.heap_setCell w p u g hp).trans h
theorem Blk.four {w : World} {g : Nat} {t : TypeId} {x0 x1 x2 x3 : Value} (h : Blk w g t #[x0, x1, x2, x3]) :
  w.cell? ⟨g, 0, none⟩ = some x0 ∧ w.cell? ⟨g, 1, none⟩ = some x1 ∧ w.cell? ⟨g, 2, none⟩ = some x2 ∧ w.cell? ⟨g, 3, none⟩ = some x3 ∧
  w.frozen? ⟨g, 0, none⟩ = false ∧ w.frozen? ⟨g, 1, none⟩ = false ∧ w.frozen? ⟨g, 2, none⟩ = false ∧ w.frozen? ⟨g, 3, none⟩ = false ∧ g < w.heap.size :=
 ⟨h.cell 0, h.cell 1, h.cell 2, h.cell 3, h.frozen 0, h.frozen 1, h.frozen 2, h.frozen 3, h.lt⟩
structure Touch (S : Nat → Prop) (w w' : World) : Prop where
 os : w'.os = w.os
 tape : w'.tape = w.tape
 output : w'.output = w.output
 size : w.heap.size ≤ w'.heap.size
 block : ∀ k, k < w.heap.size → ¬ S k → w'.heap[k]? = w.heap[k]?
namespace Touch
variable {S S' : Nat → Prop} {a b c w w' : World}
theorem refl (S : Nat → Prop) (w : World) : Touch S w w := ⟨rfl, rfl, rfl, Nat.le_refl _, fun _ _ _ => rfl⟩
theorem trans' (h : Touch S a b) (k : Touch S' b c) (hS : ∀ i, S' i → S i ∨ a.heap.size ≤ i) : Touch S a c :=
 ⟨k.os.trans h.os, k.tape.trans h.tape, k.output.trans h.output, Nat.le_trans h.size k.size, fun i hi hn =>
  (k.block i (Nat.lt_of_lt_of_le hi h.size) (fun hs => (hS i hs).elim hn (fun hle => absurd hi (by omega)))).trans (h.block i hi hn)⟩
theorem trans (h : Touch S a b) (k : Touch S b c) : Touch S a c := h.trans' k fun _ hs => .inl hs
theorem mono (h : Touch S a b) (hS : ∀ i, S i → S' i) : Touch S' a b := ⟨h.os, h.tape, h.output, h.size, fun i hi hn => h.block i hi (fun hs => hn (hS i hs))⟩
theorem drew (h : Touch S a w) : Touch S a w.drew := ⟨h.os, h.tape, h.output, h.size, h.block⟩
theorem drewN (h : Touch S a w) (n : Nat) : Touch S a (w.drewN n) := ⟨h.os, h.tape, h.output, h.size, h.block⟩
theorem alloc (h : Touch S a w) (o : Obj) : Touch S a (w.alloc o) :=
 h.trans ⟨rfl, rfl, rfl, by simp, fun i hi _ => Below.heap_alloc _ _ _ hi⟩
theorem setCell (h : Touch S a w) {p : Addr} (hp : S p.block ∨ a.heap.size ≤ p.block) (u : Value) : Touch S a (w.setCell p u) :=
 ⟨h.os, h.tape, h.output, by simpa [World.setCell] using h.size, fun i hi hn => (Below.heap_setCell w p u i (by
  rintro rfl;exact hp.elim hn (fun hle => absurd hi (by omega)))).trans (h.block i hi hn)⟩
theorem grown (h : Touch S a w) {row : Option Nat} (hg : w.grownBy w' row) (hr : ∀ g, row = some g → S g ∨ a.heap.size ≤ g) : Touch S a w' :=
 ⟨hg.os.trans h.os, hg.tape.trans h.tape, hg.output.trans h.output, Nat.le_trans h.size hg.size, fun i hi hn =>
  (hg.block i (Nat.lt_of_lt_of_le hi h.size) (fun e => (hr i e.symm).elim hn (fun hle => absurd hi (by omega)))).trans (h.block i hi hn)⟩
theorem below (h : Touch S a w) {B : Nat} (hB : B ≤ a.heap.size) (hS : ∀ i, S i → B ≤ i) : Below B a w :=
 ⟨h.os, h.tape, h.output, h.size, fun i hi => h.block i (by omega) (fun hs => by have := hS i hs; omega)⟩
theorem of_below {B : Nat} (h : Below B a w) (hS : ∀ i, B ≤ i → i < a.heap.size → S i) : Touch S a w :=
 ⟨h.os, h.tape, h.output, h.size, fun i hi hn => h.block i (by
  rcases Nat.lt_or_ge i B with h' | h'
  ·exact h'
  ·exact absurd (hS i h' hi) hn)⟩
theorem blk (h : Touch S w w') {g : Nat} {t : TypeId} {cs : Array Value} (hb : Blk w g t cs) (hn : ¬ S g) : Blk w' g t cs := (h.block g hb.lt hn).trans hb
theorem cell (h : Touch S w w') {p : Addr} {v : Value} (hc : w.cell? p = some v) (hn : ¬ S p.block) : w'.cell? p = some v := by
 have hlt : p.block < w.heap.size := by
  rcases Nat.lt_or_ge p.block w.heap.size with h' | h'
  ·exact h'
  ·simp [World.cell?, Array.getElem?_eq_none h'] at hc
 exact (World.cell?_of_block (w := w) (h.block p.block hlt hn)).trans hc
theorem frozen (h : Touch S w w') {p : Addr} (hlt : p.block < w.heap.size) (hn : ¬ S p.block) : w'.frozen? p = w.frozen? p :=
 World.frozen?_of_block (w := w) (h.block p.block hlt hn)
end Touch
theorem Touch.setRow {S : Nat → Prop} {a w : World} (h : Touch S a w) {g : Nat} (hg : S g ∨ a.heap.size ≤ g) (cs : Array Value) : Touch S a (w.setRow g cs) :=
 ⟨h.os, h.tape, h.output, by simpa [World.setRow] using h.size, fun i hi hn => (setRow_other w g i cs (by
  rintro rfl;exact hg.elim hn (fun hle => absurd hi (by omega)))).trans (h.block i hi hn)⟩
def put4 (w : World) (g : Nat) (x0 x1 x2 x3 : Value) : World := (((w.setCell ⟨g, 0, none⟩ x0).setCell ⟨g, 1, none⟩ x1).setCell ⟨g, 2, none⟩ x2).setCell ⟨g, 3, none⟩ x3
theorem Blk.far4 {w : World} {L g : Nat} {t : TypeId} {cs : Array Value} (h : Blk w L t cs) (hne : L ≠ g) (x0 x1 x2 x3 : Value) : Blk (put4 w g x0 x1 x2 x3) L t cs :=
 (((h.far (p := ⟨g, 0, none⟩) hne _).far (p := ⟨g, 1, none⟩) hne _).far (p := ⟨g, 2, none⟩) hne _).far (p := ⟨g, 3, none⟩) hne _
theorem Blk.self4 {w : World} {g : Nat} {t : TypeId} {a b c d : Value} (h : Blk w g t #[a, b, c, d]) (x0 x1 x2 x3 : Value) : Blk (put4 w g x0 x1 x2 x3) g t #[x0, x1, x2, x3] := (((h.put 0 x0).put 1 x1).put 2 x2).put 3 x3
theorem Touch.put4 {S : Nat → Prop} {w w' : World} {g : Nat} (h : Touch S w w') (hg : S g ∨ w.heap.size ≤ g) (x0 x1 x2 x3 : Value) : Touch S w (put4 w' g x0 x1 x2 x3) :=
 (((h.setCell (p := ⟨g, 0, none⟩) hg _).setCell (p := ⟨g, 1, none⟩) hg _).setCell (p := ⟨g, 2, none⟩) hg _).setCell (p := ⟨g, 3, none⟩) hg _
theorem Touch.pre {S : Nat → Prop} {w w' : World} {o : Obj} (h : Touch S (w.alloc o) w') : Touch S w w' := ((Touch.refl S w).alloc o).trans h
theorem Touch.preN {S : Nat → Prop} {w w' : World} {o : Obj} {n : Nat} (h : Touch S ((w.alloc o).drewN n) w') : Touch S w w' := (((Touch.refl S w).alloc o).drewN n).trans h
theorem Touch.ofN {S : Nat → Prop} {w w' : World} {n : Nat} (h : Touch S (w.drewN n) w') : Touch S w w' := ((Touch.refl S w).drewN n).trans h
abbrev Fresh (w w' : World) : Prop := Touch (fun _ => False) w w'
theorem Fresh.below {w w' : World} (h : Fresh w w') : Below w.heap.size w w' := Touch.below h (Nat.le_refl _) (fun _ hf => hf.elim)
theorem fresh_of_below {w w' : World} (h : Below w.heap.size w w') : Fresh w w' := Touch.of_below h fun _ h1 h2 => absurd h2 (by omega)
structure Wd (b c : World) : Prop where
 frs : Fresh b c
instance wdRefl (b : World) : Nonempty (Wd b b) := ⟨⟨Touch.refl _ _⟩⟩
instance wdAlloc (b c : World) (o : Obj) [h : Nonempty (Wd b c)] : Nonempty (Wd b (c.alloc o)) := h.elim fun h => ⟨⟨h.frs.alloc o⟩⟩
instance wdDrew (b c : World) (n : Nat) [h : Nonempty (Wd b c)] : Nonempty (Wd b (c.drewN n)) := h.elim fun h => ⟨⟨h.frs.drewN n⟩⟩
theorem frA {a b c : World} (h : Fresh a b) [hw : Nonempty (Wd b c)] : Fresh a c := hw.elim fun k => h.trans k.frs
theorem preA {a b c : World} (h : Fresh b c) [hw : Nonempty (Wd a b)] : Fresh a c := hw.elim fun k => k.frs.trans h
theorem blkA {b c : World} {g : Nat} {t : TypeId} {cs : Array Value} (h : Blk b g t cs) [hw : Nonempty (Wd b c)] : Blk c g t cs := hw.elim fun k => k.frs.blk h fun h => h
structure Bn (w : World) (g : Nat) (t : TypeId) (cs : Array Value) : Prop where
 blk : Blk w g t cs
theorem Blk.new3' (w : World) (o o' : Obj) (t : TypeId) (cs : Array Value) : Blk (((w.alloc o).alloc o').alloc (.cells cs t)) (w.heap.size + 1 + 1) t cs := by
 have := Blk.new2 (w.alloc o) o' t cs;simpa using this
instance bnNew (w : World) (t : TypeId) (cs : Array Value) : Nonempty (Bn (w.alloc (.cells cs t)) w.heap.size t cs) := ⟨⟨Blk.new _ _ _⟩⟩
instance bnNew2 (w : World) (o : Obj) (t : TypeId) (cs : Array Value) : Nonempty (Bn ((w.alloc o).alloc (.cells cs t)) (w.heap.size + 1) t cs) := ⟨⟨Blk.new2 _ _ _ _⟩⟩
instance bnNew3 (w : World) (o o' : Obj) (t : TypeId) (cs : Array Value) : Nonempty (Bn (((w.alloc o).alloc o').alloc (.cells cs t)) (w.heap.size + 1 + 1) t cs) := ⟨⟨Blk.new3' _ _ _ _ _⟩⟩
instance bnAlloc (w : World) (o : Obj) (g : Nat) (t : TypeId) (cs : Array Value) [h : Nonempty (Bn w g t cs)] : Nonempty (Bn (w.alloc o) g t cs) := h.elim fun h => ⟨⟨h.blk.alloc o⟩⟩
instance bnDrew (w : World) (n : Nat) (g : Nat) (t : TypeId) (cs : Array Value) [h : Nonempty (Bn w g t cs)] : Nonempty (Bn (w.drewN n) g t cs) := h.elim fun h => ⟨⟨h.blk.drewN n⟩⟩
theorem blkN {w : World} {g : Nat} {t : TypeId} {cs : Array Value} [h : Nonempty (Bn w g t cs)] : Blk w g t cs := h.elim fun h => h.blk
theorem mv4 {w w' : World} {a b c d : Addr} {x y z u : Value} (h : Fresh w w') (h0 : w.cell? a = some x) (h1 : w.cell? b = some y) (h2 : w.cell? c = some z) (h3 : w.cell? d = some u) :
  w'.cell? a = some x ∧ w'.cell? b = some y ∧ w'.cell? c = some z ∧ w'.cell? d = some u := ⟨h.cell h0 (fun h => h), h.cell h1 (fun h => h), h.cell h2 (fun h => h), h.cell h3 (fun h => h)⟩
theorem dF {p : Prop} [Decidable p] (h : ¬p) : decide p = false := decide_eq_false h
theorem dT {p : Prop} [Decidable p] (h : p) : decide p = true := decide_eq_true h
theorem frR {a c : World} [hw : Nonempty (Wd a c)] : Fresh a c := hw.elim fun k => k.frs
theorem bL {w : World} {a : Addr} {v : Value} (h : w.cell? a = some v) : a.block < w.heap.size := block_lt_of_cell h
theorem cR {w : World} {a : Addr} {v : Value} (h : w.cell? a = some v) (d : Nat) (os : Array Obj) : (Go.Sort.grow (redrawn w d) os).cell? a = some v := cell_regrown h d os
end Go.Proofs.YtomibmenojdieaaGreat
namespace Go.Proofs.YtomibmenojdieaaGreat
open Go.ChangeShapes Go.WideShapes Go.ChangeAt Go.RowKit
open Go.ChangeMaps (open_string shut_string)
theorem Tryz.ownKnob : ownKnob Tryz.prog.godebug = none := by kernel_rfl
theorem Tryz.laidOut : laidOutB Tryz.prog = true := by kernel_rfl
section
variable {H : Type} {enc : TypeId × Value → H} {P : Program}
theorem post_of_below {f : Func} {s : ChangeSpec} {apart fresh handsOn again : Bool} {W W' : World} {args : Array Value} {v : Value} {ds gs : List (DataW H)} {before pa pv : List MemPlace}
  (hW : DataW.Whole enc P f.params.toList s.vars apart W args.toList ds gs before)
  (hres : ∀ (b : Nat) (sp : Nat → Bool) (hd : Bool), DataW.TrodAll enc P W' b sp hd f.resultTypes.toList (v.resultList f.resultTypes.size) (s.fn H (ds ++ gs)).results [])
  (hargs : ∀ sp : Nat → Bool, (∀ p ∈ before, sp p.block = true) → DataW.TrodAll enc P W' 0 sp true f.params.toList args.toList (s.fn H (ds ++ gs)).args pa)
  (hvars : ∀ sp : Nat → Bool, (∀ p ∈ before, sp p.block = true) → DataW.TrodVars enc P W' sp s.vars (s.fn H (ds ++ gs)).vars pv)
  (hps : before = pa ++ pv) (hb : Below W.heap.size W W')
  (hok : ∀ (j : Nat) (t : TypeId) (r : Value), f.resultTypes[j]? = some t → (v.resultList f.resultTypes.size)[j]? = some r → Value.okWide P W' .any 0 t r) :
  s.post enc P f apart fresh handsOn again W args v W' := by
 have hlt : ∀ p ∈ before, p.block < W.heap.size := fun p hp => hW.lt p hp
 have hold : ∀ p ∈ before, (fun b => decide (b < W.heap.size)) p.block = true := fun p hp => by simpa using hlt p hp
 refine ⟨ds, gs, before, [], pa, pv, hW, hres _ _ _, hargs _ hold, hvars _ hold, World.keptBut_mono (fun p hp => ⟨hp, ?_⟩) (hb.frame (· ∈ before)), fun _ => ?_⟩
 ·rw [hps, List.mem_append] at hp
  exact Or.inr hp
 ·obtain ⟨_, _, _, _, _, hz, hn⟩ := hW
  refine ⟨hok, _, _, ([] ++ pa) ++ pv, ⟨[] ++ pa, pv, trodAll_append (hargs _ (fun _ _ => rfl)) (hres _ _ _), hvars _ (fun _ _ => rfl), rfl, ?_, ?_⟩, ?_⟩
  ·intro b off hp
   have hin : MemPlace.cell b off ∈ before := by rw [hps]; simpa using hp
   rw [hb.frozen (hlt _ hin)];exact hz b off hin
  ·intro ha
   have := hn ha;rw [hps] at this;simpa using this
  ·intro p hp _
   rw [hps];simpa using hp
theorem trodAll_stays (hl : laidOutB P = true) {W W' : World} {sp' : Nat → Bool} (hb : Below W.heap.size W W') : ∀ {ts : List TypeId} {vs : List Value} {ds : List (DataW H)} {ps : List MemPlace}, (∀ t ∈ ts, P.readableRec t = true ∧ t < P.types.size) →
  DataW.TrodAll enc P W 0 (fun _ => true) true ts vs ds ps → (∀ x ∈ ps, x.block < W.heap.size) → (∀ x ∈ ps, sp' x.block = true) → DataW.TrodAll enc P W' 0 sp' true ts vs ds ps
 | [], [], [], _, _, h, _, _ => h
 | _ :: _, _ :: _, _ :: _, _, ht, ⟨p, q, h1, h2, e⟩, hlt, hs => by
  subst e
  exact ⟨p, q, WideElems.Trod_stays hl (ht _ (List.mem_cons_self ..)).1 (ht _ (List.mem_cons_self ..)).2 h1 (fun x hx => hb.same (hlt x (List.mem_append_left _ hx))) (fun x hx => hs x (List.mem_append_left _ hx)),
   trodAll_stays hl hb (fun t h => ht t (List.mem_cons_of_mem _ h)) h2 (fun x hx => hlt x (List.mem_append_right _ hx)) (fun x hx => hs x (List.mem_append_right _ hx)), rfl⟩
theorem post_true {f : Func} {s : ChangeSpec} {W W' : World} {args : Array Value} {ds : List (DataW H)} {before : List MemPlace} {tb : TypeId} (hl : laidOutB P = true)
  (htb : P.underlying tb = some .bool) (hres : f.resultTypes = #[tb]) (hp : (f.params.toList.all fun t => P.readableRec t && decide (t < P.types.size)) = true) (hv : s.vars = [])
  (hfn : s.fn H ds = ({ results := [.lit (.bool true)], args := ds } : Left H))
  (hW : DataW.Whole enc P f.params.toList s.vars false W args.toList ds [] before) (hb : Fresh W W') : s.post enc P f false true false false W args (.bool true) W' := by
 have hW' := hW;obtain ⟨p, q, hA, hV, rfl, hfz, hnd⟩ := hW;have hlt := hW'.lt;rw [hv] at hV;obtain ⟨_, rfl⟩ := trodVars_none hV
 have hpt : ∀ t ∈ f.params.toList, P.readableRec t = true ∧ t < P.types.size := fun t ht => by
  have := List.all_eq_true.1 hp t ht;simpa using this
 refine post_of_below (pa := p) (pv := []) (gs := []) hW' ?_ ?_ ?_ rfl hb.below ?_
 ·intro b sp hd
  rw [hres, List.append_nil, hfn];exact trodAll_mk1 (shut_bool htb _)
 ·intro sp hs
  rw [List.append_nil, hfn];exact trodAll_stays hl hb.below hpt hA (fun x hx => hlt x (List.mem_append_left _ hx)) (fun x hx => hs x (List.mem_append_left _ hx))
 ·intro sp hs
  rw [hv, List.append_nil, hfn];rfl
 ·exact ok_one (f := f) (t := tb) hres rfl (okWide_bool_mk htb _)
end
end Go.Proofs.YtomibmenojdieaaGreat
namespace Go.Proofs.YtomibmenojdieaaGreat
open Go.RowKit
section
variable {P : Program} {ops : Array Oper} {md : Region.Mode} {C : World → Prop}
structure Closed (md : Region.Mode) (ops : Array Oper) (listed : Array Bool) : Prop where
 size : listed.size = ops.size
 closed : ∀ j oj, ops[j]? = some oj → listed.getD j false = true → ∀ e ∈ oj.after, Region.binds md e = true → listed.getD e.on false = true
theorem Closed.put {i : Nat} {listed : Array Bool} (inv : Closed md ops listed) (hi : i ∈ Region.ready md ops listed) : Closed md ops (listed.setIfInBounds i true) := by
 obtain ⟨_, oi, hoi, hall⟩ := mem_ready.1 hi;refine ⟨by simp [inv.size], fun j oj hj hl e he hb => ?_⟩
 by_cases hij : i = j
 ·subst hij
  have : oj = oi := Option.some.inj (hj.symm.trans hoi);subst this;exact getD_set_true (hall e he hb)
 ·rw [getD_set_ne false hij] at hl
  exact getD_set_true (inv.closed j oj hj hl e he hb)
def sinkL (md : Region.Mode) (ops : Array Oper) : List Nat → Option Nat → Bool
 | [], _ => true
 | q :: qs, t => (qs.any (fun j => Region.waitsFor md ops j q) || (match t with | some t => Region.waitsFor md ops t q | none => true)) && sinkL md ops qs t
def shutB (md : Region.Mode) (ops : Array Oper) (qs : List Nat) (t : Option Nat) (listed : Array Bool) : Bool :=
 (List.range ops.size).all (fun u => listed.getD u false || qs.contains u || t == some u || (List.range ops.size).any (fun v => Region.waitsFor md ops u v && !listed.getD v false && !qs.contains v))
 && sinkL md ops qs t
theorem sink_spec {t : Nat} {listed : Array Bool} (inv : Closed md ops listed) : ∀ (qs : List Nat), sinkL md ops qs (some t) = true → (∃ q ∈ qs, listed.getD q false = false) → ∃ v, Region.waitsFor md ops t v = true ∧ listed.getD v false = false
 | [], _, h => by obtain ⟨q, hq, _⟩ := h; cases hq
 | q :: qs, hs, h => by
  simp only [sinkL, Bool.and_eq_true, Bool.or_eq_true] at hs
  by_cases hr : ∃ q ∈ qs, listed.getD q false = false
  ·exact sink_spec inv qs hs.2 hr
  ·obtain ⟨x, hx, hxl⟩ := h
   have hxq : x = q := by
    rcases List.mem_cons.1 hx with h1 | h1
    ·exact h1
    ·exact absurd ⟨x, h1, hxl⟩ hr
   subst hxq
   rcases hs.1 with h1 | h1
   ·obtain ⟨j, hj, hw⟩ := List.any_eq_true.1 h1
    obtain ⟨oj, hoj, e, he, hb, hon⟩ := Region.waitsFor_spec hw;cases hl : listed.getD j false with
    | true =>
     have h2 := inv.closed j oj hoj hl e he hb;rw [hon, hxl] at h2;cases h2
    | false => exact absurd ⟨j, hj, hl⟩ hr
   ·exact ⟨x, h1, hxl⟩
theorem ready_waits {u v : Nat} {listed : Array Bool} (hu : u ∈ Region.ready md ops listed) (hw : Region.waitsFor md ops u v = true) : listed.getD v false = true := by
 obtain ⟨_, ou, hou, hall⟩ := mem_ready.1 hu;obtain ⟨o', ho', e, he, hb, hon⟩ := Region.waitsFor_spec hw;have : o' = ou := Option.some.inj (ho'.symm.trans hou);subst this;have := hall e he hb
 rwa [hon] at this
theorem shut_spec {qs : List Nat} {t : Option Nat} {listed0 listed : Array Bool} (h : shutB md ops qs t listed0 = true) (inv : Closed md ops listed)
  (h1 : ∀ j, listed0.getD j false = true → listed.getD j false = true) (h2 : ∀ j, listed.getD j false = true → listed0.getD j false = true ∨ j ∈ qs)
  (hq : ∃ q ∈ qs, listed.getD q false = false) : ∀ u ∈ Region.ready md ops listed, u ∈ qs := by
 intro u hu;simp only [shutB, Bool.and_eq_true] at h;obtain ⟨hun, ou, hou, _⟩ := mem_ready.1 hu;have hlt : u < ops.size := (Array.getElem?_eq_some_iff.1 hou).1;have hx := List.all_eq_true.1 h.1 u (List.mem_range.2 hlt);simp only [Bool.or_eq_true] at hx
 rcases hx with ((hx | hx) | hx) | hx
 ·have := h1 u hx
  rw [getD_both hun] at this;cases this
 ·simpa using hx
 ·have ht : t = some u := by simpa using hx
  subst ht;obtain ⟨v, hw, hv⟩ := sink_spec inv qs h.2 hq;rw [ready_waits hu hw] at hv;cases hv
 ·obtain ⟨v, hv, hx⟩ := List.any_eq_true.1 hx
  simp only [Bool.and_eq_true, Bool.not_eq_true'] at hx;have hl := ready_waits hu hx.1.1
  rcases h2 v hl with h3 | h3
  ·rw [hx.1.2] at h3; cases h3
  ·simp [h3] at hx
def wpAnyZ (P : Program) (md : Region.Mode) (ops : Array Oper) (C : World → Prop) (qs : List Nat) (L : Array Bool → Act → Prop) : Nat → Array Bool → Act → Prop
 | 0, listed, a => L listed a
 | f + 1, listed, a => Region.ready md ops listed ≠ [] ∧ ∀ i ∈ Region.ready md ops listed, i ∈ qs ∧ qOp P ops C i (wpAnyZ P md ops C qs L f (listed.setIfInBounds i true)) a
theorem wpAny_of_Z {qs : List Nat} {g : Nat} {L : Array Bool → Act → Prop} {Q' : Exit → Act → World → Prop} (hL : ∀ listed a w, C w → L listed a → wpAny P md ops Q' g listed a w) :
  ∀ (f : Nat) (listed : Array Bool) (a : Act) (w : World), C w → wpAnyZ P md ops C qs L f listed a → wpAny P md ops Q' (f + g) listed a w
 | 0, listed, a, w, hC, h => by rw [Nat.zero_add]; exact hL _ _ _ hC h
 | f + 1, listed, a, w, hC, h => by
  rw [show f + 1 + g = (f + g) + 1 by omega];exact ⟨fun h0 => absurd h0 h.1, fun i hi => wpOp_of_qOp hC (fun a' w' hC' h' => wpAny_of_Z hL f _ a' w' hC' h') (h.2 i hi).2⟩
structure ZInv (md : Region.Mode) (ops : Array Oper) (qs : List Nat) (listed0 listed : Array Bool) : Prop where
 closed : Closed md ops listed
 sub : ∀ j, listed0.getD j false = true → listed.getD j false = true
 sup : ∀ j, listed.getD j false = true → listed0.getD j false = true ∨ j ∈ qs
theorem ZInv.put {qs : List Nat} {listed0 listed : Array Bool} {i : Nat} (inv : ZInv md ops qs listed0 listed) (hi : i ∈ Region.ready md ops listed) (hq : i ∈ qs) : ZInv md ops qs listed0 (listed.setIfInBounds i true) :=
 ⟨inv.closed.put hi, fun j hj => getD_set_true (inv.sub j hj), fun j hj => by
  by_cases hij : i = j
  ·subst hij; exact .inr hq
  ·rw [getD_set_ne false hij] at hj; exact inv.sup j hj⟩
theorem wpAnyZ_first {qs : List Nat} {t : Option Nat} {listed0 : Array Bool} {i : Nat} {oi : Oper} {v : Value} {L : Array Bool → Act → Prop} (hi : ops[i]? = some oi) (hsel : ∀ (j : Nat) (o : Oper) cs b, ops[j]? = some o → o.op ≠ .select cs b)
  (hs : shutB md ops qs t listed0 = true) (hin : i ∈ qs) (hdone : ∀ listed a, L listed a → ∀ j ∈ Region.ready md ops listed, j ∉ qs) :
  ∀ (f : Nat) (listed : Array Bool) (a : Act), ZInv md ops qs listed0 listed →
   (∀ j oj, ops[j]? = some oj → j ≠ i → listed.getD j true = false → (∀ e ∈ oj.after, Region.binds md e = true → e.on ≠ i) → oi.apart ops oj = true) →
   i ∈ Region.ready md ops listed → YieldsIn P ops C oi v a →
   wpAnyZ P md ops C qs L f (listed.setIfInBounds i true) (a.put oi.dst v) → wpAnyZ P md ops C qs L (f + 1) listed a := by
 intro f
 induction f with
 | zero =>
  intro listed a inv _ hr hy H;have hun := (mem_ready.1 hr).1;refine ⟨fun h => (by rw [h] at hr; cases hr), fun j hj => ?_⟩;have hjn := shut_spec hs inv.closed inv.sub inv.sup ⟨i, hin, getD_both hun⟩ j hj;refine ⟨hjn, ?_⟩
  by_cases hji : j = i
  ·subst hji; exact hy.qOp hi H
  ·exact absurd hjn (hdone _ _ H j (ready_mono hj hji))
 | succ f ih =>
  intro listed a inv hfree hr hy H;have hun := (mem_ready.1 hr).1;refine ⟨fun h => (by rw [h] at hr; cases hr), fun j hj => ?_⟩;have hjn := shut_spec hs inv.closed inv.sub inv.sup ⟨i, hin, getD_both hun⟩ j hj;refine ⟨hjn, ?_⟩
  by_cases hji : j = i
  ·subst hji; exact hy.qOp hi H
  ·have h1 := (H.2 j (ready_mono hj hji)).2
   obtain ⟨hjun, oj, hoj, hall⟩ := mem_ready.1 hj
   have hnot : ∀ e ∈ oj.after, Region.binds md e = true → e.on ≠ i := fun e he hb heq => by
    have h1 := hall e he hb;rw [heq, getD_both hun] at h1;cases h1
   have h2 := qOp_put hoj (hfree j oj hoj hji hjun hnot) (fun cs b => hsel i oi cs b hi) (fun cs b => hsel j oj cs b hoj) hy h1
   have hfree' : ∀ k ok, ops[k]? = some ok → k ≠ i → (listed.setIfInBounds j true).getD k true = false →
     (∀ e ∈ ok.after, Region.binds md e = true → e.on ≠ i) → oi.apart ops ok = true := fun k ok hk hki hun hno => by
    refine hfree k ok hk hki ?_ hno
    by_cases hjk : j = k
    ·subst hjk; exact hjun
    ·rw [getD_set_ne true hjk] at hun; exact hun
   refine qOp_mono (fun a' h3 => ih (listed.setIfInBounds j true) a' (inv.put hj hjn) hfree' (ready_mono hr (Ne.symm hji)) h3.1 ?_) h2;rw [Array.setIfInBounds_comm _ _ hji];exact h3.2
def setAll : List Nat → Array Bool → Array Bool
 | [], x => x
 | k :: l, x => setAll l (x.setIfInBounds k true)
def lexZ (md : Region.Mode) (ops : Array Oper) : List Nat → Array Bool → Bool
 | [], _ => true
 | k :: l, listed => (Region.ready md ops listed).contains k && Region.free md ops listed k && lexZ md ops l (listed.setIfInBounds k true)
def pick (l : List Oper) : List Nat → List Oper
 | [] => []
 | k :: r => match l[k]? with
  | some o => o :: pick l r
  | none => pick l r
theorem wpAnyZ_lex {l0 : List Oper} {qs : List Nat} {t : Option Nat} {listed0 : Array Bool} {Lq : Act → Prop} {fin : Array Bool} (hsel : Region.noSelect l0.toArray = true) (hs : shutB md l0.toArray qs t listed0 = true)
  (hfin : ∀ j ∈ Region.ready md l0.toArray fin, j ∉ qs) :
  ∀ (l : List Nat) (listed : Array Bool) (a : Act), (∀ k ∈ l, k ∈ qs) → ZInv md l0.toArray qs listed0 listed → lexZ md l0.toArray l listed = true → setAll l listed = fin →
  wpQuiet P l0.toArray C Lq (pick l0 l) a → wpAnyZ P md l0.toArray C qs (fun listed' a' => listed' = fin ∧ Lq a') l.length listed a
 | [], listed, a, _, _, _, hf, h => ⟨hf, h⟩
 | k :: l, listed, a, hq, inv, hB, hf, h => by
  simp only [lexZ, Bool.and_eq_true] at hB;obtain ⟨⟨hr, hfr⟩, hB'⟩ := hB;have hr' : k ∈ Region.ready md l0.toArray listed := by simpa using hr
  obtain ⟨_, o, ho, _⟩ := mem_ready.1 hr';have ho' : l0[k]? = some o := by simpa using ho
  have hpick : pick l0 (k :: l) = o :: pick l0 l := by simp [pick, ho']
  rw [hpick] at h;have hst : qOp P l0.toArray C k (wpQuiet P l0.toArray C Lq (pick l0 l)) a := by unfold qOp; rw [ho]; exact h
  obtain ⟨v, hy, hK⟩ := yieldsIn_of_qOp ho hst;have hkq := hq k (by simp)
  exact wpAnyZ_first ho (Region.noSelect_spec hsel) hs hkq (fun listed' a' hL => by rw [hL.1]; exact hfin) l.length listed a inv (Region.free_spec ho hfr) hr' hy
   (wpAnyZ_lex hsel hs hfin l _ _ (fun x hx => hq x (by simp [hx])) (inv.put hr' hkq) hB' hf hK)
theorem closed_after {qs : List Nat} {listed0 : Array Bool} : ∀ (l : List Nat) (listed : Array Bool), (∀ k ∈ l, k ∈ qs) → ZInv md ops qs listed0 listed → lexZ md ops l listed = true → ZInv md ops qs listed0 (setAll l listed)
 | [], _, _, inv, _ => inv
 | k :: l, listed, hq, inv, hB => by
  simp only [lexZ, Bool.and_eq_true] at hB;exact closed_after l _ (fun x hx => hq x (by simp [hx])) (inv.put (by simpa using hB.1.1) (hq k (by simp))) hB.2
def segsB (md : Region.Mode) (ops : Array Oper) : List (List Nat × Nat) → List Nat → Array Bool → Bool
 | [], last, listed => shutB md ops last none listed && lexZ md ops last listed && (Region.ready md ops (setAll last listed)).isEmpty
 | (qs, t) :: segs, last, listed => shutB md ops qs (some t) listed && lexZ md ops qs listed && decide (Region.ready md ops (setAll qs listed) = [t]) && !qs.contains t &&
   segsB md ops segs last ((setAll qs listed).setIfInBounds t true)
def segsN : List (List Nat × Nat) → List Nat → Nat
 | [], last => last.length
 | (qs, _) :: segs, last => qs.length + (segsN segs last + 1)
def wpSegs (P : Program) (l : List Oper) (Q : Exit → Act → World → Prop) : List (List Nat × Nat) → List Nat → Act → World → Prop
 | [], last, a, w => wpQuiet P l.toArray (fun w' => ∃ n, w' = w.drewN n) (fun a' => ∀ w', (∃ n, w' = w.drewN n) → Q .normal a' w') (pick l last) a
 | (qs, t) :: segs, last, a, w => wpQuiet P l.toArray (fun w' => ∃ n, w' = w.drewN n)
   (fun a' => ∀ w', (∃ n, w' = w.drewN n) → wpList P l.toArray (Exit.then (wpSegs P l Q segs last) Q) (pick l [t]) a' w') (pick l qs) a
theorem wpOp_of_single {l : List Oper} {t : Nat} {o : Oper} {K : Act → World → Prop} {Q : Exit → Act → World → Prop} {a : Act} {w : World} (ho : l.toArray[t]? = some o)
  (h : wpList P l.toArray (Exit.then K Q) (pick l [t]) a w) : wpOp P l.toArray Q t K a w := by
 have ho' : l[t]? = some o := by simpa using ho
 have hp : pick l [t] = [o] := by simp [pick, ho']
 rw [hp] at h;unfold wpOp;rw [ho];exact h
theorem wpAny_of_segs {l : List Oper} {Q : Exit → Act → World → Prop} (hsel : Region.noSelect l.toArray = true) : ∀ (segs : List (List Nat × Nat)) (last : List Nat) (listed : Array Bool) (a : Act) (w w0 : World),
  Closed md l.toArray listed → segsB md l.toArray segs last listed = true → (∃ n, w = w0.drewN n) → wpSegs P l Q segs last a w0 → wpAny P md l.toArray Q (segsN segs last) listed a w
 | [], last, listed, a, w, w0, inv, hB, hC, h => by
  simp only [segsB, Bool.and_eq_true, List.isEmpty_iff] at hB;obtain ⟨⟨hs, hl⟩, hr⟩ := hB;have hz : ZInv md l.toArray last listed listed := ⟨inv, fun _ h => h, fun _ h => .inl h⟩;have := wpAnyZ_lex (P := P) (C := fun w' => ∃ n, w' = w0.drewN n) (fin := setAll last listed) (Lq := fun a' => ∀ w', (∃ n, w' = w0.drewN n) → Q .normal a' w') hsel hs (by rw [hr]; simp) last listed a (fun _ h => h) hz hl rfl h;refine wpAny_of_Z (g := 0) (fun listed' a' w' hC' hL => ?_) last.length listed a w hC this;exact wpAny_done (by rw [hL.1]; exact hr) (hL.2 w' hC') 0
 | (qs, t) :: segs, last, listed, a, w, w0, inv, hB, hC, h => by
  simp only [segsB, Bool.and_eq_true, decide_eq_true_eq, Bool.not_eq_true'] at hB;obtain ⟨⟨⟨⟨hs, hl⟩, hr⟩, ht⟩, hB'⟩ := hB;have hz : ZInv md l.toArray qs listed listed := ⟨inv, fun _ h => h, fun _ h => .inl h⟩;have hz' := closed_after qs listed (fun _ h => h) hz hl;have htr : t ∈ Region.ready md l.toArray (setAll qs listed) := by rw [hr]; simp
  have htn : t ∉ qs := by simpa using ht
  obtain ⟨_, ot, hot, _⟩ := mem_ready.1 htr
  have := wpAnyZ_lex (P := P) (C := fun w' => ∃ n, w' = w0.drewN n) (fin := setAll qs listed) (Lq := fun a' => ∀ w', (∃ n, w' = w0.drewN n) → wpList P l.toArray (Exit.then (wpSegs P l Q segs last) Q) (pick l [t]) a' w') hsel hs
   (by rw [hr]; intro j hj; rw [List.mem_singleton.1 hj]; exact htn) qs listed a (fun _ h => h) hz hl rfl h
  refine wpAny_of_Z (g := segsN segs last + 1) (fun listed' a' w' hC' hL => ?_) qs.length listed a w hC this;refine wpAny_all (rs := [t]) (by rw [hL.1]; exact hr) (by simp) (fun i hi => ?_);rw [List.mem_singleton.1 hi, hL.1];exact wpOp_mono (fun a'' w'' h'' => wpAny_of_segs hsel segs last _ a'' w'' w'' (hz'.closed.put htr) hB' ⟨0, rfl⟩ h'') (wpOp_of_single hot (hL.2 w' hC'))
theorem getD_repl (m j : Nat) : (Array.replicate m false).getD j false = false := by
 rcases Nat.lt_or_ge j m with h | h
 ·simp [h]
 ·simp [h]
theorem wp_region_segs {id : Nat} {Q : Exit → Act → World → Prop} {a : Act} {w : World} {l : List Oper} (segs : List (List Nat × Nat)) (last : List Nat) (hm : P.follows .mixedOrders = true)
  (hB : (Region.noSelect l.toArray && decide (segsN segs last = l.toArray.size) && segsB .any l.toArray segs last (Array.replicate l.toArray.size false)) = true)
  (h : wpSegs P l Q segs last a w) : (Code.region id l.toArray true).wp P Q a w := by
 simp only [Bool.and_eq_true, decide_eq_true_eq] at hB;obtain ⟨⟨hsel, hn⟩, hB⟩ := hB;refine wp_region_any hm ?_;rw [← hn];rw [← hn] at hB;exact wpAny_of_segs hsel segs last _ a _ w ⟨by simp [hn], fun j oj _ hl => by rw [getD_repl] at hl; cases hl⟩ hB ⟨1, rfl⟩ h
end
section
variable {P : Program} {ops : Array Oper} {md : Region.Mode} {C : World → Prop}
end
def Growing (w w' : World) : Prop := ∃ p : Regrown, w' = Go.Sort.grow (redrawn w p.d) p.os
theorem Growing.refl (w : World) : Growing w w := ⟨⟨w.drawn, #[]⟩, by rw [Go.Sort.grow_empty]; rfl⟩
theorem Growing.drew (w : World) : Growing w (w.drewN 1) := ⟨⟨w.drawn + 1, #[]⟩, by rw [Go.Sort.grow_empty]; rfl⟩
def Stay (p : Prop) : Prop := p
theorem Stay.mk {p : Prop} (h : Stay p) : p := h
theorem Stay.go {p : Prop} (h : p) : Stay p := h
def Src (w : World) (size : Nat) (y : Value) (m : Nat) (news : List Value) : Prop :=
 ∃ A c, y = .slice A m c ∧ news.length = m * size ∧ ((A = none ∧ m = 0 ∧ news = []) ∨ ∃ ad, A = some ad ∧ ∀ j u, news[j]? = some u → w.cell? (ad.add j) = some u)
theorem Src.fresh {w w' : World} {size m : Nat} {y : Value} {news : List Value} (h : Src w size y m news) (hf : Fresh w w') : Src w' size y m news := by
 obtain ⟨A, c, h1, h2, h3⟩ := h;refine ⟨A, c, h1, h2, h3.imp id ?_⟩;rintro ⟨ad, ha, hc⟩;exact ⟨ad, ha, fun j u hu => hf.cell (hc j u hu) (fun h => h)⟩
theorem Src.of_blk {w : World} {g : Nat} {t : TypeId} {cs : Array Value} {size m c : Nat} (h : Blk w g t cs) (hs : cs.size = m * size) : Src w size (.slice (some ⟨g, 0, none⟩) m c) m cs.toList :=
 ⟨_, _, rfl, by simpa using hs, .inr ⟨_, rfl, fun j u hu => by rw [Addr.add_mid, Nat.zero_add, h.cell]; simpa using hu⟩⟩
section
variable {P : Program} (w : World)
theorem run_append_src (base : Nat) (t ty e : TypeId) (i : TypeInfo) (z : Value) (size bytes : Nat) (ht : P.underlying t = some (.slice e)) (hi : P.info? e = some i) (hz : i.zero = some z)
  (hsize : i.size = size) (hby : i.bytes = bytes) (hzs : z.cells.size = size) (hsz : 0 < size)
  (v : Value) (n : Nat) (xs : List Value) (hown : w.ownsRow base e size v n xs) (y : Value) (m : Nat) (news : List Value) (hsrc : Src w size y m news) (h1 : ∀ u ∈ news, u.oneCell' = true)
  (h63 : n + m ≤ maxLen) (hbytes : (n + m) * bytes ≤ 140737488355328) (hbase : base ≤ w.heap.size) :
  ∃ v' w', (Builtin.append_ #[t, t] ty #[v, y]).run P w = .ok v' w' ∧ w'.ownsRow base e size v' (n + m) (xs ++ news) ∧ w.grownBy w' v.ownBlock ∧ (v'.ownBlock = v.ownBlock ∨ v'.ownBlock = some w.heap.size) := by
 obtain ⟨A, c, rfl, hl, hA⟩ := hsrc
 rcases hA with ⟨rfl, rfl, rfl⟩ | ⟨ad, rfl, hc⟩
 ·refine ⟨v, w, ?_, by simpa using hown, World.grownBy.refl w _, .inl rfl⟩
  rcases hown.2 with ⟨rfl, rfl⟩ | ⟨g, cap, cur, rfl, _, _, hnc, _⟩
  ·simp [Builtin.append_, run_underlying ht, sizeOf, typeInfo, hi, Builtin.lenOf, Builtin.firstCells]
  ·simp [Builtin.append_, run_underlying ht, sizeOf, typeInfo, hi, Builtin.lenOf, Builtin.firstCells, hnc, storeCells]
 ·obtain ⟨v', w', hrun, h2, h3, _, h5⟩ := run_append_own_at (P := P) w base t ty e i z size bytes ht hi hz hsize hby hzs hsz v n xs hown ad m c news hl hc h1 h63 hbytes hbase
  exact ⟨v', w', hrun, h2, h3, h5⟩
theorem wp_append_src {o : Oper} {a : Act} {K : Act → World → Prop} {Q : Exit → Act → World → Prop} (s x : Operand) (t : TypeId)
  (ho : o.op = .call { callee := .builtin .append, args := #[s, x], argTypes := #[t, t] })
  (base : Nat) (e : TypeId) (i : TypeInfo) (z : Value) (size bytes : Nat) (ht : P.underlying t = some (.slice e)) (hi : P.info? e = some i) (hz : i.zero = some z)
  (hsize : i.size = size) (hby : i.bytes = bytes) (hzs : z.cells.size = size) (hsz : 0 < size)
  (v : Value) (n : Nat) (xs : List Value) (hs : a.eval s = v) (hown : w.ownsRow base e size v n xs)
  (y : Value) (m : Nat) (news : List Value) (hx : a.eval x = y) (hsrc : Src w size y m news) (h1 : ∀ u ∈ news, u.oneCell' = true)
  (h63 : n + m ≤ maxLen) (hbytes : (n + m) * bytes ≤ 140737488355328) (hbase : base ≤ w.heap.size)
  (h : ∀ v' w', w'.ownsRow base e size v' (n + m) (xs ++ news) → w.grownBy w' v.ownBlock → (v'.ownBlock = v.ownBlock ∨ v'.ownBlock = some w.heap.size) → K (a.put o.dst v') w') : o.wp P a w K Q := by
 obtain ⟨v', w', hrun, h2, h3, h4⟩ := run_append_src (P := P) w base t o.type e i z size bytes ht hi hz hsize hby hzs hsz v n xs hown y m news hsrc h1 h63 hbytes hbase;unfold Oper.wp execOp;simp only [ho, resolve, invoke, builtin, Sem.run_bind, Sem.run_pure, Result.andThen_ok, List.map_toArray, List.map_cons, List.map_nil, hs, hx, hrun];exact h v' w' h2 h3 h4
theorem wpList_append_src {ops : Array Oper} {rest : List Oper} {o : Oper} {a : Act} {Q : Exit → Act → World → Prop} (hgd : o.guard = none) (s x : Operand) (t : TypeId)
  (ho : o.op = .call { callee := .builtin .append, args := #[s, x], argTypes := #[t, t] })
  (base : Nat) (e : TypeId) (i : TypeInfo) (z : Value) (size bytes : Nat) (ht : P.underlying t = some (.slice e)) (hi : P.info? e = some i) (hz : i.zero = some z)
  (hsize : i.size = size) (hby : i.bytes = bytes) (hzs : z.cells.size = size) (hsz : 0 < size)
  (v : Value) (n : Nat) (xs : List Value) (hs : a.eval s = v) (hown : w.ownsRow base e size v n xs)
  (y : Value) (m : Nat) (news : List Value) (hx : a.eval x = y) (hsrc : Src w size y m news) (h1 : ∀ u ∈ news, u.oneCell' = true)
  (h63 : n + m ≤ maxLen) (hbytes : (n + m) * bytes ≤ 140737488355328) (hbase : base ≤ w.heap.size)
  (h : ∀ v' w', w'.ownsRow base e size v' (n + m) (xs ++ news) → w.grownBy w' v.ownBlock → (v'.ownBlock = v.ownBlock ∨ v'.ownBlock = some w.heap.size) → wpList P ops Q rest (a.put o.dst v') w') : wpList P ops Q (o :: rest) a w :=
 wpList_plain hgd fun _ hK => wp_append_src w s x t ho base e i z size bytes ht hi hz hsize hby hzs hsz v n xs hs hown y m news hx hsrc h1 h63 hbytes hbase fun v' w' h2 h3 h4 => hK _ _ (h v' w' h2 h3 h4)
end
def ptokCells (x : Lx.PTok) : List Value := [.int .i64 x.kind, .string ⟨x.text.toArray⟩, .int .i64 x.from_, .int .i64 x.to_]
def TokRow (W : World) (v : Value) (ts : List Lx.PTok) : Prop :=
 ∃ A cap, v = .slice A ts.length cap ∧ ∀ i (hi : i < ts.length), ∃ g o, A = some ⟨g, o, none⟩ ∧ g < W.heap.size ∧
  W.cell? ⟨g, o + i * 4, none⟩ = some (.int .i64 ts[i].kind) ∧ W.cell? ⟨g, o + i * 4 + 1, none⟩ = some (.string ⟨ts[i].text.toArray⟩) ∧ W.cell? ⟨g, o + i * 4 + 2, none⟩ = some (.int .i64 ts[i].from_) ∧ W.cell? ⟨g, o + i * 4 + 3, none⟩ = some (.int .i64 ts[i].to_)
theorem TokRow.fresh {W W' : World} {v : Value} {ts : List Lx.PTok} (h : TokRow W v ts) (hf : Fresh W W') : TokRow W' v ts := by
 obtain ⟨A, cap, hv, hc⟩ := h;refine ⟨A, cap, hv, fun i hi => ?_⟩;obtain ⟨g, o, h1, h2, h3, h4, h5, h6⟩ := hc i hi;exact ⟨g, o, h1, Nat.lt_of_lt_of_le h2 hf.size, hf.cell h3 (fun h => h), hf.cell h4 (fun h => h), hf.cell h5 (fun h => h), hf.cell h6 (fun h => h)⟩
theorem owns_cells {W : World} {B e : Nat} {v : Value} {ts : List Lx.PTok} (h : W.ownsRow B e 4 v ts.length (ts.flatMap ptokCells)) (i : Nat) (hi : i < ts.length) :
  ∃ g cap, v = .slice (some ⟨g, 0, none⟩) ts.length cap ∧ B ≤ g ∧ g < W.heap.size ∧ ∀ j u, (ptokCells ts[i])[j]? = some u → W.cell? ⟨g, 4 * i + j, none⟩ = some u := by
 rcases h.2 with ⟨_, h0⟩ | ⟨g, cap, cur, hv, hB, r⟩
 ·omega
 ·subst hv
  refine ⟨g, cap, rfl, hB, (h.lt g rfl).2, fun j u hu => ?_⟩;have hcl := h.cells (g := g) rfl (4 * i + j) u ?_
  ·rw [Addr.add_mid, Nat.zero_add] at hcl; exact hcl
  ·have hj : j < 4 := by have := (List.getElem?_eq_some_iff.1 hu).1; simpa [ptokCells] using this
   clear h r
   induction ts generalizing i with
   | nil => simp at hi
   | cons x l ih =>
    cases i with
    | zero => rw [List.flatMap_cons, List.getElem?_append_left (by simp [ptokCells]; omega)]; simpa using hu
    | succ i =>
     rw [List.flatMap_cons, List.getElem?_append_right (by simp [ptokCells]; omega)];have := ih i (by simpa using hi) (by simpa using hu);rw [← this]; congr 1; simp [ptokCells]; omega
theorem owns_row {W : World} {B e : Nat} {v : Value} {ts : List Lx.PTok} (h : W.ownsRow B e 4 v ts.length (ts.flatMap ptokCells)) : TokRow W v ts := by
 obtain ⟨A, cap, hv⟩ : ∃ A cap, v = .slice A ts.length cap := by
  rcases h.2 with ⟨h1, h2⟩ | ⟨g, cap, cur, h1, _⟩
  ·exact ⟨none, 0, by rw [h1, h2]⟩
  ·exact ⟨_, _, h1⟩
 refine ⟨A, cap, hv, fun i hi => ?_⟩;obtain ⟨g, cap', h1, h2, h3, h4⟩ := owns_cells h i hi;rw [hv] at h1;cases h1;refine ⟨g, 0, rfl, h3, ?_⟩;rw [Nat.zero_add, Nat.mul_comm i 4];exact ⟨h4 0 _ rfl, h4 1 _ rfl, h4 2 _ rfl, h4 3 _ rfl⟩
theorem TokRow.nil (W : World) : TokRow W (.slice none 0 0) [] := ⟨none, 0, rfl, fun i hi => by simp at hi⟩
def Ints (w : World) (v : Value) (l : List Int) : Prop :=
 ∃ A cap, v = .slice A l.length cap ∧ (l = [] ∨ ∃ g o, A = some ⟨g, o, none⟩ ∧ g < w.heap.size ∧ ∀ i (h : i < l.length), w.cell? ⟨g, o + i, none⟩ = some (.int .i64 l[i]))
theorem Ints.get {w : World} {A : Option Addr} {n cap : Nat} {l : List Int} (h : Ints w (.slice A n cap) l) (i : Nat) (hi : i < l.length) : ∃ g o, A = some ⟨g, o, none⟩ ∧ g < w.heap.size ∧ w.cell? ⟨g, o + i, none⟩ = some (.int .i64 l[i]) := by
 obtain ⟨A', cap', hv, h⟩ := h;cases hv
 rcases h with rfl | ⟨g, o, h1, h2, h3⟩
 ·simp at hi
 ·exact ⟨g, o, h1, h2, h3 i hi⟩
theorem Ints.slice {w : World} {v : Value} {l : List Int} (h : Ints w v l) : ∃ A cap, v = .slice A l.length cap := by
 obtain ⟨A, cap, h, _⟩ := h;exact ⟨A, cap, h⟩
theorem Ints.nil (w : World) (A : Option Addr) (cap : Nat) : Ints w (.slice A 0 cap) [] := ⟨A, cap, rfl, .inl rfl⟩
theorem Ints.fresh {w w' : World} {v : Value} {l : List Int} (h : Ints w v l) (hf : Fresh w w') : Ints w' v l := by
 obtain ⟨A, cap, h, h'⟩ := h;exact ⟨A, cap, h, h'.imp id fun ⟨g, o, h1, h2, h3⟩ => ⟨g, o, h1, Nat.lt_of_lt_of_le h2 hf.size, fun i hi => hf.cell (h3 i hi) (fun h => h)⟩⟩
theorem Ints.own {w : World} {B e : Nat} {v : Value} {l : List Int} (h : w.ownsRow B e 1 v l.length (l.map fun x => .int .i64 x)) : Ints w v l := by
 rcases h.2 with ⟨h1, h2⟩ | ⟨g, cap, cur, h1, _⟩
 ·rw [List.length_eq_zero_iff.1 h2, h1]
  exact Ints.nil _ _ _
 ·refine ⟨_, cap, h1, .inr ⟨g, 0, rfl, (h.lt g (by rw [h1]; rfl)).2, fun i hi => ?_⟩⟩
  have := h.cells (g := g) (by rw [h1]; rfl) i (.int .i64 l[i]) (by simp [hi]);rw [Addr.add_mid, Nat.zero_add] at this;rw [Nat.zero_add];exact this
abbrev intVs (l : List Int) : List Value := l.map fun x => .int .i64 x
theorem infoInt : (Tryz.prog.info? 3).map (fun i => (i.zero, i.size, i.bytes)) = some (some (.int .i64 0), 1, 8) := by kernel_rfl
abbrev up (p : List Nat) : List Int := p.map fun n : Nat => (n : Int)
end Go.Proofs.YtomibmenojdieaaGreat
