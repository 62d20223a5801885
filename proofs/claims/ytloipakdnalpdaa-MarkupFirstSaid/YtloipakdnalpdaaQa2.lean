/- Part 2 of 20 of a proof; its texts, joined: Base, Reg, Bld, Bls, LxZ. No condition. -/
import Derived.Test.YtloipakdnalpdaaRows
import Derived.WalkKit
import Derived.WalkSpells
import Derived.WalkLawsBesides
import Derived.Deep.QuietTactic
import Derived.BigQuiet
import Derived.Deep.Draws
import Derived.StillTailTactics
import Derived.Deep.RegionHeld3
import Derived.Lib.QuietBelow
import Derived.Lib.Builder
import Derived.Lib.UnsafeStr
import Derived.Maps.AppendAt
import Derived.Lib.AppendStr
import Derived.Test.YtloipakdnalpdaaQa1
set_option maxRecDepth 100000
set_option maxHeartbeats 1000000
namespace Go.Proofs.Ytloipakdnalpdaa
open Go.RowKit
theorem ret_int {k : IntKind} {a b : Int} (h : a = b) : Ending.returned (.int k a) = .returned (.int k b) := by rw [h]
theorem ret_bool {a b : Bool} (h : a = b) : Ending.returned (.bool a) = .returned (.bool b) := by rw [h]
theorem hid {p : Prop} (h : p) : Hid p := h
def Blk (w : World) (g : Nat) (t : TypeId) (cs : Array Value) : Prop := w.heap[g]? = some (.cells cs t (0, 0))
theorem Blk.lt {w : World} {g : Nat} {t : TypeId} {cs : Array Value} (h : Blk w g t cs) : g < w.heap.size := (Array.getElem?_eq_some_iff.1 h).1
theorem Blk.cell {w : World} {g : Nat} {t : TypeId} {cs : Array Value} (h : Blk w g t cs) (i : Nat) : w.cell? ⟨g, i, none⟩ = cs[i]? := by
 unfold Blk at h; simp [World.cell?, h]
theorem Blk.frozen {w : World} {g : Nat} {t : TypeId} {cs : Array Value} (h : Blk w g t cs) (i : Nat) : w.frozen? ⟨g, i, none⟩ = false := by
 unfold Blk at h; simp [World.frozen?, h]
theorem Blk.new (w : World) (t : TypeId) (cs : Array Value) : Blk (w.alloc (.cells cs t)) w.heap.size t cs := heap_alloc_new w _
theorem Blk.new2 (w : World) (o : Obj) (t : TypeId) (cs : Array Value) : Blk ((w.alloc o).alloc (.cells cs t)) (w.heap.size + 1) t cs := by
 have := Blk.new (w.alloc o) t cs;simpa using this
theorem Blk.drewN {w : World} {g : Nat} {t : TypeId} {cs : Array Value} (h : Blk w g t cs) (n : Nat) : Blk (w.drewN n) g t cs := h
theorem Blk.alloc {w : World} {g : Nat} {t : TypeId} {cs : Array Value} (h : Blk w g t cs) (o : Obj) : Blk (w.alloc o) g t cs := (Below.heap_alloc w o g h.lt).trans h
theorem Blk.put {w : World} {g : Nat} {t : TypeId} {cs : Array Value} (h : Blk w g t cs) (i : Nat) (u : Value) : Blk (w.setCell ⟨g, i, none⟩ u) g t (cs.setIfInBounds i u) := by
 unfold Blk at h ⊢;simp [World.setCell, Array.getElem?_modify, h]
theorem Blk.far {w : World} {g : Nat} {t : TypeId} {cs : Array Value} (h : Blk w g t cs) {p : Addr} (hp : g ≠ p.block) (u : Value) : Blk (w.setCell p u) g t cs := (Below.heap_setCell w p u g hp).trans h
theorem Blk.four {w : World} {g : Nat} {t : TypeId} {x0 x1 x2 x3 : Value} (h : Blk w g t #[x0, x1, x2, x3]) :
  w.cell? ⟨g, 0, none⟩ = some x0 ∧ w.cell? ⟨g, 1, none⟩ = some x1 ∧ w.cell? ⟨g, 2, none⟩ = some x2 ∧ w.cell? ⟨g, 3, none⟩ = some x3 ∧
  w.frozen? ⟨g, 0, none⟩ = false ∧ w.frozen? ⟨g, 1, none⟩ = false ∧ w.frozen? ⟨g, 2, none⟩ = false ∧ w.frozen? ⟨g, 3, none⟩ = false ∧ g < w.heap.size :=
 ⟨h.cell 0, h.cell 1, h.cell 2, h.cell 3, h.frozen 0, h.frozen 1, h.frozen 2, h.frozen 3, h.lt⟩
structure Touch (S : Nat → Prop) (w w' : World) : Prop where
 os : w'.os = w.os
 tape : w'.tape = w.tape
 output : w'.output = w.output
 size : w.heap.size ≤ w'.heap.size
 block : ∀ k, k < w.heap.size → ¬ S k → w'.heap[k]? = w.heap[k]?
namespace Touch
variable {S S' : Nat → Prop} {a b c w w' : World}
theorem refl (S : Nat → Prop) (w : World) : Touch S w w := ⟨rfl, rfl, rfl, Nat.le_refl _, fun _ _ _ => rfl⟩
theorem trans' (h : Touch S a b) (k : Touch S' b c) (hS : ∀ i, S' i → S i ∨ a.heap.size ≤ i) : Touch S a c :=
 ⟨k.os.trans h.os, k.tape.trans h.tape, k.output.trans h.output, Nat.le_trans h.size k.size, fun i hi hn =>
  (k.block i (Nat.lt_of_lt_of_le hi h.size) (fun hs => (hS i hs).elim hn (fun hle => absurd hi (by omega)))).trans (h.block i hi hn)⟩
theorem trans (h : Touch S a b) (k : Touch S b c) : Touch S a c := h.trans' k fun _ hs => .inl hs
theorem mono (h : Touch S a b) (hS : ∀ i, S i → S' i) : Touch S' a b := ⟨h.os, h.tape, h.output, h.size, fun i hi hn => h.block i hi (fun hs => hn (hS i hs))⟩
theorem drew (h : Touch S a w) : Touch S a w.drew := ⟨h.os, h.tape, h.output, h.size, h.block⟩
theorem drewN (h : Touch S a w) (n : Nat) : Touch S a (w.drewN n) := ⟨h.os, h.tape, h.output, h.size, h.block⟩
theorem alloc (h : Touch S a w) (o : Obj) : Touch S a (w.alloc o) :=
 h.trans ⟨rfl, rfl, rfl, by simp, fun i hi _ => Below.heap_alloc _ _ _ hi⟩
theorem setCell (h : Touch S a w) {p : Addr} (hp : S p.block ∨ a.heap.size ≤ p.block) (u : Value) : Touch S a (w.setCell p u) :=
 ⟨h.os, h.tape, h.output, by simpa [World.setCell] using h.size, fun i hi hn => (Below.heap_setCell w p u i (by
  rintro rfl;exact hp.elim hn (fun hle => absurd hi (by omega)))).trans (h.block i hi hn)⟩
theorem grown (h : Touch S a w) {row : Option Nat} (hg : w.grownBy w' row) (hr : ∀ g, row = some g → S g ∨ a.heap.size ≤ g) : Touch S a w' :=
 ⟨hg.os.trans h.os, hg.tape.trans h.tape, hg.output.trans h.output, Nat.le_trans h.size hg.size, fun i hi hn =>
  (hg.block i (Nat.lt_of_lt_of_le hi h.size) (fun e => (hr i e.symm).elim hn (fun hle => absurd hi (by omega)))).trans (h.block i hi hn)⟩
theorem below (h : Touch S a w) {B : Nat} (hB : B ≤ a.heap.size) (hS : ∀ i, S i → B ≤ i) : Below B a w :=
 ⟨h.os, h.tape, h.output, h.size, fun i hi => h.block i (by omega) (fun hs => by have := hS i hs; omega)⟩
theorem of_below {B : Nat} (h : Below B a w) (hS : ∀ i, B ≤ i → i < a.heap.size → S i) : Touch S a w :=
 ⟨h.os, h.tape, h.output, h.size, fun i hi hn => h.block i (by
  rcases Nat.lt_or_ge i B with h' | h'
  ·exact h'
  ·exact absurd (hS i h' hi) hn)⟩
theorem blk (h : Touch S w w') {g : Nat} {t : TypeId} {cs : Array Value} (hb : Blk w g t cs) (hn : ¬ S g) : Blk w' g t cs := (h.block g hb.lt hn).trans hb
theorem cell (h : Touch S w w') {p : Addr} {v : Value} (hc : w.cell? p = some v) (hn : ¬ S p.block) : w'.cell? p = some v := by
 have hlt : p.block < w.heap.size := by
  rcases Nat.lt_or_ge p.block w.heap.size with h' | h'
  ·exact h'
  ·simp [World.cell?, Array.getElem?_eq_none h'] at hc
 exact (World.cell?_of_block (w := w) (h.block p.block hlt hn)).trans hc
theorem frozen (h : Touch S w w') {p : Addr} (hlt : p.block < w.heap.size) (hn : ¬ S p.block) : w'.frozen? p = w.frozen? p :=
 World.frozen?_of_block (w := w) (h.block p.block hlt hn)
end Touch
theorem Touch.setRow {S : Nat → Prop} {a w : World} (h : Touch S a w) {g : Nat} (hg : S g ∨ a.heap.size ≤ g) (cs : Array Value) : Touch S a (w.setRow g cs) :=
 ⟨h.os, h.tape, h.output, by simpa [World.setRow] using h.size, fun i hi hn => (setRow_other w g i cs (by
  rintro rfl;exact hg.elim hn (fun hle => absurd hi (by omega)))).trans (h.block i hi hn)⟩
def put4 (w : World) (g : Nat) (x0 x1 x2 x3 : Value) : World := (((w.setCell ⟨g, 0, none⟩ x0).setCell ⟨g, 1, none⟩ x1).setCell ⟨g, 2, none⟩ x2).setCell ⟨g, 3, none⟩ x3
theorem Blk.far4 {w : World} {L g : Nat} {t : TypeId} {cs : Array Value} (h : Blk w L t cs) (hne : L ≠ g) (x0 x1 x2 x3 : Value) : Blk (put4 w g x0 x1 x2 x3) L t cs :=
 (((h.far (p := ⟨g, 0, none⟩) hne _).far (p := ⟨g, 1, none⟩) hne _).far (p := ⟨g, 2, none⟩) hne _).far (p := ⟨g, 3, none⟩) hne _
theorem Blk.self4 {w : World} {g : Nat} {t : TypeId} {a b c d : Value} (h : Blk w g t #[a, b, c, d]) (x0 x1 x2 x3 : Value) : Blk (put4 w g x0 x1 x2 x3) g t #[x0, x1, x2, x3] := (((h.put 0 x0).put 1 x1).put 2 x2).put 3 x3
theorem Touch.put4 {S : Nat → Prop} {w w' : World} {g : Nat} (h : Touch S w w') (hg : S g ∨ w.heap.size ≤ g) (x0 x1 x2 x3 : Value) : Touch S w (put4 w' g x0 x1 x2 x3) :=
 (((h.setCell (p := ⟨g, 0, none⟩) hg _).setCell (p := ⟨g, 1, none⟩) hg _).setCell (p := ⟨g, 2, none⟩) hg _).setCell (p := ⟨g, 3, none⟩) hg _
theorem Touch.pre {S : Nat → Prop} {w w' : World} {o : Obj} (h : Touch S (w.alloc o) w') : Touch S w w' := ((Touch.refl S w).alloc o).trans h
theorem Touch.preN {S : Nat → Prop} {w w' : World} {o : Obj} {n : Nat} (h : Touch S ((w.alloc o).drewN n) w') : Touch S w w' := (((Touch.refl S w).alloc o).drewN n).trans h
theorem Touch.ofN {S : Nat → Prop} {w w' : World} {n : Nat} (h : Touch S (w.drewN n) w') : Touch S w w' := ((Touch.refl S w).drewN n).trans h
abbrev Fresh (w w' : World) : Prop := Touch (fun _ => False) w w'
theorem Fresh.below {w w' : World} (h : Fresh w w') : Below w.heap.size w w' := Touch.below h (Nat.le_refl _) (fun _ hf => hf.elim)
theorem fresh_of_below {w w' : World} (h : Below w.heap.size w w') : Fresh w w' := Touch.of_below h fun _ h1 h2 => absurd h2 (by omega)
structure Wd (b c : World) : Prop where
 frs : Fresh b c
instance wdRefl (b : World) : Nonempty (Wd b b) := ⟨⟨Touch.refl _ _⟩⟩
instance wdAlloc (b c : World) (o : Obj) [h : Nonempty (Wd b c)] : Nonempty (Wd b (c.alloc o)) := h.elim fun h => ⟨⟨h.frs.alloc o⟩⟩
instance wdDrew (b c : World) (n : Nat) [h : Nonempty (Wd b c)] : Nonempty (Wd b (c.drewN n)) := h.elim fun h => ⟨⟨h.frs.drewN n⟩⟩
theorem frA {a b c : World} (h : Fresh a b) [hw : Nonempty (Wd b c)] : Fresh a c := hw.elim fun k => h.trans k.frs
theorem preA {a b c : World} (h : Fresh b c) [hw : Nonempty (Wd a b)] : Fresh a c := hw.elim fun k => k.frs.trans h
theorem blkA {b c : World} {g : Nat} {t : TypeId} {cs : Array Value} (h : Blk b g t cs) [hw : Nonempty (Wd b c)] : Blk c g t cs := hw.elim fun k => k.frs.blk h fun h => h
structure Bn (w : World) (g : Nat) (t : TypeId) (cs : Array Value) : Prop where
 blk : Blk w g t cs
theorem Blk.new3' (w : World) (o o' : Obj) (t : TypeId) (cs : Array Value) : Blk (((w.alloc o).alloc o').alloc (.cells cs t)) (w.heap.size + 1 + 1) t cs := by
 have := Blk.new2 (w.alloc o) o' t cs;simpa using this
instance bnNew (w : World) (t : TypeId) (cs : Array Value) : Nonempty (Bn (w.alloc (.cells cs t)) w.heap.size t cs) := ⟨⟨Blk.new _ _ _⟩⟩
instance bnNew2 (w : World) (o : Obj) (t : TypeId) (cs : Array Value) : Nonempty (Bn ((w.alloc o).alloc (.cells cs t)) (w.heap.size + 1) t cs) := ⟨⟨Blk.new2 _ _ _ _⟩⟩
instance bnNew3 (w : World) (o o' : Obj) (t : TypeId) (cs : Array Value) : Nonempty (Bn (((w.alloc o).alloc o').alloc (.cells cs t)) (w.heap.size + 1 + 1) t cs) := ⟨⟨Blk.new3' _ _ _ _ _⟩⟩
instance bnAlloc (w : World) (o : Obj) (g : Nat) (t : TypeId) (cs : Array Value) [h : Nonempty (Bn w g t cs)] : Nonempty (Bn (w.alloc o) g t cs) := h.elim fun h => ⟨⟨h.blk.alloc o⟩⟩
instance bnDrew (w : World) (n : Nat) (g : Nat) (t : TypeId) (cs : Array Value) [h : Nonempty (Bn w g t cs)] : Nonempty (Bn (w.drewN n) g t cs) := h.elim fun h => ⟨⟨h.blk.drewN n⟩⟩
theorem blkN {w : World} {g : Nat} {t : TypeId} {cs : Array Value} [h : Nonempty (Bn w g t cs)] : Blk w g t cs := h.elim fun h => h.blk
theorem mv4 {w w' : World} {a b c d : Addr} {x y z u : Value} (h : Fresh w w') (h0 : w.cell? a = some x) (h1 : w.cell? b = some y) (h2 : w.cell? c = some z) (h3 : w.cell? d = some u) :
  w'.cell? a = some x ∧ w'.cell? b = some y ∧ w'.cell? c = some z ∧ w'.cell? d = some u := ⟨h.cell h0 (fun h => h), h.cell h1 (fun h => h), h.cell h2 (fun h => h), h.cell h3 (fun h => h)⟩
theorem dF {p : Prop} [Decidable p] (h : ¬p) : decide p = false := decide_eq_false h
theorem dT {p : Prop} [Decidable p] (h : p) : decide p = true := decide_eq_true h
theorem frR {a c : World} [hw : Nonempty (Wd a c)] : Fresh a c := hw.elim fun k => k.frs
theorem bL {w : World} {a : Addr} {v : Value} (h : w.cell? a = some v) : a.block < w.heap.size := block_lt_of_cell h
theorem cR {w : World} {a : Addr} {v : Value} (h : w.cell? a = some v) (d : Nat) (os : Array Obj) : (Go.Sort.grow (redrawn w d) os).cell? a = some v := cell_regrown h d os
section
variable {P : Program} {ops : Array Oper} {md : Region.Mode} {C : World → Prop}
structure Closed (md : Region.Mode) (ops : Array Oper) (listed : Array Bool) : Prop where
 size : listed.size = ops.size
 closed : ∀ j oj, ops[j]? = some oj → listed.getD j false = true → ∀ e ∈ oj.after, Region.binds md e = true → listed.getD e.on false = true
theorem Closed.put {i : Nat} {listed : Array Bool} (inv : Closed md ops listed) (hi : i ∈ Region.ready md ops listed) : Closed md ops (listed.setIfInBounds i true) := by
 obtain ⟨_, oi, hoi, hall⟩ := mem_ready.1 hi;refine ⟨by simp [inv.size], fun j oj hj hl e he hb => ?_⟩
 by_cases hij : i = j
 ·subst hij
  have : oj = oi := Option.some.inj (hj.symm.trans hoi);subst this;exact getD_set_true (hall e he hb)
 ·rw [getD_set_ne false hij] at hl
  exact getD_set_true (inv.closed j oj hj hl e he hb)
def sinkL (md : Region.Mode) (ops : Array Oper) : List Nat → Option Nat → Bool
 | [], _ => true
 | q :: qs, t => (qs.any (fun j => Region.waitsFor md ops j q) || (match t with | some t => Region.waitsFor md ops t q | none => true)) && sinkL md ops qs t
def shutB (md : Region.Mode) (ops : Array Oper) (qs : List Nat) (t : Option Nat) (listed : Array Bool) : Bool :=
 (List.range ops.size).all (fun u => listed.getD u false || qs.contains u || t == some u || (List.range ops.size).any (fun v => Region.waitsFor md ops u v && !listed.getD v false && !qs.contains v))
 && sinkL md ops qs t
theorem sink_spec {t : Nat} {listed : Array Bool} (inv : Closed md ops listed) : ∀ (qs : List Nat), sinkL md ops qs (some t) = true → (∃ q ∈ qs, listed.getD q false = false) → ∃ v, Region.waitsFor md ops t v = true ∧ listed.getD v false = false
 | [], _, h => by obtain ⟨q, hq, _⟩ := h; cases hq
 | q :: qs, hs, h => by
  simp only [sinkL, Bool.and_eq_true, Bool.or_eq_true] at hs
  by_cases hr : ∃ q ∈ qs, listed.getD q false = false
  ·exact sink_spec inv qs hs.2 hr
  ·obtain ⟨x, hx, hxl⟩ := h
   have hxq : x = q := by
    rcases List.mem_cons.1 hx with h1 | h1
    ·exact h1
    ·exact absurd ⟨x, h1, hxl⟩ hr
   subst hxq
   rcases hs.1 with h1 | h1
   ·obtain ⟨j, hj, hw⟩ := List.any_eq_true.1 h1
    obtain ⟨oj, hoj, e, he, hb, hon⟩ := Region.waitsFor_spec hw;cases hl : listed.getD j false with
    | true =>
     have h2 := inv.closed j oj hoj hl e he hb;rw [hon, hxl] at h2;cases h2
    | false => exact absurd ⟨j, hj, hl⟩ hr
   ·exact ⟨x, h1, hxl⟩
theorem ready_waits {u v : Nat} {listed : Array Bool} (hu : u ∈ Region.ready md ops listed) (hw : Region.waitsFor md ops u v = true) : listed.getD v false = true := by
 obtain ⟨_, ou, hou, hall⟩ := mem_ready.1 hu;obtain ⟨o', ho', e, he, hb, hon⟩ := Region.waitsFor_spec hw;have : o' = ou := Option.some.inj (ho'.symm.trans hou);subst this;have := hall e he hb
 rwa [hon] at this
theorem shut_spec {qs : List Nat} {t : Option Nat} {listed0 listed : Array Bool} (h : shutB md ops qs t listed0 = true) (inv : Closed md ops listed)
  (h1 : ∀ j, listed0.getD j false = true → listed.getD j false = true) (h2 : ∀ j, listed.getD j false = true → listed0.getD j false = true ∨ j ∈ qs)
  (hq : ∃ q ∈ qs, listed.getD q false = false) : ∀ u ∈ Region.ready md ops listed, u ∈ qs := by
 intro u hu;simp only [shutB, Bool.and_eq_true] at h;obtain ⟨hun, ou, hou, _⟩ := mem_ready.1 hu;have hlt : u < ops.size := (Array.getElem?_eq_some_iff.1 hou).1;have hx := List.all_eq_true.1 h.1 u (List.mem_range.2 hlt);simp only [Bool.or_eq_true] at hx
 rcases hx with ((hx | hx) | hx) | hx
 ·have := h1 u hx
  rw [getD_both hun] at this;cases this
 ·simpa using hx
 ·have ht : t = some u := by simpa using hx
  subst ht;obtain ⟨v, hw, hv⟩ := sink_spec inv qs h.2 hq;rw [ready_waits hu hw] at hv;cases hv
 ·obtain ⟨v, hv, hx⟩ := List.any_eq_true.1 hx
  simp only [Bool.and_eq_true, Bool.not_eq_true'] at hx;have hl := ready_waits hu hx.1.1
  rcases h2 v hl with h3 | h3
  ·rw [hx.1.2] at h3; cases h3
  ·simp [h3] at hx
def wpAnyZ (P : Program) (md : Region.Mode) (ops : Array Oper) (C : World → Prop) (qs : List Nat) (L : Array Bool → Act → Prop) : Nat → Array Bool → Act → Prop
 | 0, listed, a => L listed a
 | f + 1, listed, a => Region.ready md ops listed ≠ [] ∧ ∀ i ∈ Region.ready md ops listed, i ∈ qs ∧ qOp P ops C i (wpAnyZ P md ops C qs L f (listed.setIfInBounds i true)) a
theorem wpAny_of_Z {qs : List Nat} {g : Nat} {L : Array Bool → Act → Prop} {Q' : Exit → Act → World → Prop} (hL : ∀ listed a w, C w → L listed a → wpAny P md ops Q' g listed a w) :
  ∀ (f : Nat) (listed : Array Bool) (a : Act) (w : World), C w → wpAnyZ P md ops C qs L f listed a → wpAny P md ops Q' (f + g) listed a w
 | 0, listed, a, w, hC, h => by rw [Nat.zero_add]; exact hL _ _ _ hC h
 | f + 1, listed, a, w, hC, h => by
  rw [show f + 1 + g = (f + g) + 1 by omega];exact ⟨fun h0 => absurd h0 h.1, fun i hi => wpOp_of_qOp hC (fun a' w' hC' h' => wpAny_of_Z hL f _ a' w' hC' h') (h.2 i hi).2⟩
structure ZInv (md : Region.Mode) (ops : Array Oper) (qs : List Nat) (listed0 listed : Array Bool) : Prop where
 closed : Closed md ops listed
 sub : ∀ j, listed0.getD j false = true → listed.getD j false = true
 sup : ∀ j, listed.getD j false = true → listed0.getD j false = true ∨ j ∈ qs
theorem ZInv.put {qs : List Nat} {listed0 listed : Array Bool} {i : Nat} (inv : ZInv md ops qs listed0 listed) (hi : i ∈ Region.ready md ops listed) (hq : i ∈ qs) : ZInv md ops qs listed0 (listed.setIfInBounds i true) :=
 ⟨inv.closed.put hi, fun j hj => getD_set_true (inv.sub j hj), fun j hj => by
  by_cases hij : i = j
  ·subst hij; exact .inr hq
  ·rw [getD_set_ne false hij] at hj; exact inv.sup j hj⟩
theorem wpAnyZ_first {qs : List Nat} {t : Option Nat} {listed0 : Array Bool} {i : Nat} {oi : Oper} {v : Value} {L : Array Bool → Act → Prop} (hi : ops[i]? = some oi) (hsel : ∀ (j : Nat) (o : Oper) cs b, ops[j]? = some o → o.op ≠ .select cs b)
  (hs : shutB md ops qs t listed0 = true) (hin : i ∈ qs) (hdone : ∀ listed a, L listed a → ∀ j ∈ Region.ready md ops listed, j ∉ qs) :
  ∀ (f : Nat) (listed : Array Bool) (a : Act), ZInv md ops qs listed0 listed →
   (∀ j oj, ops[j]? = some oj → j ≠ i → listed.getD j true = false → (∀ e ∈ oj.after, Region.binds md e = true → e.on ≠ i) → oi.apart ops oj = true) →
   i ∈ Region.ready md ops listed → YieldsIn P ops C oi v a →
   wpAnyZ P md ops C qs L f (listed.setIfInBounds i true) (a.put oi.dst v) → wpAnyZ P md ops C qs L (f + 1) listed a := by
 intro f
 induction f with
 | zero =>
  intro listed a inv _ hr hy H;have hun := (mem_ready.1 hr).1;refine ⟨fun h => (by rw [h] at hr; cases hr), fun j hj => ?_⟩;have hjn := shut_spec hs inv.closed inv.sub inv.sup ⟨i, hin, getD_both hun⟩ j hj;refine ⟨hjn, ?_⟩
  by_cases hji : j = i
  ·subst hji; exact hy.qOp hi H
  ·exact absurd hjn (hdone _ _ H j (ready_mono hj hji))
 | succ f ih =>
  intro listed a inv hfree hr hy H;have hun := (mem_ready.1 hr).1;refine ⟨fun h => (by rw [h] at hr; cases hr), fun j hj => ?_⟩;have hjn := shut_spec hs inv.closed inv.sub inv.sup ⟨i, hin, getD_both hun⟩ j hj;refine ⟨hjn, ?_⟩
  by_cases hji : j = i
  ·subst hji; exact hy.qOp hi H
  ·have h1 := (H.2 j (ready_mono hj hji)).2
   obtain ⟨hjun, oj, hoj, hall⟩ := mem_ready.1 hj
   have hnot : ∀ e ∈ oj.after, Region.binds md e = true → e.on ≠ i := fun e he hb heq => by
    have h1 := hall e he hb;rw [heq, getD_both hun] at h1;cases h1
   have h2 := qOp_put hoj (hfree j oj hoj hji hjun hnot) (fun cs b => hsel i oi cs b hi) (fun cs b => hsel j oj cs b hoj) hy h1
   have hfree' : ∀ k ok, ops[k]? = some ok → k ≠ i → (listed.setIfInBounds j true).getD k true = false →
     (∀ e ∈ ok.after, Region.binds md e = true → e.on ≠ i) → oi.apart ops ok = true := fun k ok hk hki hun hno => by
    refine hfree k ok hk hki ?_ hno
    by_cases hjk : j = k
    ·subst hjk; exact hjun
    ·rw [getD_set_ne true hjk] at hun; exact hun
   refine qOp_mono (fun a' h3 => ih (listed.setIfInBounds j true) a' (inv.put hj hjn) hfree' (ready_mono hr (Ne.symm hji)) h3.1 ?_) h2;rw [Array.setIfInBounds_comm _ _ hji];exact h3.2
def setAll : List Nat → Array Bool → Array Bool
 | [], x => x
 | k :: l, x => setAll l (x.setIfInBounds k true)
def lexZ (md : Region.Mode) (ops : Array Oper) : List Nat → Array Bool → Bool
 | [], _ => true
 | k :: l, listed => (Region.ready md ops listed).contains k && Region.free md ops listed k && lexZ md ops l (listed.setIfInBounds k true)
def pick (l : List Oper) : List Nat → List Oper
 | [] => []
 | k :: r => match l[k]? with
  | some o => o :: pick l r
  | none => pick l r
theorem setAll_true {k : Nat} : ∀ (l : List Nat) (x : Array Bool), x.getD k false = true → (setAll l x).getD k false = true
 | [], _, h => h
 | _ :: l, _, h => setAll_true l _ (getD_set_true h)
theorem setAll_mem {k : Nat} : ∀ (l : List Nat) (x : Array Bool), k ∈ l → k < x.size → (setAll l x).getD k false = true
 | j :: l, x, h, hk => by
  rcases List.mem_cons.1 h with h1 | h1
  ·subst h1; exact setAll_true l _ (by simp [hk])
  ·exact setAll_mem l _ h1 (by simpa using hk)
theorem wpAnyZ_lex {l0 : List Oper} {qs : List Nat} {t : Option Nat} {listed0 : Array Bool} {Lq : Act → Prop} {fin : Array Bool} (hsel : Region.noSelect l0.toArray = true) (hs : shutB md l0.toArray qs t listed0 = true)
  (hfin : ∀ j ∈ Region.ready md l0.toArray fin, j ∉ qs) :
  ∀ (l : List Nat) (listed : Array Bool) (a : Act), (∀ k ∈ l, k ∈ qs) → ZInv md l0.toArray qs listed0 listed → lexZ md l0.toArray l listed = true → setAll l listed = fin →
  wpQuiet P l0.toArray C Lq (pick l0 l) a → wpAnyZ P md l0.toArray C qs (fun listed' a' => listed' = fin ∧ Lq a') l.length listed a
 | [], listed, a, _, _, _, hf, h => ⟨hf, h⟩
 | k :: l, listed, a, hq, inv, hB, hf, h => by
  simp only [lexZ, Bool.and_eq_true] at hB;obtain ⟨⟨hr, hfr⟩, hB'⟩ := hB;have hr' : k ∈ Region.ready md l0.toArray listed := by simpa using hr
  obtain ⟨_, o, ho, _⟩ := mem_ready.1 hr';have ho' : l0[k]? = some o := by simpa using ho
  have hpick : pick l0 (k :: l) = o :: pick l0 l := by simp [pick, ho']
  rw [hpick] at h;have hst : qOp P l0.toArray C k (wpQuiet P l0.toArray C Lq (pick l0 l)) a := by unfold qOp; rw [ho]; exact h
  obtain ⟨v, hy, hK⟩ := yieldsIn_of_qOp ho hst;have hkq := hq k (by simp)
  exact wpAnyZ_first ho (Region.noSelect_spec hsel) hs hkq (fun listed' a' hL => by rw [hL.1]; exact hfin) l.length listed a inv (Region.free_spec ho hfr) hr' hy
   (wpAnyZ_lex hsel hs hfin l _ _ (fun x hx => hq x (by simp [hx])) (inv.put hr' hkq) hB' hf hK)
theorem closed_after {qs : List Nat} {listed0 : Array Bool} : ∀ (l : List Nat) (listed : Array Bool), (∀ k ∈ l, k ∈ qs) → ZInv md ops qs listed0 listed → lexZ md ops l listed = true → ZInv md ops qs listed0 (setAll l listed)
 | [], _, _, inv, _ => inv
 | k :: l, listed, hq, inv, hB => by
  simp only [lexZ, Bool.and_eq_true] at hB;exact closed_after l _ (fun x hx => hq x (by simp [hx])) (inv.put (by simpa using hB.1.1) (hq k (by simp))) hB.2
def segsB (md : Region.Mode) (ops : Array Oper) : List (List Nat × Nat) → List Nat → Array Bool → Bool
 | [], last, listed => shutB md ops last none listed && lexZ md ops last listed && (Region.ready md ops (setAll last listed)).isEmpty
 | (qs, t) :: segs, last, listed => shutB md ops qs (some t) listed && lexZ md ops qs listed && decide (Region.ready md ops (setAll qs listed) = [t]) && !qs.contains t &&
   segsB md ops segs last ((setAll qs listed).setIfInBounds t true)
def segsN : List (List Nat × Nat) → List Nat → Nat
 | [], last => last.length
 | (qs, _) :: segs, last => qs.length + (segsN segs last + 1)
def wpSegs (P : Program) (l : List Oper) (Q : Exit → Act → World → Prop) : List (List Nat × Nat) → List Nat → Act → World → Prop
 | [], last, a, w => wpQuiet P l.toArray (fun w' => ∃ n, w' = w.drewN n) (fun a' => ∀ w', (∃ n, w' = w.drewN n) → Q .normal a' w') (pick l last) a
 | (qs, t) :: segs, last, a, w => wpQuiet P l.toArray (fun w' => ∃ n, w' = w.drewN n)
   (fun a' => ∀ w', (∃ n, w' = w.drewN n) → wpList P l.toArray (Exit.then (wpSegs P l Q segs last) Q) (pick l [t]) a' w') (pick l qs) a
theorem wpOp_of_single {l : List Oper} {t : Nat} {o : Oper} {K : Act → World → Prop} {Q : Exit → Act → World → Prop} {a : Act} {w : World} (ho : l.toArray[t]? = some o)
  (h : wpList P l.toArray (Exit.then K Q) (pick l [t]) a w) : wpOp P l.toArray Q t K a w := by
 have ho' : l[t]? = some o := by simpa using ho
 have hp : pick l [t] = [o] := by simp [pick, ho']
 rw [hp] at h;unfold wpOp;rw [ho];exact h
theorem wpAny_of_segs {l : List Oper} {Q : Exit → Act → World → Prop} (hsel : Region.noSelect l.toArray = true) : ∀ (segs : List (List Nat × Nat)) (last : List Nat) (listed : Array Bool) (a : Act) (w w0 : World),
  Closed md l.toArray listed → segsB md l.toArray segs last listed = true → (∃ n, w = w0.drewN n) → wpSegs P l Q segs last a w0 → wpAny P md l.toArray Q (segsN segs last) listed a w
 | [], last, listed, a, w, w0, inv, hB, hC, h => by
  simp only [segsB, Bool.and_eq_true, List.isEmpty_iff] at hB;obtain ⟨⟨hs, hl⟩, hr⟩ := hB;have hz : ZInv md l.toArray last listed listed := ⟨inv, fun _ h => h, fun _ h => .inl h⟩;have := wpAnyZ_lex (P := P) (C := fun w' => ∃ n, w' = w0.drewN n) (fin := setAll last listed) (Lq := fun a' => ∀ w', (∃ n, w' = w0.drewN n) → Q .normal a' w') hsel hs (by rw [hr]; simp) last listed a (fun _ h => h) hz hl rfl h;refine wpAny_of_Z (g := 0) (fun listed' a' w' hC' hL => ?_) last.length listed a w hC this;exact wpAny_done (by rw [hL.1]; exact hr) (hL.2 w' hC') 0
 | (qs, t) :: segs, last, listed, a, w, w0, inv, hB, hC, h => by
  simp only [segsB, Bool.and_eq_true, decide_eq_true_eq, Bool.not_eq_true'] at hB;obtain ⟨⟨⟨⟨hs, hl⟩, hr⟩, ht⟩, hB'⟩ := hB;have hz : ZInv md l.toArray qs listed listed := ⟨inv, fun _ h => h, fun _ h => .inl h⟩;have hz' := closed_after qs listed (fun _ h => h) hz hl;have htr : t ∈ Region.ready md l.toArray (setAll qs listed) := by rw [hr]; simp
  have htn : t ∉ qs := by simpa using ht
  obtain ⟨_, ot, hot, _⟩ := mem_ready.1 htr
  have := wpAnyZ_lex (P := P) (C := fun w' => ∃ n, w' = w0.drewN n) (fin := setAll qs listed) (Lq := fun a' => ∀ w', (∃ n, w' = w0.drewN n) → wpList P l.toArray (Exit.then (wpSegs P l Q segs last) Q) (pick l [t]) a' w') hsel hs
   (by rw [hr]; intro j hj; rw [List.mem_singleton.1 hj]; exact htn) qs listed a (fun _ h => h) hz hl rfl h
  refine wpAny_of_Z (g := segsN segs last + 1) (fun listed' a' w' hC' hL => ?_) qs.length listed a w hC this;refine wpAny_all (rs := [t]) (by rw [hL.1]; exact hr) (by simp) (fun i hi => ?_);rw [List.mem_singleton.1 hi, hL.1];exact wpOp_mono (fun a'' w'' h'' => wpAny_of_segs hsel segs last _ a'' w'' w'' (hz'.closed.put htr) hB' ⟨0, rfl⟩ h'') (wpOp_of_single hot (hL.2 w' hC'))
theorem getD_repl (m j : Nat) : (Array.replicate m false).getD j false = false := by
 rcases Nat.lt_or_ge j m with h | h
 ·simp [h]
 ·simp [h]
theorem wp_region_segs {id : Nat} {Q : Exit → Act → World → Prop} {a : Act} {w : World} {l : List Oper} (segs : List (List Nat × Nat)) (last : List Nat) (hm : P.follows .mixedOrders = true)
  (hB : (Region.noSelect l.toArray && decide (segsN segs last = l.toArray.size) && segsB .any l.toArray segs last (Array.replicate l.toArray.size false)) = true)
  (h : wpSegs P l Q segs last a w) : (Code.region id l.toArray true).wp P Q a w := by
 simp only [Bool.and_eq_true, decide_eq_true_eq] at hB;obtain ⟨⟨hsel, hn⟩, hB⟩ := hB;refine wp_region_any hm ?_;rw [← hn];rw [← hn] at hB;exact wpAny_of_segs hsel segs last _ a _ w ⟨by simp [hn], fun j oj _ hl => by rw [getD_repl] at hl; cases hl⟩ hB ⟨1, rfl⟩ h
end
structure Bld (w : World) (B b o : Nat) (T : TypeId) (cs : Array Value) (v : Value) (l : List UInt8) : Prop where
 blk : Blk w b T cs
 addr : cs[o]? = some (.pointer none) ∨ cs[o]? = some (.pointer (some ⟨b, o, none⟩))
 buf : cs[o + 1]? = some v
 own : w.ownsRow B 5 1 v l.length (Lib.byteCells l)
 ne : v.ownBlock ≠ some b
 nilv : l = [] → v = .slice none 0 0
theorem byteCells_snoc (l : List UInt8) (c : UInt8) : Lib.byteCells (l ++ [c]) = Lib.byteCells l ++ [.int .u8 c.toNat] := by simp [Lib.byteCells]
theorem infoU8 : (Try.prog.info? 5).map (fun i => (i.zero, i.size, i.bytes)) = some (some (.int .u8 0), 1, 1) := by kernel_rfl
theorem infoBuilder : ∃ j, Try.prog.info? 78 = some j ∧ j.size = 2 := by
 have h : (Try.prog.info? 78).map (·.size) = some 2 := by kernel_rfl
 exact Option.map_eq_some_iff.1 h
theorem shape_of_blk {w : World} {g : Nat} {t : TypeId} {cs : Array Value} (h : Blk w g t cs) : w.shape? g = some (t, cs.size) := by
 unfold Blk at h; simp [World.shape?, h]
theorem copyCheck_used (b o : Nat) (w : World) (h0 : w.cell? ⟨b, o, none⟩ = some (.pointer (some ⟨b, o, none⟩))) :
  Calls Try.prog 85 #[.pointer (some ⟨b, o, none⟩)] w fun e w' => e = .returned (.tuple #[]) ∧ w' = w := by
 obtain ⟨j, hj, _⟩ := infoBuilder;go_enter Try.func85, Try.ntmps85
 go_wp2
 rw [Lib.run_neq_ptr_same w _ Try.underlying75 hj]
 go_wp2
 go_end0
 exact ⟨rfl, rfl⟩
theorem copyCheck_fresh (b o : Nat) (T : TypeId) (n : Nat) (w : World) (h0 : w.cell? ⟨b, o, none⟩ = some (.pointer none)) (hsh : w.shape? b = some (T, n)) (hfz : w.frozen? ⟨b, o, none⟩ = false)
  (hon : o < n) (hlies : liesAt Try.prog Try.prog.depth T (n / Try.prog.cellsOf T) o 78 1 = true) :
  Calls Try.prog 85 #[.pointer (some ⟨b, o, none⟩)] w fun e w' => e = .returned (.tuple #[]) ∧ w' = w.setCell ⟨b, o, none⟩ (.pointer (some ⟨b, o, none⟩)) := by
 obtain ⟨j, hj, hjs⟩ := infoBuilder;go_enter Try.func85, Try.ntmps85
 go_wp2
 rw [Lib.run_to_unsafe w ⟨b, o, none⟩ Try.underlying75 Try.underlying111 hj (by rw [hjs]; decide) hsh hon];simp only [Result.andThen];rw [Oper.upon_value]
 go_wp2
 rw [run_callFunc_extern Try.func90 (by kernel_rfl) (by kernel_rfl) (by kernel_rfl) (e := Extern.AbiNoEscape.same) (by kernel_rfl)];rw [Lib.run_noEscape];simp only [Result.andThen];rw [Oper.upon_value]
 go_wp2
 rw [Lib.run_from_unsafe w ⟨b, o, none⟩ Try.underlying111 Try.underlying75 hj hsh hlies];simp only [Result.andThen];rw [Oper.upon_value]
 go_wp2
 go_end0
 exact ⟨rfl, rfl⟩
theorem copyCheck_any {w : World} {B b o : Nat} {T : TypeId} {cs : Array Value} {v : Value} {l : List UInt8} (h : Bld w B b o T cs v l)
  (hlies : liesAt Try.prog Try.prog.depth T (cs.size / Try.prog.cellsOf T) o 78 1 = true) :
  Calls Try.prog 85 #[.pointer (some ⟨b, o, none⟩)] w fun e w' => e = .returned (.tuple #[]) ∧ Blk w' b T (cs.setIfInBounds o (.pointer (some ⟨b, o, none⟩))) ∧ Touch (· = b) w w' ∧ w'.heap.size = w.heap.size := by
 have ho : o < cs.size := by
  rcases h.addr with h1 | h1 <;> exact (Array.getElem?_eq_some_iff.1 h1).1
 rcases h.addr with h1 | h1
 ·refine (copyCheck_fresh b o T cs.size w ((h.blk.cell o).trans h1) (shape_of_blk h.blk) (h.blk.frozen o) ho hlies).mono ?_
  rintro e w' ⟨rfl, rfl⟩;exact ⟨rfl, h.blk.put _ _, (Touch.refl (· = b) w).setCell (p := ⟨b, o, none⟩) (.inl rfl) _, by simp [World.setCell]⟩
 ·refine (copyCheck_used b o w ((h.blk.cell o).trans h1)).mono ?_
  rintro e w' ⟨rfl, rfl⟩;refine ⟨rfl, ?_, Touch.refl _ _, rfl⟩
  have : cs.setIfInBounds o (.pointer (some ⟨b, o, none⟩)) = cs := by
   apply Array.ext_getElem?
   intro i;rw [Array.getElem?_setIfInBounds];split
   ·rename_i hi; subst hi; simp [ho] at *; exact h1.symm
   ·rfl
  rw [this];exact h.blk
theorem Bld.lt {w : World} {B b o : Nat} {T : TypeId} {cs : Array Value} {v : Value} {l : List UInt8} (h : Bld w B b o T cs v l) : b < w.heap.size := h.blk.lt
theorem Bld.drewN {w : World} {B b o : Nat} {T : TypeId} {cs : Array Value} {v : Value} {l : List UInt8} (h : Bld w B b o T cs v l) (n : Nat) : Bld (w.drewN n) B b o T cs v l := ⟨h.blk, h.addr, h.buf, h.own, h.ne, h.nilv⟩
theorem ownsRow_base {w : World} {B B' e size n : Nat} {v : Value} {xs : List Value} (h : w.ownsRow B e size v n xs) (hB : B' ≤ B) : w.ownsRow B' e size v n xs := by
 obtain ⟨h1, h2⟩ := h;refine ⟨h1, ?_⟩
 rcases h2 with h2 | ⟨g, cap, cur, h3, h4, r⟩
 ·exact .inl h2
 ·exact .inr ⟨g, cap, cur, h3, by omega, r⟩
theorem ownsRow_touch {S : Nat → Prop} {w w' : World} {B e size n : Nat} {v : Value} {xs : List Value} (h : w.ownsRow B e size v n xs) (ht : Touch S w w') (hn : ∀ k, v.ownBlock = some k → ¬ S k) : w'.ownsRow B e size v n xs := by
 obtain ⟨h1, h2⟩ := h;refine ⟨h1, ?_⟩
 rcases h2 with h2 | ⟨g, cap, cur, rfl, hb, hh, r⟩
 ·exact .inl h2
 ·exact .inr ⟨g, cap, cur, rfl, hb, (ht.block g (Array.getElem?_eq_some_iff.1 hh).1 (hn g rfl)).trans hh, r⟩
theorem writeByte_any {w : World} {B b o : Nat} {T : TypeId} {cs : Array Value} {v : Value} {l : List UInt8} (h : Bld w B b o T cs v l)
  (hlies : liesAt Try.prog Try.prog.depth T (cs.size / Try.prog.cellsOf T) o 78 1 = true) (x : Int) (c : UInt8) (hx : x = c.toNat) (hlen : l.length + 1 ≤ 140737488355328) (hB : B ≤ w.heap.size) :
  Calls Try.prog 68 #[.pointer (some ⟨b, o, none⟩), .int .u8 x] w fun e w' => e = .returned .nilIface ∧ ∃ v', Bld w' B b o T ((cs.setIfInBounds o (.pointer (some ⟨b, o, none⟩))).setIfInBounds (o + 1) v') v' (l ++ [c]) ∧ Touch (fun k => k = b ∨ v.ownBlock = some k) w w' := by
 obtain ⟨i0, hi, hz0, hz1, hz2⟩ := info_parts infoU8;have ho : o + 1 < cs.size := (Array.getElem?_eq_some_iff.1 h.buf).1;go_enter Try.func68, Try.ntmps68;go_wp2_with fail
 refine (copyCheck_any h hlies).mono ?_;rintro e w1 ⟨rfl, hb1, ht1, hs1⟩
 have c1 : w1.cell? ⟨b, o + 1, none⟩ = some v := by
  rw [hb1.cell, Array.getElem?_setIfInBounds_ne (by omega)]; exact h.buf
 have hown : w1.ownsRow B 5 1 v l.length (Lib.byteCells l) := ownsRow_touch h.own ht1 (fun k hk e => h.ne (by rw [hk, e]));have HB := hid hb1;have HT := hid ht1;have HS := hid hs1;have HX := hid hx;clear hb1 ht1 hs1 hx
 go_wp2_with (at_builtin; refine wpList_append_own_at _ rfl _ _ 76 rfl B 5 i0 (.int .u8 0) 1 1 Try.underlying76 hi hz0 hz1 hz2 rfl (by decide) _ _ _ rfl (hown.alloc _) ⟨w1.heap.size, 0, none⟩ 1 1 [.int .u8 x] rfl rfl ?c1 ?c2 ?c3 ?c4 ?c5 ?_)
 case c1 =>
  intro j u hj
  match j, hj with
  | 0, hj => simp at hj; subst hj; simp [Addr.add]
 case c2 => intro u hu; simp at hu; subst hu; rfl
 case c3 => unfold maxLen; omega
 case c4 => omega
 case c5 => have := HS.out; simp; omega
 intro v' w2 hown' hgrow _ hat;have hlt1 := HB.out.lt;have ht2 : Touch (fun k => v.ownBlock = some k) w1 w2 := ((Touch.refl (fun k => v.ownBlock = some k) w1).alloc _).grown hgrow (fun g hg => .inl hg);have hb2 : Blk w2 b T (cs.setIfInBounds o (.pointer (some ⟨b, o, none⟩))) := ht2.blk HB.out h.ne
 have d1 : w2.cell? ⟨b, o + 1, none⟩ = some v := by
  rw [hb2.cell, Array.getElem?_setIfInBounds_ne (by omega)]; exact h.buf
 have f1 : w2.frozen? ⟨b, o + 1, none⟩ = false := hb2.frozen _
 have hne' : v'.ownBlock ≠ some b := by
  rcases hat with h1 | h1
  ·rw [h1]; exact h.ne
  ·rw [h1]; simp; omega
 obtain ⟨g, cap, rfl⟩ : ∃ g cap, v' = .slice (some ⟨g, 0, none⟩) (l.length + 1) cap := by
  rcases hown'.2 with ⟨_, h0⟩ | ⟨g, cap, cur, hv, _⟩
  ·omega
  ·exact ⟨g, cap, hv⟩
 have HB2 := hid hb2;have HT2 := hid ht2;have HO := hid hown';have HN := hid hne';clear hb2 ht2 hown' hne' hat hgrow hown
 go_wp2
 go_ret;refine ⟨rfl, _, ⟨HB2.out.put _ _, .inr ?_, ?_, ?_, HN.out, by simp⟩, ?_⟩
 ·rw [Array.getElem?_setIfInBounds_ne (by omega), Array.getElem?_setIfInBounds_self_of_lt (by omega)]
 ·rw [Array.getElem?_setIfInBounds_self_of_lt (by simp; omega)]
 ·rw [byteCells_snoc, List.length_append, ← HX.out]
  exact ownsRow_touch HO.out ((Touch.refl (· = b) w2).setCell (p := ⟨b, o + 1, none⟩) (.inl rfl) _) (fun k hk e => HN.out (by rw [hk, e]))
 ·exact ((HT.out.mono (fun _ h => .inl h)).trans (HT2.out.mono (fun _ h => .inr h))).setCell (p := ⟨b, o + 1, none⟩) (.inl (.inl rfl)) _
theorem touch_freeze {S : Nat → Prop} {a w : World} (h : Touch S a w) {p : Addr} (hp : S p.block ∨ a.heap.size ≤ p.block) (n : Nat) : Touch S a (w.freeze p n) := by
 unfold World.freeze;split
 ·exact h
 ·refine ⟨h.os, h.tape, h.output, by simpa using h.size, fun i hi hn => ?_⟩
  refine Eq.trans ?_ (h.block i hi hn);show (w.heap.modify p.block _)[i]? = _;rw [Array.getElem?_modify, if_neg];rintro rfl;exact hp.elim hn (fun hle => absurd hi (by omega))
theorem unsafeString_nil (W : World) (q : Option Addr) : (Builtin.unsafeString_ #[100, 3] 9 #[.pointer q, .int .i64 0]).run Try.prog W = .ok (.string .empty) W := Lib.run_unsafeString_none W _ _ _ q
theorem bstring_any {w : World} {B b o : Nat} {T : TypeId} {cs : Array Value} {v : Value} {l : List UInt8} (h : Bld w B b o T cs v l) :
  Calls Try.prog 40 #[.pointer (some ⟨b, o, none⟩)] w fun e w' => e = .returned (.string ⟨l.toArray⟩) ∧ Touch (fun k => v.ownBlock = some k) w w' := by
 have c1 : w.cell? ⟨b, o + 1, none⟩ = some v := (h.blk.cell _).trans h.buf
 by_cases h0 : l = []
 ·obtain rfl := h.nilv h0
  subst h0;have hUS := unsafeString_nil;have hSD : ∀ n : Nat, (Builtin.unsafeSliceData_ #[76] 100 #[.slice none 0 0]).run Try.prog (w.drewN n) = .ok (.pointer none) (w.drewN n) := fun _ => rfl
  clear h;go_enter Try.func40, Try.ntmps40
  go_wp2
  go_quiet (fail)
  go_wp2
  go_ret;exact ⟨rfl, (Touch.refl _ w).drewN _⟩
 ·have hl0 : l.length ≠ 0 := by simpa using h0
  obtain ⟨g, cap, cur, rfl, hbg, hg, hnc, hcm, hcs, htake⟩ : ∃ g cap cur, v = .slice (some ⟨g, 0, none⟩) l.length cap ∧ B ≤ g ∧ w.heap[g]? = some (.cells cur 5 (0, 0)) ∧ l.length ≤ cap ∧ cap ≤ maxLen ∧ cur.size = cap * 1 ∧ cur.toList.take (l.length * 1) = Lib.byteCells l := by
   rcases h.own.2 with ⟨_, hz⟩ | ⟨g, cap, cur, hv, r⟩
   ·exact absurd hz hl0
   ·exact ⟨g, cap, cur, hv, r⟩
  have hown := h.own
  have hSD : ∀ n : Nat, (Builtin.unsafeSliceData_ #[76] 100 #[.slice (some ⟨g, 0, none⟩) l.length cap]).run Try.prog (w.drewN n) = .ok (.pointer (some ⟨g, 0, none⟩)) (w.drewN n) := fun n =>
   Lib.run_unsafeSliceData_row _ _ _ _ _ _ (by omega)
  have hUS : ∀ n : Nat, (Builtin.unsafeString_ #[100, 3] 9 #[.pointer (some ⟨g, 0, none⟩), .int .i64 l.length]).run Try.prog (w.drewN n) = .ok (.string ⟨l.toArray⟩) ((w.drewN n).freeze ⟨g, 0, none⟩ l.length) := fun n => by
   refine Lib.run_unsafeString_row (w.drewN n) 100 3 9 5 Try.underlying100 (by kernel_rfl) g cur.size (by simp [World.shape?, hg]) l h0 (by omega) (by unfold maxLen at hcm; omega) ?_;intro j x hx;have := hown.cells (g := g) rfl j (.int .u8 x.toNat) (by simp [Lib.byteCells, hx]);exact this
  have HG := hid hg;clear h htake hcs hcm hnc hg hown h0 hl0;go_enter Try.func40, Try.ntmps40
  go_wp2
  refine wp_region_segs [([0,1,2,3,4,5,6,7,8,9],10)] [11] (by kernel_rfl) (by kernel_rfl) ?_;simp only [wpSegs, pick, List.getElem?_cons_zero, List.getElem?_cons_succ]
  repeat (quiet_step (fail))
  refine wpQuiet_nil ?_;rintro _ ⟨nq, rfl⟩
  go_wp2
  repeat (quiet_step (fail))
  refine wpQuiet_nil ?_;rintro _ ⟨nq2, rfl⟩
  go_wp2
  go_ret;refine ⟨rfl, ?_⟩;exact (touch_freeze ((Touch.refl (fun k => Value.ownBlock (.slice (some ⟨g, 0, none⟩) l.length cap) = some k) w).drewN nq) (p := ⟨g, 0, none⟩) (.inl rfl) _).drewN _
theorem strCells_eq (s : ByteArray) : Lib.strCells s = Lib.byteCells s.data.toList := by rfl
theorem byteCells_app (l m : List UInt8) : Lib.byteCells (l ++ m) = Lib.byteCells l ++ Lib.byteCells m := by simp [Lib.byteCells]
theorem writeString_any {w : World} {B b o : Nat} {T : TypeId} {cs : Array Value} {v : Value} {l : List UInt8} (h : Bld w B b o T cs v l) (hbB : b < B)
  (hlies : liesAt Try.prog Try.prog.depth T (cs.size / Try.prog.cellsOf T) o 78 1 = true) (s : ByteArray) (hlen : l.length + s.size ≤ 140737488355328) (hB : B ≤ w.heap.size) :
  Calls Try.prog 66 #[.pointer (some ⟨b, o, none⟩), .string s] w fun e w' => e = .returned (.tuple #[.int .i64 s.size, .nilIface]) ∧ ∃ v', Bld w' B b o T ((cs.setIfInBounds o (.pointer (some ⟨b, o, none⟩))).setIfInBounds (o + 1) v') v' (l ++ s.data.toList) ∧ Touch (fun k => k = b ∨ v.ownBlock = some k) w w' := by
 obtain ⟨i0, hi, hz0, hz1, hz2⟩ := info_parts infoU8;have ho : o + 1 < cs.size := (Array.getElem?_eq_some_iff.1 h.buf).1;go_enter Try.func66, Try.ntmps66;go_wp2_with fail
 refine (copyCheck_any h hlies).mono ?_;rintro e w1 ⟨rfl, hb1, ht1, hs1⟩
 have c1 : w1.cell? ⟨b, o + 1, none⟩ = some v := by
  rw [hb1.cell, Array.getElem?_setIfInBounds_ne (by omega)]; exact h.buf
 have hown : w1.ownsRow B 5 1 v l.length (Lib.byteCells l) := ownsRow_touch h.own ht1 (fun k hk e => h.ne (by rw [hk, e]));have HB := hid hb1;have HT := hid ht1;have HS := hid hs1;clear hb1 ht1 hs1
 go_wp2_with (at_builtin; refine Lib.wpList_append_own_string _ rfl _ _ 76 9 rfl B 5 i0 Try.underlying76 Try.underlying9 hi hz0 hz1 hz2 _ _ _ rfl hown s rfl ?c3 ?c4 ?c5 ?_)
 case c3 => unfold maxLen; omega
 case c4 => omega
 case c5 => have := HS.out; omega
 intro v' w2 hown' hgrow hnl;have hlt1 := HB.out.lt;have ht2 : Touch (fun k => v.ownBlock = some k) w1 w2 := (Touch.refl (fun k => v.ownBlock = some k) w1).grown hgrow (fun g hg => .inl hg);have hb2 : Blk w2 b T (cs.setIfInBounds o (.pointer (some ⟨b, o, none⟩))) := ht2.blk HB.out h.ne
 have d1 : w2.cell? ⟨b, o + 1, none⟩ = some v := by
  rw [hb2.cell, Array.getElem?_setIfInBounds_ne (by omega)]; exact h.buf
 have f1 : w2.frozen? ⟨b, o + 1, none⟩ = false := hb2.frozen _;have hne' : v'.ownBlock ≠ some b := fun e => by have := (hown'.lt b e).1; omega
 have hnil : l ++ s.data.toList = [] → v' = .slice none 0 0 := fun e => by
  obtain ⟨e1, e2⟩ := List.append_eq_nil_iff.1 e;refine hnl.2 ⟨h.nilv e1, ?_⟩;apply ByteArray.ext
  apply Array.toList_inj.1
  rw [e2]; rfl
 obtain ⟨A', cap', rfl⟩ : ∃ A cap, v' = .slice A (l.length + s.size) cap := by
  rcases hown'.2 with ⟨h1, h2⟩ | ⟨g, cap, cur, h1, _⟩
  ·exact ⟨none, 0, by rw [h1, h2]⟩
  ·exact ⟨_, _, h1⟩
 have HB2 := hid hb2;have HT2 := hid ht2;have HO := hid hown';have HN := hid hne';have HNIL := hid hnil;clear hb2 ht2 hown' hne' hgrow hown hnl hnil
 go_wp2
 go_ret2;refine ⟨rfl, _, ⟨HB2.out.put _ _, .inr ?_, ?_, ?_, HN.out, HNIL.out⟩, ?_⟩
 ·rw [Array.getElem?_setIfInBounds_ne (by omega), Array.getElem?_setIfInBounds_self_of_lt (by omega)]
 ·rw [Array.getElem?_setIfInBounds_self_of_lt (by simp; omega)]
 ·have hl : (l ++ s.data.toList).length = l.length + s.size := by simp
  rw [byteCells_app, ← strCells_eq, hl];exact ownsRow_touch HO.out ((Touch.refl (· = b) w2).setCell (p := ⟨b, o + 1, none⟩) (.inl rfl) _) (fun k hk e => HN.out (by rw [hk, e]))
 ·exact ((HT.out.mono (fun _ h => .inl h)).trans (HT2.out.mono (fun _ h => .inr h))).setCell (p := ⟨b, o + 1, none⟩) (.inl (.inl rfl)) _
theorem liesBuilder : liesAt Try.prog Try.prog.depth 78 (2 / Try.prog.cellsOf 78) 0 78 1 = true := by kernel_rfl
theorem str_of (s : ByteArray) : (⟨s.data.toList.toArray⟩ : ByteArray) = s := rfl
theorem str_nil : (⟨([] : List UInt8).toArray⟩ : ByteArray) = ByteArray.empty := rfl
theorem data_get (s : ByteArray) (k : Nat) (h : k < s.size) : s.data.toList[k]'(by simpa using h) = s[k] := rfl
theorem u8_eq_of (x y : UInt8) (h : x = y) : ((x.toNat : Int) == (y.toNat : Int)) = true := by rw [h]; simp
theorem u8_ne_of (x y : UInt8) (h : ¬ x = y) : ((x.toNat : Int) == (y.toNat : Int)) = false := by
 rw [beq_eq_false_iff_ne]; intro hx; exact h (UInt8.toNat_inj.1 (by omega))
theorem u8_bne_of (x y : UInt8) (h : ¬ x = y) : ((x.toNat : Int) != (y.toNat : Int)) = true := by
 rw [bne_iff_ne]; intro hx; exact h (UInt8.toNat_inj.1 (by omega))
theorem u8_nbne_of (x y : UInt8) (h : x = y) : ((x.toNat : Int) != (y.toNat : Int)) = false := by rw [h]; simp
end Go.Proofs.Ytloipakdnalpdaa
