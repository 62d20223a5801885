/- Words for memory used by all walks of this seat: a block known whole, and which blocks a call may turn. -/
import Derived.Test.YtilgpmpiidccjaaRows
import Derived.WalkKit
import Derived.WalkSpells
import Derived.WalkLawsBesides
import Derived.Deep.QuietTactic
import Derived.BigQuiet
import Derived.Deep.Draws
import Derived.StillTailTactics
import Derived.Deep.RegionHeld3
namespace Go.Proofs.Ytilgpmpiidccjaa
open Go.RowKit

theorem ret_int {k : IntKind} {a b : Int} (h : a = b) : Ending.returned (.int k a) = .returned (.int k b) := by rw [h]
theorem ret_bool {a b : Bool} (h : a = b) : Ending.returned (.bool a) = .returned (.bool b) := by rw [h]

theorem hid {p : Prop} (h : p) : Hid p := h

/-- Block g is just these cells, none frozen. -/
def Blk (w : World) (g : Nat) (t : TypeId) (cs : Array Value) : Prop := w.heap[g]? = some (.cells cs t (0, 0))

theorem Blk.lt {w : World} {g : Nat} {t : TypeId} {cs : Array Value} (h : Blk w g t cs) : g < w.heap.size := (Array.getElem?_eq_some_iff.1 h).1
theorem Blk.cell {w : World} {g : Nat} {t : TypeId} {cs : Array Value} (h : Blk w g t cs) (i : Nat) : w.cell? ⟨g, i, none⟩ = cs[i]? := by
  unfold Blk at h; simp [World.cell?, h]
theorem Blk.frozen {w : World} {g : Nat} {t : TypeId} {cs : Array Value} (h : Blk w g t cs) (i : Nat) : w.frozen? ⟨g, i, none⟩ = false := by
  unfold Blk at h; simp [World.frozen?, h]
theorem Blk.new (w : World) (t : TypeId) (cs : Array Value) : Blk (w.alloc (.cells cs t)) w.heap.size t cs := heap_alloc_new w _
theorem Blk.new2 (w : World) (o : Obj) (t : TypeId) (cs : Array Value) : Blk ((w.alloc o).alloc (.cells cs t)) (w.heap.size + 1) t cs := by
  have := Blk.new (w.alloc o) t cs
  simpa using this
theorem Blk.drewN {w : World} {g : Nat} {t : TypeId} {cs : Array Value} (h : Blk w g t cs) (n : Nat) : Blk (w.drewN n) g t cs := h
theorem Blk.alloc {w : World} {g : Nat} {t : TypeId} {cs : Array Value} (h : Blk w g t cs) (o : Obj) : Blk (w.alloc o) g t cs := (Below.heap_alloc w o g h.lt).trans h
theorem Blk.put {w : World} {g : Nat} {t : TypeId} {cs : Array Value} (h : Blk w g t cs) (i : Nat) (u : Value) : Blk (w.setCell ⟨g, i, none⟩ u) g t (cs.setIfInBounds i u) := by
  unfold Blk at h ⊢
  simp [World.setCell, Array.getElem?_modify, h]
theorem Blk.far {w : World} {g : Nat} {t : TypeId} {cs : Array Value} (h : Blk w g t cs) {p : Addr} (hp : g ≠ p.block) (u : Value) : Blk (w.setCell p u) g t cs := (Below.heap_setCell w p u g hp).trans h

theorem Blk.four {w : World} {g : Nat} {t : TypeId} {x0 x1 x2 x3 : Value} (h : Blk w g t #[x0, x1, x2, x3]) :
    w.cell? ⟨g, 0, none⟩ = some x0 ∧ w.cell? ⟨g, 1, none⟩ = some x1 ∧ w.cell? ⟨g, 2, none⟩ = some x2 ∧ w.cell? ⟨g, 3, none⟩ = some x3 ∧
    w.frozen? ⟨g, 0, none⟩ = false ∧ w.frozen? ⟨g, 1, none⟩ = false ∧ w.frozen? ⟨g, 2, none⟩ = false ∧ w.frozen? ⟨g, 3, none⟩ = false ∧ g < w.heap.size :=
  ⟨h.cell 0, h.cell 1, h.cell 2, h.cell 3, h.frozen 0, h.frozen 1, h.frozen 2, h.frozen 3, h.lt⟩

/-- From w to w' only blocks of S and new ones have turned. -/
structure Touch (S : Nat → Prop) (w w' : World) : Prop where
  os : w'.os = w.os
  tape : w'.tape = w.tape
  output : w'.output = w.output
  size : w.heap.size ≤ w'.heap.size
  block : ∀ k, k < w.heap.size → ¬ S k → w'.heap[k]? = w.heap[k]?

namespace Touch
variable {S S' : Nat → Prop} {a b c w w' : World}
theorem refl (S : Nat → Prop) (w : World) : Touch S w w := ⟨rfl, rfl, rfl, Nat.le_refl _, fun _ _ _ => rfl⟩
theorem trans' (h : Touch S a b) (k : Touch S' b c) (hS : ∀ i, S' i → S i ∨ a.heap.size ≤ i) : Touch S a c :=
  ⟨k.os.trans h.os, k.tape.trans h.tape, k.output.trans h.output, Nat.le_trans h.size k.size, fun i hi hn =>
    (k.block i (Nat.lt_of_lt_of_le hi h.size) (fun hs => (hS i hs).elim hn (fun hle => absurd hi (by omega)))).trans (h.block i hi hn)⟩
theorem trans (h : Touch S a b) (k : Touch S b c) : Touch S a c := h.trans' k fun _ hs => .inl hs
theorem mono (h : Touch S a b) (hS : ∀ i, S i → S' i) : Touch S' a b := ⟨h.os, h.tape, h.output, h.size, fun i hi hn => h.block i hi (fun hs => hn (hS i hs))⟩
theorem drew (h : Touch S a w) : Touch S a w.drew := ⟨h.os, h.tape, h.output, h.size, h.block⟩
theorem drewN (h : Touch S a w) (n : Nat) : Touch S a (w.drewN n) := ⟨h.os, h.tape, h.output, h.size, h.block⟩
theorem alloc (h : Touch S a w) (o : Obj) : Touch S a (w.alloc o) :=
  h.trans ⟨rfl, rfl, rfl, by simp, fun i hi _ => Below.heap_alloc _ _ _ hi⟩
theorem setCell (h : Touch S a w) {p : Addr} (hp : S p.block ∨ a.heap.size ≤ p.block) (u : Value) : Touch S a (w.setCell p u) :=
  ⟨h.os, h.tape, h.output, by simpa [World.setCell] using h.size, fun i hi hn => (Below.heap_setCell w p u i (by
    rintro rfl
    exact hp.elim hn (fun hle => absurd hi (by omega)))).trans (h.block i hi hn)⟩
theorem grown (h : Touch S a w) {row : Option Nat} (hg : w.grownBy w' row) (hr : ∀ g, row = some g → S g ∨ a.heap.size ≤ g) : Touch S a w' :=
  ⟨hg.os.trans h.os, hg.tape.trans h.tape, hg.output.trans h.output, Nat.le_trans h.size hg.size, fun i hi hn =>
    (hg.block i (Nat.lt_of_lt_of_le hi h.size) (fun e => (hr i e.symm).elim hn (fun hle => absurd hi (by omega)))).trans (h.block i hi hn)⟩
theorem below (h : Touch S a w) {B : Nat} (hB : B ≤ a.heap.size) (hS : ∀ i, S i → B ≤ i) : Below B a w :=
  ⟨h.os, h.tape, h.output, h.size, fun i hi => h.block i (by omega) (fun hs => by have := hS i hs; omega)⟩
theorem of_below {B : Nat} (h : Below B a w) (hS : ∀ i, B ≤ i → i < a.heap.size → S i) : Touch S a w :=
  ⟨h.os, h.tape, h.output, h.size, fun i hi hn => h.block i (by
    rcases Nat.lt_or_ge i B with h' | h'
    · exact h'
    · exact absurd (hS i h' hi) hn)⟩
theorem blk (h : Touch S w w') {g : Nat} {t : TypeId} {cs : Array Value} (hb : Blk w g t cs) (hn : ¬ S g) : Blk w' g t cs := (h.block g hb.lt hn).trans hb
theorem cell (h : Touch S w w') {p : Addr} {v : Value} (hc : w.cell? p = some v) (hn : ¬ S p.block) : w'.cell? p = some v := by
  have hlt : p.block < w.heap.size := by
    rcases Nat.lt_or_ge p.block w.heap.size with h' | h'
    · exact h'
    · simp [World.cell?, Array.getElem?_eq_none h'] at hc
  exact (World.cell?_of_block (w := w) (h.block p.block hlt hn)).trans hc
theorem frozen (h : Touch S w w') {p : Addr} (hlt : p.block < w.heap.size) (hn : ¬ S p.block) : w'.frozen? p = w.frozen? p :=
  World.frozen?_of_block (w := w) (h.block p.block hlt hn)
end Touch

theorem Touch.setRow {S : Nat → Prop} {a w : World} (h : Touch S a w) {g : Nat} (hg : S g ∨ a.heap.size ≤ g) (cs : Array Value) : Touch S a (w.setRow g cs) :=
  ⟨h.os, h.tape, h.output, by simpa [World.setRow] using h.size, fun i hi hn => (setRow_other w g i cs (by
    rintro rfl
    exact hg.elim hn (fun hle => absurd hi (by omega)))).trans (h.block i hi hn)⟩
/-- Four stores into a block g. -/
def put4 (w : World) (g : Nat) (x0 x1 x2 x3 : Value) : World := (((w.setCell ⟨g, 0, none⟩ x0).setCell ⟨g, 1, none⟩ x1).setCell ⟨g, 2, none⟩ x2).setCell ⟨g, 3, none⟩ x3
theorem Blk.far4 {w : World} {L g : Nat} {t : TypeId} {cs : Array Value} (h : Blk w L t cs) (hne : L ≠ g) (x0 x1 x2 x3 : Value) : Blk (put4 w g x0 x1 x2 x3) L t cs :=
  (((h.far (p := ⟨g, 0, none⟩) hne _).far (p := ⟨g, 1, none⟩) hne _).far (p := ⟨g, 2, none⟩) hne _).far (p := ⟨g, 3, none⟩) hne _
theorem Touch.put4 {S : Nat → Prop} {w w' : World} {g : Nat} (h : Touch S w w') (hg : S g ∨ w.heap.size ≤ g) (x0 x1 x2 x3 : Value) : Touch S w (put4 w' g x0 x1 x2 x3) :=
  (((h.setCell (p := ⟨g, 0, none⟩) hg _).setCell (p := ⟨g, 1, none⟩) hg _).setCell (p := ⟨g, 2, none⟩) hg _).setCell (p := ⟨g, 3, none⟩) hg _
/-- A block laid ahead of a call counts for nothing behind it. -/
theorem Touch.pre {S : Nat → Prop} {w w' : World} {o : Obj} (h : Touch S (w.alloc o) w') : Touch S w w' := ((Touch.refl S w).alloc o).trans h
theorem Touch.preN {S : Nat → Prop} {w w' : World} {o : Obj} {n : Nat} (h : Touch S ((w.alloc o).drewN n) w') : Touch S w w' := (((Touch.refl S w).alloc o).drewN n).trans h
theorem Touch.ofN {S : Nat → Prop} {w w' : World} {n : Nat} (h : Touch S (w.drewN n) w') : Touch S w w' := ((Touch.refl S w).drewN n).trans h

/-- Nothing that was there has turned. -/
abbrev Fresh (w w' : World) : Prop := Touch (fun _ => False) w w'
theorem Fresh.below {w w' : World} (h : Fresh w w') : Below w.heap.size w w' := Touch.below h (Nat.le_refl _) (fun _ hf => hf.elim)
theorem fresh_of_below {w w' : World} (h : Below w.heap.size w w') : Fresh w w' := Touch.of_below h fun _ h1 h2 => absurd h2 (by omega)
end Go.Proofs.Ytilgpmpiidccjaa
