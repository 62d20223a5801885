/- Part 10 of 53 of a proof; its texts, joined: Base, Tkr, App. No condition. -/
import Derived.Test.YtgfhlfbcoimojaaGreatRows
import Derived.WalkKit
import Derived.WalkSpells
import Derived.WalkLawsBesides
import Derived.Deep.QuietTactic
import Derived.BigQuiet
import Derived.Deep.Draws
import Derived.StillTailTactics
import Derived.Deep.RegionHeld3
import Derived.Test.YtgfhlfbcoimojaaGreatUb1
import Derived.Maps.AppendAt
import Derived.Deep.RegionLaw
import Derived.Deep.DeepCutAuto

/- Words for memory used by all walks of this seat: a block known whole, and which blocks a call may turn. -/
namespace Go.Proofs.YtgfhlfbcoimojaaGreat
open Go.RowKit
theorem ret_int {k : IntKind} {a b : Int} (h : a = b) : Ending.returned (.int k a) = .returned (.int k b) := by rw [h]
theorem ret_bool {a b : Bool} (h : a = b) : Ending.returned (.bool a) = .returned (.bool b) := by rw [h]
theorem hid {p : Prop} (h : p) : Hid p := h
def Blk (w : World) (g : Nat) (t : TypeId) (cs : Array Value) : Prop := w.heap[g]? = some (.cells cs t (0, 0))
theorem Blk.lt {w : World} {g : Nat} {t : TypeId} {cs : Array Value} (h : Blk w g t cs) : g < w.heap.size := (Array.getElem?_eq_some_iff.1 h).1
theorem Blk.cell {w : World} {g : Nat} {t : TypeId} {cs : Array Value} (h : Blk w g t cs) (i : Nat) : w.cell? ⟨g, i, none⟩ = cs[i]? := by
 unfold Blk at h; simp [World.cell?, h]
theorem Blk.frozen {w : World} {g : Nat} {t : TypeId} {cs : Array Value} (h : Blk w g t cs) (i : Nat) : w.frozen? ⟨g, i, none⟩ = false := by
 unfold Blk at h; simp [World.frozen?, h]
theorem Blk.new (w : World) (t : TypeId) (cs : Array Value) : Blk (w.alloc (.cells cs t)) w.heap.size t cs := heap_alloc_new w _
theorem Blk.new2 (w : World) (o : Obj) (t : TypeId) (cs : Array Value) : Blk ((w.alloc o).alloc (.cells cs t)) (w.heap.size + 1) t cs := by
 have := Blk.new (w.alloc o) t cs
 simpa using this
theorem Blk.drewN {w : World} {g : Nat} {t : TypeId} {cs : Array Value} (h : Blk w g t cs) (n : Nat) : Blk (w.drewN n) g t cs := h
theorem Blk.alloc {w : World} {g : Nat} {t : TypeId} {cs : Array Value} (h : Blk w g t cs) (o : Obj) : Blk (w.alloc o) g t cs := (Below.heap_alloc w o g h.lt).trans h
theorem Blk.put {w : World} {g : Nat} {t : TypeId} {cs : Array Value} (h : Blk w g t cs) (i : Nat) (u : Value) : Blk (w.setCell ⟨g, i, none⟩ u) g t (cs.setIfInBounds i u) := by
 unfold Blk at h ⊢
 simp [World.setCell, Array.getElem?_modify, h]
theorem Blk.far {w : World} {g : Nat} {t : TypeId} {cs : Array Value} (h : Blk w g t cs) {p : Addr} (hp : g ≠ p.block) (u : Value) : Blk (w.setCell p u) g t cs := (Below.heap_setCell w p u g hp).trans h
theorem Blk.four {w : World} {g : Nat} {t : TypeId} {x0 x1 x2 x3 : Value} (h : Blk w g t #[x0, x1, x2, x3]) :
  w.cell? ⟨g, 0, none⟩ = some x0 ∧ w.cell? ⟨g, 1, none⟩ = some x1 ∧ w.cell? ⟨g, 2, none⟩ = some x2 ∧ w.cell? ⟨g, 3, none⟩ = some x3 ∧
  w.frozen? ⟨g, 0, none⟩ = false ∧ w.frozen? ⟨g, 1, none⟩ = false ∧ w.frozen? ⟨g, 2, none⟩ = false ∧ w.frozen? ⟨g, 3, none⟩ = false ∧ g < w.heap.size :=
 ⟨h.cell 0, h.cell 1, h.cell 2, h.cell 3, h.frozen 0, h.frozen 1, h.frozen 2, h.frozen 3, h.lt⟩
structure Touch (S : Nat → Prop) (w w' : World) : Prop where
 os : w'.os = w.os
 tape : w'.tape = w.tape
 output : w'.output = w.output
 size : w.heap.size ≤ w'.heap.size
 block : ∀ k, k < w.heap.size → ¬ S k → w'.heap[k]? = w.heap[k]?
namespace Touch
variable {S S' : Nat → Prop} {a b c w w' : World}
theorem refl (S : Nat → Prop) (w : World) : Touch S w w := ⟨rfl, rfl, rfl, Nat.le_refl _, fun _ _ _ => rfl⟩
theorem trans' (h : Touch S a b) (k : Touch S' b c) (hS : ∀ i, S' i → S i ∨ a.heap.size ≤ i) : Touch S a c :=
 ⟨k.os.trans h.os, k.tape.trans h.tape, k.output.trans h.output, Nat.le_trans h.size k.size, fun i hi hn =>
  (k.block i (Nat.lt_of_lt_of_le hi h.size) (fun hs => (hS i hs).elim hn (fun hle => absurd hi (by omega)))).trans (h.block i hi hn)⟩
theorem trans (h : Touch S a b) (k : Touch S b c) : Touch S a c := h.trans' k fun _ hs => .inl hs
theorem mono (h : Touch S a b) (hS : ∀ i, S i → S' i) : Touch S' a b := ⟨h.os, h.tape, h.output, h.size, fun i hi hn => h.block i hi (fun hs => hn (hS i hs))⟩
theorem drew (h : Touch S a w) : Touch S a w.drew := ⟨h.os, h.tape, h.output, h.size, h.block⟩
theorem drewN (h : Touch S a w) (n : Nat) : Touch S a (w.drewN n) := ⟨h.os, h.tape, h.output, h.size, h.block⟩
theorem alloc (h : Touch S a w) (o : Obj) : Touch S a (w.alloc o) :=
 h.trans ⟨rfl, rfl, rfl, by simp, fun i hi _ => Below.heap_alloc _ _ _ hi⟩
theorem setCell (h : Touch S a w) {p : Addr} (hp : S p.block ∨ a.heap.size ≤ p.block) (u : Value) : Touch S a (w.setCell p u) :=
 ⟨h.os, h.tape, h.output, by simpa [World.setCell] using h.size, fun i hi hn => (Below.heap_setCell w p u i (by
  rintro rfl
  exact hp.elim hn (fun hle => absurd hi (by omega)))).trans (h.block i hi hn)⟩
theorem grown (h : Touch S a w) {row : Option Nat} (hg : w.grownBy w' row) (hr : ∀ g, row = some g → S g ∨ a.heap.size ≤ g) : Touch S a w' :=
 ⟨hg.os.trans h.os, hg.tape.trans h.tape, hg.output.trans h.output, Nat.le_trans h.size hg.size, fun i hi hn =>
  (hg.block i (Nat.lt_of_lt_of_le hi h.size) (fun e => (hr i e.symm).elim hn (fun hle => absurd hi (by omega)))).trans (h.block i hi hn)⟩
theorem below (h : Touch S a w) {B : Nat} (hB : B ≤ a.heap.size) (hS : ∀ i, S i → B ≤ i) : Below B a w :=
 ⟨h.os, h.tape, h.output, h.size, fun i hi => h.block i (by omega) (fun hs => by have := hS i hs; omega)⟩
theorem of_below {B : Nat} (h : Below B a w) (hS : ∀ i, B ≤ i → i < a.heap.size → S i) : Touch S a w :=
 ⟨h.os, h.tape, h.output, h.size, fun i hi hn => h.block i (by
  rcases Nat.lt_or_ge i B with h' | h'
  ·exact h'
  ·exact absurd (hS i h' hi) hn)⟩
theorem blk (h : Touch S w w') {g : Nat} {t : TypeId} {cs : Array Value} (hb : Blk w g t cs) (hn : ¬ S g) : Blk w' g t cs := (h.block g hb.lt hn).trans hb
theorem cell (h : Touch S w w') {p : Addr} {v : Value} (hc : w.cell? p = some v) (hn : ¬ S p.block) : w'.cell? p = some v := by
 have hlt : p.block < w.heap.size := by
  rcases Nat.lt_or_ge p.block w.heap.size with h' | h'
  ·exact h'
  ·simp [World.cell?, Array.getElem?_eq_none h'] at hc
 exact (World.cell?_of_block (w := w) (h.block p.block hlt hn)).trans hc
theorem frozen (h : Touch S w w') {p : Addr} (hlt : p.block < w.heap.size) (hn : ¬ S p.block) : w'.frozen? p = w.frozen? p :=
 World.frozen?_of_block (w := w) (h.block p.block hlt hn)
end Touch
theorem Touch.setRow {S : Nat → Prop} {a w : World} (h : Touch S a w) {g : Nat} (hg : S g ∨ a.heap.size ≤ g) (cs : Array Value) : Touch S a (w.setRow g cs) :=
 ⟨h.os, h.tape, h.output, by simpa [World.setRow] using h.size, fun i hi hn => (setRow_other w g i cs (by
  rintro rfl
  exact hg.elim hn (fun hle => absurd hi (by omega)))).trans (h.block i hi hn)⟩
def put4 (w : World) (g : Nat) (x0 x1 x2 x3 : Value) : World := (((w.setCell ⟨g, 0, none⟩ x0).setCell ⟨g, 1, none⟩ x1).setCell ⟨g, 2, none⟩ x2).setCell ⟨g, 3, none⟩ x3
theorem Blk.far4 {w : World} {L g : Nat} {t : TypeId} {cs : Array Value} (h : Blk w L t cs) (hne : L ≠ g) (x0 x1 x2 x3 : Value) : Blk (put4 w g x0 x1 x2 x3) L t cs :=
 (((h.far (p := ⟨g, 0, none⟩) hne _).far (p := ⟨g, 1, none⟩) hne _).far (p := ⟨g, 2, none⟩) hne _).far (p := ⟨g, 3, none⟩) hne _
theorem Touch.put4 {S : Nat → Prop} {w w' : World} {g : Nat} (h : Touch S w w') (hg : S g ∨ w.heap.size ≤ g) (x0 x1 x2 x3 : Value) : Touch S w (put4 w' g x0 x1 x2 x3) :=
 (((h.setCell (p := ⟨g, 0, none⟩) hg _).setCell (p := ⟨g, 1, none⟩) hg _).setCell (p := ⟨g, 2, none⟩) hg _).setCell (p := ⟨g, 3, none⟩) hg _
theorem Touch.pre {S : Nat → Prop} {w w' : World} {o : Obj} (h : Touch S (w.alloc o) w') : Touch S w w' := ((Touch.refl S w).alloc o).trans h
theorem Touch.preN {S : Nat → Prop} {w w' : World} {o : Obj} {n : Nat} (h : Touch S ((w.alloc o).drewN n) w') : Touch S w w' := (((Touch.refl S w).alloc o).drewN n).trans h
theorem Touch.ofN {S : Nat → Prop} {w w' : World} {n : Nat} (h : Touch S (w.drewN n) w') : Touch S w w' := ((Touch.refl S w).drewN n).trans h
abbrev Fresh (w w' : World) : Prop := Touch (fun _ => False) w w'
theorem Fresh.below {w w' : World} (h : Fresh w w') : Below w.heap.size w w' := Touch.below h (Nat.le_refl _) (fun _ hf => hf.elim)
theorem fresh_of_below {w w' : World} (h : Below w.heap.size w w') : Fresh w w' := Touch.of_below h fun _ h1 h2 => absurd h2 (by omega)
structure Wd (b c : World) : Prop where
 frs : Fresh b c
instance wdRefl (b : World) : Nonempty (Wd b b) := ⟨⟨Touch.refl _ _⟩⟩
instance wdAlloc (b c : World) (o : Obj) [h : Nonempty (Wd b c)] : Nonempty (Wd b (c.alloc o)) := h.elim fun h => ⟨⟨h.frs.alloc o⟩⟩
instance wdDrew (b c : World) (n : Nat) [h : Nonempty (Wd b c)] : Nonempty (Wd b (c.drewN n)) := h.elim fun h => ⟨⟨h.frs.drewN n⟩⟩
theorem frA {a b c : World} (h : Fresh a b) [hw : Nonempty (Wd b c)] : Fresh a c := hw.elim fun k => h.trans k.frs
theorem preA {a b c : World} (h : Fresh b c) [hw : Nonempty (Wd a b)] : Fresh a c := hw.elim fun k => k.frs.trans h
theorem blkA {b c : World} {g : Nat} {t : TypeId} {cs : Array Value} (h : Blk b g t cs) [hw : Nonempty (Wd b c)] : Blk c g t cs := hw.elim fun k => k.frs.blk h fun h => h
structure Bn (w : World) (g : Nat) (t : TypeId) (cs : Array Value) : Prop where
 blk : Blk w g t cs
theorem Blk.new3' (w : World) (o o' : Obj) (t : TypeId) (cs : Array Value) : Blk (((w.alloc o).alloc o').alloc (.cells cs t)) (w.heap.size + 1 + 1) t cs := by
 have := Blk.new2 (w.alloc o) o' t cs
 simpa using this
instance bnNew (w : World) (t : TypeId) (cs : Array Value) : Nonempty (Bn (w.alloc (.cells cs t)) w.heap.size t cs) := ⟨⟨Blk.new _ _ _⟩⟩
instance bnNew2 (w : World) (o : Obj) (t : TypeId) (cs : Array Value) : Nonempty (Bn ((w.alloc o).alloc (.cells cs t)) (w.heap.size + 1) t cs) := ⟨⟨Blk.new2 _ _ _ _⟩⟩
instance bnNew3 (w : World) (o o' : Obj) (t : TypeId) (cs : Array Value) : Nonempty (Bn (((w.alloc o).alloc o').alloc (.cells cs t)) (w.heap.size + 1 + 1) t cs) := ⟨⟨Blk.new3' _ _ _ _ _⟩⟩
instance bnAlloc (w : World) (o : Obj) (g : Nat) (t : TypeId) (cs : Array Value) [h : Nonempty (Bn w g t cs)] : Nonempty (Bn (w.alloc o) g t cs) := h.elim fun h => ⟨⟨h.blk.alloc o⟩⟩
instance bnDrew (w : World) (n : Nat) (g : Nat) (t : TypeId) (cs : Array Value) [h : Nonempty (Bn w g t cs)] : Nonempty (Bn (w.drewN n) g t cs) := h.elim fun h => ⟨⟨h.blk.drewN n⟩⟩
theorem blkN {w : World} {g : Nat} {t : TypeId} {cs : Array Value} [h : Nonempty (Bn w g t cs)] : Blk w g t cs := h.elim fun h => h.blk
theorem mv4 {w w' : World} {a b c d : Addr} {x y z u : Value} (h : Fresh w w') (h0 : w.cell? a = some x) (h1 : w.cell? b = some y) (h2 : w.cell? c = some z) (h3 : w.cell? d = some u) :
  w'.cell? a = some x ∧ w'.cell? b = some y ∧ w'.cell? c = some z ∧ w'.cell? d = some u := ⟨h.cell h0 (fun h => h), h.cell h1 (fun h => h), h.cell h2 (fun h => h), h.cell h3 (fun h => h)⟩
end Go.Proofs.YtgfhlfbcoimojaaGreat

/- Rows of tokens in memory. -/
namespace Go.Proofs.YtgfhlfbcoimojaaGreat
open Go.RowKit
def ptokCells (x : Lx.PTok) : List Value := [.int .i64 x.kind, .string ⟨x.text.toArray⟩, .int .i64 x.from_, .int .i64 x.to_]
def TokRow (W : World) (v : Value) (ts : List Lx.PTok) : Prop :=
 ∃ A cap, v = .slice A ts.length cap ∧ ∀ i (hi : i < ts.length), ∃ g o, A = some ⟨g, o, none⟩ ∧ g < W.heap.size ∧
  W.cell? ⟨g, o + i * 4, none⟩ = some (.int .i64 ts[i].kind) ∧ W.cell? ⟨g, o + i * 4 + 1, none⟩ = some (.string ⟨ts[i].text.toArray⟩) ∧ W.cell? ⟨g, o + i * 4 + 2, none⟩ = some (.int .i64 ts[i].from_) ∧ W.cell? ⟨g, o + i * 4 + 3, none⟩ = some (.int .i64 ts[i].to_)
theorem TokRow.fresh {W W' : World} {v : Value} {ts : List Lx.PTok} (h : TokRow W v ts) (hf : Fresh W W') : TokRow W' v ts := by
 obtain ⟨A, cap, hv, hc⟩ := h
 refine ⟨A, cap, hv, fun i hi => ?_⟩
 obtain ⟨g, o, h1, h2, h3, h4, h5, h6⟩ := hc i hi
 exact ⟨g, o, h1, Nat.lt_of_lt_of_le h2 hf.size, hf.cell h3 (fun h => h), hf.cell h4 (fun h => h), hf.cell h5 (fun h => h), hf.cell h6 (fun h => h)⟩
theorem owns_cells {W : World} {B e : Nat} {v : Value} {ts : List Lx.PTok} (h : W.ownsRow B e 4 v ts.length (ts.flatMap ptokCells)) (i : Nat) (hi : i < ts.length) :
  ∃ g cap, v = .slice (some ⟨g, 0, none⟩) ts.length cap ∧ B ≤ g ∧ g < W.heap.size ∧ ∀ j u, (ptokCells ts[i])[j]? = some u → W.cell? ⟨g, 4 * i + j, none⟩ = some u := by
 rcases h.2 with ⟨_, h0⟩ | ⟨g, cap, cur, hv, hB, r⟩
 ·omega
 ·subst hv
  refine ⟨g, cap, rfl, hB, (h.lt g rfl).2, fun j u hu => ?_⟩
  have hcl := h.cells (g := g) rfl (4 * i + j) u ?_
  ·rw [Addr.add_mid, Nat.zero_add] at hcl; exact hcl
  ·have hj : j < 4 := by have := (List.getElem?_eq_some_iff.1 hu).1; simpa [ptokCells] using this
   clear h r
   induction ts generalizing i with
   | nil => simp at hi
   | cons x l ih =>
    cases i with
    | zero => rw [List.flatMap_cons, List.getElem?_append_left (by simp [ptokCells]; omega)]; simpa using hu
    | succ i =>
     rw [List.flatMap_cons, List.getElem?_append_right (by simp [ptokCells]; omega)]
     have := ih i (by simpa using hi) (by simpa using hu)
     rw [← this]; congr 1; simp [ptokCells]; omega
theorem owns_row {W : World} {B e : Nat} {v : Value} {ts : List Lx.PTok} (h : W.ownsRow B e 4 v ts.length (ts.flatMap ptokCells)) : TokRow W v ts := by
 obtain ⟨A, cap, hv⟩ : ∃ A cap, v = .slice A ts.length cap := by
  rcases h.2 with ⟨h1, h2⟩ | ⟨g, cap, cur, h1, _⟩
  ·exact ⟨none, 0, by rw [h1, h2]⟩
  ·exact ⟨_, _, h1⟩
 refine ⟨A, cap, hv, fun i hi => ?_⟩
 obtain ⟨g, cap', h1, h2, h3, h4⟩ := owns_cells h i hi
 rw [hv] at h1
 cases h1
 refine ⟨g, 0, rfl, h3, ?_⟩
 rw [Nat.zero_add, Nat.mul_comm i 4]
 exact ⟨h4 0 _ rfl, h4 1 _ rfl, h4 2 _ rfl, h4 3 _ rfl⟩
theorem TokRow.nil (W : World) : TokRow W (.slice none 0 0) [] := ⟨none, 0, rfl, fun i hi => by simp at hi⟩
theorem infoRTok : (Tryz.prog.info? 34).map (fun i => (i.zero, i.size, i.bytes)) = some (some (.agg #[.int .i64 0, .string ⟨#[]⟩, .int .i64 0, .int .i64 0]), 4, 40) := by kernel_rfl
end Go.Proofs.YtgfhlfbcoimojaaGreat

/- An append to a row of the call's own, whatever the source: nothing, or cells at an address. -/
namespace Go.Proofs.YtgfhlfbcoimojaaGreat
open Go.RowKit
def Stay (p : Prop) : Prop := p
theorem Stay.mk {p : Prop} (h : Stay p) : p := h
theorem Stay.go {p : Prop} (h : p) : Stay p := h
def Src (w : World) (size : Nat) (y : Value) (m : Nat) (news : List Value) : Prop :=
 ∃ A c, y = .slice A m c ∧ news.length = m * size ∧ ((A = none ∧ m = 0 ∧ news = []) ∨ ∃ ad, A = some ad ∧ ∀ j u, news[j]? = some u → w.cell? (ad.add j) = some u)
theorem Src.fresh {w w' : World} {size m : Nat} {y : Value} {news : List Value} (h : Src w size y m news) (hf : Fresh w w') : Src w' size y m news := by
 obtain ⟨A, c, h1, h2, h3⟩ := h
 refine ⟨A, c, h1, h2, h3.imp id ?_⟩
 rintro ⟨ad, ha, hc⟩
 exact ⟨ad, ha, fun j u hu => hf.cell (hc j u hu) (fun h => h)⟩
theorem Src.of_own {w : World} {base e size n : Nat} {v : Value} {xs : List Value} (h : w.ownsRow base e size v n xs) : Src w size v n xs := by
 rcases h.2 with ⟨h1, h2⟩ | ⟨g, cap, cur, h1, _⟩
 ·refine ⟨none, 0, by rw [h1, h2], h.1, .inl ⟨rfl, h2, ?_⟩⟩
  have := h.1
  rw [h2, Nat.zero_mul] at this
  exact List.length_eq_zero_iff.1 this
 ·exact ⟨some ⟨g, 0, none⟩, cap, h1, h.1, .inr ⟨_, rfl, h.cells (by rw [h1]; rfl)⟩⟩
theorem Src.of_blk {w : World} {g : Nat} {t : TypeId} {cs : Array Value} {size m c : Nat} (h : Blk w g t cs) (hs : cs.size = m * size) : Src w size (.slice (some ⟨g, 0, none⟩) m c) m cs.toList :=
 ⟨_, _, rfl, by simpa using hs, .inr ⟨_, rfl, fun j u hu => by rw [Addr.add_mid, Nat.zero_add, h.cell]; simpa using hu⟩⟩
section
variable {P : Program} (w : World)
theorem run_append_src (base : Nat) (t ty e : TypeId) (i : TypeInfo) (z : Value) (size bytes : Nat) (ht : P.underlying t = some (.slice e)) (hi : P.info? e = some i) (hz : i.zero = some z)
  (hsize : i.size = size) (hby : i.bytes = bytes) (hzs : z.cells.size = size) (hsz : 0 < size)
  (v : Value) (n : Nat) (xs : List Value) (hown : w.ownsRow base e size v n xs) (y : Value) (m : Nat) (news : List Value) (hsrc : Src w size y m news) (h1 : ∀ u ∈ news, u.oneCell' = true)
  (h63 : n + m ≤ maxLen) (hbytes : (n + m) * bytes ≤ 140737488355328) (hbase : base ≤ w.heap.size) :
  ∃ v' w', (Builtin.append_ #[t, t] ty #[v, y]).run P w = .ok v' w' ∧ w'.ownsRow base e size v' (n + m) (xs ++ news) ∧ w.grownBy w' v.ownBlock ∧ (v'.ownBlock = v.ownBlock ∨ v'.ownBlock = some w.heap.size) := by
 obtain ⟨A, c, rfl, hl, hA⟩ := hsrc
 rcases hA with ⟨rfl, rfl, rfl⟩ | ⟨ad, rfl, hc⟩
 ·refine ⟨v, w, ?_, by simpa using hown, World.grownBy.refl w _, .inl rfl⟩
  rcases hown.2 with ⟨rfl, rfl⟩ | ⟨g, cap, cur, rfl, _, _, hnc, _⟩
  ·simp [Builtin.append_, run_underlying ht, sizeOf, typeInfo, hi, Builtin.lenOf, Builtin.firstCells]
  ·simp [Builtin.append_, run_underlying ht, sizeOf, typeInfo, hi, Builtin.lenOf, Builtin.firstCells, hnc, storeCells]
 ·obtain ⟨v', w', hrun, h2, h3, _, h5⟩ := run_append_own_at (P := P) w base t ty e i z size bytes ht hi hz hsize hby hzs hsz v n xs hown ad m c news hl hc h1 h63 hbytes hbase
  exact ⟨v', w', hrun, h2, h3, h5⟩
theorem wp_append_src {o : Oper} {a : Act} {K : Act → World → Prop} {Q : Exit → Act → World → Prop} (s x : Operand) (t : TypeId)
  (ho : o.op = .call { callee := .builtin .append, args := #[s, x], argTypes := #[t, t] })
  (base : Nat) (e : TypeId) (i : TypeInfo) (z : Value) (size bytes : Nat) (ht : P.underlying t = some (.slice e)) (hi : P.info? e = some i) (hz : i.zero = some z)
  (hsize : i.size = size) (hby : i.bytes = bytes) (hzs : z.cells.size = size) (hsz : 0 < size)
  (v : Value) (n : Nat) (xs : List Value) (hs : a.eval s = v) (hown : w.ownsRow base e size v n xs)
  (y : Value) (m : Nat) (news : List Value) (hx : a.eval x = y) (hsrc : Src w size y m news) (h1 : ∀ u ∈ news, u.oneCell' = true)
  (h63 : n + m ≤ maxLen) (hbytes : (n + m) * bytes ≤ 140737488355328) (hbase : base ≤ w.heap.size)
  (h : ∀ v' w', w'.ownsRow base e size v' (n + m) (xs ++ news) → w.grownBy w' v.ownBlock → (v'.ownBlock = v.ownBlock ∨ v'.ownBlock = some w.heap.size) → K (a.put o.dst v') w') : o.wp P a w K Q := by
 obtain ⟨v', w', hrun, h2, h3, h4⟩ := run_append_src (P := P) w base t o.type e i z size bytes ht hi hz hsize hby hzs hsz v n xs hown y m news hsrc h1 h63 hbytes hbase
 unfold Oper.wp execOp
 simp only [ho, resolve, invoke, builtin, Sem.run_bind, Sem.run_pure, Result.andThen_ok, List.map_toArray, List.map_cons, List.map_nil, hs, hx, hrun]
 exact h v' w' h2 h3 h4
theorem wpList_append_src {ops : Array Oper} {rest : List Oper} {o : Oper} {a : Act} {Q : Exit → Act → World → Prop} (hgd : o.guard = none) (s x : Operand) (t : TypeId)
  (ho : o.op = .call { callee := .builtin .append, args := #[s, x], argTypes := #[t, t] })
  (base : Nat) (e : TypeId) (i : TypeInfo) (z : Value) (size bytes : Nat) (ht : P.underlying t = some (.slice e)) (hi : P.info? e = some i) (hz : i.zero = some z)
  (hsize : i.size = size) (hby : i.bytes = bytes) (hzs : z.cells.size = size) (hsz : 0 < size)
  (v : Value) (n : Nat) (xs : List Value) (hs : a.eval s = v) (hown : w.ownsRow base e size v n xs)
  (y : Value) (m : Nat) (news : List Value) (hx : a.eval x = y) (hsrc : Src w size y m news) (h1 : ∀ u ∈ news, u.oneCell' = true)
  (h63 : n + m ≤ maxLen) (hbytes : (n + m) * bytes ≤ 140737488355328) (hbase : base ≤ w.heap.size)
  (h : ∀ v' w', w'.ownsRow base e size v' (n + m) (xs ++ news) → w.grownBy w' v.ownBlock → (v'.ownBlock = v.ownBlock ∨ v'.ownBlock = some w.heap.size) → wpList P ops Q rest (a.put o.dst v') w') : wpList P ops Q (o :: rest) a w :=
 wpList_plain hgd fun _ hK => wp_append_src w s x t ho base e i z size bytes ht hi hz hsize hby hzs hsz v n xs hs hown y m news hx hsrc h1 h63 hbytes hbase fun v' w' h2 h3 h4 => hK _ _ (h v' w' h2 h3 h4)
theorem step_append_src {ops : Array Oper} {o : Oper} {a : Act} {K : Act → World → Prop} {Q : Exit → Act → World → Prop} {E : Prop} (hgd : o.guard = none) (s x : Operand) (t : TypeId)
  (ho : o.op = .call { callee := .builtin .append, args := #[s, x], argTypes := #[t, t] })
  (base : Nat) (e : TypeId) (i : TypeInfo) (z : Value) (size bytes : Nat) (ht : P.underlying t = some (.slice e)) (hi : P.info? e = some i) (hz : i.zero = some z)
  (hsize : i.size = size) (hby : i.bytes = bytes) (hzs : z.cells.size = size) (hsz : 0 < size)
  (v : Value) (n : Nat) (xs : List Value) (hs : a.eval s = v) (hown : w.ownsRow base e size v n xs)
  (y : Value) (m : Nat) (news : List Value) (hx : a.eval x = y) (hsrc : Src w size y m news) (h1 : ∀ u ∈ news, u.oneCell' = true)
  (h63 : n + m ≤ maxLen) (hbytes : (n + m) * bytes ≤ 140737488355328) (hbase : base ≤ w.heap.size)
  (h : ∀ v' w', w'.ownsRow base e size v' (n + m) (xs ++ news) → w.grownBy w' v.ownBlock → (v'.ownBlock = v.ownBlock ∨ v'.ownBlock = some w.heap.size) → K (a.put o.dst v') w') :
  if Region.wanted o (yielded ops a.tmps) = true then Oper.wp P o a w K Q else E := by
 have hw : Region.wanted o (yielded ops a.tmps) = true := by simp [Region.wanted, hgd]
 rw [if_pos hw]
 exact wp_append_src w s x t ho base e i z size bytes ht hi hz hsize hby hzs hsz v n xs hs hown y m news hx hsrc h1 h63 hbytes hbase h
end
end Go.Proofs.YtgfhlfbcoimojaaGreat
