/- Part 1 of 11 of a proof; its texts, joined: Base, App, Reg, RegB, SlA, SlB, LxM, TrM, SpM, PlM, WrM, WrN, WrO. No condition. -/
import Derived.Test.YtdacpbdamliafaaRows
import Derived.WalkKit
import Derived.WalkSpells
import Derived.WalkLawsBesides
import Derived.Deep.QuietTactic
import Derived.BigQuiet
import Derived.Deep.Draws
import Derived.StillTailTactics
import Derived.Deep.RegionHeld3
import Derived.Maps.AppendAt
import Derived.Deep.RegionLaw
import Derived.Deep.DeepCutAuto
import Derived.Lib.QuietBelow
import Derived.Lib.AppendZeros
import Derived.Lib.SliceRun

/- Words for memory used by all walks of this seat: a block known whole, and which blocks a call may turn. -/
namespace Go.Proofs.Ytdacpbdamliafaa
open Go.RowKit

theorem ret_int {k : IntKind} {a b : Int} (h : a = b) : Ending.returned (.int k a) = .returned (.int k b) := by rw [h]
theorem ret_bool {a b : Bool} (h : a = b) : Ending.returned (.bool a) = .returned (.bool b) := by rw [h]

theorem hid {p : Prop} (h : p) : Hid p := h

/-- Block g is just these cells, none frozen. -/
def Blk (w : World) (g : Nat) (t : TypeId) (cs : Array Value) : Prop := w.heap[g]? = some (.cells cs t (0, 0))

theorem Blk.lt {w : World} {g : Nat} {t : TypeId} {cs : Array Value} (h : Blk w g t cs) : g < w.heap.size := (Array.getElem?_eq_some_iff.1 h).1
theorem Blk.cell {w : World} {g : Nat} {t : TypeId} {cs : Array Value} (h : Blk w g t cs) (i : Nat) : w.cell? ⟨g, i, none⟩ = cs[i]? := by
  unfold Blk at h; simp [World.cell?, h]
theorem Blk.frozen {w : World} {g : Nat} {t : TypeId} {cs : Array Value} (h : Blk w g t cs) (i : Nat) : w.frozen? ⟨g, i, none⟩ = false := by
  unfold Blk at h; simp [World.frozen?, h]
theorem Blk.new (w : World) (t : TypeId) (cs : Array Value) : Blk (w.alloc (.cells cs t)) w.heap.size t cs := heap_alloc_new w _
theorem Blk.new2 (w : World) (o : Obj) (t : TypeId) (cs : Array Value) : Blk ((w.alloc o).alloc (.cells cs t)) (w.heap.size + 1) t cs := by
  have := Blk.new (w.alloc o) t cs
  simpa using this
theorem Blk.drewN {w : World} {g : Nat} {t : TypeId} {cs : Array Value} (h : Blk w g t cs) (n : Nat) : Blk (w.drewN n) g t cs := h
theorem Blk.alloc {w : World} {g : Nat} {t : TypeId} {cs : Array Value} (h : Blk w g t cs) (o : Obj) : Blk (w.alloc o) g t cs := (Below.heap_alloc w o g h.lt).trans h
theorem Blk.put {w : World} {g : Nat} {t : TypeId} {cs : Array Value} (h : Blk w g t cs) (i : Nat) (u : Value) : Blk (w.setCell ⟨g, i, none⟩ u) g t (cs.setIfInBounds i u) := by
  unfold Blk at h ⊢
  simp [World.setCell, Array.getElem?_modify, h]
theorem Blk.far {w : World} {g : Nat} {t : TypeId} {cs : Array Value} (h : Blk w g t cs) {p : Addr} (hp : g ≠ p.block) (u : Value) : Blk (w.setCell p u) g t cs := (Below.heap_setCell w p u g hp).trans h

theorem Blk.four {w : World} {g : Nat} {t : TypeId} {x0 x1 x2 x3 : Value} (h : Blk w g t #[x0, x1, x2, x3]) :
    w.cell? ⟨g, 0, none⟩ = some x0 ∧ w.cell? ⟨g, 1, none⟩ = some x1 ∧ w.cell? ⟨g, 2, none⟩ = some x2 ∧ w.cell? ⟨g, 3, none⟩ = some x3 ∧
    w.frozen? ⟨g, 0, none⟩ = false ∧ w.frozen? ⟨g, 1, none⟩ = false ∧ w.frozen? ⟨g, 2, none⟩ = false ∧ w.frozen? ⟨g, 3, none⟩ = false ∧ g < w.heap.size :=
  ⟨h.cell 0, h.cell 1, h.cell 2, h.cell 3, h.frozen 0, h.frozen 1, h.frozen 2, h.frozen 3, h.lt⟩

/-- From w to w' only blocks of S and new ones have turned. -/
structure Touch (S : Nat → Prop) (w w' : World) : Prop where
  os : w'.os = w.os
  tape : w'.tape = w.tape
  output : w'.output = w.output
  size : w.heap.size ≤ w'.heap.size
  block : ∀ k, k < w.heap.size → ¬ S k → w'.heap[k]? = w.heap[k]?

namespace Touch
variable {S S' : Nat → Prop} {a b c w w' : World}
theorem refl (S : Nat → Prop) (w : World) : Touch S w w := ⟨rfl, rfl, rfl, Nat.le_refl _, fun _ _ _ => rfl⟩
theorem trans' (h : Touch S a b) (k : Touch S' b c) (hS : ∀ i, S' i → S i ∨ a.heap.size ≤ i) : Touch S a c :=
  ⟨k.os.trans h.os, k.tape.trans h.tape, k.output.trans h.output, Nat.le_trans h.size k.size, fun i hi hn =>
    (k.block i (Nat.lt_of_lt_of_le hi h.size) (fun hs => (hS i hs).elim hn (fun hle => absurd hi (by omega)))).trans (h.block i hi hn)⟩
theorem trans (h : Touch S a b) (k : Touch S b c) : Touch S a c := h.trans' k fun _ hs => .inl hs
theorem mono (h : Touch S a b) (hS : ∀ i, S i → S' i) : Touch S' a b := ⟨h.os, h.tape, h.output, h.size, fun i hi hn => h.block i hi (fun hs => hn (hS i hs))⟩
theorem drew (h : Touch S a w) : Touch S a w.drew := ⟨h.os, h.tape, h.output, h.size, h.block⟩
theorem drewN (h : Touch S a w) (n : Nat) : Touch S a (w.drewN n) := ⟨h.os, h.tape, h.output, h.size, h.block⟩
theorem alloc (h : Touch S a w) (o : Obj) : Touch S a (w.alloc o) :=
  h.trans ⟨rfl, rfl, rfl, by simp, fun i hi _ => Below.heap_alloc _ _ _ hi⟩
theorem setCell (h : Touch S a w) {p : Addr} (hp : S p.block ∨ a.heap.size ≤ p.block) (u : Value) : Touch S a (w.setCell p u) :=
  ⟨h.os, h.tape, h.output, by simpa [World.setCell] using h.size, fun i hi hn => (Below.heap_setCell w p u i (by
    rintro rfl
    exact hp.elim hn (fun hle => absurd hi (by omega)))).trans (h.block i hi hn)⟩
theorem grown (h : Touch S a w) {row : Option Nat} (hg : w.grownBy w' row) (hr : ∀ g, row = some g → S g ∨ a.heap.size ≤ g) : Touch S a w' :=
  ⟨hg.os.trans h.os, hg.tape.trans h.tape, hg.output.trans h.output, Nat.le_trans h.size hg.size, fun i hi hn =>
    (hg.block i (Nat.lt_of_lt_of_le hi h.size) (fun e => (hr i e.symm).elim hn (fun hle => absurd hi (by omega)))).trans (h.block i hi hn)⟩
theorem below (h : Touch S a w) {B : Nat} (hB : B ≤ a.heap.size) (hS : ∀ i, S i → B ≤ i) : Below B a w :=
  ⟨h.os, h.tape, h.output, h.size, fun i hi => h.block i (by omega) (fun hs => by have := hS i hs; omega)⟩
theorem of_below {B : Nat} (h : Below B a w) (hS : ∀ i, B ≤ i → i < a.heap.size → S i) : Touch S a w :=
  ⟨h.os, h.tape, h.output, h.size, fun i hi hn => h.block i (by
    rcases Nat.lt_or_ge i B with h' | h'
    · exact h'
    · exact absurd (hS i h' hi) hn)⟩
theorem blk (h : Touch S w w') {g : Nat} {t : TypeId} {cs : Array Value} (hb : Blk w g t cs) (hn : ¬ S g) : Blk w' g t cs := (h.block g hb.lt hn).trans hb
theorem cell (h : Touch S w w') {p : Addr} {v : Value} (hc : w.cell? p = some v) (hn : ¬ S p.block) : w'.cell? p = some v := by
  have hlt : p.block < w.heap.size := by
    rcases Nat.lt_or_ge p.block w.heap.size with h' | h'
    · exact h'
    · simp [World.cell?, Array.getElem?_eq_none h'] at hc
  exact (World.cell?_of_block (w := w) (h.block p.block hlt hn)).trans hc
theorem frozen (h : Touch S w w') {p : Addr} (hlt : p.block < w.heap.size) (hn : ¬ S p.block) : w'.frozen? p = w.frozen? p :=
  World.frozen?_of_block (w := w) (h.block p.block hlt hn)
end Touch

theorem Touch.setRow {S : Nat → Prop} {a w : World} (h : Touch S a w) {g : Nat} (hg : S g ∨ a.heap.size ≤ g) (cs : Array Value) : Touch S a (w.setRow g cs) :=
  ⟨h.os, h.tape, h.output, by simpa [World.setRow] using h.size, fun i hi hn => (setRow_other w g i cs (by
    rintro rfl
    exact hg.elim hn (fun hle => absurd hi (by omega)))).trans (h.block i hi hn)⟩
/-- Four stores into a block g. -/
def put4 (w : World) (g : Nat) (x0 x1 x2 x3 : Value) : World := (((w.setCell ⟨g, 0, none⟩ x0).setCell ⟨g, 1, none⟩ x1).setCell ⟨g, 2, none⟩ x2).setCell ⟨g, 3, none⟩ x3
theorem Blk.far4 {w : World} {L g : Nat} {t : TypeId} {cs : Array Value} (h : Blk w L t cs) (hne : L ≠ g) (x0 x1 x2 x3 : Value) : Blk (put4 w g x0 x1 x2 x3) L t cs :=
  (((h.far (p := ⟨g, 0, none⟩) hne _).far (p := ⟨g, 1, none⟩) hne _).far (p := ⟨g, 2, none⟩) hne _).far (p := ⟨g, 3, none⟩) hne _
theorem Touch.put4 {S : Nat → Prop} {w w' : World} {g : Nat} (h : Touch S w w') (hg : S g ∨ w.heap.size ≤ g) (x0 x1 x2 x3 : Value) : Touch S w (put4 w' g x0 x1 x2 x3) :=
  (((h.setCell (p := ⟨g, 0, none⟩) hg _).setCell (p := ⟨g, 1, none⟩) hg _).setCell (p := ⟨g, 2, none⟩) hg _).setCell (p := ⟨g, 3, none⟩) hg _
/-- A block laid ahead of a call counts for nothing behind it. -/
theorem Touch.pre {S : Nat → Prop} {w w' : World} {o : Obj} (h : Touch S (w.alloc o) w') : Touch S w w' := ((Touch.refl S w).alloc o).trans h
theorem Touch.preN {S : Nat → Prop} {w w' : World} {o : Obj} {n : Nat} (h : Touch S ((w.alloc o).drewN n) w') : Touch S w w' := (((Touch.refl S w).alloc o).drewN n).trans h
theorem Touch.ofN {S : Nat → Prop} {w w' : World} {n : Nat} (h : Touch S (w.drewN n) w') : Touch S w w' := ((Touch.refl S w).drewN n).trans h

/-- Nothing that was there has turned. -/
abbrev Fresh (w w' : World) : Prop := Touch (fun _ => False) w w'
theorem Fresh.below {w w' : World} (h : Fresh w w') : Below w.heap.size w w' := Touch.below h (Nat.le_refl _) (fun _ hf => hf.elim)
theorem fresh_of_below {w w' : World} (h : Below w.heap.size w w') : Fresh w w' := Touch.of_below h fun _ h1 h2 => absurd h2 (by omega)
end Go.Proofs.Ytdacpbdamliafaa

/- An append to a row of the call's own, whatever the source: nothing, or cells at an address. -/
namespace Go.Proofs.Ytdacpbdamliafaa
open Go.RowKit

/-- A goal at which the walk stands still. -/
def Stay (p : Prop) : Prop := p
theorem Stay.mk {p : Prop} (h : Stay p) : p := h
theorem Stay.go {p : Prop} (h : p) : Stay p := h

/-- What the source of an append holds. -/
def Src (w : World) (size : Nat) (y : Value) (m : Nat) (news : List Value) : Prop :=
  ∃ A c, y = .slice A m c ∧ news.length = m * size ∧ ((A = none ∧ m = 0 ∧ news = []) ∨ ∃ ad, A = some ad ∧ ∀ j u, news[j]? = some u → w.cell? (ad.add j) = some u)

theorem Src.fresh {w w' : World} {size m : Nat} {y : Value} {news : List Value} (h : Src w size y m news) (hf : Fresh w w') : Src w' size y m news := by
  obtain ⟨A, c, h1, h2, h3⟩ := h
  refine ⟨A, c, h1, h2, h3.imp id ?_⟩
  rintro ⟨ad, ha, hc⟩
  exact ⟨ad, ha, fun j u hu => hf.cell (hc j u hu) (fun h => h)⟩
theorem Src.of_own {w : World} {base e size n : Nat} {v : Value} {xs : List Value} (h : w.ownsRow base e size v n xs) : Src w size v n xs := by
  rcases h.2 with ⟨h1, h2⟩ | ⟨g, cap, cur, h1, _⟩
  · refine ⟨none, 0, by rw [h1, h2], h.1, .inl ⟨rfl, h2, ?_⟩⟩
    have := h.1
    rw [h2, Nat.zero_mul] at this
    exact List.length_eq_zero_iff.1 this
  · exact ⟨some ⟨g, 0, none⟩, cap, h1, h.1, .inr ⟨_, rfl, h.cells (by rw [h1]; rfl)⟩⟩
theorem Src.of_blk {w : World} {g : Nat} {t : TypeId} {cs : Array Value} {size m c : Nat} (h : Blk w g t cs) (hs : cs.size = m * size) : Src w size (.slice (some ⟨g, 0, none⟩) m c) m cs.toList :=
  ⟨_, _, rfl, by simpa using hs, .inr ⟨_, rfl, fun j u hu => by rw [Addr.add_mid, Nat.zero_add, h.cell]; simpa using hu⟩⟩

section
variable {P : Program} (w : World)
theorem run_append_src (base : Nat) (t ty e : TypeId) (i : TypeInfo) (z : Value) (size bytes : Nat) (ht : P.underlying t = some (.slice e)) (hi : P.info? e = some i) (hz : i.zero = some z)
    (hsize : i.size = size) (hby : i.bytes = bytes) (hzs : z.cells.size = size) (hsz : 0 < size)
    (v : Value) (n : Nat) (xs : List Value) (hown : w.ownsRow base e size v n xs) (y : Value) (m : Nat) (news : List Value) (hsrc : Src w size y m news) (h1 : ∀ u ∈ news, u.oneCell' = true)
    (h63 : n + m ≤ maxLen) (hbytes : (n + m) * bytes ≤ 140737488355328) (hbase : base ≤ w.heap.size) :
    ∃ v' w', (Builtin.append_ #[t, t] ty #[v, y]).run P w = .ok v' w' ∧ w'.ownsRow base e size v' (n + m) (xs ++ news) ∧ w.grownBy w' v.ownBlock ∧ (v'.ownBlock = v.ownBlock ∨ v'.ownBlock = some w.heap.size) := by
  obtain ⟨A, c, rfl, hl, hA⟩ := hsrc
  rcases hA with ⟨rfl, rfl, rfl⟩ | ⟨ad, rfl, hc⟩
  · refine ⟨v, w, ?_, by simpa using hown, World.grownBy.refl w _, .inl rfl⟩
    rcases hown.2 with ⟨rfl, rfl⟩ | ⟨g, cap, cur, rfl, _, _, hnc, _⟩
    · simp [Builtin.append_, run_underlying ht, sizeOf, typeInfo, hi, Builtin.lenOf, Builtin.firstCells]
    · simp [Builtin.append_, run_underlying ht, sizeOf, typeInfo, hi, Builtin.lenOf, Builtin.firstCells, hnc, storeCells]
  · obtain ⟨v', w', hrun, h2, h3, _, h5⟩ := run_append_own_at (P := P) w base t ty e i z size bytes ht hi hz hsize hby hzs hsz v n xs hown ad m c news hl hc h1 h63 hbytes hbase
    exact ⟨v', w', hrun, h2, h3, h5⟩
theorem wp_append_src {o : Oper} {a : Act} {K : Act → World → Prop} {Q : Exit → Act → World → Prop} (s x : Operand) (t : TypeId)
    (ho : o.op = .call { callee := .builtin .append, args := #[s, x], argTypes := #[t, t] })
    (base : Nat) (e : TypeId) (i : TypeInfo) (z : Value) (size bytes : Nat) (ht : P.underlying t = some (.slice e)) (hi : P.info? e = some i) (hz : i.zero = some z)
    (hsize : i.size = size) (hby : i.bytes = bytes) (hzs : z.cells.size = size) (hsz : 0 < size)
    (v : Value) (n : Nat) (xs : List Value) (hs : a.eval s = v) (hown : w.ownsRow base e size v n xs)
    (y : Value) (m : Nat) (news : List Value) (hx : a.eval x = y) (hsrc : Src w size y m news) (h1 : ∀ u ∈ news, u.oneCell' = true)
    (h63 : n + m ≤ maxLen) (hbytes : (n + m) * bytes ≤ 140737488355328) (hbase : base ≤ w.heap.size)
    (h : ∀ v' w', w'.ownsRow base e size v' (n + m) (xs ++ news) → w.grownBy w' v.ownBlock → (v'.ownBlock = v.ownBlock ∨ v'.ownBlock = some w.heap.size) → K (a.put o.dst v') w') : o.wp P a w K Q := by
  obtain ⟨v', w', hrun, h2, h3, h4⟩ := run_append_src (P := P) w base t o.type e i z size bytes ht hi hz hsize hby hzs hsz v n xs hown y m news hsrc h1 h63 hbytes hbase
  unfold Oper.wp execOp
  simp only [ho, resolve, invoke, builtin, Sem.run_bind, Sem.run_pure, Result.andThen_ok, List.map_toArray, List.map_cons, List.map_nil, hs, hx, hrun]
  exact h v' w' h2 h3 h4
theorem wpList_append_src {ops : Array Oper} {rest : List Oper} {o : Oper} {a : Act} {Q : Exit → Act → World → Prop} (hgd : o.guard = none) (s x : Operand) (t : TypeId)
    (ho : o.op = .call { callee := .builtin .append, args := #[s, x], argTypes := #[t, t] })
    (base : Nat) (e : TypeId) (i : TypeInfo) (z : Value) (size bytes : Nat) (ht : P.underlying t = some (.slice e)) (hi : P.info? e = some i) (hz : i.zero = some z)
    (hsize : i.size = size) (hby : i.bytes = bytes) (hzs : z.cells.size = size) (hsz : 0 < size)
    (v : Value) (n : Nat) (xs : List Value) (hs : a.eval s = v) (hown : w.ownsRow base e size v n xs)
    (y : Value) (m : Nat) (news : List Value) (hx : a.eval x = y) (hsrc : Src w size y m news) (h1 : ∀ u ∈ news, u.oneCell' = true)
    (h63 : n + m ≤ maxLen) (hbytes : (n + m) * bytes ≤ 140737488355328) (hbase : base ≤ w.heap.size)
    (h : ∀ v' w', w'.ownsRow base e size v' (n + m) (xs ++ news) → w.grownBy w' v.ownBlock → (v'.ownBlock = v.ownBlock ∨ v'.ownBlock = some w.heap.size) → wpList P ops Q rest (a.put o.dst v') w') : wpList P ops Q (o :: rest) a w :=
  wpList_plain hgd fun _ hK => wp_append_src w s x t ho base e i z size bytes ht hi hz hsize hby hzs hsz v n xs hs hown y m news hx hsrc h1 h63 hbytes hbase fun v' w' h2 h3 h4 => hK _ _ (h v' w' h2 h3 h4)
theorem step_append_src {ops : Array Oper} {o : Oper} {a : Act} {K : Act → World → Prop} {Q : Exit → Act → World → Prop} {E : Prop} (hgd : o.guard = none) (s x : Operand) (t : TypeId)
    (ho : o.op = .call { callee := .builtin .append, args := #[s, x], argTypes := #[t, t] })
    (base : Nat) (e : TypeId) (i : TypeInfo) (z : Value) (size bytes : Nat) (ht : P.underlying t = some (.slice e)) (hi : P.info? e = some i) (hz : i.zero = some z)
    (hsize : i.size = size) (hby : i.bytes = bytes) (hzs : z.cells.size = size) (hsz : 0 < size)
    (v : Value) (n : Nat) (xs : List Value) (hs : a.eval s = v) (hown : w.ownsRow base e size v n xs)
    (y : Value) (m : Nat) (news : List Value) (hx : a.eval x = y) (hsrc : Src w size y m news) (h1 : ∀ u ∈ news, u.oneCell' = true)
    (h63 : n + m ≤ maxLen) (hbytes : (n + m) * bytes ≤ 140737488355328) (hbase : base ≤ w.heap.size)
    (h : ∀ v' w', w'.ownsRow base e size v' (n + m) (xs ++ news) → w.grownBy w' v.ownBlock → (v'.ownBlock = v.ownBlock ∨ v'.ownBlock = some w.heap.size) → K (a.put o.dst v') w') :
    if Region.wanted o (yielded ops a.tmps) = true then Oper.wp P o a w K Q else E := by
  have hw : Region.wanted o (yielded ops a.tmps) = true := by simp [Region.wanted, hgd]
  rw [if_pos hw]
  exact wp_append_src w s x t ho base e i z size bytes ht hi hz hsize hby hzs hsz v n xs hs hown y m news hx hsrc h1 h63 hbytes hbase h
end
end Go.Proofs.Ytdacpbdamliafaa

/- A law on regions that draw their order: quiet stretches between operations that come up alone. One walk serves every order. -/
namespace Go.Proofs.Ytdacpbdamliafaa
open Go.RowKit

section
variable {P : Program} {ops : Array Oper} {md : Region.Mode} {C : World → Prop}

structure Closed (md : Region.Mode) (ops : Array Oper) (listed : Array Bool) : Prop where
  size : listed.size = ops.size
  closed : ∀ j oj, ops[j]? = some oj → listed.getD j false = true → ∀ e ∈ oj.after, Region.binds md e = true → listed.getD e.on false = true

theorem Closed.put {i : Nat} {listed : Array Bool} (inv : Closed md ops listed) (hi : i ∈ Region.ready md ops listed) : Closed md ops (listed.setIfInBounds i true) := by
  obtain ⟨_, oi, hoi, hall⟩ := mem_ready.1 hi
  refine ⟨by simp [inv.size], fun j oj hj hl e he hb => ?_⟩
  by_cases hij : i = j
  · subst hij
    have : oj = oi := Option.some.inj (hj.symm.trans hoi)
    subst this
    exact getD_set_true (hall e he hb)
  · rw [getD_set_ne false hij] at hl
    exact getD_set_true (inv.closed j oj hj hl e he hb)

/-- Each of these is waited for by one behind it in the list, or by t. -/
def sinkL (md : Region.Mode) (ops : Array Oper) : List Nat → Option Nat → Bool
  | [], _ => true
  | q :: qs, t => (qs.any (fun j => Region.waitsFor md ops j q) || (match t with | some t => Region.waitsFor md ops t q | none => true)) && sinkL md ops qs t

def shutB (md : Region.Mode) (ops : Array Oper) (qs : List Nat) (t : Option Nat) (listed : Array Bool) : Bool :=
  (List.range ops.size).all (fun u => listed.getD u false || qs.contains u || t == some u || (List.range ops.size).any (fun v => Region.waitsFor md ops u v && !listed.getD v false && !qs.contains v))
  && sinkL md ops qs t

theorem sink_spec {t : Nat} {listed : Array Bool} (inv : Closed md ops listed) : ∀ (qs : List Nat), sinkL md ops qs (some t) = true → (∃ q ∈ qs, listed.getD q false = false) → ∃ v, Region.waitsFor md ops t v = true ∧ listed.getD v false = false
  | [], _, h => by obtain ⟨q, hq, _⟩ := h; cases hq
  | q :: qs, hs, h => by
    simp only [sinkL, Bool.and_eq_true, Bool.or_eq_true] at hs
    by_cases hr : ∃ q ∈ qs, listed.getD q false = false
    · exact sink_spec inv qs hs.2 hr
    · obtain ⟨x, hx, hxl⟩ := h
      have hxq : x = q := by
        rcases List.mem_cons.1 hx with h1 | h1
        · exact h1
        · exact absurd ⟨x, h1, hxl⟩ hr
      subst hxq
      rcases hs.1 with h1 | h1
      · obtain ⟨j, hj, hw⟩ := List.any_eq_true.1 h1
        obtain ⟨oj, hoj, e, he, hb, hon⟩ := Region.waitsFor_spec hw
        cases hl : listed.getD j false with
        | true =>
          have h2 := inv.closed j oj hoj hl e he hb
          rw [hon, hxl] at h2
          cases h2
        | false => exact absurd ⟨j, hj, hl⟩ hr
      · exact ⟨x, h1, hxl⟩

theorem ready_waits {u v : Nat} {listed : Array Bool} (hu : u ∈ Region.ready md ops listed) (hw : Region.waitsFor md ops u v = true) : listed.getD v false = true := by
  obtain ⟨_, ou, hou, hall⟩ := mem_ready.1 hu
  obtain ⟨o', ho', e, he, hb, hon⟩ := Region.waitsFor_spec hw
  have : o' = ou := Option.some.inj (ho'.symm.trans hou)
  subst this
  have := hall e he hb
  rwa [hon] at this

theorem shut_spec {qs : List Nat} {t : Option Nat} {listed0 listed : Array Bool} (h : shutB md ops qs t listed0 = true) (inv : Closed md ops listed)
    (h1 : ∀ j, listed0.getD j false = true → listed.getD j false = true) (h2 : ∀ j, listed.getD j false = true → listed0.getD j false = true ∨ j ∈ qs)
    (hq : ∃ q ∈ qs, listed.getD q false = false) : ∀ u ∈ Region.ready md ops listed, u ∈ qs := by
  intro u hu
  simp only [shutB, Bool.and_eq_true] at h
  obtain ⟨hun, ou, hou, _⟩ := mem_ready.1 hu
  have hlt : u < ops.size := (Array.getElem?_eq_some_iff.1 hou).1
  have hx := List.all_eq_true.1 h.1 u (List.mem_range.2 hlt)
  simp only [Bool.or_eq_true] at hx
  rcases hx with ((hx | hx) | hx) | hx
  · have := h1 u hx
    rw [getD_both hun] at this
    cases this
  · simpa using hx
  · have ht : t = some u := by simpa using hx
    subst ht
    obtain ⟨v, hw, hv⟩ := sink_spec inv qs h.2 hq
    rw [ready_waits hu hw] at hv
    cases hv
  · obtain ⟨v, hv, hx⟩ := List.any_eq_true.1 hx
    simp only [Bool.and_eq_true, Bool.not_eq_true'] at hx
    have hl := ready_waits hu hx.1.1
    rcases h2 v hl with h3 | h3
    · rw [hx.1.2] at h3; cases h3
    · simp [h3] at hx

def wpAnyZ (P : Program) (md : Region.Mode) (ops : Array Oper) (C : World → Prop) (qs : List Nat) (L : Array Bool → Act → Prop) : Nat → Array Bool → Act → Prop
  | 0, listed, a => L listed a
  | f + 1, listed, a => Region.ready md ops listed ≠ [] ∧ ∀ i ∈ Region.ready md ops listed, i ∈ qs ∧ qOp P ops C i (wpAnyZ P md ops C qs L f (listed.setIfInBounds i true)) a

theorem wpAny_of_Z {qs : List Nat} {g : Nat} {L : Array Bool → Act → Prop} {Q' : Exit → Act → World → Prop} (hL : ∀ listed a w, C w → L listed a → wpAny P md ops Q' g listed a w) :
    ∀ (f : Nat) (listed : Array Bool) (a : Act) (w : World), C w → wpAnyZ P md ops C qs L f listed a → wpAny P md ops Q' (f + g) listed a w
  | 0, listed, a, w, hC, h => by rw [Nat.zero_add]; exact hL _ _ _ hC h
  | f + 1, listed, a, w, hC, h => by
    rw [show f + 1 + g = (f + g) + 1 by omega]
    exact ⟨fun h0 => absurd h0 h.1, fun i hi => wpOp_of_qOp hC (fun a' w' hC' h' => wpAny_of_Z hL f _ a' w' hC' h') (h.2 i hi).2⟩

structure ZInv (md : Region.Mode) (ops : Array Oper) (qs : List Nat) (listed0 listed : Array Bool) : Prop where
  closed : Closed md ops listed
  sub : ∀ j, listed0.getD j false = true → listed.getD j false = true
  sup : ∀ j, listed.getD j false = true → listed0.getD j false = true ∨ j ∈ qs

theorem ZInv.put {qs : List Nat} {listed0 listed : Array Bool} {i : Nat} (inv : ZInv md ops qs listed0 listed) (hi : i ∈ Region.ready md ops listed) (hq : i ∈ qs) : ZInv md ops qs listed0 (listed.setIfInBounds i true) :=
  ⟨inv.closed.put hi, fun j hj => getD_set_true (inv.sub j hj), fun j hj => by
    by_cases hij : i = j
    · subst hij; exact .inr hq
    · rw [getD_set_ne false hij] at hj; exact inv.sup j hj⟩

theorem wpAnyZ_first {qs : List Nat} {t : Option Nat} {listed0 : Array Bool} {i : Nat} {oi : Oper} {v : Value} {L : Array Bool → Act → Prop} (hi : ops[i]? = some oi) (hsel : ∀ (j : Nat) (o : Oper) cs b, ops[j]? = some o → o.op ≠ .select cs b)
    (hs : shutB md ops qs t listed0 = true) (hin : i ∈ qs) (hdone : ∀ listed a, L listed a → ∀ j ∈ Region.ready md ops listed, j ∉ qs) :
    ∀ (f : Nat) (listed : Array Bool) (a : Act), ZInv md ops qs listed0 listed →
      (∀ j oj, ops[j]? = some oj → j ≠ i → listed.getD j true = false → (∀ e ∈ oj.after, Region.binds md e = true → e.on ≠ i) → oi.apart ops oj = true) →
      i ∈ Region.ready md ops listed → YieldsIn P ops C oi v a →
      wpAnyZ P md ops C qs L f (listed.setIfInBounds i true) (a.put oi.dst v) → wpAnyZ P md ops C qs L (f + 1) listed a := by
  intro f
  induction f with
  | zero =>
    intro listed a inv _ hr hy H
    have hun := (mem_ready.1 hr).1
    refine ⟨fun h => (by rw [h] at hr; cases hr), fun j hj => ?_⟩
    have hjn := shut_spec hs inv.closed inv.sub inv.sup ⟨i, hin, getD_both hun⟩ j hj
    refine ⟨hjn, ?_⟩
    by_cases hji : j = i
    · subst hji; exact hy.qOp hi H
    · exact absurd hjn (hdone _ _ H j (ready_mono hj hji))
  | succ f ih =>
    intro listed a inv hfree hr hy H
    have hun := (mem_ready.1 hr).1
    refine ⟨fun h => (by rw [h] at hr; cases hr), fun j hj => ?_⟩
    have hjn := shut_spec hs inv.closed inv.sub inv.sup ⟨i, hin, getD_both hun⟩ j hj
    refine ⟨hjn, ?_⟩
    by_cases hji : j = i
    · subst hji; exact hy.qOp hi H
    · have h1 := (H.2 j (ready_mono hj hji)).2
      obtain ⟨hjun, oj, hoj, hall⟩ := mem_ready.1 hj
      have hnot : ∀ e ∈ oj.after, Region.binds md e = true → e.on ≠ i := fun e he hb heq => by
        have h1 := hall e he hb
        rw [heq, getD_both hun] at h1
        cases h1
      have h2 := qOp_put hoj (hfree j oj hoj hji hjun hnot) (fun cs b => hsel i oi cs b hi) (fun cs b => hsel j oj cs b hoj) hy h1
      have hfree' : ∀ k ok, ops[k]? = some ok → k ≠ i → (listed.setIfInBounds j true).getD k true = false →
          (∀ e ∈ ok.after, Region.binds md e = true → e.on ≠ i) → oi.apart ops ok = true := fun k ok hk hki hun hno => by
        refine hfree k ok hk hki ?_ hno
        by_cases hjk : j = k
        · subst hjk; exact hjun
        · rw [getD_set_ne true hjk] at hun; exact hun
      refine qOp_mono (fun a' h3 => ih (listed.setIfInBounds j true) a' (inv.put hj hjn) hfree' (ready_mono hr (Ne.symm hji)) h3.1 ?_) h2
      rw [Array.setIfInBounds_comm _ _ hji]
      exact h3.2

def setAll : List Nat → Array Bool → Array Bool
  | [], x => x
  | k :: l, x => setAll l (x.setIfInBounds k true)

def lexZ (md : Region.Mode) (ops : Array Oper) : List Nat → Array Bool → Bool
  | [], _ => true
  | k :: l, listed => (Region.ready md ops listed).contains k && Region.free md ops listed k && lexZ md ops l (listed.setIfInBounds k true)

def pick (l : List Oper) : List Nat → List Oper
  | [] => []
  | k :: r => match l[k]? with
    | some o => o :: pick l r
    | none => pick l r

theorem setAll_true {k : Nat} : ∀ (l : List Nat) (x : Array Bool), x.getD k false = true → (setAll l x).getD k false = true
  | [], _, h => h
  | _ :: l, _, h => setAll_true l _ (getD_set_true h)
theorem setAll_mem {k : Nat} : ∀ (l : List Nat) (x : Array Bool), k ∈ l → k < x.size → (setAll l x).getD k false = true
  | j :: l, x, h, hk => by
    rcases List.mem_cons.1 h with h1 | h1
    · subst h1; exact setAll_true l _ (by simp [hk])
    · exact setAll_mem l _ h1 (by simpa using hk)

theorem wpAnyZ_lex {l0 : List Oper} {qs : List Nat} {t : Option Nat} {listed0 : Array Bool} {Lq : Act → Prop} {fin : Array Bool} (hsel : Region.noSelect l0.toArray = true) (hs : shutB md l0.toArray qs t listed0 = true)
    (hfin : ∀ j ∈ Region.ready md l0.toArray fin, j ∉ qs) :
    ∀ (l : List Nat) (listed : Array Bool) (a : Act), (∀ k ∈ l, k ∈ qs) → ZInv md l0.toArray qs listed0 listed → lexZ md l0.toArray l listed = true → setAll l listed = fin →
    wpQuiet P l0.toArray C Lq (pick l0 l) a → wpAnyZ P md l0.toArray C qs (fun listed' a' => listed' = fin ∧ Lq a') l.length listed a
  | [], listed, a, _, _, _, hf, h => ⟨hf, h⟩
  | k :: l, listed, a, hq, inv, hB, hf, h => by
    simp only [lexZ, Bool.and_eq_true] at hB
    obtain ⟨⟨hr, hfr⟩, hB'⟩ := hB
    have hr' : k ∈ Region.ready md l0.toArray listed := by simpa using hr
    obtain ⟨_, o, ho, _⟩ := mem_ready.1 hr'
    have ho' : l0[k]? = some o := by simpa using ho
    have hpick : pick l0 (k :: l) = o :: pick l0 l := by simp [pick, ho']
    rw [hpick] at h
    have hst : qOp P l0.toArray C k (wpQuiet P l0.toArray C Lq (pick l0 l)) a := by unfold qOp; rw [ho]; exact h
    obtain ⟨v, hy, hK⟩ := yieldsIn_of_qOp ho hst
    have hkq := hq k (by simp)
    exact wpAnyZ_first ho (Region.noSelect_spec hsel) hs hkq (fun listed' a' hL => by rw [hL.1]; exact hfin) l.length listed a inv (Region.free_spec ho hfr) hr' hy
      (wpAnyZ_lex hsel hs hfin l _ _ (fun x hx => hq x (by simp [hx])) (inv.put hr' hkq) hB' hf hK)

theorem closed_after {qs : List Nat} {listed0 : Array Bool} : ∀ (l : List Nat) (listed : Array Bool), (∀ k ∈ l, k ∈ qs) → ZInv md ops qs listed0 listed → lexZ md ops l listed = true → ZInv md ops qs listed0 (setAll l listed)
  | [], _, _, inv, _ => inv
  | k :: l, listed, hq, inv, hB => by
    simp only [lexZ, Bool.and_eq_true] at hB
    exact closed_after l _ (fun x hx => hq x (by simp [hx])) (inv.put (by simpa using hB.1.1) (hq k (by simp))) hB.2

/-- The order's own check: quiet stretches, each shut by an operation that then comes up alone. -/
def segsB (md : Region.Mode) (ops : Array Oper) : List (List Nat × Nat) → List Nat → Array Bool → Bool
  | [], last, listed => shutB md ops last none listed && lexZ md ops last listed && (Region.ready md ops (setAll last listed)).isEmpty
  | (qs, t) :: segs, last, listed => shutB md ops qs (some t) listed && lexZ md ops qs listed && decide (Region.ready md ops (setAll qs listed) = [t]) && !qs.contains t &&
      segsB md ops segs last ((setAll qs listed).setIfInBounds t true)

def segsN : List (List Nat × Nat) → List Nat → Nat
  | [], last => last.length
  | (qs, _) :: segs, last => qs.length + (segsN segs last + 1)

/-- The walk: each quiet stretch in the class of the worlds that are w after some draws; each lone operation as in a plain region. -/
def wpSegs (P : Program) (l : List Oper) (Q : Exit → Act → World → Prop) : List (List Nat × Nat) → List Nat → Act → World → Prop
  | [], last, a, w => wpQuiet P l.toArray (fun w' => ∃ n, w' = w.drewN n) (fun a' => ∀ w', (∃ n, w' = w.drewN n) → Q .normal a' w') (pick l last) a
  | (qs, t) :: segs, last, a, w => wpQuiet P l.toArray (fun w' => ∃ n, w' = w.drewN n)
      (fun a' => ∀ w', (∃ n, w' = w.drewN n) → wpList P l.toArray (Exit.then (wpSegs P l Q segs last) Q) (pick l [t]) a' w') (pick l qs) a

theorem wpOp_of_single {l : List Oper} {t : Nat} {o : Oper} {K : Act → World → Prop} {Q : Exit → Act → World → Prop} {a : Act} {w : World} (ho : l.toArray[t]? = some o)
    (h : wpList P l.toArray (Exit.then K Q) (pick l [t]) a w) : wpOp P l.toArray Q t K a w := by
  have ho' : l[t]? = some o := by simpa using ho
  have hp : pick l [t] = [o] := by simp [pick, ho']
  rw [hp] at h
  unfold wpOp
  rw [ho]
  exact h

theorem wpAny_of_segs {l : List Oper} {Q : Exit → Act → World → Prop} (hsel : Region.noSelect l.toArray = true) : ∀ (segs : List (List Nat × Nat)) (last : List Nat) (listed : Array Bool) (a : Act) (w w0 : World),
    Closed md l.toArray listed → segsB md l.toArray segs last listed = true → (∃ n, w = w0.drewN n) → wpSegs P l Q segs last a w0 → wpAny P md l.toArray Q (segsN segs last) listed a w
  | [], last, listed, a, w, w0, inv, hB, hC, h => by
    simp only [segsB, Bool.and_eq_true, List.isEmpty_iff] at hB
    obtain ⟨⟨hs, hl⟩, hr⟩ := hB
    have hz : ZInv md l.toArray last listed listed := ⟨inv, fun _ h => h, fun _ h => .inl h⟩
    have := wpAnyZ_lex (P := P) (C := fun w' => ∃ n, w' = w0.drewN n) (fin := setAll last listed) (Lq := fun a' => ∀ w', (∃ n, w' = w0.drewN n) → Q .normal a' w') hsel hs (by rw [hr]; simp) last listed a (fun _ h => h) hz hl rfl h
    refine wpAny_of_Z (g := 0) (fun listed' a' w' hC' hL => ?_) last.length listed a w hC this
    exact wpAny_done (by rw [hL.1]; exact hr) (hL.2 w' hC') 0
  | (qs, t) :: segs, last, listed, a, w, w0, inv, hB, hC, h => by
    simp only [segsB, Bool.and_eq_true, decide_eq_true_eq, Bool.not_eq_true'] at hB
    obtain ⟨⟨⟨⟨hs, hl⟩, hr⟩, ht⟩, hB'⟩ := hB
    have hz : ZInv md l.toArray qs listed listed := ⟨inv, fun _ h => h, fun _ h => .inl h⟩
    have hz' := closed_after qs listed (fun _ h => h) hz hl
    have htr : t ∈ Region.ready md l.toArray (setAll qs listed) := by rw [hr]; simp
    have htn : t ∉ qs := by simpa using ht
    obtain ⟨_, ot, hot, _⟩ := mem_ready.1 htr
    have := wpAnyZ_lex (P := P) (C := fun w' => ∃ n, w' = w0.drewN n) (fin := setAll qs listed) (Lq := fun a' => ∀ w', (∃ n, w' = w0.drewN n) → wpList P l.toArray (Exit.then (wpSegs P l Q segs last) Q) (pick l [t]) a' w') hsel hs
      (by rw [hr]; intro j hj; rw [List.mem_singleton.1 hj]; exact htn) qs listed a (fun _ h => h) hz hl rfl h
    refine wpAny_of_Z (g := segsN segs last + 1) (fun listed' a' w' hC' hL => ?_) qs.length listed a w hC this
    refine wpAny_all (rs := [t]) (by rw [hL.1]; exact hr) (by simp) (fun i hi => ?_)
    rw [List.mem_singleton.1 hi, hL.1]
    exact wpOp_mono (fun a'' w'' h'' => wpAny_of_segs hsel segs last _ a'' w'' w'' (hz'.closed.put htr) hB' ⟨0, rfl⟩ h'') (wpOp_of_single hot (hL.2 w' hC'))

theorem getD_repl (m j : Nat) : (Array.replicate m false).getD j false = false := by
  rcases Nat.lt_or_ge j m with h | h
  · simp [h]
  · simp [h]

/-- **A region that draws its order, walked in one order.** -/
theorem wp_region_segs {id : Nat} {Q : Exit → Act → World → Prop} {a : Act} {w : World} {l : List Oper} (segs : List (List Nat × Nat)) (last : List Nat) (hm : P.follows .mixedOrders = true)
    (hB : (Region.noSelect l.toArray && decide (segsN segs last = l.toArray.size) && segsB .any l.toArray segs last (Array.replicate l.toArray.size false)) = true)
    (h : wpSegs P l Q segs last a w) : (Code.region id l.toArray true).wp P Q a w := by
  simp only [Bool.and_eq_true, decide_eq_true_eq] at hB
  obtain ⟨⟨hsel, hn⟩, hB⟩ := hB
  refine wp_region_any hm ?_
  rw [← hn]
  rw [← hn] at hB
  exact wpAny_of_segs hsel segs last _ a _ w ⟨by simp [hn], fun j oj _ hl => by rw [getD_repl] at hl; cases hl⟩ hB ⟨1, rfl⟩ h
end
end Go.Proofs.Ytdacpbdamliafaa

/- The law of Reg over whatever class of worlds the quiet stretches end in; and at the class of worlds that have only grown. -/
namespace Go.Proofs.Ytdacpbdamliafaa
open Go.RowKit

section
variable {P : Program} {ops : Array Oper} {md : Region.Mode} {C : World → Prop}
/-- The walk: each quiet stretch in a class of worlds; each lone operation as in a plain region. -/
def wpSegsC (Cl : World → World → Prop) (P : Program) (l : List Oper) (Q : Exit → Act → World → Prop) : List (List Nat × Nat) → List Nat → Act → World → Prop
  | [], last, a, w => wpQuiet P l.toArray (fun w' => Cl w w') (fun a' => ∀ w', Cl w w' → Q .normal a' w') (pick l last) a
  | (qs, t) :: segs, last, a, w => wpQuiet P l.toArray (fun w' => Cl w w')
      (fun a' => ∀ w', Cl w w' → wpList P l.toArray (Exit.then (wpSegsC Cl P l Q segs last) Q) (pick l [t]) a' w') (pick l qs) a

theorem wpAny_of_segsC {Cl : World → World → Prop} (hrefl : ∀ w, Cl w w) {l : List Oper} {Q : Exit → Act → World → Prop} (hsel : Region.noSelect l.toArray = true) : ∀ (segs : List (List Nat × Nat)) (last : List Nat) (listed : Array Bool) (a : Act) (w w0 : World),
    Closed md l.toArray listed → segsB md l.toArray segs last listed = true → Cl w0 w → wpSegsC Cl P l Q segs last a w0 → wpAny P md l.toArray Q (segsN segs last) listed a w
  | [], last, listed, a, w, w0, inv, hB, hC, h => by
    simp only [segsB, Bool.and_eq_true, List.isEmpty_iff] at hB
    obtain ⟨⟨hs, hl⟩, hr⟩ := hB
    have hz : ZInv md l.toArray last listed listed := ⟨inv, fun _ h => h, fun _ h => .inl h⟩
    have := wpAnyZ_lex (P := P) (C := fun w' => Cl w0 w') (fin := setAll last listed) (Lq := fun a' => ∀ w', Cl w0 w' → Q .normal a' w') hsel hs (by rw [hr]; simp) last listed a (fun _ h => h) hz hl rfl h
    refine wpAny_of_Z (g := 0) (fun listed' a' w' hC' hL => ?_) last.length listed a w hC this
    exact wpAny_done (by rw [hL.1]; exact hr) (hL.2 w' hC') 0
  | (qs, t) :: segs, last, listed, a, w, w0, inv, hB, hC, h => by
    simp only [segsB, Bool.and_eq_true, decide_eq_true_eq, Bool.not_eq_true'] at hB
    obtain ⟨⟨⟨⟨hs, hl⟩, hr⟩, ht⟩, hB'⟩ := hB
    have hz : ZInv md l.toArray qs listed listed := ⟨inv, fun _ h => h, fun _ h => .inl h⟩
    have hz' := closed_after qs listed (fun _ h => h) hz hl
    have htr : t ∈ Region.ready md l.toArray (setAll qs listed) := by rw [hr]; simp
    have htn : t ∉ qs := by simpa using ht
    obtain ⟨_, ot, hot, _⟩ := mem_ready.1 htr
    have := wpAnyZ_lex (P := P) (C := fun w' => Cl w0 w') (fin := setAll qs listed) (Lq := fun a' => ∀ w', Cl w0 w' → wpList P l.toArray (Exit.then (wpSegsC Cl P l Q segs last) Q) (pick l [t]) a' w') hsel hs
      (by rw [hr]; intro j hj; rw [List.mem_singleton.1 hj]; exact htn) qs listed a (fun _ h => h) hz hl rfl h
    refine wpAny_of_Z (g := segsN segs last + 1) (fun listed' a' w' hC' hL => ?_) qs.length listed a w hC this
    refine wpAny_all (rs := [t]) (by rw [hL.1]; exact hr) (by simp) (fun i hi => ?_)
    rw [List.mem_singleton.1 hi, hL.1]
    exact wpOp_mono (fun a'' w'' h'' => wpAny_of_segsC hrefl hsel segs last _ a'' w'' w'' (hz'.closed.put htr) hB' (hrefl _) h'') (wpOp_of_single hot (hL.2 w' hC'))

/-- **A region that draws its order, walked in one order.** -/
theorem wp_region_segsC (Cl : World → World → Prop) (hrefl : ∀ w, Cl w w) (hdrew : ∀ w, Cl w (w.drewN 1)) {id : Nat} {Q : Exit → Act → World → Prop} {a : Act} {w : World} {l : List Oper} (segs : List (List Nat × Nat)) (last : List Nat) (hm : P.follows .mixedOrders = true)
    (hB : (Region.noSelect l.toArray && decide (segsN segs last = l.toArray.size) && segsB .any l.toArray segs last (Array.replicate l.toArray.size false)) = true)
    (h : wpSegsC Cl P l Q segs last a w) : (Code.region id l.toArray true).wp P Q a w := by
  simp only [Bool.and_eq_true, decide_eq_true_eq] at hB
  obtain ⟨⟨hsel, hn⟩, hB⟩ := hB
  refine wp_region_any hm ?_
  rw [← hn]
  rw [← hn] at hB
  exact wpAny_of_segsC hrefl hsel segs last _ a _ w ⟨by simp [hn], fun j oj _ hl => by rw [getD_repl] at hl; cases hl⟩ hB (hdrew w) h
end

/-- The worlds that have only grown since. -/
def Growing (w w' : World) : Prop := ∃ p : Regrown, w' = Go.Sort.grow (redrawn w p.d) p.os
theorem Growing.refl (w : World) : Growing w w := ⟨⟨w.drawn, #[]⟩, by rw [Go.Sort.grow_empty]; rfl⟩
theorem Growing.drew (w : World) : Growing w (w.drewN 1) := ⟨⟨w.drawn + 1, #[]⟩, by rw [Go.Sort.grow_empty]; rfl⟩

theorem wp_region_segs_below {P : Program} {id : Nat} {Q : Exit → Act → World → Prop} {a : Act} {w : World} {l : List Oper} (segs : List (List Nat × Nat)) (last : List Nat) (hm : P.follows .mixedOrders = true)
    (hB : (Region.noSelect l.toArray && decide (segsN segs last = l.toArray.size) && segsB .any l.toArray segs last (Array.replicate l.toArray.size false)) = true)
    (h : wpSegsC (fun w w' => ∃ p : Regrown, w' = Go.Sort.grow (redrawn w p.d) p.os) P l Q segs last a w) : (Code.region id l.toArray true).wp P Q a w :=
  wp_region_segsC _ Growing.refl Growing.drew segs last hm hB h

/-- A call that leaves all that was there, in any world that has only grown since. -/
theorem calmP {P : Program} {f : Nat} {args : Array Value} {v : Value} (h : ∀ w, Calls P f args w fun e w' => e = .returned v ∧ Fresh w w') (W : World) :
    ∀ d os, Calls P f args (Go.Sort.grow (redrawn W d) os) fun e w'' => e = .returned v ∧ ∃ p : Regrown, w'' = Go.Sort.grow (redrawn W p.d) p.os :=
  fun _ _ => Calls.regrown_of ((h _).mono fun _ _ h => ⟨h.1, h.2.below⟩)
end Go.Proofs.Ytdacpbdamliafaa

/- Slices of numbers: slices.Equal, slices.Compare. -/
namespace Go.Proofs.Ytdacpbdamliafaa
open Go.RowKit

/-- A slice of numbers. -/
def Ints (w : World) (v : Value) (l : List Int) : Prop :=
  ∃ A cap, v = .slice A l.length cap ∧ (l = [] ∨ ∃ g o, A = some ⟨g, o, none⟩ ∧ g < w.heap.size ∧ ∀ i (h : i < l.length), w.cell? ⟨g, o + i, none⟩ = some (.int .i64 l[i]))
theorem Ints.get {w : World} {A : Option Addr} {n cap : Nat} {l : List Int} (h : Ints w (.slice A n cap) l) (i : Nat) (hi : i < l.length) : ∃ g o, A = some ⟨g, o, none⟩ ∧ g < w.heap.size ∧ w.cell? ⟨g, o + i, none⟩ = some (.int .i64 l[i]) := by
  obtain ⟨A', cap', hv, h⟩ := h
  cases hv
  rcases h with rfl | ⟨g, o, h1, h2, h3⟩
  · simp at hi
  · exact ⟨g, o, h1, h2, h3 i hi⟩
theorem Ints.slice {w : World} {v : Value} {l : List Int} (h : Ints w v l) : ∃ A cap, v = .slice A l.length cap := by
  obtain ⟨A, cap, h, _⟩ := h
  exact ⟨A, cap, h⟩
theorem Ints.nil (w : World) (A : Option Addr) (cap : Nat) : Ints w (.slice A 0 cap) [] := ⟨A, cap, rfl, .inl rfl⟩
theorem Ints.fresh {w w' : World} {v : Value} {l : List Int} (h : Ints w v l) (hf : Fresh w w') : Ints w' v l := by
  obtain ⟨A, cap, h, h'⟩ := h
  exact ⟨A, cap, h, h'.imp id fun ⟨g, o, h1, h2, h3⟩ => ⟨g, o, h1, Nat.lt_of_lt_of_le h2 hf.size, fun i hi => hf.cell (h3 i hi) (fun h => h)⟩⟩
theorem Ints.own {w : World} {B e : Nat} {v : Value} {l : List Int} (h : w.ownsRow B e 1 v l.length (l.map fun x => .int .i64 x)) : Ints w v l := by
  rcases h.2 with ⟨h1, h2⟩ | ⟨g, cap, cur, h1, _⟩
  · rw [List.length_eq_zero_iff.1 h2, h1]
    exact Ints.nil _ _ _
  · refine ⟨_, cap, h1, .inr ⟨g, 0, rfl, (h.lt g (by rw [h1]; rfl)).2, fun i hi => ?_⟩⟩
    have := h.cells (g := g) (by rw [h1]; rfl) i (.int .i64 l[i]) (by simp [hi])
    rw [Addr.add_mid, Nat.zero_add] at this
    rw [Nat.zero_add]
    exact this

theorem take_snoc_eq (a b : List Int) (j : Nat) (ha : j < a.length) (hb : j < b.length) (h : a.take j = b.take j) (he : a[j] = b[j]) : a.take (j + 1) = b.take (j + 1) := by
  rw [List.take_succ_eq_append_getElem ha, List.take_succ_eq_append_getElem hb, h, he]

set_option maxHeartbeats 1000000 in
theorem equal_ints (a b : List Int) (va vb : Value) (w : World) (h1 : Ints w va a) (h2 : Ints w vb b) (ha : a.length ≤ maxLen) (hb : b.length ≤ maxLen) :
    Calls Try.prog 20 #[va, vb] w fun e w' => e = .returned (.bool (decide (a = b))) ∧ Fresh w w' := by
  unfold maxLen at ha hb
  obtain ⟨A, cap, rfl⟩ := h1.slice
  obtain ⟨B, cbp, rfl⟩ := h2.slice
  have HA := hid h1
  have HB := hid h2
  clear h1 h2
  by_cases c0 : a.length = b.length
  · have b0 : ((a.length : Int) == (b.length : Int)) = true := by rw [c0]; simp
    have b0' : ((a.length : Int) != (b.length : Int)) = false := by rw [bne, b0]; rfl
    have C0 := hid c0
    clear c0
    go_enter Try.func20, Try.ntmps20
    go_wp2_with fail
    go_loopw [13] (fun i wr => ∃ j : Nat, i = .int .i64 j ∧ j ≤ a.length ∧ Hid (a.take j = b.take j) ∧ Hid (Fresh w wr)) (fun i _ => a.length - (intOf i).toNat)
    case atStart => exact ⟨0, rfl, Nat.zero_le _, rfl, Touch.refl _ _⟩
    case round =>
      obtain ⟨j, rfl, hj, HT, HF⟩ := hrel
      by_cases c1 : j < a.length
      · have d1 : decide ((j : Int) < (a.length : Int)) = true := by simp; omega
        have d1' : (j : Int) < (a.length : Int) := by omega
        have c1y : j < b.length := by rw [← C0.out]; exact c1
        have d1y : (j : Int) < (b.length : Int) := by omega
        obtain ⟨g, o, rfl, _, m0⟩ := HA.out.get j c1
        obtain ⟨g', o', rfl, _, n0⟩ := HB.out.get j c1y
        have HS := hid (take_snoc_eq a b j c1 c1y HT.out)
        have HN := hid (show a[j] ≠ b[j] → a ≠ b from fun h e => by subst e; exact h rfl)
        have a0 := HF.out.cell m0 (fun h => h)
        have b1 := HF.out.cell n0 (fun h => h)
        clear m0 n0
        generalize a[j] = x at *
        generalize b[j] = y at *
        cases e : (x == y) with
        | true =>
          have e' : (x != y) = false := by rw [bne, e]; rfl
          go_wp2_with fail
          go_quiet (fail)
          go_wp2_with fail
          go_roundw
          case rel => exact ⟨j + 1, by go_num, c1, HS.out (by simpa using e), HF.out.drewN _⟩
          case measure => simp [intOf]; omega
        | false =>
          have e' : (x != y) = true := by rw [bne, e]; rfl
          go_wp2_with fail
          go_quiet (fail)
          go_wp2_with fail
          go_ret
          exact ⟨by rw [decide_eq_false (HN.out (by simpa using e))]; rfl, HF.out.drewN _⟩
      · have d1 : decide ((j : Int) < (a.length : Int)) = false := by simp; omega
        obtain rfl : j = a.length := by omega
        go_wp2_with fail
        go_ret
        refine ⟨?_, HF.out⟩
        have := HT.out
        rw [List.take_length, C0.out, List.take_length] at this
        rw [decide_eq_true this]
        rfl
  · have b0 : ((a.length : Int) == (b.length : Int)) = false := by rw [beq_eq_false_iff_ne]; omega
    have b0' : ((a.length : Int) != (b.length : Int)) = true := by rw [bne, b0]; rfl
    have HLN := hid (show a ≠ b from fun e => c0 (by rw [e]))
    clear c0
    go_enter Try.func20, Try.ntmps20
    go_wp2_with fail
    go_ret
    exact ⟨by rw [decide_eq_false HLN.out]; rfl, Touch.refl _ _⟩

/-- The order of lists of numbers. -/
def cmpI : List Int → List Int → Int
  | [], [] => 0
  | [], _ :: _ => -1
  | _ :: _, [] => 1
  | a :: l, b :: m => if a < b then -1 else if b < a then 1 else cmpI l m
def cmp1 (a b : Int) : Int := if a < b then -1 else if b < a then 1 else 0
theorem nan_int (x : Int) (w : World) : Calls Try.prog 76 #[.int .i64 x] w fun e w' => e = .returned (.bool false) ∧ w' = w := by
  have e : (x == x) = true := by simp
  have e' : (x != x) = false := by simp
  go_enter Try.func76, Try.ntmps76
  go_wp2_with fail
  go_ret
  exact ⟨rfl, rfl⟩
theorem cmp_int (x y : Int) (w : World) : Calls Try.prog 49 #[.int .i64 x, .int .i64 y] w fun e w' => e = .returned (.int .i64 (cmp1 x y)) ∧ w' = w := by
  by_cases c1 : x < y
  · have e1 : decide (x < y) = true := by simp [c1]
    have HR := hid (show cmp1 x y = -1 by unfold cmp1; rw [if_pos c1])
    go_enter Try.func49, Try.ntmps49
    go_wp2_with (with_reducible refine (nan_int _ _).mono ?_; rintro _ _ ⟨rfl, rfl⟩)
    go_ret
    exact ⟨by rw [HR.out]; rfl, rfl⟩
  · have e1 : decide (x < y) = false := by simp; omega
    by_cases c2 : y < x
    · have e2 : decide (y < x) = true := by simp [c2]
      have HR := hid (show cmp1 x y = 1 by unfold cmp1; rw [if_neg c1, if_pos c2])
      go_enter Try.func49, Try.ntmps49
      go_wp2_with (with_reducible refine (nan_int _ _).mono ?_; rintro _ _ ⟨rfl, rfl⟩)
      go_ret
      exact ⟨by rw [HR.out]; rfl, rfl⟩
    · have e2 : decide (y < x) = false := by simp; omega
      have HR := hid (show cmp1 x y = 0 by unfold cmp1; rw [if_neg c1, if_neg c2])
      go_enter Try.func49, Try.ntmps49
      go_wp2_with (with_reducible refine (nan_int _ _).mono ?_; rintro _ _ ⟨rfl, rfl⟩)
      go_ret
      exact ⟨by rw [HR.out]; rfl, rfl⟩

theorem cmpI_cons (a b : Int) (l m : List Int) : cmpI (a :: l) (b :: m) = if cmp1 a b = 0 then cmpI l m else cmp1 a b := by
  rw [cmpI]
  unfold cmp1
  by_cases h1 : a < b
  · rw [if_pos h1, if_pos h1]; rfl
  · rw [if_neg h1, if_neg h1]
    by_cases h2 : b < a
    · rw [if_pos h2, if_pos h2]; rfl
    · rw [if_neg h2, if_neg h2]; rfl

set_option maxHeartbeats 1000000 in
theorem compare_ints (a b : List Int) (va vb : Value) (w : World) (h1 : Ints w va a) (h2 : Ints w vb b) (ha : a.length ≤ maxLen) (_hb : b.length ≤ maxLen) :
    Calls Try.prog 39 #[va, vb] w fun e w' => e = .returned (.int .i64 (cmpI a b)) ∧ Fresh w w' := by
  unfold maxLen at ha _hb
  obtain ⟨A, cap, rfl⟩ := h1.slice
  obtain ⟨B, cbp, rfl⟩ := h2.slice
  have HA := hid h1
  have HB := hid h2
  clear h1 h2
  go_enter Try.func39, Try.ntmps39
  go_wp2_with fail
  go_loopw [11] (fun i wr => ∃ j : Nat, i = .int .i64 j ∧ j ≤ a.length ∧ j ≤ b.length ∧ Hid (cmpI (a.drop j) (b.drop j) = cmpI a b) ∧ Hid (Fresh w wr)) (fun i _ => a.length - (intOf i).toNat)
  case atStart => exact ⟨0, rfl, Nat.zero_le _, Nat.zero_le _, rfl, Touch.refl _ _⟩
  case round =>
    obtain ⟨j, rfl, hj, hjb, HT, HF⟩ := hrel
    by_cases c1 : j < a.length
    · have d1 : decide ((j : Int) < (a.length : Int)) = true := by simp; omega
      have d1' : (j : Int) < (a.length : Int) := by omega
      by_cases c2 : j < b.length
      · have d2 : decide ((b.length : Int) ≤ (j : Int)) = false := by simp; omega
        have d2' : (j : Int) < (b.length : Int) := by omega
        obtain ⟨g, o, rfl, _, m0⟩ := HA.out.get j c1
        obtain ⟨g', o', rfl, _, n0⟩ := HB.out.get j c2
        have HS := hid (show cmpI a b = if cmp1 a[j] b[j] = 0 then cmpI (a.drop (j + 1)) (b.drop (j + 1)) else cmp1 a[j] b[j] by
          rw [← HT.out, List.drop_eq_getElem_cons c1, List.drop_eq_getElem_cons c2, cmpI_cons])
        have a0 := HF.out.cell m0 (fun h => h)
        have b1 := HF.out.cell n0 (fun h => h)
        clear m0 n0
        generalize a[j] = x at *
        generalize b[j] = y at *
        cases e : (cmp1 x y == 0) with
        | true =>
          have e' : (cmp1 x y != 0) = false := by rw [bne, e]; rfl
          go_wp2_with fail
          refine (cmp_int _ _ _).mono ?_
          rintro _ wq ⟨rfl, hw⟩
          replace hw := hw.symm
          subst hw
          go_wp2_with fail
          go_roundw
          case rel => exact ⟨j + 1, by go_num, c1, c2, by unfold Hid; rw [HS.out, if_pos (by simpa using e)], HF.out⟩
          case measure => simp [intOf]; omega
        | false =>
          have e' : (cmp1 x y != 0) = true := by rw [bne, e]; rfl
          go_wp2_with fail
          refine (cmp_int _ _ _).mono ?_
          rintro _ wq ⟨rfl, hw⟩
          replace hw := hw.symm
          subst hw
          go_wp2_with fail
          go_ret
          exact ⟨by rw [HS.out, if_neg (by simpa using e)]; rfl, HF.out⟩
      · have d2 : decide ((b.length : Int) ≤ (j : Int)) = true := by simp; omega
        have HR := hid (show cmpI a b = 1 by
          rw [← HT.out, List.drop_eq_getElem_cons c1, List.drop_eq_nil_of_le (show b.length ≤ j by omega)]; rfl)
        obtain ⟨g, o, rfl, _, m0⟩ := HA.out.get j c1
        have a0 := HF.out.cell m0 (fun h => h)
        clear m0
        generalize a[j] = x at *
        go_wp2_with fail
        go_ret
        exact ⟨by rw [HR.out]; rfl, HF.out⟩
    · have d1 : decide ((j : Int) < (a.length : Int)) = false := by simp; omega
      obtain rfl : j = a.length := by omega
      by_cases c2 : a.length < b.length
      · have d2 : decide ((a.length : Int) < (b.length : Int)) = true := by simp; omega
        have HR := hid (show cmpI a b = -1 by
          rw [← HT.out, List.drop_eq_nil_of_le (Nat.le_refl _), List.drop_eq_getElem_cons c2]; rfl)
        go_wp2_with fail
        go_ret
        exact ⟨by rw [HR.out]; rfl, HF.out⟩
      · have d2 : decide ((a.length : Int) < (b.length : Int)) = false := by simp; omega
        have HR := hid (show cmpI a b = 0 by
          rw [← HT.out, List.drop_eq_nil_of_le (Nat.le_refl _), List.drop_eq_nil_of_le (by omega)]; rfl)
        go_wp2_with fail
        go_ret
        exact ⟨by rw [HR.out]; rfl, HF.out⟩
theorem pcompare_ints (a b : List Int) (va vb : Value) (w : World) (h1 : Ints w va a) (h2 : Ints w vb b) (ha : a.length ≤ maxLen) (hb : b.length ≤ maxLen) :
    Calls Try.prog 24 #[va, vb] w fun e w' => e = .returned (.int .i64 (cmpI a b)) ∧ Fresh w w' := by
  go_enter Try.func24, Try.ntmps24
  go_wp2_with fail
  refine (compare_ints a b va vb _ h1 h2 ha hb).mono ?_
  rintro _ w1 ⟨rfl, hf⟩
  go_wp2_with fail
  go_ret
  exact ⟨rfl, hf⟩
end Go.Proofs.Ytdacpbdamliafaa

/- Slices of numbers: slices.Clone, slices.Grow, slices.Concat, deep.Ints. -/
namespace Go.Proofs.Ytdacpbdamliafaa
open Go.RowKit

abbrev intVs (l : List Int) : List Value := l.map fun x => .int .i64 x
theorem intVs_len (l : List Int) : (intVs l).length = l.length * 1 := by simp
theorem intVs_one (l : List Int) : ∀ u ∈ intVs l, u.oneCell' = true := by
  intro u hu
  obtain ⟨x, _, rfl⟩ := List.mem_map.1 hu
  rfl
theorem Src.of_ints {w : World} {v : Value} {l : List Int} (h : Ints w v l) : Src w 1 v l.length (intVs l) := by
  obtain ⟨A, cap, rfl, h⟩ := h
  refine ⟨A, cap, rfl, intVs_len l, ?_⟩
  rcases h with rfl | ⟨g, o, rfl, _, hc⟩
  · cases A with
    | none => exact .inl ⟨rfl, rfl, rfl⟩
    | some a => exact .inr ⟨a, rfl, fun j u hu => by simp at hu⟩
  · refine .inr ⟨_, rfl, fun j u hu => ?_⟩
    have hj : j < l.length := by have := (List.getElem?_eq_some_iff.1 hu).1; simpa using this
    rw [List.getElem?_map, List.getElem?_eq_getElem hj] at hu
    simp only [Option.map_some, Option.some.injEq] at hu
    rw [Addr.add_mid, ← hu]
    exact hc j hj
theorem infoInt : (Try.prog.info? 3).map (fun i => (i.zero, i.size, i.bytes)) = some (some (.int .i64 0), 1, 8) := by kernel_rfl

/-- A row of numbers of the call's own. -/
def IntsRow (w : World) (l : List Int) (e : Ending) (w' : World) : Prop := ∃ v, e = .returned v ∧ w'.ownsRow w.heap.size 3 1 v l.length (intVs l) ∧ Fresh w w'

theorem touch_grown {w w1 w2 : World} {v : Value} {B e size n : Nat} {xs : List Value} (hf : Fresh w w1) (ho : w1.ownsRow B e size v n xs) (hB : w.heap.size ≤ B) (hg : w1.grownBy w2 v.ownBlock) : Fresh w w2 :=
  Touch.grown hf hg fun g hgv => .inr (Nat.le_trans hB (ho.lt g hgv).1)

set_option maxRecDepth 100000 in
set_option maxHeartbeats 1000000 in
theorem clone_ints (l : List Int) (v : Value) (w : World) (h : Ints w v l) (hl : l.length ≤ 1000000) :
    Calls Try.prog 40 #[v] w (IntsRow w l) := by
  obtain ⟨i, hi, hz0, hz1, hz2⟩ := info_parts infoInt
  have HI := hid h
  have HL := hid hl
  obtain ⟨A, cap, rfl⟩ := h.slice
  cases A with
  | none =>
    have h0 : l = [] := by
      obtain ⟨A', cap', hv, h'⟩ := h
      cases hv
      rcases h' with h' | ⟨g, o, h', _⟩
      · exact h'
      · cases h'
    clear h hl
    subst h0
    have hnil := fun w => Lib.run_eql_slice_nil (P := Try.prog) w 31 3 none 0 cap 0 0 rfl
    go_enter Try.func40, Try.ntmps40
    go_wp2_with fail
    go_ret
    exact ⟨_, rfl, World.ownsRow_nil _ _ _ _, Touch.refl _ _⟩
  | some a =>
    clear h hl
    have hm : l.length ≤ maxLen := by have := HL.out; unfold maxLen; omega
    have hnil := fun w => Lib.run_eql_slice_nil (P := Try.prog) w 31 3 (some a) l.length cap 0 0 rfl
    go_enter Try.func40, Try.ntmps40
    go_wp2_with (at_builtin; refine wpList_append_src _ rfl (.tmp 5) (.tmp 6) 31 rfl w.heap.size 3 i _ 1 8 rfl hi hz0 hz1 hz2 rfl (by decide) (.slice (some ⟨w.heap.size, 0, none⟩) 0 0) 0 [] (by simp [Act.eval]) (World.ownsRow_lit w #[] 0 (Nat.le_refl _) (Nat.zero_le _) rfl) (.slice (some a) l.length cap) l.length (intVs l) (by simp [Act.eval]) ((Src.of_ints HI.out).fresh ((Touch.refl _ _).alloc _)) (intVs_one l) (by have := HL.out; unfold maxLen; omega) (by have := HL.out; omega) (by simp) ?_; intro v' w' ho hg _; have HO := hid ho; have HG := hid hg; clear ho hg)
    go_ret
    refine ⟨_, rfl, by have := HO.out; rwa [Nat.zero_add, List.nil_append] at this, ?_⟩
    exact Touch.grown ((Touch.refl _ w).alloc _) HG.out fun g hg => .inr (by simp only [Value.ownBlock, Option.some.injEq] at hg; omega)
set_option maxRecDepth 100000 in
theorem ints_any (l : List Int) (v : Value) (w : World) (h : Ints w v l) (hl : l.length ≤ 1000000) :
    Calls Try.prog 25 #[v] w (IntsRow w l) := by
  go_enter Try.func25, Try.ntmps25
  go_wp2_with fail
  refine (clone_ints l v _ h hl).mono ?_
  rintro _ w1 ⟨v', rfl, ho, hf⟩
  go_wp2_with fail
  go_ret
  exact ⟨_, rfl, ho, hf⟩

set_option maxRecDepth 100000 in
set_option maxHeartbeats 1000000 in
theorem grow_nil (n : Nat) (w : World) (h0 : 0 < n) (hn : n ≤ 2000000) :
    Calls Try.prog 72 #[.slice none 0 0, .int .i64 n] w (IntsRow w []) := by
  obtain ⟨i, hi, hz0, hz1, hz2⟩ := info_parts infoInt
  have b1 : decide ((n : Int) < 0) = false := by simp only [decide_eq_false_iff_not]; omega
  have b2 : decide ((0 : Int) < (n : Int)) = true := by simp only [decide_eq_true_eq]; omega
  have b2n : decide (0 < n) = true := by simp only [decide_eq_true_eq]; omega
  have hr : ∀ ty, (Builtin.append_ #[31, 3] ty #[.slice none 0 0, .int .i64 n]).run Try.prog w = .ok (.slice (some ⟨w.heap.size, 0, none⟩) n (grownCap w n 0 3)) (w.drew.alloc (.cells (Builtin.zeroCells #[.int .i64 0] n ++ Builtin.zeroCells #[.int .i64 0] (grownCap w n 0 3 - n)) 3)) :=
    fun ty => Lib.run_append_nil_zeros w 31 3 ty 3 i (.int .i64 0) .i64 .i64 rfl rfl hi hz0 n h0 (by rw [hz1]; decide) (by omega) (by rw [hz2]; omega)
  have HR := hid hr
  have HGE := hid (grownCap_ge w n 0 3)
  have HLE := hid (grownCap_le_maxLen w n 0 3 (by unfold maxLen; omega))
  clear hr
  generalize grownCap w n 0 3 = cap at *
  go_enter Try.func72, Try.ntmps72
  go_wp2_with (at_builtin; refine Lib.wpList_append_run _ rfl (.tmp 20) (.tmp 21) 31 3 rfl (.slice none 0 0) (.int .i64 n) (by simp [Act.eval]) (by simp [Act.eval]) _ _ (HR.out _) ?_)
  go_ret
  exact ⟨_, rfl, World.ownsRow_made (w := w.drew) _ cap (Nat.le_refl _) HLE.out (by have := HGE.out; simp [Builtin.zeroCells]; omega), ((Touch.refl _ w).drew).alloc _⟩

def catS (a b : List Int) (j : Nat) : Nat := if j = 0 then 0 else if j = 1 then a.length else a.length + b.length
def catL (a b : List Int) (j : Nat) : List Int := if j = 0 then [] else if j = 1 then a else a ++ b

set_option maxRecDepth 100000 in
set_option maxHeartbeats 2000000 in
/-- Concat of two slices. -/
theorem concat2 (a b : List Int) (va vb : Value) (g : Nat) (w : World) (h1 : Ints w va a) (h2 : Ints w vb b) (c0 : w.cell? ⟨g, 0, none⟩ = some va) (c1 : w.cell? ⟨g, 1, none⟩ = some vb) (hn : 0 < a.length + b.length) (hl : a.length + b.length ≤ 1000000) :
    Calls Try.prog 46 #[.slice (some ⟨g, 0, none⟩) 2 2] w (IntsRow w (a ++ b)) := by
  obtain ⟨i, hi, hz0, hz1, hz2⟩ := info_parts infoInt
  obtain ⟨A, cap, rfl⟩ := h1.slice
  obtain ⟨B, cbp, rfl⟩ := h2.slice
  have HA := hid h1
  have HB := hid h2
  have HL := hid hl
  have HN := hid hn
  have C0 := hid c0
  have C1 := hid c1
  clear h1 h2 c0 c1
  go_enter Try.func46, Try.ntmps46
  go_wp2_with fail
  go_loop [3, 11] (fun s i => ∃ j : Nat, i = .int .i64 j ∧ j ≤ 2 ∧ s = .int .i64 (catS a b j : Nat)) (fun _ i => 2 - (intOf i).toNat)
  case atStart => exact ⟨0, rfl, Nat.zero_le _, rfl⟩
  case round =>
    obtain ⟨j, rfl, hj, rfl⟩ := hrel
    have q0 := C0.out
    have q1 := C1.out
    have hs : catS a b j ≤ 1000000 := by unfold catS; split <;> (try split) <;> omega
    by_cases j0 : j = 0
    · subst j0
      have hst : (catS a b 1 : Nat) = a.length := rfl
      go_wp2_with fail
      go_round
      case rel => exact ⟨1, rfl, by omega, by simp [catS]⟩
      case measure => simp [intOf]
    · by_cases j1 : j = 1
      · subst j1
        have hlt : decide ((a.length : Int) + (b.length : Int) < 0) = false := by simp only [decide_eq_false_iff_not]; omega
        have hst : (catS a b 1 : Nat) = a.length := rfl
        rw [hst]
        go_wp2_with fail
        go_round
        case rel => exact ⟨2, rfl, by omega, by simp [catS]⟩
        case measure => simp [intOf]
      · obtain rfl : j = 2 := by omega
        have hst : (catS a b 2 : Nat) = a.length + b.length := rfl
        rw [hst]
        go_wp2_with fail
        refine (grow_nil (a.length + b.length) _ HN.out (by have := HL.out; omega)).mono ?_
        rintro _ w1 ⟨v1, rfl, ho, hf⟩
        have HO := hid ho
        have HF := hid hf
        clear ho hf
        have q0 := HF.out.cell C0.out (fun h => h)
        have q1 := HF.out.cell C1.out (fun h => h)
        have hbw : w.heap.size ≤ w1.heap.size := HF.out.size
        go_wp2_with fail
        go_loopw [6, 27] (fun s i wr => ∃ j : Nat, i = .int .i64 j ∧ j ≤ 2 ∧ Hid (wr.ownsRow w.heap.size 3 1 s (catL a b j).length (intVs (catL a b j))) ∧ Hid (Fresh w wr)) (fun _ i _ => 2 - (intOf i).toNat)
        case atStart => exact ⟨0, rfl, Nat.zero_le _, HO.out, HF.out⟩
        case round =>
          obtain ⟨j, rfl, hj, HO2, HF2⟩ := hrel
          have q0 := HF2.out.cell C0.out (fun h => h)
          have q1 := HF2.out.cell C1.out (fun h => h)
          have hbw : w.heap.size ≤ wr.heap.size := HF2.out.size
          by_cases j0 : j = 0
          · subst j0
            have HO3 := hid (show wr.ownsRow w.heap.size 3 1 u6 0 [] from HO2.out)
            go_wp2_with (at_builtin; refine wpList_append_src _ rfl (.tmp 31) (.tmp 32) 31 rfl w.heap.size 3 i _ 1 8 rfl hi hz0 hz1 hz2 rfl (by decide) u6 0 [] (by simp [Act.eval]) HO3.out (.slice A a.length cap) a.length (intVs a) (by simp [Act.eval]) ((Src.of_ints HA.out).fresh HF2.out) (intVs_one a) (by have := HL.out; unfold maxLen; omega) (by have := HL.out; omega) hbw ?_; intro v' w' ho hg _; have HO4 := hid ho; have HG := hid hg; clear ho hg)
            go_roundw
            case rel => exact ⟨1, rfl, by omega, by have := HO4.out; rwa [Nat.zero_add, List.nil_append] at this, touch_grown HF2.out HO3.out (Nat.le_refl _) HG.out⟩
            case measure => simp [intOf]
          · by_cases j1 : j = 1
            · subst j1
              have HO3 := hid (show wr.ownsRow w.heap.size 3 1 u6 a.length (intVs a) from HO2.out)
              go_wp2_with (at_builtin; refine wpList_append_src _ rfl (.tmp 31) (.tmp 32) 31 rfl w.heap.size 3 i _ 1 8 rfl hi hz0 hz1 hz2 rfl (by decide) u6 a.length (intVs a) (by simp [Act.eval]) HO3.out (.slice B b.length cbp) b.length (intVs b) (by simp [Act.eval]) ((Src.of_ints HB.out).fresh HF2.out) (intVs_one b) (by have := HL.out; unfold maxLen; omega) (by have := HL.out; omega) hbw ?_; intro v' w' ho hg _; have HO4 := hid ho; have HG := hid hg; clear ho hg)
              go_roundw
              case rel => exact ⟨2, rfl, by omega, by have := HO4.out; rw [← List.map_append, ← List.length_append] at this; exact this, touch_grown HF2.out HO3.out (Nat.le_refl _) HG.out⟩
              case measure => simp [intOf]
            · obtain rfl : j = 2 := by omega
              have HO3 := hid (show wr.ownsRow w.heap.size 3 1 u6 (a ++ b).length (intVs (a ++ b)) from HO2.out)
              go_wp2_with fail
              go_ret
              exact ⟨_, rfl, HO3.out, HF2.out⟩
end Go.Proofs.Ytdacpbdamliafaa

/- The lexer of layer 18 as plain functions on lists of bytes: no program in sight. -/
namespace Go.Proofs.Ytdacpbdamliafaa.Lx

abbrev Bytes := List UInt8

/-- The classes of characters. -/
def cls (c : Nat) : Nat :=
  if c = 32 ∨ c = 9 ∨ c = 10 then 1
  else if 48 ≤ c ∧ c ≤ 57 then 2
  else if (97 ≤ c ∧ c ≤ 122) ∨ (65 ≤ c ∧ c ≤ 90) then 3
  else if c ∈ [43, 45, 42, 47, 61, 60, 62, 44, 59, 58, 33, 124, 39, 63, 126, 64] then 4
  else if c ∈ [123, 125, 40, 41, 91, 93, 94, 95, 38] then 5
  else 0

def isB (k : Nat) (b : UInt8) : Bool := cls b.toNat == k
/-- How many bytes of a class a list begins with. -/
def runLen (k : Nat) (l : Bytes) : Nat := (l.takeWhile (isB k)).length
/-- Is the byte with an index of a class? -/
def isAt (k : Nat) (l : Bytes) (i : Nat) : Bool := match l[i]? with | some b => isB k b | none => false

/-- The class of the byte with an index, -1 behind the end. -/
def clsI (l : Bytes) (i : Nat) : Int := match l[i]? with | some b => (cls b.toNat : Int) | none => -1
theorem clsI_lt (l : Bytes) (i : Nat) (h : i < l.length) : clsI l i = (cls l[i].toNat : Int) := by simp [clsI, List.getElem?_eq_getElem h]
theorem clsI_ge (l : Bytes) (i : Nat) (h : l.length ≤ i) : clsI l i = -1 := by simp [clsI, List.getElem?_eq_none h]

/-- How many bytes of a class there are from an index on. -/
def runI (c : Int) (l : Bytes) (k : Nat) : Nat := ((l.drop k).takeWhile fun b => (cls b.toNat : Int) == c).length
theorem runI_yes (c : Int) (l : Bytes) (k : Nat) (hc : 0 ≤ c) (h : clsI l k = c) : k < l.length ∧ k + 1 + runI c l (k + 1) = k + runI c l k := by
  rcases Nat.lt_or_ge k l.length with hk | hk
  · refine ⟨hk, ?_⟩
    rw [clsI_lt l k hk] at h
    unfold runI
    rw [List.drop_eq_getElem_cons hk, List.takeWhile_cons]
    simp only [h, BEq.rfl, ↓reduceIte, List.length_cons]
    omega
  · rw [clsI_ge l k hk] at h; omega
theorem runI_no (c : Int) (l : Bytes) (k : Nat) (h : clsI l k ≠ c) : runI c l k = 0 := by
  unfold runI
  rcases Nat.lt_or_ge k l.length with hk | hk
  · rw [List.drop_eq_getElem_cons hk, List.takeWhile_cons]
    rw [clsI_lt l k hk] at h
    simp [h]
  · rw [List.drop_eq_nil_of_le hk]; rfl
theorem runI_le (c : Int) (l : Bytes) (k : Nat) : runI c l k ≤ l.length - k := by
  unfold runI
  have := (List.takeWhile_sublist (fun b : UInt8 => (cls b.toNat : Int) == c) (l := l.drop k)).length_le
  rwa [List.length_drop] at this

structure Tok where
  kind : Nat
  text : Bytes
  deriving DecidableEq

/-- What is read at a place: a token with its length, or an error with its place behind the beginning. -/
inductive Res where
  | ok (t : Tok) (n : Nat)
  | err (at_ e : Nat)
  deriving DecidableEq

def lim (most : Nat) (t : Tok) (n : Nat) : Res := if most < t.text.length then .err 0 6 else .ok t n

def numLen (r : Bytes) : Nat :=
  if r[runLen 2 r]? = some 46 ∧ isAt 2 r (runLen 2 r + 1) = true then runLen 2 r + 1 + runLen 2 (r.drop (runLen 2 r + 1)) else runLen 2 r

def number (r : Bytes) : Res := lim 20 ⟨2, r.take (numLen r)⟩ (numLen r)

/-- The rest of a quoted text: what has been read, and how many bytes. -/
def quo : Bytes → Bytes → Nat → Res
  | [], _, _ => .err 0 12
  | c :: q, acc, i =>
    if c = 34 then lim 200 ⟨3, acc⟩ (i + 1)
    else if c < 32 ∨ 126 < c then .err i 3
    else if c = 92 then
      match q with
      | [] => .err i 3
      | d :: q' => if d = 34 ∨ d = 92 then quo q' (acc ++ [d]) (i + 2) else .err i 3
    else quo q (acc ++ [c]) (i + 1)

def isDelim (b : UInt8) : Bool := [40, 41, 91, 93, 123, 125, 60, 62, 47, 124, 46].contains b
def delimAt (r : Bytes) (i : Nat) : Bool := match r[i]? with | some b => isDelim b | none => false

def name (r : Bytes) : Res :=
  let n := runLen 3 (r.drop 1)
  if (r.drop 1).take n ≠ [102, 101, 110, 99, 101] then lim 16 ⟨4, (r.drop 1).take n⟩ (1 + n)
  else if delimAt r (1 + n) = true ∧ delimAt r (2 + n) = true then .ok ⟨5, (r.drop (1 + n)).take 2⟩ (3 + n)
  else .err 0 3

def parAt (q : Bytes) : Bool := match q with | d :: _ => decide (49 ≤ d ∧ d ≤ 52) | [] => false

/-- The token that a text begins with. -/
def next (r : Bytes) : Res :=
  match r with
  | [] => .err 0 3
  | c :: q =>
    if isB 2 c then number r
    else if isB 5 c then .ok ⟨7, [c]⟩ 1
    else if c = 34 then quo q [] 1
    else if c = 92 ∧ q.head? = some 92 then .ok ⟨8, [92, 92]⟩ 2
    else if c = 92 ∧ isAt 3 q 0 = true then name r
    else if c = 35 ∧ parAt q = true then .ok ⟨6, q.take 1⟩ 2
    else if isB 3 c ∨ isB 4 c then .ok ⟨1, [c]⟩ 1
    else .err 0 3


theorem quo_end (l acc : Bytes) (j i : Nat) (h : l.length ≤ j) : quo (l.drop j) acc i = .err 0 12 := by rw [List.drop_eq_nil_of_le h]; rfl
theorem quo_cons (l acc : Bytes) (j i : Nat) (h : j < l.length) : quo (l.drop j) acc i =
    if l[j] = 34 then lim 200 ⟨3, acc⟩ (i + 1)
    else if l[j] < 32 ∨ 126 < l[j] then .err i 3
    else if l[j] = 92 then
      match l.drop (j + 1) with
      | [] => .err i 3
      | d :: q' => if d = 34 ∨ d = 92 then quo q' (acc ++ [d]) (i + 2) else .err i 3
    else quo (l.drop (j + 1)) (acc ++ [l[j]]) (i + 1) := by
  rw [List.drop_eq_getElem_cons h]
  rw [quo.eq_def]
theorem quo_esc (l acc : Bytes) (j i : Nat) (h : j < l.length) (hc : l[j] = 92) (h1 : j + 1 < l.length) : quo (l.drop j) acc i =
    if l[j + 1] = 34 ∨ l[j + 1] = 92 then quo (l.drop (j + 2)) (acc ++ [l[j + 1]]) (i + 2) else .err i 3 := by
  rw [quo_cons l acc j i h, hc, if_neg (by decide), if_neg (by decide), if_pos rfl, List.drop_eq_getElem_cons h1]
theorem quo_esc_end (l acc : Bytes) (j i : Nat) (h : j < l.length) (hc : l[j] = 92) (h1 : l.length ≤ j + 1) : quo (l.drop j) acc i = .err i 3 := by
  rw [quo_cons l acc j i h, hc, if_neg (by decide), if_neg (by decide), if_pos rfl, List.drop_eq_nil_of_le h1]
theorem quo_plain (l acc : Bytes) (j i : Nat) (h : j < l.length) (h1 : l[j] ≠ 34) (h2 : ¬ (l[j] < 32 ∨ 126 < l[j])) (h3 : l[j] ≠ 92) : quo (l.drop j) acc i = quo (l.drop (j + 1)) (acc ++ [l[j]]) (i + 1) := by
  rw [quo_cons l acc j i h, if_neg h1, if_neg h2, if_neg h3]


/-- A token with its place. -/
structure PTok where
  kind : Nat
  text : Bytes
  from_ : Nat
  to_ : Nat
  deriving DecidableEq

def skip (l : Bytes) (a : Nat) : Nat := a + runI 1 l a

/-- The tokens from an offset on, and the error that ends them, if there is one. -/
def lexGo (l : Bytes) : Nat → Nat → List PTok × Option (Nat × Nat)
  | 0, _ => ([], none)
  | fuel + 1, a =>
    if l.length ≤ skip l a then ([], none)
    else match next (l.drop (skip l a)) with
      | .err i e => ([], some (skip l a + i, e))
      | .ok t n => (⟨t.kind, t.text, skip l a, skip l a + n⟩ :: (lexGo l fuel (skip l a + n)).1, (lexGo l fuel (skip l a + n)).2)

theorem lim_ok {most : Nat} {t t' : Tok} {n n' : Nat} (h : lim most t n = .ok t' n') : t' = t ∧ n' = n := by
  unfold lim at h
  split at h
  · cases h
  · injection h with h1 h2; exact ⟨h1.symm, h2.symm⟩

theorem quo_pos : ∀ (q acc : Bytes) (i : Nat) (t : Tok) (n : Nat), quo q acc i = .ok t n → i < n ∧ n ≤ i + q.length
  | [], _, _, _, _, h => by rw [quo.eq_def] at h; cases h
  | [c], acc, i, t, n, h => by
    rw [quo.eq_def] at h
    simp only at h
    split at h
    · have := (lim_ok h).2; simp; omega
    · split at h
      · cases h
      · split at h
        · cases h
        · rw [quo.eq_def] at h; cases h
  | c :: d :: q, acc, i, t, n, h => by
    rw [quo.eq_def] at h
    simp only at h
    split at h
    · have := (lim_ok h).2; simp; omega
    · split at h
      · cases h
      · split at h
        · split at h
          · have := quo_pos q _ _ _ _ h; simp; omega
          · cases h
        · have := quo_pos (d :: q) _ _ _ _ h; simp at this ⊢; omega

theorem runLen_le (k : Nat) (l : Bytes) : runLen k l ≤ l.length := (List.takeWhile_sublist _).length_le

theorem numLen_le (r : Bytes) : numLen r ≤ r.length := by
  unfold numLen
  split
  · rename_i h
    have h1 := runLen_le 2 (r.drop (runLen 2 r + 1))
    rw [List.length_drop] at h1
    have h2 := h.1
    have h3 : runLen 2 r < r.length := (List.getElem?_eq_some_iff.1 h2).1
    omega
  · exact runLen_le 2 r

theorem next_pos (r : Bytes) (t : Tok) (n : Nat) (h : next r = .ok t n) : 0 < n ∧ n ≤ r.length := by
  unfold next at h
  split at h
  · cases h
  · rename_i c q
    split at h
    · rename_i hc
      obtain ⟨_, rfl⟩ := lim_ok h
      refine ⟨?_, numLen_le _⟩
      have : 0 < runLen 2 (c :: q) := by unfold runLen; rw [List.takeWhile_cons, if_pos hc]; simp
      unfold numLen
      split <;> omega
    · split at h
      · cases h; simp
      · split at h
        · have := quo_pos _ _ _ _ _ h; simp; omega
        · split at h
          · rename_i hc
            cases h
            cases q with
            | nil => cases hc.2
            | cons => simp
          · split at h
            · unfold name at h
              simp only at h
              have hr := runLen_le 3 ((c :: q).drop 1)
              simp only [List.drop_succ_cons, List.drop_zero] at hr
              split at h
              · obtain ⟨_, rfl⟩ := lim_ok h
                simp only [List.drop_succ_cons, List.drop_zero, List.length_cons]; omega
              · split at h
                · rename_i hd
                  injection h with _ h2
                  subst h2
                  have hx := hd.2
                  unfold delimAt at hx
                  split at hx
                  · rename_i b hb
                    have := (List.getElem?_eq_some_iff.1 hb).1
                    simp only [List.drop_succ_cons, List.drop_zero, List.length_cons] at *
                    omega
                  · cases hx
                · cases h
            · split at h
              · rename_i hc
                cases h
                cases q with
                | nil => cases hc.2
                | cons => simp
              · split at h
                · cases h; simp
                · cases h

theorem skip_le (l : Bytes) (a : Nat) (h : a ≤ l.length) : a ≤ skip l a ∧ skip l a ≤ l.length := by
  have := runI_le 1 l a
  unfold skip; omega

/-- Any fuel that is great enough does. -/
theorem lexGo_fuel (l : Bytes) : ∀ (f g a : Nat), l.length < a + f → l.length < a + g → lexGo l f a = lexGo l g a
  | 0, g, a, hf, hg => by
    cases g with
    | zero => rfl
    | succ g => rw [lexGo, lexGo, if_pos (by unfold skip; omega)]
  | f + 1, 0, a, hf, hg => by rw [lexGo, lexGo, if_pos (by unfold skip; omega)]
  | f + 1, g + 1, a, hf, hg => by
    rw [lexGo, lexGo]
    split
    · rfl
    · rename_i hl
      cases hn : next (l.drop (skip l a)) with
      | err i e => rfl
      | ok t n =>
        have hp := (next_pos _ _ _ hn).1
        have : skip l a + n = skip l a + n := rfl
        simp only
        rw [lexGo_fuel l f g (skip l a + n) (by unfold skip; omega) (by unfold skip; omega)]

/-- All tokens of a text, and the error that ends them. -/
def lexAll (l : Bytes) : List PTok × Option (Nat × Nat) := lexGo l (l.length + 1) 0
/-- The tokens from an offset on. -/
def lexFrom (l : Bytes) (a : Nat) : List PTok × Option (Nat × Nat) := lexGo l (l.length + 1) a
theorem lexFrom_end (l : Bytes) (a : Nat) (h : l.length ≤ skip l a) : lexFrom l a = ([], none) := by unfold lexFrom; rw [lexGo, if_pos h]
theorem lexFrom_err (l : Bytes) (a i e : Nat) (h : skip l a < l.length) (hn : next (l.drop (skip l a)) = .err i e) : lexFrom l a = ([], some (skip l a + i, e)) := by
  unfold lexFrom; rw [lexGo, if_neg (by omega), hn]
theorem lexFrom_ok (l : Bytes) (a n : Nat) (t : Tok) (h : skip l a < l.length) (hn : next (l.drop (skip l a)) = .ok t n) :
    lexFrom l a = (⟨t.kind, t.text, skip l a, skip l a + n⟩ :: (lexFrom l (skip l a + n)).1, (lexFrom l (skip l a + n)).2) := by
  have hp := (next_pos _ _ _ hn).1
  unfold lexFrom
  conv => lhs; rw [lexGo, if_neg (by omega), hn]
  simp only
  rw [lexGo_fuel l l.length (l.length + 1) (skip l a + n) (by unfold skip; omega) (by omega)]


theorem lim_err {most : Nat} {t : Tok} {n i e : Nat} (h : lim most t n = .err i e) : e ≠ 0 := by
  unfold lim at h
  split at h
  · cases h; decide
  · cases h

theorem quo_err : ∀ (q acc : Bytes) (i a e : Nat), quo q acc i = .err a e → e ≠ 0
  | [], _, _, _, _, h => by rw [quo.eq_def] at h; cases h; decide
  | [c], acc, i, a, e, h => by
    rw [quo.eq_def] at h
    simp only at h
    split at h
    · exact lim_err h
    · split at h
      · cases h; decide
      · split at h
        · cases h; decide
        · rw [quo.eq_def] at h; cases h; decide
  | c :: d :: q, acc, i, a, e, h => by
    rw [quo.eq_def] at h
    simp only at h
    split at h
    · exact lim_err h
    · split at h
      · cases h; decide
      · split at h
        · split at h
          · exact quo_err q _ _ _ _ h
          · cases h; decide
        · exact quo_err (d :: q) _ _ _ _ h

theorem next_err (r : Bytes) (i e : Nat) (h : next r = .err i e) : e ≠ 0 := by
  unfold next at h
  split at h
  · cases h; decide
  · split at h
    · exact lim_err h
    · split at h
      · cases h
      · split at h
        · exact quo_err _ _ _ _ _ h
        · split at h
          · cases h
          · split at h
            · unfold name at h
              simp only at h
              split at h
              · exact lim_err h
              · split at h
                · cases h
                · cases h; decide
            · split at h
              · cases h
              · split at h
                · cases h
                · cases h; decide

theorem lexGo_err (l : Bytes) : ∀ (f a p e : Nat), (lexGo l f a).2 = some (p, e) → e ≠ 0
  | 0, _, _, _, h => by cases h
  | f + 1, a, p, e, h => by
    rw [lexGo] at h
    split at h
    · cases h
    · cases hn : next (l.drop (skip l a)) with
      | err i er =>
        rw [hn] at h
        simp only [Option.some.injEq, Prod.mk.injEq] at h
        obtain ⟨_, rfl⟩ := h
        exact next_err _ _ _ hn
      | ok t n =>
        rw [hn] at h
        exact lexGo_err l f _ p e h

end Go.Proofs.Ytdacpbdamliafaa.Lx

/- Formula trees as plain data, and when they are valid: no program in sight. -/
namespace Go.Proofs.Ytdacpbdamliafaa.Tr

abbrev Bytes := List UInt8

inductive Nd where
  | mk (kind : Int) (text : Bytes) (cols : Int) (kids : List Nd)

namespace Nd
def kind : Nd → Int | mk k _ _ _ => k
def text : Nd → Bytes | mk _ t _ _ => t
def cols : Nd → Int | mk _ _ c _ => c
def kids : Nd → List Nd | mk _ _ _ ks => ks
end Nd
theorem Nd.eta (n : Nd) : n = .mk n.kind n.text n.cols n.kids := by cases n; rfl

mutual
/-- The number of nodes. -/
def count : Nd → Nat
  | .mk _ _ _ ks => 1 + countL ks
def countL : List Nd → Nat
  | [] => 0
  | n :: ns => count n + countL ns
end
mutual
/-- The greatest number of nodes on a path. -/
def depth : Nd → Nat
  | .mk _ _ _ ks => depthL ks + 1
def depthL : List Nd → Nat
  | [] => 0
  | n :: ns => max (depth n) (depthL ns)
end

theorem count_pos (n : Nd) : 0 < count n := by cases n; rw [count]; omega
theorem depth_pos (n : Nd) : 0 < depth n := by cases n; rw [depth]; omega
theorem count_kids (n : Nd) : count n = 1 + countL n.kids := by cases n; rw [count]; rfl
theorem depth_kids (n : Nd) : depth n = depthL n.kids + 1 := by cases n; rw [depth]; rfl
theorem countL_take (l : List Nd) (i : Nat) (h : i < l.length) : countL (l.take (i + 1)) = countL (l.take i) + count l[i] := by
  induction l generalizing i with
  | nil => simp at h
  | cons x l ih =>
    cases i with
    | zero => simp [countL]
    | succ i =>
      simp only [List.take_succ_cons, countL, List.getElem_cons_succ]
      rw [ih i (by simpa using h)]; omega
theorem countL_le (l : List Nd) (i : Nat) : countL (l.take i) ≤ countL l := by
  induction l generalizing i with
  | nil => simp [countL]
  | cons x l ih =>
    cases i with
    | zero => simp [countL]
    | succ i => simp only [List.take_succ_cons, countL]; have := ih i; omega
theorem count_mem {l : List Nd} {n : Nd} (h : n ∈ l) : count n ≤ countL l := by
  induction l with
  | nil => cases h
  | cons x l ih =>
    rw [countL]
    rcases List.mem_cons.1 h with rfl | h
    · omega
    · have := ih h; omega
theorem countL_len (l : List Nd) : l.length ≤ countL l := by
  induction l with
  | nil => simp [countL]
  | cons x l ih => rw [countL]; have := count_pos x; simp; omega

/-- An induction on trees through their kids. -/
theorem Nd.ind {p : Nd → Prop} (h : ∀ n, (∀ m ∈ n.kids, p m) → p n) (n : Nd) : p n := by
  have : ∀ k n, count n ≤ k → p n := by
    intro k
    induction k with
    | zero => intro n hn; have := count_pos n; omega
    | succ k ih =>
      intro n hn
      refine h n fun m hm => ih m ?_
      have := count_mem hm
      have := count_kids n
      omega
  exact this _ n (Nat.le_refl _)

def letter (b : UInt8) : Bool := (decide (97 ≤ b) && decide (b ≤ 122)) || (decide (65 ≤ b) && decide (b ≤ 90))
def digit (b : UInt8) : Bool := decide (48 ≤ b) && decide (b ≤ 57)
def signs : Bytes := [43, 45, 42, 47, 61, 60, 62, 44, 59, 58, 33, 124, 39, 63, 126, 64]
def delims : Bytes := [40, 41, 91, 93, 123, 125, 124, 60, 62, 47, 46]
def keywords : List Bytes := [[102, 114, 97, 99], [114, 111, 111, 116], [109, 97, 116, 114, 105, 120], [102, 101, 110, 99, 101]]
def accents : List Bytes := [[104, 97, 116], [98, 97, 114], [118, 101, 99], [100, 111, 116], [116, 105, 108, 100, 101], [99, 104, 101, 99, 107]]
def character (b : UInt8) : Bool := letter b || signs.contains b
def symbol (s : Bytes) : Bool :=
  match s with
  | [c] => character c
  | s => s.all letter && decide (2 ≤ s.length) && decide (s.length ≤ 16) && !keywords.contains s && !accents.contains s
def isNum (s : Bytes) : Bool :=
  decide (s.length ≤ 20) && decide (s ≠ []) &&
  (s.all digit || match s.dropWhile (· ≠ 46) with | _ :: b => decide (s.takeWhile (· ≠ 46) ≠ []) && (s.takeWhile (· ≠ 46)).all digit && decide (b ≠ []) && b.all digit | [] => false)
def printable (s : Bytes) : Bool := s.all fun b => decide (32 ≤ b) && decide (b ≤ 126)
def fence (s : Bytes) : Bool := match s with | [a, b] => delims.contains a && delims.contains b | _ => false

/-- Does the text of a node conform to its kind? -/
def textOK (k : Int) (s : Bytes) : Bool :=
  if k = 2 then symbol s else if k = 3 then isNum s else if k = 4 then decide (s.length ≤ 200) && printable s
  else if k = 10 then accents.contains s else if k = 11 then fence s else s.isEmpty
/-- Do the columns and the number of kids of a node conform to its kind? -/
def kidsOK (k c : Int) (n : Nat) : Bool :=
  if k = 12 then decide (1 ≤ c) && decide (c ≤ 16) && decide (1 ≤ n) && decide (n ≤ 256) && decide ((n : Int) % c = 0)
  else if c ≠ 0 then false
  else if k = 1 then decide (n ≤ 200)
  else if k = 2 ∨ k = 3 ∨ k = 4 then decide (n = 0)
  else if k = 5 ∨ k = 6 ∨ k = 7 ∨ k = 8 then decide (n = 2)
  else if k = 9 then decide (n = 3)
  else if k = 10 ∨ k = 11 then decide (n = 1)
  else false

mutual
def form : Nd → Bool
  | .mk k t c ks => textOK k t && kidsOK k c ks.length && formL (k == 1) ks
def formL : Bool → List Nd → Bool
  | _, [] => true
  | r, n :: ns => ((n.kind == 1) != r) && form n && formL r ns
end
def valid (n : Nd) : Bool := (n.kind == 1) && form n && decide (count n ≤ 1000) && decide (depth n ≤ 24)

mutual
def eqN : Nd → Nd → Bool
  | .mk k t c ks, .mk k' t' c' ks' => (k == k') && (t == t') && (c == c') && eqL ks ks'
def eqL : List Nd → List Nd → Bool
  | [], [] => true
  | n :: ns, m :: ms => eqN n m && eqL ns ms
  | _, _ => false
end
theorem eqL_len : ∀ (l m : List Nd), l.length ≠ m.length → eqL l m = false
  | [], [], h => absurd rfl h
  | x :: l, y :: m, h => by rw [eqL, eqL_len l m (by simpa using h), Bool.and_false]
  | [], _ :: _, _ => by simp [eqL]
  | _ :: _, [], _ => by simp [eqL]

theorem form_eq (n : Nd) : form n = (textOK n.kind n.text && kidsOK n.kind n.cols n.kids.length && formL (n.kind == 1) n.kids) := by
  cases n; rw [form]; rfl
theorem formL_take (r : Bool) : ∀ (l : List Nd) (i : Nat) (h : i < l.length), formL r (l.take (i + 1)) = (formL r (l.take i) && (((l[i].kind == 1) != r) && form l[i]))
  | [], i, h => by simp at h
  | x :: l, 0, h => by simp [formL]
  | x :: l, i + 1, h => by
    simp only [List.take_succ_cons, formL, List.getElem_cons_succ]
    rw [formL_take r l i (by simpa using h)]
    simp only [Bool.and_assoc]
theorem formL_no (r : Bool) : ∀ (l : List Nd) (i : Nat) (h : i < l.length), (((l[i].kind == 1) != r) && form l[i]) = false → formL r l = false
  | [], i, h, _ => by simp at h
  | x :: l, 0, h, hn => by simp only [List.getElem_cons_zero] at hn; rw [formL, hn, Bool.false_and]
  | x :: l, i + 1, h, hn => by
    simp only [List.getElem_cons_succ] at hn
    rw [formL, formL_no r l i (by simpa using h) hn, Bool.and_false]
theorem eqN_eq (n m : Nd) : eqN n m = ((n.kind == m.kind) && (n.text == m.text) && (n.cols == m.cols) && eqL n.kids m.kids) := by
  cases n; cases m; rw [eqN]; rfl
theorem eqN_iff (n : Nd) : ∀ m, eqN n m = true ↔ n = m := by
  induction n using Nd.ind with
  | h n ih =>
    intro m
    have hL : ∀ (l l' : List Nd), (∀ x ∈ l, ∀ y, eqN x y = true ↔ x = y) → (eqL l l' = true ↔ l = l') := by
      intro l
      induction l with
      | nil =>
        intro l' _
        cases l' with
        | nil => simp [eqL]
        | cons y l' => simp [eqL]
      | cons x l ih2 =>
        intro l' h
        cases l' with
        | nil => simp [eqL]
        | cons y l' =>
          rw [eqL, Bool.and_eq_true, h x (by simp) y, ih2 l' (fun z hz => h z (by simp [hz]))]
          simp
    rw [eqN_eq, Bool.and_eq_true, Bool.and_eq_true, Bool.and_eq_true, hL n.kids m.kids ih, beq_iff_eq, beq_iff_eq, beq_iff_eq, Nd.eta n, Nd.eta m]
    simp [Nd.kind, Nd.text, Nd.cols, Nd.kids, and_assoc]
end Go.Proofs.Ytdacpbdamliafaa.Tr

/- The spelling of tokens as a plain function. -/
namespace Go.Proofs.Ytdacpbdamliafaa.Lx

def escB (b : UInt8) : Bytes := if b = 34 ∨ b = 92 then [92, b] else [b]
def esc (l : Bytes) : Bytes := l.flatMap escB
def quoteL (l : Bytes) : Bytes := 34 :: (esc l ++ [34])
def spellL (k : Int) (t : Bytes) : Bytes :=
  if k = 3 then quoteL t else if k = 4 then 92 :: t else if k = 5 then [92, 102, 101, 110, 99, 101] ++ t else if k = 6 then 35 :: t else t
theorem esc_len (l : Bytes) : (esc l).length ≤ 2 * l.length := by
  induction l with
  | nil => simp [esc]
  | cons b l ih =>
    have : (escB b).length ≤ 2 := by unfold escB; split <;> simp
    simp [esc] at ih ⊢; omega
theorem esc_snoc (l : Bytes) (b : UInt8) : esc (l ++ [b]) = esc l ++ escB b := by simp [esc]
end Go.Proofs.Ytdacpbdamliafaa.Lx

/- The plain law of the places of tokens. -/
namespace Go.Proofs.Ytdacpbdamliafaa.Lx

/-- Tokens that stand in order from an offset on, each with its spelling at its place, with nothing but blanks around them. -/
def okFrom (l : Bytes) : Nat → List PTok → Prop
  | a, [] => a ≤ l.length ∧ (l.drop a).all (isB 1) = true
  | a, t :: ts => a ≤ t.from_ ∧ t.from_ < t.to_ ∧ t.to_ ≤ l.length ∧ ((l.drop a).take (t.from_ - a)).all (isB 1) = true ∧ (l.drop t.from_).take (t.to_ - t.from_) = spellL t.kind t.text ∧ okFrom l t.to_ ts

theorem spellL_len (k : Int) (t : Bytes) : t.length ≤ (spellL k t).length := by
  have he : ∀ l : Bytes, l.length ≤ (esc l).length := fun l => by
    induction l with
    | nil => simp
    | cons b l ih =>
      have : 1 ≤ (escB b).length := by unfold escB; split <;> simp
      simp [esc] at ih ⊢; omega
  unfold spellL
  have := he t
  repeat' split
  · simp [quoteL]; omega
  · simp
  · simp; omega
  · simp
  · exact Nat.le_refl _

theorem lim_as {most : Nat} {t t' : Tok} {n n' : Nat} (h : lim most t n = .ok t' n') : t = t' ∧ n = n' := by
  obtain ⟨h1, h2⟩ := lim_ok h
  exact ⟨h1.symm, h2.symm⟩

theorem quo_spell : ∀ (q acc : Bytes) (i : Nat) (t : Tok) (n : Nat), quo q acc i = .ok t n → t.kind = 3 ∧ ∃ x, t.text = acc ++ x ∧ i < n ∧ q.take (n - i) = esc x ++ [34]
  | [], acc, i, t, n, h => by simp [quo] at h
  | c :: q, acc, i, t, n, h => by
    unfold quo at h
    split at h
    · rename_i hc
      obtain ⟨h1, h2⟩ := lim_as h
      subst h1 h2 hc
      exact ⟨rfl, [], by simp, by omega, by simp [esc]⟩
    · rename_i hc
      split at h
      · cases h
      · split at h
        · rename_i hc2
          subst hc2
          cases q with
          | nil => simp at h
          | cons d q' =>
            simp only at h
            split at h
            · rename_i hd
              obtain ⟨h1, x, h2, h3, h4⟩ := quo_spell q' _ _ t n h
              refine ⟨h1, d :: x, by rw [h2]; simp, by omega, ?_⟩
              have e1 : n - i = (n - (i + 2)) + 1 + 1 := by omega
              rw [e1, List.take_succ_cons, List.take_succ_cons, h4]
              have : escB d = [92, d] := by unfold escB; rw [if_pos hd]
              simp [esc, this]
            · cases h
        · rename_i hc2
          obtain ⟨h1, x, h2, h3, h4⟩ := quo_spell q _ _ t n h
          refine ⟨h1, c :: x, by rw [h2]; simp, by omega, ?_⟩
          have e1 : n - i = (n - (i + 1)) + 1 := by omega
          rw [e1, List.take_succ_cons, h4]
          have : escB c = [c] := by unfold escB; rw [if_neg (by rintro (h | h) <;> contradiction)]
          simp [esc, this]

theorem next_spell (r : Bytes) (t : Tok) (n : Nat) (h : next r = .ok t n) : r.take n = spellL t.kind t.text := by
  cases r with
  | nil => simp [next] at h
  | cons c q =>
    rw [next] at h
    split at h
    · obtain ⟨h1, h2⟩ := lim_as h
      subst h1 h2; rfl
    · split at h
      · cases h; rfl
      · split at h
        · rename_i hc
          obtain ⟨h1, x, h2, h3, h4⟩ := quo_spell q [] 1 t n h
          have e1 : n = (n - 1) + 1 := by omega
          rw [e1, List.take_succ_cons, h4, h1, h2, hc]
          simp [spellL, quoteL]
        · split at h
          · rename_i hc
            obtain ⟨h1, h2⟩ := hc
            cases h
            cases q with
            | nil => simp at h2
            | cons d q' => simp at h2; subst h1 h2; rfl
          · split at h
            · rename_i hc
              obtain ⟨hc, _⟩ := hc
              subst hc
              unfold name at h
              simp only [List.drop_succ_cons, List.drop_zero] at h
              split at h
              · obtain ⟨h1, h2⟩ := lim_as h
                subst h1 h2
                rw [Nat.add_comm 1, List.take_succ_cons]; rfl
              · rename_i hf
                simp only [ne_eq, Decidable.not_not] at hf
                split at h
                · cases h
                  rw [show 3 + runLen 3 q = (runLen 3 q + 2) + 1 by omega, List.take_succ_cons, List.take_add, hf, Nat.add_comm 1, List.drop_succ_cons]
                  rfl
                · cases h
            · split at h
              · rename_i hc
                obtain ⟨h1, _⟩ := hc
                cases h
                subst h1
                rfl
              · split at h
                · cases h; rfl
                · cases h

theorem skip_blank (l : Bytes) (a : Nat) : ((l.drop a).take (skip l a - a)).all (isB 1) = true := by
  have : skip l a - a = ((l.drop a).takeWhile (fun b => (cls b.toNat : Int) == 1)).length := by unfold skip runI; omega
  rw [this]
  have hp : (fun b : UInt8 => (cls b.toNat : Int) == 1) = isB 1 := by
    funext b
    unfold isB
    rw [Bool.eq_iff_iff, beq_iff_eq, beq_iff_eq]
    omega
  rw [hp]
  generalize l.drop a = m
  induction m with
  | nil => rfl
  | cons b m ih =>
    rw [List.takeWhile_cons]
    split
    · rename_i hb; simp [hb, ih]
    · rfl

theorem lexGo_places (l : Bytes) : ∀ (f a : Nat), a ≤ l.length → l.length < a + f → (lexGo l f a).2 = none → okFrom l a (lexGo l f a).1
  | 0, a, h1, h2, _ => by omega
  | f + 1, a, h1, h2, h => by
    obtain ⟨s1, s2⟩ := skip_le l a h1
    have hb := skip_blank l a
    rw [lexGo] at h ⊢
    split at h
    · rename_i hs
      rw [if_pos hs]
      refine ⟨h1, ?_⟩
      have : skip l a = l.length := by omega
      rw [this, List.take_of_length_le (by simp)] at hb
      exact hb
    · rename_i hs
      rw [if_neg hs]
      cases hn : next (l.drop (skip l a)) with
      | err i e => rw [hn] at h; cases h
      | ok t n =>
        rw [hn] at h
        obtain ⟨n1, n2⟩ := next_pos _ _ _ hn
        rw [List.length_drop] at n2
        have := next_spell _ _ _ hn
        refine ⟨s1, by simp only; omega, by simp only; omega, hb, ?_, lexGo_places l f _ (by simp only; omega) (by simp only; omega) h⟩
        rw [show skip l a + n - skip l a = n by omega, this]

theorem lexGo_count (l : Bytes) : ∀ (f a : Nat), a ≤ l.length → (lexGo l f a).1.length + a ≤ l.length
  | 0, a, h1 => by simpa [lexGo] using h1
  | f + 1, a, h1 => by
    obtain ⟨s1, s2⟩ := skip_le l a h1
    rw [lexGo]
    split
    · simpa using h1
    · cases hn : next (l.drop (skip l a)) with
      | err i e => simpa using h1
      | ok t n =>
        obtain ⟨n1, n2⟩ := next_pos _ _ _ hn
        rw [List.length_drop] at n2
        have := lexGo_count l f (skip l a + n) (by omega)
        simp only [List.length_cons]; omega

theorem lexAll_places (l : Bytes) (h : (lexAll l).2 = none) : okFrom l 0 (lexAll l).1 := lexGo_places l _ _ (Nat.zero_le _) (by omega) h
theorem lexAll_count (l : Bytes) : (lexAll l).1.length ≤ l.length := lexGo_count l _ 0 (Nat.zero_le _)

theorem lim_err0 {most : Nat} {t : Tok} {n i e : Nat} (h : lim most t n = .err i e) : i = 0 := by
  unfold lim at h; split at h
  · cases h; rfl
  · cases h
theorem quo_err_le : ∀ (q acc : Bytes) (i a e : Nat), quo q acc i = .err a e → a ≤ i + q.length
  | [], acc, i, a, e, h => by simp [quo] at h; omega
  | c :: q, acc, i, a, e, h => by
    unfold quo at h
    split at h
    · have := lim_err0 h; omega
    · split at h
      · cases h; omega
      · split at h
        · cases q with
          | nil => simp at h; obtain ⟨h1, _⟩ := h; omega
          | cons d q' =>
            simp only at h
            split at h
            · have := quo_err_le q' _ _ a e h; simp only [List.length_cons]; omega
            · cases h; omega
        · have := quo_err_le q _ _ a e h; simp only [List.length_cons]; omega
theorem next_err_le (r : Bytes) (i e : Nat) (h : next r = .err i e) : i ≤ r.length := by
  cases r with
  | nil => simp [next] at h; omega
  | cons c q =>
    rw [next] at h
    split at h
    · have := lim_err0 h; omega
    · split at h
      · cases h
      · split at h
        · have := quo_err_le q [] 1 i e h; simp only [List.length_cons]; omega
        · split at h
          · cases h
          · split at h
            · unfold name at h
              simp only at h
              split at h
              · have := lim_err0 h; omega
              · split at h
                · cases h
                · cases h; omega
            · split at h
              · cases h
              · split at h
                · cases h
                · cases h; omega
theorem lexGo_err_le (l : Bytes) : ∀ (f a p e : Nat), a ≤ l.length → (lexGo l f a).2 = some (p, e) → p ≤ l.length
  | 0, a, p, e, _, h => by simp [lexGo] at h
  | f + 1, a, p, e, h1, h => by
    obtain ⟨s1, s2⟩ := skip_le l a h1
    rw [lexGo] at h
    split at h
    · cases h
    · cases hn : next (l.drop (skip l a)) with
      | err i e' =>
        rw [hn] at h
        have := next_err_le _ _ _ hn
        rw [List.length_drop] at this
        simp only [Option.some.injEq, Prod.mk.injEq] at h
        omega
      | ok t n =>
        rw [hn] at h
        obtain ⟨n1, n2⟩ := next_pos _ _ _ hn
        rw [List.length_drop] at n2
        exact lexGo_err_le l f (skip l a + n) p e (by omega) h
theorem lexAll_err_le (l : Bytes) (p e : Nat) (h : (lexAll l).2 = some (p, e)) : p ≤ l.length := lexGo_err_le l _ 0 p e (Nat.zero_le _) h
end Go.Proofs.Ytdacpbdamliafaa.Lx

/- The plain law of writing tokens and reading them again. -/
namespace Go.Proofs.Ytdacpbdamliafaa.Lx

/-- What the text of a token is. -/
def TokOK (t : Tok) : Prop :=
  (t.kind = 1 ∧ ∃ c, t.text = [c] ∧ (isB 3 c = true ∨ isB 4 c = true)) ∨
  (t.kind = 2 ∧ t.text.length ≤ 20 ∧ ∃ ds, ds ≠ [] ∧ ds.all (isB 2) = true ∧ (t.text = ds ∨ ∃ es, es ≠ [] ∧ es.all (isB 2) = true ∧ t.text = ds ++ 46 :: es)) ∨
  (t.kind = 3 ∧ t.text.length ≤ 200 ∧ t.text.all (fun b => decide (32 ≤ b ∧ b ≤ 126)) = true) ∨
  (t.kind = 4 ∧ t.text.length ≤ 16 ∧ t.text ≠ [] ∧ t.text.all (isB 3) = true ∧ t.text ≠ [102, 101, 110, 99, 101]) ∨
  (t.kind = 5 ∧ ∃ a b, t.text = [a, b] ∧ isDelim a = true ∧ isDelim b = true) ∨
  (t.kind = 6 ∧ ∃ d, t.text = [d] ∧ 49 ≤ d ∧ d ≤ 52) ∨
  (t.kind = 7 ∧ ∃ c, t.text = [c] ∧ isB 5 c = true) ∨
  (t.kind = 8 ∧ t.text = [92, 92])

def spell (t : Tok) : Bytes := spellL t.kind t.text
def join (a b : Tok) : Bool := (a.kind == 2 && b.kind == 2) || (a.kind == 4 && b.kind == 1 && (match b.text with | [] => false | c :: _ => isB 3 c))
/-- No byte of a class comes first. -/
def headNot (k : Nat) (q : Bytes) : Prop := ∀ c, q.head? = some c → isB k c = false
/-- What may stand behind a token. -/
def okAfter (t : Tok) (q : Bytes) : Prop := (t.kind = 2 → headNot 2 q ∧ q.head? ≠ some 46) ∧ (t.kind = 4 → headNot 3 q)

theorem isB_unique {j k : Nat} {c : UInt8} (h : isB j c = true) (hk : j ≠ k) : isB k c = false := by
  unfold isB at *
  rw [beq_iff_eq] at h
  rw [h]; simpa using hk

theorem runLen_app (k : Nat) (x y : Bytes) (hx : x.all (isB k) = true) (hy : headNot k y) : runLen k (x ++ y) = x.length := by
  unfold runLen
  induction x with
  | nil =>
    cases y with
    | nil => rfl
    | cons c y => rw [List.nil_append, List.takeWhile_cons, hy c rfl]; rfl
  | cons c x ih =>
    simp only [List.all_cons, Bool.and_eq_true] at hx
    rw [List.cons_append, List.takeWhile_cons, if_pos hx.1, List.length_cons, ih hx.2, List.length_cons]
theorem runLen_split (k : Nat) (r : Bytes) : ∃ y, r = r.take (runLen k r) ++ y ∧ (r.take (runLen k r)).all (isB k) = true ∧ headNot k y ∧ y = r.drop (runLen k r) := by
  unfold runLen
  induction r with
  | nil => exact ⟨[], rfl, rfl, (fun c h => nomatch h), rfl⟩
  | cons c r ih =>
    rw [List.takeWhile_cons]
    cases hc : isB k c with
    | true =>
      obtain ⟨y, h1, h2, h3, h4⟩ := ih
      refine ⟨y, ?_, ?_, h3, ?_⟩
      · simp only [if_true, List.length_cons, List.take_succ_cons, List.cons_append]; rw [← h1]
      · simp only [if_true, List.length_cons, List.take_succ_cons, List.all_cons, hc, h2]; rfl
      · simpa using h4
    | false => exact ⟨c :: r, rfl, rfl, fun d h => by cases h; exact hc, rfl⟩

theorem isAt_split (k : Nat) (x y : Bytes) : isAt k (x ++ y) x.length = (match y with | [] => false | c :: _ => isB k c) := by
  unfold isAt
  rw [List.getElem?_append_right (Nat.le_refl _), Nat.sub_self]
  cases y <;> rfl

theorem numLen_plain (ds q : Bytes) (h : ds.all (isB 2) = true) (hq : headNot 2 q) (h46 : q.head? ≠ some 46) : numLen (ds ++ q) = ds.length := by
  unfold numLen
  rw [runLen_app 2 ds q h hq, if_neg]
  rintro ⟨h1, _⟩
  rw [List.getElem?_append_right (Nat.le_refl _), Nat.sub_self] at h1
  exact h46 (by rw [← h1]; cases q <;> rfl)

theorem numLen_point (ds es q : Bytes) (h : ds.all (isB 2) = true) (he : es.all (isB 2) = true) (hn : es ≠ []) (hq : headNot 2 q) : numLen ((ds ++ 46 :: es) ++ q) = (ds ++ 46 :: es).length := by
  have e1 : (ds ++ 46 :: es) ++ q = ds ++ (46 :: (es ++ q)) := by simp
  have hr : runLen 2 (ds ++ (46 :: (es ++ q))) = ds.length := runLen_app 2 ds _ h (fun c hc => by cases hc; rfl)
  unfold numLen
  rw [e1, hr, if_pos]
  · have : (ds ++ (46 :: (es ++ q))).drop (ds.length + 1) = es ++ q := by
      simp [List.drop_append]
    rw [this, runLen_app 2 es q he hq]
    simp; omega
  · constructor
    · rw [List.getElem?_append_right (Nat.le_refl _), Nat.sub_self]; rfl
    · cases es with
      | nil => exact absurd rfl hn
      | cons e es =>
        have e2 : ds ++ (46 :: (e :: es ++ q)) = (ds ++ [46]) ++ (e :: (es ++ q)) := by simp
        have := isAt_split 2 (ds ++ [46]) (e :: (es ++ q))
        rw [e2, show ds.length + 1 = (ds ++ [46]).length by simp, this]
        simp only [List.all_cons, Bool.and_eq_true] at he
        exact he.1

theorem number_ok (r : Bytes) (t : Tok) (n : Nat) (h0 : isAt 2 r 0 = true) (h : number r = .ok t n) : TokOK t := by
  unfold number at h
  obtain ⟨h1, h2⟩ := lim_as h
  have hl : t.text.length ≤ 20 := by
    unfold lim at h
    split at h
    · cases h
    · rw [← h1]; simp only at *; omega
  subst h1 h2
  refine .inr (.inl ⟨rfl, hl, ?_⟩)
  simp only
  obtain ⟨y, e1, e2, e3, e4⟩ := runLen_split 2 r
  have hne : r.take (runLen 2 r) ≠ [] := by
    intro h
    rw [h, List.nil_append] at e1
    unfold isAt at h0
    cases r with
    | nil => cases h0
    | cons c r =>
      subst e1
      have := e3 c rfl
      simp only [List.getElem?_cons_zero] at h0
      rw [h0] at this; cases this
  refine ⟨_, hne, e2, ?_⟩
  unfold numLen
  split
  · rename_i hc
    obtain ⟨c1, c2⟩ := hc
    obtain ⟨y', f1, f2, f3, f4⟩ := runLen_split 2 (r.drop (runLen 2 r + 1))
    right
    refine ⟨_, ?_, f2, ?_⟩
    · intro h
      rw [h, List.nil_append] at f1
      unfold isAt at c2
      rw [← Nat.add_zero (runLen 2 r + 1), ← List.getElem?_drop, f1] at c2
      cases y' with
      | nil => cases c2
      | cons c y' =>
        have := f3 c rfl
        simp only [List.getElem?_cons_zero] at c2
        rw [c2] at this; cases this
    · rw [show runLen 2 r + 1 + runLen 2 (r.drop (runLen 2 r + 1)) = runLen 2 r + (1 + runLen 2 (r.drop (runLen 2 r + 1))) by omega, List.take_add]
      congr 1
      have hlt := (List.getElem?_eq_some_iff.1 c1)
      obtain ⟨hlt, hv⟩ := hlt
      rw [List.drop_eq_getElem_cons hlt, hv, Nat.add_comm 1, List.take_succ_cons]
  · exact .inl rfl

theorem quo_ok : ∀ (q acc : Bytes) (i : Nat) (t : Tok) (n : Nat), quo q acc i = .ok t n → acc.all (fun b => decide (32 ≤ b ∧ b ≤ 126)) = true → t.kind = 3 ∧ t.text.length ≤ 200 ∧ t.text.all (fun b => decide (32 ≤ b ∧ b ≤ 126)) = true
  | [], acc, i, t, n, h, _ => by simp [quo] at h
  | c :: q, acc, i, t, n, h, ha => by
    unfold quo at h
    split at h
    · obtain ⟨h1, h2⟩ := lim_as h
      have hl : t.text.length ≤ 200 := by
        unfold lim at h
        split at h
        · cases h
        · rw [← h1]; simp only at *; omega
      subst h1
      exact ⟨rfl, hl, ha⟩
    · split at h
      · cases h
      · rename_i hc
        have hcp : 32 ≤ c ∧ c ≤ 126 := by
          constructor
          · exact UInt8.not_lt.1 (fun h => hc (.inl h))
          · exact UInt8.not_lt.1 (fun h => hc (.inr h))
        split at h
        · cases q with
          | nil => simp at h
          | cons d q' =>
            simp only at h
            split at h
            · rename_i hd
              refine quo_ok q' _ _ t n h ?_
              rw [List.all_append, ha]
              rcases hd with rfl | rfl <;> rfl
            · cases h
        · refine quo_ok q _ _ t n h ?_
          rw [List.all_append, ha]
          simp [hcp]

theorem next_tokOK (r : Bytes) (t : Tok) (n : Nat) (h : next r = .ok t n) : TokOK t := by
  cases r with
  | nil => simp [next] at h
  | cons c q =>
    rw [next] at h
    split at h
    · rename_i hc
      exact number_ok (c :: q) t n (show isAt 2 (c :: q) 0 = true from hc) h
    · split at h
      · rename_i hc
        cases h
        exact .inr (.inr (.inr (.inr (.inr (.inr (.inl ⟨rfl, c, rfl, hc⟩))))))
      · split at h
        · exact .inr (.inr (.inl (quo_ok q [] 1 t n h rfl)))
        · split at h
          · cases h
            exact .inr (.inr (.inr (.inr (.inr (.inr (.inr ⟨rfl, rfl⟩))))))
          · split at h
            · rename_i hc
              obtain ⟨hc, hl⟩ := hc
              unfold name at h
              simp only [List.drop_succ_cons, List.drop_zero] at h
              obtain ⟨y, e1, e2, e3, e4⟩ := runLen_split 3 q
              split at h
              · rename_i hf
                have hlen : t.text.length ≤ 16 := by
                  obtain ⟨h1, h2⟩ := lim_as h
                  unfold lim at h
                  split at h
                  · cases h
                  · rw [← h1]; simp only at *; omega
                obtain ⟨h1, h2⟩ := lim_as h
                subst h1
                refine .inr (.inr (.inr (.inl ⟨rfl, hlen, ?_, e2, hf⟩)))
                intro h
                simp only at h
                rw [h, List.nil_append] at e1
                subst e1
                cases q with
                | nil => cases hl
                | cons c' q =>
                  have := e3 c' rfl
                  unfold isAt at hl
                  simp only [List.getElem?_cons_zero] at hl
                  rw [hl] at this; cases this
              · split at h
                · rename_i hd
                  cases h
                  obtain ⟨d1, d2⟩ := hd
                  refine .inr (.inr (.inr (.inr (.inl ⟨rfl, ?_⟩))))
                  simp only
                  unfold delimAt at d1 d2
                  rw [show 1 + runLen 3 q = runLen 3 q + 1 by omega, List.getElem?_cons_succ] at d1
                  rw [show 2 + runLen 3 q = (runLen 3 q + 1) + 1 by omega, List.getElem?_cons_succ] at d2
                  rw [show 1 + runLen 3 q = runLen 3 q + 1 by omega, List.drop_succ_cons]
                  generalize runLen 3 q = m at *
                  split at d1
                  · rename_i a ha
                    split at d2
                    · rename_i b hb
                      refine ⟨a, b, ?_, d1, d2⟩
                      obtain ⟨ha1, ha2⟩ := List.getElem?_eq_some_iff.1 ha
                      obtain ⟨hb1, hb2⟩ := List.getElem?_eq_some_iff.1 hb
                      rw [List.drop_eq_getElem_cons ha1, List.drop_eq_getElem_cons hb1, ha2, hb2]
                      rfl
                    · cases d2
                  · cases d1
                · cases h
            · split at h
              · rename_i hc
                obtain ⟨h1, h2⟩ := hc
                cases h
                cases q with
                | nil => cases h2
                | cons d q =>
                  exact .inr (.inr (.inr (.inr (.inr (.inl ⟨rfl, d, rfl, by simpa [parAt] using h2⟩)))))
              · split at h
                · rename_i hc
                  cases h
                  exact .inl ⟨rfl, c, rfl, hc⟩
                · cases h
end Go.Proofs.Ytdacpbdamliafaa.Lx

/- A token that is written is read again. -/
namespace Go.Proofs.Ytdacpbdamliafaa.Lx

theorem lim_le {most : Nat} {t : Tok} {n : Nat} (h : t.text.length ≤ most) : lim most t n = .ok t n := by
  unfold lim; rw [if_neg (by omega)]

theorem byte_cases (p : UInt8 → Prop) [DecidablePred p] (h : ∀ n : Fin 256, p (UInt8.ofNat n.1)) (c : UInt8) : p c := by
  have := h ⟨c.toNat, c.toNat_lt⟩
  simpa using this

theorem isB_digit_not (c : UInt8) : isB 2 c = true → isB 5 c = false ∧ isB 3 c = false ∧ isB 1 c = false ∧ isB 4 c = false ∧ c ≠ 34 ∧ c ≠ 92 ∧ c ≠ 35 ∧ c ≠ 46 := by
  revert c; exact fun c => byte_cases (fun c => isB 2 c = true → isB 5 c = false ∧ isB 3 c = false ∧ isB 1 c = false ∧ isB 4 c = false ∧ c ≠ 34 ∧ c ≠ 92 ∧ c ≠ 35 ∧ c ≠ 46) (by decide +kernel) c
theorem isB_sym_not (c : UInt8) : (isB 3 c = true ∨ isB 4 c = true) → isB 2 c = false ∧ isB 5 c = false ∧ isB 1 c = false ∧ c ≠ 34 ∧ c ≠ 92 ∧ c ≠ 35 ∧ c ≠ 46 :=
  byte_cases (fun c => (isB 3 c = true ∨ isB 4 c = true) → isB 2 c = false ∧ isB 5 c = false ∧ isB 1 c = false ∧ c ≠ 34 ∧ c ≠ 92 ∧ c ≠ 35 ∧ c ≠ 46) (by decide +kernel) c
theorem isB_mark_not (c : UInt8) : isB 5 c = true → isB 2 c = false ∧ isB 3 c = false ∧ isB 1 c = false ∧ c ≠ 34 ∧ c ≠ 92 ∧ c ≠ 35 ∧ c ≠ 46 :=
  byte_cases (fun c => isB 5 c = true → isB 2 c = false ∧ isB 3 c = false ∧ isB 1 c = false ∧ c ≠ 34 ∧ c ≠ 92 ∧ c ≠ 35 ∧ c ≠ 46) (by decide +kernel) c
theorem isDelim_not (c : UInt8) : isDelim c = true → isB 3 c = false :=
  byte_cases (fun c => isDelim c = true → isB 3 c = false) (by decide +kernel) c
theorem isB_blank_not (c : UInt8) : isB 1 c = true → isB 2 c = false ∧ isB 3 c = false ∧ c ≠ 46 :=
  byte_cases (fun c => isB 1 c = true → isB 2 c = false ∧ isB 3 c = false ∧ c ≠ 46) (by decide +kernel) c

theorem quo_esc_all : ∀ (x q acc : Bytes) (i : Nat), x.all (fun b => decide (32 ≤ b ∧ b ≤ 126)) = true → (acc ++ x).length ≤ 200 → quo (esc x ++ 34 :: q) acc i = .ok ⟨3, acc ++ x⟩ (i + (esc x).length + 1)
  | [], q, acc, i, _, hl => by
    simp only [esc, List.flatMap_nil, List.nil_append, List.append_nil, List.length_nil, Nat.add_zero] at *
    rw [quo.eq_def]
    simp only
    rw [if_pos trivial]
    exact lim_le (t := ⟨3, acc⟩) hl
  | c :: x, q, acc, i, hx, hl => by
    simp only [List.all_cons, Bool.and_eq_true, decide_eq_true_eq] at hx
    obtain ⟨⟨h1, h2⟩, hx⟩ := hx
    have hacc : acc ++ c :: x = (acc ++ [c]) ++ x := by simp
    have ih := fun j => quo_esc_all x q (acc ++ [c]) j hx (by rw [← hacc]; exact hl)
    have he : esc (c :: x) = escB c ++ esc x := rfl
    rw [he, hacc]
    unfold escB
    by_cases hc : c = 34 ∨ c = 92
    · rw [if_pos hc]
      simp only [List.cons_append, List.nil_append]
      rw [quo.eq_def]
      simp only
      rw [if_neg (by decide), if_neg (by decide), if_pos trivial]
      rw [if_pos hc, ih]
      simp only [List.length_cons]
      congr 1; omega
    · rw [if_neg hc]
      simp only [List.cons_append, List.nil_append]
      rw [quo.eq_def]
      simp only
      rw [if_neg (fun h => hc (.inl h)), if_neg (fun h => h.elim (UInt8.not_lt.2 h1) (UInt8.not_lt.2 h2)), if_neg (fun h => hc (.inr h)), ih]
      simp only [List.length_cons]
      congr 1; omega

theorem numLen_ok {t : Tok} {q : Bytes} (ds : Bytes) (h : ds.all (isB 2) = true) (ht : t.text = ds ∨ ∃ es, es ≠ [] ∧ es.all (isB 2) = true ∧ t.text = ds ++ 46 :: es) (hq : headNot 2 q) (h46 : q.head? ≠ some 46) :
    numLen (t.text ++ q) = t.text.length := by
  rcases ht with e | ⟨es, e1, e2, e3⟩
  · rw [e]; exact numLen_plain ds q h hq h46
  · rw [e3]; exact numLen_point ds es q h e2 e1 hq

theorem take_app (x q : Bytes) : (x ++ q).take x.length = x := by simp

/-- A token that is written is read again, if what stands behind does not join. -/
theorem reread (t : Tok) (q : Bytes) (ht : TokOK t) (hq : okAfter t q) : next (spell t ++ q) = .ok t (spell t).length := by
  obtain ⟨k, x⟩ := t
  rcases ht with ⟨h1, c, h2, h3⟩ | ⟨h1, h2, ds, h3, h4, h5⟩ | ⟨h1, h2, h3⟩ | ⟨h1, h2, h3, h4, h5⟩ | ⟨h1, a, b, h2, h3, h4⟩ | ⟨h1, d, h2, h3, h4⟩ | ⟨h1, c, h2, h3⟩ | ⟨h1, h2⟩
  · simp only at h1 h2; subst h1 h2
    obtain ⟨n1, n2, n3, n4, n5, n6, n7⟩ := isB_sym_not c h3
    show next ([c] ++ q) = _
    rw [List.cons_append, next, if_neg (by rw [n1]; decide), if_neg (by rw [n2]; decide), if_neg n4, if_neg (fun h => n5 h.1), if_neg (fun h => n5 h.1), if_neg (fun h => n6 h.1), if_pos h3]
    rfl
  · simp only at h1 h2 h5; subst h1
    have hx : ∃ c y, x = c :: y ∧ isB 2 c = true := by
      cases ds with
      | nil => exact absurd rfl h3
      | cons c ds =>
        simp only [List.all_cons, Bool.and_eq_true] at h4
        rcases h5 with rfl | ⟨es, _, _, rfl⟩
        · exact ⟨c, ds, rfl, h4.1⟩
        · exact ⟨c, _, rfl, h4.1⟩
    obtain ⟨q1, q2⟩ := hq.1 rfl
    have hn : numLen (x ++ q) = x.length := numLen_ok (t := ⟨2, x⟩) ds h4 h5 q1 q2
    show next (x ++ q) = _
    obtain ⟨c, y, rfl, hc⟩ := hx
    rw [List.cons_append, next, if_pos hc, ← List.cons_append]
    unfold number
    rw [hn, take_app, lim_le (by exact h2)]
    rfl
  · simp only at h1 h2 h3; subst h1
    show next (quoteL x ++ q) = _
    unfold quoteL
    rw [List.cons_append, next, if_neg (by decide), if_neg (by decide), if_pos rfl, List.append_assoc]
    have := quo_esc_all x q [] 1 h3 h2
    simp only [List.nil_append] at this
    rw [List.singleton_append, this]
    show Res.ok _ _ = Res.ok _ (quoteL x).length
    unfold quoteL
    simp only [List.length_cons, List.length_append, List.length_nil]
    congr 1; omega
  · simp only at h1 h2 h3 h4 h5; subst h1
    have hr : runLen 3 (x ++ q) = x.length := runLen_app 3 x q h4 (hq.2 rfl)
    have hh : isAt 3 (x ++ q) 0 = true := by
      cases x with
      | nil => exact absurd rfl h3
      | cons c y =>
        simp only [List.all_cons, Bool.and_eq_true] at h4
        exact h4.1
    have h92 : (x ++ q).head? ≠ some 92 := by
      cases x with
      | nil => exact absurd rfl h3
      | cons c y =>
        simp only [List.all_cons, Bool.and_eq_true] at h4
        intro h
        have : c = 92 := by simpa using h
        exact (isB_sym_not c (.inl h4.1)).2.2.2.2.1 this
    show next ((92 :: x) ++ q) = _
    rw [List.cons_append, next, if_neg (by decide), if_neg (by decide), if_neg (by decide), if_neg (fun h => h92 h.2), if_pos ⟨rfl, hh⟩]
    unfold name
    simp only [List.drop_succ_cons, List.drop_zero]
    rw [hr, take_app, if_pos h5, lim_le (by exact h2)]
    show Res.ok _ _ = Res.ok _ (92 :: x).length
    rw [List.length_cons, Nat.add_comm]
  · simp only at h1 h2; subst h1 h2
    have hr : runLen 3 ([102, 101, 110, 99, 101] ++ (a :: b :: q)) = 5 := runLen_app 3 [102, 101, 110, 99, 101] _ (by decide) (fun c hc => by cases hc; exact isDelim_not a h3)
    show next (92 :: ([102, 101, 110, 99, 101] ++ (a :: b :: q))) = _
    rw [next, if_neg (by decide), if_neg (by decide), if_neg (by decide), if_neg (fun h => absurd h.2 (by simp)), if_pos ⟨rfl, rfl⟩]
    unfold name
    simp only [List.drop_succ_cons, List.drop_zero]
    rw [hr, if_neg (by simp), if_pos]
    · rfl
    · exact ⟨h3, h4⟩
  · simp only at h1 h2; subst h1 h2
    show next (35 :: d :: q) = _
    rw [next, if_neg (by decide), if_neg (by decide), if_neg (by decide), if_neg (fun h => absurd h.1 (by decide)), if_neg (fun h => absurd h.1 (by decide)), if_pos ⟨rfl, by simp [parAt, h3, h4]⟩]
    rfl
  · simp only at h1 h2; subst h1 h2
    obtain ⟨n1, _⟩ := isB_mark_not c h3
    show next (c :: q) = _
    rw [next, if_neg (by rw [n1]; decide), if_pos h3]
    rfl
  · simp only at h1 h2; subst h1 h2
    show next (92 :: 92 :: q) = _
    rw [next, if_neg (by decide), if_neg (by decide), if_neg (by decide), if_pos ⟨rfl, rfl⟩]
    rfl

/-- How a token begins: no blank, no point; a digit only if it is a number, a letter only if it is a symbol. -/
theorem spell_head (t : Tok) (ht : TokOK t) : ∃ c y, spell t = c :: y ∧ isB 1 c = false ∧ c ≠ 46 ∧ (isB 2 c = true → t.kind = 2) ∧ (isB 3 c = true → t.kind = 1 ∧ ∃ z, t.text = c :: z) ∧ (t.kind = 2 → isB 2 c = true) := by
  obtain ⟨k, x⟩ := t
  rcases ht with ⟨h1, c, h2, h3⟩ | ⟨h1, h2, ds, h3, h4, h5⟩ | ⟨h1, h2, h3⟩ | ⟨h1, h2, h3, h4, h5⟩ | ⟨h1, a, b, h2, h3, h4⟩ | ⟨h1, d, h2, h3, h4⟩ | ⟨h1, c, h2, h3⟩ | ⟨h1, h2⟩
  · simp only at h1 h2; subst h1 h2
    obtain ⟨n1, n2, n3, n4, n5, n6, n7⟩ := isB_sym_not c h3
    exact ⟨c, [], rfl, n3, n7, fun h => (by rw [n1] at h; cases h), fun h => ⟨rfl, [], rfl⟩, (fun h => by cases h)⟩
  · simp only at h1 h2 h5; subst h1
    have hx : ∃ c y, x = c :: y ∧ isB 2 c = true := by
      cases ds with
      | nil => exact absurd rfl h3
      | cons c ds =>
        simp only [List.all_cons, Bool.and_eq_true] at h4
        rcases h5 with rfl | ⟨es, _, _, rfl⟩
        · exact ⟨c, ds, rfl, h4.1⟩
        · exact ⟨c, _, rfl, h4.1⟩
    obtain ⟨c, y, rfl, hc⟩ := hx
    obtain ⟨n1, n2, n3, n4, n5, n6, n7, n8⟩ := isB_digit_not c hc
    exact ⟨c, y, rfl, n3, n8, fun _ => rfl, fun h => (by rw [n2] at h; cases h), fun _ => hc⟩
  · simp only at h1; subst h1
    exact ⟨34, _, rfl, rfl, by decide, (fun h => by cases h), (fun h => by cases h), (fun h => by cases h)⟩
  · simp only at h1; subst h1
    exact ⟨92, _, rfl, rfl, by decide, (fun h => by cases h), (fun h => by cases h), (fun h => by cases h)⟩
  · simp only at h1; subst h1
    exact ⟨92, _, rfl, rfl, by decide, (fun h => by cases h), (fun h => by cases h), (fun h => by cases h)⟩
  · simp only at h1; subst h1
    exact ⟨35, _, rfl, rfl, by decide, (fun h => by cases h), (fun h => by cases h), (fun h => by cases h)⟩
  · simp only at h1 h2; subst h1 h2
    obtain ⟨n1, n2, n3, n4, n5, n6, n7⟩ := isB_mark_not c h3
    exact ⟨c, [], rfl, n3, n7, fun h => (by rw [n1] at h; cases h), fun h => (by rw [n2] at h; cases h), (fun h => by cases h)⟩
  · simp only at h1 h2; subst h1 h2
    exact ⟨92, _, rfl, rfl, by decide, (fun h => by cases h), (fun h => by cases h), (fun h => by cases h)⟩

/-- A token that does not join, or a blank, may stand behind. -/
theorem okAfter_tok (a b : Tok) (hb : TokOK b) (hj : join a b = false) (q : Bytes) : okAfter a (spell b ++ q) := by
  obtain ⟨c, y, e, n1, n2, n3, n4, n5⟩ := spell_head b hb
  rw [e, List.cons_append]
  unfold join at hj
  simp only [Bool.or_eq_false_iff, Bool.and_eq_false_iff] at hj
  constructor
  · intro hk
    refine ⟨fun d hd => ?_, fun h => n2 (by simpa using h)⟩
    cases hd
    cases h2 : isB 2 c with
    | false => rfl
    | true =>
      rcases hj.1 with h | h
      · rw [hk] at h; cases h
      · rw [n3 h2] at h; cases h
  · intro hk d hd
    cases hd
    cases h3 : isB 3 c with
    | false => rfl
    | true =>
      obtain ⟨m1, z, m2⟩ := n4 h3
      rcases hj.2 with (h | h) | h
      · rw [hk] at h; cases h
      · rw [m1] at h; cases h
      · rw [m2] at h; simp only at h; rw [h3] at h; cases h
theorem okAfter_blank (a : Tok) (c : UInt8) (q : Bytes) (hc : isB 1 c = true) : okAfter a (c :: q) := by
  obtain ⟨n1, n2, n3⟩ := isB_blank_not c hc
  exact ⟨fun _ => ⟨fun d hd => by cases hd; exact n1, fun h => n3 (by simpa using h)⟩, fun _ d hd => by cases hd; exact n2⟩
theorem okAfter_end (a : Tok) : okAfter a [] := ⟨fun _ => ⟨(fun c h => nomatch h), by simp⟩, fun _ => (fun c h => nomatch h)⟩

/-- Two tokens that join are not read as the first one. -/
theorem joined_other (a b : Tok) (ha : TokOK a) (hb : TokOK b) (hj : join a b = true) (n : Nat) : next (spell a ++ spell b) ≠ .ok a n := by
  intro h
  obtain ⟨k, x⟩ := a
  obtain ⟨k', x'⟩ := b
  unfold join at hj
  simp only [Bool.or_eq_true, Bool.and_eq_true, beq_iff_eq] at hj
  rcases hj with ⟨rfl, rfl⟩ | ⟨⟨rfl, rfl⟩, hl⟩
  · obtain ⟨c, y, e, _, _, _, _, hd⟩ := spell_head ⟨2, x'⟩ hb
    replace hd := hd rfl
    have e' : x' = c :: y := e
    subst e'
    rcases ha with ⟨h1, _⟩ | ⟨_, h2, ds, h3, h4, h5⟩ | ⟨h1, _⟩ | ⟨h1, _⟩ | ⟨h1, _⟩ | ⟨h1, _⟩ | ⟨h1, _⟩ | ⟨h1, _⟩ <;> try (simp at h1)
    simp only at h5 h2
    have hs := next_spell _ _ _ h
    have hx : ∃ c y, x = c :: y ∧ isB 2 c = true := by
      cases ds with
      | nil => exact absurd rfl h3
      | cons c ds =>
        simp only [List.all_cons, Bool.and_eq_true] at h4
        rcases h5 with rfl | ⟨es, _, _, rfl⟩
        · exact ⟨c, ds, rfl, h4.1⟩
        · exact ⟨c, _, rfl, h4.1⟩
    obtain ⟨c0, y0, hx0, hc0⟩ := hx
    have hnum : next (spell ⟨2, x⟩ ++ spell ⟨2, c :: y⟩) = number (x ++ c :: y) := by
      show next (x ++ c :: y) = _
      rw [hx0, List.cons_append, next, if_pos hc0]
    rw [hnum] at h
    unfold number at h
    obtain ⟨e1, e2⟩ := lim_as h
    simp only [Tok.mk.injEq, true_and] at e1
    have hlen : numLen (x ++ c :: y) ≤ x.length := by
      have h1 := congrArg List.length e1
      rw [List.length_take] at h1
      have := numLen_le (x ++ c :: y)
      omega
    rcases h5 with rfl | ⟨es, g1, g2, rfl⟩
    · have h1 : x.length + 1 ≤ runLen 2 (x ++ c :: y) := by
        unfold runLen
        have : (x ++ c :: y).takeWhile (isB 2) = x ++ (c :: y).takeWhile (isB 2) := List.takeWhile_append_of_pos (by simpa using h4)
        rw [this, List.takeWhile_cons, if_pos hd]; simp
      unfold numLen at hlen
      split at hlen <;> omega
    · have q1 : (ds ++ 46 :: es) ++ c :: y = ds ++ 46 :: (es ++ c :: y) := by simp
      have hr : runLen 2 (ds ++ 46 :: (es ++ c :: y)) = ds.length := runLen_app 2 ds _ h4 (fun c hc => by cases hc; rfl)
      unfold numLen at hlen
      rw [q1, hr, if_pos] at hlen
      · have hdr : (ds ++ (46 :: (es ++ c :: y))).drop (ds.length + 1) = es ++ c :: y := by simp [List.drop_append]
        rw [hdr] at hlen
        have h1 : es.length + 1 ≤ runLen 2 (es ++ c :: y) := by
          unfold runLen
          have : (es ++ c :: y).takeWhile (isB 2) = es ++ (c :: y).takeWhile (isB 2) := List.takeWhile_append_of_pos (by simpa using g2)
          rw [this, List.takeWhile_cons, if_pos hd]; simp
        simp at hlen; omega
      · constructor
        · rw [List.getElem?_append_right (Nat.le_refl _), Nat.sub_self]; rfl
        · cases es with
          | nil => exact absurd rfl g1
          | cons e es =>
            have e2 : ds ++ (46 :: (e :: es ++ c :: y)) = (ds ++ [46]) ++ (e :: (es ++ c :: y)) := by simp
            have := isAt_split 2 (ds ++ [46]) (e :: (es ++ c :: y))
            rw [e2, show ds.length + 1 = (ds ++ [46]).length by simp, this]
            simp only [List.all_cons, Bool.and_eq_true] at g2
            exact g2.1
  · cases x' with
    | nil => cases hl
    | cons c y =>
      simp only at hl
      rcases ha with ⟨h1, _⟩ | ⟨h1, _⟩ | ⟨h1, _⟩ | ⟨_, h2, h3, h4, h5⟩ | ⟨h1, _⟩ | ⟨h1, _⟩ | ⟨h1, _⟩ | ⟨h1, _⟩ <;> try (simp at h1)
      simp only at h2 h3 h4 h5
      have hh : isAt 3 (x ++ c :: y) 0 = true := by
        cases x with
        | nil => exact absurd rfl h3
        | cons c y =>
          simp only [List.all_cons, Bool.and_eq_true] at h4
          exact h4.1
      have h92 : (x ++ c :: y).head? ≠ some 92 := by
        cases x with
        | nil => exact absurd rfl h3
        | cons c y =>
          simp only [List.all_cons, Bool.and_eq_true] at h4
          intro h
          have : c = 92 := by simpa using h
          exact (isB_sym_not c (.inl h4.1)).2.2.2.2.1 this
      have hname : next (spell ⟨4, x⟩ ++ spell ⟨1, c :: y⟩) = name (92 :: (x ++ c :: y)) := by
        show next (92 :: x ++ c :: y) = _
        rw [List.cons_append, next, if_neg (by decide), if_neg (by decide), if_neg (by decide), if_neg (fun h => h92 h.2), if_pos ⟨rfl, hh⟩]
      rw [hname] at h
      unfold name at h
      simp only [List.drop_succ_cons, List.drop_zero] at h
      have h1 : x.length + 1 ≤ runLen 3 (x ++ c :: y) := by
        unfold runLen
        have : (x ++ c :: y).takeWhile (isB 3) = x ++ (c :: y).takeWhile (isB 3) := List.takeWhile_append_of_pos (by simpa using h4)
        rw [this, List.takeWhile_cons, if_pos hl]; simp
      have h2 := runLen_le 3 (x ++ c :: y)
      split at h
      · obtain ⟨e1, e2⟩ := lim_as h
        simp only [Tok.mk.injEq, true_and] at e1
        have := congrArg List.length e1
        rw [List.length_take] at this
        omega
      · split at h
        · cases h
        · cases h
end Go.Proofs.Ytdacpbdamliafaa.Lx

/- Tokens that are written one after the other are read again. -/
namespace Go.Proofs.Ytdacpbdamliafaa.Lx

/-- The text of tokens, each behind blanks. -/
def flat : List (Bytes × Tok) → Bytes
  | [] => []
  | (s, t) :: l => s ++ (spell t ++ flat l)
/-- The tokens with their places. -/
def placed : Nat → List (Bytes × Tok) → List PTok
  | _, [] => []
  | a, (s, t) :: l => ⟨t.kind, t.text, a + s.length, a + s.length + (spell t).length⟩ :: placed (a + s.length + (spell t).length) l
/-- Nothing but blanks stands between, and something stands between tokens that join. -/
def spaced : Option Tok → List (Bytes × Tok) → Prop
  | _, [] => True
  | o, (s, t) :: l => s.all (isB 1) = true ∧ TokOK t ∧ (s = [] → ∀ a, o = some a → join a t = false) ∧ spaced (some t) l

theorem runI_isB (l : Bytes) (k : Nat) : runI 1 l k = runLen 1 (l.drop k) := by
  unfold runI runLen
  have hp : (fun b : UInt8 => (cls b.toNat : Int) == 1) = isB 1 := by
    funext b
    unfold isB
    rw [Bool.eq_iff_iff, beq_iff_eq, beq_iff_eq]
    omega
  rw [hp]

theorem spell_pos (t : Tok) (ht : TokOK t) : 0 < (spell t).length := by
  obtain ⟨c, y, e, _⟩ := spell_head t ht
  rw [e]; simp

theorem okAfter_flat (t : Tok) : ∀ (W : List (Bytes × Tok)), spaced (some t) W → okAfter t (flat W)
  | [], _ => okAfter_end t
  | (s, b) :: l, ⟨h1, h2, h3, _⟩ => by
    cases s with
    | nil => exact okAfter_tok t b h2 (h3 rfl t rfl) _
    | cons c s =>
      simp only [List.all_cons, Bool.and_eq_true] at h1
      exact okAfter_blank t c _ h1.1

theorem lexGo_flat (l : Bytes) : ∀ (W : List (Bytes × Tok)) (o : Option Tok) (p : Bytes) (f : Nat), l = p ++ flat W → W.length < f → spaced o W → lexGo l f p.length = (placed p.length W, none)
  | [], o, p, f, hl, hf, _ => by
    cases f with
    | zero => cases hf
    | succ f =>
      rw [lexGo, if_pos]
      · rfl
      · rw [hl]; unfold skip flat; simp
  | (s, t) :: W, o, p, f, hl, hf, ⟨h1, h2, h3, h4⟩ => by
    cases f with
    | zero => cases hf
    | succ f =>
      have hd : l.drop p.length = s ++ (spell t ++ flat W) := by rw [hl]; simp [flat]
      have hsk : skip l p.length = p.length + s.length := by
        unfold skip
        rw [runI_isB, hd, runLen_app 1 s _ h1]
        obtain ⟨c, y, e, n1, _⟩ := spell_head t h2
        rw [e]
        intro d hd'
        cases hd'
        exact n1
      have hl2 : l = (p ++ s) ++ (spell t ++ flat W) := by rw [hl]; simp [flat]
      have hl3 : l = (p ++ s ++ spell t) ++ flat W := by rw [hl]; simp [flat]
      have hsp := spell_pos t h2
      have hnx : next (l.drop (p.length + s.length)) = .ok t (spell t).length := by
        have : l.drop (p.length + s.length) = spell t ++ flat W := by
          rw [hl2, ← List.length_append, List.drop_left]
        rw [this]
        exact reread t _ h2 (okAfter_flat t W h4)
      have ih := lexGo_flat l W (some t) (p ++ s ++ spell t) f hl3 (by simpa using hf) h4
      rw [lexGo, hsk, if_neg]
      · rw [hnx]
        simp only
        have e3 : (p ++ s ++ spell t).length = p.length + s.length + (spell t).length := by simp [Nat.add_assoc]
        rw [e3] at ih
        rw [ih]
        rfl
      · rw [hl2]; simp; omega

theorem flat_len : ∀ (W : List (Bytes × Tok)) (o : Option Tok), spaced o W → W.length ≤ (flat W).length
  | [], _, _ => Nat.le_refl _
  | (s, t) :: W, o, ⟨_, h2, _, h4⟩ => by
    have := flat_len W (some t) h4
    have := spell_pos t h2
    simp [flat]; omega

theorem lexAll_flat (W : List (Bytes × Tok)) (h : spaced none W) : lexAll (flat W) = (placed 0 W, none) :=
  lexGo_flat (flat W) W none [] _ rfl (by have := flat_len W none h; omega) h

def tok (t : PTok) : Tok := ⟨t.kind, t.text⟩
theorem placed_toks : ∀ (W : List (Bytes × Tok)) (a : Nat), (placed a W).map tok = W.map (·.2)
  | [], _ => rfl
  | (s, t) :: W, a => by simp only [placed, List.map_cons, placed_toks W]; rfl

theorem lexGo_ok (l : Bytes) : ∀ (f a : Nat), ∀ t ∈ (lexGo l f a).1, TokOK (tok t)
  | 0, a, t, ht => by simp [lexGo] at ht
  | f + 1, a, t, ht => by
    rw [lexGo] at ht
    split at ht
    · cases ht
    · cases hn : next (l.drop (skip l a)) with
      | err i e => rw [hn] at ht; cases ht
      | ok t' n =>
        rw [hn] at ht
        rcases List.mem_cons.1 ht with rfl | h
        · exact next_tokOK _ _ _ hn
        · exact lexGo_ok l f _ t h

/-- Two tokens written one after the other. -/
theorem lexAll_two (a b : Tok) (ha : TokOK a) (hb : TokOK b) (hj : join a b = false) : ∃ x y, lexAll (spell a ++ spell b) = ([x, y], none) ∧ tok x = a ∧ tok y = b := by
  have := lexAll_flat [([], a), ([], b)] ⟨rfl, ha, (fun _ c hc => nomatch hc), rfl, hb, (fun _ c hc => by cases hc; exact hj), trivial⟩
  simp only [flat, List.nil_append, List.append_nil] at this
  exact ⟨_, _, this, rfl, rfl⟩
theorem lexAll_joined (a b : Tok) (ha : TokOK a) (hb : TokOK b) (hj : join a b = true) : (lexAll (spell a ++ spell b)).2 ≠ none ∨ (lexAll (spell a ++ spell b)).1.map tok ≠ [a, b] := by
  unfold lexAll
  obtain ⟨c, y, e, n1, _⟩ := spell_head a ha
  have hsk : skip (spell a ++ spell b) 0 = 0 := by
    unfold skip
    rw [runI_isB, List.drop_zero, e]
    have := runLen_app 1 [] (c :: y ++ spell b) rfl (fun d hd => by cases hd; exact n1)
    simpa using this
  have hp : 0 < (spell a ++ spell b).length := by have := spell_pos a ha; simp; omega
  rw [lexGo, hsk, if_neg (by omega), List.drop_zero]
  cases hn : next (spell a ++ spell b) with
  | err i e => left; simp
  | ok t n =>
    right
    intro h
    simp only [List.map_cons, List.cons.injEq] at h
    have : t = a := h.1
    subst this
    exact joined_other t b ha hb hj n hn

/-- The reference's comparison of tokens. -/
def sameT (x y : PTok) (places : Bool) : Bool := x.kind == y.kind && x.text == y.text && (!places || (x.from_ == y.from_ && x.to_ == y.to_))
def sameL : List PTok → List PTok → Bool → Bool
  | [], [], _ => true
  | x :: xs, y :: ys, p => sameT x y p && sameL xs ys p
  | _, _, _ => false
theorem sameT_iff (x y : PTok) : sameT x y false = decide (tok x = tok y) := by
  unfold sameT tok
  rw [Bool.eq_iff_iff]
  simp
theorem sameL_iff : ∀ (xs ys : List PTok), sameL xs ys false = decide (xs.map tok = ys.map tok)
  | [], [] => rfl
  | x :: xs, y :: ys => by
    rw [sameL, sameT_iff, sameL_iff xs ys]
    simp
  | [], y :: ys => by simp [sameL]
  | x :: xs, [] => by simp [sameL]
end Go.Proofs.Ytdacpbdamliafaa.Lx
