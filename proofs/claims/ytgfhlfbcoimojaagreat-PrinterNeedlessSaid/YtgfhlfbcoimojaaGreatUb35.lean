/- Part 35 of 53 of a proof; its texts, joined: SnC, NqA. No condition. -/
import Derived.Test.YtgfhlfbcoimojaaGreatUb12
import Derived.Test.YtgfhlfbcoimojaaGreatUb7
import Derived.Test.YtgfhlfbcoimojaaGreatUb34
import Derived.Test.YtgfhlfbcoimojaaGreatUb3
import Derived.Test.YtgfhlfbcoimojaaGreatUb10
import Derived.Test.YtgfhlfbcoimojaaGreatUb20
import Derived.Test.YtgfhlfbcoimojaaGreatUb27

/- The walk over a row that calls closures: words for its contracts. -/
namespace Go.Proofs.YtgfhlfbcoimojaaGreat
open Go.RowKit
open Tr (Nd Clo runRow runSegs rowT itemT segs)
abbrev up (p : List Nat) : List Int := p.map fun n : Nat => (n : Int)
structure Mv (g : Nat) (S S' : Nat → Prop) (w w' : World) : Prop where
 touch : Touch (fun b => S b ∨ b = g) w w'
 grow : ∀ b, S' b → S b ∨ w.heap.size ≤ b
theorem Mv.trans {g : Nat} {S S' S'' : Nat → Prop} {a b c : World} (h : Mv g S S' a b) (k : Mv g S' S'' b c) : Mv g S S'' a c :=
 ⟨h.touch.trans' k.touch fun i hi => by
   rcases hi with hi | rfl
   ·exact (h.grow i hi).imp .inl id
   ·exact .inl (.inr rfl),
  fun i hi => by
   rcases k.grow i hi with h1 | h1
   ·exact h.grow i h1
   ·exact .inr (Nat.le_trans h.touch.size h1)⟩
theorem Mv.fresh {g : Nat} {S : Nat → Prop} {a b : World} (h : Fresh a b) : Mv g S S a b := ⟨h.mono fun _ hf => hf.elim, fun _ h => .inl h⟩
theorem Mv.refl (g : Nat) (S : Nat → Prop) (a : World) : Mv g S S a a := Mv.fresh (Touch.refl _ _)
structure Mc (S S' : Nat → Prop) (w w' : World) : Prop where
 touch : Touch S w w'
 grow : ∀ b, S' b → S b ∨ w.heap.size ≤ b
theorem Mc.mv {g : Nat} {S S' : Nat → Prop} {w w' : World} (h : Mc S S' w w') : Mv g S S' w w' := ⟨h.touch.mono fun _ => .inl, h.grow⟩
theorem Mv.blk {g : Nat} {S S' : Nat → Prop} {w w' : World} (h : Mv g S S' w w') {k : Nat} {t : TypeId} {cs : Array Value} (hb : Blk w k t cs) (h1 : ¬ S k) (h2 : k ≠ g) : Blk w' k t cs ∧ ¬ S' k :=
 ⟨h.touch.blk hb (fun e => e.elim h1 h2), fun e => (h.grow k e).elim h1 fun hle => by have := hb.lt; omega⟩
def PathIn (g : Nat) (S : Nat → Prop) (w : World) (v : Value) (p : List Nat) : Prop :=
 ∃ A cap, v = .slice A p.length cap ∧ (p = [] ∨ ∃ b o, A = some ⟨b, o, none⟩ ∧ b < w.heap.size ∧ ¬ S b ∧ b ≠ g ∧ ∀ i (h : i < p.length), w.cell? ⟨b, o + i, none⟩ = some (.int .i64 (p[i] : Nat)))
theorem PathIn.ints {g : Nat} {S : Nat → Prop} {w : World} {v : Value} {p : List Nat} (h : PathIn g S w v p) : Ints w v (up p) := by
 obtain ⟨A, cap, rfl, h⟩ := h
 refine ⟨A, cap, by simp, ?_⟩
 rcases h with rfl | ⟨b, o, rfl, h1, _, _, h2⟩
 ·exact .inl rfl
 ·exact .inr ⟨b, o, rfl, h1, fun i hi => by rw [List.getElem_map]; exact h2 i (by simpa using hi)⟩
theorem PathIn.slice {g : Nat} {S : Nat → Prop} {w : World} {v : Value} {p : List Nat} (h : PathIn g S w v p) : ∃ A cap, v = .slice A p.length cap := by
 obtain ⟨A, cap, h, _⟩ := h
 exact ⟨A, cap, h⟩
theorem PathIn.mv {g : Nat} {S S' : Nat → Prop} {w w' : World} {v : Value} {p : List Nat} (h : PathIn g S w v p) (k : Mv g S S' w w') : PathIn g S' w' v p := by
 obtain ⟨A, cap, rfl, h⟩ := h
 refine ⟨A, cap, rfl, h.imp id ?_⟩
 rintro ⟨b, o, rfl, h1, h2, h3, h4⟩
 exact ⟨b, o, rfl, Nat.lt_of_lt_of_le h1 k.touch.size, fun e => (k.grow b e).elim h2 (by omega), h3, fun i hi => k.touch.cell (h4 i hi) (fun e => e.elim h2 h3)⟩
theorem PathIn.nil (g : Nat) (S : Nat → Prop) (w : World) : PathIn g S w (.slice none 0 0) [] := ⟨none, 0, rfl, .inl rfl⟩
theorem PathIn.new {g : Nat} {S : Nat → Prop} {w w' : World} {v : Value} {p : List Nat} (hS : ∀ b, S b → b < w.heap.size) (hg : g < w.heap.size) (h : w'.ownsRow w.heap.size 3 1 v (up p).length (intVs (up p))) : PathIn g S w' v p := by
 rcases h.2 with ⟨h1, h2⟩ | ⟨b, cap, cur, h1, hB, _⟩
 ·rw [List.length_map] at h2
  rw [List.length_eq_zero_iff.1 h2, h1]
  exact PathIn.nil _ _ _
 ·rw [List.length_map] at h1
  refine ⟨_, cap, h1, .inr ⟨b, 0, rfl, (h.lt b (by rw [h1]; rfl)).2, fun e => by have := hS b e; omega, by omega, fun i hi => ?_⟩⟩
  have := h.cells (g := b) (by rw [h1]; rfl) i (.int .i64 (p[i] : Nat)) (by simp [hi])
  rw [Addr.add_mid, Nat.zero_add] at this
  rw [Nat.zero_add]
  exact this
theorem path_cat {g : Nat} {S : Nat → Prop} {W : World} {A : Option Addr} {cap : Nat} {p : List Nat} (hp : PathIn g S W (.slice A p.length cap) p) (hS : ∀ b, S b → b < W.heap.size) (hg : g < W.heap.size) (hl : p.length ≤ 1000) (i n : Nat) :
  Calls Tryz.prog 107 #[.slice (some ⟨W.heap.size + 1, 0, none⟩) 2 2] (((W.drewN n).alloc (.cells #[.int .i64 (i : Int)] 3)).alloc (.cells #[.slice A p.length cap, .slice (some ⟨W.heap.size, 0, none⟩) 1 1] 51))
   fun e w' => ∃ A' cap', e = .returned (.slice A' (p.length + 1) cap') ∧ PathIn g S w' (.slice A' (p.length + 1) cap') (p ++ [i]) ∧ Fresh W w' := by
 have hb1 : Blk (((W.drewN n).alloc (.cells #[.int .i64 (i : Int)] 3)).alloc (.cells #[.slice A p.length cap, .slice (some ⟨W.heap.size, 0, none⟩) 1 1] 51)) W.heap.size 3 #[.int .i64 (i : Int)] := (Blk.new (W.drewN n) _ _).alloc _
 have hb2 : Blk (((W.drewN n).alloc (.cells #[.int .i64 (i : Int)] 3)).alloc (.cells #[.slice A p.length cap, .slice (some ⟨W.heap.size, 0, none⟩) 1 1] 51)) (W.heap.size + 1) 51 #[.slice A p.length cap, .slice (some ⟨W.heap.size, 0, none⟩) 1 1] := Blk.new2 (W.drewN n) _ _ _
 have hf : Fresh W (((W.drewN n).alloc (.cells #[.int .i64 (i : Int)] 3)).alloc (.cells #[.slice A p.length cap, .slice (some ⟨W.heap.size, 0, none⟩) 1 1] 51)) := (((Touch.refl _ W).drewN n).alloc _).alloc _
 generalize (((W.drewN n).alloc (.cells #[.int .i64 (i : Int)] 3)).alloc (.cells #[.slice A p.length cap, .slice (some ⟨W.heap.size, 0, none⟩) 1 1] 51)) = X at *
 refine (concat2 (up p) (up [i]) _ _ _ X (hp.ints.fresh hf) ⟨some ⟨W.heap.size, 0, none⟩, 1, rfl, .inr ⟨W.heap.size, 0, rfl, hb1.lt, fun j hj => ?_⟩⟩ (hb2.cell 0) (hb2.cell 1) (by simp) (by simp; omega)).mono ?_
 ·have : j = 0 := by simpa using hj
  subst this
  exact hb1.cell 0
 ·rintro _ w' ⟨v', rfl, ho, hf'⟩
  rw [← List.map_append] at ho
  have hP := PathIn.new (g := g) (S := S) (p := p ++ [i]) (fun b hb => Nat.lt_of_lt_of_le (hS b hb) hf.size) (Nat.lt_of_lt_of_le hg hf.size) ho
  obtain ⟨A', cap', rfl⟩ := hP.slice
  rw [List.length_append] at hP ⊢
  exact ⟨A', cap', rfl, hP, hf.trans hf'⟩
structure Wk (σ κ : Type) where
 W0 : World
 g : Nat
 tg : Nat
 tv : Value
 T : List Lx.PTok
 C : Clo σ κ
 fi : Nat
 ci : Array Value
 fo : Nat
 co : Array Value
 St : σ → (Nat → Prop) → World → Prop
 Dn : κ → (Nat → Prop) → World → Nat → Array Value → Prop
 Lim : σ → Prop
 Kp : κ → σ → Prop
variable {σ κ : Type}
structure Wk.Good (k : Wk σ κ) : Prop where
 len : k.T.length ≤ 100000
 place : ∀ t ∈ k.T, t.from_ ≤ 2000000 ∧ t.to_ ≤ 2000000
 far : k.W0.heap.size ≤ k.g
 lt : ∀ s S w b, k.St s S w → S b → k.W0.heap.size ≤ b ∧ b < w.heap.size ∧ b ≠ k.g ∧ b ≠ k.tg
 stmv : ∀ s S w w', k.St s S w → Touch (fun b => b = k.g) w w' → k.St s S w'
 dnmv : ∀ q S S' w w' d cd, k.Dn q S w d cd → Mv k.g S S' w w' → k.Dn q S' w' d cd
 off : ∀ s S w p v (pl : Nat), k.St s S w → PathIn k.g S w v p → p.length ≤ 1000 → pl ≤ 2000000 → k.Lim (k.C.off s p pl) → Calls Tryz.prog k.fo (#[v, .int .i64 (pl : Int)] ++ k.co) w fun e w' => e = .returned (.tuple #[]) ∧ ∃ S', k.St (k.C.off s p pl) S' w' ∧ Mc S S' w w'
 item : ∀ s S w p v (pl : Nat), k.St s S w → PathIn k.g S w v p → p.length ≤ 1000 → pl ≤ 2000000 → k.Lim (k.C.item s p pl) → Calls Tryz.prog k.fi (#[v, .int .i64 (pl : Int)] ++ k.ci) w fun e w' => ∃ d cd S', e = .returned (.func (.func d) #[] cd) ∧ k.St (k.C.item s p pl) S' w' ∧ Mc S S' w w' ∧ k.Dn (k.C.key s) S' w' d cd
 done : ∀ s S w q d cd (pl : Nat), k.St s S w → k.Dn q S w d cd → k.Kp q s → pl ≤ 2000000 → k.Lim (k.C.done s q pl) → Calls Tryz.prog d (#[.int .i64 (pl : Int)] ++ cd) w fun e w' => e = .returned (.tuple #[]) ∧ ∃ S', k.St (k.C.done s q pl) S' w' ∧ Mc S S' w w'
 kp0 : ∀ s p pl, k.Kp (k.C.key s) (k.C.item s p pl)
 kpo : ∀ q s p pl, k.Kp q s → k.Kp q (k.C.off s p pl)
 kpi : ∀ q s p pl, k.Kp q s → k.Kp q (k.C.item s p pl)
 kpd : ∀ q s q' pl, k.Kp q s → k.Kp q (k.C.done s q' pl)
 limo : ∀ s p pl, k.Lim (k.C.off s p pl) → k.Lim s
 limi : ∀ s p pl, k.Lim (k.C.item s p pl) → k.Lim s
 limd : ∀ s q pl, k.Lim (k.C.done s q pl) → k.Lim s
 callo : ∀ (a : Array Value) (w : World), (callFunc k.fo a).run Tryz.prog w = .ok (.enter k.fo a) w
 calli : ∀ (a : Array Value) (w : World), (callFunc k.fi a).run Tryz.prog w = .ok (.enter k.fi a) w
 calld : ∀ q S w d cd, k.Dn q S w d cd → ∀ (a : Array Value) (w : World), (callFunc d a).run Tryz.prog w = .ok (.enter d a) w
structure Wk.At (k : Wk σ κ) (S : Nat → Prop) (f : Nat) (s : σ) (w : World) : Prop where
 low : Low k.W0 w
 box : Blk w k.g 127 #[k.tv, .int .i64 (f : Int), .func (.func k.fi) #[] k.ci, .func (.func k.fo) #[] k.co]
 tok : ∃ A cap, k.tv = .slice A k.T.length cap ∧ ∀ i (h : i < k.T.length), A = some ⟨k.tg, 0, none⟩ ∧ k.tg < w.heap.size ∧ k.tg ≠ k.g ∧ w.cell? ⟨k.tg, i * 4 + 2, none⟩ = some (.int .i64 (k.T[i].from_ : Nat)) ∧ w.cell? ⟨k.tg, i * 4 + 3, none⟩ = some (.int .i64 (k.T[i].to_ : Nat))
 st : k.St s S w
theorem Wk.At.mc {k : Wk σ κ} (hk : k.Good) {S S' : Nat → Prop} {f : Nat} {s s' : σ} {w w' : World} (h : k.At S f s w) (m : Mc S S' w w') (hs : k.St s' S' w') : k.At S' f s' w' := by
 refine ⟨h.low.trans' m.touch fun i hi => .inl (hk.lt s S w i h.st hi).1, m.touch.blk h.box fun e => (hk.lt s S w _ h.st e).2.2.1 rfl, ?_, hs⟩
 obtain ⟨A, cap, h1, h2⟩ := h.tok
 refine ⟨A, cap, h1, fun i hi => ?_⟩
 obtain ⟨a, b, c, d, e⟩ := h2 i hi
 exact ⟨a, Nat.lt_of_lt_of_le b m.touch.size, c, m.touch.cell d fun e => (hk.lt s S w _ h.st e).2.2.2 rfl, m.touch.cell e fun e => (hk.lt s S w _ h.st e).2.2.2 rfl⟩
theorem Wk.At.fresh {k : Wk σ κ} (hk : k.Good) {S : Nat → Prop} {f : Nat} {s : σ} {w w' : World} (h : k.At S f s w) (hf : Fresh w w') : k.At S f s w' :=
 h.mc hk ⟨hf.mono fun _ hf => hf.elim, fun _ h => .inl h⟩ (hk.stmv s S w w' h.st (hf.mono fun _ hf => hf.elim))
theorem Wk.At.next {k : Wk σ κ} (hk : k.Good) {S : Nat → Prop} {f f' : Nat} {s : σ} {w : World} (h : k.At S f s w) (x : Int) (hx : x = (f' : Int)) : k.At S f' s (w.setCell ⟨k.g, 1, none⟩ (.int .i64 x)) ∧ Mv k.g S S w (w.setCell ⟨k.g, 1, none⟩ (.int .i64 x)) := by
 subst hx
 have ht : Touch (fun b => b = k.g) w (w.setCell ⟨k.g, 1, none⟩ (.int .i64 (f' : Int))) := (Touch.refl (fun b => b = k.g) w).setCell (p := ⟨k.g, 1, none⟩) (.inl rfl) _
 refine ⟨⟨h.low.trans' ht fun i hi => by subst hi; exact .inl hk.far, ?_, ?_, hk.stmv s S w _ h.st ht⟩, ⟨ht.mono fun _ => .inr, fun _ h => .inl h⟩⟩
 ·have := h.box.put 1 (.int .i64 (f' : Int))
  exact this
 ·obtain ⟨A, cap, h1, h2⟩ := h.tok
  refine ⟨A, cap, h1, fun i hi => ?_⟩
  obtain ⟨a, b, c, d, e⟩ := h2 i hi
  exact ⟨a, Nat.lt_of_lt_of_le b ht.size, c, ht.cell d c, ht.cell e c⟩
theorem Wk.At.glt {k : Wk σ κ} {S : Nat → Prop} {f : Nat} {s : σ} {w : World} (h : k.At S f s w) : k.g < w.heap.size := h.box.lt
theorem Wk.At.slt {k : Wk σ κ} (hk : k.Good) {S : Nat → Prop} {f : Nat} {s : σ} {w : World} (h : k.At S f s w) : ∀ b, S b → b < w.heap.size := fun b hb => (hk.lt s S w b h.st hb).2.1
theorem Wk.At.cells {k : Wk σ κ} {S : Nat → Prop} {f : Nat} {s : σ} {w : World} (h : k.At S f s w) :
  w.cell? ⟨k.g, 0, none⟩ = some k.tv ∧ w.cell? ⟨k.g, 1, none⟩ = some (.int .i64 (f : Int)) ∧ w.cell? ⟨k.g, 2, none⟩ = some (.func (.func k.fi) #[] k.ci) ∧ w.cell? ⟨k.g, 3, none⟩ = some (.func (.func k.fo) #[] k.co) ∧ w.frozen? ⟨k.g, 1, none⟩ = false :=
 ⟨h.box.cell 0, h.box.cell 1, h.box.cell 2, h.box.cell 3, h.box.frozen 1⟩
theorem Wk.Good.lim {k : Wk σ κ} (hk : k.Good) : (∀ ks p i f s, k.Lim (runRow k.C k.T ks p i f s) → k.Lim s) ∧ ∀ l p j f s, k.Lim (runSegs k.C k.T l p j f s) → k.Lim s := by
 refine Tr.rows_ind (P := fun ks => ∀ p i f s, k.Lim (runRow k.C k.T ks p i f s) → k.Lim s) (Q := fun l => ∀ p j f s, k.Lim (runSegs k.C k.T l p j f s) → k.Lim s) ?_ ?_ ?_ ?_
 ·intro p i f s h; rw [runRow] at h; exact hk.limo _ _ _ h
 ·intro n ns h1 h2 p i f s h
  rw [runRow] at h
  exact hk.limo _ _ _ (hk.limi _ _ _ (h1 _ _ _ _ (hk.limd _ _ _ (h2 _ _ _ _ h))))
 ·intro p j f s h; rw [runSegs] at h; exact h
 ·intro q b a r h1 h2 p j f s h
  rw [runSegs] at h
  exact h1 _ _ _ _ (h2 _ _ _ _ h)
theorem Wk.Good.kp {k : Wk σ κ} (hk : k.Good) (q : κ) : (∀ ks p i f s, k.Kp q s → k.Kp q (runRow k.C k.T ks p i f s)) ∧ ∀ l p j f s, k.Kp q s → k.Kp q (runSegs k.C k.T l p j f s) := by
 refine Tr.rows_ind (P := fun ks => ∀ p i f s, k.Kp q s → k.Kp q (runRow k.C k.T ks p i f s)) (Q := fun l => ∀ p j f s, k.Kp q s → k.Kp q (runSegs k.C k.T l p j f s)) ?_ ?_ ?_ ?_
 ·intro p i f s h; rw [runRow]; exact hk.kpo _ _ _ _ h
 ·intro n ns h1 h2 p i f s h
  rw [runRow]
  exact h2 _ _ _ _ (hk.kpd _ _ _ _ (h1 _ _ _ _ (hk.kpi _ _ _ _ (hk.kpo _ _ _ _ h))))
 ·intro p j f s h; rw [runSegs]; exact h
 ·intro q' b a r h1 h2 p j f s h
  rw [runSegs]
  exact h2 _ _ _ _ (h1 _ _ _ _ h)
def Wk.Ends (k : Wk σ κ) (S : Nat → Prop) (f : Nat) (s : σ) (w : World) (e : Ending) (w' : World) : Prop := e = .returned (.tuple #[]) ∧ ∃ S', k.At S' f s w' ∧ Mv k.g S S' w w'
def Wk.RowS (k : Wk σ κ) (a : Nd) : Prop := ∀ (S : Nat → Prop) (f : Nat) (s : σ) (w : World) (p : List Nat) (v sl kd tx cl : Value), k.At S f s w → RepL k.W0 a.kids sl → PathIn k.g S w v p → p.length + 2 * Tr.depth a ≤ 500 → f + (rowT a.kids).length ≤ k.T.length → k.Lim (runRow k.C k.T a.kids p 0 f s) →
 Calls Tryz.prog 74 #[.pointer (some ⟨k.g, 0, none⟩), .agg #[kd, tx, cl, sl], v] w (k.Ends S (f + (rowT a.kids).length) (runRow k.C k.T a.kids p 0 f s) w)
def Wk.TreeS (k : Wk σ κ) (n : Nd) : Prop := ∀ (S : Nat → Prop) (f : Nat) (s : σ) (w : World) (p : List Nat) (v sl : Value), k.At S f s w → RepL k.W0 n.kids sl → PathIn k.g S w v p → p.length + 2 * Tr.depth n ≤ 500 → f + (itemT n).length ≤ k.T.length → k.Lim (runSegs k.C k.T (segs n) p 0 f s) →
 Calls Tryz.prog 108 #[.pointer (some ⟨k.g, 0, none⟩), nv n sl, v] w (k.Ends S (f + (itemT n).length) (runSegs k.C k.T (segs n) p 0 f s) w)
end Go.Proofs.YtgfhlfbcoimojaaGreat

/- The parser of the notation in memory, and what its calls may turn. -/
namespace Go.Proofs.YtgfhlfbcoimojaaGreat
open Go.RowKit
open Tr (Nd)
open Lx (PTok)
def PT (g B : Nat) (w : World) (b : Nat) : Prop := b = g ∨ (B ≤ b ∧ ∃ cs fr, w.heap[b]? = some (.cells cs 3 fr))
abbrev Mp (g B : Nat) (w w' : World) : Prop := Touch (PT g B w) w w'
theorem Mp.trans {g B : Nat} {a b c : World} (h : Mp g B a b) (k : Mp g B b c) : Mp g B a c := by
 refine ⟨k.os.trans h.os, k.tape.trans h.tape, k.output.trans h.output, Nat.le_trans h.size k.size, fun i hi hn => ?_⟩
 have h1 := h.block i hi hn
 refine (k.block i (Nat.lt_of_lt_of_le hi h.size) fun hs => hn ?_).trans h1
 rcases hs with hs | ⟨h2, cs, fr, h3⟩
 ·exact .inl hs
 ·exact .inr ⟨h2, cs, fr, by rw [← h1]; exact h3⟩
theorem Mp.fresh {g B : Nat} {a b : World} (h : Fresh a b) : Mp g B a b := h.mono fun _ h => h.elim
theorem Mp.blk {g B : Nat} {a b : World} {k : Nat} {t : TypeId} {cs : Array Value} (h : Mp g B a b) (hb : Blk a k t cs) (hk : k ≠ g) (ht : t ≠ 3) : Blk b k t cs := by
 refine Touch.blk h hb ?_
 rintro (e | ⟨_, cur, fr, h3⟩)
 ·exact hk e
 ·unfold Blk at hb
  rw [hb] at h3
  cases h3
  exact ht rfl
theorem Mp.put {g B : Nat} (w : World) (i : Nat) (v : Value) : Mp g B w (w.setCell ⟨g, i, none⟩ v) := (Touch.refl _ _).setCell (.inl (.inl rfl)) v
theorem Mp.grown {g B : Nat} {a b c : World} {n : Nat} {v : Value} {xs : List Value} (h : Mp g B a b) (ho : b.ownsRow B 3 1 v n xs) (hg : b.grownBy c v.ownBlock) : Mp g B a c :=
 Mp.trans h (Touch.grown (S := PT g B b) (Touch.refl _ b) hg fun k hk => .inl (by
  obtain ⟨h1, cur, h2⟩ := owns_type ho hk
  exact .inr ⟨h1, cur, _, h2⟩))
inductive TreT (B : Nat) (W : World) : List Nd → Value → Prop
 | nil (A : Option Addr) (cap : Nat) : TreT B W [] (.slice A 0 cap)
 | row (g cap : Nat) (ks : List Nd) (sl : Nat → Value) (hB : B ≤ g) (hg : ∃ cs fr, W.heap[g]? = some (.cells cs 26 fr)) (hl : ks.length ≤ maxLen)
   (ht : ∀ i (hi : i < ks.length), ks[i].text.length ≤ maxLen)
   (h0 : ∀ i (hi : i < ks.length), W.cell? ⟨g, i * 4, none⟩ = some (.int .i64 ks[i].kind))
   (h1 : ∀ i (hi : i < ks.length), W.cell? ⟨g, i * 4 + 1, none⟩ = some (.string ⟨ks[i].text.toArray⟩))
   (h2 : ∀ i (hi : i < ks.length), W.cell? ⟨g, i * 4 + 2, none⟩ = some (.int .i64 ks[i].cols))
   (h3 : ∀ i (_hi : i < ks.length), W.cell? ⟨g, i * 4 + 3, none⟩ = some (sl i))
   (hk : ∀ i (hi : i < ks.length), TreT B W ks[i].kids (sl i)) : TreT B W ks (.slice (some ⟨g, 0, none⟩) ks.length cap)
theorem TreT.slice {B : Nat} {W : World} {ks : List Nd} {v : Value} (h : TreT B W ks v) : ∃ A cap, v = .slice A ks.length cap := by
 cases h with
 | nil A cap => exact ⟨A, cap, rfl⟩
 | row g cap _ sl => exact ⟨_, _, rfl⟩
theorem TreT.len {B : Nat} {W : World} {ks : List Nd} {v : Value} (h : TreT B W ks v) : ks.length ≤ maxLen := by
 cases h with
 | nil A cap => exact Nat.zero_le _
 | row g cap _ sl hB hg hl => exact hl
theorem TreT.mv {B : Nat} {W W' : World} {S : Nat → Prop} {ks : List Nd} {v : Value} (h : TreT B W ks v) (ht : Touch S W W') (hS : ∀ k cs fr, S k → B ≤ k → W.heap[k]? ≠ some (.cells cs 26 fr)) : TreT B W' ks v := by
 induction h with
 | nil A cap => exact .nil A cap
 | row g cap ks sl hB hg hl hx h0 h1 h2 h3 hk ih =>
  obtain ⟨cs, fr, hg⟩ := hg
  have hn : ¬ S g := fun hs => hS g cs fr hs hB hg
  exact .row g cap ks sl hB ⟨cs, fr, (ht.block g (Array.getElem?_eq_some_iff.1 hg).1 hn).trans hg⟩ hl hx (fun i hi => ht.cell (h0 i hi) hn) (fun i hi => ht.cell (h1 i hi) hn) (fun i hi => ht.cell (h2 i hi) hn) (fun i hi => ht.cell (h3 i hi) hn) ih
theorem TreT.base {B B' : Nat} {W : World} {ks : List Nd} {v : Value} (h : TreT B W ks v) (hb : B' ≤ B) : TreT B' W ks v := by
 induction h with
 | nil A cap => exact .nil A cap
 | row g cap ks sl hB hg hl hx h0 h1 h2 h3 hk ih => exact .row g cap ks sl (Nat.le_trans hb hB) hg hl hx h0 h1 h2 h3 ih
theorem TreT.fresh {B : Nat} {W W' : World} {ks : List Nd} {v : Value} (h : TreT B W ks v) (hf : Fresh W W') : TreT B W' ks v := h.mv hf fun _ _ _ h _ => h.elim
theorem TreT.rep {B : Nat} {W : World} {ks : List Nd} {v : Value} (h : TreT B W ks v) : RepL W ks v := by
 induction h with
 | nil A cap => exact .nil A cap
 | row g cap ks sl hB hg hl hx h0 h1 h2 h3 hk ih =>
  obtain ⟨cs, fr, hg⟩ := hg
  exact RepL.row g 0 cap ks sl (Array.getElem?_eq_some_iff.1 hg).1 hl hx (by simpa using h0) (by simpa using h1) (by simpa using h2) (by simpa using h3) ih
def NodeT (B : Nat) (W : World) (n : Nd) (v : Value) : Prop := ∃ sl, v = .agg #[.int .i64 n.kind, .string ⟨n.text.toArray⟩, .int .i64 n.cols, sl] ∧ TreT B W n.kids sl ∧ n.text.length ≤ maxLen
def NodesT (B : Nat) (W : World) : List Nd → List Value → Prop
 | [], cs => cs = []
 | n :: ks, cs => ∃ sl ds, cs = .int .i64 n.kind :: .string ⟨n.text.toArray⟩ :: .int .i64 n.cols :: sl :: ds ∧ (TreT B W n.kids sl ∧ n.text.length ≤ maxLen) ∧ NodesT B W ks ds
theorem NodesT.length {B : Nat} {W : World} : ∀ {ks : List Nd} {cs : List Value}, NodesT B W ks cs → cs.length = ks.length * 4
 | [], _, h => by rw [show _ = [] from h]; rfl
 | _ :: _, _, ⟨_, _, h, _, hd⟩ => by subst h; simp [hd.length]; omega
theorem NodesT.mv {B : Nat} {W W' : World} {S : Nat → Prop} (ht : Touch S W W') (hS : ∀ k cs fr, S k → B ≤ k → W.heap[k]? ≠ some (.cells cs 26 fr)) : ∀ {ks : List Nd} {cs : List Value}, NodesT B W ks cs → NodesT B W' ks cs
 | [], _, h => h
 | _ :: _, _, ⟨sl, ds, h, h1, hd⟩ => ⟨sl, ds, h, ⟨h1.1.mv ht hS, h1.2⟩, hd.mv ht hS⟩
theorem NodesT.base {B B' : Nat} {W : World} (hb : B' ≤ B) : ∀ {ks : List Nd} {cs : List Value}, NodesT B W ks cs → NodesT B' W ks cs
 | [], _, h => h
 | _ :: _, _, ⟨sl, ds, h, h1, hd⟩ => ⟨sl, ds, h, ⟨h1.1.base hb, h1.2⟩, hd.base hb⟩
theorem NodesT.fresh {B : Nat} {W W' : World} (hf : Fresh W W') {ks : List Nd} {cs : List Value} (h : NodesT B W ks cs) : NodesT B W' ks cs := h.mv hf fun _ _ _ h _ => h.elim
theorem NodesT.append {B : Nat} {W : World} : ∀ {ks ms : List Nd} {cs ds : List Value}, NodesT B W ks cs → NodesT B W ms ds → NodesT B W (ks ++ ms) (cs ++ ds)
 | [], _, _, _, h, hm => by rw [show _ = [] from h]; exact hm
 | _ :: _, _, _, _, ⟨sl, es, h, h1, hd⟩, hm => by subst h; exact ⟨sl, es ++ _, by simp, h1, hd.append hm⟩
theorem TreT.oneCell {B : Nat} {W : World} {ks : List Nd} {v : Value} (h : TreT B W ks v) : v.oneCell' = true := by
 obtain ⟨A, c, rfl⟩ := h.slice
 rfl
theorem NodesT.oneCell {B : Nat} {W : World} : ∀ {ks : List Nd} {cs : List Value}, NodesT B W ks cs → ∀ u ∈ cs, u.oneCell' = true
 | [], _, h, u, hu => by rw [show _ = [] from h] at hu; cases hu
 | _ :: _, _, ⟨sl, ds, h, h1, hd⟩, u, hu => by
  subst h
  rcases List.mem_cons.1 hu with rfl | hu
  ·rfl
  ·rcases List.mem_cons.1 hu with rfl | hu
   ·rfl
   ·rcases List.mem_cons.1 hu with rfl | hu
    ·rfl
    ·rcases List.mem_cons.1 hu with rfl | hu
     ·exact h1.1.oneCell
     ·exact hd.oneCell u hu
theorem NodesT.get {B : Nat} {W : World} : ∀ {ks : List Nd} {cs : List Value}, NodesT B W ks cs → ∀ i (hi : i < ks.length), ∃ sl, cs[i * 4]? = some (.int .i64 ks[i].kind) ∧ cs[i * 4 + 1]? = some (.string ⟨ks[i].text.toArray⟩) ∧ cs[i * 4 + 2]? = some (.int .i64 ks[i].cols) ∧ cs[i * 4 + 3]? = some sl ∧
  TreT B W ks[i].kids sl ∧ ks[i].text.length ≤ maxLen
 | [], _, _, i, hi => by simp at hi
 | n :: ks, _, ⟨sl, ds, h, h1, hd⟩, i, hi => by
  subst h
  cases i with
  | zero => exact ⟨sl, rfl, rfl, rfl, rfl, h1.1, h1.2⟩
  | succ i =>
   obtain ⟨sl', e0, e1, e2, e3, e4, e5⟩ := hd.get i (by simpa using hi)
   have hx : ∀ j, (.int .i64 n.kind :: .string ⟨n.text.toArray⟩ :: .int .i64 n.cols :: sl :: ds : List Value)[(i + 1) * 4 + j]? = ds[i * 4 + j]? := fun j => by
    rw [show (i + 1) * 4 + j = (i * 4 + j) + 4 by omega]
    rfl
   exact ⟨sl', (hx 0).trans e0, (hx 1).trans e1, (hx 2).trans e2, (hx 3).trans e3, e4, e5⟩
theorem NodesT.own {B B' : Nat} {W : World} {ks : List Nd} {cs : List Value} {v : Value} (h : NodesT B W ks cs) (hBB : B ≤ B') (ho : W.ownsRow B' 26 4 v ks.length cs) : TreT B W ks v := by
 rcases ho.2 with ⟨h1, h2⟩ | ⟨g, cap, cur, h1, hB', hg, h2, h3, _⟩
 ·rw [List.length_eq_zero_iff] at h2
  subst h2
  rw [h1]
  exact .nil _ _
 ·have hc : ∀ j u, cs[j]? = some u → W.cell? ⟨g, j, none⟩ = some u := fun j u hu => by
   have := ho.cells (g := g) (by rw [h1]; rfl) j u hu
   rwa [Addr.add_mid, Nat.zero_add] at this
  have hsl : ∀ i, ∃ sl, ∀ (hi : i < ks.length), cs[i * 4 + 3]? = some sl ∧ TreT B W ks[i].kids sl := fun i => by
   by_cases hi : i < ks.length
   ·obtain ⟨sl, _, _, _, e3, e4, _⟩ := h.get i hi
    exact ⟨sl, fun _ => ⟨e3, e4⟩⟩
   ·exact ⟨.bool false, fun h => absurd h hi⟩
  rw [h1]
  refine .row g cap ks (fun i => Classical.choose (hsl i)) (Nat.le_trans hBB hB') ⟨_, _, hg⟩ (Nat.le_trans h2 h3) (fun i hi => (h.get i hi).elim fun _ e => e.2.2.2.2.2) (fun i hi => ?_) (fun i hi => ?_) (fun i hi => ?_) (fun i hi => hc _ _ (Classical.choose_spec (hsl i) hi).1) (fun i hi => (Classical.choose_spec (hsl i) hi).2)
  ·obtain ⟨_, e0, _⟩ := h.get i hi; exact hc _ _ e0
  ·obtain ⟨_, _, e1, _⟩ := h.get i hi; exact hc _ _ e1
  ·obtain ⟨_, _, _, e2, _⟩ := h.get i hi; exact hc _ _ e2
theorem TreT.src {B : Nat} {W : World} {ks : List Nd} {v : Value} (h : TreT B W ks v) : ∃ cs, NodesT B W ks cs ∧ Src W 4 v ks.length cs := by
 cases h with
 | nil A cap => 
  refine ⟨[], rfl, A, cap, rfl, rfl, ?_⟩
  cases A with
  | none => exact .inl ⟨rfl, rfl, rfl⟩
  | some a => exact .inr ⟨a, rfl, fun j u hu => by simp at hu⟩
 | row g cap _ sl hB hg hl hx h0 h1 h2 h3 hk =>
  have : ∀ (l : List Nd) (o : Nat), (∀ i (hi : i < l.length), ∃ hq : o + i < ks.length, l[i] = ks[o + i]) → ∃ cs, NodesT B W l cs ∧ ∀ j u, cs[j]? = some u → W.cell? ⟨g, o * 4 + j, none⟩ = some u := by
   intro l
   induction l with
   | nil => intro o _; exact ⟨[], rfl, fun j u hu => by simp at hu⟩
   | cons n l ih =>
    intro o hl
    obtain ⟨ds, d1, d2⟩ := ih (o + 1) fun i hi => by
     obtain ⟨hq, e⟩ := hl (i + 1) (by simpa using hi)
     refine ⟨by omega, ?_⟩
     have e' : l[i] = ks[o + (i + 1)] := by simpa using e
     rw [e']
     congr 1
     omega
    obtain ⟨hq, e⟩ := hl 0 (by simp)
    simp only [List.getElem_cons_zero, Nat.add_zero] at e hq
    refine ⟨.int .i64 n.kind :: .string ⟨n.text.toArray⟩ :: .int .i64 n.cols :: sl o :: ds, ⟨sl o, ds, rfl, ⟨by rw [e]; exact hk o hq, by rw [e]; exact hx o hq⟩, d1⟩, fun j u hu => ?_⟩
    match j, hu with
    | 0, hu => cases hu; rw [e]; exact h0 o hq
    | 1, hu => cases hu; rw [e]; exact h1 o hq
    | 2, hu => cases hu; rw [e]; exact h2 o hq
    | 3, hu => cases hu; exact h3 o hq
    | j + 4, hu =>
     have := d2 j u hu
     rw [show o * 4 + (j + 4) = (o + 1) * 4 + j by omega]
     exact this
  obtain ⟨cs, d1, d2⟩ := this ks 0 fun i hi => ⟨by simpa using hi, by simp⟩
  refine ⟨cs, d1, _, cap, rfl, d1.length, .inr ⟨_, rfl, fun j u hu => ?_⟩⟩
  rw [Addr.add_mid, Nat.zero_add]
  simpa using d2 j u hu
end Go.Proofs.YtgfhlfbcoimojaaGreat
