/- Part 23 of 33 of a proof; its texts, joined: MoG, MnW, MoH. No condition. -/
import Derived.Test.YtfnjcldgicohaaaGreatWa21
import Derived.Test.YtfnjcldgicohaaaGreatWa22
import Derived.Test.YtfnjcldgicohaaaGreatWa13
import Derived.Test.YtfnjcldgicohaaaGreatWa17
set_option maxRecDepth 100000
set_option maxHeartbeats 4000000
namespace Go.Proofs.YtfnjcldgicohaaaGreat
open Go.RowKit
open Tr (Nd)
open El (E Rd ent rRow rItem rItems rRows rLines rowNil)
namespace El
theorem next_items (l : List E) (h : ∀ x ∈ l, ∀ s, (rItem x s).2.1 ≤ s.1 + count x) : ∀ s, (rItems l s).2.1 ≤ s.1 + countL l := by
 induction l with
 | nil => intro s; rw [rItems, countL]; exact Nat.le_refl _
 | cons x l ih =>
  intro s;rw [rItems];split
  ·have h1 := h x (List.mem_cons_self ..) s
   have h2 := ih (fun y hy => h y (List.mem_cons_of_mem _ hy)) (rItem x s).2;rw [countL];show (rItems l (rItem x s).2).2.1 ≤ _;omega
  ·show s.1 ≤ _
   omega
theorem next_rows (nm : Bytes) (l : List E) (h : ∀ x ∈ l, ∀ nm s, (rRow nm x s).2.1 ≤ s.1 + count x) : ∀ s, (rRows nm l s).2.1 ≤ s.1 + countL l := by
 induction l with
 | nil => intro s; rw [rRows, countL]; exact Nat.le_refl _
 | cons x l ih =>
  intro s;rw [rRows];split
  ·have h1 := h x (List.mem_cons_self ..) nm s
   have h2 := ih (fun y hy => h y (List.mem_cons_of_mem _ hy)) (rRow nm x s).2;rw [countL];show (rRows nm l (rRow nm x s).2).2.1 ≤ _;omega
  ·show s.1 ≤ _
   omega
theorem next_lines (c : Int) (l : List E) (h : ∀ x ∈ l, ∀ y ∈ x.kids, ∀ nm s, (rRow nm y s).2.1 ≤ s.1 + count y) : ∀ s, (rLines c l s).2.1 ≤ s.1 + countL l := by
 induction l with
 | nil => intro s; rw [rLines, countL]; exact Nat.le_refl _
 | cons x l ih =>
  intro s;obtain ⟨n, a, ks, t⟩ := x;rw [rLines];split
  ·have h1 := next_rows nMtd ks (h (.mk n a ks t) (List.mem_cons_self ..)) (ent (okLine c (.mk n a ks t)) s)
   have h2 := ih (fun y hy => h y (List.mem_cons_of_mem _ hy)) (rRows nMtd ks (ent (okLine c (.mk n a ks t)) s)).2;rw [countL, count];show (rLines c l (rRows nMtd ks (ent (okLine c (.mk n a ks t)) s)).2).2.1 ≤ _;have h3 : (ent (okLine c (.mk n a ks t)) s).1 = s.1 + 1 := rfl;omega
  ·show s.1 ≤ _
   omega
theorem next_both : ∀ (m : Nat) (e : E), count e ≤ m → (∀ nm s, (rRow nm e s).2.1 ≤ s.1 + count e) ∧ ∀ s, (rItem e s).2.1 ≤ s.1 + count e := by
 intro m
 induction m with
 | zero => intro e h; have := count_pos e; omega
 | succ m ih =>
  intro e hm
  have hk : ∀ x ∈ e.kids, count x ≤ m := by
   intro x hx;have := count_mem hx;rw [count_kids] at hm;omega
  refine ⟨fun nm s => ?_, fun s => ?_⟩
  ·have h1 := next_items e.kids (fun x hx s => (ih x (hk x hx)).2 s) (ent (okRow nm e) s)
   have h3 : (ent (okRow nm e) s).1 = s.1 + 1 := rfl;rw [count_kids];obtain ⟨n, a, ks, t⟩ := e;rw [rRow];show (rItems ks (ent (okRow nm (.mk n a ks t)) s)).2.1 ≤ _;have h1 : (rItems ks (ent (okRow nm (.mk n a ks t)) s)).2.1 ≤ (ent (okRow nm (.mk n a ks t)) s).1 + countL ks := h1;have h4 : (E.mk n a ks t).kids = ks := rfl;rw [h4];omega
  ·have h1 := next_rows nMrow e.kids (fun x hx nm s => (ih x (hk x hx)).1 nm s) (ent (okItem e) s)
   have h2 := next_lines (colsN e.kids) e.kids (fun x hx y hy nm s => (ih y (by have := count_mem hy; have := count_kids x; have := hk x hx; omega)).1 nm s) (ent (okItem e) s);have h3 : (ent (okItem e) s).1 = s.1 + 1 := rfl;rw [rItem_eq, count_kids]
   dsimp only
   split <;> omega
theorem next_row (nm : Bytes) (e : E) (s : Rd) : (rRow nm e s).2.1 ≤ s.1 + count e := (next_both _ e (Nat.le_refl _)).1 nm s
theorem next_item (e : E) (s : Rd) : (rItem e s).2.1 ≤ s.1 + count e := (next_both _ e (Nat.le_refl _)).2 s
theorem values_le (e : E) (h : proper e = true) : ∀ x ∈ e.attrs, x.2.length ≤ 1000 := by
 intro x hx;rw [proper_eq, Bool.and_eq_true] at h;have h1 := h.1;unfold ownOK attrsOK at h1;simp only [Bool.and_eq_true, List.all_eq_true] at h1;have h2 := (h1.2.1 x hx).2;unfold valueOK at h2;simp only [Bool.and_eq_true, decide_eq_true_eq] at h2;omega
theorem proper_kids (e : E) (h : proper e = true) : ∀ x ∈ e.kids, proper x = true := by
 intro x hx;rw [proper_eq, Bool.and_eq_true, properL_all, List.all_eq_true] at h;exact h.2 x hx
theorem countL_drop (l : List E) (j : Nat) (h : j < l.length) : countL (l.drop j) = count l[j] + countL (l.drop (j + 1)) := by
 rw [List.drop_eq_getElem_cons h, countL]
end El
def MakesG (g : Nat) (w w' : World) (n : Nd) (v : Value) : Prop := ∃ sl, v = nv n sl ∧ Touch (fun k => k = g) w w' ∧ n.text.length ≤ maxLen ∧ Stab (fun k => k < w.heap.size) w' fun W => RepL W n.kids sl
structure Rdr (W0 : World) (g : Nat) (s : Rd) (w : World) : Prop where
 fr : Fresh W0 w
 blk : Blk w g 46 (rdC s)
 le : W0.heap.size ≤ g
theorem Rdr.fresh {W0 w w' : World} {g : Nat} {s : Rd} (h : Rdr W0 g s w) (hf : Fresh w w') : Rdr W0 g s w' := ⟨h.fr.trans hf, hf.blk h.blk fun h => h, h.le⟩
theorem Rdr.move {W0 w w' : World} {g : Nat} {s : Rd} {S : Nat → Prop} (h : Rdr W0 g s w) (ht : Touch S w w') (hg : ¬ S g) (hS : ∀ k, S k → W0.heap.size ≤ k) : Rdr W0 g s w' := ⟨h.fr.trans' ht fun k hk => .inr (hS k hk), ht.blk h.blk hg, h.le⟩
theorem Rdr.turn {W0 w w' : World} {g : Nat} {s s' : Rd} (h : Rdr W0 g s w) (ht : Touch (fun k => k = g) w w') (hb : Blk w' g 46 (rdC s')) : Rdr W0 g s' w' := ⟨h.fr.trans' ht fun k hk => .inr (by subst hk; exact h.le), hb, h.le⟩
theorem Rdr.lt {W0 w : World} {g : Nat} {s : Rd} (h : Rdr W0 g s w) : g < w.heap.size := h.blk.lt
theorem Rdr.kids {W0 w : World} {g : Nat} {s : Rd} {e : E} {va vk : Value} (h : Rdr W0 g s w) (hr : RepV W0 e va vk) : RepV w e va vk := hr.fresh h.fr
def RItemC (W0 : World) (g : Nat) (e : E) : Prop := ∀ (s : Rd) (va vk : Value) (w : World), s.2 < 0 → s.1 + El.count e ≤ 100000 → El.proper e = true → RepV W0 e va vk → Rdr W0 g s w →
 Calls Tryz.prog 32 #[.pointer (some ⟨g, 0, none⟩), ev e va vk] w fun x w' => ∃ v, x = .returned v ∧ MakesG g w w' (rItem e s).1 v ∧ Rdr W0 g (rItem e s).2 w'
def RRowC (W0 : World) (g : Nat) (e : E) : Prop := ∀ (nm : List UInt8) (s : Rd) (va vk : Value) (w : World), nm.length ≤ 100 → s.2 < 0 → s.1 + El.count e ≤ 100000 → El.proper e = true → RepV W0 e va vk → Rdr W0 g s w →
 Calls Tryz.prog 16 #[.pointer (some ⟨g, 0, none⟩), ev e va vk, .string ⟨nm.toArray⟩] w fun x w' => ∃ v, x = .returned v ∧ MakesG g w w' (rRow nm e s).1 v ∧ Rdr W0 g (rRow nm e s).2 w'
def GrowZ (B : Nat) (w : World) (ns : List Nd) (m : Nd) (sl v : Value) : Prop := B ≤ w.heap.size ∧ m.text.length ≤ maxLen ∧ ∃ cs0, w.ownsRow B 30 4 v (ns.length + 1) (cs0 ++ [.int .i64 0, .string ⟨#[]⟩, .int .i64 0, .slice none 0 0]) ∧
 Stab (fun k => v.ownBlock = some k ∨ k < B) w fun W => NodesAt W ns cs0 ∧ RepL W m.kids sl
theorem GrowZ.mv {B : Nat} {w w1 : World} {ns : List Nd} {m : Nd} {sl v : Value} {S : Nat → Prop} (h : GrowZ B w ns m sl v) (ht : Touch S w w1) (hS : ∀ k, S k → k < w.heap.size → k < B) : GrowZ B w1 ns m sl v := by
 obtain ⟨hB, hm, cs, h1, h2⟩ := h;refine ⟨Nat.le_trans hB ht.size, hm, cs, ownsRow_touch h1 ht fun k hk hs => ?_, h2.step ht (fun i hi hs => .inr (hS i hs hi)) (fun _ _ h => h)⟩;have h3 := h1.lt k hk;have := hS k hs h3.2;omega
theorem GrowZ.cells {B n : Nat} {w : World} {ns : List Nd} {m : Nd} {sl v : Value} (h : GrowZ B w ns m sl v) (hn : ns.length = n) : ∃ g cap, v = .slice (some ⟨g, 0, none⟩) (n + 1) cap ∧ n + 1 ≤ cap ∧ B ≤ g ∧ g < w.heap.size ∧
  w.cell? ⟨g, n * 4, none⟩ = some (.int .i64 0) ∧ w.cell? ⟨g, n * 4 + 1, none⟩ = some (.string ⟨#[]⟩) ∧ w.cell? ⟨g, n * 4 + 2, none⟩ = some (.int .i64 0) ∧ w.cell? ⟨g, n * 4 + 3, none⟩ = some (.slice none 0 0) ∧
  w.frozen? ⟨g, n * 4, none⟩ = false ∧ w.frozen? ⟨g, n * 4 + 1, none⟩ = false ∧ w.frozen? ⟨g, n * 4 + 2, none⟩ = false ∧ w.frozen? ⟨g, n * 4 + 3, none⟩ = false := by
 subst hn;obtain ⟨hB, hm, cs, h1, h2⟩ := h;have hl : cs.length = ns.length * 4 := by have := h1.1; rw [List.length_append] at this; simp only [List.length_cons, List.length_nil] at this; omega
 obtain ⟨g, cap, rfl, hcap, hb⟩ : ∃ g cap, v = .slice (some ⟨g, 0, none⟩) (ns.length + 1) cap ∧ ns.length + 1 ≤ cap ∧ B ≤ g := by
  rcases h1.2 with ⟨_, h0⟩ | ⟨g, cap, cur, e, hb, _, h5, _⟩
  ·omega
  ·exact ⟨g, cap, e, h5, hb⟩
 have hc : ∀ i z, ([Value.int .i64 0, .string ⟨#[]⟩, .int .i64 0, .slice none 0 0])[i]? = some z → i < 4 → w.cell? ⟨g, ns.length * 4 + i, none⟩ = some z := fun i z hz hi4 => by
  rw [h1.cellAt _ (by omega), List.getElem?_append_right (by omega), show ns.length * 4 + i - cs.length = i by omega];exact hz
 exact ⟨g, cap, rfl, hcap, hb, (h1.lt g rfl).2, hc 0 _ rfl (by omega), hc 1 _ rfl (by omega), hc 2 _ rfl (by omega), hc 3 _ rfl (by omega), h1.frozenAt _, h1.frozenAt _, h1.frozenAt _, h1.frozenAt _⟩
theorem GrowZ.put {B n : Nat} {w : World} {ns : List Nd} {m : Nd} {sl : Value} {g cap : Nat} (h : GrowZ B w ns m sl (.slice (some ⟨g, 0, none⟩) (n + 1) cap)) (hn : ns.length = n) :
  GrowN B (putAt4 w g (n * 4) (.int .i64 m.kind) (.string ⟨m.text.toArray⟩) (.int .i64 m.cols) sl) (ns ++ [m]) (.slice (some ⟨g, 0, none⟩) (n + 1) cap) := by
 subst hn;obtain ⟨hB, hm, cs, h1, h2⟩ := h;refine ⟨Nat.le_trans hB (touchAt4 w g _ _ _ _ _).size, _, by rw [List.length_append]; exact own_put4 h1 _ _ _ _, ?_⟩;refine (h2.step (touchAt4 w g _ _ _ _ _) (fun i _ hs => .inl (by subst hs; rfl)) (fun _ _ h => h)).imp fun W ⟨g1, g2⟩ => g1.append (NodesAt.one g2 hm)
section
variable {w : World} {ops : Array Oper} {rest : List Oper} {o : Oper} {a : Act} {Q : Exit → Act → World → Prop}
theorem wpList_append_zero (hgd : o.guard = none) (s x : Operand)
  (ho : o.op = .call { callee := .builtin .append, args := #[s, x], argTypes := #[28, 28] })
  {B n g : Nat} {ns : List Nd} {v : Value} (h : GrowN B w ns v) (hn : ns.length = n) (hs : a.eval s = v) (m : Nd) {sl : Value} (hb : Blk w g 30 #[.int .i64 0, .string ⟨#[]⟩, .int .i64 0, .slice none 0 0]) (hx : a.eval x = .slice (some ⟨g, 0, none⟩) 1 1)
  (w0 : Nat) (hB : B ≤ w0) (hown : ∀ k, v.ownBlock = some k → k < w0) (htl : m.text.length ≤ maxLen) (hrv : Stab (fun k => k < w0) w fun W => RepL W m.kids sl) (hlen : n < 2 ^ 40)
  (hK : ∀ A cp w', GrowZ B w' ns m sl (.slice A (n + 1) cp) → Touch (fun k => v.ownBlock = some k) w w' → ((Value.slice A (n + 1) cp).ownBlock = v.ownBlock ∨ (Value.slice A (n + 1) cp).ownBlock = some w.heap.size) → wpList Tryz.prog ops Q rest (a.put o.dst (.slice A (n + 1) cp)) w') : wpList Tryz.prog ops Q (o :: rest) a w := by
 subst hn;obtain ⟨hBw, cs, h1, h2⟩ := h;obtain ⟨i, hi, hz0, hz1, hz2⟩ := info_parts infoNodeG;have h3 : ∀ u ∈ [Value.int .i64 0, .string ⟨#[]⟩, .int .i64 0, .slice none 0 0], u.oneCell' = true := by simp [Value.oneCell']
 refine wpList_append_src _ hgd s x 28 ho B 30 i _ 4 56 Tryz.underlying28 hi hz0 hz1 hz2 rfl (by decide) v ns.length cs hs h1 _ 1 _ hx (Src.of_blk hb rfl) h3 (by simp only [maxLen]; omega) (by omega) hBw fun v' w' ho' hgr hv' => ?_
 obtain ⟨A, cp, rfl⟩ := own_slc ho';have ht : Touch (fun k => v.ownBlock = some k) w w' := Touch.grown (Touch.refl _ _) hgr fun k hk => .inl hk
 refine hK A cp w' ⟨Nat.le_trans hBw hgr.size, htl, _, ho', ?_⟩ ht hv'
 have hS : ∀ i, i < w.heap.size → ((Value.slice A (ns.length + 1) cp).ownBlock = some i ∨ i < B) → (v.ownBlock = some i ∨ i < B) := fun i hi hs => by
  rcases hs with hs | hs
  ·rcases hv' with h6 | h6 <;> rw [h6] at hs
   ·exact .inl hs
   ·cases hs; omega
  ·exact .inr hs
 refine (h2.step ht (fun i _ hs => .inl hs) hS).and (hrv.step ht (fun i hi hs => hown i hs) fun i hi hs => ?_)
 rcases hS i hi hs with h6 | h6
 ·exact hown i h6
 ·omega
end
theorem GrowN.two {B : Nat} {w : World} {a b : Nd} {v : Value} (h : GrowN B w [a, b] v) : ∃ g cap sa sb, (∃ A n c, sa = Value.slice A n c) ∧ (∃ A n c, sb = Value.slice A n c) ∧ v = .slice (some ⟨g, 0, none⟩) 2 cap ∧ 2 ≤ cap ∧ B ≤ g ∧ g < w.heap.size ∧ (∀ j, w.frozen? ⟨g, j, none⟩ = false) ∧
  (w.cell? ⟨g, 0, none⟩ = some (.int .i64 a.kind) ∧ w.cell? ⟨g, 1, none⟩ = some (.string ⟨a.text.toArray⟩) ∧ w.cell? ⟨g, 2, none⟩ = some (.int .i64 a.cols) ∧ w.cell? ⟨g, 3, none⟩ = some sa) ∧
  (w.cell? ⟨g, 4, none⟩ = some (.int .i64 b.kind) ∧ w.cell? ⟨g, 5, none⟩ = some (.string ⟨b.text.toArray⟩) ∧ w.cell? ⟨g, 6, none⟩ = some (.int .i64 b.cols) ∧ w.cell? ⟨g, 7, none⟩ = some sb) ∧
  GrowN B (putAt4 (putAt4 w g 0 (.int .i64 b.kind) (.string ⟨b.text.toArray⟩) (.int .i64 b.cols) sb) g 4 (.int .i64 a.kind) (.string ⟨a.text.toArray⟩) (.int .i64 a.cols) sa) [b, a] (.slice (some ⟨g, 0, none⟩) 2 cap) := by
 obtain ⟨hB, cs, h1, h2⟩ := h;obtain ⟨sa, ds, hcs, hra, _, sb, es, hds, hrb, _, hes⟩ := h2.now;replace hes : es = [] := hes;subst hes hds hcs
 obtain ⟨g, cap, rfl, hcap, hb⟩ : ∃ g cap, v = .slice (some ⟨g, 0, none⟩) 2 cap ∧ 2 ≤ cap ∧ B ≤ g := by
  rcases h1.2 with ⟨_, h0⟩ | ⟨g, cap, cur, e, hb, _, h5, _⟩
  ·cases h0
  ·exact ⟨g, cap, e, h5, hb⟩
 refine ⟨g, cap, sa, sb, ⟨_, _, hra.slice.choose_spec.imp fun _ h => h⟩, ⟨_, _, hrb.slice.choose_spec.imp fun _ h => h⟩, rfl, hcap, hb, (h1.lt g rfl).2, fun j => h1.frozenAt j, ⟨h1.cellAt 0 (by decide), h1.cellAt 1 (by decide), h1.cellAt 2 (by decide), h1.cellAt 3 (by decide)⟩, ⟨h1.cellAt 4 (by decide), h1.cellAt 5 (by decide), h1.cellAt 6 (by decide), h1.cellAt 7 (by decide)⟩, ?_⟩;have p0 := (h1.stored 0 (.int .i64 b.kind)).1;have p1 := (p0.stored 1 (.string ⟨b.text.toArray⟩)).1;have p2 := (p1.stored 2 (.int .i64 b.cols)).1;have p3 := (p2.stored 3 sb).1;have p4 := (p3.stored 4 (.int .i64 a.kind)).1;have p5 := (p4.stored 5 (.string ⟨a.text.toArray⟩)).1;have p6 := (p5.stored 6 (.int .i64 a.cols)).1;have p7 := (p6.stored 7 sa).1;have h3 := p7;have ht := (touchAt4 w g 0 (.int .i64 b.kind) (.string ⟨b.text.toArray⟩) (.int .i64 b.cols) sb).trans (touchAt4 _ g 4 (.int .i64 a.kind) (.string ⟨a.text.toArray⟩) (.int .i64 a.cols) sa);refine ⟨Nat.le_trans hB ht.size, [.int .i64 b.kind, .string ⟨b.text.toArray⟩, .int .i64 b.cols, sb, .int .i64 a.kind, .string ⟨a.text.toArray⟩, .int .i64 a.cols, sa], h3, ?_⟩;refine (h2.step ht (fun i _ hs => .inl (by subst hs; rfl)) (fun _ _ h => h)).imp fun W hW => ?_
 obtain ⟨sa', ds, hcs, ra, ta, sb', es, hds, rb, tb, hes⟩ := hW;replace hes : es = [] := hes;subst hes hds;cases hcs;exact ⟨sb, _, rfl, rb, tb, sa, [], rfl, ra, ta, rfl⟩
end Go.Proofs.YtfnjcldgicohaaaGreat
namespace Go.Proofs.YtfnjcldgicohaaaGreat
open Go.RowKit
open Tr (Nd)
open El (E Attrs itemN itemsN rowN)
attribute [local go_sem] stillV stillUpon
def itemNs : List (List UInt8) := [El.nMi, El.nMo, El.nMn, El.nMtext, El.nMfrac, El.nMsqrt, El.nMroot, El.nMsub, El.nMsup, El.nMsubsup, El.nMover, El.nMfenced, El.nMtable]
def ItemNC (e : E) : Prop := ∀ (g o : Nat) (va vk : Value) (w : World), ElAt w g o e va vk → El.okT e = true → e.name ∈ itemNs → El.count e ≤ 100000 → Calls Tryz.prog 25 #[.pointer (some ⟨g, o, none⟩)] w fun x w' => ∃ v, x = .returned v ∧ MakesN w w' (itemN e) v
def ItemsNC (e : E) : Prop := ∀ (g o : Nat) (va vk : Value) (w : World), ElAt w g o e va vk → (∀ x ∈ e.kids, El.okT x = true ∧ x.name ∈ itemNs) → El.count e ≤ 100000 → Calls Tryz.prog 13 #[.pointer (some ⟨g, o, none⟩)] w fun x w' => ∃ v, x = .returned v ∧ MakesN w w' (rowN e) v
theorem itemsN_len (l : List E) : (itemsN l).length = l.length := by rw [El.itemsN_map, List.length_map]
theorem itemsN_take (l : List E) (j : Nat) (h : j < l.length) : (itemsN l).take j ++ [itemN l[j]] = (itemsN l).take (j + 1) := by
 rw [El.itemsN_map, List.take_add_one, List.getElem?_map, List.getElem?_eq_getElem h];rfl
theorem items_step (e : E) (ih : ∀ x ∈ e.kids, ItemNC x) : ItemsNC e := by
 intro g0 o0 va vk w he hok hcnt;obtain ⟨B, cb, hvk⟩ := he.2.2.2.2.2.2.1.slice;have HE := hid he;have HIH := hid ih;have HOK := hid hok;have hcl := El.countL_len e.kids;have hck := El.count_kids e;have hl2 : e.kids.length ≤ 100000 := by omega
 have HCN := hid hcnt;obtain ⟨hg0, _, _, h2, _, _⟩ := he;subst hvk;clear ih hok hcl hck hcnt;have HRN := hid (show rowN e = .mk 1 [] 0 (itemsN e.kids) from rfl);go_enter Tryz.func13, Tryz.ntmps13;go_wp2_with fail
 refine forget_world (fun W => Fresh w W ∧ W.heap.size = w.heap.size + 2 ∧ Blk W w.heap.size 30 #[.int .i64 0, .string ⟨#[]⟩, .int .i64 0, .slice none 0 0] ∧ Blk W (w.heap.size + 1) 30 #[.int .i64 1, .string ⟨#[]⟩, .int .i64 0, .slice none 0 0]) ⟨((Touch.refl _ _).alloc _).alloc _, by simp, (Blk.new w 30 _).alloc _, Blk.new2 w _ 30 _⟩ ?_;rintro W1 ⟨hf1, hs1, hbr1, hbe1⟩;have HF1 := hid hf1;have HBR1 := hid hbr1;have HBE1 := hid hbe1;have HS1 := hid hs1;have HG1 := hid (show GrowN (w.heap.size + 2) W1 ((itemsN e.kids).take 0) (.slice none 0 0) by rw [List.take_zero]; exact GrowN.nil (by omega));clear hf1 hbr1 hbe1 hs1 hg0 h2
 go_loopw [11] (fun i wr => ∃ (j : Nat) (Ae : Option Addr) (ce : Nat), i = .int .i64 j ∧ j ≤ e.kids.length ∧ Hid (Blk wr w.heap.size 30 #[.int .i64 0, .string ⟨#[]⟩, .int .i64 0, .slice none 0 0]) ∧ Hid (Blk wr (w.heap.size + 1) 30 #[.int .i64 1, .string ⟨#[]⟩, .int .i64 0, .slice Ae j ce]) ∧ Hid (GrowN (w.heap.size + 2) wr ((itemsN e.kids).take j) (.slice Ae j ce)) ∧ Hid (Fresh w wr)) (fun i _ => e.kids.length - (intOf i).toNat)
 case atStart => exact ⟨0, none, 0, rfl, Nat.zero_le _, HBR1, HBE1, HG1, HF1⟩
 case round =>
  obtain ⟨j, Ae, ce, rfl, hj, HBR, HBE, HG, HF⟩ := hrel;rename_i wr _
  by_cases c1 : j < e.kids.length
  ·have d1 : decide ((j : Int) < (e.kids.length : Int)) = true := dT (by omega)
   have d1n : decide (j < e.kids.length) = true := dT c1;have d1' : (j : Int) < (e.kids.length : Int) := by omega
   have HER := hid (HE.out.fresh HF.out);obtain ⟨g, o, xa, xk, rfl, hek⟩ := (show RepE wr e.kids _ from HER.out.2.2.2.2.2.2.1).elAt j c1;have HEK := hid hek;have HMEM := hid (List.getElem_mem c1);have HLN := hid (show ((itemsN e.kids).take j).length = j by rw [List.length_take, itemsN_len]; omega);have HTK := hid (itemsN_take e.kids j c1);have HOX := hid (HOK.out _ HMEM.out);have HC := hid (HIH.out _ HMEM.out);have HCX := hid (show El.count e.kids[j] ≤ 100000 by have := El.count_mem HMEM.out; have := El.count_kids e; have := HCN.out; omega);obtain ⟨hgr, _, _, h2, _, _⟩ := HER.out;obtain ⟨q0, q1, q2, q3, _, _, _, _, hlt⟩ := Blk.four HBE.out;clear hek HMEM;generalize e.kids[j] = x at *;go_wp2_with fail
   have k0 := cR h2;have k3 := cR q3;clear h2 q0 q1 q2 q3;refine wp_region_mix [([(0, true), (1, true), (2, true), (3, true), (4, true), (5, true), (6, true), (7, true), (8, false), (9, false)], 10), ([(11, true)], 12)] [] (by kernel_rfl) (fun _ _ d _ _ h => by cases d <;> exact h) (by kernel_rfl) ?_;refine wpMix_seg ?_
   repeat (refine wpSeq_plain rfl (fun K hK => ?_); go_simp; refine hK _ ?_; clear hK K)
   clear k0 k3;refine wpSeq_lone rfl (fun K hK => ?_);go_wp2_with fail
   refine (HC.out g (o + j * 4) xa xk _ (HEK.out.fresh ((Touch.refl _ _).drewN 1)) HOX.out.1 HOX.out.2 HCX.out).mono ?_;rintro _ w6 ⟨v6, rfl, sl, rfl, hf6, htl6, hst6⟩;have HF6 := hid (show Fresh wr w6 from ((Touch.refl _ wr).drewN 1).trans hf6);have HST6 := hid (show Stab (fun k => k < wr.heap.size) w6 fun W => RepL W (itemN x).kids sl from hst6);have HTL6 := hid htl6;obtain ⟨Ak, ck, rfl⟩ := hst6.now.slice;clear hf6 hst6 htl6;go_wp2_with fail
   refine hK _ _ (growing_fresh HF6.out) ?_;clear hK K;refine wpSeq_lone rfl (fun K hK => ?_);go_wp2_with fail
   refine hK _ _ (growing_fresh (HF6.out.alloc _)) ?_;clear hK K;have HBV := hid (Blk.new w6 30 #[.int .i64 (itemN x).kind, .string ⟨(itemN x).text.toArray⟩, .int .i64 (itemN x).cols, .slice Ak (itemN x).kids.length ck]);have HF7 := hid (HF6.out.alloc (.cells #[.int .i64 (itemN x).kind, .string ⟨(itemN x).text.toArray⟩, .int .i64 (itemN x).cols, .slice Ak (itemN x).kids.length ck] 30));have HST7 := hid (HST6.out.fresh ((Touch.refl _ w6).alloc (.cells #[.int .i64 (itemN x).kind, .string ⟨(itemN x).text.toArray⟩, .int .i64 (itemN x).cols, .slice Ak (itemN x).kids.length ck] 30)));generalize (w6.alloc (.cells #[.int .i64 (itemN x).kind, .string ⟨(itemN x).text.toArray⟩, .int .i64 (itemN x).cols, .slice Ak (itemN x).kids.length ck] 30)) = w7 at HBV HF7 HST7 ⊢;have HG7 := hid (HG.out.fresh HF7.out);have HOW := hid HG.out.own_lt;have HBE7 := hid (HF7.out.blk HBE.out fun h => h);have HBR7 := hid (HF7.out.blk HBR.out fun h => h);have HB5 := hid HG.out.1;refine wpSeq_shut rfl (fun K hK => ?_)
   go_wp2_with (at_builtin; go_loud (refine wpList_append_node rfl (.tmp 15) (.tmp 23) rfl HG7.out HLN.out (by simp [Act.eval]) (itemN x) HBV.out (by simp [Act.eval]) wr.heap.size HB5.out (fun k hk => (HOW.out k hk).2) HTL6.out HST7.out (by omega) ?_); intro A8 c8 w8 hg8 ht8 _; refine Stay.mk ?_)
   have HG8 := hid hg8;have HBE8 := hid (ht8.blk HBE7.out fun h => by have := (HOW.out _ h).1; omega);have HBR8 := hid (ht8.blk HBR7.out fun h => by have := (HOW.out _ h).1; omega);have HF8 := hid (show Fresh w w8 from (HF.out.trans HF7.out).trans' ht8 fun k hk => .inr (by have := (HOW.out _ hk).1; omega));clear hg8 ht8;obtain ⟨q0, q1, q2, q3, z0, z1, z2, z3, hlt8⟩ := Blk.four HBE8.out;refine Stay.go ?_;go_wp2_with fail
   refine wpMix_seg ?_
   repeat (refine wpSeq_plain rfl (fun K hK => ?_); go_simp; refine hK _ ?_; clear hK K)
   refine wpSeq_shut rfl (fun K hK => ?_);go_wp2_with fail
   refine wpMix_end ?_;go_wp2_with fail
   have hg9 := HG8.out.mv ((Touch.refl (fun k => k = w.heap.size + 1) w8).setCell (p := ⟨w.heap.size + 1, 3, none⟩) (.inl rfl) (.slice A8 (j + 1) c8)) (fun k hk _ => by omega);rw [HTK.out] at hg9;exact ⟨⟨j + 1, A8, c8, by simp, by omega, HBR8.out.far (p := ⟨w.heap.size + 1, 3, none⟩) (by simp) _, HBE8.out.put 3 _, hg9, HF8.out.setCell (p := ⟨w.heap.size + 1, 3, none⟩) (.inr (by show w.heap.size ≤ w.heap.size + 1; omega)) _⟩, by simp [intOf]; omega⟩
  ·have d1 : decide ((j : Int) < (e.kids.length : Int)) = false := dF (by omega)
   have d1n : decide (j < e.kids.length) = false := dF c1;obtain rfl : j = e.kids.length := by omega
   obtain ⟨q0, q1, q2, q3, _, _, _, _, hlt⟩ := Blk.four HBE.out;obtain ⟨p0, p1, p2, p3, y0, y1, y2, y3, hlp⟩ := Blk.four HBR.out;have hg9 := HG.out.mv ((Touch.refl (fun k => k = w.heap.size) wr).put4 (.inl rfl) (.int .i64 1) (.string ⟨#[]⟩) (.int .i64 0) (.slice Ae e.kids.length ce)) (fun k hk _ => by omega);rw [List.take_of_length_le (by rw [itemsN_len]; exact Nat.le_refl _)] at hg9;have HG9 := hid hg9;obtain ⟨r0, r1, r2, r3, _, _, _, _, _⟩ := Blk.four (HBR.out.self4 (.int .i64 1) (.string ⟨#[]⟩) (.int .i64 0) (.slice Ae e.kids.length ce));simp only [put4] at r0 r1 r2 r3;have HF9 := hid (Touch.put4 HF.out (.inr (Nat.le_refl _)) (.int .i64 1) (.string ⟨#[]⟩) (.int .i64 0) (.slice Ae e.kids.length ce));clear hg9 hl2;go_wp2_with fail
   refine bodyPost_ret (v := .agg #[.int .i64 1, .string ⟨#[]⟩, .int .i64 0, .slice Ae e.kids.length ce]) (by simp [results, Tryz.results13, go_sem, r0, r1, r2, r3]) rfl ?_;refine ⟨_, rfl, .slice Ae e.kids.length ce, rfl, HF9.out, Nat.zero_le _, ?_⟩;exact (HG9.out.done.mono fun i _ hi => by omega)
end Go.Proofs.YtfnjcldgicohaaaGreat
namespace Go.Proofs.YtfnjcldgicohaaaGreat
open Go.RowKit
open Tr (Nd)
open El (E Rd Attrs ent rRow rItem rItems rRows rLines rowNil)
attribute [local go_sem] stillV stillUpon
theorem row_ways (n nm : List UInt8) (a : Attrs) (ks : List E) (t : List UInt8) :
  (El.okRow nm (.mk n a ks t) = false ∧ (n == nm) = false) ∨ (El.okRow nm (.mk n a ks t) = false ∧ (n == nm) = true ∧ ((a.length : Int) == (0 : Int)) = false) ∨
  (El.okRow nm (.mk n a ks t) = false ∧ (n == nm) = true ∧ ((a.length : Int) == (0 : Int)) = true ∧ t.isEmpty = false) ∨ (El.okRow nm (.mk n a ks t) = true ∧ (n == nm) = true ∧ ((a.length : Int) == (0 : Int)) = true ∧ t.isEmpty = true) := by
 have h : El.okRow nm (.mk n a ks t) = ((n == nm) && ((a.length : Int) == (0 : Int)) && t.isEmpty) := by rw [len0, beq_dec]; rfl
 rw [h];cases n == nm <;> cases ((a.length : Int) == (0 : Int)) <;> cases t.isEmpty <;> simp
theorem rrow_step (W0 : World) (g : Nat) (e : E) (ih : ∀ x ∈ e.kids, RItemC W0 g x) : RRowC W0 g e := by
 intro nm s va vk w hnm hs0 hcnt hpr hr hrd;have HIH := hid ih;have HRD := hid hrd;have HPK := hid (El.proper_kids e hpr);have hg0 := hrd.lt;have HKE := hid (show RepE W0 e.kids vk from hr.2.1);have HRR := hid (show rRow nm e s = (.mk 1 [] 0 (rItems e.kids (ent (El.okRow nm e) s)).1, (rItems e.kids (ent (El.okRow nm e) s)).2) by cases e; rw [rRow]; rfl);have HCN := hid (show (s.1 + 1) + El.countL e.kids ≤ 100000 by rw [El.count_kids] at hcnt; omega);have hl2 : e.kids.length ≤ 100000 := by have := El.countL_len e.kids; have := HCN.out; omega
 have hsb : s.1 ≤ 1000000 := by omega
 obtain ⟨A, ca, hva⟩ := hr.1.slice;obtain ⟨Bk, cb, hvk⟩ := hr.2.1.slice;clear ih hrd hpr hcnt hr hnm hs0;obtain ⟨n, ats, ks, t⟩ := e;replace hva : va = .slice A ats.length ca := hva;replace hvk : vk = .slice Bk ks.length cb := hvk;subst hva hvk;have hways := row_ways n nm ats ks t;unfold ev;simp only [E.name, E.text, E.kids] at *;generalize El.okRow nm (.mk n ats ks t) = ok at HRR hways;obtain ⟨s1, hs1⟩ : ∃ s1, ent ok s = s1 := ⟨_, rfl⟩;rw [hs1] at HRR;have HS1 := hid hs1;have HCN2 := hid (show s1.1 + El.countL ks ≤ 100000 by rw [← hs1]; exact HCN.out);clear hs1 HCN
 rcases hways with ⟨hok, c1⟩ | ⟨hok, c1, c2⟩ | ⟨hok, c1, c2, c3⟩ | ⟨hok, c1, c2, c3⟩
 all_goals
  subst hok;go_enter Tryz.func16, Tryz.ntmps16;go_wp2_with fail
  have hf0 := ((Touch.refl (fun k => k = g) w).alloc (.cells #[.string ⟨n.toArray⟩, .slice A ats.length ca, .slice Bk ks.length cb, .string ⟨t.toArray⟩] 25)).alloc (.cells #[.int .i64 0, .string ⟨#[]⟩, .int .i64 0, .slice none 0 0] 30);have hr0 := HRD.out.fresh (((Touch.refl (fun _ => False) w).alloc (.cells #[.string ⟨n.toArray⟩, .slice A ats.length ca, .slice Bk ks.length cb, .string ⟨t.toArray⟩] 25)).alloc (.cells #[.int .i64 0, .string ⟨#[]⟩, .int .i64 0, .slice none 0 0] 30));have hbe0 := (Blk.new w 25 #[.string ⟨n.toArray⟩, .slice A ats.length ca, .slice Bk ks.length cb, .string ⟨t.toArray⟩]).alloc (.cells #[.int .i64 0, .string ⟨#[]⟩, .int .i64 0, .slice none 0 0] 30);have hbr0 := Blk.new2 w (.cells #[.string ⟨n.toArray⟩, .slice A ats.length ca, .slice Bk ks.length cb, .string ⟨t.toArray⟩] 25) 30 #[.int .i64 0, .string ⟨#[]⟩, .int .i64 0, .slice none 0 0];have hsz0 : ((w.alloc (.cells #[.string ⟨n.toArray⟩, .slice A ats.length ca, .slice Bk ks.length cb, .string ⟨t.toArray⟩] 25)).alloc (.cells #[.int .i64 0, .string ⟨#[]⟩, .int .i64 0, .slice none 0 0] 30)).heap.size = w.heap.size + 2 := by simp
  refine (enter_any s _ g _ hr0.blk hsb).mono ?_;rintro _ w2 ⟨rfl, ht2, hb2⟩;rw [HS1.out] at hb2;have HT2 := hid (hf0.trans ht2);have HRD2 := hid (hr0.turn ht2 hb2);have HBE2 := hid (ht2.blk hbe0 fun h => by omega);have HBR2 := hid (ht2.blk hbr0 fun h => by omega);have hsz2 : w.heap.size + 2 ≤ w2.heap.size := by rw [← hsz0]; exact ht2.size
  clear hf0 hr0 hbe0 hbr0 hsz0 ht2 hb2 c1 HRD hsb HS1;obtain ⟨bO, hbO⟩ : ∃ b, b = w2.heap.size := ⟨_, rfl⟩;have HO := hid hbO;have hO1 : w.heap.size + 2 ≤ bO := by omega
  clear hbO hsz2;go_wp2_with fail
  rw [← HO.out];have hlt2 : w.heap.size + 1 < w2.heap.size := HBR2.out.lt
  refine forget_world (fun W => Touch (fun k => k = g) w W ∧ Rdr W0 g s1 W ∧ Blk W w.heap.size 25 #[.string ⟨n.toArray⟩, .slice A ats.length ca, .slice Bk ks.length cb, .string ⟨t.toArray⟩] ∧ Blk W (w.heap.size + 1) 30 #[.int .i64 0, .string ⟨#[]⟩, .int .i64 0, .slice none 0 0] ∧
   Blk W bO 30 #[.int .i64 1, .string ⟨#[]⟩, .int .i64 0, .slice none 0 0] ∧ bO + 1 ≤ W.heap.size) ⟨HT2.out.alloc _, HRD2.out.fresh ((Touch.refl _ _).alloc _), HBE2.out.alloc _, HBR2.out.alloc _, by rw [HO.out]; exact Blk.new _ _ _, by rw [HO.out]; simp⟩ ?_
  rintro W1 ⟨ht1, hrd1, hbe1, hbr1, hbo1, hs1⟩;have HT1 := hid ht1;have HRD1 := hid hrd1;have HBE1 := hid hbe1;have HBR1 := hid hbr1;have HBO1 := hid hbo1;have HG1 := hid (show GrowN (bO + 1) W1 [] (.slice none 0 0) from GrowN.nil hs1);have HEQ1 := hid (show rItems ks s1 = ([] ++ (rItems (ks.drop 0) s1).1, (rItems (ks.drop 0) s1).2) by rw [List.drop_zero, List.nil_append]);clear ht1 hrd1 hbe1 hbr1 hbo1 hs1 HT2 HRD2 HBE2 HBR2 HO hlt2
  go_loopw [8] (fun i wr => ∃ (j : Nat) (Ae : Option Addr) (ce : Nat) (ns : List Nd) (sj : Rd), i = .int .i64 j ∧ j ≤ ks.length ∧ Hid (ns.length = j) ∧ Hid (Blk wr w.heap.size 25 #[.string ⟨n.toArray⟩, .slice A ats.length ca, .slice Bk ks.length cb, .string ⟨t.toArray⟩]) ∧ Hid (Blk wr (w.heap.size + 1) 30 #[.int .i64 0, .string ⟨#[]⟩, .int .i64 0, .slice none 0 0]) ∧
   Hid (Blk wr bO 30 #[.int .i64 1, .string ⟨#[]⟩, .int .i64 0, .slice Ae j ce]) ∧ Hid (GrowN (bO + 1) wr ns (.slice Ae j ce)) ∧ Hid (Touch (fun k => k = g) w wr) ∧ Hid (Rdr W0 g sj wr) ∧ Hid (sj.1 + El.countL (ks.drop j) ≤ 100000) ∧
   Hid (rItems ks s1 = (ns ++ (rItems (ks.drop j) sj).1, (rItems (ks.drop j) sj).2))) (fun i _ => ks.length - (intOf i).toNat)
  case atStart => exact ⟨0, none, 0, [], s1, rfl, Nat.zero_le _, hid rfl, HBE1, HBR1, HBO1, HG1, HT1, HRD1, HCN2, HEQ1⟩
  case round =>
   obtain ⟨j, Ae, ce, ns, ⟨sa, sc⟩, rfl, hj, HNL, HBE, HBR, HBO, HG, HT, HRD, HCS, HEQ⟩ := hrel;rename_i wr _;have hsz := HT.out.size;have hbolt := HBO.out.lt;have hgs := HRD.out.lt;obtain ⟨_, _, e2, _, _, _, _, _, _⟩ := Blk.four HBE.out;obtain ⟨u0, u1, u2, u3, v0, v1, v2, v3, hlo⟩ := Blk.four HBO.out;obtain ⟨_, r1, _, _, _⟩ := Blk.two (x0 := .int .i64 (sa : Int)) (x1 := .int .i64 sc) HRD.out.blk
   by_cases c1 : j < ks.length ∧ sc < 0
   ·have d1 : decide ((j : Int) < (ks.length : Int)) = true := dT (by omega)
    have d1n : decide (j < ks.length) = true := dT c1.1;have d1' : (j : Int) < (ks.length : Int) := by omega
    have d2 : decide (sc < (0 : Int)) = true := dT c1.2;have HC2 := hid c1.2;obtain ⟨hjl, _⟩ := c1;obtain ⟨gx, o, xa, xk, rfl, hek⟩ := HKE.out.elAt j hjl;have HEK := hid hek;have HMEM := hid (List.getElem_mem hjl);have HC := hid (HIH.out _ HMEM.out);have HPX := hid (HPK.out _ HMEM.out);have HDC := hid (El.countL_drop ks j hjl);have HDR := hid (List.drop_eq_getElem_cons hjl);have HNX := hid (El.next_item ks[j] (sa, sc));obtain ⟨hgx, x0, x1, x2, x3, hxr⟩ := hek.fresh HRD.out.fr;have hgxg : gx ≠ g := by have := hek.1; have := HRD.out.le; omega
    clear hek HMEM hxr hgx;generalize ks[j] = x at *;go_wp2_with fail
    have k0 := cT (S := fun k => k = g) e2 (by omega);have k3 := cT (S := fun k => k = g) u3 (by omega);have y0 := cT (S := fun k => k = g) x0 hgxg;have y1 := cT (S := fun k => k = g) x1 hgxg;have y2 := cT (S := fun k => k = g) x2 hgxg;have y3 := cT (S := fun k => k = g) x3 hgxg;clear e2 u0 u1 u2 u3 v0 v1 v2 v3 hlo r1 x0 x1 x2 x3 d1 d1n d2
    refine wp_region_planC (fun W => ∃ x : Turned (fun k => k = g) wr, W = x.W) (Plan.of [(0, true), (1, true), (2, true), (3, true), (4, true), (5, true), (6, true), (7, true)] (.lone 8 (.lone 9 .nil))) [0, 1, 2, 3, 4, 5, 6, 7, 8, 9] 10 (Array.replicate 10 true ++ Array.replicate 3 false) (fun _ => True) (Plan.of [(11, true)] (.lone 12 .nil)) [11, 12] (Array.replicate 13 true)
     (by kernel_rfl) (fun _ _ d _ _ h => by cases d <;> exact h) (by kernel_rfl) ⟨⟨_, (Touch.refl _ _).drewN 1⟩, rfl⟩ ?_
    unfold Plan.of
    repeat (refine wpPlan_plain rfl (fun K hK => ?_); go_simp; refine hK _ ?_; clear hK K; first | done | unfold Plan.of)
    clear k0 k3 y0 y1 y2 y3;refine wpPlan_lone rfl (fun K hK => ?_);go_wp2_with fail
    refine (HC.out (sa, sc) xa xk _ HC2.out (by have := HCS.out; have := HDC.out; omega) HPX.out HEK.out.2.2.2.2.2 (HRD.out.fresh ((Touch.refl _ _).drewN 1))).mono ?_;rintro _ w6 ⟨v6, rfl, ⟨sl, rfl, ht6, htl6, hst6⟩, hrd6⟩;have HT6 := hid (show Touch (fun k => k = g) wr w6 from ((Touch.refl _ wr).drewN 1).trans ht6);have HST6 := hid (show Stab (fun k => k < wr.heap.size) w6 fun W => RepL W (rItem x (sa, sc)).1.kids sl from hst6);have HTL6 := hid htl6;have HRD6 := hid hrd6
    have HEQ2 := hid (show rItems ks s1 = ((ns ++ [(rItem x (sa, sc)).1]) ++ (rItems (ks.drop (j + 1)) (rItem x (sa, sc)).2).1, (rItems (ks.drop (j + 1)) (rItem x (sa, sc)).2).2) by
     rw [HEQ.out, HDR.out, rItems, if_pos HC2.out, List.append_assoc]; rfl)
    have HCS2 := hid (show (rItem x (sa, sc)).2.1 + El.countL (ks.drop (j + 1)) ≤ 100000 by have := HCS.out; have := HDC.out; have := HNX.out; omega);obtain ⟨Ak, ck, rfl⟩ := hst6.now.slice;clear ht6 hst6 htl6 hrd6 HEQ HC HDR HNX HCS HDC;generalize rItem x (sa, sc) = R at *;obtain ⟨m, sb⟩ := R;simp only at *;go_wp2_with fail
    refine hK _ _ ⟨⟨_, HT6.out⟩, rfl⟩ ?_;clear hK K;refine wpPlan_lone rfl (fun K hK => ?_);go_wp2_with fail
    refine hK _ _ ⟨⟨_, HT6.out.alloc _⟩, rfl⟩ ?_;clear hK K;have HBV := hid (Blk.new w6 30 #[.int .i64 m.kind, .string ⟨m.text.toArray⟩, .int .i64 m.cols, .slice Ak m.kids.length ck]);have HT7 := hid (HT6.out.alloc (.cells #[.int .i64 m.kind, .string ⟨m.text.toArray⟩, .int .i64 m.cols, .slice Ak m.kids.length ck] 30));have HRD7 := hid (HRD6.out.fresh ((Touch.refl _ w6).alloc (.cells #[.int .i64 m.kind, .string ⟨m.text.toArray⟩, .int .i64 m.cols, .slice Ak m.kids.length ck] 30)));have HST7 := hid (HST6.out.fresh ((Touch.refl _ w6).alloc (.cells #[.int .i64 m.kind, .string ⟨m.text.toArray⟩, .int .i64 m.cols, .slice Ak m.kids.length ck] 30)));generalize (w6.alloc (.cells #[.int .i64 m.kind, .string ⟨m.text.toArray⟩, .int .i64 m.cols, .slice Ak m.kids.length ck] 30)) = w7 at HBV HT7 HRD7 HST7 ⊢;have HG7 := hid (HG.out.mv HT7.out fun k hk _ => by omega);have HOW := hid HG.out.own_lt;have HBE7 := hid (HT7.out.blk HBE.out fun h => by omega);have HBR7 := hid (HT7.out.blk HBR.out fun h => by omega);have HBO7 := hid (HT7.out.blk HBO.out fun h => by omega);have HB5 := hid HG.out.1;refine wpPlan_shut2 rfl (fun K hK => ?_)
    go_wp2_with (at_builtin; go_loud (refine wpList_append_node rfl (.tmp 42) (.tmp 50) rfl HG7.out HNL.out (by simp [Act.eval]) m HBV.out (by simp [Act.eval]) wr.heap.size HB5.out (fun k hk => (HOW.out k hk).2) HTL6.out HST7.out (by omega) ?_); intro A8 c8 w8 hg8 ht8 _; refine Stay.mk ?_)
    have HG8 := hid hg8;have HBE8 := hid (ht8.blk HBE7.out fun h => by have := (HOW.out _ h).1; omega);have HBR8 := hid (ht8.blk HBR7.out fun h => by have := (HOW.out _ h).1; omega);have HBO8 := hid (ht8.blk HBO7.out fun h => by have := (HOW.out _ h).1; omega);have HRD8 := hid (HRD7.out.move ht8 (fun h => by have := (HOW.out _ h).1; omega) fun k hk => by have := (HOW.out _ hk).1; have := HRD.out.le; omega);have HT8 := hid (show Touch (fun k => k = g) w w8 from (HT.out.trans HT7.out).trans' ht8 fun k hk => .inr (by have := (HOW.out _ hk).1; omega));clear hg8 ht8;obtain ⟨q0, q1, q2, q3, z0, z1, z2, z3, hlt8⟩ := Blk.four HBO8.out;refine Stay.go ?_;go_wp2_with fail
    refine hK _ _ trivial ?_;clear hK K
    repeat (refine wpPlan_plain rfl (fun K hK => ?_); go_simp; refine hK _ ?_; clear hK K)
    refine wpPlan_lone rfl (fun K hK => ?_);go_wp2_with fail
    refine hK _ _ trivial ?_;clear hK K;refine wpPlan_nil ?_;go_wp2_with fail
    have hg9 := HG8.out.mv ((Touch.refl (fun k => k = bO) w8).setCell (p := ⟨bO, 3, none⟩) (.inl rfl) (.slice A8 (j + 1) c8)) (fun k hk _ => by omega)
    exact ⟨⟨j + 1, A8, c8, ns ++ [m], sb, by simp, by omega, hid (by rw [List.length_append, HNL.out]; rfl), hid (HBE8.out.far (p := ⟨bO, 3, none⟩) (by show _ ≠ bO; omega) _), hid (HBR8.out.far (p := ⟨bO, 3, none⟩) (by show _ ≠ bO; omega) _), hid (HBO8.out.put 3 _), hid hg9, hid (HT8.out.setCell (p := ⟨bO, 3, none⟩) (.inr (by show w.heap.size ≤ bO; omega)) _),
     hid (HRD8.out.move ((Touch.refl (fun k => k = bO) w8).setCell (p := ⟨bO, 3, none⟩) (.inl rfl) (.slice A8 (j + 1) c8)) (by omega) fun k hk => by have := HRD.out.fr.size; have := HRD.out.le; omega), HCS2, HEQ2⟩, by simp [intOf]; omega⟩
   ·have hend : rItems (ks.drop j) (sa, sc) = ([], (sa, sc)) := by
     by_cases c2 : j < ks.length
     ·exact El.rItems_stop _ _ fun h => c1 ⟨c2, h⟩
     ·rw [List.drop_of_length_le (by omega), rItems]
    have HFIN := hid (show rItems ks s1 = (ns, (sa, sc)) by rw [HEQ.out, hend, List.append_nil]);clear hend HEQ;obtain ⟨p0, p1, p2, p3, y0, y1, y2, y3, hlp⟩ := Blk.four HBR.out;have HG9 := hid (HG.out.mv ((Touch.refl (fun k => k = w.heap.size + 1) wr).put4 (.inl rfl) (.int .i64 1) (.string ⟨#[]⟩) (.int .i64 0) (.slice Ae j ce)) (fun k hk _ => by omega));obtain ⟨t0, t1, t2, t3, _, _, _, _, _⟩ := Blk.four (HBR.out.self4 (.int .i64 1) (.string ⟨#[]⟩) (.int .i64 0) (.slice Ae j ce));simp only [put4] at t0 t1 t2 t3;have HT9 := hid (Touch.put4 (g := w.heap.size + 1) HT.out (.inr (by omega)) (.int .i64 1) (.string ⟨#[]⟩) (.int .i64 0) (.slice Ae j ce));have HRD9 := hid (HRD.out.move ((Touch.refl (fun k => k = w.heap.size + 1) wr).put4 (.inl rfl) (.int .i64 1) (.string ⟨#[]⟩) (.int .i64 0) (.slice Ae j ce)) (by omega) fun k hk => by have := HRD.out.le; omega);clear hl2
    have hways2 : (decide ((j : Int) < (ks.length : Int)) = false ∧ decide (j < ks.length) = false) ∨ ((decide ((j : Int) < (ks.length : Int)) = true ∧ decide (j < ks.length) = true) ∧ decide (sc < (0 : Int)) = false) := by
     by_cases c2 : j < ks.length
     ·exact .inr ⟨⟨dT (by omega), dT c2⟩, dF fun h => c1 ⟨c2, h⟩⟩
     ·exact .inl ⟨dF (by omega), dF c2⟩
    rcases hways2 with ⟨d1, d1n⟩ | ⟨⟨d1, d1n⟩, d2⟩
    all_goals
     go_wp2_with fail
     refine bodyPost_ret (v := .agg #[.int .i64 1, .string ⟨#[]⟩, .int .i64 0, .slice Ae j ce]) (by simp [results, Tryz.results16, go_sem, t0, t1, t2, t3]) rfl ?_;refine ⟨_, rfl, ?_, ?_⟩
     ·rw [HRR.out, HFIN.out]
      refine ⟨.slice Ae j ce, rfl, HT9.out, Nat.zero_le _, ?_⟩;exact (HG9.out.done.mono fun i _ hi => by omega)
     ·rw [HRR.out, HFIN.out]
      exact HRD9.out
end Go.Proofs.YtfnjcldgicohaaaGreat
