/- Part 16 of 31 of a proof; its texts, joined: NyK, NyH. No condition. -/
import Derived.Test.YtnamnmpnoiodnaaYa15
import Derived.ArgAppend
set_option maxRecDepth 100000
set_option maxHeartbeats 400000
namespace Go.Proofs.Ytnamnmpnoiodnaa
open Go.RowKit
open Tr (Nd)
def Nty (w : World) (k : Nat) : Prop := ∃ cs fr, w.heap[k]? = some (.cells cs 32 fr)
theorem Nty.lt {w : World} {k : Nat} (h : Nty w k) : k < w.heap.size := by
 obtain ⟨_, _, h⟩ := h;exact (Array.getElem?_eq_some_iff.1 h).1
def GS (D : Nat → Prop) (B0 : Nat) (o : Option Nat) (w : World) (k : Nat) : Prop := o = some k ∨ D k ∨ k < B0 ∨ ¬ Nty w k
def Saf (D : Nat → Prop) (B0 : Nat) (o : Option Nat) (w : World) (ks : List Nd) (cs : List Value) : Prop := ∀ W', Touch (GS D B0 o w) w W' → NodesT B0 W' ks cs
theorem GS.pre {D : Nat → Prop} {B0 : Nat} {o o' : Option Nat} {w w1 W' : World} {S : Nat → Prop} (ht : Touch S w w1) (hS : ∀ k, S k → GS D B0 o w k) (ho : ∀ k, o' = some k → o = some k ∨ w.heap.size ≤ k) (hW : Touch (GS D B0 o' w1) w1 W') : Touch (GS D B0 o w) w W' := by
 refine ⟨hW.os.trans ht.os, hW.tape.trans ht.tape, hW.output.trans ht.output, Nat.le_trans ht.size hW.size, fun i hi hn => ?_⟩;have e := ht.block i hi fun hs => hn (hS i hs)
 refine (hW.block i (Nat.lt_of_lt_of_le hi ht.size) fun hs => hn ?_).trans e
 rcases hs with hs | hs | hs | hs
 ·rcases ho i hs with h1 | h1
  ·exact .inl h1
  ·omega
 ·exact .inr (.inl hs)
 ·exact .inr (.inr (.inl hs))
 ·exact .inr (.inr (.inr fun ⟨cs, fr, e2⟩ => hs ⟨cs, fr, by rw [e]; exact e2⟩))
theorem Saf.mv {D : Nat → Prop} {B0 : Nat} {o : Option Nat} {w w1 : World} {ks : List Nd} {cs : List Value} {S : Nat → Prop} (h : Saf D B0 o w ks cs) (ht : Touch S w w1) (hS : ∀ k, S k → GS D B0 o w k) : Saf D B0 o w1 ks cs :=
 fun W' hW => h W' (GS.pre ht hS (fun _ h => .inl h) hW)
theorem Saf.push {D : Nat → Prop} {B0 B1 : Nat} {o o' : Option Nat} {w w' : World} {ks : List Nd} {cs : List Value} {a : Nd} {sl : Value} (h : Saf D B0 o w ks cs) (hgr : w.grownBy w' o) (hv : ∀ k, o' = some k → o = some k ∨ w.heap.size ≤ k) (htr : TreT B1 w a.kids sl) (hB1 : B0 ≤ B1) (hown : ∀ k, o = some k → k < B1) (hD : ∀ k, D k → k < B1) (htx : a.text.length ≤ maxLen) :
  Saf D B0 o' w' (ks ++ [a]) (cs ++ [.int .i64 a.kind, .string ⟨a.text.toArray⟩, .int .i64 a.cols, sl]) := fun W' hW => by
 have hT := GS.pre (o := o) (Touch.grown (S := fun k => o = some k) (Touch.refl _ w) hgr fun k hk => .inl hk) (fun k hk => .inl hk) hv hW;refine (h W' hT).append ⟨sl, [], rfl, ⟨(htr.mv hT fun k cs fr hk hB he => ?_).base hB1, htx⟩, rfl⟩
 rcases hk with hk | hk | hk | hk
 ·have := hown k hk; omega
 ·have := hD k hk; omega
 ·omega
 ·exact hk ⟨_, _, he⟩
theorem Saf.pushL {D : Nat → Prop} {B0 B1 : Nat} {o o' : Option Nat} {w w' : World} {ks ms : List Nd} {cs ds : List Value} (h : Saf D B0 o w ks cs) (hgr : w.grownBy w' o) (hv : ∀ k, o' = some k → o = some k ∨ w.heap.size ≤ k) (htr : NodesT B1 w ms ds) (hB1 : B0 ≤ B1) (hown : ∀ k, o = some k → k < B1) (hD : ∀ k, D k → k < B1) :
  Saf D B0 o' w' (ks ++ ms) (cs ++ ds) := fun W' hW => by
 have hT := GS.pre (o := o) (Touch.grown (S := fun k => o = some k) (Touch.refl _ w) hgr fun k hk => .inl hk) (fun k hk => .inl hk) hv hW;refine (h W' hT).append ((htr.mv hT fun k cs fr hk hB he => ?_).base hB1)
 rcases hk with hk | hk | hk | hk
 ·have := hown k hk; omega
 ·have := hD k hk; omega
 ·omega
 ·exact hk ⟨_, _, he⟩
def Grow (D : Nat → Prop) (w : World) (B0 B : Nat) (ks : List Nd) (v : Value) : Prop := ∃ cs, w.ownsRow B 32 4 v ks.length cs ∧ Saf D B0 v.ownBlock w ks cs
def Full (D : Nat → Prop) (w : World) (B0 : Nat) (ks : List Nd) (v : Value) : Prop := ∃ cs, ∀ W', Touch (GS D B0 none w) w W' → Src W' 4 v ks.length cs ∧ NodesT B0 W' ks cs ∧ TreT B0 W' ks v
theorem TreT.full {B0 : Nat} {w w1 : World} {ks : List Nd} {v : Value} {D : Nat → Prop} (h : TreT B0 w ks v) (hf : Fresh w w1) (hD : ∀ k, D k → w.heap.size ≤ k) : Full D w1 B0 ks v := by
 obtain ⟨cs, h1, h2⟩ := h.src;refine ⟨cs, fun W' hW => ?_⟩
 have hT : Touch (fun k => k < B0 ∨ ¬ Nty w k) w W' := by
  refine ⟨hW.os.trans hf.os, hW.tape.trans hf.tape, hW.output.trans hf.output, Nat.le_trans hf.size hW.size, fun i hi hn => ?_⟩;have e := hf.block i hi fun hs => hs
  refine (hW.block i (Nat.lt_of_lt_of_le hi hf.size) fun hs => hn ?_).trans e
  rcases hs with hs | hs | hs | hs
  ·cases hs
  ·have := hD i hs; omega
  ·exact .inl hs
  ·exact .inr fun ⟨cs, fr, e2⟩ => hs ⟨cs, fr, by rw [e]; exact e2⟩
 have hno : ∀ k cs fr, (k < B0 ∨ ¬ Nty w k) → B0 ≤ k → w.heap[k]? ≠ some (.cells cs 32 fr) := fun k cs fr hk hB he => by
  rcases hk with hk | hk
  ·omega
  ·exact hk ⟨_, _, he⟩
 refine ⟨?_, h1.mv hT hno, h.mv hT hno⟩;obtain ⟨A, c, e1, e2, e3⟩ := h2;refine ⟨A, c, e1, e2, ?_⟩;cases h with
 | nil A' cap =>
  cases e1;rw [List.length_nil, Nat.zero_mul, List.length_eq_zero_iff] at e2;subst e2;cases A with
  | none => exact .inl ⟨rfl, rfl, rfl⟩
  | some a => exact .inr ⟨a, rfl, fun j u hu => by simp at hu⟩
 | row g cap _ sl hB hg hl =>
  cases e1
  rcases e3 with ⟨e4, _⟩ | ⟨ad, e4, e5⟩
  ·cases e4
  ·cases e4
   obtain ⟨ds, fr, hg⟩ := hg;refine .inr ⟨_, rfl, fun j u hu => ?_⟩;have e6 := e5 j u hu;rw [Addr.add_mid, Nat.zero_add] at e6 ⊢;exact hT.cell e6 fun hs => hno g ds fr hs hB hg
theorem Full.mv {D : Nat → Prop} {B0 : Nat} {w w1 : World} {ks : List Nd} {v : Value} {S : Nat → Prop} (h : Full D w B0 ks v) (ht : Touch S w w1) (hS : ∀ k, S k → GS D B0 none w k) : Full D w1 B0 ks v := by
 obtain ⟨cs, h⟩ := h;exact ⟨cs, fun W' hW => h W' (GS.pre ht hS (fun _ h => .inl h) hW)⟩
theorem Full.tree {D : Nat → Prop} {B0 : Nat} {w : World} {ks : List Nd} {v : Value} (h : Full D w B0 ks v) : TreT B0 w ks v := by
 obtain ⟨cs, h⟩ := h;exact (h w (Touch.refl _ _)).2.2
theorem Full.fresh {D : Nat → Prop} {B0 : Nat} {w w1 : World} {ks : List Nd} {v : Value} (h : Full D w B0 ks v) (ht : Fresh w w1) : Full D w1 B0 ks v := h.mv ht fun _ h => h.elim
theorem Grow.tree {D : Nat → Prop} {w : World} {B0 B : Nat} {ks : List Nd} {v : Value} (h : Grow D w B0 B ks v) (hB : B0 ≤ B) : TreT B0 w ks v := by
 obtain ⟨cs, h1, h2⟩ := h;exact (h2 w (Touch.refl _ _)).own hB h1
theorem Grow.nil (D : Nat → Prop) (w : World) (B0 B : Nat) : Grow D w B0 B [] (.slice none 0 0) := ⟨[], World.ownsRow_nil _ _ _ _, fun _ _ => rfl⟩
theorem Grow.mv {D : Nat → Prop} {w w1 : World} {B0 B : Nat} {ks : List Nd} {v : Value} {S : Nat → Prop} (h : Grow D w B0 B ks v) (ht : Touch S w w1) (hB : B0 ≤ B) (hD : ∀ k, D k → k < B) (hS : ∀ k, S k → D k ∨ k < B0 ∨ ¬ Nty w k) : Grow D w1 B0 B ks v := by
 obtain ⟨cs, h1, h2⟩ := h;refine ⟨cs, ownsRow_touch h1 ht fun k hk hs => ?_, h2.mv ht fun k hk => .inr (hS k hk)⟩;obtain ⟨h3, cur, h4⟩ := owns_type h1 hk
 rcases hS k hs with h5 | h5 | h5
 ·have := hD k h5; omega
 ·omega
 ·exact h5 ⟨_, _, h4⟩
theorem Grow.fresh {D : Nat → Prop} {w w1 : World} {B0 B : Nat} {ks : List Nd} {v : Value} (h : Grow D w B0 B ks v) (ht : Fresh w w1) : Grow D w1 B0 B ks v := by
 obtain ⟨cs, h1, h2⟩ := h;exact ⟨cs, ownsRow_touch h1 ht fun k hk hs => hs, h2.mv ht fun k hk => hk.elim⟩
theorem Grow.slice {D : Nat → Prop} {w : World} {B0 B : Nat} {ks : List Nd} {v : Value} (h : Grow D w B0 B ks v) : ∃ A cap, v = .slice A ks.length cap := by
 obtain ⟨cs, h1, _⟩ := h;exact own_slc h1
theorem PT.nty {c : Cf} {k : Kp} {op : List Nat} {w : World} {b : Nat} (hp : Ps c k op w) (hk : PT c.g c.W0.heap.size w b) : ¬ Nty w b := by
 rintro ⟨cs, fr, e⟩;obtain ⟨ov, hb, _⟩ := hp.box
 rcases hk with rfl | ⟨_, cs', fr', h3⟩
 ·unfold Blk at hb
  rw [hb] at e;cases e
 ·rw [h3] at e
  cases e
theorem Src.cells1 {w : World} {size m c g : Nat} {news : List Value} (h : Src w size (.slice (some ⟨g, 0, none⟩) m c) m news) : ∀ j u, news[j]? = some u → w.cell? ((⟨g, 0, none⟩ : Addr).add j) = some u := by
 obtain ⟨A, c', h1, h2, h3⟩ := h;cases h1
 rcases h3 with ⟨h4, _⟩ | ⟨ad, h4, h5⟩
 ·cases h4
 ·cases h4; exact h5
theorem TreT.lit {B : Nat} {w : World} {n : Nd} {sl : Value} (h : TreT B w n.kids sl) (hB : B ≤ w.heap.size) (ht : n.text.length ≤ maxLen) : TreT B (w.alloc (.cells #[.int .i64 n.kind, .string ⟨n.text.toArray⟩, .int .i64 n.cols, sl] 32)) [n] (.slice (some ⟨w.heap.size, 0, none⟩) 1 1) := by
 have hb := Blk.new w 32 #[.int .i64 n.kind, .string ⟨n.text.toArray⟩, .int .i64 n.cols, sl];obtain ⟨p0, p1, p2, p3, _⟩ := Blk.four hb;exact TreT.one hB ⟨_, _, hb⟩ p0 p1 p2 p3 (h.fresh ((Touch.refl _ _).alloc _)) ht
def Grew (B : Nat) (w w' : World) : Prop := Touch (fun k => B ≤ k ∧ ∃ cs, Blk w k 32 cs) w w'
theorem Grew.size {B : Nat} {w w' : World} (h : Grew B w w') : w.heap.size ≤ w'.heap.size := Touch.size h
theorem Grew.blk1 {B : Nat} {w w' : World} {k : Nat} {t : TypeId} {cs : Array Value} (h : Grew B w w') (hb : Blk w k t cs) (hk : k < B) : Blk w' k t cs := Touch.blk h hb fun ⟨h1, _⟩ => by omega
theorem Grew.mp {g B B' : Nat} {w W W' : World} (h : Grew B' W W') (hm : Mp g B w W) (hB : w.heap.size ≤ B') : Mp g B w W' := Touch.trans' hm h fun _ hi => .inr (Nat.le_trans hB hi.1)
theorem Grew.ps {c : Cf} {k : Kp} {B' : Nat} {op : List Nat} {W W' : World} (h : Grew B' W W') (hp : Ps c k op W) (hB : c.W0.heap.size ≤ B') (hg : c.g < B') : Ps c k op W' := hp.mv h fun b hb => ⟨by have := hb.1; omega, Nat.le_trans hB hb.1, 32, hb.2.elim fun cs h => ⟨cs, by decide, h⟩⟩
section
variable {w : World} {ops : Array Oper} {rest : List Oper} {o : Oper} {a : Act} {Q : Exit → Act → World → Prop}
theorem wpList_append_grow (hgd : o.guard = none) (s x : Operand)
  (ho : o.op = .call { callee := .builtin .append, args := #[s, x], argTypes := #[23, 23] })
  (i : TypeInfo) (z : Value) (hi : Try.prog.info? 32 = some i) (hz : i.zero = some z) (hsize : i.size = 4) (hby : i.bytes = 56) (hzs : z.cells.size = 4)
  {D : Nat → Prop} {B0 B B1 : Nat} {ks : List Nd} {v y : Value} (h : Grow D w B0 B ks v) (hs : a.eval s = v) (n : Nd) (sl : Value) (hx : a.eval x = y) (hsrc : Src w 4 y 1 [.int .i64 n.kind, .string ⟨n.text.toArray⟩, .int .i64 n.cols, sl])
  (htr : TreT B1 w n.kids sl) (hB1 : B0 ≤ B1) (hD : ∀ k, D k → k < B1) (hown : ∀ k, v.ownBlock = some k → k < B1) (htx : n.text.length ≤ maxLen) (hlen : ks.length < 2 ^ 40) (hB : B ≤ w.heap.size)
  (hK : ∀ A cp w', Grow D w' B0 B (ks ++ [n]) (.slice A (ks.length + 1) cp) → Grew B w w' → wpList Try.prog ops Q rest (a.put o.dst (.slice A (ks.length + 1) cp)) w') : wpList Try.prog ops Q (o :: rest) a w := by
 obtain ⟨cs, h1, h2⟩ := h
 have h3 : ∀ u ∈ [Value.int .i64 n.kind, .string ⟨n.text.toArray⟩, .int .i64 n.cols, sl], u.oneCell' = true := by
  obtain ⟨_, _, rfl⟩ := htr.slice;simp [Value.oneCell']
 refine wpList_append_src _ hgd s x 23 ho B 32 i z 4 56 rfl hi hz hsize hby hzs (by decide) v ks.length cs hs h1 y 1 _ hx hsrc h3 (by simp only [maxLen]; omega) (by omega) hB fun v' w' ho' hgr hv => ?_
 obtain ⟨A, cp, rfl⟩ := own_slc ho'
 exact hK A cp w' ⟨_, by rw [List.length_append]; exact ho', h2.push hgr (fun k hk => by rcases hv with h6 | h6 <;> rw [h6] at hk <;> first | exact .inl hk | (cases hk; exact .inr (Nat.le_refl _))) htr hB1 hown hD htx⟩ (Touch.grown (Touch.refl _ _) hgr fun k hk => .inl (by
  obtain ⟨h4, cur, h5⟩ := owns_type h1 hk;exact ⟨h4, _, h5⟩))
theorem wpList_append_growL (hgd : o.guard = none) (s x : Operand)
  (ho : o.op = .call { callee := .builtin .append, args := #[s, x], argTypes := #[23, 23] })
  (i : TypeInfo) (z : Value) (hi : Try.prog.info? 32 = some i) (hz : i.zero = some z) (hsize : i.size = 4) (hby : i.bytes = 56) (hzs : z.cells.size = 4)
  {D : Nat → Prop} {B0 B B1 : Nat} {ks ms : List Nd} {v y : Value} (h : Grow D w B0 B ks v) (hs : a.eval s = v) (hx : a.eval x = y) (htr : TreT B1 w ms y) (hB1 : B0 ≤ B1) (hD : ∀ k, D k → k < B1) (hown : ∀ k, v.ownBlock = some k → k < B1) (hlen : ks.length + ms.length < 2 ^ 40) (hB : B ≤ w.heap.size)
  (hK : ∀ A cp w', Grow D w' B0 B (ks ++ ms) (.slice A (ks.length + ms.length) cp) → Grew B w w' → wpList Try.prog ops Q rest (a.put o.dst (.slice A (ks.length + ms.length) cp)) w') : wpList Try.prog ops Q (o :: rest) a w := by
 obtain ⟨cs, h1, h2⟩ := h;obtain ⟨ds, h3, hsrc⟩ := htr.src;refine wpList_append_src _ hgd s x 23 ho B 32 i z 4 56 rfl hi hz hsize hby hzs (by decide) v ks.length cs hs h1 y ms.length _ hx hsrc h3.oneCell (by simp only [maxLen]; omega) (by omega) hB fun v' w' ho' hgr hv => ?_
 obtain ⟨A, cp, rfl⟩ := own_slc ho'
 exact hK A cp w' ⟨_, by rw [List.length_append]; exact ho', h2.pushL hgr (fun k hk => by rcases hv with h6 | h6 <;> rw [h6] at hk <;> first | exact .inl hk | (cases hk; exact .inr (Nat.le_refl _))) h3 hB1 hown hD⟩ (Touch.grown (Touch.refl _ _) hgr fun k hk => .inl (by
  obtain ⟨h4, cur, h5⟩ := owns_type h1 hk;exact ⟨h4, _, h5⟩))
theorem wpList_append_first (hgd : o.guard = none) (s x : Operand)
  (ho : o.op = .call { callee := .builtin .append, args := #[s, x], argTypes := #[23, 23] })
  (i : TypeInfo) (z : Value) (hi : Try.prog.info? 32 = some i) (hz : i.zero = some z) (hsize : i.size = 4) (hby : i.bytes = 56) (hzs : z.cells.size = 4)
  {D : Nat → Prop} {B0 B B1 : Nat} {ks : List Nd} {A0 : Option Addr} (h : Full D w B0 ks (.slice A0 ks.length ks.length)) (hs : a.eval s = .slice A0 ks.length ks.length) (n : Nd) (sl : Value) (ad : Addr) (hx : a.eval x = .slice (some ad) 1 1) (hsrc : ∀ j u, [Value.int .i64 n.kind, .string ⟨n.text.toArray⟩, .int .i64 n.cols, sl][j]? = some u → w.cell? (ad.add j) = some u)
  (htr : TreT B1 w n.kids sl) (hB1 : B0 ≤ B1) (hD : ∀ k, D k → k < B1) (htx : n.text.length ≤ maxLen) (hlen : ks.length < 2 ^ 40) (hB : B ≤ w.heap.size)
  (hK : ∀ A cp w', Grow D w' B0 B (ks ++ [n]) (.slice A (ks.length + 1) cp) → Grew B w w' → wpList Try.prog ops Q rest (a.put o.dst (.slice A (ks.length + 1) cp)) w') : wpList Try.prog ops Q (o :: rest) a w := by
 obtain ⟨cs, hf⟩ := h;obtain ⟨⟨A', c', h2, h4, h5⟩, _⟩ := hf w (Touch.refl _ _);cases h2
 have h3 : ∀ u ∈ [Value.int .i64 n.kind, .string ⟨n.text.toArray⟩, .int .i64 n.cols, sl], u.oneCell' = true := by
  obtain ⟨_, _, rfl⟩ := htr.slice;simp [Value.oneCell']
 refine wpList_append_grows w hgd s x 23 ho 32 i z 4 56 rfl hi hz hsize hby hzs (by decide) A0 ks.length ks.length cs hs (fun e => ?_) h4 (fun b e j u hu => ?_) ad 1 1 _ hx rfl hsrc h3 (by omega) (by simp only [maxLen]; omega) (by omega) fun v' w' ho' hgr => ?_
 ·rcases h5 with ⟨_, h6, _⟩ | ⟨_, h6, _⟩
  ·exact ⟨h6, h6⟩
  ·rw [e] at h6; cases h6
 ·rcases h5 with ⟨h6, _⟩ | ⟨ad', h6, h7⟩
  ·rw [e] at h6; cases h6
  ·rw [e] at h6; cases h6; exact h7 j u hu
 ·obtain ⟨A, cp, rfl⟩ := own_slc ho'
  have hs : Saf D B0 none w ks cs := fun W' hW => (hf W' hW).2.1
  refine hK A cp w' ⟨_, by rw [List.length_append]; exact ownsRow_base ho' hB, hs.push hgr (fun k hk => .inr (owns_type ho' hk).1) htr hB1 (fun k hk => by cases hk) hD htx⟩ (Touch.grown (Touch.refl _ _) hgr fun k hk => by cases hk)
end
end Go.Proofs.Ytnamnmpnoiodnaa
namespace Go.Proofs.Ytnamnmpnoiodnaa
open Go.RowKit
open Tr (Nd)
open Lx (PTok)
open Mcr (R pRow pIn pScript pItem pPrim pArgs pName pCells pArg)
attribute [local go_sem] stillV stillUpon
def WithN (c : Cf) (f n : Nat) : Prop := ∀ (k : Kp) (op : List Nat) (kd : Int) (tx : List UInt8) (ks0 : List Nd) (A0 : Option Addr) (B0 : Nat) (w : World), Ps c k op w → op.length ≤ k.p → tx.length ≤ maxLen → ks0.length ≤ 10 → B0 ≤ w.heap.size → TreT B0 w ks0 (.slice A0 ks0.length ks0.length) → pArgs c.E f n op (c.at k) ≠ .out →
 Calls Try.prog 59 #[pp0 c, .agg #[.int .i64 kd, .string ⟨tx.toArray⟩, .int .i64 0, .slice A0 ks0.length ks0.length], .int .i64 (n : Int)] w fun e w' =>
  match pArgs c.E f n op (c.at k) with
  | .ok ks rest => ∃ b k', e = .returned (.tuple #[.slice (some ⟨b, 0, none⟩) 1 1, failV 0 0]) ∧ TreT B0 w' [.mk kd tx 0 (ks0 ++ ks)] (.slice (some ⟨b, 0, none⟩) 1 1) ∧ c.at k' = rest ∧ k.p ≤ k'.p ∧ Ps c k' op w' ∧ Mp c.g c.W0.heap.size w w'
  | .err i er => er ≠ 0 ∧ ∃ A n cp, e = .returned (.tuple #[.slice A n cp, failV i er]) ∧ Mp c.g c.W0.heap.size w w'
  | .out => True
theorem infoNodeN : (Try.prog.info? 32).map (fun i => (i.zero, i.size, i.bytes)) = some (some (.agg #[.int .i64 0, .string ⟨#[]⟩, .int .i64 0, .slice none 0 0]), 4, 56) := by kernel_rfl
theorem with_n (c : Cf) (hc : c.Good) (F n : Nat) (hn : n ≤ 2) (harg : ∀ f', f' < F → ArgumentN c f') : WithN c F n := by
 intro k op kd tx ks0 A0 B0 w h hop htx hk0 hB0 htr hne;obtain ⟨i, hi, hz0, hz1, hz2⟩ := info_parts infoNodeN;have HARG := hid harg;have htl := hc.tl;have H := hid h;have HOP := hid hop;have HTX := hid htx;have HTR := hid htr;have HB0 := hid hB0;have hgl : c.g < w.heap.size := h.glt;have HW0 := hid h.low.size;have HNE := hid hne;refine Calls.via fun Q hQ => ?_
 have HQ := hid hQ;clear hne harg h hop hc hQ htx htr hB0;generalize hX : pArgs c.E F n op (c.at k) = X at HNE HQ;have HX := hid hX;clear hX;go_enter Try.func59, Try.ntmps59;go_wp2_with fail
 have hf1 : Fresh w ((w.alloc (.cells #[.int .i64 kd, .string ⟨tx.toArray⟩, .int .i64 0, .slice A0 ks0.length ks0.length] 32)).alloc (.cells #[.int .i64 0, .int .i64 0] 56)) := ((Touch.refl _ _).alloc _).alloc _;have hbn : Blk ((w.alloc (.cells #[.int .i64 kd, .string ⟨tx.toArray⟩, .int .i64 0, .slice A0 ks0.length ks0.length] 32)).alloc (.cells #[.int .i64 0, .int .i64 0] 56)) w.heap.size 32 #[.int .i64 kd, .string ⟨tx.toArray⟩, .int .i64 0, .slice A0 ks0.length ks0.length] := (Blk.new _ _ _).alloc _;have hbf : Blk ((w.alloc (.cells #[.int .i64 kd, .string ⟨tx.toArray⟩, .int .i64 0, .slice A0 ks0.length ks0.length] 32)).alloc (.cells #[.int .i64 0, .int .i64 0] 56)) (w.heap.size + 1) 56 #[.int .i64 0, .int .i64 0] := Blk.new2 _ _ _ _;have hsw1 : ((w.alloc (.cells #[.int .i64 kd, .string ⟨tx.toArray⟩, .int .i64 0, .slice A0 ks0.length ks0.length] 32)).alloc (.cells #[.int .i64 0, .int .i64 0] 56)).heap.size = w.heap.size + 2 := by simp
 generalize ((w.alloc (.cells #[.int .i64 kd, .string ⟨tx.toArray⟩, .int .i64 0, .slice A0 ks0.length ks0.length] 32)).alloc (.cells #[.int .i64 0, .int .i64 0] 56)) = W1 at hf1 hbn hbf hsw1 ⊢;have HF1 := hid hf1;have HSZ1 := hid hsw1;have HBN1 := hid hbn;have HBF1 := hid hbf;clear hf1 hbn hbf hsw1
 go_loopw [11] (fun j wr => ∃ (m : Nat) (k1 : Kp) (ks : List Nd) (A : Option Addr) (cp : Nat), j = .int .i64 m ∧ m ≤ n ∧ ks.length = m ∧ Hid (Blk wr w.heap.size 32 #[.int .i64 kd, .string ⟨tx.toArray⟩, .int .i64 0, .slice A (ks0 ++ ks).length cp]) ∧ Hid (Blk wr (w.heap.size + 1) 56 #[.int .i64 0, .int .i64 0]) ∧ Hid ((m = 0 ∧ cp = (ks0 ++ ks).length ∧ Full (fun k => k = w.heap.size ∨ k = w.heap.size + 1) wr B0 (ks0 ++ ks) (.slice A (ks0 ++ ks).length cp)) ∨ Grow (fun k => k = w.heap.size ∨ k = w.heap.size + 1) wr B0 W1.heap.size (ks0 ++ ks) (.slice A (ks0 ++ ks).length cp)) ∧ Hid (Ps c k1 op wr) ∧ k.p ≤ k1.p ∧ Hid (Mp c.g c.W0.heap.size w wr) ∧ W1.heap.size ≤ wr.heap.size ∧ Hid (X = (pArgs c.E (F - m) (n - m) op (c.at k1)).map fun l => ks ++ l)) (fun j _ => n - (intOf j).toNat)
 case atStart =>
  refine ⟨0, k, [], A0, ks0.length, rfl, Nat.zero_le _, rfl, by rw [List.append_nil]; exact HBN1, HBF1, .inl ⟨rfl, by rw [List.append_nil], by rw [List.append_nil]; exact HTR.out.full HF1.out (fun k hk => by rcases hk with rfl | rfl <;> omega)⟩, H.out.fresh HF1.out, Nat.le_refl _, Mp.fresh HF1.out, Nat.le_refl _, ?_⟩;unfold Hid;rw [← HX.out, Nat.sub_zero, Nat.sub_zero];cases pArgs c.E F n op (c.at k) <;> rfl
 case round =>
  obtain ⟨m, k1, ks, A, cp, rfl, hm, hks, HBN, HBF, HG, HP, hkk, HM, hsz, HXX⟩ := hrel;have HKS := hid hks;clear hks
  by_cases c1 : m < n
  ·have d1 : decide ((m : Int) < (n : Int)) = true := by simp; omega
   have d1n : decide (m < n) = true := by simp; omega
   have d1' : (m : Int) < (n : Int) := by omega
   obtain ⟨f', hf'⟩ : ∃ f', F - m = f' + 1 := by
    rcases Nat.eq_zero_or_pos (F - m) with h0 | h0
    ·exfalso
     have h1 := HXX.out;rw [h0] at h1;exact HNE.out (by rw [h1]; cases n - m <;> (rw [pArgs]; rfl))
    ·exact ⟨F - m - 1, by omega⟩
   obtain ⟨n', hn'⟩ : ∃ n', n - m = n' + 1 := ⟨n - m - 1, by omega⟩;have HXS := hid (show X = ((pArg c.E f' op (c.at k1)).bind fun a r => (pArgs c.E f' n' op r).map fun l => a :: l).map fun l => ks ++ l from by rw [HXX.out, hf', hn', pArgs]);have HFF := hid (show f' < F ∧ f' = F - (m + 1) ∧ n' = n - (m + 1) from by omega);obtain ⟨p0, p1, p2, p3, y0, y1, y2, y3, hlt0⟩ := Blk.four HBN.out;obtain ⟨q0, q1, z0, z1, hlt1⟩ := Blk.two HBF.out;clear hf' hn' HXX;go_wp2_with fail
   refine (HARG.out f' HFF.out.1 k1 op _ HP.out (by have := HOP.out; (try simp only [Kp.up_p] at this ⊢); omega) (fun h => HNE.out (by rw [HXS.out, h]; rfl))).mono ?_;intro e w2 hres;generalize pArg c.E f' op (c.at k1) = r at HXS hres;cases r with
   | out => exact absurd (by rw [HXS.out]; rfl) HNE.out
   | err ei er =>
    obtain ⟨he0, nn, An, cn, rfl, hmv⟩ := hres;have HE0 := hid he0;have e0 := fail_ne he0;have HM2 := hid (HM.out.trans hmv);have hbr2 := hmv.blk HBF.out (by omega) (by decide);have HBF2 := hid hbr2;have HXE := hid (show X = .err ei er from HXS.out);have hsz2 := hmv.size;clear hmv he0 hbr2 p0 p1 p2 p3 y0 y1 y2 y3 q0 q1 z0 z1;unfold failV nodeV;go_wp2_with fail
    have hbe : Blk ((w2.alloc (.cells #[.int .i64 nn.kind, .string ⟨nn.text.toArray⟩, .int .i64 nn.cols, .slice An nn.kids.length cn] 32)).alloc (.cells #[.int .i64 (ei : Int), .int .i64 (er : Int)] 56)) (w2.heap.size + 1) 56 #[.int .i64 (ei : Int), .int .i64 (er : Int)] := Blk.new2 _ _ _ _;have hbr : Blk ((w2.alloc (.cells #[.int .i64 nn.kind, .string ⟨nn.text.toArray⟩, .int .i64 nn.cols, .slice An nn.kids.length cn] 32)).alloc (.cells #[.int .i64 (ei : Int), .int .i64 (er : Int)] 56)) (w.heap.size + 1) 56 #[.int .i64 0, .int .i64 0] := (HBF2.out.alloc _).alloc _;have hmr : Mp c.g c.W0.heap.size w ((w2.alloc (.cells #[.int .i64 nn.kind, .string ⟨nn.text.toArray⟩, .int .i64 nn.cols, .slice An nn.kids.length cn] 32)).alloc (.cells #[.int .i64 (ei : Int), .int .i64 (er : Int)] 56)) := (HM2.out.alloc _).alloc _;generalize ((w2.alloc (.cells #[.int .i64 nn.kind, .string ⟨nn.text.toArray⟩, .int .i64 nn.cols, .slice An nn.kids.length cn] 32)).alloc (.cells #[.int .i64 (ei : Int), .int .i64 (er : Int)] 56)) = W3 at hbe hbr hmr ⊢;have r0 := cR (hbe.cell 0 |>.trans rfl);have r1 := cR (hbe.cell 1 |>.trans rfl);have hlt3 := hbe.lt;have HBR := hid hbr;have HMR := hid hmr;clear hbe hbr hmr;refine wp_region_mix [([(0, true), (1, true)], 2)] [] (by kernel_rfl) (fun _ _ d _ _ h => by cases d <;> exact h) (by kernel_rfl) ?_;refine wpMix_seg ?_
    repeat (refine wpSeq_plain rfl (fun K hK => ?_); go_simp; refine hK _ ?_; clear hK K)
    obtain ⟨p0, p1, y0, y1, hlt⟩ := Blk.two (HBR.out.drewN 1);refine wpSeq_shut rfl (fun K hK => ?_);go_wp2_with fail
    refine wpMix_end ?_;go_wp2_with fail
    have hb5 : Blk _ (w.heap.size + 1) 56 #[.int .i64 (ei : Int), .int .i64 (er : Int)] := ((HBR.out.drewN 1).put 0 (.int .i64 (ei : Int))).put 1 (.int .i64 (er : Int));have hm5 := ((HMR.out.drewN 1).setCell (p := ⟨w.heap.size + 1, 0, none⟩) (.inr (by show w.heap.size ≤ w.heap.size + 1; omega)) (.int .i64 (ei : Int))).setCell (p := ⟨w.heap.size + 1, 1, none⟩) (.inr (by show w.heap.size ≤ w.heap.size + 1; omega)) (.int .i64 (er : Int));obtain ⟨f0, f1, _⟩ := Blk.two hb5
    (try simp only [Exit.inBlock, Exit.then])
    refine bodyPost_ret (v := .tuple #[.slice none 0 0, failV ei er]) (by simp [failV, results, Try.results59, go_sem, f0, f1]) rfl ?_;rw [HXE.out] at HQ;exact HQ.out _ _ ⟨HE0.out, none, 0, 0, rfl, hm5⟩
   | ok a rest =>
    obtain ⟨A1, cp1, k', rfl, htr, htx, hdr, hkk2, hp, hm⟩ := hres;have HTR := hid htr;have HTX := hid htx;have HDR := hid hdr;have HP3 := hid hp;have HM2 := hid (HM.out.trans hm);have HBN2 := hid (hm.blk HBN.out (by omega) (by decide));have HBF2 := hid (hm.blk HBF.out (by omega) (by decide));have hsz2 := hm.size;have HTx := hid (show a.text.length ≤ maxLen from htx);have HMM := hid hm;obtain ⟨p0, p1, p2, p3, y0, y1, y2, y3, hlt0⟩ := Blk.four HBN2.out;clear htr htx hdr hp hm q0 q1 z0 z1;unfold failV nodeV;have HBB := hid (show B0 ≤ w.heap.size ∧ W1.heap.size ≤ wr.heap.size ∧ W1.heap.size = w.heap.size + 2 from by have := HB0.out; have := HSZ1.out; omega)
    rcases HG.out with ⟨rfl, rfl, hg⟩ | hg
    ·have HG2 := hid (show Full (fun k => k = w.heap.size ∨ k = w.heap.size + 1) w2 B0 ks0 (.slice A ks0.length ks0.length) from by
      have h0 : ks = [] := List.length_eq_zero_iff.1 HKS.out; subst h0; rw [List.append_nil] at hg; exact hg.mv HMM.out (fun k hk => .inr (.inr (.inr (PT.nty HP.out hk)))))
     have h0 : ks = [] := List.length_eq_zero_iff.1 HKS.out; subst h0; clear hg
     have HLN := hid (show ks0.length ≤ 10 from hk0);have FR := hid (show Fresh w2 (((w2.alloc (.cells #[.int .i64 a.kind, .string ⟨a.text.toArray⟩, .int .i64 a.cols, .slice A1 a.kids.length cp1] 32)).alloc (.cells #[.int .i64 0, .int .i64 0] 56)).alloc (.cells #[.int .i64 a.kind, .string ⟨a.text.toArray⟩, .int .i64 a.cols, .slice A1 a.kids.length cp1] 32)) from (((Touch.refl _ _).alloc _).alloc _).alloc _);have BL := hid (show Blk (((w2.alloc (.cells #[.int .i64 a.kind, .string ⟨a.text.toArray⟩, .int .i64 a.cols, .slice A1 a.kids.length cp1] 32)).alloc (.cells #[.int .i64 0, .int .i64 0] 56)).alloc (.cells #[.int .i64 a.kind, .string ⟨a.text.toArray⟩, .int .i64 a.cols, .slice A1 a.kids.length cp1] 32)) (w2.heap.size + 1 + 1) 32 #[.int .i64 a.kind, .string ⟨a.text.toArray⟩, .int .i64 a.cols, .slice A1 a.kids.length cp1] from by have := Blk.new ((w2.alloc (.cells #[.int .i64 a.kind, .string ⟨a.text.toArray⟩, .int .i64 a.cols, .slice A1 a.kids.length cp1] 32)).alloc (.cells #[.int .i64 0, .int .i64 0] 56)) 32 #[.int .i64 a.kind, .string ⟨a.text.toArray⟩, .int .i64 a.cols, .slice A1 a.kids.length cp1]; simpa using this)
     go_wp2_with (at_builtin; refine wpList_append_first rfl (.tmp 23) (.tmp 25) rfl i _ hi hz0 hz1 hz2 rfl (B0 := B0) (B := W1.heap.size) (B1 := wr.heap.size) (ks := ks0) (A0 := A) (HG2.out.fresh FR.out) (by simp [Act.eval]) a (.slice A1 a.kids.length cp1) ⟨w2.heap.size + 1 + 1, 0, none⟩ (by simp [Act.eval]) (fun j u hu => (Src.of_blk (size := 4) (m := 1) (c := 1) BL.out rfl).cells1 j u hu) (HTR.out.fresh FR.out) (by have := HBB.out; omega) (fun k hk => by have := HBB.out; rcases hk with rfl | rfl <;> omega) HTX.out (by have := HLN.out; omega) (by have := HBB.out; have := FR.out.size; omega) ?_; intro A8 cp8 W8 hg8 ht8; refine Stay.mk ?_)
     have HG8 := hid hg8;have HB8 := hid (ht8.blk1 (FR.out.blk HBN2.out fun h => h) (by have := HBB.out; omega));have HF8 := hid (ht8.blk1 (FR.out.blk HBF2.out fun h => h) (by have := HBB.out; omega));have HP8 := hid (ht8.ps (HP3.out.fresh FR.out) (by have := HBB.out; have := HW0.out; omega) (by have := HBB.out; omega));have HM8 := hid (ht8.mp (HM2.out.trans (Mp.fresh FR.out)) (by have := HBB.out; omega));have HSZ8 := hid (show wr.heap.size ≤ W8.heap.size from by have := ht8.size; have := FR.out.size; omega);clear hg8 ht8 p0 p1 p2 p3 y0 y1 y2 y3 hlt0;obtain ⟨p0, p1, p2, p3, y0, y1, y2, y3, hlt0⟩ := Blk.four HB8.out;refine Stay.go ?_;go_wp2_with fail
     have hb9 := HB8.out.put 3 (.slice A8 (ks0.length + 1) cp8);have hf9 := HF8.out.far (p := ⟨w.heap.size, 3, none⟩) (by simp) (.slice A8 (ks0.length + 1) cp8);have ht9 := (Touch.refl (fun b => b = w.heap.size) W8).setCell (p := ⟨w.heap.size, 3, none⟩) (.inl rfl) (.slice A8 (ks0.length + 1) cp8);have hm9 := HM8.out.setCell (p := ⟨w.heap.size, 3, none⟩) (.inr (Nat.le_refl _)) (.slice A8 (ks0.length + 1) cp8);generalize (World.setCell W8 ⟨w.heap.size, 3, none⟩ (.slice A8 (ks0.length + 1) cp8)) = W9 at hb9 hf9 ht9 hm9 ⊢;have hlen : (ks0 ++ ([] ++ [a])).length = ks0.length + 1 := by simp
     have happ : ks0 ++ ([] ++ [a]) = ks0 ++ [a] := by simp
     have hgr9 : Grow (fun k => k = w.heap.size ∨ k = w.heap.size + 1) W9 B0 W1.heap.size (ks0 ++ ([] ++ [a])) (.slice A8 (ks0.length + 1) cp8) := by
      rw [happ];have := HG8.out.mv ht9 (by have := HBB.out; omega) (fun k hk => by have := HBB.out; rcases hk with rfl | rfl <;> omega) (fun k hk => .inl (.inl hk));exact this
     have hps9 := HP8.out.mv ht9 (fun b hb => by have := HW0.out; subst hb; exact ⟨by omega, HW0.out, _, _, (by decide), HB8.out⟩);refine ⟨⟨0 + 1, k', [] ++ [a], A8, cp8, by simp, by omega, by have := HKS.out; rfl, by rw [hlen]; exact hb9, hf9, .inr (by rw [hlen]; exact hgr9), hps9, by have := hkk2; omega, hm9, by have := ht9.size; have := HSZ8.out; have := HBB.out; omega, ?_⟩, by simp [intOf]; omega⟩;unfold Hid;rw [HXS.out, HDR.out, ← HFF.out.2.1, ← HFF.out.2.2];show ((pArgs c.E f' n' op rest).map fun l => a :: l).map (fun l => [] ++ l) = _;cases pArgs c.E f' n' op rest <;> simp [Mcr.R.map, Mcr.R.bind]
    ·have HG2 := hid (show Grow (fun k => k = w.heap.size ∨ k = w.heap.size + 1) w2 B0 W1.heap.size (ks0 ++ ks) (.slice A (ks0 ++ ks).length cp) from by
      exact hg.mv HMM.out (by have := HBB.out; omega) (fun k hk => by have := HBB.out; rcases hk with rfl | rfl <;> omega) (fun k hk => .inr (.inr (PT.nty HP.out hk))))
     have HOB := hid (show ∀ k, (Value.slice A (ks0 ++ ks).length cp).ownBlock = some k → k < wr.heap.size from fun k hk => by obtain ⟨cs, h1, _⟩ := hg; obtain ⟨_, cur, h4⟩ := owns_type h1 hk; exact (Array.getElem?_eq_some_iff.1 h4).1);clear hg;have HLN := hid (show ks0.length ≤ 10 ∧ ks.length ≤ 10 from ⟨hk0, by have := HKS.out; omega⟩);have FR := hid (show Fresh w2 (((w2.alloc (.cells #[.int .i64 a.kind, .string ⟨a.text.toArray⟩, .int .i64 a.cols, .slice A1 a.kids.length cp1] 32)).alloc (.cells #[.int .i64 0, .int .i64 0] 56)).alloc (.cells #[.int .i64 a.kind, .string ⟨a.text.toArray⟩, .int .i64 a.cols, .slice A1 a.kids.length cp1] 32)) from (((Touch.refl _ _).alloc _).alloc _).alloc _);have BL := hid (show Blk (((w2.alloc (.cells #[.int .i64 a.kind, .string ⟨a.text.toArray⟩, .int .i64 a.cols, .slice A1 a.kids.length cp1] 32)).alloc (.cells #[.int .i64 0, .int .i64 0] 56)).alloc (.cells #[.int .i64 a.kind, .string ⟨a.text.toArray⟩, .int .i64 a.cols, .slice A1 a.kids.length cp1] 32)) (w2.heap.size + 1 + 1) 32 #[.int .i64 a.kind, .string ⟨a.text.toArray⟩, .int .i64 a.cols, .slice A1 a.kids.length cp1] from by have := Blk.new ((w2.alloc (.cells #[.int .i64 a.kind, .string ⟨a.text.toArray⟩, .int .i64 a.cols, .slice A1 a.kids.length cp1] 32)).alloc (.cells #[.int .i64 0, .int .i64 0] 56)) 32 #[.int .i64 a.kind, .string ⟨a.text.toArray⟩, .int .i64 a.cols, .slice A1 a.kids.length cp1]; simpa using this)
     go_wp2_with (at_builtin; refine wpList_append_grow rfl (.tmp 23) (.tmp 25) rfl i _ hi hz0 hz1 hz2 rfl (B0 := B0) (B := W1.heap.size) (B1 := wr.heap.size) (ks := ks0 ++ ks) (v := .slice A (ks0 ++ ks).length cp) (y := .slice (some ⟨w2.heap.size + 1 + 1, 0, none⟩) 1 1) (HG2.out.fresh FR.out) (by simp [Act.eval]) a (.slice A1 a.kids.length cp1) (by simp [Act.eval]) (Src.of_blk (BL.out) rfl) (HTR.out.fresh FR.out) (by have := HBB.out; omega) (fun k hk => by have := HBB.out; rcases hk with rfl | rfl <;> omega) HOB.out HTX.out (by have := HLN.out; simp; omega) (by have := HBB.out; have := FR.out.size; omega) ?_; intro A8 cp8 W8 hg8 ht8; refine Stay.mk ?_)
     have HG8 := hid hg8;have HB8 := hid (ht8.blk1 (FR.out.blk HBN2.out fun h => h) (by have := HBB.out; omega));have HF8 := hid (ht8.blk1 (FR.out.blk HBF2.out fun h => h) (by have := HBB.out; omega));have HP8 := hid (ht8.ps (HP3.out.fresh FR.out) (by have := HBB.out; have := HW0.out; omega) (by have := HBB.out; omega));have HM8 := hid (ht8.mp (HM2.out.trans (Mp.fresh FR.out)) (by have := HBB.out; omega));have HSZ8 := hid (show wr.heap.size ≤ W8.heap.size from by have := ht8.size; have := FR.out.size; omega);clear hg8 ht8 p0 p1 p2 p3 y0 y1 y2 y3 hlt0;obtain ⟨p0, p1, p2, p3, y0, y1, y2, y3, hlt0⟩ := Blk.four HB8.out;refine Stay.go ?_;go_wp2_with fail
     have hb9 := HB8.out.put 3 (.slice A8 (ks0.length + ks.length + 1) cp8);have hf9 := HF8.out.far (p := ⟨w.heap.size, 3, none⟩) (by simp) (.slice A8 (ks0.length + ks.length + 1) cp8);have ht9 := (Touch.refl (fun b => b = w.heap.size) W8).setCell (p := ⟨w.heap.size, 3, none⟩) (.inl rfl) (.slice A8 (ks0.length + ks.length + 1) cp8);have hm9 := HM8.out.setCell (p := ⟨w.heap.size, 3, none⟩) (.inr (Nat.le_refl _)) (.slice A8 (ks0.length + ks.length + 1) cp8);generalize (World.setCell W8 ⟨w.heap.size, 3, none⟩ (.slice A8 (ks0.length + ks.length + 1) cp8)) = W9 at hb9 hf9 ht9 hm9 ⊢;have hlen : (ks0 ++ (ks ++ [a])).length = ks0.length + ks.length + 1 := by simp; omega
     have happ : ks0 ++ (ks ++ [a]) = (ks0 ++ ks) ++ [a] := by simp
     have hgr9 : Grow (fun k => k = w.heap.size ∨ k = w.heap.size + 1) W9 B0 W1.heap.size (ks0 ++ (ks ++ [a])) (.slice A8 (ks0.length + ks.length + 1) cp8) := by
      rw [happ];have := HG8.out.mv ht9 (by have := HBB.out; omega) (fun k hk => by have := HBB.out; rcases hk with rfl | rfl <;> omega) (fun k hk => .inl (.inl hk));rw [List.length_append] at this; exact this
     have hps9 := HP8.out.mv ht9 (fun b hb => by have := HW0.out; subst hb; exact ⟨by omega, HW0.out, _, _, (by decide), HB8.out⟩);refine ⟨⟨m + 1, k', ks ++ [a], A8, cp8, by simp, by omega, by have := HKS.out; simp; omega, by rw [hlen]; exact hb9, hf9, .inr (by rw [hlen]; exact hgr9), hps9, by have := hkk2; omega, hm9, by have := ht9.size; have := HSZ8.out; have := HBB.out; omega, ?_⟩, by simp [intOf]; omega⟩;unfold Hid;rw [HXS.out, HDR.out, ← HFF.out.2.1, ← HFF.out.2.2];show ((pArgs c.E f' n' op rest).map fun l => a :: l).map (fun l => ks ++ l) = _;cases pArgs c.E f' n' op rest <;> simp [Mcr.R.map, Mcr.R.bind]
  ·have hmn : m = n := by omega
   have HKS2 := hid (show ks.length = n by rw [HKS.out, hmn]);have d1 : decide ((m : Int) < (n : Int)) = false := by simp; omega
   have d1n : decide (m < n) = false := by simp; omega
   have d1' : ¬ ((m : Int) < (n : Int)) := by omega
   obtain ⟨p0, p1, p2, p3, y0, y1, y2, y3, hlt0⟩ := Blk.four HBN.out;obtain ⟨q0, q1, z0, z1, hlt1⟩ := Blk.two HBF.out;have HMN := hid hmn;clear hmn;go_wp2_with fail
   have htr1 : TreT B0 wr (ks0 ++ ks) (.slice A (ks0 ++ ks).length cp) := by
    have h1 := HB0.out;have h2 := HSZ1.out
    rcases HG.out with ⟨_, _, hg⟩ | hg
    ·exact hg.tree
    ·exact hg.tree (by omega)
   rw [List.length_append] at htr1;have htw := (touch2 wr (w.heap.size + 1) (.int .i64 0) (.int .i64 0));have hmw : Mp c.g c.W0.heap.size w ((put2 wr (w.heap.size + 1) (.int .i64 0) (.int .i64 0)).alloc (.cells #[.int .i64 kd, .string ⟨tx.toArray⟩, .int .i64 0, .slice A (ks0.length + ks.length) cp] 32)) := (HM.out.put2 (g := w.heap.size + 1) (.inr (by omega)) (.int .i64 0) (.int .i64 0)).alloc _;have htr2 := htr1.other HBF.out (by decide) htw;have hps := (HP.out.mv htw (fun b hb => by have := HW0.out; subst hb; exact ⟨by omega, by omega, _, _, (by decide), HBF.out⟩)).fresh ((Touch.refl _ _).alloc (.cells #[.int .i64 kd, .string ⟨tx.toArray⟩, .int .i64 0, .slice A (ks0.length + ks.length) cp] 32));have hbq := ((HBF.out.self2 (.int .i64 0) (.int .i64 0)).alloc (.cells #[.int .i64 kd, .string ⟨tx.toArray⟩, .int .i64 0, .slice A (ks0.length + ks.length) cp] 32));have hone := TreT.lit (n := .mk kd tx 0 (ks0 ++ ks)) htr2 (by have := HB0.out; have := HSZ1.out; have := htw.size; omega) HTX.out;have hszp : (put2 wr (w.heap.size + 1) (.int .i64 0) (.int .i64 0)).heap.size = wr.heap.size := by simp [put2]
   rw [hszp] at hone;simp only [put2] at hmw hps hbq hone;obtain ⟨f0, f1, _⟩ := Blk.two hbq
   (try simp only [Exit.inBlock, Exit.then])
   refine bodyPost_ret (v := .tuple #[.slice (some ⟨wr.heap.size, 0, none⟩) 1 1, failV 0 0]) (by simp [failV, results, Try.results59, go_sem, f0, f1]) rfl ?_
   obtain ⟨f', hf'⟩ : ∃ f', F - m = f' + 1 := by
    rcases Nat.eq_zero_or_pos (F - m) with h0 | h0
    ·exfalso
     have h1 := HXX.out;rw [h0] at h1;exact HNE.out (by rw [h1]; cases n - m <;> (rw [pArgs]; rfl))
    ·exact ⟨F - m - 1, by omega⟩
   have HXO : X = .ok ks (c.at k1) := by
    rw [HXX.out, hf', HMN.out, Nat.sub_self, pArgs];simp [Mcr.R.map, Mcr.R.bind]
   rw [HXO] at HQ;exact HQ.out _ _ ⟨wr.heap.size, k1, rfl, hone, rfl, hkk, hps, hmw⟩
end Go.Proofs.Ytnamnmpnoiodnaa
