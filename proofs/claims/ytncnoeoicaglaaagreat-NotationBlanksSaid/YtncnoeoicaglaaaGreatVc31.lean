/- Part 31 of 48 of a proof; its texts, joined: NqK. No condition. -/
import Derived.Test.YtncnoeoicaglaaaGreatVc30
import Derived.ArgAppend

/- Rows of nodes that grow: their trees stay apart from the row's own block and from the boxes. -/
namespace Go.Proofs.YtncnoeoicaglaaaGreat
open Go.RowKit
open Tr (Nd)
def Nty (w : World) (k : Nat) : Prop := ∃ cs fr, w.heap[k]? = some (.cells cs 26 fr)
theorem Nty.lt {w : World} {k : Nat} (h : Nty w k) : k < w.heap.size := by
 obtain ⟨_, _, h⟩ := h
 exact (Array.getElem?_eq_some_iff.1 h).1
def GS (D : Nat → Prop) (B0 : Nat) (o : Option Nat) (w : World) (k : Nat) : Prop := o = some k ∨ D k ∨ k < B0 ∨ ¬ Nty w k
def Saf (D : Nat → Prop) (B0 : Nat) (o : Option Nat) (w : World) (ks : List Nd) (cs : List Value) : Prop := ∀ W', Touch (GS D B0 o w) w W' → NodesT B0 W' ks cs
theorem GS.pre {D : Nat → Prop} {B0 : Nat} {o o' : Option Nat} {w w1 W' : World} {S : Nat → Prop} (ht : Touch S w w1) (hS : ∀ k, S k → GS D B0 o w k) (ho : ∀ k, o' = some k → o = some k ∨ w.heap.size ≤ k) (hW : Touch (GS D B0 o' w1) w1 W') : Touch (GS D B0 o w) w W' := by
 refine ⟨hW.os.trans ht.os, hW.tape.trans ht.tape, hW.output.trans ht.output, Nat.le_trans ht.size hW.size, fun i hi hn => ?_⟩
 have e := ht.block i hi fun hs => hn (hS i hs)
 refine (hW.block i (Nat.lt_of_lt_of_le hi ht.size) fun hs => hn ?_).trans e
 rcases hs with hs | hs | hs | hs
 ·rcases ho i hs with h1 | h1
  ·exact .inl h1
  ·omega
 ·exact .inr (.inl hs)
 ·exact .inr (.inr (.inl hs))
 ·exact .inr (.inr (.inr fun ⟨cs, fr, e2⟩ => hs ⟨cs, fr, by rw [e]; exact e2⟩))
theorem Saf.mv {D : Nat → Prop} {B0 : Nat} {o : Option Nat} {w w1 : World} {ks : List Nd} {cs : List Value} {S : Nat → Prop} (h : Saf D B0 o w ks cs) (ht : Touch S w w1) (hS : ∀ k, S k → GS D B0 o w k) : Saf D B0 o w1 ks cs :=
 fun W' hW => h W' (GS.pre ht hS (fun _ h => .inl h) hW)
theorem Saf.push {D : Nat → Prop} {B0 B1 : Nat} {o o' : Option Nat} {w w' : World} {ks : List Nd} {cs : List Value} {a : Nd} {sl : Value} (h : Saf D B0 o w ks cs) (hgr : w.grownBy w' o) (hv : ∀ k, o' = some k → o = some k ∨ w.heap.size ≤ k) (htr : TreT B1 w a.kids sl) (hB1 : B0 ≤ B1) (hown : ∀ k, o = some k → k < B1) (hD : ∀ k, D k → k < B1) (htx : a.text.length ≤ maxLen) :
  Saf D B0 o' w' (ks ++ [a]) (cs ++ [.int .i64 a.kind, .string ⟨a.text.toArray⟩, .int .i64 a.cols, sl]) := fun W' hW => by
 have hT := GS.pre (o := o) (Touch.grown (S := fun k => o = some k) (Touch.refl _ w) hgr fun k hk => .inl hk) (fun k hk => .inl hk) hv hW
 refine (h W' hT).append ⟨sl, [], rfl, ⟨(htr.mv hT fun k cs fr hk hB he => ?_).base hB1, htx⟩, rfl⟩
 rcases hk with hk | hk | hk | hk
 ·have := hown k hk; omega
 ·have := hD k hk; omega
 ·omega
 ·exact hk ⟨_, _, he⟩
def Grow (D : Nat → Prop) (w : World) (B0 B : Nat) (ks : List Nd) (v : Value) : Prop := ∃ cs, w.ownsRow B 26 4 v ks.length cs ∧ Saf D B0 v.ownBlock w ks cs
def Full (D : Nat → Prop) (w : World) (B0 : Nat) (ks : List Nd) (v : Value) : Prop := ∃ cs, ∀ W', Touch (GS D B0 none w) w W' → Src W' 4 v ks.length cs ∧ NodesT B0 W' ks cs ∧ TreT B0 W' ks v
theorem TreT.full {B0 : Nat} {w w1 : World} {ks : List Nd} {v : Value} {D : Nat → Prop} (h : TreT B0 w ks v) (hf : Fresh w w1) (hD : ∀ k, D k → w.heap.size ≤ k) : Full D w1 B0 ks v := by
 obtain ⟨cs, h1, h2⟩ := h.src
 refine ⟨cs, fun W' hW => ?_⟩
 have hT : Touch (fun k => k < B0 ∨ ¬ Nty w k) w W' := by
  refine ⟨hW.os.trans hf.os, hW.tape.trans hf.tape, hW.output.trans hf.output, Nat.le_trans hf.size hW.size, fun i hi hn => ?_⟩
  have e := hf.block i hi fun hs => hs
  refine (hW.block i (Nat.lt_of_lt_of_le hi hf.size) fun hs => hn ?_).trans e
  rcases hs with hs | hs | hs | hs
  ·cases hs
  ·have := hD i hs; omega
  ·exact .inl hs
  ·exact .inr fun ⟨cs, fr, e2⟩ => hs ⟨cs, fr, by rw [e]; exact e2⟩
 have hno : ∀ k cs fr, (k < B0 ∨ ¬ Nty w k) → B0 ≤ k → w.heap[k]? ≠ some (.cells cs 26 fr) := fun k cs fr hk hB he => by
  rcases hk with hk | hk
  ·omega
  ·exact hk ⟨_, _, he⟩
 refine ⟨?_, h1.mv hT hno, h.mv hT hno⟩
 obtain ⟨A, c, e1, e2, e3⟩ := h2
 refine ⟨A, c, e1, e2, ?_⟩
 cases h with
 | nil A' cap =>
  cases e1
  rw [List.length_nil, Nat.zero_mul, List.length_eq_zero_iff] at e2
  subst e2
  cases A with
  | none => exact .inl ⟨rfl, rfl, rfl⟩
  | some a => exact .inr ⟨a, rfl, fun j u hu => by simp at hu⟩
 | row g cap _ sl hB hg hl =>
  cases e1
  rcases e3 with ⟨e4, _⟩ | ⟨ad, e4, e5⟩
  ·cases e4
  ·cases e4
   obtain ⟨ds, fr, hg⟩ := hg
   refine .inr ⟨_, rfl, fun j u hu => ?_⟩
   have e6 := e5 j u hu
   rw [Addr.add_mid, Nat.zero_add] at e6 ⊢
   exact hT.cell e6 fun hs => hno g ds fr hs hB hg
theorem Full.mv {D : Nat → Prop} {B0 : Nat} {w w1 : World} {ks : List Nd} {v : Value} {S : Nat → Prop} (h : Full D w B0 ks v) (ht : Touch S w w1) (hS : ∀ k, S k → GS D B0 none w k) : Full D w1 B0 ks v := by
 obtain ⟨cs, h⟩ := h
 exact ⟨cs, fun W' hW => h W' (GS.pre ht hS (fun _ h => .inl h) hW)⟩
theorem Full.tree {D : Nat → Prop} {B0 : Nat} {w : World} {ks : List Nd} {v : Value} (h : Full D w B0 ks v) : TreT B0 w ks v := by
 obtain ⟨cs, h⟩ := h
 exact (h w (Touch.refl _ _)).2.2
theorem Full.fresh {D : Nat → Prop} {B0 : Nat} {w w1 : World} {ks : List Nd} {v : Value} (h : Full D w B0 ks v) (ht : Fresh w w1) : Full D w1 B0 ks v := h.mv ht fun _ h => h.elim
theorem Grow.tree {D : Nat → Prop} {w : World} {B0 B : Nat} {ks : List Nd} {v : Value} (h : Grow D w B0 B ks v) (hB : B0 ≤ B) : TreT B0 w ks v := by
 obtain ⟨cs, h1, h2⟩ := h
 exact (h2 w (Touch.refl _ _)).own hB h1
theorem Grow.nil (D : Nat → Prop) (w : World) (B0 B : Nat) : Grow D w B0 B [] (.slice none 0 0) := ⟨[], World.ownsRow_nil _ _ _ _, fun _ _ => rfl⟩
theorem Grow.mv {D : Nat → Prop} {w w1 : World} {B0 B : Nat} {ks : List Nd} {v : Value} {S : Nat → Prop} (h : Grow D w B0 B ks v) (ht : Touch S w w1) (hB : B0 ≤ B) (hD : ∀ k, D k → k < B) (hS : ∀ k, S k → D k ∨ k < B0 ∨ ¬ Nty w k) : Grow D w1 B0 B ks v := by
 obtain ⟨cs, h1, h2⟩ := h
 refine ⟨cs, ownsRow_touch h1 ht fun k hk hs => ?_, h2.mv ht fun k hk => .inr (hS k hk)⟩
 obtain ⟨h3, cur, h4⟩ := owns_type h1 hk
 rcases hS k hs with h5 | h5 | h5
 ·have := hD k h5; omega
 ·omega
 ·exact h5 ⟨_, _, h4⟩
theorem Grow.fresh {D : Nat → Prop} {w w1 : World} {B0 B : Nat} {ks : List Nd} {v : Value} (h : Grow D w B0 B ks v) (ht : Fresh w w1) : Grow D w1 B0 B ks v := by
 obtain ⟨cs, h1, h2⟩ := h
 exact ⟨cs, ownsRow_touch h1 ht fun k hk hs => hs, h2.mv ht fun k hk => hk.elim⟩
theorem Grow.slice {D : Nat → Prop} {w : World} {B0 B : Nat} {ks : List Nd} {v : Value} (h : Grow D w B0 B ks v) : ∃ A cap, v = .slice A ks.length cap := by
 obtain ⟨cs, h1, _⟩ := h
 exact own_slc h1
theorem PT.nty {c : Cf} {k : Nat} {op : List Nat} {w : World} {b : Nat} (hp : Ps c k op w) (hk : PT c.g c.W0.heap.size w b) : ¬ Nty w b := by
 rintro ⟨cs, fr, e⟩
 obtain ⟨ov, hb, _⟩ := hp.box
 rcases hk with rfl | ⟨_, cs', fr', h3⟩
 ·unfold Blk at hb
  rw [hb] at e
  cases e
 ·rw [h3] at e
  cases e
theorem Src.cells1 {w : World} {size m c g : Nat} {news : List Value} (h : Src w size (.slice (some ⟨g, 0, none⟩) m c) m news) : ∀ j u, news[j]? = some u → w.cell? ((⟨g, 0, none⟩ : Addr).add j) = some u := by
 obtain ⟨A, c', h1, h2, h3⟩ := h
 cases h1
 rcases h3 with ⟨h4, _⟩ | ⟨ad, h4, h5⟩
 ·cases h4
 ·cases h4; exact h5
theorem TreT.lit {B : Nat} {w : World} {n : Nd} {sl : Value} (h : TreT B w n.kids sl) (hB : B ≤ w.heap.size) (ht : n.text.length ≤ maxLen) : TreT B (w.alloc (.cells #[.int .i64 n.kind, .string ⟨n.text.toArray⟩, .int .i64 n.cols, sl] 26)) [n] (.slice (some ⟨w.heap.size, 0, none⟩) 1 1) := by
 have hb := Blk.new w 26 #[.int .i64 n.kind, .string ⟨n.text.toArray⟩, .int .i64 n.cols, sl]
 obtain ⟨p0, p1, p2, p3, _⟩ := Blk.four hb
 exact TreT.one hB ⟨_, _, hb⟩ p0 p1 p2 p3 (h.fresh ((Touch.refl _ _).alloc _)) ht
def Grew (B : Nat) (w w' : World) : Prop := Touch (fun k => B ≤ k ∧ ∃ cs, Blk w k 26 cs) w w'
theorem Grew.size {B : Nat} {w w' : World} (h : Grew B w w') : w.heap.size ≤ w'.heap.size := Touch.size h
theorem Grew.blk1 {B : Nat} {w w' : World} {k : Nat} {t : TypeId} {cs : Array Value} (h : Grew B w w') (hb : Blk w k t cs) (hk : k < B) : Blk w' k t cs := Touch.blk h hb fun ⟨h1, _⟩ => by omega
theorem Grew.mp {g B B' : Nat} {w W W' : World} (h : Grew B' W W') (hm : Mp g B w W) (hB : w.heap.size ≤ B') : Mp g B w W' := Touch.trans' hm h fun _ hi => .inr (Nat.le_trans hB hi.1)
theorem Grew.ps {c : Cf} {k B' : Nat} {op : List Nat} {W W' : World} (h : Grew B' W W') (hp : Ps c k op W) (hB : c.W0.heap.size ≤ B') (hg : c.g < B') : Ps c k op W' := hp.mv h fun b hb => ⟨by have := hb.1; omega, Nat.le_trans hB hb.1, 26, hb.2.elim fun cs h => ⟨cs, by decide, h⟩⟩
section
variable {w : World} {ops : Array Oper} {rest : List Oper} {o : Oper} {a : Act} {Q : Exit → Act → World → Prop}
set_option maxRecDepth 100000 in
theorem wpList_append_grow (hgd : o.guard = none) (s x : Operand)
  (ho : o.op = .call { callee := .builtin .append, args := #[s, x], argTypes := #[24, 24] })
  (i : TypeInfo) (z : Value) (hi : Tryz.prog.info? 26 = some i) (hz : i.zero = some z) (hsize : i.size = 4) (hby : i.bytes = 56) (hzs : z.cells.size = 4)
  {D : Nat → Prop} {B0 B B1 : Nat} {ks : List Nd} {v y : Value} (h : Grow D w B0 B ks v) (hs : a.eval s = v) (n : Nd) (sl : Value) (hx : a.eval x = y) (hsrc : Src w 4 y 1 [.int .i64 n.kind, .string ⟨n.text.toArray⟩, .int .i64 n.cols, sl])
  (htr : TreT B1 w n.kids sl) (hB1 : B0 ≤ B1) (hD : ∀ k, D k → k < B1) (hown : ∀ k, v.ownBlock = some k → k < B1) (htx : n.text.length ≤ maxLen) (hlen : ks.length < 2 ^ 40) (hB : B ≤ w.heap.size)
  (hK : ∀ A cp w', Grow D w' B0 B (ks ++ [n]) (.slice A (ks.length + 1) cp) → Grew B w w' → wpList Tryz.prog ops Q rest (a.put o.dst (.slice A (ks.length + 1) cp)) w') : wpList Tryz.prog ops Q (o :: rest) a w := by
 obtain ⟨cs, h1, h2⟩ := h
 have h3 : ∀ u ∈ [Value.int .i64 n.kind, .string ⟨n.text.toArray⟩, .int .i64 n.cols, sl], u.oneCell' = true := by
  obtain ⟨_, _, rfl⟩ := htr.slice
  simp [Value.oneCell']
 refine wpList_append_src _ hgd s x 24 ho B 26 i z 4 56 rfl hi hz hsize hby hzs (by decide) v ks.length cs hs h1 y 1 _ hx hsrc h3 (by simp only [maxLen]; omega) (by omega) hB fun v' w' ho' hgr hv => ?_
 obtain ⟨A, cp, rfl⟩ := own_slc ho'
 exact hK A cp w' ⟨_, by rw [List.length_append]; exact ho', h2.push hgr (fun k hk => by rcases hv with h6 | h6 <;> rw [h6] at hk <;> first | exact .inl hk | (cases hk; exact .inr (Nat.le_refl _))) htr hB1 hown hD htx⟩ (Touch.grown (Touch.refl _ _) hgr fun k hk => .inl (by
  obtain ⟨h4, cur, h5⟩ := owns_type h1 hk
  exact ⟨h4, _, h5⟩))
set_option maxRecDepth 100000 in
theorem wpList_append_first (hgd : o.guard = none) (s x : Operand)
  (ho : o.op = .call { callee := .builtin .append, args := #[s, x], argTypes := #[24, 24] })
  (i : TypeInfo) (z : Value) (hi : Tryz.prog.info? 26 = some i) (hz : i.zero = some z) (hsize : i.size = 4) (hby : i.bytes = 56) (hzs : z.cells.size = 4)
  {D : Nat → Prop} {B0 B B1 : Nat} {ks : List Nd} {A0 : Option Addr} (h : Full D w B0 ks (.slice A0 ks.length ks.length)) (hs : a.eval s = .slice A0 ks.length ks.length) (n : Nd) (sl : Value) (ad : Addr) (hx : a.eval x = .slice (some ad) 1 1) (hsrc : ∀ j u, [Value.int .i64 n.kind, .string ⟨n.text.toArray⟩, .int .i64 n.cols, sl][j]? = some u → w.cell? (ad.add j) = some u)
  (htr : TreT B1 w n.kids sl) (hB1 : B0 ≤ B1) (hD : ∀ k, D k → k < B1) (htx : n.text.length ≤ maxLen) (hlen : ks.length < 2 ^ 40) (hB : B ≤ w.heap.size)
  (hK : ∀ A cp w', Grow D w' B0 B (ks ++ [n]) (.slice A (ks.length + 1) cp) → Grew B w w' → wpList Tryz.prog ops Q rest (a.put o.dst (.slice A (ks.length + 1) cp)) w') : wpList Tryz.prog ops Q (o :: rest) a w := by
 obtain ⟨cs, hf⟩ := h
 obtain ⟨⟨A', c', h2, h4, h5⟩, _⟩ := hf w (Touch.refl _ _)
 cases h2
 have h3 : ∀ u ∈ [Value.int .i64 n.kind, .string ⟨n.text.toArray⟩, .int .i64 n.cols, sl], u.oneCell' = true := by
  obtain ⟨_, _, rfl⟩ := htr.slice
  simp [Value.oneCell']
 refine wpList_append_grows w hgd s x 24 ho 26 i z 4 56 rfl hi hz hsize hby hzs (by decide) A0 ks.length ks.length cs hs (fun e => ?_) h4 (fun b e j u hu => ?_) ad 1 1 _ hx rfl hsrc h3 (by omega) (by simp only [maxLen]; omega) (by omega) fun v' w' ho' hgr => ?_
 ·rcases h5 with ⟨_, h6, _⟩ | ⟨_, h6, _⟩
  ·exact ⟨h6, h6⟩
  ·rw [e] at h6; cases h6
 ·rcases h5 with ⟨h6, _⟩ | ⟨ad', h6, h7⟩
  ·rw [e] at h6; cases h6
  ·rw [e] at h6; cases h6; exact h7 j u hu
 ·obtain ⟨A, cp, rfl⟩ := own_slc ho'
  have hs : Saf D B0 none w ks cs := fun W' hW => (hf W' hW).2.1
  refine hK A cp w' ⟨_, by rw [List.length_append]; exact ownsRow_base ho' hB, hs.push hgr (fun k hk => .inr (owns_type ho' hk).1) htr hB1 (fun k hk => by cases hk) hD htx⟩ (Touch.grown (Touch.refl _ _) hgr fun k hk => by cases hk)
end
end Go.Proofs.YtncnoeoicaglaaaGreat
