/- Part 13 of 33 of a proof; its texts, joined: XmC, PrZ, GnA, MnA, TrK, MnB. No condition. -/
import Derived.Test.YtfnjcldgicohaaaGreatWa12
import Derived.Test.YtfnjcldgicohaaaGreatWa5
import Derived.Test.YtfnjcldgicohaaaGreatWa3
import Derived.Test.YtfnjcldgicohaaaGreatWa7
import Derived.Test.YtfnjcldgicohaaaGreatWa2
set_option maxRecDepth 100000
set_option maxHeartbeats 1000000
namespace Go.Proofs.YtfnjcldgicohaaaGreat
open Go.RowKit
open El (E Attrs)
def NoStr (w : World) (b : Nat) : Prop := ∀ o x, w.cell? ⟨b, o, none⟩ ≠ some (.string x)
theorem NoStr.int {w : World} {c : Nat} {k : Int} (h : Blk w c 3 #[.int .i64 k]) : NoStr w c := by
 intro o x hx;rw [h.cell] at hx
 match o with
 | 0 => cases hx
 | _ + 1 => cases hx
theorem RepA.turn {S : Nat → Prop} {W W' : World} {ats : Attrs} {v : Value} (h : RepA W ats v) (ht : Touch S W W') (hS : ∀ b, S b → NoStr W b) : RepA W' ats v := by
 obtain ⟨A, cap, h1, h2, h3, h4⟩ := h;refine ⟨A, cap, h1, h2, h3, h4.imp id ?_⟩;rintro ⟨g, o, hA, hg, hc⟩;refine ⟨g, o, hA, Nat.lt_of_lt_of_le hg ht.size, fun i hi => ?_⟩;have hn : ¬ S g := fun hs => hS g hs _ _ (hc i hi).1
 exact ⟨ht.cell (hc i hi).1 hn, ht.cell (hc i hi).2 hn⟩
theorem RepE.turn {S : Nat → Prop} {W W' : World} {es : List E} {v : Value} (h : RepE W es v) (ht : Touch S W W') (hS : ∀ b, S b → NoStr W b) : RepE W' es v := by
 induction h with
 | nil A cap => exact .nil A cap
 | row g o cap es al sl hg hl htx h0 h1 h2 h3 ha hk ih =>
  have hn : ∀ i, i < es.length → ¬ S g := fun i hi hs => hS g hs _ _ (h0 i hi)
  exact .row g o cap es al sl (Nat.lt_of_lt_of_le hg ht.size) hl htx (fun i hi => ht.cell (h0 i hi) (hn i hi)) (fun i hi => ht.cell (h1 i hi) (hn i hi)) (fun i hi => ht.cell (h2 i hi) (hn i hi)) (fun i hi => ht.cell (h3 i hi) (hn i hi)) (fun i hi => (ha i hi).turn ht hS) ih
theorem RepV.turn {S : Nat → Prop} {W W' : World} {e : E} {va vk : Value} (h : RepV W e va vk) (ht : Touch S W W') (hS : ∀ b, S b → NoStr W b) : RepV W' e va vk := ⟨h.1.turn ht hS, h.2.1.turn ht hS, h.2.2⟩
theorem RepA.take {W : World} {ats : Attrs} {A : Option Addr} {len cap : Nat} (h : RepA W ats (.slice A len cap)) (i : Nat) (hi : i ≤ ats.length) : RepA W (ats.take i) (.slice A i cap) := by
 obtain ⟨A', cap', h1, h2, h3, h4⟩ := h;cases h1;have hln : (ats.take i).length = i := by rw [List.length_take]; omega
 refine ⟨A, cap, by rw [hln], ⟨by rw [hln]; omega, by rw [hln]; omega⟩, fun x hx => h3 x (List.mem_of_mem_take hx), ?_⟩
 rcases h4 with rfl | ⟨g, o, hA, hg, hc⟩
 ·exact .inl (by simp)
 ·refine .inr ⟨g, o, hA, hg, fun k hk => ?_⟩
  have := hc k (by omega);simpa using this
theorem RepA.cap {W : World} {ats : Attrs} {A : Option Addr} {len cap : Nat} (h : RepA W ats (.slice A len cap)) : ats.length ≤ cap := by
 obtain ⟨A', cap', h1, h2, h3, h4⟩ := h;cases h1;exact h2.2
def ElAt (w : World) (g o : Nat) (e : E) (va vk : Value) : Prop := g < w.heap.size ∧ w.cell? ⟨g, o, none⟩ = some (.string ⟨e.name.toArray⟩) ∧ w.cell? ⟨g, o + 1, none⟩ = some va ∧ w.cell? ⟨g, o + 2, none⟩ = some vk ∧ w.cell? ⟨g, o + 3, none⟩ = some (.string ⟨e.text.toArray⟩) ∧ RepV w e va vk
theorem ElAt.turn {S : Nat → Prop} {w w' : World} {g o : Nat} {e : E} {va vk : Value} (h : ElAt w g o e va vk) (ht : Touch S w w') (hS : ∀ b, S b → NoStr w b) : ElAt w' g o e va vk := by
 have hn : ¬ S g := fun hs => hS g hs _ _ h.2.1
 exact ⟨Nat.lt_of_lt_of_le h.1 ht.size, ht.cell h.2.1 hn, ht.cell h.2.2.1 hn, ht.cell h.2.2.2.1 hn, ht.cell h.2.2.2.2.1 hn, h.2.2.2.2.2.turn ht hS⟩
theorem ElAt.fresh {w w' : World} {g o : Nat} {e : E} {va vk : Value} (h : ElAt w g o e va vk) (ht : Fresh w w') : ElAt w' g o e va vk := h.turn ht fun _ hf => hf.elim
theorem ElAt.ne {w : World} {g o : Nat} {e : E} {va vk : Value} (h : ElAt w g o e va vk) {c : Nat} (hc : NoStr w c) : g ≠ c := fun he => hc o _ (he ▸ h.2.1)
theorem RepE.elAt {W : World} {es : List E} {A : Option Addr} {len cap : Nat} (h : RepE W es (.slice A len cap)) (i : Nat) (hi : i < es.length) :
  ∃ g o va vk, A = some ⟨g, o, none⟩ ∧ ElAt W g (o + i * 4) es[i] va vk := by
 obtain ⟨g, o, va, vk, hA, hg, h0, h1, h2, h3, hr⟩ := h.get i hi;exact ⟨g, o, va, vk, hA, hg, h0, h1, h2, h3, hr⟩
namespace El
def vald (d k : Nat) (e : E) : Bool := proper e && decide (d + depth e ≤ 65) && decide (k + count e ≤ 3000)
def valdL (d k : Nat) (l : List E) : Bool := properL l && decide (d + depthL l ≤ 65) && decide (k + countL l ≤ 3000)
theorem vald_top (e : E) : vald 1 0 e = valid e := by
 unfold vald valid;rw [Bool.eq_iff_iff];simp only [Bool.and_eq_true, decide_eq_true_eq, Nat.zero_add];constructor
 ·rintro ⟨⟨h1, h2⟩, h3⟩; exact ⟨⟨h1, h3⟩, by omega⟩
 ·rintro ⟨⟨h1, h2⟩, h3⟩; exact ⟨⟨h1, by omega⟩, h2⟩
theorem vald_eq (d k : Nat) (e : E) : vald d k e = (decide (k + 1 ≤ 3000) && decide (d ≤ 64) && ownOK e && valdL (d + 1) (k + 1) e.kids) := by
 unfold vald valdL;rw [proper_eq, depth_kids, count_kids, Bool.eq_iff_iff];simp only [Bool.and_eq_true, decide_eq_true_eq];constructor
 ·rintro ⟨⟨⟨h1, h2⟩, h3⟩, h4⟩; exact ⟨⟨⟨by omega, by omega⟩, h1⟩, ⟨h2, by omega⟩, by omega⟩
 ·rintro ⟨⟨⟨h1, h2⟩, h3⟩, ⟨h4, h5⟩, h6⟩; exact ⟨⟨⟨h3, h4⟩, by omega⟩, by omega⟩
theorem valdL_snoc (d k : Nat) (l : List E) (j : Nat) (h : j < l.length) : valdL d k (l.take (j + 1)) = (valdL d k (l.take j) && vald d (k + countL (l.take j)) l[j]) := by
 unfold valdL vald;rw [properL_all, properL_all, depthL_take l j h, countL_take l j h, List.take_add_one, List.getElem?_eq_getElem h, List.all_append];simp only [Option.toList_some, List.all_cons, List.all_nil, Bool.and_true];rw [Bool.eq_iff_iff];simp only [Bool.and_eq_true, decide_eq_true_eq];constructor
 ·rintro ⟨⟨⟨h1, h2⟩, h3⟩, h4⟩; exact ⟨⟨⟨h1, by omega⟩, by omega⟩, ⟨h2, by omega⟩, by omega⟩
 ·rintro ⟨⟨⟨h1, h2⟩, h3⟩, ⟨h4, h5⟩, h6⟩; exact ⟨⟨⟨h1, h4⟩, by omega⟩, by omega⟩
theorem valdL_no (d k : Nat) (l : List E) (j : Nat) (h : valdL d k (l.take j) = false) : valdL d k l = false := by
 rw [← Bool.not_eq_true] at h ⊢;intro h';apply h
 unfold valdL at h' ⊢;simp only [Bool.and_eq_true, decide_eq_true_eq] at h' ⊢;obtain ⟨⟨h1, h2⟩, h3⟩ := h';have := countL_le l j
 have hd : depthL (l.take j) ≤ depthL l := by
  have e : l = l.take j ++ l.drop j := (List.take_append_drop j l).symm;have := depthL_app (l.take j) (l.drop j);rw [← e] at this;omega
 refine ⟨⟨?_, by omega⟩, by omega⟩;rw [properL_all] at h1 ⊢;rw [List.all_eq_true] at h1 ⊢;exact fun x hx => h1 x (List.mem_of_mem_take hx)
theorem attrsOK_nil : attrsOK [] = true := rfl
theorem attrsOK_snoc (l : Attrs) (j : Nat) (h : j < l.length) : attrsOK (l.take (j + 1)) = (attrsOK (l.take j) && (nameOK l[j].1 && valueOK l[j].2 && !(l.take j).any (fun x => x.1 == l[j].1))) := by
 unfold attrsOK;rw [List.take_add_one, List.getElem?_eq_getElem h, List.all_append, List.map_append];simp only [Option.toList_some, List.all_cons, List.all_nil, Bool.and_true, List.map_cons, List.map_nil];rw [Bool.eq_iff_iff];simp only [Bool.and_eq_true, decide_eq_true_eq, Bool.not_eq_true', List.any_eq_false, List.nodup_append, List.mem_map, List.mem_singleton, beq_iff_eq];constructor
 ·rintro ⟨⟨h1, h2, h3⟩, h4, h5, h6⟩
  refine ⟨⟨h1, h4⟩, ⟨h2, h3⟩, fun x hx he => ?_⟩;exact h6 _ ⟨x, hx, rfl⟩ _ rfl he
 ·rintro ⟨⟨h1, h4⟩, ⟨h2, h3⟩, h5⟩
  refine ⟨⟨h1, h2, h3⟩, h4, by simp, ?_⟩;rintro _ ⟨x, hx, rfl⟩ _ rfl he;exact h5 x hx he
theorem attrsOK_no (l : Attrs) (j : Nat) (h : attrsOK (l.take j) = false) : attrsOK l = false := by
 rw [← Bool.not_eq_true] at h ⊢;intro h';apply h
 unfold attrsOK at h' ⊢;simp only [Bool.and_eq_true, decide_eq_true_eq] at h' ⊢;obtain ⟨h1, h2⟩ := h';refine ⟨?_, ?_⟩
 ·rw [List.all_eq_true] at h1 ⊢
  exact fun x hx => h1 x (List.mem_of_mem_take hx)
 ·rw [List.map_take]
  exact (List.take_sublist _ _).nodup h2
end El
end Go.Proofs.YtfnjcldgicohaaaGreat
namespace Go.Proofs.YtfnjcldgicohaaaGreat
open Go.RowKit
abbrev Low (W0 w : World) : Prop := Touch (fun k => W0.heap.size ≤ k) W0 w
theorem low_no {W0 : World} {q : Addr} {v : Value} (h : W0.cell? q = some v) : ¬ W0.heap.size ≤ q.block := by
 have := bL (a := q) (v := v) h;omega
theorem Low.cell {W0 w : World} (hl : Low W0 w) {q : Addr} {v : Value} (h : W0.cell? q = some v) : w.cell? q = some v := Touch.cell hl h (low_no h)
theorem low4 {w w' : World} {a b c d : Addr} {x y z u : Value} (h : Low w w') (h0 : w.cell? a = some x) (h1 : w.cell? b = some y) (h2 : w.cell? c = some z) (h3 : w.cell? d = some u) :
  w'.cell? a = some x ∧ w'.cell? b = some y ∧ w'.cell? c = some z ∧ w'.cell? d = some u := ⟨h.cell h0, h.cell h1, h.cell h2, h.cell h3⟩
theorem Low.fresh {W0 w w' : World} (hl : Low W0 w) (hf : Fresh w w') : Low W0 w' := hl.trans' hf fun _ h => h.elim
theorem RepL.low {W0 w : World} {ks : List Tr.Nd} {v : Value} (h : RepL W0 ks v) (hl : Low W0 w) : RepL w ks v := by
 induction h with
 | nil A cap => exact .nil A cap
 | row g o cap ks sl hg hln ht h0 h1 h2 h3 hk ih =>
  exact .row g o cap ks sl (Nat.lt_of_lt_of_le hg hl.size) hln ht (fun i hi => hl.cell (h0 i hi)) (fun i hi => hl.cell (h1 i hi)) (fun i hi => hl.cell (h2 i hi)) (fun i hi => hl.cell (h3 i hi)) ih
abbrev nv (n : Tr.Nd) (sl : Value) : Value := .agg #[.int .i64 n.kind, .string ⟨n.text.toArray⟩, .int .i64 n.cols, sl]
theorem owns_type {w : World} {B e size n g : Nat} {v : Value} {xs : List Value} (h : w.ownsRow B e size v n xs) (hg : v.ownBlock = some g) : B ≤ g ∧ ∃ cur, w.heap[g]? = some (.cells cur e (0, 0)) := by
 rcases h.2 with ⟨h1, _⟩ | ⟨g', cap, cur, h1, h2, h3, _⟩
 ·rw [h1] at hg; cases hg
 ·rw [h1] at hg
  simp only [Value.ownBlock, Option.some.injEq] at hg;subst hg;exact ⟨h2, cur, h3⟩
end Go.Proofs.YtfnjcldgicohaaaGreat
namespace Go.Proofs.YtfnjcldgicohaaaGreat
open Go.RowKit
open Tr (Nd)
theorem infoNodeG : (Tryz.prog.info? 30).map (fun i => (i.zero, i.size, i.bytes)) = some (some (.agg #[.int .i64 0, .string ⟨#[]⟩, .int .i64 0, .slice none 0 0]), 4, 56) := by kernel_rfl
def MakesN (w w' : World) (n : Nd) (v : Value) : Prop := ∃ sl, v = nv n sl ∧ Fresh w w' ∧ n.text.length ≤ maxLen ∧ Stab (fun k => k < w.heap.size) w' fun W => RepL W n.kids sl
theorem NodesAt.one {W : World} {n : Nd} {sl : Value} (h : RepL W n.kids sl) (ht : n.text.length ≤ maxLen) : NodesAt W [n] [.int .i64 n.kind, .string ⟨n.text.toArray⟩, .int .i64 n.cols, sl] := ⟨sl, [], rfl, h, ht, rfl⟩
def GrowN (B : Nat) (w : World) (ns : List Nd) (v : Value) : Prop := B ≤ w.heap.size ∧ ∃ cs, w.ownsRow B 30 4 v ns.length cs ∧ Stab (fun k => v.ownBlock = some k ∨ k < B) w fun W => NodesAt W ns cs
theorem GrowN.nil {B : Nat} {w : World} (hB : B ≤ w.heap.size) : GrowN B w [] (.slice none 0 0) := ⟨hB, [], World.ownsRow_nil _ _ _ _, fun _ _ => rfl⟩
theorem GrowN.own_lt {B : Nat} {w : World} {ns : List Nd} {v : Value} (h : GrowN B w ns v) : ∀ k, v.ownBlock = some k → B ≤ k ∧ k < w.heap.size := fun k hk => by
 obtain ⟨_, cs, h1, _⟩ := h;exact h1.lt k hk
theorem GrowN.slice {B : Nat} {w : World} {ns : List Nd} {v : Value} (h : GrowN B w ns v) : ∃ A cap, v = .slice A ns.length cap := by
 obtain ⟨_, cs, h1, _⟩ := h;exact own_slc h1
theorem GrowN.mv {B : Nat} {w w1 : World} {ns : List Nd} {v : Value} {S : Nat → Prop} (h : GrowN B w ns v) (ht : Touch S w w1) (hS : ∀ k, S k → k < w.heap.size → k < B) : GrowN B w1 ns v := by
 obtain ⟨hB, cs, h1, h2⟩ := h;refine ⟨Nat.le_trans hB ht.size, cs, ownsRow_touch h1 ht fun k hk hs => ?_, h2.step ht (fun i hi hs => .inr (hS i hs hi)) (fun _ _ h => h)⟩;have h3 := h1.lt k hk;have := hS k hs h3.2;omega
theorem GrowN.fresh {B : Nat} {w w1 : World} {ns : List Nd} {v : Value} (h : GrowN B w ns v) (ht : Fresh w w1) : GrowN B w1 ns v := h.mv ht fun _ h => h.elim
theorem GrowN.rep {B : Nat} {w : World} {ns : List Nd} {v : Value} (h : GrowN B w ns v) : RepL w ns v := by
 obtain ⟨_, cs, h1, h2⟩ := h;exact h2.now.own h1
theorem GrowN.done {B : Nat} {w : World} {ns : List Nd} {v : Value} (h : GrowN B w ns v) : Stab (fun k => k < B) w fun W => RepL W ns v := fun _ hW => (h.mv hW fun _ h _ => h).rep
section
variable {w : World} {ops : Array Oper} {rest : List Oper} {o : Oper} {a : Act} {Q : Exit → Act → World → Prop}
theorem wpList_append_node (hgd : o.guard = none) (s x : Operand)
  (ho : o.op = .call { callee := .builtin .append, args := #[s, x], argTypes := #[28, 28] })
  {B n g : Nat} {ns : List Nd} {v : Value} (h : GrowN B w ns v) (hn : ns.length = n) (hs : a.eval s = v) (m : Nd) {sl : Value} (hb : Blk w g 30 #[.int .i64 m.kind, .string ⟨m.text.toArray⟩, .int .i64 m.cols, sl]) (hx : a.eval x = .slice (some ⟨g, 0, none⟩) 1 1)
  (w0 : Nat) (hB : B ≤ w0) (hown : ∀ k, v.ownBlock = some k → k < w0) (htl : m.text.length ≤ maxLen) (hrv : Stab (fun k => k < w0) w fun W => RepL W m.kids sl) (hlen : n < 2 ^ 40)
  (hK : ∀ A cp w', GrowN B w' (ns ++ [m]) (.slice A (n + 1) cp) → Touch (fun k => v.ownBlock = some k) w w' → ((Value.slice A (n + 1) cp).ownBlock = v.ownBlock ∨ (Value.slice A (n + 1) cp).ownBlock = some w.heap.size) → wpList Tryz.prog ops Q rest (a.put o.dst (.slice A (n + 1) cp)) w') : wpList Tryz.prog ops Q (o :: rest) a w := by
 subst hn;obtain ⟨hBw, cs, h1, h2⟩ := h;obtain ⟨i, hi, hz0, hz1, hz2⟩ := info_parts infoNodeG;have hv := hrv.now
 have h3 : ∀ u ∈ [Value.int .i64 m.kind, .string ⟨m.text.toArray⟩, .int .i64 m.cols, sl], u.oneCell' = true := by
  intro u hu;simp only [List.mem_cons, List.not_mem_nil, or_false] at hu
  rcases hu with rfl | rfl | rfl | rfl
  ·rfl
  ·rfl
  ·rfl
  ·exact hv.oneCell
 refine wpList_append_src _ hgd s x 28 ho B 30 i _ 4 56 Tryz.underlying28 hi hz0 hz1 hz2 rfl (by decide) v ns.length cs hs h1 _ 1 _ hx (Src.of_blk hb rfl) h3 (by simp only [maxLen]; omega) (by omega) hBw fun v' w' ho' hgr hv' => ?_
 obtain ⟨A, cp, rfl⟩ := own_slc ho';have ht : Touch (fun k => v.ownBlock = some k) w w' := Touch.grown (Touch.refl _ _) hgr fun k hk => .inl hk
 refine hK A cp w' ⟨Nat.le_trans hBw hgr.size, _, by rw [List.length_append]; exact ho', ?_⟩ ht hv'
 have hS : ∀ i, i < w.heap.size → ((Value.slice A (ns.length + 1) cp).ownBlock = some i ∨ i < B) → (v.ownBlock = some i ∨ i < B) := fun i hi hs => by
  rcases hs with hs | hs
  ·rcases hv' with h6 | h6 <;> rw [h6] at hs
   ·exact .inl hs
   ·cases hs; omega
  ·exact .inr hs
 refine ((h2.step ht (fun i _ hs => .inl hs) hS).and (hrv.step ht (fun i hi hs => hown i hs) fun i hi hs => ?_)).imp fun W ⟨h6, h7⟩ => h6.append (NodesAt.one h7 htl)
 rcases hS i hi hs with h6 | h6
 ·exact hown i h6
 ·omega
end
end Go.Proofs.YtfnjcldgicohaaaGreat
namespace Go.Proofs.YtfnjcldgicohaaaGreat
open Go.RowKit
open Tr (Nd)
open El (E Attrs leafK attrV)
theorem leafK_beq (n : List UInt8) : leafK n = if (n == ([109, 105] : List UInt8)) = true then 2 else if (n == ([109, 111] : List UInt8)) = true then 2 else if (n == ([109, 110] : List UInt8)) = true then 3 else if (n == ([109, 116, 101, 120, 116] : List UInt8)) = true then 4 else 0 := by
 unfold leafK;simp only [beq_iff_eq, El.nMi, El.nMo, El.nMn, El.nMtext];rfl
theorem leaf_any (n : List UInt8) (w : World) : Calls Tryz.prog 42 #[.string ⟨n.toArray⟩] w fun e w' => e = .returned (.int .i64 (leafK n)) ∧ w' = w := by
 go_enter Tryz.func42, Tryz.ntmps42;cases h1 : (n == ([109, 105] : List UInt8)) with
 | false =>
  have h1s : ((⟨n.toArray⟩ : ByteArray) == (⟨#[109, 105]⟩ : ByteArray)) = false := by rw [str_eq']; exact h1
  have h1t : ((⟨n.toArray⟩ : ByteArray) != (⟨#[109, 105]⟩ : ByteArray)) = true := by rw [bne, h1s]; rfl
  have h1l : (ByteArray.toList (⟨n.toArray⟩ : ByteArray) == [109, 105]) = false := by rw [ByteArray.toList_eq]; exact h1
  cases h2 : (n == ([109, 111] : List UInt8)) with
  | false =>
   have h2s : ((⟨n.toArray⟩ : ByteArray) == (⟨#[109, 111]⟩ : ByteArray)) = false := by rw [str_eq']; exact h2
   have h2t : ((⟨n.toArray⟩ : ByteArray) != (⟨#[109, 111]⟩ : ByteArray)) = true := by rw [bne, h2s]; rfl
   have h2l : (ByteArray.toList (⟨n.toArray⟩ : ByteArray) == [109, 111]) = false := by rw [ByteArray.toList_eq]; exact h2
   cases h3 : (n == ([109, 110] : List UInt8)) with
   | false =>
    have h3s : ((⟨n.toArray⟩ : ByteArray) == (⟨#[109, 110]⟩ : ByteArray)) = false := by rw [str_eq']; exact h3
    have h3t : ((⟨n.toArray⟩ : ByteArray) != (⟨#[109, 110]⟩ : ByteArray)) = true := by rw [bne, h3s]; rfl
    have h3l : (ByteArray.toList (⟨n.toArray⟩ : ByteArray) == [109, 110]) = false := by rw [ByteArray.toList_eq]; exact h3
    cases h4 : (n == ([109, 116, 101, 120, 116] : List UInt8)) with
    | false =>
     have h4s : ((⟨n.toArray⟩ : ByteArray) == (⟨#[109, 116, 101, 120, 116]⟩ : ByteArray)) = false := by rw [str_eq']; exact h4
     have h4t : ((⟨n.toArray⟩ : ByteArray) != (⟨#[109, 116, 101, 120, 116]⟩ : ByteArray)) = true := by rw [bne, h4s]; rfl
     have h4l : (ByteArray.toList (⟨n.toArray⟩ : ByteArray) == [109, 116, 101, 120, 116]) = false := by rw [ByteArray.toList_eq]; exact h4
     go_wp2_with fail
     go_ret;exact ⟨show _ = Ending.returned (.int .i64 (leafK n)) from by rw [leafK_beq]; simp only [*] <;> rfl, rfl⟩
    | true =>
     have h4s : ((⟨n.toArray⟩ : ByteArray) == (⟨#[109, 116, 101, 120, 116]⟩ : ByteArray)) = true := by rw [str_eq']; exact h4
     have h4t : ((⟨n.toArray⟩ : ByteArray) != (⟨#[109, 116, 101, 120, 116]⟩ : ByteArray)) = false := by rw [bne, h4s]; rfl
     have h4l : (ByteArray.toList (⟨n.toArray⟩ : ByteArray) == [109, 116, 101, 120, 116]) = true := by rw [ByteArray.toList_eq]; exact h4
     go_wp2_with fail
     go_ret;exact ⟨show _ = Ending.returned (.int .i64 (leafK n)) from by rw [leafK_beq]; simp only [*] <;> rfl, rfl⟩
   | true =>
    have h3s : ((⟨n.toArray⟩ : ByteArray) == (⟨#[109, 110]⟩ : ByteArray)) = true := by rw [str_eq']; exact h3
    have h3t : ((⟨n.toArray⟩ : ByteArray) != (⟨#[109, 110]⟩ : ByteArray)) = false := by rw [bne, h3s]; rfl
    have h3l : (ByteArray.toList (⟨n.toArray⟩ : ByteArray) == [109, 110]) = true := by rw [ByteArray.toList_eq]; exact h3
    go_wp2_with fail
    go_ret;exact ⟨show _ = Ending.returned (.int .i64 (leafK n)) from by rw [leafK_beq]; simp only [*] <;> rfl, rfl⟩
  | true =>
   have h2s : ((⟨n.toArray⟩ : ByteArray) == (⟨#[109, 111]⟩ : ByteArray)) = true := by rw [str_eq']; exact h2
   have h2t : ((⟨n.toArray⟩ : ByteArray) != (⟨#[109, 111]⟩ : ByteArray)) = false := by rw [bne, h2s]; rfl
   have h2l : (ByteArray.toList (⟨n.toArray⟩ : ByteArray) == [109, 111]) = true := by rw [ByteArray.toList_eq]; exact h2
   go_wp2_with fail
   go_ret;exact ⟨show _ = Ending.returned (.int .i64 (leafK n)) from by rw [leafK_beq]; simp only [*] <;> rfl, rfl⟩
 | true =>
  have h1s : ((⟨n.toArray⟩ : ByteArray) == (⟨#[109, 105]⟩ : ByteArray)) = true := by rw [str_eq']; exact h1
  have h1t : ((⟨n.toArray⟩ : ByteArray) != (⟨#[109, 105]⟩ : ByteArray)) = false := by rw [bne, h1s]; rfl
  have h1l : (ByteArray.toList (⟨n.toArray⟩ : ByteArray) == [109, 105]) = true := by rw [ByteArray.toList_eq]; exact h1
  go_wp2_with fail
  go_ret;exact ⟨show _ = Ending.returned (.int .i64 (leafK n)) from by rw [leafK_beq]; simp only [*] <;> rfl, rfl⟩
theorem leaf_is (n : List UInt8) (k : Int) (h : leafK n = k) (w : World) : Calls Tryz.prog 42 #[.string ⟨n.toArray⟩] w fun e w' => e = .returned (.int .i64 k) ∧ w' = w := h ▸ leaf_any n w
theorem mletter_list (t : List UInt8) (w : World) : Calls Tryz.prog 43 #[.string ⟨t.toArray⟩] w fun e w' => e = .returned (.bool (El.lett t)) ∧ w' = w := mletter_any ⟨t.toArray⟩ w
theorem mletter_fresh (t : List UInt8) (w : World) : Calls Tryz.prog 43 #[.string ⟨t.toArray⟩] w fun e w' => e = .returned (.bool (El.lett t)) ∧ Fresh w w' :=
 (mletter_list t w).mono fun _ _ h => ⟨h.1, by rw [h.2]; exact Touch.refl _ _⟩
theorem attrV_snoc (a : Attrs) (nm : List UInt8) (j : Nat) (h : j < a.length) (hn : (a.take j).any (fun x => x.1 == nm) = false) : (a[j].1 = nm → attrV a nm = a[j].2) ∧ (a[j].1 ≠ nm → (a.take (j + 1)).any (fun x => x.1 == nm) = false) := by
 induction a generalizing j with
 | nil => simp at h
 | cons x a ih =>
  cases j with
  | zero =>
   refine ⟨fun hx => ?_, fun hx => ?_⟩
   ·rw [attrV, if_pos (by simpa using hx)]; rfl
   ·simpa using hx
  | succ j =>
   simp only [List.take_succ_cons, List.any_cons, Bool.or_eq_false_iff, List.getElem_cons_succ] at hn ⊢;have := ih j (by simpa using h) hn.2;refine ⟨fun hx => ?_, fun hx => ⟨hn.1, this.2 hx⟩⟩;rw [attrV, if_neg (by simpa using hn.1)];exact this.1 hx
theorem attrV_none (a : Attrs) (nm : List UInt8) (hn : a.any (fun x => x.1 == nm) = false) : attrV a nm = [] := by
 induction a with
 | nil => rfl
 | cons x a ih =>
  simp only [List.any_cons, Bool.or_eq_false_iff] at hn;rw [attrV, if_neg (by simpa using hn.1)];exact ih hn.2
theorem attr_any (e : E) (nm : List UInt8) (g o : Nat) (va vk : Value) (w : World) (he : ElAt w g o e va vk) : Calls Tryz.prog 45 #[.pointer (some ⟨g, o, none⟩), .string ⟨nm.toArray⟩] w fun x w' => x = .returned (.string ⟨(attrV e.attrs nm).toArray⟩) ∧ Fresh w w' := by
 obtain ⟨n, ats, ks, t⟩ := e;obtain ⟨A, ca, hva⟩ := he.2.2.2.2.2.1.slice;replace hva : va = .slice A ats.length ca := hva;subst hva;have hl1 : ats.length ≤ maxLen := by obtain ⟨_, _, _, h, _⟩ := he.2.2.2.2.2.1; exact h.1
 unfold maxLen at hl1;have HA := hid (show RepA w ats _ from he.2.2.2.2.2.1);obtain ⟨hg, _, h1, _⟩ := he;show Calls _ _ _ _ (fun x w' => x = .returned (.string ⟨(attrV ats nm).toArray⟩) ∧ Fresh w w');go_enter Tryz.func45, Tryz.ntmps45;go_wp2_with fail
 clear hg h1
 go_loopw [12] (fun i wr => ∃ j : Nat, i = .int .i64 j ∧ j ≤ ats.length ∧ Hid ((ats.take j).any (fun x => x.1 == nm) = false) ∧ Hid (Fresh w wr)) (fun i _ => ats.length - (intOf i).toNat)
 case atStart => exact ⟨0, rfl, Nat.zero_le _, by simp [Hid], Touch.refl _ _⟩
 case round =>
  obtain ⟨j, rfl, hj, HT, HF⟩ := hrel
  by_cases c1 : j < ats.length
  ·have d1 : decide ((j : Int) < (ats.length : Int)) = true := dT (by omega)
   have d1' : (j : Int) < (ats.length : Int) := by omega
   obtain ⟨g, o, rfl, hg, m0, m1, _, _⟩ := HA.out.get j c1;have e0 := HF.out.cell m0 (fun h => h);have f0 := HF.out.cell m1 (fun h => h);clear m0 m1;have HS := hid (attrV_snoc ats nm j c1 HT.out);generalize ats[j] = x at *;cases h4 : decide (x.1 = nm) with
   | true =>
    have e1 : (x.1 == nm) = true := by simpa using h4
    have HV := hid (HS.out.1 (of_decide_eq_true h4));clear h4;go_wp2_with fail
    refine bodyPost_ret (results_tmp rfl _ _ _) rfl ?_;exact ⟨by rw [HV.out]; rfl, frA HF.out⟩
   | false =>
    have e1 : (x.1 == nm) = false := by simpa using h4
    have HV := hid (HS.out.2 (of_decide_eq_false h4));clear h4;go_wp2_with fail
    go_roundw
    case rel => exact ⟨j + 1, by go_num, c1, HV, frA HF.out⟩
    case measure => simp [intOf]; omega
  ·have d1 : decide ((j : Int) < (ats.length : Int)) = false := dF (by omega)
   obtain rfl : j = ats.length := by omega
   have HV := hid (attrV_none ats nm (by have := HT.out; rwa [List.take_length] at this));go_wp2_with fail
   go_ret;exact ⟨by rw [HV.out]; rfl, HF.out⟩
theorem nodeValidItems_any (ks : List Nd) (A : Option Addr) (cap : Nat) (w : World) (hr : RepL w ks (.slice A ks.length cap)) :
  Calls Tryz.prog 71 #[.slice A ks.length cap] w fun e w' => e = .returned (.bool (Tr.valid (.mk 1 [] 0 ks))) ∧ Fresh w w' := by
 have HR := hid hr;clear hr;go_enter Tryz.func71, Tryz.ntmps71;go_wp2_with fail
 refine (valid_all (.mk 1 [] 0 ks) _ _ HR.out (Nat.zero_le _)).mono ?_;rintro _ w2 ⟨rfl, hf2⟩;have HF2 := hid hf2;clear hf2;go_wp2_with fail
 go_ret;exact ⟨rfl, HF2.out⟩
end Go.Proofs.YtfnjcldgicohaaaGreat
namespace Go.Proofs.YtfnjcldgicohaaaGreat
open Go.RowKit
open Tr (Nd)
theorem RepL.leaf1 {W : World} {g : Nat} {k : Int} {s : List UInt8} (h : Blk W g 30 #[.int .i64 k, .string ⟨s.toArray⟩, .int .i64 0, .slice none 0 0]) (hs : s.length ≤ maxLen) : RepL W [.mk k s 0 []] (.slice (some ⟨g, 0, none⟩) 1 1) := by
 refine RepL.row g 0 1 [.mk k s 0 []] (fun _ => .slice none 0 0) h.lt (show 1 ≤ maxLen by decide) ?_ ?_ ?_ ?_ ?_ ?_
 all_goals (intro i hi; obtain rfl : i = 0 := by simpa using hi)
 ·exact hs
 ·exact h.cell 0
 ·exact h.cell 1
 ·exact h.cell 2
 ·exact h.cell 3
 ·exact .nil _ _
theorem RepL.kid1 {W : World} {g : Nat} {k c : Int} {s : List UInt8} {ks : List Nd} {v : Value} (h : Blk W g 30 #[.int .i64 k, .string ⟨s.toArray⟩, .int .i64 c, v]) (hs : s.length ≤ maxLen) (hk : RepL W ks v) : RepL W [.mk k s c ks] (.slice (some ⟨g, 0, none⟩) 1 1) := by
 refine RepL.row g 0 1 [.mk k s c ks] (fun _ => v) h.lt (show 1 ≤ maxLen by decide) ?_ ?_ ?_ ?_ ?_ ?_
 all_goals (intro i hi; obtain rfl : i = 0 := by simpa using hi)
 ·exact hs
 ·exact h.cell 0
 ·exact h.cell 1
 ·exact h.cell 2
 ·exact h.cell 3
 ·exact hk
theorem RepL.kid2 {W : World} {g : Nat} {k c k' c' : Int} {s s' : List UInt8} {ks ks' : List Nd} {v v' : Value} (h : Blk W g 30 #[.int .i64 k, .string ⟨s.toArray⟩, .int .i64 c, v, .int .i64 k', .string ⟨s'.toArray⟩, .int .i64 c', v']) (hs : s.length ≤ maxLen) (hs' : s'.length ≤ maxLen)
  (hk : RepL W ks v) (hk' : RepL W ks' v') : RepL W [.mk k s c ks, .mk k' s' c' ks'] (.slice (some ⟨g, 0, none⟩) 2 2) := by
 refine RepL.row g 0 2 [.mk k s c ks, .mk k' s' c' ks'] (fun i => if i = 0 then v else v') h.lt (show 2 ≤ maxLen by decide) ?_ ?_ ?_ ?_ ?_ ?_
 all_goals (intro i hi; have hi2 : i < 2 := (by simpa using hi); obtain rfl | rfl : i = 0 ∨ i = 1 := by omega)
 ·exact hs
 ·exact hs'
 ·exact h.cell 0
 ·exact h.cell 4
 ·exact h.cell 1
 ·exact h.cell 5
 ·exact h.cell 2
 ·exact h.cell 6
 ·exact h.cell 3
 ·exact h.cell 7
 ·exact hk
 ·exact hk'
end Go.Proofs.YtfnjcldgicohaaaGreat
namespace Go.Proofs.YtfnjcldgicohaaaGreat
open Go.RowKit
open Tr (Nd)
open El (E Attrs leafK attrV rowNil validI)
theorem repl_snoc (j : Nat) : List.replicate j rowNil ++ [rowNil] = List.replicate (j + 1) rowNil := by
 rw [List.replicate_succ']
theorem mvalid_any (k : Int) (t : List UInt8) (s : Nat) (hs : s ≤ 8) (ht : t.length ≤ maxLen) (w : World) : Calls Tryz.prog 44 #[.int .i64 k, .string ⟨t.toArray⟩, .int .i64 (s : Int)] w fun e w' => e = .returned (.bool (validI k t s)) ∧ Fresh w w' := by
 have HT := hid ht;clear ht;go_enter Tryz.func44, Tryz.ntmps44;go_wp2_with fail
 have HB0 := hid (Blk.new w 30 #[.int .i64 k, .string ⟨t.toArray⟩, .int .i64 0, .slice none 0 0]);have HF0 := hid ((Touch.refl (fun _ => False) w).alloc (.cells #[.int .i64 k, .string ⟨t.toArray⟩, .int .i64 0, .slice none 0 0] 30));have HG0 := hid (GrowN.nil (B := w.heap.size + 1) (w := w.alloc (.cells #[.int .i64 k, .string ⟨t.toArray⟩, .int .i64 0, .slice none 0 0] 30)) (by simp));generalize (w.alloc (.cells #[.int .i64 k, .string ⟨t.toArray⟩, .int .i64 0, .slice none 0 0] 30)) = W1 at *
 go_loopw [12] (fun i wr => ∃ (j : Nat) (A : Option Addr) (c : Nat), i = .int .i64 j ∧ j ≤ s ∧ Hid (Blk wr w.heap.size 30 #[.int .i64 k, .string ⟨t.toArray⟩, .int .i64 0, .slice A j c]) ∧ Hid (GrowN (w.heap.size + 1) wr (List.replicate j rowNil) (.slice A j c)) ∧ Hid (Fresh w wr)) (fun i _ => s - (intOf i).toNat)
 case atStart => exact ⟨0, none, 0, rfl, Nat.zero_le _, HB0, HG0, HF0⟩
 case round =>
  obtain ⟨j, A, c, rfl, hj, HB, HG, HF⟩ := hrel;rename_i wr _
  by_cases c1 : j < s
  ·have d1 : decide ((j : Int) < (s : Int)) = true := dT (by omega)
   have d1n : decide (j < s) = true := dT c1;have d1' : (j : Int) < (s : Int) := by omega
   obtain ⟨q0, q1, q2, q3, z0, z1, z2, z3, hlt⟩ := Blk.four HB.out;have HOW := hid HG.out.own_lt;have HLN := hid (show (List.replicate j rowNil).length = j from List.length_replicate);have HBV := hid (Blk.new wr 30 #[.int .i64 1, .string ⟨#[]⟩, .int .i64 0, .slice none 0 0]);have HF5 := hid ((Touch.refl (fun _ => False) wr).alloc (.cells #[.int .i64 1, .string ⟨#[]⟩, .int .i64 0, .slice none 0 0] 30));have HSZ := hid HG.out.1
   go_wp2_with (at_builtin; go_loud (refine wpList_append_node rfl (.tmp 15) (.tmp 17) rfl (HG.out.fresh HF5.out) HLN.out (by simp [Act.eval]) rowNil HBV.out (by simp [Act.eval]) wr.heap.size HSZ.out (fun k hk => (HOW.out k hk).2) (Nat.zero_le _) (fun W _ => RepL.nil _ _) (by omega) ?_); intro A8 c8 w8 hg8 ht8 _; refine Stay.mk ?_)
   have HG8 := hid (show GrowN (w.heap.size + 1) w8 (List.replicate (j + 1) rowNil) (.slice A8 (j + 1) c8) by rw [← repl_snoc]; exact hg8);have HB8 := hid (ht8.blk (HF5.out.blk HB.out fun h => h) fun h => by have := (HOW.out _ h).1; omega);have HF8 := hid (show Fresh w w8 from (HF.out.trans HF5.out).trans' ht8 fun k hk => .inr (by have := (HOW.out _ hk).1; omega));clear hg8 ht8 q0 q1 q2 q3 z0 z1 z2 z3 hlt;obtain ⟨q0, q1, q2, q3, z0, z1, z2, z3, hlt⟩ := Blk.four HB8.out;refine Stay.go ?_;go_wp2_with fail
   go_roundw
   case rel => exact ⟨j + 1, A8, c8, by go_num, c1, hid (HB8.out.put 3 _), hid (HG8.out.mv ((Touch.refl (fun k => k = w.heap.size) w8).setCell (p := ⟨w.heap.size, 3, none⟩) (.inl rfl) (.slice A8 (j + 1) c8)) (fun k hk _ => by omega)), hid (HF8.out.setCell (p := ⟨w.heap.size, 3, none⟩) (.inr (Nat.le_refl _)) _)⟩
   case measure => simp [intOf]; omega
  ·have d1 : decide ((j : Int) < (s : Int)) = false := dF (by omega)
   have d1n : decide (j < s) = false := dF c1;obtain rfl : j = s := by omega
   obtain ⟨q0, q1, q2, q3, z0, z1, z2, z3, hlt⟩ := Blk.four HB.out;go_wp2_with fail
   have hr := RepL.kid1 (k := k) (c := 0) (s := t) (ks := List.replicate j rowNil) (Blk.new wr 30 #[.int .i64 k, .string ⟨t.toArray⟩, .int .i64 0, .slice A j c]) HT.out (HG.out.rep.fresh ((Touch.refl _ wr).alloc _));refine (nodeValidItems_any [.mk k t 0 (List.replicate j rowNil)] _ _ _ hr).mono ?_;rintro _ w3 ⟨rfl, hf3⟩;have HF3 := hid (HF.out.trans (Touch.pre hf3));clear hf3 hr;go_wp2_with fail
   go_ret;exact ⟨rfl, HF3.out⟩
end Go.Proofs.YtfnjcldgicohaaaGreat
