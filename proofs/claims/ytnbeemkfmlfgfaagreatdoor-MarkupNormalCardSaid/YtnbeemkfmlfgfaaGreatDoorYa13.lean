/- Part 13 of 35 of a proof; its texts, joined: ElR, ElG, XmB, XmC, RegI. No condition. -/
import Derived.Test.YtnbeemkfmlfgfaaGreatDoorYa5
import Derived.Test.YtnbeemkfmlfgfaaGreatDoorYa3
import Derived.Test.YtnbeemkfmlfgfaaGreatDoorYa12
import Derived.Test.YtnbeemkfmlfgfaaGreatDoorYa4
set_option maxRecDepth 100000
set_option maxHeartbeats 1000000
namespace Go.Proofs.YtnbeemkfmlfgfaaGreatDoor
open Go.ChangeShapes Go.WideShapes Go.ChangeAt Go.RowKit
open El (E Attrs)
theorem infoElem : (Tryz.prog.info? 45).map (fun i => (i.zero, i.size, i.bytes)) = some (some (.agg #[.string ⟨#[]⟩, .slice none 0 0, .slice none 0 0, .string ⟨#[]⟩]), 4, 80) := by kernel_rfl
theorem infoAttr : (Tryz.prog.info? 79).map (fun i => (i.zero, i.size, i.bytes)) = some (some (.agg #[.string ⟨#[]⟩, .string ⟨#[]⟩]), 2, 32) := by kernel_rfl
def RepA (W : World) (ats : Attrs) (v : Value) : Prop := ∃ A cap, v = .slice A ats.length cap ∧ (ats.length ≤ maxLen ∧ ats.length ≤ cap) ∧ (∀ x ∈ ats, x.1.length ≤ maxLen ∧ x.2.length ≤ maxLen) ∧
 (ats = [] ∨ ∃ g o, A = some ⟨g, o, none⟩ ∧ g < W.heap.size ∧ ∀ i (hi : i < ats.length), W.cell? ⟨g, o + i * 2, none⟩ = some (.string ⟨ats[i].1.toArray⟩) ∧ W.cell? ⟨g, o + i * 2 + 1, none⟩ = some (.string ⟨ats[i].2.toArray⟩))
theorem RepA.nil (W : World) (A : Option Addr) (cap : Nat) : RepA W [] (.slice A 0 cap) := ⟨A, cap, rfl, ⟨Nat.zero_le _, Nat.zero_le _⟩, (fun _ h => by cases h), .inl rfl⟩
theorem RepA.fresh {W W' : World} {ats : Attrs} {v : Value} (h : RepA W ats v) (hf : Fresh W W') : RepA W' ats v := by
 obtain ⟨A, cap, h1, h2, h3, h4⟩ := h;refine ⟨A, cap, h1, h2, h3, h4.imp id ?_⟩;rintro ⟨g, o, hA, hg, hc⟩;exact ⟨g, o, hA, Nat.lt_of_lt_of_le hg hf.size, fun i hi => ⟨hf.cell (hc i hi).1 (fun h => h), hf.cell (hc i hi).2 (fun h => h)⟩⟩
theorem RepA.slice {W : World} {ats : Attrs} {v : Value} (h : RepA W ats v) : ∃ A cap, v = .slice A ats.length cap := by
 obtain ⟨A, cap, h1, _⟩ := h;exact ⟨A, cap, h1⟩
theorem RepA.get {W : World} {ats : Attrs} {A : Option Addr} {len cap : Nat} (h : RepA W ats (.slice A len cap)) (i : Nat) (hi : i < ats.length) :
  ∃ g o, A = some ⟨g, o, none⟩ ∧ g < W.heap.size ∧ W.cell? ⟨g, o + i * 2, none⟩ = some (.string ⟨ats[i].1.toArray⟩) ∧ W.cell? ⟨g, o + i * 2 + 1, none⟩ = some (.string ⟨ats[i].2.toArray⟩) ∧ ats[i].1.length ≤ maxLen ∧ ats[i].2.length ≤ maxLen := by
 obtain ⟨A', cap', h1, h2, h3, h4⟩ := h;cases h1
 rcases h4 with h4 | ⟨g, o, hA, hg, hc⟩
 ·rw [h4] at hi; simp at hi
 ·exact ⟨g, o, hA, hg, (hc i hi).1, (hc i hi).2, h3 _ (List.getElem_mem hi)⟩
inductive RepE (W : World) : List E → Value → Prop
 | nil (A : Option Addr) (cap : Nat) : RepE W [] (.slice A 0 cap)
 | row (g o cap : Nat) (es : List E) (al sl : Nat → Value) (hg : g < W.heap.size) (hl : es.length ≤ maxLen) (ht : ∀ i (hi : i < es.length), es[i].name.length ≤ maxLen ∧ es[i].text.length ≤ maxLen)
   (h0 : ∀ i (hi : i < es.length), W.cell? ⟨g, o + i * 4, none⟩ = some (.string ⟨es[i].name.toArray⟩))
   (h1 : ∀ i, i < es.length → W.cell? ⟨g, o + i * 4 + 1, none⟩ = some (al i))
   (h2 : ∀ i, i < es.length → W.cell? ⟨g, o + i * 4 + 2, none⟩ = some (sl i))
   (h3 : ∀ i (hi : i < es.length), W.cell? ⟨g, o + i * 4 + 3, none⟩ = some (.string ⟨es[i].text.toArray⟩))
   (ha : ∀ i (hi : i < es.length), RepA W es[i].attrs (al i)) (hk : ∀ i (hi : i < es.length), RepE W es[i].kids (sl i)) : RepE W es (.slice (some ⟨g, o, none⟩) es.length cap)
theorem RepE.fresh {W W' : World} {es : List E} {v : Value} (h : RepE W es v) (hf : Fresh W W') : RepE W' es v := by
 induction h with
 | nil A cap => exact .nil A cap
 | row g o cap es al sl hg hl ht h0 h1 h2 h3 ha hk ih =>
  exact .row g o cap es al sl (Nat.lt_of_lt_of_le hg hf.size) hl ht (fun i hi => hf.cell (h0 i hi) (fun h => h)) (fun i hi => hf.cell (h1 i hi) (fun h => h)) (fun i hi => hf.cell (h2 i hi) (fun h => h)) (fun i hi => hf.cell (h3 i hi) (fun h => h)) (fun i hi => (ha i hi).fresh hf) ih
theorem RepE.slice {W : World} {es : List E} {v : Value} (h : RepE W es v) : ∃ A cap, v = .slice A es.length cap := by
 cases h with
 | nil A cap => exact ⟨A, cap, rfl⟩
 | row g o cap => exact ⟨_, cap, rfl⟩
theorem RepE.len {W : World} {es : List E} {v : Value} (h : RepE W es v) : es.length ≤ maxLen := by
 cases h with
 | nil A cap => exact Nat.zero_le _
 | row g o cap _ al sl hg hl => exact hl
def RepV (W : World) (e : E) (va vk : Value) : Prop := RepA W e.attrs va ∧ RepE W e.kids vk ∧ e.name.length ≤ maxLen ∧ e.text.length ≤ maxLen
abbrev ev (e : E) (va vk : Value) : Value := .agg #[.string ⟨e.name.toArray⟩, va, vk, .string ⟨e.text.toArray⟩]
theorem RepV.fresh {W W' : World} {e : E} {va vk : Value} (h : RepV W e va vk) (hf : Fresh W W') : RepV W' e va vk := ⟨h.1.fresh hf, h.2.1.fresh hf, h.2.2⟩
theorem RepE.get {W : World} {es : List E} {A : Option Addr} {len cap : Nat} (h : RepE W es (.slice A len cap)) (i : Nat) (hi : i < es.length) :
  ∃ g o va vk, A = some ⟨g, o, none⟩ ∧ g < W.heap.size ∧ W.cell? ⟨g, o + i * 4, none⟩ = some (.string ⟨es[i].name.toArray⟩) ∧ W.cell? ⟨g, o + i * 4 + 1, none⟩ = some va ∧ W.cell? ⟨g, o + i * 4 + 2, none⟩ = some vk ∧
   W.cell? ⟨g, o + i * 4 + 3, none⟩ = some (.string ⟨es[i].text.toArray⟩) ∧ RepV W es[i] va vk := by
 generalize hv : Value.slice A len cap = v at h;cases h with
 | nil A cap => simp at hi
 | row g o cap _ al sl hg hl ht h0 h1 h2 h3 ha hk =>
  cases hv;exact ⟨g, o, al i, sl i, rfl, hg, h0 i hi, h1 i hi, h2 i hi, h3 i hi, ha i hi, hk i hi, ht i hi⟩
theorem cells2 {W : World} {base : Nat} {a : Addr} {cs : List Value} (h : W.cells? base a 2 = some cs) : ∃ c0 c1, cs = [c0, c1] ∧ a.spot = none ∧ a.block < W.heap.size ∧ W.cell? ⟨a.block, a.off, none⟩ = some c0 ∧ W.cell? ⟨a.block, a.off + 1, none⟩ = some c1 := by
 obtain ⟨_, hl, hc⟩ := World.cells?_some h
 match cs, hl with
 | [c0, c1], _ =>
  have e0 := hc 0 (by decide);have e1 := hc 1 (by decide);obtain ⟨g, o, s⟩ := a
  have hs : s = none := by
   cases s with
   | none => rfl
   | some x =>
    simp only [Addr.add, if_true, List.getElem?_cons_zero] at e0;unfold World.cell? at e0;split at e0
    ·simp at e0
    ·cases e0
  subst hs;have hlt := bL (a := ⟨g, o, none⟩) (v := c0) (by simpa [Addr.add] using e0);exact ⟨c0, c1, rfl, rfl, hlt, by simpa [Addr.add] using e0, by simpa [Addr.add] using e1⟩
theorem add_parts (a : Addr) (k : Nat) : (a.add k).block = a.block ∧ (a.add k).off = a.off + k := by
 unfold Addr.add;split
 ·exact ⟨rfl, by simp [*]⟩
 ·exact ⟨rfl, rfl⟩
section
variable {H : Type} {enc : TypeId × Value → H}
theorem open_attr2 {w : World} {base : Nat} {sp : Nat → Bool} {hd : Bool} {fuel : Nat} {c0 c1 : Value} {y : DataW H × List MemPlace} (h : DataW.trod enc Tryz.prog w base sp hd fuel 79 [c0, c1] = some y) :
  ∃ s t : ByteArray, c0 = .string s ∧ c1 = .string t ∧ s.size ≤ maxLen ∧ t.size ≤ maxLen := by
 obtain ⟨xs, n, hfuel, _, _, hlen, hf⟩ := DataW.trod_struct Tryz.underlying79 h;have e0 := hf 0 _ rfl;have e1 := hf 1 _ rfl
 match xs, hlen with
 | [y0, y1], _ =>
  obtain ⟨s, g0, _, hs⟩ := DataW.trod_string Tryz.underlying9 (by exact e0);obtain ⟨t, g1, _, ht⟩ := DataW.trod_string Tryz.underlying9 (by exact e1);have hC : Tryz.prog.cellsOf 9 = 1 := by kernel_rfl
  simp [hC] at g0 g1
  exact ⟨s, t, g0, g1, hs, ht⟩
theorem open_attrs {w : World} {base : Nat} {sp : Nat → Bool} {hd : Bool} {fuel : Nat} {cs : List Value} {y : DataW H × List MemPlace} (h : DataW.trod enc Tryz.prog w base sp hd fuel 42 cs = some y) : ∃ ats v, cs = [v] ∧ RepA w ats v := by
 rcases DataW.trod_slice Tryz.underlying42 h with ⟨rfl, _⟩ | ⟨a, len, cap, elems, rest, n, hn, rfl, _, hb, hl, hm, hlen, hel, _, _⟩
 ·exact ⟨[], _, rfl, RepA.nil _ _ _⟩
 ·have hC : Tryz.prog.cellsOf 79 = 2 := by kernel_rfl
  rw [hC] at hel
  have each : ∀ i, i < len → ∃ x : El.Bytes × El.Bytes, (a.add (i * 2)).spot = none ∧ a.block < w.heap.size ∧ w.cell? ⟨a.block, a.off + i * 2, none⟩ = some (.string ⟨x.1.toArray⟩) ∧ w.cell? ⟨a.block, a.off + i * 2 + 1, none⟩ = some (.string ⟨x.2.toArray⟩) ∧ x.1.length ≤ maxLen ∧ x.2.length ≤ maxLen := by
   intro i hi;have h0 := hel i hi;rw [List.getElem?_eq_getElem (by omega), Option.bind_eq_some_iff] at h0;obtain ⟨cs', hcs, hy⟩ := h0;obtain ⟨c0, c1, rfl, hs, hlt, e0, e1⟩ := cells2 hcs;obtain ⟨s, t, rfl, rfl, hs1, hs2⟩ := open_attr2 hy;obtain ⟨hblk, hoff⟩ := add_parts a (i * 2);rw [hblk, hoff] at e0 e1;rw [hblk] at hlt;exact ⟨(s.data.toList, t.data.toList), hs, hlt, e0, e1, by simpa using hs1, by simpa using hs2⟩
  cases hl0 : len with
  | zero => subst hl0; exact ⟨[], _, rfl, RepA.nil _ _ _⟩
  | succ l =>
   rw [← hl0];have hpos : 0 < len := by omega
   obtain ⟨_, hs0, hlt, _⟩ := each 0 hpos
   have he : ∃ f : Nat → El.Bytes × El.Bytes, ∀ i, i < len → w.cell? ⟨a.block, a.off + i * 2, none⟩ = some (.string ⟨(f i).1.toArray⟩) ∧ w.cell? ⟨a.block, a.off + i * 2 + 1, none⟩ = some (.string ⟨(f i).2.toArray⟩) ∧ (f i).1.length ≤ maxLen ∧ (f i).2.length ≤ maxLen := by
    refine ⟨fun i => if h : i < len then Classical.choose (each i h) else ([], []), fun i hi => ?_⟩;simp only [dif_pos hi];exact (Classical.choose_spec (each i hi)).2.2
   obtain ⟨f, hf⟩ := he;obtain ⟨g, o, s⟩ := a;simp only [Addr.add] at hs0 hlt hf;have hs0 : s = none := by simpa using hs0
   subst hs0;have hln : ((List.range len).map f).length = len := by simp
   refine ⟨(List.range len).map f, _, rfl, _, cap, by rw [hln], ⟨by rw [hln]; omega, by rw [hln]; exact hl⟩, fun x hx => ?_, .inr ⟨g, o, rfl, hlt, fun i hi => ?_⟩⟩
   ·obtain ⟨i, hi, rfl⟩ := List.mem_map.1 hx
    exact (hf i (by simpa using hi)).2.2
   ·have := hf i (by simpa using hi)
    simp only [List.getElem_map, List.getElem_range];exact ⟨this.1, this.2.1⟩
theorem open_elem4 {w : World} {base : Nat} {sp : Nat → Bool} {hd : Bool} {fuel : Nat} {c0 c1 c2 c3 : Value} {y : DataW H × List MemPlace} (h : DataW.trod enc Tryz.prog w base sp hd fuel 45 [c0, c1, c2, c3] = some y) :
  ∃ (s t : ByteArray) (ats : Attrs) (n : Nat) (z : DataW H × List MemPlace), n < fuel ∧ c0 = .string s ∧ c3 = .string t ∧ s.size ≤ maxLen ∧ t.size ≤ maxLen ∧ RepA w ats c1 ∧ DataW.trod enc Tryz.prog w base sp hd n 43 [c2] = some z := by
 obtain ⟨xs, n, hfuel, _, _, hlen, hf⟩ := DataW.trod_struct Tryz.underlying45 h;have e0 := hf 0 _ rfl;have e1 := hf 1 _ rfl;have e2 := hf 2 _ rfl;have e3 := hf 3 _ rfl
 match xs, hlen with
 | [y0, y1, y2, y3], _ =>
  obtain ⟨s, g0, _, hs⟩ := DataW.trod_string Tryz.underlying9 (by exact e0);obtain ⟨t, g3, _, ht⟩ := DataW.trod_string Tryz.underlying9 (by exact e3);obtain ⟨ats, va, g1, hra⟩ := open_attrs (by exact e1);have hC1 : Tryz.prog.cellsOf 9 = 1 := by kernel_rfl
  have hC2 : Tryz.prog.cellsOf 42 = 1 := by kernel_rfl
  have hC3 : Tryz.prog.cellsOf 43 = 1 := by kernel_rfl
  simp [hC1] at g0
  simp [hC2] at g1
  simp [hC1] at g3
  subst g1;refine ⟨s, t, ats, n, y2, by omega, g0, g3, hs, ht, hra, ?_⟩;simpa [hC1, hC2, hC3] using e2
theorem open_elems {w : World} {base : Nat} {sp : Nat → Bool} {hd : Bool} : ∀ (fuel : Nat) (cs : List Value) (y : DataW H × List MemPlace), DataW.trod enc Tryz.prog w base sp hd fuel 43 cs = some y → ∃ es v, cs = [v] ∧ RepE w es v := by
 intro fuel
 induction fuel using Nat.strongRecOn with
 | _ fuel ih =>
  intro cs y h
  rcases DataW.trod_slice Tryz.underlying43 h with ⟨rfl, _⟩ | ⟨a, len, cap, elems, rest, n, hn, rfl, _, hb, hl, hm, hlen, hel, _, _⟩
  ·exact ⟨[], _, rfl, .nil _ _⟩
  ·have hC : Tryz.prog.cellsOf 45 = 4 := by kernel_rfl
   rw [hC] at hel
   have each : ∀ i, i < len → ∃ (e : E) (vs : Value × Value), (a.add (i * 4)).spot = none ∧ a.block < w.heap.size ∧ w.cell? ⟨a.block, a.off + i * 4, none⟩ = some (.string ⟨e.name.toArray⟩) ∧ w.cell? ⟨a.block, a.off + i * 4 + 1, none⟩ = some vs.1 ∧
     w.cell? ⟨a.block, a.off + i * 4 + 2, none⟩ = some vs.2 ∧ w.cell? ⟨a.block, a.off + i * 4 + 3, none⟩ = some (.string ⟨e.text.toArray⟩) ∧ RepV w e vs.1 vs.2 := by
    intro i hi;have h0 := hel i hi;rw [List.getElem?_eq_getElem (by omega), Option.bind_eq_some_iff] at h0;obtain ⟨cs', hcs, hy⟩ := h0;obtain ⟨c0, c1, c2, c3, rfl, hs, hlt, e0, e1, e2, e3⟩ := cells4 hcs;obtain ⟨s, t, ats, m, z, hm', rfl, rfl, hs1, hs2, hra, hz⟩ := open_elem4 hy;obtain ⟨ks, v, hv, hr⟩ := ih m (by omega) _ _ hz;cases hv;obtain ⟨hblk, hoff⟩ := add_parts a (i * 4);rw [hblk, hoff] at e0 e1 e2 e3;rw [hblk] at hlt;exact ⟨.mk s.data.toList ats ks t.data.toList, (c1, c2), hs, hlt, e0, e1, e2, e3, hra, hr, by show s.data.toList.length ≤ maxLen; simpa using hs1, by show t.data.toList.length ≤ maxLen; simpa using hs2⟩
   cases hl0 : len with
   | zero => subst hl0; exact ⟨[], _, rfl, .nil _ _⟩
   | succ l =>
    rw [← hl0];have hpos : 0 < len := by omega
    obtain ⟨_, _, hs0, hlt, _⟩ := each 0 hpos
    have he : ∃ f : Nat → E × Value × Value, ∀ i, i < len → w.cell? ⟨a.block, a.off + i * 4, none⟩ = some (.string ⟨(f i).1.name.toArray⟩) ∧ w.cell? ⟨a.block, a.off + i * 4 + 1, none⟩ = some (f i).2.1 ∧
     w.cell? ⟨a.block, a.off + i * 4 + 2, none⟩ = some (f i).2.2 ∧ w.cell? ⟨a.block, a.off + i * 4 + 3, none⟩ = some (.string ⟨(f i).1.text.toArray⟩) ∧ RepV w (f i).1 (f i).2.1 (f i).2.2 := by
     refine ⟨fun i => if h : i < len then ⟨Classical.choose (each i h), Classical.choose (Classical.choose_spec (each i h))⟩ else ⟨.mk [] [] [] [], .bool false, .bool false⟩, fun i hi => ?_⟩;simp only [dif_pos hi];exact (Classical.choose_spec (Classical.choose_spec (each i hi))).2.2
    obtain ⟨f, hf⟩ := he;obtain ⟨g, o, s⟩ := a;simp only [Addr.add] at hs0 hlt hf;have hs0 : s = none := by simpa using hs0
    subst hs0;have hln : ((List.range len).map fun i => (f i).1).length = len := by simp
    refine ⟨(List.range len).map fun i => (f i).1, _, rfl, ?_⟩
    have := RepE.row (W := w) g o cap ((List.range len).map fun i => (f i).1) (fun i => (f i).2.1) (fun i => (f i).2.2) hlt (by rw [hln]; omega) (fun i hi => by simpa using (hf i (by simpa using hi)).2.2.2.2.2.2)
     (fun i hi => by simpa using (hf i (by simpa using hi)).1) (fun i hi => by simpa using (hf i (by simpa using hi)).2.1) (fun i hi => by simpa using (hf i (by simpa using hi)).2.2.1) (fun i hi => by simpa using (hf i (by simpa using hi)).2.2.2.1)
     (fun i hi => by simpa using (hf i (by simpa using hi)).2.2.2.2.1) (fun i hi => by simpa using (hf i (by simpa using hi)).2.2.2.2.2.1)
    rw [hln] at this;exact this
theorem open_elem {w : World} {base b0 : Nat} {sp : Nat → Bool} {hd : Bool} {v : Value} {d : DataW H} {p : List MemPlace} (hv : Value.okWide Tryz.prog w .any b0 45 v) (h : DataW.Trod enc Tryz.prog w base sp hd 45 v d p) :
  ∃ e va vk, v = ev e va vk ∧ RepV w e va vk := by
 obtain ⟨cs, rfl, hsz⟩ := okWide_struct Tryz.underlying45 hv;have hC : Tryz.prog.cellsOf 45 = 4 := by kernel_rfl
 rw [hC] at hsz;obtain ⟨fuel, hf⟩ := h;obtain ⟨l, rfl⟩ : ∃ l : List Value, cs = l.toArray := ⟨cs.toList, by simp⟩
 match l, hsz with
 | [c0, c1, c2, c3], _ =>
  obtain ⟨s, t, ats, m, z, _, rfl, rfl, hs1, hs2, hra, hz⟩ := open_elem4 hf;obtain ⟨ks, v, hv, hr⟩ := open_elems m _ _ hz;cases hv;exact ⟨.mk s.data.toList ats ks t.data.toList, c1, c2, rfl, hra, hr, by show s.data.toList.length ≤ maxLen; simpa using hs1, by show t.data.toList.length ≤ maxLen; simpa using hs2⟩
end
end Go.Proofs.YtnbeemkfmlfgfaaGreatDoor
namespace Go.Proofs.YtnbeemkfmlfgfaaGreatDoor
open Go.RowKit
open El (E Attrs)
def Stab (S : Nat → Prop) (w : World) (P : World → Prop) : Prop := ∀ W', Touch S w W' → P W'
theorem Stab.now {S : Nat → Prop} {w : World} {P : World → Prop} (h : Stab S w P) : P w := h w (Touch.refl _ _)
theorem Touch.join {S S1 S2 : Nat → Prop} {a b c : World} (h : Touch S1 a b) (k : Touch S2 b c) (h1 : ∀ i, i < a.heap.size → S1 i → S i) (h2 : ∀ i, i < a.heap.size → S2 i → S i) : Touch S a c :=
 ⟨k.os.trans h.os, k.tape.trans h.tape, k.output.trans h.output, Nat.le_trans h.size k.size, fun i hi hn =>
  (k.block i (Nat.lt_of_lt_of_le hi h.size) (fun hs => hn (h2 i hi hs))).trans (h.block i hi (fun hs => hn (h1 i hi hs)))⟩
theorem Stab.step {S S1 S2 : Nat → Prop} {w w1 : World} {P : World → Prop} (h : Stab S w P) (ht : Touch S1 w w1) (h1 : ∀ i, i < w.heap.size → S1 i → S i) (h2 : ∀ i, i < w.heap.size → S2 i → S i) : Stab S2 w1 P :=
 fun W' hW => h W' (ht.join hW h1 h2)
theorem Stab.fresh {S : Nat → Prop} {w w1 : World} {P : World → Prop} (h : Stab S w P) (ht : Fresh w w1) : Stab S w1 P := h.step ht (fun _ _ h => h.elim) (fun _ _ h => h)
theorem Stab.mono {S S' : Nat → Prop} {w : World} {P : World → Prop} (h : Stab S w P) (hS : ∀ i, i < w.heap.size → S' i → S i) : Stab S' w P := h.step (Touch.refl (fun _ => False) w) (fun _ _ h => h.elim) hS
theorem Stab.imp {S : Nat → Prop} {w : World} {P Q : World → Prop} (h : Stab S w P) (hPQ : ∀ W, P W → Q W) : Stab S w Q := fun W hW => hPQ W (h W hW)
theorem Stab.and {S : Nat → Prop} {w : World} {P Q : World → Prop} (h : Stab S w P) (h' : Stab S w Q) : Stab S w fun W => P W ∧ Q W := fun W hW => ⟨h W hW, h' W hW⟩
def Made (w w' : World) (P : World → Prop) : Prop := Fresh w w' ∧ Stab (fun k => k < w.heap.size) w' P
def ElsAt (W : World) : List E → List Value → Prop
 | [], cs => cs = []
 | e :: es, cs => ∃ va vk ds, cs = .string ⟨e.name.toArray⟩ :: va :: vk :: .string ⟨e.text.toArray⟩ :: ds ∧ RepV W e va vk ∧ ElsAt W es ds
theorem ElsAt.length {W : World} : ∀ {es : List E} {cs : List Value}, ElsAt W es cs → cs.length = es.length * 4
 | [], cs, h => by rw [show cs = [] from h]; rfl
 | e :: es, cs, ⟨va, vk, ds, h, _, hd⟩ => by
  have := ElsAt.length hd;rw [h];simp only [List.length_cons];omega
theorem ElsAt.append {W : World} : ∀ {es fs : List E} {cs ds : List Value}, ElsAt W es cs → ElsAt W fs ds → ElsAt W (es ++ fs) (cs ++ ds)
 | [], _, cs, _, h, h' => by rw [show cs = [] from h]; exact h'
 | _ :: _, _, _, _, ⟨va, vk, cs, h, hr, hd⟩, h' => ⟨va, vk, cs ++ _, by rw [h]; rfl, hr, hd.append h'⟩
theorem ElsAt.one {W : World} {e : E} {va vk : Value} (h : RepV W e va vk) : ElsAt W [e] [.string ⟨e.name.toArray⟩, va, vk, .string ⟨e.text.toArray⟩] := ⟨va, vk, [], rfl, h, rfl⟩
theorem ElsAt.get {W : World} : ∀ {es : List E} {cs : List Value}, ElsAt W es cs → ∀ i (hi : i < es.length), ∃ va vk, cs[i * 4]? = some (.string ⟨es[i].name.toArray⟩) ∧ cs[i * 4 + 1]? = some va ∧ cs[i * 4 + 2]? = some vk ∧ cs[i * 4 + 3]? = some (.string ⟨es[i].text.toArray⟩) ∧ RepV W es[i] va vk
 | [], _, _, i, hi => by simp at hi
 | e :: es, cs, ⟨va, vk, ds, h, hr, hd⟩, i, hi => by
  subst h;cases i with
  | zero => exact ⟨va, vk, rfl, rfl, rfl, rfl, hr⟩
  | succ i =>
   obtain ⟨a, k, g0, g1, g2, g3, g4⟩ := hd.get i (by simpa using hi);refine ⟨a, k, ?_, ?_, ?_, ?_, g4⟩
   ·rw [show (i + 1) * 4 = i * 4 + 4 by omega]; exact g0
   ·rw [show (i + 1) * 4 + 1 = i * 4 + 1 + 4 by omega]; exact g1
   ·rw [show (i + 1) * 4 + 2 = i * 4 + 2 + 4 by omega]; exact g2
   ·rw [show (i + 1) * 4 + 3 = i * 4 + 3 + 4 by omega]; exact g3
theorem ElsAt.rep {W : World} {es : List E} {cs : List Value} {g cap : Nat} (h : ElsAt W es cs) (hg : g < W.heap.size) (hl : es.length ≤ maxLen) (hc : ∀ j u, cs[j]? = some u → W.cell? ⟨g, j, none⟩ = some u) : RepE W es (.slice (some ⟨g, 0, none⟩) es.length cap) := by
 refine RepE.row g 0 cap es (fun i => (cs[i * 4 + 1]?).getD (.bool false)) (fun i => (cs[i * 4 + 2]?).getD (.bool false)) hg hl ?_ ?_ ?_ ?_ ?_ ?_ ?_
 all_goals (intro i hi; obtain ⟨va, vk, g0, g1, g2, g3, g4⟩ := h.get i hi)
 ·exact g4.2.2
 ·rw [Nat.zero_add]; exact hc _ _ g0
 ·rw [Nat.zero_add, g1]; exact hc _ _ g1
 ·rw [Nat.zero_add, g2]; exact hc _ _ g2
 ·rw [Nat.zero_add]; exact hc _ _ g3
 ·rw [g1]; exact g4.1
 ·rw [g2]; exact g4.2.1
theorem ElsAt.own {W : World} {es : List E} {cs : List Value} {B t : Nat} {v : Value} (h : ElsAt W es cs) (ho : W.ownsRow B t 4 v es.length cs) : RepE W es v := by
 rcases ho.2 with ⟨rfl, h0⟩ | ⟨g, cap, cur, rfl, hB, hb, h1, h2, _⟩
 ·rw [List.length_eq_zero_iff.1 h0]
  exact .nil _ _
 ·exact h.rep (ho.lt g rfl).2 (Nat.le_trans h1 h2) fun j u hu => by
   have := ho.cells (g := g) rfl j u hu;rw [Addr.add_mid, Nat.zero_add] at this;exact this
theorem own_slc {W : World} {B e size n : Nat} {v : Value} {xs : List Value} (h : W.ownsRow B e size v n xs) : ∃ A c, v = .slice A n c := by
 rcases h.2 with ⟨h1, h2⟩ | ⟨g, cap, cur, h1, _⟩
 ·exact ⟨none, 0, by rw [h1, h2]⟩
 ·exact ⟨_, _, h1⟩
def GrowE (B : Nat) (w : World) (es : List E) (v : Value) : Prop := B ≤ w.heap.size ∧ ∃ cs, w.ownsRow B 45 4 v es.length cs ∧ Stab (fun k => v.ownBlock = some k ∨ k < B) w fun W => ElsAt W es cs
theorem GrowE.nil {B : Nat} {w : World} (hB : B ≤ w.heap.size) : GrowE B w [] (.slice none 0 0) := ⟨hB, [], World.ownsRow_nil _ _ _ _, fun _ _ => rfl⟩
theorem GrowE.own_lt {B : Nat} {w : World} {es : List E} {v : Value} (h : GrowE B w es v) : ∀ k, v.ownBlock = some k → B ≤ k ∧ k < w.heap.size := fun k hk => by
 obtain ⟨_, cs, h1, _⟩ := h;exact h1.lt k hk
theorem GrowE.slice {B : Nat} {w : World} {es : List E} {v : Value} (h : GrowE B w es v) : ∃ A cap, v = .slice A es.length cap := by
 obtain ⟨_, cs, h1, _⟩ := h;exact own_slc h1
theorem GrowE.mv {B : Nat} {w w1 : World} {es : List E} {v : Value} {S : Nat → Prop} (h : GrowE B w es v) (ht : Touch S w w1) (hS : ∀ k, S k → k < w.heap.size → k < B) : GrowE B w1 es v := by
 obtain ⟨hB, cs, h1, h2⟩ := h;refine ⟨Nat.le_trans hB ht.size, cs, ownsRow_touch h1 ht fun k hk hs => ?_, h2.step ht (fun i hi hs => .inr (hS i hs hi)) (fun _ _ h => h)⟩;have h3 := h1.lt k hk;have := hS k hs h3.2;omega
theorem GrowE.fresh {B : Nat} {w w1 : World} {es : List E} {v : Value} (h : GrowE B w es v) (ht : Fresh w w1) : GrowE B w1 es v := h.mv ht fun _ h => h.elim
theorem GrowE.rep {B : Nat} {w : World} {es : List E} {v : Value} (h : GrowE B w es v) : RepE w es v := by
 obtain ⟨_, cs, h1, h2⟩ := h;exact h2.now.own h1
theorem GrowE.done {B : Nat} {w : World} {es : List E} {v : Value} (h : GrowE B w es v) : Stab (fun k => k < B) w fun W => RepE W es v := fun _ hW => (h.mv hW fun _ h _ => h).rep
theorem RepE.oneCell {W : World} {es : List E} {v : Value} (h : RepE W es v) : v.oneCell' = true := by
 obtain ⟨A, cap, rfl⟩ := h.slice;rfl
theorem RepA.oneCell {W : World} {ats : Attrs} {v : Value} (h : RepA W ats v) : v.oneCell' = true := by
 obtain ⟨A, cap, rfl⟩ := h.slice;rfl
section
variable {w : World} {ops : Array Oper} {rest : List Oper} {o : Oper} {a : Act} {Q : Exit → Act → World → Prop}
theorem wpList_append_elem (hgd : o.guard = none) (s x : Operand)
  (ho : o.op = .call { callee := .builtin .append, args := #[s, x], argTypes := #[43, 43] })
  {B n g : Nat} {es : List E} {v : Value} (h : GrowE B w es v) (hn : es.length = n) (hs : a.eval s = v) (e : E) {va vk : Value} (hb : Blk w g 45 #[.string ⟨e.name.toArray⟩, va, vk, .string ⟨e.text.toArray⟩]) (hx : a.eval x = .slice (some ⟨g, 0, none⟩) 1 1)
  (w0 : Nat) (hB : B ≤ w0) (hown : ∀ k, v.ownBlock = some k → k < w0) (hrv : Stab (fun k => k < w0) w fun W => RepV W e va vk) (hlen : n < 2 ^ 40)
  (hK : ∀ A cp w', GrowE B w' (es ++ [e]) (.slice A (n + 1) cp) → Touch (fun k => v.ownBlock = some k) w w' → ((Value.slice A (n + 1) cp).ownBlock = v.ownBlock ∨ (Value.slice A (n + 1) cp).ownBlock = some w.heap.size) → wpList Tryz.prog ops Q rest (a.put o.dst (.slice A (n + 1) cp)) w') : wpList Tryz.prog ops Q (o :: rest) a w := by
 subst hn;obtain ⟨hBw, cs, h1, h2⟩ := h;obtain ⟨i, hi, hz0, hz1, hz2⟩ := info_parts infoElem;have hv := hrv.now
 have h3 : ∀ u ∈ [Value.string ⟨e.name.toArray⟩, va, vk, .string ⟨e.text.toArray⟩], u.oneCell' = true := by
  intro u hu;simp only [List.mem_cons, List.not_mem_nil, or_false] at hu
  rcases hu with rfl | rfl | rfl | rfl
  ·rfl
  ·exact hv.1.oneCell
  ·exact hv.2.1.oneCell
  ·rfl
 refine wpList_append_src _ hgd s x 43 ho B 45 i _ 4 80 Tryz.underlying43 hi hz0 hz1 hz2 rfl (by decide) v es.length cs hs h1 _ 1 _ hx (Src.of_blk hb rfl) h3 (by simp only [maxLen]; omega) (by omega) hBw fun v' w' ho' hgr hv' => ?_
 obtain ⟨A, cp, rfl⟩ := own_slc ho';have ht : Touch (fun k => v.ownBlock = some k) w w' := Touch.grown (Touch.refl _ _) hgr fun k hk => .inl hk
 refine hK A cp w' ⟨Nat.le_trans hBw hgr.size, _, by rw [List.length_append]; exact ho', ?_⟩ ht hv'
 have hS : ∀ i, i < w.heap.size → ((Value.slice A (es.length + 1) cp).ownBlock = some i ∨ i < B) → (v.ownBlock = some i ∨ i < B) := fun i hi hs => by
  rcases hs with hs | hs
  ·rcases hv' with h6 | h6 <;> rw [h6] at hs
   ·exact .inl hs
   ·cases hs; omega
  ·exact .inr hs
 refine ((h2.step ht (fun i _ hs => .inl hs) hS).and (hrv.step ht (fun i hi hs => hown i hs) fun i hi hs => ?_)).imp fun W ⟨h6, h7⟩ => h6.append (ElsAt.one h7)
 rcases hS i hi hs with h6 | h6
 ·exact hown i h6
 ·omega
end
theorem str_decT (a b : List UInt8) (p : Bool) (h : (a == b) = p) : ((⟨a.toArray⟩ : ByteArray) == (⟨b.toArray⟩ : ByteArray)) = p := by
 rw [str_eq', ← h]
theorem xhas1_any (x nm : List UInt8) (y : ByteArray) (p : Nat) (w : World) (hp : w.cell? ⟨p, 0, none⟩ = some (.string ⟨nm.toArray⟩)) :
  Calls Tryz.prog 182 #[.agg #[.string ⟨x.toArray⟩, .string y], .pointer (some ⟨p, 0, none⟩)] w fun e w' => e = .returned (.bool (x == nm)) ∧ Fresh w w' := by
 have hlt := bL hp;go_enter Tryz.func182, Tryz.ntmps182;go_wp2_with fail
 go_ret;exact ⟨rfl, frR⟩
theorem any_snoc {α : Type} (l : List α) (j : Nat) (h : j < l.length) (p : α → Bool) : (l.take (j + 1)).any p = ((l.take j).any p || p l[j]) := by
 rw [List.take_add_one, List.getElem?_eq_getElem h, List.any_append]; simp only [Option.toList_some, List.any_cons, List.any_nil, Bool.or_false]
theorem xindex_any (ats : Attrs) (nm : List UInt8) (p : Nat) (va : Value) (w : World) (ha : RepA w ats va) (hp : w.cell? ⟨p, 0, none⟩ = some (.string ⟨nm.toArray⟩)) :
  Calls Tryz.prog 205 #[va, .func (.func 182) #[] #[.pointer (some ⟨p, 0, none⟩)]] w fun e w' => ∃ k : Int, e = .returned (.int .i64 k) ∧ decide (0 ≤ k) = ats.any (fun x => x.1 == nm) ∧ Fresh w w' := by
 have hl1 : ats.length ≤ maxLen := by obtain ⟨_, _, _, h, _⟩ := ha; exact h.1
 unfold maxLen at hl1;obtain ⟨A, ca, rfl⟩ := ha.slice;have HA := hid ha;have HP := hid hp;clear ha hp;go_enter Tryz.func205, Tryz.ntmps205;go_wp2_with fail
 go_loopw [8] (fun i wr => ∃ j : Nat, i = .int .i64 j ∧ j ≤ ats.length ∧ Hid ((ats.take j).any (fun x => x.1 == nm) = false) ∧ Hid (Fresh w wr)) (fun i _ => ats.length - (intOf i).toNat)
 case atStart => exact ⟨0, rfl, Nat.zero_le _, by simp [Hid], Touch.refl _ _⟩
 case round =>
  obtain ⟨j, rfl, hj, HT, HF⟩ := hrel
  by_cases c1 : j < ats.length
  ·have d1 : decide ((j : Int) < (ats.length : Int)) = true := dT (by omega)
   have d1' : (j : Int) < (ats.length : Int) := by omega
   obtain ⟨g, o, rfl, hg, m0, m1, _, _⟩ := HA.out.get j c1;have e0 := HF.out.cell m0 (fun h => h);have f0 := HF.out.cell m1 (fun h => h);clear m0 m1;have HS := hid (any_snoc ats j c1 (fun x => x.1 == nm));have HIN := hid (show (ats[j].1 == nm) = true → ats.any (fun x => x.1 == nm) = true from fun h => List.any_eq_true.2 ⟨ats[j], List.getElem_mem c1, h⟩);generalize ats[j] = x at *;go_wp2_with fail
   refine (xhas1_any x.1 nm _ p _ (HF.out.cell HP.out fun h => h)).mono ?_;rintro _ w1 ⟨rfl, hf⟩;have HF1 := hid (HF.out.trans hf);clear hf;cases h4 : x.1 == nm with
   | true =>
    have HI2 := hid (HIN.out h4);clear h4;go_wp2_with fail
    go_ret;exact ⟨_, rfl, by rw [HI2.out]; exact dT (by omega), HF1.out⟩
   | false =>
    have HS2 := hid (show (ats.take (j + 1)).any (fun x => x.1 == nm) = false by rw [HS.out, HT.out, h4]; rfl);clear h4;go_wp2_with fail
    go_roundw
    case rel => exact ⟨j + 1, by go_num, c1, HS2, HF1⟩
    case measure => simp [intOf]; omega
  ·have d1 : decide ((j : Int) < (ats.length : Int)) = false := dF (by omega)
   obtain rfl : j = ats.length := by omega
   go_wp2_with fail
   go_ret;refine ⟨_, rfl, ?_, HF.out⟩;have := HT.out;rw [List.take_length] at this;rw [this]; rfl
theorem xcontains_any (ats : Attrs) (nm : List UInt8) (p : Nat) (va : Value) (w : World) (ha : RepA w ats va) (hp : w.cell? ⟨p, 0, none⟩ = some (.string ⟨nm.toArray⟩)) :
  Calls Tryz.prog 181 #[va, .func (.func 182) #[] #[.pointer (some ⟨p, 0, none⟩)]] w fun e w' => e = .returned (.bool (ats.any (fun x => x.1 == nm))) ∧ Fresh w w' := by
 obtain ⟨A, ca, rfl⟩ := ha.slice;have HA := hid ha;have HP := hid hp;clear ha hp;go_enter Tryz.func181, Tryz.ntmps181;go_wp2_with fail
 refine (xindex_any ats nm p _ _ HA.out HP.out).mono ?_;rintro _ w1 ⟨k, rfl, hk, hf⟩;have HF := hid hf;have HK := hid hk;clear hf hk;go_wp2_with fail
 go_ret;exact ⟨ret_bool' _ _ HK.out, HF.out⟩
theorem xhas_any (ats : Attrs) (nm : List UInt8) (va : Value) (w : World) (ha : RepA w ats va) :
  Calls Tryz.prog 135 #[va, .string ⟨nm.toArray⟩] w fun e w' => e = .returned (.bool (ats.any (fun x => x.1 == nm))) ∧ Fresh w w' := by
 obtain ⟨A, ca, rfl⟩ := ha.slice;have HA := hid ha;clear ha;go_enter Tryz.func135, Tryz.ntmps135;go_wp2_with fail
 refine (xcontains_any ats nm w.heap.size _ _ (by exact HA.out.fresh frR) (by exact (Blk.new _ _ _).cell 0)).mono ?_;rintro _ w1 ⟨rfl, hf⟩;have HF := hid (show Fresh w w1 from preA hf);clear hf;go_wp2_with fail
 go_ret;exact ⟨rfl, HF.out⟩
def NoStr (w : World) (b : Nat) : Prop := ∀ o x, w.cell? ⟨b, o, none⟩ ≠ some (.string x)
theorem NoStr.int {w : World} {c : Nat} {k : Int} (h : Blk w c 3 #[.int .i64 k]) : NoStr w c := by
 intro o x hx;rw [h.cell] at hx
 match o with
 | 0 => cases hx
 | _ + 1 => cases hx
theorem RepA.turn {S : Nat → Prop} {W W' : World} {ats : Attrs} {v : Value} (h : RepA W ats v) (ht : Touch S W W') (hS : ∀ b, S b → NoStr W b) : RepA W' ats v := by
 obtain ⟨A, cap, h1, h2, h3, h4⟩ := h;refine ⟨A, cap, h1, h2, h3, h4.imp id ?_⟩;rintro ⟨g, o, hA, hg, hc⟩;refine ⟨g, o, hA, Nat.lt_of_lt_of_le hg ht.size, fun i hi => ?_⟩;have hn : ¬ S g := fun hs => hS g hs _ _ (hc i hi).1
 exact ⟨ht.cell (hc i hi).1 hn, ht.cell (hc i hi).2 hn⟩
theorem RepE.turn {S : Nat → Prop} {W W' : World} {es : List E} {v : Value} (h : RepE W es v) (ht : Touch S W W') (hS : ∀ b, S b → NoStr W b) : RepE W' es v := by
 induction h with
 | nil A cap => exact .nil A cap
 | row g o cap es al sl hg hl htx h0 h1 h2 h3 ha hk ih =>
  have hn : ∀ i, i < es.length → ¬ S g := fun i hi hs => hS g hs _ _ (h0 i hi)
  exact .row g o cap es al sl (Nat.lt_of_lt_of_le hg ht.size) hl htx (fun i hi => ht.cell (h0 i hi) (hn i hi)) (fun i hi => ht.cell (h1 i hi) (hn i hi)) (fun i hi => ht.cell (h2 i hi) (hn i hi)) (fun i hi => ht.cell (h3 i hi) (hn i hi)) (fun i hi => (ha i hi).turn ht hS) ih
theorem RepV.turn {S : Nat → Prop} {W W' : World} {e : E} {va vk : Value} (h : RepV W e va vk) (ht : Touch S W W') (hS : ∀ b, S b → NoStr W b) : RepV W' e va vk := ⟨h.1.turn ht hS, h.2.1.turn ht hS, h.2.2⟩
theorem RepA.take {W : World} {ats : Attrs} {A : Option Addr} {len cap : Nat} (h : RepA W ats (.slice A len cap)) (i : Nat) (hi : i ≤ ats.length) : RepA W (ats.take i) (.slice A i cap) := by
 obtain ⟨A', cap', h1, h2, h3, h4⟩ := h;cases h1;have hln : (ats.take i).length = i := by rw [List.length_take]; omega
 refine ⟨A, cap, by rw [hln], ⟨by rw [hln]; omega, by rw [hln]; omega⟩, fun x hx => h3 x (List.mem_of_mem_take hx), ?_⟩
 rcases h4 with rfl | ⟨g, o, hA, hg, hc⟩
 ·exact .inl (by simp)
 ·refine .inr ⟨g, o, hA, hg, fun k hk => ?_⟩
  have := hc k (by omega);simpa using this
theorem RepA.cap {W : World} {ats : Attrs} {A : Option Addr} {len cap : Nat} (h : RepA W ats (.slice A len cap)) : ats.length ≤ cap := by
 obtain ⟨A', cap', h1, h2, h3, h4⟩ := h;cases h1;exact h2.2
def ElAt (w : World) (g o : Nat) (e : E) (va vk : Value) : Prop := g < w.heap.size ∧ w.cell? ⟨g, o, none⟩ = some (.string ⟨e.name.toArray⟩) ∧ w.cell? ⟨g, o + 1, none⟩ = some va ∧ w.cell? ⟨g, o + 2, none⟩ = some vk ∧ w.cell? ⟨g, o + 3, none⟩ = some (.string ⟨e.text.toArray⟩) ∧ RepV w e va vk
theorem ElAt.turn {S : Nat → Prop} {w w' : World} {g o : Nat} {e : E} {va vk : Value} (h : ElAt w g o e va vk) (ht : Touch S w w') (hS : ∀ b, S b → NoStr w b) : ElAt w' g o e va vk := by
 have hn : ¬ S g := fun hs => hS g hs _ _ h.2.1
 exact ⟨Nat.lt_of_lt_of_le h.1 ht.size, ht.cell h.2.1 hn, ht.cell h.2.2.1 hn, ht.cell h.2.2.2.1 hn, ht.cell h.2.2.2.2.1 hn, h.2.2.2.2.2.turn ht hS⟩
theorem ElAt.fresh {w w' : World} {g o : Nat} {e : E} {va vk : Value} (h : ElAt w g o e va vk) (ht : Fresh w w') : ElAt w' g o e va vk := h.turn ht fun _ hf => hf.elim
theorem ElAt.ne {w : World} {g o : Nat} {e : E} {va vk : Value} (h : ElAt w g o e va vk) {c : Nat} (hc : NoStr w c) : g ≠ c := fun he => hc o _ (he ▸ h.2.1)
theorem RepE.elAt {W : World} {es : List E} {A : Option Addr} {len cap : Nat} (h : RepE W es (.slice A len cap)) (i : Nat) (hi : i < es.length) :
  ∃ g o va vk, A = some ⟨g, o, none⟩ ∧ ElAt W g (o + i * 4) es[i] va vk := by
 obtain ⟨g, o, va, vk, hA, hg, h0, h1, h2, h3, hr⟩ := h.get i hi;exact ⟨g, o, va, vk, hA, hg, h0, h1, h2, h3, hr⟩
namespace El
def vald (d k : Nat) (e : E) : Bool := proper e && decide (d + depth e ≤ 65) && decide (k + count e ≤ 3000)
def valdL (d k : Nat) (l : List E) : Bool := properL l && decide (d + depthL l ≤ 65) && decide (k + countL l ≤ 3000)
theorem vald_top (e : E) : vald 1 0 e = valid e := by
 unfold vald valid;rw [Bool.eq_iff_iff];simp only [Bool.and_eq_true, decide_eq_true_eq, Nat.zero_add];constructor
 ·rintro ⟨⟨h1, h2⟩, h3⟩; exact ⟨⟨h1, h3⟩, by omega⟩
 ·rintro ⟨⟨h1, h2⟩, h3⟩; exact ⟨⟨h1, by omega⟩, h2⟩
theorem vald_eq (d k : Nat) (e : E) : vald d k e = (decide (k + 1 ≤ 3000) && decide (d ≤ 64) && ownOK e && valdL (d + 1) (k + 1) e.kids) := by
 unfold vald valdL;rw [proper_eq, depth_kids, count_kids, Bool.eq_iff_iff];simp only [Bool.and_eq_true, decide_eq_true_eq];constructor
 ·rintro ⟨⟨⟨h1, h2⟩, h3⟩, h4⟩; exact ⟨⟨⟨by omega, by omega⟩, h1⟩, ⟨h2, by omega⟩, by omega⟩
 ·rintro ⟨⟨⟨h1, h2⟩, h3⟩, ⟨h4, h5⟩, h6⟩; exact ⟨⟨⟨h3, h4⟩, by omega⟩, by omega⟩
theorem valdL_snoc (d k : Nat) (l : List E) (j : Nat) (h : j < l.length) : valdL d k (l.take (j + 1)) = (valdL d k (l.take j) && vald d (k + countL (l.take j)) l[j]) := by
 unfold valdL vald;rw [properL_all, properL_all, depthL_take l j h, countL_take l j h, List.take_add_one, List.getElem?_eq_getElem h, List.all_append];simp only [Option.toList_some, List.all_cons, List.all_nil, Bool.and_true];rw [Bool.eq_iff_iff];simp only [Bool.and_eq_true, decide_eq_true_eq];constructor
 ·rintro ⟨⟨⟨h1, h2⟩, h3⟩, h4⟩; exact ⟨⟨⟨h1, by omega⟩, by omega⟩, ⟨h2, by omega⟩, by omega⟩
 ·rintro ⟨⟨⟨h1, h2⟩, h3⟩, ⟨h4, h5⟩, h6⟩; exact ⟨⟨⟨h1, h4⟩, by omega⟩, by omega⟩
theorem valdL_no (d k : Nat) (l : List E) (j : Nat) (h : valdL d k (l.take j) = false) : valdL d k l = false := by
 rw [← Bool.not_eq_true] at h ⊢;intro h';apply h
 unfold valdL at h' ⊢;simp only [Bool.and_eq_true, decide_eq_true_eq] at h' ⊢;obtain ⟨⟨h1, h2⟩, h3⟩ := h';have := countL_le l j
 have hd : depthL (l.take j) ≤ depthL l := by
  have e : l = l.take j ++ l.drop j := (List.take_append_drop j l).symm;have := depthL_app (l.take j) (l.drop j);rw [← e] at this;omega
 refine ⟨⟨?_, by omega⟩, by omega⟩;rw [properL_all] at h1 ⊢;rw [List.all_eq_true] at h1 ⊢;exact fun x hx => h1 x (List.mem_of_mem_take hx)
theorem attrsOK_nil : attrsOK [] = true := rfl
theorem attrsOK_snoc (l : Attrs) (j : Nat) (h : j < l.length) : attrsOK (l.take (j + 1)) = (attrsOK (l.take j) && (nameOK l[j].1 && valueOK l[j].2 && !(l.take j).any (fun x => x.1 == l[j].1))) := by
 unfold attrsOK;rw [List.take_add_one, List.getElem?_eq_getElem h, List.all_append, List.map_append];simp only [Option.toList_some, List.all_cons, List.all_nil, Bool.and_true, List.map_cons, List.map_nil];rw [Bool.eq_iff_iff];simp only [Bool.and_eq_true, decide_eq_true_eq, Bool.not_eq_true', List.any_eq_false, List.nodup_append, List.mem_map, List.mem_singleton, beq_iff_eq];constructor
 ·rintro ⟨⟨h1, h2, h3⟩, h4, h5, h6⟩
  refine ⟨⟨h1, h4⟩, ⟨h2, h3⟩, fun x hx he => ?_⟩;exact h6 _ ⟨x, hx, rfl⟩ _ rfl he
 ·rintro ⟨⟨h1, h4⟩, ⟨h2, h3⟩, h5⟩
  refine ⟨⟨h1, h2, h3⟩, h4, by simp, ?_⟩;rintro _ ⟨x, hx, rfl⟩ _ rfl he;exact h5 x hx he
theorem attrsOK_no (l : Attrs) (j : Nat) (h : attrsOK (l.take j) = false) : attrsOK l = false := by
 rw [← Bool.not_eq_true] at h ⊢;intro h';apply h
 unfold attrsOK at h' ⊢;simp only [Bool.and_eq_true, decide_eq_true_eq] at h' ⊢;obtain ⟨h1, h2⟩ := h';refine ⟨?_, ?_⟩
 ·rw [List.all_eq_true] at h1 ⊢
  exact fun x hx => h1 x (List.mem_of_mem_take hx)
 ·rw [List.map_take]
  exact (List.take_sublist _ _).nodup h2
end El
end Go.Proofs.YtnbeemkfmlfgfaaGreatDoor
namespace Go.Proofs.YtnbeemkfmlfgfaaGreatDoor
open Go.RowKit
theorem wp_region_plan2 {P : Program} {Q : Exit → Act → World → Prop} {id : Nat} {a : Act} {w : World} {l : List Oper} (p : Plan) (ns : List Nat) (t : Nat) (fin : Array Bool) (C2 : World → Prop) (p2 : Plan) (ns2 : List Nat) (fin2 : Array Bool) (hm : P.follows .mixedOrders = true) (hQ : ∀ c a d v w, Q (.panic c) (Act.put a d v) w → Q (.panic c) a w)
  (hB : (Region.noSelect l.toArray && decide (p.len + (p2.len + 1) = l.toArray.size) && p.within ns && planB .any l.toArray fin p (Array.replicate l.toArray.size false) && shutB .any l.toArray ns (some t) (Array.replicate l.toArray.size false) &&
   decide (Region.ready .any l.toArray fin = [t]) && !ns.contains t && p2.within ns2 && planB .any l.toArray fin2 p2 (fin.setIfInBounds t true) && shutB .any l.toArray ns2 none (fin.setIfInBounds t true) && (Region.ready .any l.toArray fin2).isEmpty) = true)
  (h : wpPlan P l Q (fun w' => ∃ p : Regrown, w' = Go.Sort.grow (redrawn w p.d) p.os) (fun a' w' => wpList P l.toArray (Exit.then (fun a'' w'' => C2 w'' ∧ wpPlan P l Q C2 (fun a3 w3 => Q .normal a3 w3) p2 a'' w'') Q) (pick l [t]) a' w') p a (w.drewN 1)) : (Code.region id l.toArray true).wp P Q a w := by
 simp only [Bool.and_eq_true, decide_eq_true_eq, Bool.not_eq_true', List.isEmpty_iff] at hB;obtain ⟨⟨⟨⟨⟨⟨⟨⟨⟨⟨hsel, hn⟩, hin⟩, hp⟩, hs⟩, hr⟩, ht⟩, hin2⟩, hp2⟩, hs2⟩, hr2⟩ := hB;refine wp_region_any hm ?_;rw [← hn];rw [← hn] at hp hs
 have hz : ZInv .any l.toArray ns (Array.replicate (p.len + (p2.len + 1)) false) (Array.replicate (p.len + (p2.len + 1)) false) :=
  ⟨⟨by simp [hn], fun j oj _ hl => by rw [getD_repl] at hl; cases hl⟩, fun _ h => h, fun _ h => .inl h⟩
 have hz' := plan_inv p _ hin hz hp;have htr : t ∈ Region.ready .any l.toArray fin := by rw [hr]; simp
 have htn : t ∉ ns := by
  intro hx;rw [List.contains_iff_mem.2 hx] at ht;cases ht
 obtain ⟨_, ot, hot, _⟩ := mem_ready.1 htr;have := wpAnyU_plan (P := P) (Q := Q) (fin := fin) hsel hQ hs (by rw [hr]; intro j hj; rw [List.mem_singleton.1 hj]; exact htn) p _ a (w.drewN 1) hin hz hp (Growing.drew w) h;refine wpAny_of_U (g := p2.len + 1) (fun listed' a' w' _ hL => ?_) p.len _ a _ (Growing.drew w) this;refine wpAny_all (rs := [t]) (by rw [hL.1]; exact hr) (by simp) (fun i hi => ?_);rw [List.mem_singleton.1 hi, hL.1];refine wpOp_mono (fun a'' w'' h'' => ?_) (wpOp_of_single hot hL.2);have hz2 : ZInv .any l.toArray ns2 (fin.setIfInBounds t true) (fin.setIfInBounds t true) := ⟨hz'.closed.put htr, fun _ h => h, fun _ h => .inl h⟩;have h2 := wpAnyU_plan (P := P) (Q := Q) (fin := fin2) hsel hQ hs2 (by rw [hr2]; simp) p2 _ a'' w'' hin2 hz2 hp2 h''.1 h''.2;exact wpAny_of_U (g := 0) (fun listed' a' w' _ hL => wpAny_done (by rw [hL.1]; exact hr2) hL.2 0) p2.len _ a'' _ h''.1 h2
theorem wpPlan_shut2 {P : Program} {Q : Exit → Act → World → Prop} {C C2 : World → Prop} {L2 : Act → World → Prop} {p2 : Plan} {l : List Oper} {t : Nat} {o : Oper} {a : Act} {w : World} (ho : l[t]? = some o)
  (h : ∀ K : Act → World → Prop, (∀ a w, C2 w → wpPlan P l Q C2 L2 p2 a w → K a w) → wpList P l.toArray (Exit.then K Q) [o] a w) : wpPlan P l Q C (fun a' w' => wpList P l.toArray (Exit.then (fun a'' w'' => C2 w'' ∧ wpPlan P l Q C2 L2 p2 a'' w'') Q) (pick l [t]) a' w') .nil a w := by
 unfold wpPlan;have hp : pick l [t] = [o] := by simp [pick, ho]
 rw [hp];exact h _ (fun _ _ h1 h2 => ⟨h1, h2⟩)
end Go.Proofs.YtnbeemkfmlfgfaaGreatDoor
