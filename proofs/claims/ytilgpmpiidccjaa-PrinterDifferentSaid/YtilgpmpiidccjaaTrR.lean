/- Formula trees in memory. -/
import Derived.Test.YtilgpmpiidccjaaRow
import Derived.Test.YtilgpmpiidccjaaTrM
namespace Go.Proofs.Ytilgpmpiidccjaa
open Go.ChangeShapes Go.WideShapes Go.ChangeAt Go.RowKit

/-- A slice whose elements are these trees. -/
inductive RepL (W : World) : List Tr.Nd → Value → Prop
  | nil (A : Option Addr) (cap : Nat) : RepL W [] (.slice A 0 cap)
  | row (g o cap : Nat) (ks : List Tr.Nd) (sl : Nat → Value) (hg : g < W.heap.size) (hl : ks.length ≤ maxLen) (ht : ∀ i (hi : i < ks.length), ks[i].text.length ≤ maxLen)
      (h0 : ∀ i (hi : i < ks.length), W.cell? ⟨g, o + i * 4, none⟩ = some (.int .i64 ks[i].kind))
      (h1 : ∀ i (hi : i < ks.length), W.cell? ⟨g, o + i * 4 + 1, none⟩ = some (.string ⟨ks[i].text.toArray⟩))
      (h2 : ∀ i (hi : i < ks.length), W.cell? ⟨g, o + i * 4 + 2, none⟩ = some (.int .i64 ks[i].cols))
      (h3 : ∀ i, i < ks.length → W.cell? ⟨g, o + i * 4 + 3, none⟩ = some (sl i))
      (hk : ∀ i (hi : i < ks.length), RepL W ks[i].kids (sl i)) : RepL W ks (.slice (some ⟨g, o, none⟩) ks.length cap)

/-- A value that is this tree. -/
def RepN (W : World) (n : Tr.Nd) (v : Value) : Prop := ∃ sl, v = .agg #[.int .i64 n.kind, .string ⟨n.text.toArray⟩, .int .i64 n.cols, sl] ∧ RepL W n.kids sl

theorem RepL.fresh {W W' : World} {ks : List Tr.Nd} {v : Value} (h : RepL W ks v) (hf : Fresh W W') : RepL W' ks v := by
  induction h with
  | nil A cap => exact .nil A cap
  | row g o cap ks sl hg hl ht h0 h1 h2 h3 hk ih =>
    exact .row g o cap ks sl (Nat.lt_of_lt_of_le hg hf.size) hl ht (fun i hi => hf.cell (h0 i hi) (fun h => h)) (fun i hi => hf.cell (h1 i hi) (fun h => h)) (fun i hi => hf.cell (h2 i hi) (fun h => h)) (fun i hi => hf.cell (h3 i hi) (fun h => h)) ih
theorem RepN.fresh {W W' : World} {n : Tr.Nd} {v : Value} (h : RepN W n v) (hf : Fresh W W') : RepN W' n v := by
  obtain ⟨sl, h1, h2⟩ := h
  exact ⟨sl, h1, h2.fresh hf⟩

theorem RepL.slice {W : World} {ks : List Tr.Nd} {v : Value} (h : RepL W ks v) : ∃ A cap, v = .slice A ks.length cap := by
  cases h with
  | nil A cap => exact ⟨A, cap, rfl⟩
  | row g o cap _ sl => exact ⟨_, cap, rfl⟩

theorem RepL.len {W : World} {ks : List Tr.Nd} {v : Value} (h : RepL W ks v) : ks.length ≤ maxLen := by
  cases h with
  | nil A cap => exact Nat.zero_le _
  | row g o cap _ sl hg hl => exact hl

theorem RepL.texts {W : World} {ks : List Tr.Nd} {v : Value} (h : RepL W ks v) (i : Nat) (hi : i < ks.length) : ks[i].text.length ≤ maxLen := by
  cases h with
  | nil A cap => simp at hi
  | row g o cap _ sl hg hl ht => exact ht i hi

/-- One of the kids. -/
theorem RepL.get {W : World} {ks : List Tr.Nd} {A : Option Addr} {len cap : Nat} (h : RepL W ks (.slice A len cap)) (i : Nat) (hi : i < ks.length) :
    ∃ g o sl, A = some ⟨g, o, none⟩ ∧ g < W.heap.size ∧ W.cell? ⟨g, o + i * 4, none⟩ = some (.int .i64 ks[i].kind) ∧ W.cell? ⟨g, o + i * 4 + 1, none⟩ = some (.string ⟨ks[i].text.toArray⟩) ∧
      W.cell? ⟨g, o + i * 4 + 2, none⟩ = some (.int .i64 ks[i].cols) ∧ W.cell? ⟨g, o + i * 4 + 3, none⟩ = some sl ∧ RepL W ks[i].kids sl := by
  generalize hv : Value.slice A len cap = v at h
  cases h with
  | nil A cap => simp at hi
  | row g o cap _ sl hg hl ht h0 h1 h2 h3 hk =>
    cases hv
    exact ⟨g, o, sl i, rfl, hg, h0 i hi, h1 i hi, h2 i hi, h3 i hi, hk i hi⟩

theorem cells4 {W : World} {base : Nat} {a : Addr} {cs : List Value} (h : W.cells? base a 4 = some cs) : ∃ c0 c1 c2 c3, cs = [c0, c1, c2, c3] ∧ a.spot = none ∧ a.block < W.heap.size ∧
    W.cell? ⟨a.block, a.off, none⟩ = some c0 ∧ W.cell? ⟨a.block, a.off + 1, none⟩ = some c1 ∧ W.cell? ⟨a.block, a.off + 2, none⟩ = some c2 ∧ W.cell? ⟨a.block, a.off + 3, none⟩ = some c3 := by
  obtain ⟨_, hl, hc⟩ := World.cells?_some h
  match cs, hl with
  | [c0, c1, c2, c3], _ =>
    have e0 := hc 0 (by decide)
    have e1 := hc 1 (by decide)
    have e2 := hc 2 (by decide)
    have e3 := hc 3 (by decide)
    obtain ⟨g, o, s⟩ := a
    have hs : s = none := by
      cases s with
      | none => rfl
      | some x =>
        simp only [Addr.add, if_true, List.getElem?_cons_zero] at e0
        unfold World.cell? at e0
        split at e0
        · simp at e0
        · cases e0
    subst hs
    have hlt := block_lt_of_cell (a := ⟨g, o, none⟩) (v := c0) (by simpa [Addr.add] using e0)
    exact ⟨c0, c1, c2, c3, rfl, rfl, hlt, by simpa [Addr.add] using e0, by simpa [Addr.add] using e1, by simpa [Addr.add] using e2, by simpa [Addr.add] using e3⟩

section
variable {H : Type} {enc : TypeId × Value → H}
theorem open_node4 {w : World} {base : Nat} {sp : Nat → Bool} {hd : Bool} {fuel : Nat} {c0 c1 c2 c3 : Value} {y : DataW H × List MemPlace} (h : DataW.trod enc Try.prog w base sp hd fuel 24 [c0, c1, c2, c3] = some y) :
    ∃ (k c : Int) (s : ByteArray) (n : Nat) (z : DataW H × List MemPlace), n < fuel ∧ c0 = .int .i64 k ∧ c1 = .string s ∧ c2 = .int .i64 c ∧ s.size ≤ maxLen ∧ DataW.trod enc Try.prog w base sp hd n 22 [c3] = some z := by
  obtain ⟨xs, n, hfuel, _, _, hlen, hf⟩ := DataW.trod_struct Try.underlying24 h
  have e0 := hf 0 _ rfl
  have e1 := hf 1 _ rfl
  have e2 := hf 2 _ rfl
  have e3 := hf 3 _ rfl
  match xs, hlen with
  | [y0, y1, y2, y3], _ =>
    obtain ⟨k, g0, _⟩ := DataW.trod_int Try.underlying3 (by exact e0)
    obtain ⟨s, g1, _, hsz⟩ := DataW.trod_string Try.underlying9 (by exact e1)
    obtain ⟨c, g2, _⟩ := DataW.trod_int Try.underlying3 (by exact e2)
    have hC1 : Try.prog.cellsOf 3 = 1 := by kernel_rfl
    have hC2 : Try.prog.cellsOf 9 = 1 := by kernel_rfl
    have hC3 : Try.prog.cellsOf 22 = 1 := by kernel_rfl
    simp [hC1] at g0
    simp [hC2] at g1
    simp [hC1] at g2
    refine ⟨k, c, s, n, y3, by omega, g0, g1, g2, hsz, ?_⟩
    simpa [hC3] using e3

theorem open_nodes {w : World} {base : Nat} {sp : Nat → Bool} {hd : Bool} : ∀ (fuel : Nat) (cs : List Value) (y : DataW H × List MemPlace), DataW.trod enc Try.prog w base sp hd fuel 22 cs = some y → ∃ ks v, cs = [v] ∧ RepL w ks v := by
  intro fuel
  induction fuel using Nat.strongRecOn with
  | _ fuel ih =>
    intro cs y h
    rcases DataW.trod_slice Try.underlying22 h with ⟨rfl, _⟩ | ⟨a, len, cap, elems, rest, n, hn, rfl, _, hb, hl, hm, hlen, hel, _, _⟩
    · exact ⟨[], _, rfl, .nil _ _⟩
    · have hC : Try.prog.cellsOf 24 = 4 := by kernel_rfl
      rw [hC] at hel
      have each : ∀ i, i < len → ∃ (t : Tr.Nd) (sl : Value), a.spot = none ∧ a.block < w.heap.size ∧ w.cell? ⟨a.block, a.off + i * 4, none⟩ = some (.int .i64 t.kind) ∧ w.cell? ⟨a.block, a.off + i * 4 + 1, none⟩ = some (.string ⟨t.text.toArray⟩) ∧
          w.cell? ⟨a.block, a.off + i * 4 + 2, none⟩ = some (.int .i64 t.cols) ∧ w.cell? ⟨a.block, a.off + i * 4 + 3, none⟩ = some sl ∧ RepL w t.kids sl ∧ t.text.length ≤ maxLen := by
        intro i hi
        have h0 := hel i hi
        rw [List.getElem?_eq_getElem (by omega), Option.bind_eq_some_iff] at h0
        obtain ⟨cs', hcs, hy⟩ := h0
        obtain ⟨c0, c1, c2, c3, rfl, hs, hlt, e0, e1, e2, e3⟩ := cells4 hcs
        obtain ⟨k, c, s, m, z, hm', rfl, rfl, rfl, hsz, hz⟩ := open_node4 hy
        obtain ⟨ks, v, hv, hr⟩ := ih m (by omega) _ _ hz
        cases hv
        have hsp : a.spot = none ∨ 0 < i := by
          rcases Nat.eq_zero_or_pos i with h | h
          · subst h; left; simpa [Addr.add] using hs
          · exact .inr h
        have hblk : (a.add (i * 4)).block = a.block := by unfold Addr.add; split <;> rfl
        have hoff : (a.add (i * 4)).off = a.off + i * 4 := by
          unfold Addr.add
          split
          · omega
          · rfl
        rw [hblk, hoff] at e0 e1 e2 e3
        rw [hblk] at hlt
        have hs0 : a.spot = none := by
          rcases hsp with h | h
          · exact h
          · have h00 := hel 0 (by omega)
            rw [List.getElem?_eq_getElem (by omega), Option.bind_eq_some_iff] at h00
            obtain ⟨cs0, hcs0, _⟩ := h00
            obtain ⟨_, _, _, _, _, hs', _⟩ := cells4 hcs0
            simpa [Addr.add] using hs'
        exact ⟨.mk k s.data.toList c ks, c3, hs0, hlt, e0, e1, e2, e3, hr, by show s.data.toList.length ≤ maxLen; simpa using hsz⟩
      cases hl0 : len with
      | zero => subst hl0; exact ⟨[], _, rfl, .nil _ _⟩
      | succ l =>
        rw [← hl0]
        have hpos : 0 < len := by omega
        have he : ∃ f : Nat → Tr.Nd × Value, ∀ i, i < len → w.cell? ⟨a.block, a.off + i * 4, none⟩ = some (.int .i64 (f i).1.kind) ∧ w.cell? ⟨a.block, a.off + i * 4 + 1, none⟩ = some (.string ⟨(f i).1.text.toArray⟩) ∧
          w.cell? ⟨a.block, a.off + i * 4 + 2, none⟩ = some (.int .i64 (f i).1.cols) ∧ w.cell? ⟨a.block, a.off + i * 4 + 3, none⟩ = some (f i).2 ∧ RepL w (f i).1.kids (f i).2 ∧ (f i).1.text.length ≤ maxLen := by
          refine ⟨fun i => if h : i < len then ⟨Classical.choose (each i h), Classical.choose (Classical.choose_spec (each i h))⟩ else ⟨.mk 0 [] 0 [], .bool false⟩, fun i hi => ?_⟩
          simp only [dif_pos hi]
          exact (Classical.choose_spec (Classical.choose_spec (each i hi))).2.2
        obtain ⟨f, hf⟩ := he
        obtain ⟨_, _, hs, hlt, _⟩ := each 0 hpos
        obtain ⟨g, o, s⟩ := a
        simp only at hs hlt hf
        subst hs
        have hln : ((List.range len).map fun i => (f i).1).length = len := by simp
        refine ⟨(List.range len).map fun i => (f i).1, _, rfl, ?_⟩
        have := RepL.row (W := w) g o cap ((List.range len).map fun i => (f i).1) (fun i => (f i).2) hlt (by rw [hln]; omega) (fun i hi => by simpa using (hf i (by simpa using hi)).2.2.2.2.2)
          (fun i hi => by simpa using (hf i (by simpa using hi)).1) (fun i hi => by simpa using (hf i (by simpa using hi)).2.1) (fun i hi => by simpa using (hf i (by simpa using hi)).2.2.1)
          (fun i hi => by simpa using (hf i (by simpa using hi)).2.2.2.1) (fun i hi => by simpa using (hf i (by simpa using hi)).2.2.2.2.1)
        rw [hln] at this
        exact this

set_option maxRecDepth 100000 in
/-- An argument that is a tree, opened. -/
theorem open_node {w : World} {base b0 : Nat} {sp : Nat → Bool} {hd : Bool} {v : Value} {d : DataW H} {p : List MemPlace} (hv : Value.okWide Try.prog w .any b0 24 v) (h : DataW.Trod enc Try.prog w base sp hd 24 v d p) :
    ∃ n, RepN w n v ∧ n.text.length ≤ maxLen := by
  obtain ⟨cs, rfl, hsz⟩ := okWide_struct Try.underlying24 hv
  have hC : Try.prog.cellsOf 24 = 4 := by kernel_rfl
  rw [hC] at hsz
  obtain ⟨fuel, hf⟩ := h
  obtain ⟨l, rfl⟩ : ∃ l : List Value, cs = l.toArray := ⟨cs.toList, by simp⟩
  match l, hsz with
  | [c0, c1, c2, c3], _ =>
    obtain ⟨k, c, s, m, z, _, rfl, rfl, rfl, hsz, hz⟩ := open_node4 hf
    obtain ⟨ks, v, hv, hr⟩ := open_nodes m _ _ hz
    cases hv
    exact ⟨.mk k s.data.toList c ks, ⟨c3, rfl, hr⟩, by show s.data.toList.length ≤ maxLen; simpa using hsz⟩
end
end Go.Proofs.Ytilgpmpiidccjaa
