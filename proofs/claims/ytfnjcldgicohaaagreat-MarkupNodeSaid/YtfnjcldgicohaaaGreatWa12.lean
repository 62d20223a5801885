/- Part 12 of 33 of a proof; its texts, joined: MnP, ElR, ElG, XmB. No condition. -/
import Derived.Test.YtfnjcldgicohaaaGreatWa11
import Derived.Test.YtfnjcldgicohaaaGreatWa5
import Derived.Test.YtfnjcldgicohaaaGreatWa3
set_option maxRecDepth 100000
set_option maxHeartbeats 1000000
namespace Go.Proofs.YtfnjcldgicohaaaGreat.El
open Tr (Nd)
def leafK (n : Bytes) : Int := if n = nMi then 2 else if n = nMo then 2 else if n = nMn then 3 else if n = nMtext then 4 else 0
def attrV : Attrs → Bytes → Bytes
 | [], _ => []
 | x :: l, nm => if x.1 = nm then x.2 else attrV l nm
def rowNil : Nd := .mk 1 [] 0 []
def nilNd : Nd := .mk 0 [] 0 []
def validI (k : Int) (t : Bytes) (s : Nat) : Bool := Tr.valid (.mk 1 [] 0 [.mk k t 0 (List.replicate s rowNil)])
def slotsR (nm : Bytes) (n : Nat) : Bool :=
 if nm = nMath then true else if nm = nMrow then true else if nm = nMtd then true
 else if nm = nMtable then decide (1 ≤ n)
 else if nm = nMtr then decide (1 ≤ n) && decide (n ≤ 16)
 else if nm = nMfrac then decide (n = 2) else if nm = nMroot then decide (n = 2) else if nm = nMsub then decide (n = 2) else if nm = nMsup then decide (n = 2)
 else if nm = nMsubsup then decide (n = 3)
 else if nm = nMsqrt then decide (n = 1) else if nm = nMover then decide (n = 1) else if nm = nMfenced then decide (n = 1)
 else false
def attrsR (nm : Bytes) : Nat := if nm = nMover then 1 else if nm = nMfenced then 2 else 0
def moreR (nm : Bytes) (a : Attrs) : Bool :=
 if nm = nMover then validI 10 (attrV a nAccent) 1
 else if nm = nMfenced then decide ((attrV a nOpen).length = 1) && decide ((attrV a nClose).length = 1) && validI 11 (attrV a nOpen ++ attrV a nClose) 1
 else true
def ownF : E → Bool
 | .mk n a ks t =>
  if leafK n ≠ 0 then (if n = nMi then lett t else if n = nMo then !lett t else true) && a.isEmpty && ks.isEmpty && validI (leafK n) t 0
  else t.isEmpty && slotsR n ks.length && moreR n a && decide (a.length = attrsR n)
def admF : E → E → Bool
 | .mk n _ ks _, .mk m _ ls _ =>
  if n = nMath ∨ n = nMrow ∨ n = nMtd then !(decide (m = nMath) || decide (m = nMrow) || decide (m = nMtd) || decide (m = nMtr))
  else if n = nMtable then decide (m = nMtr) && (match ks with | .mk _ _ js _ :: _ => decide (ls.length = js.length) | [] => false)
  else if n = nMtr then decide (m = nMtd)
  else decide (m = nMrow)
mutual
def okT : E → Bool
 | .mk n a ks t => ownF (.mk n a ks t) && okL (.mk n a ks t) ks
def okL (p : E) : List E → Bool
 | [] => true
 | x :: xs => admF p x && okT x && okL p xs
end
mutual
def vis : Bool → Nat → E → Bool × Nat
 | adm, k, .mk n a ks t => if adm && ownF (.mk n a ks t) then visL (.mk n a ks t) (k + 1) ks else (false, k + 1)
def visL : E → Nat → List E → Bool × Nat
 | _, k, [] => (true, k)
 | p, k, x :: xs => match vis (admF p x) k x with
  | (true, k') => visL p k' xs
  | (false, k') => (false, k')
end
theorem vis_eq (adm : Bool) (k : Nat) (e : E) : vis adm k e = if adm && ownF e then visL e (k + 1) e.kids else (false, k + 1) := by cases e; rw [vis]; rfl
theorem okT_eq (e : E) : okT e = (ownF e && okL e e.kids) := by cases e; rw [okT]; rfl
theorem okL_all (p : E) (l : List E) : okL p l = l.all fun x => admF p x && okT x := by
 induction l with
 | nil => rw [okL]; rfl
 | cons x l ih => rw [okL, ih, List.all_cons]
theorem visL_spec (p : E) (l : List E) (h : ∀ x ∈ l, ∀ adm k, ((adm && okT x) = true → vis adm k x = (true, k + count x)) ∧ ((adm && okT x) = false → (vis adm k x).1 = false)) :
  ∀ k, (okL p l = true → visL p k l = (true, k + countL l)) ∧ (okL p l = false → (visL p k l).1 = false) := by
 induction l with
 | nil => intro k; exact ⟨fun _ => by rw [visL, countL]; rfl, fun h => by rw [okL] at h; cases h⟩
 | cons x l ih =>
  intro k;have ih' := ih (fun y hy => h y (List.mem_cons_of_mem _ hy));have hx := h x (List.mem_cons_self ..) (admF p x) k;rw [okL, visL];cases hb : admF p x && okT x with
  | true =>
   rw [hx.1 hb, Bool.true_and];refine ⟨fun hl => ?_, fun hl => (ih' _).2 hl⟩;show visL p (k + count x) l = _;rw [(ih' _).1 hl, countL, Nat.add_assoc]
  | false =>
   rw [Bool.false_and];refine ⟨fun h => (by cases h), fun _ => ?_⟩;have h3 := hx.2 hb
   rcases hv : vis (admF p x) k x with ⟨b, k'⟩
   rw [hv] at h3;replace h3 : b = false := h3;rw [h3]
theorem vis_spec (e : E) : ∀ adm k, ((adm && okT e) = true → vis adm k e = (true, k + count e)) ∧ ((adm && okT e) = false → (vis adm k e).1 = false) := by
 induction e using E.ind with
 | h e ih =>
  intro adm k;have hl := visL_spec e e.kids ih (k + 1);rw [vis_eq, okT_eq, count_kids];cases adm with
  | false => exact ⟨fun h => by simp at h, fun _ => rfl⟩
  | true =>
   cases ho : ownF e with
   | false => exact ⟨fun h => by simp at h, fun _ => rfl⟩
   | true =>
    simp only [Bool.true_and, if_true];refine ⟨fun h => ?_, hl.2⟩;rw [hl.1 h]
    congr 1
    omega
theorem vis_lt (e : E) : ∀ adm k, k < (vis adm k e).2 ∧ (vis adm k e).2 ≤ k + count e := by
 induction e using E.ind with
 | h e ih =>
  intro adm k
  have hL : ∀ (p : E) (l : List E), (∀ x ∈ l, x ∈ e.kids) → ∀ k, k ≤ (visL p k l).2 ∧ (visL p k l).2 ≤ k + countL l := by
   intro p l
   induction l with
   | nil => intro _ k; rw [visL, countL]; exact ⟨Nat.le_refl _, Nat.le_refl _⟩
   | cons x l ihl =>
    intro hm k;have hx := ih x (hm x (List.mem_cons_self ..)) (admF p x) k;rw [visL, countL]
    rcases hv : vis (admF p x) k x with ⟨b, k'⟩
    rw [hv] at hx;replace hx : k < k' ∧ k' ≤ k + count x := hx;cases b with
    | true =>
     have := ihl (fun y hy => hm y (List.mem_cons_of_mem _ hy)) k';show k ≤ (visL p k' l).2 ∧ (visL p k' l).2 ≤ _;omega
    | false =>
     show k ≤ k' ∧ k' ≤ _;omega
  rw [vis_eq, count_kids];split
  ·have := hL e e.kids (fun x hx => hx) (k + 1)
   omega
  ·show k < k + 1 ∧ k + 1 ≤ _
   omega
def faultF (e : E) : Int × Bool := if (vis (decide (e.name = nMath)) 0 e).1 then (0, false) else (((vis (decide (e.name = nMath)) 0 e).2 : Int) - 1, true)
def rowK (n : Bytes) : Int := if n = nMfrac then 5 else if n = nMsub then 7 else if n = nMsup then 8 else if n = nMsubsup then 9 else 0
def mkN (n : Bytes) (a : Attrs) (t : Bytes) (rs cs : List Nd) (c : Nat) : Nd :=
 if leafK n ≠ 0 then .mk (leafK n) t 0 []
 else if n = nMsqrt then .mk 6 [] 0 (rowNil :: rs.take 1)
 else if n = nMroot then .mk 6 [] 0 ((rs.drop 1).take 1 ++ rs.take 1)
 else if n = nMover then .mk 10 (attrV a nAccent) 0 (rs.take 1)
 else if n = nMfenced then .mk 11 (attrV a nOpen ++ attrV a nClose) 0 (rs.take 1)
 else if n = nMtable then .mk 12 [] c cs
 else .mk (rowK n) [] 0 rs
def colsN : List E → Nat
 | .mk _ _ ks _ :: _ => ks.length
 | [] => 0
mutual
def itemN : E → Nd
 | .mk n a ks t => mkN n a t (rowsN ks) (cellsN ks) (colsN ks)
def itemsN : List E → List Nd
 | [] => []
 | x :: xs => itemN x :: itemsN xs
def rowsN : List E → List Nd
 | [] => []
 | .mk _ _ ks _ :: xs => .mk 1 [] 0 (itemsN ks) :: rowsN xs
def cellsN : List E → List Nd
 | [] => []
 | .mk _ _ ks _ :: xs => rowsN ks ++ cellsN xs
end
def rowN (e : E) : Nd := .mk 1 [] 0 (itemsN e.kids)
theorem itemN_eq (e : E) : itemN e = mkN e.name e.attrs e.text (rowsN e.kids) (cellsN e.kids) (colsN e.kids) := by cases e; rw [itemN]; rfl
theorem itemsN_map (l : List E) : itemsN l = l.map itemN := by
 induction l with
 | nil => rw [itemsN]; rfl
 | cons x l ih => rw [itemsN, ih]; rfl
theorem rowsN_map (l : List E) : rowsN l = l.map rowN := by
 induction l with
 | nil => rw [rowsN]; rfl
 | cons x l ih => cases x; rw [rowsN, ih]; rfl
theorem cellsN_map (l : List E) : cellsN l = l.flatMap fun x => rowsN x.kids := by
 induction l with
 | nil => rw [cellsN]; rfl
 | cons x l ih => cases x; rw [cellsN, ih, List.flatMap_cons]; rfl
def nodeF (e : E) : Nd × Int × Int := if valid e then (if (faultF e).2 then (nilNd, (faultF e).1, 19) else if Tr.valid (rowN e) then (rowN e, 0, 0) else (nilNd, 0, 6)) else (nilNd, 0, 1)
end Go.Proofs.YtfnjcldgicohaaaGreat.El
namespace Go.Proofs.YtfnjcldgicohaaaGreat
open Go.ChangeShapes Go.WideShapes Go.ChangeAt Go.RowKit
open El (E Attrs)
theorem infoElem : (Tryz.prog.info? 25).map (fun i => (i.zero, i.size, i.bytes)) = some (some (.agg #[.string ⟨#[]⟩, .slice none 0 0, .slice none 0 0, .string ⟨#[]⟩]), 4, 80) := by kernel_rfl
theorem infoAttr : (Tryz.prog.info? 53).map (fun i => (i.zero, i.size, i.bytes)) = some (some (.agg #[.string ⟨#[]⟩, .string ⟨#[]⟩]), 2, 32) := by kernel_rfl
def RepA (W : World) (ats : Attrs) (v : Value) : Prop := ∃ A cap, v = .slice A ats.length cap ∧ (ats.length ≤ maxLen ∧ ats.length ≤ cap) ∧ (∀ x ∈ ats, x.1.length ≤ maxLen ∧ x.2.length ≤ maxLen) ∧
 (ats = [] ∨ ∃ g o, A = some ⟨g, o, none⟩ ∧ g < W.heap.size ∧ ∀ i (hi : i < ats.length), W.cell? ⟨g, o + i * 2, none⟩ = some (.string ⟨ats[i].1.toArray⟩) ∧ W.cell? ⟨g, o + i * 2 + 1, none⟩ = some (.string ⟨ats[i].2.toArray⟩))
theorem RepA.nil (W : World) (A : Option Addr) (cap : Nat) : RepA W [] (.slice A 0 cap) := ⟨A, cap, rfl, ⟨Nat.zero_le _, Nat.zero_le _⟩, (fun _ h => by cases h), .inl rfl⟩
theorem RepA.fresh {W W' : World} {ats : Attrs} {v : Value} (h : RepA W ats v) (hf : Fresh W W') : RepA W' ats v := by
 obtain ⟨A, cap, h1, h2, h3, h4⟩ := h;refine ⟨A, cap, h1, h2, h3, h4.imp id ?_⟩;rintro ⟨g, o, hA, hg, hc⟩;exact ⟨g, o, hA, Nat.lt_of_lt_of_le hg hf.size, fun i hi => ⟨hf.cell (hc i hi).1 (fun h => h), hf.cell (hc i hi).2 (fun h => h)⟩⟩
theorem RepA.slice {W : World} {ats : Attrs} {v : Value} (h : RepA W ats v) : ∃ A cap, v = .slice A ats.length cap := by
 obtain ⟨A, cap, h1, _⟩ := h;exact ⟨A, cap, h1⟩
theorem RepA.get {W : World} {ats : Attrs} {A : Option Addr} {len cap : Nat} (h : RepA W ats (.slice A len cap)) (i : Nat) (hi : i < ats.length) :
  ∃ g o, A = some ⟨g, o, none⟩ ∧ g < W.heap.size ∧ W.cell? ⟨g, o + i * 2, none⟩ = some (.string ⟨ats[i].1.toArray⟩) ∧ W.cell? ⟨g, o + i * 2 + 1, none⟩ = some (.string ⟨ats[i].2.toArray⟩) ∧ ats[i].1.length ≤ maxLen ∧ ats[i].2.length ≤ maxLen := by
 obtain ⟨A', cap', h1, h2, h3, h4⟩ := h;cases h1
 rcases h4 with h4 | ⟨g, o, hA, hg, hc⟩
 ·rw [h4] at hi; simp at hi
 ·exact ⟨g, o, hA, hg, (hc i hi).1, (hc i hi).2, h3 _ (List.getElem_mem hi)⟩
inductive RepE (W : World) : List E → Value → Prop
 | nil (A : Option Addr) (cap : Nat) : RepE W [] (.slice A 0 cap)
 | row (g o cap : Nat) (es : List E) (al sl : Nat → Value) (hg : g < W.heap.size) (hl : es.length ≤ maxLen) (ht : ∀ i (hi : i < es.length), es[i].name.length ≤ maxLen ∧ es[i].text.length ≤ maxLen)
   (h0 : ∀ i (hi : i < es.length), W.cell? ⟨g, o + i * 4, none⟩ = some (.string ⟨es[i].name.toArray⟩))
   (h1 : ∀ i, i < es.length → W.cell? ⟨g, o + i * 4 + 1, none⟩ = some (al i))
   (h2 : ∀ i, i < es.length → W.cell? ⟨g, o + i * 4 + 2, none⟩ = some (sl i))
   (h3 : ∀ i (hi : i < es.length), W.cell? ⟨g, o + i * 4 + 3, none⟩ = some (.string ⟨es[i].text.toArray⟩))
   (ha : ∀ i (hi : i < es.length), RepA W es[i].attrs (al i)) (hk : ∀ i (hi : i < es.length), RepE W es[i].kids (sl i)) : RepE W es (.slice (some ⟨g, o, none⟩) es.length cap)
theorem RepE.fresh {W W' : World} {es : List E} {v : Value} (h : RepE W es v) (hf : Fresh W W') : RepE W' es v := by
 induction h with
 | nil A cap => exact .nil A cap
 | row g o cap es al sl hg hl ht h0 h1 h2 h3 ha hk ih =>
  exact .row g o cap es al sl (Nat.lt_of_lt_of_le hg hf.size) hl ht (fun i hi => hf.cell (h0 i hi) (fun h => h)) (fun i hi => hf.cell (h1 i hi) (fun h => h)) (fun i hi => hf.cell (h2 i hi) (fun h => h)) (fun i hi => hf.cell (h3 i hi) (fun h => h)) (fun i hi => (ha i hi).fresh hf) ih
theorem RepE.slice {W : World} {es : List E} {v : Value} (h : RepE W es v) : ∃ A cap, v = .slice A es.length cap := by
 cases h with
 | nil A cap => exact ⟨A, cap, rfl⟩
 | row g o cap => exact ⟨_, cap, rfl⟩
theorem RepE.len {W : World} {es : List E} {v : Value} (h : RepE W es v) : es.length ≤ maxLen := by
 cases h with
 | nil A cap => exact Nat.zero_le _
 | row g o cap _ al sl hg hl => exact hl
def RepV (W : World) (e : E) (va vk : Value) : Prop := RepA W e.attrs va ∧ RepE W e.kids vk ∧ e.name.length ≤ maxLen ∧ e.text.length ≤ maxLen
abbrev ev (e : E) (va vk : Value) : Value := .agg #[.string ⟨e.name.toArray⟩, va, vk, .string ⟨e.text.toArray⟩]
theorem RepV.fresh {W W' : World} {e : E} {va vk : Value} (h : RepV W e va vk) (hf : Fresh W W') : RepV W' e va vk := ⟨h.1.fresh hf, h.2.1.fresh hf, h.2.2⟩
theorem RepE.get {W : World} {es : List E} {A : Option Addr} {len cap : Nat} (h : RepE W es (.slice A len cap)) (i : Nat) (hi : i < es.length) :
  ∃ g o va vk, A = some ⟨g, o, none⟩ ∧ g < W.heap.size ∧ W.cell? ⟨g, o + i * 4, none⟩ = some (.string ⟨es[i].name.toArray⟩) ∧ W.cell? ⟨g, o + i * 4 + 1, none⟩ = some va ∧ W.cell? ⟨g, o + i * 4 + 2, none⟩ = some vk ∧
   W.cell? ⟨g, o + i * 4 + 3, none⟩ = some (.string ⟨es[i].text.toArray⟩) ∧ RepV W es[i] va vk := by
 generalize hv : Value.slice A len cap = v at h;cases h with
 | nil A cap => simp at hi
 | row g o cap _ al sl hg hl ht h0 h1 h2 h3 ha hk =>
  cases hv;exact ⟨g, o, al i, sl i, rfl, hg, h0 i hi, h1 i hi, h2 i hi, h3 i hi, ha i hi, hk i hi, ht i hi⟩
theorem cells2 {W : World} {base : Nat} {a : Addr} {cs : List Value} (h : W.cells? base a 2 = some cs) : ∃ c0 c1, cs = [c0, c1] ∧ a.spot = none ∧ a.block < W.heap.size ∧ W.cell? ⟨a.block, a.off, none⟩ = some c0 ∧ W.cell? ⟨a.block, a.off + 1, none⟩ = some c1 := by
 obtain ⟨_, hl, hc⟩ := World.cells?_some h
 match cs, hl with
 | [c0, c1], _ =>
  have e0 := hc 0 (by decide);have e1 := hc 1 (by decide);obtain ⟨g, o, s⟩ := a
  have hs : s = none := by
   cases s with
   | none => rfl
   | some x =>
    simp only [Addr.add, if_true, List.getElem?_cons_zero] at e0;unfold World.cell? at e0;split at e0
    ·simp at e0
    ·cases e0
  subst hs;have hlt := bL (a := ⟨g, o, none⟩) (v := c0) (by simpa [Addr.add] using e0);exact ⟨c0, c1, rfl, rfl, hlt, by simpa [Addr.add] using e0, by simpa [Addr.add] using e1⟩
theorem add_parts (a : Addr) (k : Nat) : (a.add k).block = a.block ∧ (a.add k).off = a.off + k := by
 unfold Addr.add;split
 ·exact ⟨rfl, by simp [*]⟩
 ·exact ⟨rfl, rfl⟩
section
variable {H : Type} {enc : TypeId × Value → H}
theorem open_attr2 {w : World} {base : Nat} {sp : Nat → Bool} {hd : Bool} {fuel : Nat} {c0 c1 : Value} {y : DataW H × List MemPlace} (h : DataW.trod enc Tryz.prog w base sp hd fuel 53 [c0, c1] = some y) :
  ∃ s t : ByteArray, c0 = .string s ∧ c1 = .string t ∧ s.size ≤ maxLen ∧ t.size ≤ maxLen := by
 obtain ⟨xs, n, hfuel, _, _, hlen, hf⟩ := DataW.trod_struct Tryz.underlying53 h;have e0 := hf 0 _ rfl;have e1 := hf 1 _ rfl
 match xs, hlen with
 | [y0, y1], _ =>
  obtain ⟨s, g0, _, hs⟩ := DataW.trod_string Tryz.underlying9 (by exact e0);obtain ⟨t, g1, _, ht⟩ := DataW.trod_string Tryz.underlying9 (by exact e1);have hC : Tryz.prog.cellsOf 9 = 1 := by kernel_rfl
  simp [hC] at g0 g1
  exact ⟨s, t, g0, g1, hs, ht⟩
theorem open_attrs {w : World} {base : Nat} {sp : Nat → Bool} {hd : Bool} {fuel : Nat} {cs : List Value} {y : DataW H × List MemPlace} (h : DataW.trod enc Tryz.prog w base sp hd fuel 22 cs = some y) : ∃ ats v, cs = [v] ∧ RepA w ats v := by
 rcases DataW.trod_slice Tryz.underlying22 h with ⟨rfl, _⟩ | ⟨a, len, cap, elems, rest, n, hn, rfl, _, hb, hl, hm, hlen, hel, _, _⟩
 ·exact ⟨[], _, rfl, RepA.nil _ _ _⟩
 ·have hC : Tryz.prog.cellsOf 53 = 2 := by kernel_rfl
  rw [hC] at hel
  have each : ∀ i, i < len → ∃ x : El.Bytes × El.Bytes, (a.add (i * 2)).spot = none ∧ a.block < w.heap.size ∧ w.cell? ⟨a.block, a.off + i * 2, none⟩ = some (.string ⟨x.1.toArray⟩) ∧ w.cell? ⟨a.block, a.off + i * 2 + 1, none⟩ = some (.string ⟨x.2.toArray⟩) ∧ x.1.length ≤ maxLen ∧ x.2.length ≤ maxLen := by
   intro i hi;have h0 := hel i hi;rw [List.getElem?_eq_getElem (by omega), Option.bind_eq_some_iff] at h0;obtain ⟨cs', hcs, hy⟩ := h0;obtain ⟨c0, c1, rfl, hs, hlt, e0, e1⟩ := cells2 hcs;obtain ⟨s, t, rfl, rfl, hs1, hs2⟩ := open_attr2 hy;obtain ⟨hblk, hoff⟩ := add_parts a (i * 2);rw [hblk, hoff] at e0 e1;rw [hblk] at hlt;exact ⟨(s.data.toList, t.data.toList), hs, hlt, e0, e1, by simpa using hs1, by simpa using hs2⟩
  cases hl0 : len with
  | zero => subst hl0; exact ⟨[], _, rfl, RepA.nil _ _ _⟩
  | succ l =>
   rw [← hl0];have hpos : 0 < len := by omega
   obtain ⟨_, hs0, hlt, _⟩ := each 0 hpos
   have he : ∃ f : Nat → El.Bytes × El.Bytes, ∀ i, i < len → w.cell? ⟨a.block, a.off + i * 2, none⟩ = some (.string ⟨(f i).1.toArray⟩) ∧ w.cell? ⟨a.block, a.off + i * 2 + 1, none⟩ = some (.string ⟨(f i).2.toArray⟩) ∧ (f i).1.length ≤ maxLen ∧ (f i).2.length ≤ maxLen := by
    refine ⟨fun i => if h : i < len then Classical.choose (each i h) else ([], []), fun i hi => ?_⟩;simp only [dif_pos hi];exact (Classical.choose_spec (each i hi)).2.2
   obtain ⟨f, hf⟩ := he;obtain ⟨g, o, s⟩ := a;simp only [Addr.add] at hs0 hlt hf;have hs0 : s = none := by simpa using hs0
   subst hs0;have hln : ((List.range len).map f).length = len := by simp
   refine ⟨(List.range len).map f, _, rfl, _, cap, by rw [hln], ⟨by rw [hln]; omega, by rw [hln]; exact hl⟩, fun x hx => ?_, .inr ⟨g, o, rfl, hlt, fun i hi => ?_⟩⟩
   ·obtain ⟨i, hi, rfl⟩ := List.mem_map.1 hx
    exact (hf i (by simpa using hi)).2.2
   ·have := hf i (by simpa using hi)
    simp only [List.getElem_map, List.getElem_range];exact ⟨this.1, this.2.1⟩
theorem open_elem4 {w : World} {base : Nat} {sp : Nat → Bool} {hd : Bool} {fuel : Nat} {c0 c1 c2 c3 : Value} {y : DataW H × List MemPlace} (h : DataW.trod enc Tryz.prog w base sp hd fuel 25 [c0, c1, c2, c3] = some y) :
  ∃ (s t : ByteArray) (ats : Attrs) (n : Nat) (z : DataW H × List MemPlace), n < fuel ∧ c0 = .string s ∧ c3 = .string t ∧ s.size ≤ maxLen ∧ t.size ≤ maxLen ∧ RepA w ats c1 ∧ DataW.trod enc Tryz.prog w base sp hd n 23 [c2] = some z := by
 obtain ⟨xs, n, hfuel, _, _, hlen, hf⟩ := DataW.trod_struct Tryz.underlying25 h;have e0 := hf 0 _ rfl;have e1 := hf 1 _ rfl;have e2 := hf 2 _ rfl;have e3 := hf 3 _ rfl
 match xs, hlen with
 | [y0, y1, y2, y3], _ =>
  obtain ⟨s, g0, _, hs⟩ := DataW.trod_string Tryz.underlying9 (by exact e0);obtain ⟨t, g3, _, ht⟩ := DataW.trod_string Tryz.underlying9 (by exact e3);obtain ⟨ats, va, g1, hra⟩ := open_attrs (by exact e1);have hC1 : Tryz.prog.cellsOf 9 = 1 := by kernel_rfl
  have hC2 : Tryz.prog.cellsOf 22 = 1 := by kernel_rfl
  have hC3 : Tryz.prog.cellsOf 23 = 1 := by kernel_rfl
  simp [hC1] at g0
  simp [hC2] at g1
  simp [hC1] at g3
  subst g1;refine ⟨s, t, ats, n, y2, by omega, g0, g3, hs, ht, hra, ?_⟩;simpa [hC1, hC2, hC3] using e2
theorem open_elems {w : World} {base : Nat} {sp : Nat → Bool} {hd : Bool} : ∀ (fuel : Nat) (cs : List Value) (y : DataW H × List MemPlace), DataW.trod enc Tryz.prog w base sp hd fuel 23 cs = some y → ∃ es v, cs = [v] ∧ RepE w es v := by
 intro fuel
 induction fuel using Nat.strongRecOn with
 | _ fuel ih =>
  intro cs y h
  rcases DataW.trod_slice Tryz.underlying23 h with ⟨rfl, _⟩ | ⟨a, len, cap, elems, rest, n, hn, rfl, _, hb, hl, hm, hlen, hel, _, _⟩
  ·exact ⟨[], _, rfl, .nil _ _⟩
  ·have hC : Tryz.prog.cellsOf 25 = 4 := by kernel_rfl
   rw [hC] at hel
   have each : ∀ i, i < len → ∃ (e : E) (vs : Value × Value), (a.add (i * 4)).spot = none ∧ a.block < w.heap.size ∧ w.cell? ⟨a.block, a.off + i * 4, none⟩ = some (.string ⟨e.name.toArray⟩) ∧ w.cell? ⟨a.block, a.off + i * 4 + 1, none⟩ = some vs.1 ∧
     w.cell? ⟨a.block, a.off + i * 4 + 2, none⟩ = some vs.2 ∧ w.cell? ⟨a.block, a.off + i * 4 + 3, none⟩ = some (.string ⟨e.text.toArray⟩) ∧ RepV w e vs.1 vs.2 := by
    intro i hi;have h0 := hel i hi;rw [List.getElem?_eq_getElem (by omega), Option.bind_eq_some_iff] at h0;obtain ⟨cs', hcs, hy⟩ := h0;obtain ⟨c0, c1, c2, c3, rfl, hs, hlt, e0, e1, e2, e3⟩ := cells4 hcs;obtain ⟨s, t, ats, m, z, hm', rfl, rfl, hs1, hs2, hra, hz⟩ := open_elem4 hy;obtain ⟨ks, v, hv, hr⟩ := ih m (by omega) _ _ hz;cases hv;obtain ⟨hblk, hoff⟩ := add_parts a (i * 4);rw [hblk, hoff] at e0 e1 e2 e3;rw [hblk] at hlt;exact ⟨.mk s.data.toList ats ks t.data.toList, (c1, c2), hs, hlt, e0, e1, e2, e3, hra, hr, by show s.data.toList.length ≤ maxLen; simpa using hs1, by show t.data.toList.length ≤ maxLen; simpa using hs2⟩
   cases hl0 : len with
   | zero => subst hl0; exact ⟨[], _, rfl, .nil _ _⟩
   | succ l =>
    rw [← hl0];have hpos : 0 < len := by omega
    obtain ⟨_, _, hs0, hlt, _⟩ := each 0 hpos
    have he : ∃ f : Nat → E × Value × Value, ∀ i, i < len → w.cell? ⟨a.block, a.off + i * 4, none⟩ = some (.string ⟨(f i).1.name.toArray⟩) ∧ w.cell? ⟨a.block, a.off + i * 4 + 1, none⟩ = some (f i).2.1 ∧
     w.cell? ⟨a.block, a.off + i * 4 + 2, none⟩ = some (f i).2.2 ∧ w.cell? ⟨a.block, a.off + i * 4 + 3, none⟩ = some (.string ⟨(f i).1.text.toArray⟩) ∧ RepV w (f i).1 (f i).2.1 (f i).2.2 := by
     refine ⟨fun i => if h : i < len then ⟨Classical.choose (each i h), Classical.choose (Classical.choose_spec (each i h))⟩ else ⟨.mk [] [] [] [], .bool false, .bool false⟩, fun i hi => ?_⟩;simp only [dif_pos hi];exact (Classical.choose_spec (Classical.choose_spec (each i hi))).2.2
    obtain ⟨f, hf⟩ := he;obtain ⟨g, o, s⟩ := a;simp only [Addr.add] at hs0 hlt hf;have hs0 : s = none := by simpa using hs0
    subst hs0;have hln : ((List.range len).map fun i => (f i).1).length = len := by simp
    refine ⟨(List.range len).map fun i => (f i).1, _, rfl, ?_⟩
    have := RepE.row (W := w) g o cap ((List.range len).map fun i => (f i).1) (fun i => (f i).2.1) (fun i => (f i).2.2) hlt (by rw [hln]; omega) (fun i hi => by simpa using (hf i (by simpa using hi)).2.2.2.2.2.2)
     (fun i hi => by simpa using (hf i (by simpa using hi)).1) (fun i hi => by simpa using (hf i (by simpa using hi)).2.1) (fun i hi => by simpa using (hf i (by simpa using hi)).2.2.1) (fun i hi => by simpa using (hf i (by simpa using hi)).2.2.2.1)
     (fun i hi => by simpa using (hf i (by simpa using hi)).2.2.2.2.1) (fun i hi => by simpa using (hf i (by simpa using hi)).2.2.2.2.2.1)
    rw [hln] at this;exact this
theorem open_elem {w : World} {base b0 : Nat} {sp : Nat → Bool} {hd : Bool} {v : Value} {d : DataW H} {p : List MemPlace} (hv : Value.okWide Tryz.prog w .any b0 25 v) (h : DataW.Trod enc Tryz.prog w base sp hd 25 v d p) :
  ∃ e va vk, v = ev e va vk ∧ RepV w e va vk := by
 obtain ⟨cs, rfl, hsz⟩ := okWide_struct Tryz.underlying25 hv;have hC : Tryz.prog.cellsOf 25 = 4 := by kernel_rfl
 rw [hC] at hsz;obtain ⟨fuel, hf⟩ := h;obtain ⟨l, rfl⟩ : ∃ l : List Value, cs = l.toArray := ⟨cs.toList, by simp⟩
 match l, hsz with
 | [c0, c1, c2, c3], _ =>
  obtain ⟨s, t, ats, m, z, _, rfl, rfl, hs1, hs2, hra, hz⟩ := open_elem4 hf;obtain ⟨ks, v, hv, hr⟩ := open_elems m _ _ hz;cases hv;exact ⟨.mk s.data.toList ats ks t.data.toList, c1, c2, rfl, hra, hr, by show s.data.toList.length ≤ maxLen; simpa using hs1, by show t.data.toList.length ≤ maxLen; simpa using hs2⟩
end
end Go.Proofs.YtfnjcldgicohaaaGreat
namespace Go.Proofs.YtfnjcldgicohaaaGreat
open Go.RowKit
open El (E Attrs)
def Stab (S : Nat → Prop) (w : World) (P : World → Prop) : Prop := ∀ W', Touch S w W' → P W'
theorem Stab.now {S : Nat → Prop} {w : World} {P : World → Prop} (h : Stab S w P) : P w := h w (Touch.refl _ _)
theorem Touch.join {S S1 S2 : Nat → Prop} {a b c : World} (h : Touch S1 a b) (k : Touch S2 b c) (h1 : ∀ i, i < a.heap.size → S1 i → S i) (h2 : ∀ i, i < a.heap.size → S2 i → S i) : Touch S a c :=
 ⟨k.os.trans h.os, k.tape.trans h.tape, k.output.trans h.output, Nat.le_trans h.size k.size, fun i hi hn =>
  (k.block i (Nat.lt_of_lt_of_le hi h.size) (fun hs => hn (h2 i hi hs))).trans (h.block i hi (fun hs => hn (h1 i hi hs)))⟩
theorem Stab.step {S S1 S2 : Nat → Prop} {w w1 : World} {P : World → Prop} (h : Stab S w P) (ht : Touch S1 w w1) (h1 : ∀ i, i < w.heap.size → S1 i → S i) (h2 : ∀ i, i < w.heap.size → S2 i → S i) : Stab S2 w1 P :=
 fun W' hW => h W' (ht.join hW h1 h2)
theorem Stab.fresh {S : Nat → Prop} {w w1 : World} {P : World → Prop} (h : Stab S w P) (ht : Fresh w w1) : Stab S w1 P := h.step ht (fun _ _ h => h.elim) (fun _ _ h => h)
theorem Stab.mono {S S' : Nat → Prop} {w : World} {P : World → Prop} (h : Stab S w P) (hS : ∀ i, i < w.heap.size → S' i → S i) : Stab S' w P := h.step (Touch.refl (fun _ => False) w) (fun _ _ h => h.elim) hS
theorem Stab.imp {S : Nat → Prop} {w : World} {P Q : World → Prop} (h : Stab S w P) (hPQ : ∀ W, P W → Q W) : Stab S w Q := fun W hW => hPQ W (h W hW)
theorem Stab.and {S : Nat → Prop} {w : World} {P Q : World → Prop} (h : Stab S w P) (h' : Stab S w Q) : Stab S w fun W => P W ∧ Q W := fun W hW => ⟨h W hW, h' W hW⟩
def Made (w w' : World) (P : World → Prop) : Prop := Fresh w w' ∧ Stab (fun k => k < w.heap.size) w' P
def ElsAt (W : World) : List E → List Value → Prop
 | [], cs => cs = []
 | e :: es, cs => ∃ va vk ds, cs = .string ⟨e.name.toArray⟩ :: va :: vk :: .string ⟨e.text.toArray⟩ :: ds ∧ RepV W e va vk ∧ ElsAt W es ds
theorem ElsAt.length {W : World} : ∀ {es : List E} {cs : List Value}, ElsAt W es cs → cs.length = es.length * 4
 | [], cs, h => by rw [show cs = [] from h]; rfl
 | e :: es, cs, ⟨va, vk, ds, h, _, hd⟩ => by
  have := ElsAt.length hd;rw [h];simp only [List.length_cons];omega
theorem ElsAt.append {W : World} : ∀ {es fs : List E} {cs ds : List Value}, ElsAt W es cs → ElsAt W fs ds → ElsAt W (es ++ fs) (cs ++ ds)
 | [], _, cs, _, h, h' => by rw [show cs = [] from h]; exact h'
 | _ :: _, _, _, _, ⟨va, vk, cs, h, hr, hd⟩, h' => ⟨va, vk, cs ++ _, by rw [h]; rfl, hr, hd.append h'⟩
theorem ElsAt.one {W : World} {e : E} {va vk : Value} (h : RepV W e va vk) : ElsAt W [e] [.string ⟨e.name.toArray⟩, va, vk, .string ⟨e.text.toArray⟩] := ⟨va, vk, [], rfl, h, rfl⟩
theorem ElsAt.get {W : World} : ∀ {es : List E} {cs : List Value}, ElsAt W es cs → ∀ i (hi : i < es.length), ∃ va vk, cs[i * 4]? = some (.string ⟨es[i].name.toArray⟩) ∧ cs[i * 4 + 1]? = some va ∧ cs[i * 4 + 2]? = some vk ∧ cs[i * 4 + 3]? = some (.string ⟨es[i].text.toArray⟩) ∧ RepV W es[i] va vk
 | [], _, _, i, hi => by simp at hi
 | e :: es, cs, ⟨va, vk, ds, h, hr, hd⟩, i, hi => by
  subst h;cases i with
  | zero => exact ⟨va, vk, rfl, rfl, rfl, rfl, hr⟩
  | succ i =>
   obtain ⟨a, k, g0, g1, g2, g3, g4⟩ := hd.get i (by simpa using hi);refine ⟨a, k, ?_, ?_, ?_, ?_, g4⟩
   ·rw [show (i + 1) * 4 = i * 4 + 4 by omega]; exact g0
   ·rw [show (i + 1) * 4 + 1 = i * 4 + 1 + 4 by omega]; exact g1
   ·rw [show (i + 1) * 4 + 2 = i * 4 + 2 + 4 by omega]; exact g2
   ·rw [show (i + 1) * 4 + 3 = i * 4 + 3 + 4 by omega]; exact g3
theorem ElsAt.rep {W : World} {es : List E} {cs : List Value} {g cap : Nat} (h : ElsAt W es cs) (hg : g < W.heap.size) (hl : es.length ≤ maxLen) (hc : ∀ j u, cs[j]? = some u → W.cell? ⟨g, j, none⟩ = some u) : RepE W es (.slice (some ⟨g, 0, none⟩) es.length cap) := by
 refine RepE.row g 0 cap es (fun i => (cs[i * 4 + 1]?).getD (.bool false)) (fun i => (cs[i * 4 + 2]?).getD (.bool false)) hg hl ?_ ?_ ?_ ?_ ?_ ?_ ?_
 all_goals (intro i hi; obtain ⟨va, vk, g0, g1, g2, g3, g4⟩ := h.get i hi)
 ·exact g4.2.2
 ·rw [Nat.zero_add]; exact hc _ _ g0
 ·rw [Nat.zero_add, g1]; exact hc _ _ g1
 ·rw [Nat.zero_add, g2]; exact hc _ _ g2
 ·rw [Nat.zero_add]; exact hc _ _ g3
 ·rw [g1]; exact g4.1
 ·rw [g2]; exact g4.2.1
theorem ElsAt.own {W : World} {es : List E} {cs : List Value} {B t : Nat} {v : Value} (h : ElsAt W es cs) (ho : W.ownsRow B t 4 v es.length cs) : RepE W es v := by
 rcases ho.2 with ⟨rfl, h0⟩ | ⟨g, cap, cur, rfl, hB, hb, h1, h2, _⟩
 ·rw [List.length_eq_zero_iff.1 h0]
  exact .nil _ _
 ·exact h.rep (ho.lt g rfl).2 (Nat.le_trans h1 h2) fun j u hu => by
   have := ho.cells (g := g) rfl j u hu;rw [Addr.add_mid, Nat.zero_add] at this;exact this
theorem own_slc {W : World} {B e size n : Nat} {v : Value} {xs : List Value} (h : W.ownsRow B e size v n xs) : ∃ A c, v = .slice A n c := by
 rcases h.2 with ⟨h1, h2⟩ | ⟨g, cap, cur, h1, _⟩
 ·exact ⟨none, 0, by rw [h1, h2]⟩
 ·exact ⟨_, _, h1⟩
def GrowE (B : Nat) (w : World) (es : List E) (v : Value) : Prop := B ≤ w.heap.size ∧ ∃ cs, w.ownsRow B 25 4 v es.length cs ∧ Stab (fun k => v.ownBlock = some k ∨ k < B) w fun W => ElsAt W es cs
theorem GrowE.nil {B : Nat} {w : World} (hB : B ≤ w.heap.size) : GrowE B w [] (.slice none 0 0) := ⟨hB, [], World.ownsRow_nil _ _ _ _, fun _ _ => rfl⟩
theorem GrowE.own_lt {B : Nat} {w : World} {es : List E} {v : Value} (h : GrowE B w es v) : ∀ k, v.ownBlock = some k → B ≤ k ∧ k < w.heap.size := fun k hk => by
 obtain ⟨_, cs, h1, _⟩ := h;exact h1.lt k hk
theorem GrowE.slice {B : Nat} {w : World} {es : List E} {v : Value} (h : GrowE B w es v) : ∃ A cap, v = .slice A es.length cap := by
 obtain ⟨_, cs, h1, _⟩ := h;exact own_slc h1
theorem GrowE.mv {B : Nat} {w w1 : World} {es : List E} {v : Value} {S : Nat → Prop} (h : GrowE B w es v) (ht : Touch S w w1) (hS : ∀ k, S k → k < w.heap.size → k < B) : GrowE B w1 es v := by
 obtain ⟨hB, cs, h1, h2⟩ := h;refine ⟨Nat.le_trans hB ht.size, cs, ownsRow_touch h1 ht fun k hk hs => ?_, h2.step ht (fun i hi hs => .inr (hS i hs hi)) (fun _ _ h => h)⟩;have h3 := h1.lt k hk;have := hS k hs h3.2;omega
theorem GrowE.fresh {B : Nat} {w w1 : World} {es : List E} {v : Value} (h : GrowE B w es v) (ht : Fresh w w1) : GrowE B w1 es v := h.mv ht fun _ h => h.elim
theorem GrowE.rep {B : Nat} {w : World} {es : List E} {v : Value} (h : GrowE B w es v) : RepE w es v := by
 obtain ⟨_, cs, h1, h2⟩ := h;exact h2.now.own h1
theorem GrowE.done {B : Nat} {w : World} {es : List E} {v : Value} (h : GrowE B w es v) : Stab (fun k => k < B) w fun W => RepE W es v := fun _ hW => (h.mv hW fun _ h _ => h).rep
theorem RepE.oneCell {W : World} {es : List E} {v : Value} (h : RepE W es v) : v.oneCell' = true := by
 obtain ⟨A, cap, rfl⟩ := h.slice;rfl
theorem RepA.oneCell {W : World} {ats : Attrs} {v : Value} (h : RepA W ats v) : v.oneCell' = true := by
 obtain ⟨A, cap, rfl⟩ := h.slice;rfl
section
variable {w : World} {ops : Array Oper} {rest : List Oper} {o : Oper} {a : Act} {Q : Exit → Act → World → Prop}
theorem wpList_append_elem (hgd : o.guard = none) (s x : Operand)
  (ho : o.op = .call { callee := .builtin .append, args := #[s, x], argTypes := #[23, 23] })
  {B n g : Nat} {es : List E} {v : Value} (h : GrowE B w es v) (hn : es.length = n) (hs : a.eval s = v) (e : E) {va vk : Value} (hb : Blk w g 25 #[.string ⟨e.name.toArray⟩, va, vk, .string ⟨e.text.toArray⟩]) (hx : a.eval x = .slice (some ⟨g, 0, none⟩) 1 1)
  (w0 : Nat) (hB : B ≤ w0) (hown : ∀ k, v.ownBlock = some k → k < w0) (hrv : Stab (fun k => k < w0) w fun W => RepV W e va vk) (hlen : n < 2 ^ 40)
  (hK : ∀ A cp w', GrowE B w' (es ++ [e]) (.slice A (n + 1) cp) → Touch (fun k => v.ownBlock = some k) w w' → ((Value.slice A (n + 1) cp).ownBlock = v.ownBlock ∨ (Value.slice A (n + 1) cp).ownBlock = some w.heap.size) → wpList Tryz.prog ops Q rest (a.put o.dst (.slice A (n + 1) cp)) w') : wpList Tryz.prog ops Q (o :: rest) a w := by
 subst hn;obtain ⟨hBw, cs, h1, h2⟩ := h;obtain ⟨i, hi, hz0, hz1, hz2⟩ := info_parts infoElem;have hv := hrv.now
 have h3 : ∀ u ∈ [Value.string ⟨e.name.toArray⟩, va, vk, .string ⟨e.text.toArray⟩], u.oneCell' = true := by
  intro u hu;simp only [List.mem_cons, List.not_mem_nil, or_false] at hu
  rcases hu with rfl | rfl | rfl | rfl
  ·rfl
  ·exact hv.1.oneCell
  ·exact hv.2.1.oneCell
  ·rfl
 refine wpList_append_src _ hgd s x 23 ho B 25 i _ 4 80 Tryz.underlying23 hi hz0 hz1 hz2 rfl (by decide) v es.length cs hs h1 _ 1 _ hx (Src.of_blk hb rfl) h3 (by simp only [maxLen]; omega) (by omega) hBw fun v' w' ho' hgr hv' => ?_
 obtain ⟨A, cp, rfl⟩ := own_slc ho';have ht : Touch (fun k => v.ownBlock = some k) w w' := Touch.grown (Touch.refl _ _) hgr fun k hk => .inl hk
 refine hK A cp w' ⟨Nat.le_trans hBw hgr.size, _, by rw [List.length_append]; exact ho', ?_⟩ ht hv'
 have hS : ∀ i, i < w.heap.size → ((Value.slice A (es.length + 1) cp).ownBlock = some i ∨ i < B) → (v.ownBlock = some i ∨ i < B) := fun i hi hs => by
  rcases hs with hs | hs
  ·rcases hv' with h6 | h6 <;> rw [h6] at hs
   ·exact .inl hs
   ·cases hs; omega
  ·exact .inr hs
 refine ((h2.step ht (fun i _ hs => .inl hs) hS).and (hrv.step ht (fun i hi hs => hown i hs) fun i hi hs => ?_)).imp fun W ⟨h6, h7⟩ => h6.append (ElsAt.one h7)
 rcases hS i hi hs with h6 | h6
 ·exact hown i h6
 ·omega
end
theorem str_decT (a b : List UInt8) (p : Bool) (h : (a == b) = p) : ((⟨a.toArray⟩ : ByteArray) == (⟨b.toArray⟩ : ByteArray)) = p := by
 rw [str_eq', ← h]
theorem xhas1_any (x nm : List UInt8) (y : ByteArray) (p : Nat) (w : World) (hp : w.cell? ⟨p, 0, none⟩ = some (.string ⟨nm.toArray⟩)) :
  Calls Tryz.prog 70 #[.agg #[.string ⟨x.toArray⟩, .string y], .pointer (some ⟨p, 0, none⟩)] w fun e w' => e = .returned (.bool (x == nm)) ∧ Fresh w w' := by
 have hlt := bL hp;go_enter Tryz.func70, Tryz.ntmps70;go_wp2_with fail
 go_ret;exact ⟨rfl, frR⟩
theorem any_snoc {α : Type} (l : List α) (j : Nat) (h : j < l.length) (p : α → Bool) : (l.take (j + 1)).any p = ((l.take j).any p || p l[j]) := by
 rw [List.take_add_one, List.getElem?_eq_getElem h, List.any_append]; simp only [Option.toList_some, List.any_cons, List.any_nil, Bool.or_false]
theorem xindex_any (ats : Attrs) (nm : List UInt8) (p : Nat) (va : Value) (w : World) (ha : RepA w ats va) (hp : w.cell? ⟨p, 0, none⟩ = some (.string ⟨nm.toArray⟩)) :
  Calls Tryz.prog 92 #[va, .func (.func 70) #[] #[.pointer (some ⟨p, 0, none⟩)]] w fun e w' => ∃ k : Int, e = .returned (.int .i64 k) ∧ decide (0 ≤ k) = ats.any (fun x => x.1 == nm) ∧ Fresh w w' := by
 have hl1 : ats.length ≤ maxLen := by obtain ⟨_, _, _, h, _⟩ := ha; exact h.1
 unfold maxLen at hl1;obtain ⟨A, ca, rfl⟩ := ha.slice;have HA := hid ha;have HP := hid hp;clear ha hp;go_enter Tryz.func92, Tryz.ntmps92;go_wp2_with fail
 go_loopw [8] (fun i wr => ∃ j : Nat, i = .int .i64 j ∧ j ≤ ats.length ∧ Hid ((ats.take j).any (fun x => x.1 == nm) = false) ∧ Hid (Fresh w wr)) (fun i _ => ats.length - (intOf i).toNat)
 case atStart => exact ⟨0, rfl, Nat.zero_le _, by simp [Hid], Touch.refl _ _⟩
 case round =>
  obtain ⟨j, rfl, hj, HT, HF⟩ := hrel
  by_cases c1 : j < ats.length
  ·have d1 : decide ((j : Int) < (ats.length : Int)) = true := dT (by omega)
   have d1' : (j : Int) < (ats.length : Int) := by omega
   obtain ⟨g, o, rfl, hg, m0, m1, _, _⟩ := HA.out.get j c1;have e0 := HF.out.cell m0 (fun h => h);have f0 := HF.out.cell m1 (fun h => h);clear m0 m1;have HS := hid (any_snoc ats j c1 (fun x => x.1 == nm));have HIN := hid (show (ats[j].1 == nm) = true → ats.any (fun x => x.1 == nm) = true from fun h => List.any_eq_true.2 ⟨ats[j], List.getElem_mem c1, h⟩);generalize ats[j] = x at *;go_wp2_with fail
   refine (xhas1_any x.1 nm _ p _ (HF.out.cell HP.out fun h => h)).mono ?_;rintro _ w1 ⟨rfl, hf⟩;have HF1 := hid (HF.out.trans hf);clear hf;cases h4 : x.1 == nm with
   | true =>
    have HI2 := hid (HIN.out h4);clear h4;go_wp2_with fail
    go_ret;exact ⟨_, rfl, by rw [HI2.out]; exact dT (by omega), HF1.out⟩
   | false =>
    have HS2 := hid (show (ats.take (j + 1)).any (fun x => x.1 == nm) = false by rw [HS.out, HT.out, h4]; rfl);clear h4;go_wp2_with fail
    go_roundw
    case rel => exact ⟨j + 1, by go_num, c1, HS2, HF1⟩
    case measure => simp [intOf]; omega
  ·have d1 : decide ((j : Int) < (ats.length : Int)) = false := dF (by omega)
   obtain rfl : j = ats.length := by omega
   go_wp2_with fail
   go_ret;refine ⟨_, rfl, ?_, HF.out⟩;have := HT.out;rw [List.take_length] at this;rw [this]; rfl
theorem xcontains_any (ats : Attrs) (nm : List UInt8) (p : Nat) (va : Value) (w : World) (ha : RepA w ats va) (hp : w.cell? ⟨p, 0, none⟩ = some (.string ⟨nm.toArray⟩)) :
  Calls Tryz.prog 69 #[va, .func (.func 70) #[] #[.pointer (some ⟨p, 0, none⟩)]] w fun e w' => e = .returned (.bool (ats.any (fun x => x.1 == nm))) ∧ Fresh w w' := by
 obtain ⟨A, ca, rfl⟩ := ha.slice;have HA := hid ha;have HP := hid hp;clear ha hp;go_enter Tryz.func69, Tryz.ntmps69;go_wp2_with fail
 refine (xindex_any ats nm p _ _ HA.out HP.out).mono ?_;rintro _ w1 ⟨k, rfl, hk, hf⟩;have HF := hid hf;have HK := hid hk;clear hf hk;go_wp2_with fail
 go_ret;exact ⟨ret_bool' _ _ HK.out, HF.out⟩
theorem xhas_any (ats : Attrs) (nm : List UInt8) (va : Value) (w : World) (ha : RepA w ats va) :
  Calls Tryz.prog 41 #[va, .string ⟨nm.toArray⟩] w fun e w' => e = .returned (.bool (ats.any (fun x => x.1 == nm))) ∧ Fresh w w' := by
 obtain ⟨A, ca, rfl⟩ := ha.slice;have HA := hid ha;clear ha;go_enter Tryz.func41, Tryz.ntmps41;go_wp2_with fail
 refine (xcontains_any ats nm w.heap.size _ _ (by exact HA.out.fresh frR) (by exact (Blk.new _ _ _).cell 0)).mono ?_;rintro _ w1 ⟨rfl, hf⟩;have HF := hid (show Fresh w w1 from preA hf);clear hf;go_wp2_with fail
 go_ret;exact ⟨rfl, HF.out⟩
end Go.Proofs.YtfnjcldgicohaaaGreat
