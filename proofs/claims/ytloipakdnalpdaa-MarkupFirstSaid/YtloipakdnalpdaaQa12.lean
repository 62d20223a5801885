/- Part 12 of 20 of a proof; its texts, joined: ElM, XmP, ElR, XmF, ElP. No condition. -/
import Derived.Test.YtloipakdnalpdaaQa1
import Derived.Test.YtloipakdnalpdaaQa5
import Derived.Test.YtloipakdnalpdaaQa3
import Derived.Test.YtloipakdnalpdaaQa2
set_option maxRecDepth 100000
set_option maxHeartbeats 3000000
namespace Go.Proofs.Ytloipakdnalpdaa.El
abbrev Bytes := List UInt8
abbrev Attrs := List (Bytes × Bytes)
inductive E where
 | mk (name : Bytes) (attrs : Attrs) (kids : List E) (text : Bytes)
namespace E
def name : E → Bytes | mk n _ _ _ => n
def attrs : E → Attrs | mk _ a _ _ => a
def kids : E → List E | mk _ _ k _ => k
def text : E → Bytes | mk _ _ _ t => t
end E
theorem E.eta (e : E) : e = .mk e.name e.attrs e.kids e.text := by cases e; rfl
mutual
def count : E → Nat
 | .mk _ _ ks _ => 1 + countL ks
def countL : List E → Nat
 | [] => 0
 | n :: ns => count n + countL ns
end
mutual
def depth : E → Nat
 | .mk _ _ ks _ => depthL ks + 1
def depthL : List E → Nat
 | [] => 0
 | n :: ns => max (depth n) (depthL ns)
end
theorem count_pos (n : E) : 0 < count n := by cases n; rw [count]; omega
theorem depth_pos (n : E) : 0 < depth n := by cases n; rw [depth]; omega
theorem count_kids (n : E) : count n = 1 + countL n.kids := by cases n; rw [count]; rfl
theorem depth_kids (n : E) : depth n = depthL n.kids + 1 := by cases n; rw [depth]; rfl
theorem countL_take (l : List E) (i : Nat) (h : i < l.length) : countL (l.take (i + 1)) = countL (l.take i) + count l[i] := by
 induction l generalizing i with
 | nil => simp at h
 | cons x l ih =>
  cases i with
  | zero => simp [countL]
  | succ i =>
   simp only [List.take_succ_cons, countL, List.getElem_cons_succ];rw [ih i (by simpa using h)]; omega
theorem countL_app (l m : List E) : countL (l ++ m) = countL l + countL m := by
 induction l with
 | nil => simp [countL]
 | cons x l ih => rw [List.cons_append, countL, countL, ih]; omega
theorem depthL_app (l m : List E) : depthL (l ++ m) = max (depthL l) (depthL m) := by
 induction l with
 | nil => simp [depthL]
 | cons x l ih => rw [List.cons_append, depthL, depthL, ih]; omega
theorem depthL_take (l : List E) (i : Nat) (h : i < l.length) : depthL (l.take (i + 1)) = max (depthL (l.take i)) (depth l[i]) := by
 rw [List.take_add_one, List.getElem?_eq_getElem h, depthL_app];simp [depthL]
theorem countL_le (l : List E) (i : Nat) : countL (l.take i) ≤ countL l := by
 induction l generalizing i with
 | nil => simp [countL]
 | cons x l ih =>
  cases i with
  | zero => simp [countL]
  | succ i => simp only [List.take_succ_cons, countL]; have := ih i; omega
theorem count_mem {l : List E} {n : E} (h : n ∈ l) : count n ≤ countL l := by
 induction l with
 | nil => cases h
 | cons x l ih =>
  rw [countL]
  rcases List.mem_cons.1 h with rfl | h
  ·omega
  ·have := ih h; omega
theorem depth_mem {l : List E} {n : E} (h : n ∈ l) : depth n ≤ depthL l := by
 induction l with
 | nil => cases h
 | cons x l ih =>
  rw [depthL]
  rcases List.mem_cons.1 h with rfl | h
  ·omega
  ·have := ih h; omega
theorem countL_len (l : List E) : l.length ≤ countL l := by
 induction l with
 | nil => simp [countL]
 | cons x l ih => rw [countL]; have := count_pos x; simp; omega
theorem E.ind {p : E → Prop} (h : ∀ n, (∀ m ∈ n.kids, p m) → p n) (n : E) : p n := by
 have : ∀ k n, count n ≤ k → p n := by
  intro k
  induction k with
  | zero => intro n hn; have := count_pos n; omega
  | succ k ih =>
   intro n hn;refine h n fun m hm => ih m ?_
   have := count_mem hm;have := count_kids n;omega
 exact this _ n (Nat.le_refl _)
def letter (b : UInt8) : Bool := (decide (97 ≤ b) && decide (b ≤ 122)) || (decide (65 ≤ b) && decide (b ≤ 90))
def inner (b : UInt8) : Bool := letter b || (decide (48 ≤ b) && decide (b ≤ 57)) || b == 45
def printable (b : UInt8) : Bool := decide (32 ≤ b) && decide (b ≤ 126)
def nameOK : Bytes → Bool
 | [] => false
 | b :: s => letter b && s.all inner
def valueOK (s : Bytes) : Bool := s.all printable && decide (s.length ≤ 200)
def attrsOK (a : Attrs) : Bool := a.all (fun x => nameOK x.1 && valueOK x.2) && decide (a.map (·.1)).Nodup
def ownOK (e : E) : Bool := nameOK e.name && valueOK e.text && (e.text.isEmpty || e.kids.isEmpty) && decide (e.attrs.length ≤ 8) && attrsOK e.attrs
mutual
def proper : E → Bool
 | .mk n a ks t => ownOK (.mk n a ks t) && properL ks
def properL : List E → Bool
 | [] => true
 | x :: xs => proper x && properL xs
end
def valid (e : E) : Bool := proper e && decide (count e ≤ 3000) && decide (depth e ≤ 64)
theorem proper_eq (e : E) : proper e = (ownOK e && properL e.kids) := by cases e; rw [proper]; rfl
theorem properL_all (l : List E) : properL l = l.all proper := by
 induction l with
 | nil => rw [properL]; rfl
 | cons x l ih => rw [properL, ih, List.all_cons]
mutual
def eqE : E → E → Bool
 | .mk n a ks t, .mk n' a' ks' t' => n == n' && a == a' && t == t' && eqL ks ks'
def eqL : List E → List E → Bool
 | [], [] => true
 | n :: ns, m :: ms => eqE n m && eqL ns ms
 | _, _ => false
end
theorem eqE_eq (n m : E) : eqE n m = ((n.name == m.name) && (n.attrs == m.attrs) && (n.text == m.text) && eqL n.kids m.kids) := by
 cases n; cases m; rw [eqE]; rfl
theorem eqE_iff (n : E) : ∀ m, eqE n m = true ↔ n = m := by
 induction n using E.ind with
 | h n ih =>
  intro m
  have hL : ∀ (l l' : List E), (∀ x ∈ l, ∀ y, eqE x y = true ↔ x = y) → (eqL l l' = true ↔ l = l') := by
   intro l
   induction l with
   | nil => intro l' _; cases l' <;> simp [eqL]
   | cons x l ihl =>
    intro l' h;cases l' with
    | nil => simp [eqL]
    | cons y l' =>
     rw [eqL, Bool.and_eq_true, h x (by simp) y, ihl l' (fun z hz => h z (by simp [hz]))];simp
  rw [eqE_eq, Bool.and_eq_true, Bool.and_eq_true, Bool.and_eq_true, hL n.kids m.kids ih, beq_iff_eq, beq_iff_eq, beq_iff_eq, E.eta n, E.eta m];simp [E.name, E.attrs, E.kids, E.text]
  constructor
  ·rintro ⟨⟨⟨h1, h2⟩, h3⟩, h4⟩; exact ⟨h1, h2, h4, h3⟩
  ·rintro ⟨h1, h2, h4, h3⟩; exact ⟨⟨⟨h1, h2⟩, h3⟩, h4⟩
theorem eqE_self (n : E) : eqE n n = true := (eqE_iff n n).2 rfl
theorem eqL_length : ∀ (l m : List E), l.length ≠ m.length → eqL l m = false
 | [], [], h => absurd rfl h
 | [], _ :: _, _ => by rw [eqL] <;> simp
 | _ :: _, [], _ => by rw [eqL] <;> simp
 | x :: l, y :: m, h => by rw [eqL, eqL_length l m (by simpa using h), Bool.and_false]
end Go.Proofs.Ytloipakdnalpdaa.El
namespace Go.Proofs.Ytloipakdnalpdaa.El
def escB (b : UInt8) : Bytes := if b = 38 then [38, 97, 109, 112, 59] else if b = 60 then [38, 108, 116, 59] else if b = 62 then [38, 103, 116, 59] else if b = 34 then [38, 113, 117, 111, 116, 59] else [b]
def escL (s : Bytes) : Bytes := s.flatMap escB
theorem escL_snoc (s : Bytes) (b : UInt8) : escL (s ++ [b]) = escL s ++ escB b := by unfold escL; rw [List.flatMap_append]; simp
theorem escL_nil : escL [] = [] := rfl
def attrW (a : Bytes × Bytes) : Bytes := 32 :: a.1 ++ [61, 34] ++ escL a.2 ++ [34]
def attrsW (l : Attrs) : Bytes := l.flatMap attrW
theorem attrsW_snoc (l : Attrs) (j : Nat) (h : j < l.length) : attrsW (l.take (j + 1)) = attrsW (l.take j) ++ attrW l[j] := by
 unfold attrsW; rw [List.take_add_one, List.getElem?_eq_getElem h, List.flatMap_append]; simp
theorem attrsW_le (l : Attrs) (j : Nat) : (attrsW (l.take j)).length ≤ (attrsW l).length := by
 have : attrsW l = attrsW (l.take j) ++ attrsW (l.drop j) := by unfold attrsW; rw [← List.flatMap_append, List.take_append_drop]
 rw [this, List.length_append]; omega
mutual
def writeE : E → Bytes
 | .mk n a ks t => 60 :: n ++ attrsW a ++ (if t.isEmpty && ks.isEmpty then [47, 62] else 62 :: escL t ++ writeL ks ++ ([60, 47] ++ n ++ [62]))
def writeL : List E → Bytes
 | [] => []
 | x :: xs => writeE x ++ writeL xs
end
theorem writeL_map (l : List E) : writeL l = l.flatMap writeE := by
 induction l with
 | nil => rw [writeL]; rfl
 | cons x l ih => rw [writeL, ih, List.flatMap_cons]
theorem writeL_snoc (l : List E) (j : Nat) (h : j < l.length) : writeL (l.take (j + 1)) = writeL (l.take j) ++ writeE l[j] := by
 rw [writeL_map, writeL_map, List.take_add_one, List.getElem?_eq_getElem h, List.flatMap_append]; simp
theorem writeL_le (l : List E) (j : Nat) : (writeL (l.take j)).length ≤ (writeL l).length := by
 have : writeL l = writeL (l.take j) ++ writeL (l.drop j) := by rw [writeL_map, writeL_map, writeL_map, ← List.flatMap_append, List.take_append_drop]
 rw [this, List.length_append]; omega
end Go.Proofs.Ytloipakdnalpdaa.El
namespace Go.Proofs.Ytloipakdnalpdaa
open Go.ChangeShapes Go.WideShapes Go.ChangeAt Go.RowKit
open El (E Attrs)
theorem infoElem : (Try.prog.info? 30).map (fun i => (i.zero, i.size, i.bytes)) = some (some (.agg #[.string ⟨#[]⟩, .slice none 0 0, .slice none 0 0, .string ⟨#[]⟩]), 4, 80) := by kernel_rfl
theorem infoAttr : (Try.prog.info? 51).map (fun i => (i.zero, i.size, i.bytes)) = some (some (.agg #[.string ⟨#[]⟩, .string ⟨#[]⟩]), 2, 32) := by kernel_rfl
def RepA (W : World) (ats : Attrs) (v : Value) : Prop := ∃ A cap, v = .slice A ats.length cap ∧ (ats.length ≤ maxLen ∧ ats.length ≤ cap) ∧ (∀ x ∈ ats, x.1.length ≤ maxLen ∧ x.2.length ≤ maxLen) ∧
 (ats = [] ∨ ∃ g o, A = some ⟨g, o, none⟩ ∧ g < W.heap.size ∧ ∀ i (hi : i < ats.length), W.cell? ⟨g, o + i * 2, none⟩ = some (.string ⟨ats[i].1.toArray⟩) ∧ W.cell? ⟨g, o + i * 2 + 1, none⟩ = some (.string ⟨ats[i].2.toArray⟩))
theorem RepA.nil (W : World) (A : Option Addr) (cap : Nat) : RepA W [] (.slice A 0 cap) := ⟨A, cap, rfl, ⟨Nat.zero_le _, Nat.zero_le _⟩, (fun _ h => by cases h), .inl rfl⟩
theorem RepA.fresh {W W' : World} {ats : Attrs} {v : Value} (h : RepA W ats v) (hf : Fresh W W') : RepA W' ats v := by
 obtain ⟨A, cap, h1, h2, h3, h4⟩ := h;refine ⟨A, cap, h1, h2, h3, h4.imp id ?_⟩;rintro ⟨g, o, hA, hg, hc⟩;exact ⟨g, o, hA, Nat.lt_of_lt_of_le hg hf.size, fun i hi => ⟨hf.cell (hc i hi).1 (fun h => h), hf.cell (hc i hi).2 (fun h => h)⟩⟩
theorem RepA.slice {W : World} {ats : Attrs} {v : Value} (h : RepA W ats v) : ∃ A cap, v = .slice A ats.length cap := by
 obtain ⟨A, cap, h1, _⟩ := h;exact ⟨A, cap, h1⟩
theorem RepA.get {W : World} {ats : Attrs} {A : Option Addr} {len cap : Nat} (h : RepA W ats (.slice A len cap)) (i : Nat) (hi : i < ats.length) :
  ∃ g o, A = some ⟨g, o, none⟩ ∧ g < W.heap.size ∧ W.cell? ⟨g, o + i * 2, none⟩ = some (.string ⟨ats[i].1.toArray⟩) ∧ W.cell? ⟨g, o + i * 2 + 1, none⟩ = some (.string ⟨ats[i].2.toArray⟩) ∧ ats[i].1.length ≤ maxLen ∧ ats[i].2.length ≤ maxLen := by
 obtain ⟨A', cap', h1, h2, h3, h4⟩ := h;cases h1
 rcases h4 with h4 | ⟨g, o, hA, hg, hc⟩
 ·rw [h4] at hi; simp at hi
 ·exact ⟨g, o, hA, hg, (hc i hi).1, (hc i hi).2, h3 _ (List.getElem_mem hi)⟩
inductive RepE (W : World) : List E → Value → Prop
 | nil (A : Option Addr) (cap : Nat) : RepE W [] (.slice A 0 cap)
 | row (g o cap : Nat) (es : List E) (al sl : Nat → Value) (hg : g < W.heap.size) (hl : es.length ≤ maxLen) (ht : ∀ i (hi : i < es.length), es[i].name.length ≤ maxLen ∧ es[i].text.length ≤ maxLen)
   (h0 : ∀ i (hi : i < es.length), W.cell? ⟨g, o + i * 4, none⟩ = some (.string ⟨es[i].name.toArray⟩))
   (h1 : ∀ i, i < es.length → W.cell? ⟨g, o + i * 4 + 1, none⟩ = some (al i))
   (h2 : ∀ i, i < es.length → W.cell? ⟨g, o + i * 4 + 2, none⟩ = some (sl i))
   (h3 : ∀ i (hi : i < es.length), W.cell? ⟨g, o + i * 4 + 3, none⟩ = some (.string ⟨es[i].text.toArray⟩))
   (ha : ∀ i (hi : i < es.length), RepA W es[i].attrs (al i)) (hk : ∀ i (hi : i < es.length), RepE W es[i].kids (sl i)) : RepE W es (.slice (some ⟨g, o, none⟩) es.length cap)
theorem RepE.fresh {W W' : World} {es : List E} {v : Value} (h : RepE W es v) (hf : Fresh W W') : RepE W' es v := by
 induction h with
 | nil A cap => exact .nil A cap
 | row g o cap es al sl hg hl ht h0 h1 h2 h3 ha hk ih =>
  exact .row g o cap es al sl (Nat.lt_of_lt_of_le hg hf.size) hl ht (fun i hi => hf.cell (h0 i hi) (fun h => h)) (fun i hi => hf.cell (h1 i hi) (fun h => h)) (fun i hi => hf.cell (h2 i hi) (fun h => h)) (fun i hi => hf.cell (h3 i hi) (fun h => h)) (fun i hi => (ha i hi).fresh hf) ih
theorem RepE.slice {W : World} {es : List E} {v : Value} (h : RepE W es v) : ∃ A cap, v = .slice A es.length cap := by
 cases h with
 | nil A cap => exact ⟨A, cap, rfl⟩
 | row g o cap => exact ⟨_, cap, rfl⟩
theorem RepE.len {W : World} {es : List E} {v : Value} (h : RepE W es v) : es.length ≤ maxLen := by
 cases h with
 | nil A cap => exact Nat.zero_le _
 | row g o cap _ al sl hg hl => exact hl
def RepV (W : World) (e : E) (va vk : Value) : Prop := RepA W e.attrs va ∧ RepE W e.kids vk ∧ e.name.length ≤ maxLen ∧ e.text.length ≤ maxLen
abbrev ev (e : E) (va vk : Value) : Value := .agg #[.string ⟨e.name.toArray⟩, va, vk, .string ⟨e.text.toArray⟩]
theorem RepV.fresh {W W' : World} {e : E} {va vk : Value} (h : RepV W e va vk) (hf : Fresh W W') : RepV W' e va vk := ⟨h.1.fresh hf, h.2.1.fresh hf, h.2.2⟩
theorem RepE.get {W : World} {es : List E} {A : Option Addr} {len cap : Nat} (h : RepE W es (.slice A len cap)) (i : Nat) (hi : i < es.length) :
  ∃ g o va vk, A = some ⟨g, o, none⟩ ∧ g < W.heap.size ∧ W.cell? ⟨g, o + i * 4, none⟩ = some (.string ⟨es[i].name.toArray⟩) ∧ W.cell? ⟨g, o + i * 4 + 1, none⟩ = some va ∧ W.cell? ⟨g, o + i * 4 + 2, none⟩ = some vk ∧
   W.cell? ⟨g, o + i * 4 + 3, none⟩ = some (.string ⟨es[i].text.toArray⟩) ∧ RepV W es[i] va vk := by
 generalize hv : Value.slice A len cap = v at h;cases h with
 | nil A cap => simp at hi
 | row g o cap _ al sl hg hl ht h0 h1 h2 h3 ha hk =>
  cases hv;exact ⟨g, o, al i, sl i, rfl, hg, h0 i hi, h1 i hi, h2 i hi, h3 i hi, ha i hi, hk i hi, ht i hi⟩
theorem cells2 {W : World} {base : Nat} {a : Addr} {cs : List Value} (h : W.cells? base a 2 = some cs) : ∃ c0 c1, cs = [c0, c1] ∧ a.spot = none ∧ a.block < W.heap.size ∧ W.cell? ⟨a.block, a.off, none⟩ = some c0 ∧ W.cell? ⟨a.block, a.off + 1, none⟩ = some c1 := by
 obtain ⟨_, hl, hc⟩ := World.cells?_some h
 match cs, hl with
 | [c0, c1], _ =>
  have e0 := hc 0 (by decide);have e1 := hc 1 (by decide);obtain ⟨g, o, s⟩ := a
  have hs : s = none := by
   cases s with
   | none => rfl
   | some x =>
    simp only [Addr.add, if_true, List.getElem?_cons_zero] at e0;unfold World.cell? at e0;split at e0
    ·simp at e0
    ·cases e0
  subst hs;have hlt := bL (a := ⟨g, o, none⟩) (v := c0) (by simpa [Addr.add] using e0);exact ⟨c0, c1, rfl, rfl, hlt, by simpa [Addr.add] using e0, by simpa [Addr.add] using e1⟩
theorem add_parts (a : Addr) (k : Nat) : (a.add k).block = a.block ∧ (a.add k).off = a.off + k := by
 unfold Addr.add;split
 ·exact ⟨rfl, by simp [*]⟩
 ·exact ⟨rfl, rfl⟩
section
variable {H : Type} {enc : TypeId × Value → H}
theorem open_attr2 {w : World} {base : Nat} {sp : Nat → Bool} {hd : Bool} {fuel : Nat} {c0 c1 : Value} {y : DataW H × List MemPlace} (h : DataW.trod enc Try.prog w base sp hd fuel 51 [c0, c1] = some y) :
  ∃ s t : ByteArray, c0 = .string s ∧ c1 = .string t ∧ s.size ≤ maxLen ∧ t.size ≤ maxLen := by
 obtain ⟨xs, n, hfuel, _, _, hlen, hf⟩ := DataW.trod_struct Try.underlying51 h;have e0 := hf 0 _ rfl;have e1 := hf 1 _ rfl
 match xs, hlen with
 | [y0, y1], _ =>
  obtain ⟨s, g0, _, hs⟩ := DataW.trod_string Try.underlying9 (by exact e0);obtain ⟨t, g1, _, ht⟩ := DataW.trod_string Try.underlying9 (by exact e1);have hC : Try.prog.cellsOf 9 = 1 := by kernel_rfl
  simp [hC] at g0 g1
  exact ⟨s, t, g0, g1, hs, ht⟩
theorem open_attrs {w : World} {base : Nat} {sp : Nat → Bool} {hd : Bool} {fuel : Nat} {cs : List Value} {y : DataW H × List MemPlace} (h : DataW.trod enc Try.prog w base sp hd fuel 27 cs = some y) : ∃ ats v, cs = [v] ∧ RepA w ats v := by
 rcases DataW.trod_slice Try.underlying27 h with ⟨rfl, _⟩ | ⟨a, len, cap, elems, rest, n, hn, rfl, _, hb, hl, hm, hlen, hel, _, _⟩
 ·exact ⟨[], _, rfl, RepA.nil _ _ _⟩
 ·have hC : Try.prog.cellsOf 51 = 2 := by kernel_rfl
  rw [hC] at hel
  have each : ∀ i, i < len → ∃ x : El.Bytes × El.Bytes, (a.add (i * 2)).spot = none ∧ a.block < w.heap.size ∧ w.cell? ⟨a.block, a.off + i * 2, none⟩ = some (.string ⟨x.1.toArray⟩) ∧ w.cell? ⟨a.block, a.off + i * 2 + 1, none⟩ = some (.string ⟨x.2.toArray⟩) ∧ x.1.length ≤ maxLen ∧ x.2.length ≤ maxLen := by
   intro i hi;have h0 := hel i hi;rw [List.getElem?_eq_getElem (by omega), Option.bind_eq_some_iff] at h0;obtain ⟨cs', hcs, hy⟩ := h0;obtain ⟨c0, c1, rfl, hs, hlt, e0, e1⟩ := cells2 hcs;obtain ⟨s, t, rfl, rfl, hs1, hs2⟩ := open_attr2 hy;obtain ⟨hblk, hoff⟩ := add_parts a (i * 2);rw [hblk, hoff] at e0 e1;rw [hblk] at hlt;exact ⟨(s.data.toList, t.data.toList), hs, hlt, e0, e1, by simpa using hs1, by simpa using hs2⟩
  cases hl0 : len with
  | zero => subst hl0; exact ⟨[], _, rfl, RepA.nil _ _ _⟩
  | succ l =>
   rw [← hl0];have hpos : 0 < len := by omega
   obtain ⟨_, hs0, hlt, _⟩ := each 0 hpos
   have he : ∃ f : Nat → El.Bytes × El.Bytes, ∀ i, i < len → w.cell? ⟨a.block, a.off + i * 2, none⟩ = some (.string ⟨(f i).1.toArray⟩) ∧ w.cell? ⟨a.block, a.off + i * 2 + 1, none⟩ = some (.string ⟨(f i).2.toArray⟩) ∧ (f i).1.length ≤ maxLen ∧ (f i).2.length ≤ maxLen := by
    refine ⟨fun i => if h : i < len then Classical.choose (each i h) else ([], []), fun i hi => ?_⟩;simp only [dif_pos hi];exact (Classical.choose_spec (each i hi)).2.2
   obtain ⟨f, hf⟩ := he;obtain ⟨g, o, s⟩ := a;simp only [Addr.add] at hs0 hlt hf;have hs0 : s = none := by simpa using hs0
   subst hs0;have hln : ((List.range len).map f).length = len := by simp
   refine ⟨(List.range len).map f, _, rfl, _, cap, by rw [hln], ⟨by rw [hln]; omega, by rw [hln]; exact hl⟩, fun x hx => ?_, .inr ⟨g, o, rfl, hlt, fun i hi => ?_⟩⟩
   ·obtain ⟨i, hi, rfl⟩ := List.mem_map.1 hx
    exact (hf i (by simpa using hi)).2.2
   ·have := hf i (by simpa using hi)
    simp only [List.getElem_map, List.getElem_range];exact ⟨this.1, this.2.1⟩
theorem open_elem4 {w : World} {base : Nat} {sp : Nat → Bool} {hd : Bool} {fuel : Nat} {c0 c1 c2 c3 : Value} {y : DataW H × List MemPlace} (h : DataW.trod enc Try.prog w base sp hd fuel 30 [c0, c1, c2, c3] = some y) :
  ∃ (s t : ByteArray) (ats : Attrs) (n : Nat) (z : DataW H × List MemPlace), n < fuel ∧ c0 = .string s ∧ c3 = .string t ∧ s.size ≤ maxLen ∧ t.size ≤ maxLen ∧ RepA w ats c1 ∧ DataW.trod enc Try.prog w base sp hd n 28 [c2] = some z := by
 obtain ⟨xs, n, hfuel, _, _, hlen, hf⟩ := DataW.trod_struct Try.underlying30 h;have e0 := hf 0 _ rfl;have e1 := hf 1 _ rfl;have e2 := hf 2 _ rfl;have e3 := hf 3 _ rfl
 match xs, hlen with
 | [y0, y1, y2, y3], _ =>
  obtain ⟨s, g0, _, hs⟩ := DataW.trod_string Try.underlying9 (by exact e0);obtain ⟨t, g3, _, ht⟩ := DataW.trod_string Try.underlying9 (by exact e3);obtain ⟨ats, va, g1, hra⟩ := open_attrs (by exact e1);have hC1 : Try.prog.cellsOf 9 = 1 := by kernel_rfl
  have hC2 : Try.prog.cellsOf 27 = 1 := by kernel_rfl
  have hC3 : Try.prog.cellsOf 28 = 1 := by kernel_rfl
  simp [hC1] at g0
  simp [hC2] at g1
  simp [hC1] at g3
  subst g1;refine ⟨s, t, ats, n, y2, by omega, g0, g3, hs, ht, hra, ?_⟩;simpa [hC1, hC2, hC3] using e2
theorem open_elems {w : World} {base : Nat} {sp : Nat → Bool} {hd : Bool} : ∀ (fuel : Nat) (cs : List Value) (y : DataW H × List MemPlace), DataW.trod enc Try.prog w base sp hd fuel 28 cs = some y → ∃ es v, cs = [v] ∧ RepE w es v := by
 intro fuel
 induction fuel using Nat.strongRecOn with
 | _ fuel ih =>
  intro cs y h
  rcases DataW.trod_slice Try.underlying28 h with ⟨rfl, _⟩ | ⟨a, len, cap, elems, rest, n, hn, rfl, _, hb, hl, hm, hlen, hel, _, _⟩
  ·exact ⟨[], _, rfl, .nil _ _⟩
  ·have hC : Try.prog.cellsOf 30 = 4 := by kernel_rfl
   rw [hC] at hel
   have each : ∀ i, i < len → ∃ (e : E) (vs : Value × Value), (a.add (i * 4)).spot = none ∧ a.block < w.heap.size ∧ w.cell? ⟨a.block, a.off + i * 4, none⟩ = some (.string ⟨e.name.toArray⟩) ∧ w.cell? ⟨a.block, a.off + i * 4 + 1, none⟩ = some vs.1 ∧
     w.cell? ⟨a.block, a.off + i * 4 + 2, none⟩ = some vs.2 ∧ w.cell? ⟨a.block, a.off + i * 4 + 3, none⟩ = some (.string ⟨e.text.toArray⟩) ∧ RepV w e vs.1 vs.2 := by
    intro i hi;have h0 := hel i hi;rw [List.getElem?_eq_getElem (by omega), Option.bind_eq_some_iff] at h0;obtain ⟨cs', hcs, hy⟩ := h0;obtain ⟨c0, c1, c2, c3, rfl, hs, hlt, e0, e1, e2, e3⟩ := cells4 hcs;obtain ⟨s, t, ats, m, z, hm', rfl, rfl, hs1, hs2, hra, hz⟩ := open_elem4 hy;obtain ⟨ks, v, hv, hr⟩ := ih m (by omega) _ _ hz;cases hv;obtain ⟨hblk, hoff⟩ := add_parts a (i * 4);rw [hblk, hoff] at e0 e1 e2 e3;rw [hblk] at hlt;exact ⟨.mk s.data.toList ats ks t.data.toList, (c1, c2), hs, hlt, e0, e1, e2, e3, hra, hr, by show s.data.toList.length ≤ maxLen; simpa using hs1, by show t.data.toList.length ≤ maxLen; simpa using hs2⟩
   cases hl0 : len with
   | zero => subst hl0; exact ⟨[], _, rfl, .nil _ _⟩
   | succ l =>
    rw [← hl0];have hpos : 0 < len := by omega
    obtain ⟨_, _, hs0, hlt, _⟩ := each 0 hpos
    have he : ∃ f : Nat → E × Value × Value, ∀ i, i < len → w.cell? ⟨a.block, a.off + i * 4, none⟩ = some (.string ⟨(f i).1.name.toArray⟩) ∧ w.cell? ⟨a.block, a.off + i * 4 + 1, none⟩ = some (f i).2.1 ∧
     w.cell? ⟨a.block, a.off + i * 4 + 2, none⟩ = some (f i).2.2 ∧ w.cell? ⟨a.block, a.off + i * 4 + 3, none⟩ = some (.string ⟨(f i).1.text.toArray⟩) ∧ RepV w (f i).1 (f i).2.1 (f i).2.2 := by
     refine ⟨fun i => if h : i < len then ⟨Classical.choose (each i h), Classical.choose (Classical.choose_spec (each i h))⟩ else ⟨.mk [] [] [] [], .bool false, .bool false⟩, fun i hi => ?_⟩;simp only [dif_pos hi];exact (Classical.choose_spec (Classical.choose_spec (each i hi))).2.2
    obtain ⟨f, hf⟩ := he;obtain ⟨g, o, s⟩ := a;simp only [Addr.add] at hs0 hlt hf;have hs0 : s = none := by simpa using hs0
    subst hs0;have hln : ((List.range len).map fun i => (f i).1).length = len := by simp
    refine ⟨(List.range len).map fun i => (f i).1, _, rfl, ?_⟩
    have := RepE.row (W := w) g o cap ((List.range len).map fun i => (f i).1) (fun i => (f i).2.1) (fun i => (f i).2.2) hlt (by rw [hln]; omega) (fun i hi => by simpa using (hf i (by simpa using hi)).2.2.2.2.2.2)
     (fun i hi => by simpa using (hf i (by simpa using hi)).1) (fun i hi => by simpa using (hf i (by simpa using hi)).2.1) (fun i hi => by simpa using (hf i (by simpa using hi)).2.2.1) (fun i hi => by simpa using (hf i (by simpa using hi)).2.2.2.1)
     (fun i hi => by simpa using (hf i (by simpa using hi)).2.2.2.2.1) (fun i hi => by simpa using (hf i (by simpa using hi)).2.2.2.2.2.1)
    rw [hln] at this;exact this
theorem open_elem {w : World} {base b0 : Nat} {sp : Nat → Bool} {hd : Bool} {v : Value} {d : DataW H} {p : List MemPlace} (hv : Value.okWide Try.prog w .any b0 30 v) (h : DataW.Trod enc Try.prog w base sp hd 30 v d p) :
  ∃ e va vk, v = ev e va vk ∧ RepV w e va vk := by
 obtain ⟨cs, rfl, hsz⟩ := okWide_struct Try.underlying30 hv;have hC : Try.prog.cellsOf 30 = 4 := by kernel_rfl
 rw [hC] at hsz;obtain ⟨fuel, hf⟩ := h;obtain ⟨l, rfl⟩ : ∃ l : List Value, cs = l.toArray := ⟨cs.toList, by simp⟩
 match l, hsz with
 | [c0, c1, c2, c3], _ =>
  obtain ⟨s, t, ats, m, z, _, rfl, rfl, hs1, hs2, hra, hz⟩ := open_elem4 hf;obtain ⟨ks, v, hv, hr⟩ := open_elems m _ _ hz;cases hv;exact ⟨.mk s.data.toList ats ks t.data.toList, c1, c2, rfl, hra, hr, by show s.data.toList.length ≤ maxLen; simpa using hs1, by show t.data.toList.length ≤ maxLen; simpa using hs2⟩
end
end Go.Proofs.Ytloipakdnalpdaa
namespace Go.Proofs.Ytloipakdnalpdaa
open Go.RowKit
open El (E Attrs escL escB)
def Kb (w w' : World) : Prop := ∀ k T cs, T ≠ 5 → T ≠ 78 → Blk w k T cs → Blk w' k T cs
theorem Kb.refl (w : World) : Kb w w := fun _ _ _ _ _ h => h
theorem Kb.trans {a b c : World} (h : Kb a b) (h' : Kb b c) : Kb a c := fun k T cs h1 h2 h3 => h' k T cs h1 h2 (h k T cs h1 h2 h3)
structure BW (w0 : World) (g : Nat) (l : List UInt8) (w : World) : Prop where
 bld : ∃ cs v, Bld w (g + 1) g 0 78 cs v l ∧ cs.size = 2
 frs : Fresh w0 w
 le : w0.heap.size ≤ g
theorem BW.lt {w0 w : World} {g : Nat} {l : List UInt8} (h : BW w0 g l w) : g < w.heap.size := by
 obtain ⟨cs, v, h1, _⟩ := h.bld;exact h1.lt
theorem bld_alloc {w : World} {B b o : Nat} {T : TypeId} {cs : Array Value} {v : Value} {l : List UInt8} (h : Bld w B b o T cs v l) {w' : World} (hf : Fresh w w') : Bld w' B b o T cs v l :=
 ⟨hf.blk h.blk (fun h => h), h.addr, h.buf, ownsRow_touch h.own hf (fun _ _ h => h), h.ne, h.nilv⟩
theorem BW.fresh {w0 w w' : World} {g : Nat} {l : List UInt8} (h : BW w0 g l w) (hf : Fresh w w') : BW w0 g l w' := by
 obtain ⟨cs, v, h1, h2⟩ := h.bld;exact ⟨⟨cs, v, bld_alloc h1 hf, h2⟩, h.frs.trans hf, h.le⟩
theorem Fresh.kb {w w' : World} (hf : Fresh w w') : Kb w w' := fun _ _ _ _ _ h => hf.blk h fun h => h
theorem blk_type {w : World} {k : Nat} {T T' : TypeId} {cs cs' : Array Value} {s : Nat × Nat} (h : Blk w k T cs) (h' : w.heap[k]? = some (.cells cs' T' s)) : T = T' := by
 unfold Blk at h;rw [h] at h';cases h';rfl
theorem BW.step {w0 w w' : World} {g : Nat} {l : List UInt8} {cs : Array Value} {v : Value} (h : BW w0 g l w) (hb : Bld w (g + 1) g 0 78 cs v l) {m : List UInt8} {cs' : Array Value} {v' : Value}
  (hb' : Bld w' (g + 1) g 0 78 cs' v' m) (hs : cs'.size = 2) (ht : Touch (fun k => k = g ∨ v.ownBlock = some k) w w') : BW w0 g m w' ∧ Kb w w' := by
 have hl := h.le;refine ⟨⟨⟨cs', v', hb', hs⟩, h.frs.trans' ht ?_, h.le⟩, fun k T ds h1 h2 h3 => ht.blk h3 ?_⟩
 ·rintro i (h1 | h1)
  ·right; omega
  ·right; have := (hb.own.lt _ h1).1; omega
 ·rintro (h4 | h4)
  ·subst h4
   exact h2 (blk_type h3 hb.blk)
  ·obtain ⟨_, h5⟩ := hb.own
   rcases h5 with ⟨h5, _⟩ | ⟨g', cap, cur, h5, _, h6, _⟩
   ·rw [h5] at h4; cases h4
   ·rw [h5] at h4
    cases h4;exact h1 (blk_type h3 h6)
theorem bw_byte {w0 w : World} {g : Nat} {l : List UInt8} (h : BW w0 g l w) (x : Int) (c : UInt8) (hx : x = c.toNat) (hl : l.length + 1 ≤ 140737488355328) :
  Calls Try.prog 68 #[.pointer (some ⟨g, 0, none⟩), .int .u8 x] w fun e w' => e = .returned .nilIface ∧ BW w0 g (l ++ [c]) w' ∧ Kb w w' := by
 obtain ⟨cs, v, hb, hs⟩ := h.bld;refine (writeByte_any hb (by rw [hs]; exact liesBuilder) x c hx hl (by have := h.lt; omega)).mono ?_;rintro _ w' ⟨rfl, v', hb', ht⟩;exact ⟨rfl, h.step hb hb' (by simp [hs]) ht⟩
theorem bw_str {w0 w : World} {g : Nat} {l : List UInt8} (h : BW w0 g l w) (m : List UInt8) (hl : l.length + m.length ≤ 140737488355328) :
  Calls Try.prog 66 #[.pointer (some ⟨g, 0, none⟩), .string ⟨m.toArray⟩] w fun e w' => e = .returned (.tuple #[.int .i64 m.length, .nilIface]) ∧ BW w0 g (l ++ m) w' ∧ Kb w w' := by
 obtain ⟨cs, v, hb, hs⟩ := h.bld;refine (writeString_any hb (by omega) (by rw [hs]; exact liesBuilder) ⟨m.toArray⟩ (by show _ + m.toArray.size ≤ _; simpa using hl) (by have := h.lt; omega)).mono ?_;rintro _ w' ⟨rfl, v', hb', ht⟩;exact ⟨by show _ = Ending.returned (.tuple #[.int .i64 (m.length : Nat), .nilIface]); simp [ByteArray.size], h.step hb (by simpa using hb') (by simp [hs]) ht⟩
theorem bw_string {w0 w : World} {g : Nat} {l : List UInt8} (h : BW w0 g l w) :
  Calls Try.prog 40 #[.pointer (some ⟨g, 0, none⟩)] w fun e w' => e = .returned (.string ⟨l.toArray⟩) ∧ Fresh w0 w' ∧ Kb w w' := by
 obtain ⟨cs, v, hb, hs⟩ := h.bld;have hl := h.le;refine (bstring_any hb).mono ?_;rintro _ w' ⟨rfl, ht⟩;refine ⟨rfl, h.frs.trans' ht (fun i h1 => by right; have := (hb.own.lt _ h1).1; omega), fun k T ds h1 h2 h3 => ht.blk h3 fun h4 => ?_⟩;obtain ⟨_, h5⟩ := hb.own
 rcases h5 with ⟨h5, _⟩ | ⟨g', cap, cur, h5, _, h6, _⟩
 ·rw [h5] at h4; cases h4
 ·rw [h5] at h4
  cases h4;exact h1 (blk_type h3 h6)
theorem bw_new (w0 w : World) (h : Fresh w0 w) : BW w0 w.heap.size [] (w.alloc (.cells #[.pointer none, .slice none 0 0] 78)) :=
 ⟨⟨_, _, ⟨Blk.new _ _ _, .inl rfl, rfl, World.ownsRow_nil _ _ _ _, by simp [Value.ownBlock], fun _ => rfl⟩, rfl⟩, h.alloc _, h.size⟩
theorem escL_le (s : List UInt8) (j : Nat) : (escL (s.take j)).length ≤ (escL s).length := by
 have : escL s = escL (s.take j) ++ escL (s.drop j) := by unfold El.escL; rw [← List.flatMap_append, List.take_append_drop]
 rw [this, List.length_append]; omega
theorem escL_take (s : List UInt8) (j : Nat) (h : j < s.length) : escL (s.take (j + 1)) = escL (s.take j) ++ escB s[j] := by
 rw [List.take_succ_eq_append_getElem h, El.escL_snoc]
theorem escape_any (s : List UInt8) (w0 : World) (g : Nat) (l : List UInt8) (w : World) (h : BW w0 g l w) (hl : l.length + (escL s).length ≤ 140737488355328) (hs : s.length ≤ 9223372036854775807) :
  Calls Try.prog 67 #[.pointer (some ⟨g, 0, none⟩), .string ⟨s.toArray⟩] w fun e w' => e = .returned (.tuple #[]) ∧ BW w0 g (l ++ escL s) w' ∧ Kb w w' := by
 have H := hid h;have HL := hid hl;have HSZ := hid (show (⟨s.toArray⟩ : ByteArray).size = s.length from by simp [ByteArray.size]);obtain ⟨t, ht⟩ : ∃ t : ByteArray, t = ⟨s.toArray⟩ := ⟨_, rfl⟩;rw [← ht];rw [← ht] at HSZ;have HTE := hid ht;have hm : t.size ≤ 9223372036854775807 := by rw [HSZ.out]; exact hs
 clear h hl ht;go_enter Try.func67, Try.ntmps67;go_wp2_with fail
 go_loopw [4] (fun i wr => ∃ j : Nat, i = .int .i64 j ∧ j ≤ t.size ∧ Hid (BW w0 g (l ++ escL (s.take j)) wr) ∧ Hid (Kb w wr)) (fun i _ => t.size - (intOf i).toNat)
 case atStart => exact ⟨0, rfl, Nat.zero_le _, hid (by simpa [El.escL_nil] using H.out), Kb.refl _⟩
 case round =>
  obtain ⟨j, rfl, hj, HB, HK⟩ := hrel
  by_cases c1 : j < t.size
  ·have d1 : decide ((j : Int) < (t.size : Int)) = true := dT (by omega)
   have d1' : (j : Int) < (t.size : Int) := by omega
   have d1n : decide (j < t.size) = true := dT (by omega);have c1s : j < s.length := by rw [← HSZ.out]; exact c1
   obtain ⟨b, hb⟩ : ∃ b, t[j]'c1 = b := ⟨_, rfl⟩;have HSB := hid (show s[j] = b by rw [← hb]; have := HTE.out; subst this; rfl);have HST := hid (escL_take s j c1s);have HLE := hid (show (escL (s.take j)).length + (escB s[j]).length ≤ (escL s).length by rw [← List.length_append, ← HST.out]; exact escL_le s (j + 1));rw [HSB.out] at HST HLE;clear HSB
   by_cases c2 : b = 38
   ·have b2 : ((b.toNat : Int) == 38) = true := u8_eq_of _ 38 c2
    have HEB := hid (show escB b = [38, 97, 109, 112, 59] by unfold El.escB; rw [if_pos c2]);go_wp2_with fail
    refine (bw_str HB.out [38, 97, 109, 112, 59] (by have := HLE.out; rw [HEB.out] at this; have := HL.out; rw [List.length_append]; omega)).mono ?_;rintro _ w2 ⟨rfl, hb2, hk2⟩;have HB2 := hid hb2;have HK2 := hid (HK.out.trans hk2);clear hb2 hk2;go_wp2_with fail
    go_roundw
    case rel => exact ⟨j + 1, by go_num, c1, by unfold Hid; rw [HST.out, HEB.out, ← List.append_assoc]; exact HB2.out, HK2⟩
    case measure => simp [intOf]; omega
   have b2 : ((b.toNat : Int) == 38) = false := u8_ne_of _ 38 c2
   by_cases c3 : b = 60
   ·have b3 : ((b.toNat : Int) == 60) = true := u8_eq_of _ 60 c3
    have HEB := hid (show escB b = [38, 108, 116, 59] by unfold El.escB; rw [if_neg c2, if_pos c3]);go_wp2_with fail
    refine (bw_str HB.out [38, 108, 116, 59] (by have := HLE.out; rw [HEB.out] at this; have := HL.out; rw [List.length_append]; omega)).mono ?_;rintro _ w2 ⟨rfl, hb2, hk2⟩;have HB2 := hid hb2;have HK2 := hid (HK.out.trans hk2);clear hb2 hk2;go_wp2_with fail
    go_roundw
    case rel => exact ⟨j + 1, by go_num, c1, by unfold Hid; rw [HST.out, HEB.out, ← List.append_assoc]; exact HB2.out, HK2⟩
    case measure => simp [intOf]; omega
   have b3 : ((b.toNat : Int) == 60) = false := u8_ne_of _ 60 c3
   by_cases c4 : b = 62
   ·have b4 : ((b.toNat : Int) == 62) = true := u8_eq_of _ 62 c4
    have HEB := hid (show escB b = [38, 103, 116, 59] by unfold El.escB; rw [if_neg c2, if_neg c3, if_pos c4]);go_wp2_with fail
    refine (bw_str HB.out [38, 103, 116, 59] (by have := HLE.out; rw [HEB.out] at this; have := HL.out; rw [List.length_append]; omega)).mono ?_;rintro _ w2 ⟨rfl, hb2, hk2⟩;have HB2 := hid hb2;have HK2 := hid (HK.out.trans hk2);clear hb2 hk2;go_wp2_with fail
    go_roundw
    case rel => exact ⟨j + 1, by go_num, c1, by unfold Hid; rw [HST.out, HEB.out, ← List.append_assoc]; exact HB2.out, HK2⟩
    case measure => simp [intOf]; omega
   have b4 : ((b.toNat : Int) == 62) = false := u8_ne_of _ 62 c4
   by_cases c5 : b = 34
   ·have b5 : ((b.toNat : Int) == 34) = true := u8_eq_of _ 34 c5
    have HEB := hid (show escB b = [38, 113, 117, 111, 116, 59] by unfold El.escB; rw [if_neg c2, if_neg c3, if_neg c4, if_pos c5]);go_wp2_with fail
    refine (bw_str HB.out [38, 113, 117, 111, 116, 59] (by have := HLE.out; rw [HEB.out] at this; have := HL.out; rw [List.length_append]; omega)).mono ?_;rintro _ w2 ⟨rfl, hb2, hk2⟩;have HB2 := hid hb2;have HK2 := hid (HK.out.trans hk2);clear hb2 hk2;go_wp2_with fail
    go_roundw
    case rel => exact ⟨j + 1, by go_num, c1, by unfold Hid; rw [HST.out, HEB.out, ← List.append_assoc]; exact HB2.out, HK2⟩
    case measure => simp [intOf]; omega
   have b5 : ((b.toNat : Int) == 34) = false := u8_ne_of _ 34 c5;have HEB := hid (show escB b = [b] by unfold El.escB; rw [if_neg c2, if_neg c3, if_neg c4, if_neg c5]);go_wp2_with fail
   refine (bw_byte HB.out _ b rfl (by have := HLE.out; rw [HEB.out] at this; have := HL.out; rw [List.length_append]; simp at *; omega)).mono ?_;rintro _ w2 ⟨rfl, hb2, hk2⟩;have HB2 := hid hb2;have HK2 := hid (HK.out.trans hk2);clear hb2 hk2;go_wp2_with fail
   go_roundw
   case rel => exact ⟨j + 1, by go_num, c1, by unfold Hid; rw [HST.out, HEB.out, ← List.append_assoc]; exact HB2.out, HK2⟩
   case measure => simp [intOf]; omega
  ·have d1 : decide ((j : Int) < (t.size : Int)) = false := dF (by omega)
   have d1n : decide (j < t.size) = false := dF (by omega);have HTK := hid (show s.take j = s from List.take_of_length_le (by rw [← HSZ.out]; omega));go_wp2_with fail
   go_end0
   exact ⟨rfl, by have := HB.out; rwa [HTK.out] at this, HK.out⟩
end Go.Proofs.Ytloipakdnalpdaa
namespace Go.Proofs.Ytloipakdnalpdaa.El
open Tr (Nd)
def nMath : Bytes := [109, 97, 116, 104]
def nMi : Bytes := [109, 105]
def nMo : Bytes := [109, 111]
def nMn : Bytes := [109, 110]
def nMtext : Bytes := [109, 116, 101, 120, 116]
def nMrow : Bytes := [109, 114, 111, 119]
def nMfrac : Bytes := [109, 102, 114, 97, 99]
def nMsqrt : Bytes := [109, 115, 113, 114, 116]
def nMroot : Bytes := [109, 114, 111, 111, 116]
def nMsub : Bytes := [109, 115, 117, 98]
def nMsup : Bytes := [109, 115, 117, 112]
def nMsubsup : Bytes := [109, 115, 117, 98, 115, 117, 112]
def nMover : Bytes := [109, 111, 118, 101, 114]
def nAccent : Bytes := [97, 99, 99, 101, 110, 116]
def nMfenced : Bytes := [109, 102, 101, 110, 99, 101, 100]
def nOpen : Bytes := [111, 112, 101, 110]
def nClose : Bytes := [99, 108, 111, 115, 101]
def nMtable : Bytes := [109, 116, 97, 98, 108, 101]
def nMtr : Bytes := [109, 116, 114]
def nMtd : Bytes := [109, 116, 100]
def grid {α : Type} (c : Nat) (l : List α) : List (List α) := (List.range ((l.length + c - 1) / c)).map fun r => (l.drop (r * c)).take c
theorem grid_cut {α : Type} (c : Nat) (hc : 0 < c) (l : List α) (i r : Nat) (h : r * c + c ≤ i) : ((l.take i).drop (r * c)).take c = (l.drop (r * c)).take c := by
 rw [List.drop_take, List.take_take, Nat.min_eq_left (by omega)]
theorem ceil_mul (c k : Nat) (hc : 0 < c) : (k * c + c - 1) / c = k := by
 rw [show k * c + c - 1 = c * k + (c - 1) by rw [Nat.mul_comm]; omega, Nat.mul_add_div hc, Nat.div_eq_of_lt (by omega)];omega
theorem ceil_in (c k j : Nat) (hc : 0 < c) (hj : 0 < j) (hjc : j ≤ c) : (k * c + j + c - 1) / c = k + 1 := by
 rw [show k * c + j + c - 1 = c * (k + 1) + (j - 1) by rw [Nat.mul_comm c, Nat.add_mul]; omega, Nat.mul_add_div hc, Nat.div_eq_of_lt (by omega)]
theorem grid_nil {α : Type} (c : Nat) (hc : 0 < c) : grid c ([] : List α) = [] := by
 unfold grid;rw [show (List.length ([] : List α) + c - 1) / c = 0 from Nat.div_eq_of_lt (by simp; omega)];rfl
theorem grid_row {α : Type} (c : Nat) (hc : 0 < c) (l : List α) (k : Nat) (h : k * c + c ≤ l.length) : grid c (l.take (k * c + c)) = grid c (l.take (k * c)) ++ [(l.drop (k * c)).take c] := by
 unfold grid;rw [List.length_take, List.length_take, Nat.min_eq_left h, Nat.min_eq_left (by omega), ceil_mul c k hc, ceil_in c k c hc hc (Nat.le_refl _), List.range_succ, List.map_append]
 congr 1
 ·refine List.map_congr_left fun r hr => ?_
  have hr := List.mem_range.1 hr;have h1 : r * c + c ≤ k * c := by rw [← Nat.succ_mul]; exact Nat.mul_le_mul_right _ hr
  rw [grid_cut c hc l _ r (by omega), grid_cut c hc l _ r h1]
 ·rw [List.map_singleton, grid_cut c hc l _ k (Nat.le_refl _)]
theorem grid_new {α : Type} (c : Nat) (hc : 0 < c) (l : List α) (k : Nat) (h : k * c < l.length) : grid c (l.take (k * c + 1)) = grid c (l.take (k * c)) ++ [[l[k * c]]] := by
 unfold grid;rw [List.length_take, List.length_take, Nat.min_eq_left (by omega), Nat.min_eq_left (by omega), ceil_mul c k hc, ceil_in c k 1 hc (by omega) hc, List.range_succ, List.map_append]
 congr 1
 ·refine List.map_congr_left fun r hr => ?_
  have hr := List.mem_range.1 hr;have h1 : r * c + c ≤ k * c := by rw [← Nat.succ_mul]; exact Nat.mul_le_mul_right _ hr
  rw [grid_cut c hc l _ r (by omega), grid_cut c hc l _ r h1]
 ·rw [List.map_singleton, List.drop_take, show k * c + 1 - k * c = 1 by omega, List.take_take, Nat.min_eq_right (by omega), List.drop_eq_getElem_cons h]
  rfl
theorem grid_more {α : Type} (c : Nat) (hc : 0 < c) (l : List α) (k j : Nat) (hj : 0 < j) (hjc : j < c) (h : k * c + j < l.length) :
  ∃ L r, grid c (l.take (k * c + j)) = L ++ [r] ∧ grid c (l.take (k * c + j + 1)) = L ++ [r ++ [l[k * c + j]]] ∧ r.length = j := by
 refine ⟨(List.range k).map fun r => (l.drop (r * c)).take c, (l.drop (k * c)).take j, ?_, ?_, ?_⟩
 ·unfold grid
  rw [List.length_take, Nat.min_eq_left (by omega), ceil_in c k j hc hj (by omega), List.range_succ, List.map_append]
  congr 1
  ·refine List.map_congr_left fun r hr => ?_
   have hr := List.mem_range.1 hr;have h1 : r * c + c ≤ k * c := by rw [← Nat.succ_mul]; exact Nat.mul_le_mul_right _ hr
   rw [grid_cut c hc l _ r (by omega)]
  ·rw [List.map_singleton, List.drop_take, List.take_take, show min c (k * c + j - k * c) = j by omega]
 ·unfold grid
  rw [List.length_take, Nat.min_eq_left (by omega), show k * c + j + 1 = k * c + (j + 1) by omega, ceil_in c k (j + 1) hc (by omega) (by omega), List.range_succ, List.map_append]
  congr 1
  ·refine List.map_congr_left fun r hr => ?_
   have hr := List.mem_range.1 hr;have h1 : r * c + c ≤ k * c := by rw [← Nat.succ_mul]; exact Nat.mul_le_mul_right _ hr
   rw [grid_cut c hc l _ r (by omega)]
  ·rw [List.map_singleton, List.drop_take, List.take_take, show min c (k * c + (j + 1) - k * c) = j + 1 by omega, List.take_add_one, List.getElem?_drop, List.getElem?_eq_getElem h]
   rfl
 ·rw [List.length_take, List.length_drop]; omega
def mrow (n : Bytes) (l : List E) : E := .mk n [] l []
def lett : Bytes → Bool
 | [] => false
 | b :: _ => letter b
def mkE (k : Int) (t : Bytes) (c : Int) (ss : List (List E)) : E :=
 if k = 2 then .mk (if lett t then nMi else nMo) [] [] t
 else if k = 3 then .mk nMn [] [] t
 else if k = 4 then .mk nMtext [] [] t
 else if k = 6 then (match ss with
  | [] :: r => .mk nMsqrt [] (r.map (mrow nMrow)) []
  | a :: b :: _ => .mk nMroot [] [mrow nMrow b, mrow nMrow a] []
  | _ => .mk [] [] [] [])
 else if k = 10 then .mk nMover [(nAccent, t)] (ss.map (mrow nMrow)) []
 else if k = 11 then .mk nMfenced [(nOpen, t.take 1), (nClose, t.drop 1)] (ss.map (mrow nMrow)) []
 else if k = 12 then .mk nMtable [] ((grid c.toNat (ss.map (mrow nMtd))).map (mrow nMtr)) []
 else .mk (if k = 5 then nMfrac else if k = 7 then nMsub else if k = 8 then nMsup else nMsubsup) [] (ss.map (mrow nMrow)) []
mutual
def elE : Nd → E
 | .mk k t c ks => mkE k t c (slotsE ks)
def elK : List Nd → List E
 | [] => []
 | n :: ns => elE n :: elK ns
def slotsE : List Nd → List (List E)
 | [] => []
 | .mk _ _ _ ks :: ns => elK ks :: slotsE ns
end
def elM (n : Nd) : E := mrow nMath (elK n.kids)
theorem elE_eq (n : Nd) : elE n = mkE n.kind n.text n.cols (slotsE n.kids) := by cases n; rw [elE]; rfl
theorem elK_map (l : List Nd) : elK l = l.map elE := by
 induction l with
 | nil => rw [elK]; rfl
 | cons x l ih => rw [elK, ih]; rfl
theorem slotsE_map (l : List Nd) : slotsE l = l.map fun n => elK n.kids := by
 induction l with
 | nil => rw [slotsE]; rfl
 | cons x l ih => cases x; rw [slotsE, ih]; rfl
end Go.Proofs.Ytloipakdnalpdaa.El
