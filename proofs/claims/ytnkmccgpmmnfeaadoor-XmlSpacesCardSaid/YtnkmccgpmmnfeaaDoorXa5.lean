/- Part 5 of 15 of a proof; its texts, joined: TrR, NdA, NdB, NdC. No condition. -/
import Derived.Test.YtnkmccgpmmnfeaaDoorXa2
import Derived.Test.YtnkmccgpmmnfeaaDoorXa1
set_option maxRecDepth 100000
namespace Go.Proofs.YtnkmccgpmmnfeaaDoor
open Go.ChangeShapes Go.WideShapes Go.ChangeAt Go.RowKit
inductive RepL (W : World) : List Tr.Nd → Value → Prop
 | nil (A : Option Addr) (cap : Nat) : RepL W [] (.slice A 0 cap)
 | row (g o cap : Nat) (ks : List Tr.Nd) (sl : Nat → Value) (hg : g < W.heap.size) (hl : ks.length ≤ maxLen) (ht : ∀ i (hi : i < ks.length), ks[i].text.length ≤ maxLen)
   (h0 : ∀ i (hi : i < ks.length), W.cell? ⟨g, o + i * 4, none⟩ = some (.int .i64 ks[i].kind))
   (h1 : ∀ i (hi : i < ks.length), W.cell? ⟨g, o + i * 4 + 1, none⟩ = some (.string ⟨ks[i].text.toArray⟩))
   (h2 : ∀ i (hi : i < ks.length), W.cell? ⟨g, o + i * 4 + 2, none⟩ = some (.int .i64 ks[i].cols))
   (h3 : ∀ i, i < ks.length → W.cell? ⟨g, o + i * 4 + 3, none⟩ = some (sl i))
   (hk : ∀ i (hi : i < ks.length), RepL W ks[i].kids (sl i)) : RepL W ks (.slice (some ⟨g, o, none⟩) ks.length cap)
def RepN (W : World) (n : Tr.Nd) (v : Value) : Prop := ∃ sl, v = .agg #[.int .i64 n.kind, .string ⟨n.text.toArray⟩, .int .i64 n.cols, sl] ∧ RepL W n.kids sl
theorem RepL.fresh {W W' : World} {ks : List Tr.Nd} {v : Value} (h : RepL W ks v) (hf : Fresh W W') : RepL W' ks v := by
 induction h with
 | nil A cap => exact .nil A cap
 | row g o cap ks sl hg hl ht h0 h1 h2 h3 hk ih =>
  exact .row g o cap ks sl (Nat.lt_of_lt_of_le hg hf.size) hl ht (fun i hi => hf.cell (h0 i hi) (fun h => h)) (fun i hi => hf.cell (h1 i hi) (fun h => h)) (fun i hi => hf.cell (h2 i hi) (fun h => h)) (fun i hi => hf.cell (h3 i hi) (fun h => h)) ih
theorem RepN.fresh {W W' : World} {n : Tr.Nd} {v : Value} (h : RepN W n v) (hf : Fresh W W') : RepN W' n v := by
 obtain ⟨sl, h1, h2⟩ := h;exact ⟨sl, h1, h2.fresh hf⟩
theorem RepL.slice {W : World} {ks : List Tr.Nd} {v : Value} (h : RepL W ks v) : ∃ A cap, v = .slice A ks.length cap := by
 cases h with
 | nil A cap => exact ⟨A, cap, rfl⟩
 | row g o cap _ sl => exact ⟨_, cap, rfl⟩
theorem RepL.len {W : World} {ks : List Tr.Nd} {v : Value} (h : RepL W ks v) : ks.length ≤ maxLen := by
 cases h with
 | nil A cap => exact Nat.zero_le _
 | row g o cap _ sl hg hl => exact hl
theorem RepL.texts {W : World} {ks : List Tr.Nd} {v : Value} (h : RepL W ks v) (i : Nat) (hi : i < ks.length) : ks[i].text.length ≤ maxLen := by
 cases h with
 | nil A cap => simp at hi
 | row g o cap _ sl hg hl ht => exact ht i hi
theorem RepL.get {W : World} {ks : List Tr.Nd} {A : Option Addr} {len cap : Nat} (h : RepL W ks (.slice A len cap)) (i : Nat) (hi : i < ks.length) :
  ∃ g o sl, A = some ⟨g, o, none⟩ ∧ g < W.heap.size ∧ W.cell? ⟨g, o + i * 4, none⟩ = some (.int .i64 ks[i].kind) ∧ W.cell? ⟨g, o + i * 4 + 1, none⟩ = some (.string ⟨ks[i].text.toArray⟩) ∧
   W.cell? ⟨g, o + i * 4 + 2, none⟩ = some (.int .i64 ks[i].cols) ∧ W.cell? ⟨g, o + i * 4 + 3, none⟩ = some sl ∧ RepL W ks[i].kids sl := by
 generalize hv : Value.slice A len cap = v at h;cases h with
 | nil A cap => simp at hi
 | row g o cap _ sl hg hl ht h0 h1 h2 h3 hk =>
  cases hv;exact ⟨g, o, sl i, rfl, hg, h0 i hi, h1 i hi, h2 i hi, h3 i hi, hk i hi⟩
theorem cells4 {W : World} {base : Nat} {a : Addr} {cs : List Value} (h : W.cells? base a 4 = some cs) : ∃ c0 c1 c2 c3, cs = [c0, c1, c2, c3] ∧ a.spot = none ∧ a.block < W.heap.size ∧
  W.cell? ⟨a.block, a.off, none⟩ = some c0 ∧ W.cell? ⟨a.block, a.off + 1, none⟩ = some c1 ∧ W.cell? ⟨a.block, a.off + 2, none⟩ = some c2 ∧ W.cell? ⟨a.block, a.off + 3, none⟩ = some c3 := by
 obtain ⟨_, hl, hc⟩ := World.cells?_some h
 match cs, hl with
 | [c0, c1, c2, c3], _ =>
  have e0 := hc 0 (by decide);have e1 := hc 1 (by decide);have e2 := hc 2 (by decide);have e3 := hc 3 (by decide);obtain ⟨g, o, s⟩ := a
  have hs : s = none := by
   cases s with
   | none => rfl
   | some x =>
    simp only [Addr.add, if_true, List.getElem?_cons_zero] at e0;unfold World.cell? at e0;split at e0
    ·simp at e0
    ·cases e0
  subst hs;have hlt := bL (a := ⟨g, o, none⟩) (v := c0) (by simpa [Addr.add] using e0);exact ⟨c0, c1, c2, c3, rfl, rfl, hlt, by simpa [Addr.add] using e0, by simpa [Addr.add] using e1, by simpa [Addr.add] using e2, by simpa [Addr.add] using e3⟩
section
variable {H : Type} {enc : TypeId × Value → H}
end
end Go.Proofs.YtnkmccgpmmnfeaaDoor
namespace Go.Proofs.YtnkmccgpmmnfeaaDoor
open Go.RowKit
theorem forget_world {p : World → Prop} {W : World} (F : World → Prop) (hF : F W) (h : ∀ W', F W' → p W') : p W := h W hF
theorem Blk.new3 (w : World) (o o' : Obj) (t : TypeId) (cs : Array Value) : Blk (((w.alloc o).alloc o').alloc (.cells cs t)) (w.heap.size + 1 + 1) t cs := by
 have := Blk.new2 (w.alloc o) o' t cs;simpa using this
theorem calmF {P : Program} {f : Nat} {args : Array Value} {v : Value} (W : World) (h : ∀ w, Fresh W w → Calls P f args w fun e w' => e = .returned v ∧ Fresh w w') :
  ∀ d os, Calls P f args (Go.Sort.grow (redrawn W d) os) fun e w'' => e = .returned v ∧ ∃ p : Regrown, w'' = Go.Sort.grow (redrawn W p.d) p.os :=
 fun _ _ => Calls.regrown_of ((h _ (fresh_of_below (below_regrown _ _ _))).mono fun _ _ h => ⟨h.1, h.2.below⟩)
theorem str_eq' (a b : ByteArray) : (a == b) = (a.data.toList == b.data.toList) := by
 show (a.data == b.data) = _;simp
def leftF (n : Tr.Nd) (most : Int) : Int := if (Tr.count n : Int) ≤ most then most - Tr.count n else -1
def leftL (l : List Tr.Nd) (most : Int) : Int := if (1 + Tr.countL l : Int) ≤ most then most - 1 - Tr.countL l else -1
theorem ret_i64 (a b : Int) (h : a = b) : Ending.returned (.int .i64 a) = .returned (.int .i64 b) := by rw [h]
theorem ret_bool' (a b : Bool) (h : a = b) : Ending.returned (.bool a) = .returned (.bool b) := by rw [h]
theorem all_snoc' (l : List UInt8) (j : Nat) (h : j < l.length) (p : UInt8 → Bool) : (l.take (j + 1)).all p = ((l.take j).all p && p l[j]) := by
 rw [List.take_add_one, List.getElem?_eq_getElem h, List.all_append]; simp only [Option.toList_some, List.all_cons, List.all_nil, Bool.and_true]
theorem all_no (l : List UInt8) (j : Nat) (h : j < l.length) (p : UInt8 → Bool) (hn : p l[j] = false) : l.all p = false := by
 rw [List.all_eq_false];exact ⟨l[j], List.getElem_mem _, by rw [hn]; decide⟩
theorem isEmpty_str (s : ByteArray) : s.toList.isEmpty = (s.data.toList == []) := by
 rw [ByteArray.toList_eq];cases s.data.toList <;> rfl
theorem all_end (s : ByteArray) (p : UInt8 → Bool) (j : Nat) (hj : j ≤ s.size) (hn : ¬ j < s.size) (h : (s.data.toList.take j).all p = true) : s.data.toList.all p = true := by
 have : s.data.toList.length = s.size := by simp
 rwa [List.take_of_length_le (by omega)] at h
theorem letter_or_256 : ∀ n : Fin 256, Tr.letter (UInt8.ofNat n.1) = (!decide (bits .or .u8 (n.1 : Int) 32 < (97 : Int)) && !decide ((122 : Int) < bits .or .u8 (n.1 : Int) 32)) := by decide +kernel
theorem letter_or (b : UInt8) : Tr.letter b = (!decide (bits .or .u8 (b.toNat : Int) 32 < (97 : Int)) && !decide ((122 : Int) < bits .or .u8 (b.toNat : Int) 32)) := by
 have := letter_or_256 ⟨b.toNat, b.toNat_lt⟩;simpa using this
theorem digit_256 : ∀ n : Fin 256, Tr.digit (UInt8.ofNat n.1) = (!decide ((n.1 : Int) < (48 : Int)) && !decide ((57 : Int) < (n.1 : Int))) := by decide +kernel
theorem digit_or (b : UInt8) : Tr.digit b = (!decide ((b.toNat : Int) < (48 : Int)) && !decide ((57 : Int) < (b.toNat : Int))) := by
 have := digit_256 ⟨b.toNat, b.toNat_lt⟩;simpa using this
def plainB (b : UInt8) : Bool := decide (32 ≤ b) && decide (b ≤ 126)
theorem plain_256 : ∀ n : Fin 256, plainB (UInt8.ofNat n.1) = (!decide ((n.1 : Int) < (32 : Int)) && !decide ((126 : Int) < (n.1 : Int))) := by decide +kernel
theorem plain_or (b : UInt8) : plainB b = (!decide ((b.toNat : Int) < (32 : Int)) && !decide ((126 : Int) < (b.toNat : Int))) := by
 have := plain_256 ⟨b.toNat, b.toNat_lt⟩;simpa using this
end Go.Proofs.YtnkmccgpmmnfeaaDoor
