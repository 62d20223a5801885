/- Part 7 of 42 of a proof; its texts, joined: TrR, NdA, NdB, NdC. No condition. -/
import Derived.Test.YtomibmenojdieaaGreatXx4
import Derived.Test.YtomibmenojdieaaGreatXx1
import Derived.Test.YtomibmenojdieaaGreatShelf
set_option maxRecDepth 100000
set_option maxHeartbeats 1000000
namespace Go.Proofs.YtomibmenojdieaaGreat
open Go.ChangeShapes Go.WideShapes Go.ChangeAt Go.RowKit
inductive RepL (W : World) : List Tr.Nd → Value → Prop
 | nil (A : Option Addr) (cap : Nat) : RepL W [] (.slice A 0 cap)
 | row (g o cap : Nat) (ks : List Tr.Nd) (sl : Nat → Value) (hg : g < W.heap.size) (hl : ks.length ≤ maxLen) (ht : ∀ i (hi : i < ks.length), ks[i].text.length ≤ maxLen)
   (h0 : ∀ i (hi : i < ks.length), W.cell? ⟨g, o + i * 4, none⟩ = some (.int .i64 ks[i].kind))
   (h1 : ∀ i (hi : i < ks.length), W.cell? ⟨g, o + i * 4 + 1, none⟩ = some (.string ⟨ks[i].text.toArray⟩))
   (h2 : ∀ i (hi : i < ks.length), W.cell? ⟨g, o + i * 4 + 2, none⟩ = some (.int .i64 ks[i].cols))
   (h3 : ∀ i, i < ks.length → W.cell? ⟨g, o + i * 4 + 3, none⟩ = some (sl i))
   (hk : ∀ i (hi : i < ks.length), RepL W ks[i].kids (sl i)) : RepL W ks (.slice (some ⟨g, o, none⟩) ks.length cap)
def RepN (W : World) (n : Tr.Nd) (v : Value) : Prop := ∃ sl, v = .agg #[.int .i64 n.kind, .string ⟨n.text.toArray⟩, .int .i64 n.cols, sl] ∧ RepL W n.kids sl
theorem RepL.fresh {W W' : World} {ks : List Tr.Nd} {v : Value} (h : RepL W ks v) (hf : Fresh W W') : RepL W' ks v := by
 induction h with
 | nil A cap => exact .nil A cap
 | row g o cap ks sl hg hl ht h0 h1 h2 h3 hk ih =>
  exact .row g o cap ks sl (Nat.lt_of_lt_of_le hg hf.size) hl ht (fun i hi => hf.cell (h0 i hi) (fun h => h)) (fun i hi => hf.cell (h1 i hi) (fun h => h)) (fun i hi => hf.cell (h2 i hi) (fun h => h)) (fun i hi => hf.cell (h3 i hi) (fun h => h)) ih
theorem RepN.fresh {W W' : World} {n : Tr.Nd} {v : Value} (h : RepN W n v) (hf : Fresh W W') : RepN W' n v := by
 obtain ⟨sl, h1, h2⟩ := h;exact ⟨sl, h1, h2.fresh hf⟩
theorem RepL.slice {W : World} {ks : List Tr.Nd} {v : Value} (h : RepL W ks v) : ∃ A cap, v = .slice A ks.length cap := by
 cases h with
 | nil A cap => exact ⟨A, cap, rfl⟩
 | row g o cap _ sl => exact ⟨_, cap, rfl⟩
theorem RepL.len {W : World} {ks : List Tr.Nd} {v : Value} (h : RepL W ks v) : ks.length ≤ maxLen := by
 cases h with
 | nil A cap => exact Nat.zero_le _
 | row g o cap _ sl hg hl => exact hl
theorem RepL.texts {W : World} {ks : List Tr.Nd} {v : Value} (h : RepL W ks v) (i : Nat) (hi : i < ks.length) : ks[i].text.length ≤ maxLen := by
 cases h with
 | nil A cap => simp at hi
 | row g o cap _ sl hg hl ht => exact ht i hi
theorem RepL.get {W : World} {ks : List Tr.Nd} {A : Option Addr} {len cap : Nat} (h : RepL W ks (.slice A len cap)) (i : Nat) (hi : i < ks.length) :
  ∃ g o sl, A = some ⟨g, o, none⟩ ∧ g < W.heap.size ∧ W.cell? ⟨g, o + i * 4, none⟩ = some (.int .i64 ks[i].kind) ∧ W.cell? ⟨g, o + i * 4 + 1, none⟩ = some (.string ⟨ks[i].text.toArray⟩) ∧
   W.cell? ⟨g, o + i * 4 + 2, none⟩ = some (.int .i64 ks[i].cols) ∧ W.cell? ⟨g, o + i * 4 + 3, none⟩ = some sl ∧ RepL W ks[i].kids sl := by
 generalize hv : Value.slice A len cap = v at h;cases h with
 | nil A cap => simp at hi
 | row g o cap _ sl hg hl ht h0 h1 h2 h3 hk =>
  cases hv;exact ⟨g, o, sl i, rfl, hg, h0 i hi, h1 i hi, h2 i hi, h3 i hi, hk i hi⟩
section
variable {H : Type} {enc : TypeId × Value → H}
end
end Go.Proofs.YtomibmenojdieaaGreat
namespace Go.Proofs.YtomibmenojdieaaGreat
open Go.RowKit
theorem forget_world {p : World → Prop} {W : World} (F : World → Prop) (hF : F W) (h : ∀ W', F W' → p W') : p W := h W hF
theorem calmF {P : Program} {f : Nat} {args : Array Value} {v : Value} (W : World) (h : ∀ w, Fresh W w → Calls P f args w fun e w' => e = .returned v ∧ Fresh w w') :
  ∀ d os, Calls P f args (Go.Sort.grow (redrawn W d) os) fun e w'' => e = .returned v ∧ ∃ p : Regrown, w'' = Go.Sort.grow (redrawn W p.d) p.os :=
 fun _ _ => Calls.regrown_of ((h _ (fresh_of_below (below_regrown _ _ _))).mono fun _ _ h => ⟨h.1, h.2.below⟩)
theorem str_eq' (a b : ByteArray) : (a == b) = (a.data.toList == b.data.toList) := by
 show (a.data == b.data) = _;simp
theorem ret_bool' (a b : Bool) (h : a = b) : Ending.returned (.bool a) = .returned (.bool b) := by rw [h]
theorem equal_step (n m : Tr.Nd) (sl sm : Value) (w : World) (hi : ∀ w', Fresh w w' → Calls Tryz.prog 18 #[sl, sm] w' fun e w'' => e = .returned (.bool (Tr.eqL n.kids m.kids)) ∧ Fresh w' w'') :
  Calls Tryz.prog 21 #[.agg #[.int .i64 n.kind, .string ⟨n.text.toArray⟩, .int .i64 n.cols, sl], .agg #[.int .i64 m.kind, .string ⟨m.text.toArray⟩, .int .i64 m.cols, sm]] w fun e w' => e = .returned (.bool (Tr.eqN n m)) ∧ Fresh w w' := by
 have HI := hid hi;clear hi;have HE := hid (Tr.eqN_eq n m);go_enter Tryz.func21, Tryz.ntmps21;cases h1 : (n.kind == m.kind) with
 | false =>
  have h1m : (n.kind != m.kind) = true := by rw [bne, h1]; rfl
  go_wp2_with fail
  go_ret;exact ⟨ret_bool' _ _ (by rw [HE.out]; simp_all), frR⟩
 | true =>
  have h1m : (n.kind != m.kind) = false := by rw [bne, h1]; rfl
  cases h2 : (n.text == m.text) with
  | false =>
   have h2s : ((⟨n.text.toArray⟩ : ByteArray) == (⟨m.text.toArray⟩ : ByteArray)) = false := by rw [str_eq']; exact h2
   have h2t : ((⟨n.text.toArray⟩ : ByteArray) != (⟨m.text.toArray⟩ : ByteArray)) = true := by rw [bne, h2s]; rfl
   go_wp2_with fail
   go_ret;exact ⟨ret_bool' _ _ (by rw [HE.out]; simp_all), frR⟩
  | true =>
   have h2s : ((⟨n.text.toArray⟩ : ByteArray) == (⟨m.text.toArray⟩ : ByteArray)) = true := by rw [str_eq']; exact h2
   have h2t : ((⟨n.text.toArray⟩ : ByteArray) != (⟨m.text.toArray⟩ : ByteArray)) = false := by rw [bne, h2s]; rfl
   cases h3 : (n.cols == m.cols) with
   | false =>
    have h3m : (n.cols != m.cols) = true := by rw [bne, h3]; rfl
    go_wp2_with fail
    go_ret;exact ⟨ret_bool' _ _ (by rw [HE.out]; simp_all), frR⟩
   | true =>
    have h3m : (n.cols != m.cols) = false := by rw [bne, h3]; rfl
    go_wp2_with fail
    refine Calls.mono (HI.out _ frR) ?_;rintro _ w3 ⟨rfl, hfw3⟩;have HF3 := hid (show Fresh w w3 from preA hfw3);have B0_w3 : Blk w3 (w.heap.size) 35 #[.int .i64 n.kind, .string (⟨n.text.toArray⟩ : ByteArray), .int .i64 n.cols, sl] := Touch.blk hfw3 (by first | exact blkN | assumption | exact blkA (by assumption)) (fun h => h);have B1_w3 : Blk w3 (w.heap.size + 1) 35 #[.int .i64 m.kind, .string (⟨m.text.toArray⟩ : ByteArray), .int .i64 m.cols, sm] := Touch.blk hfw3 (by first | exact blkN | assumption | exact blkA (by assumption)) (fun h => h);obtain ⟨q0_0_w3, q0_1_w3, q0_2_w3, q0_3_w3, _⟩ := Blk.four B0_w3;obtain ⟨q1_0_w3, q1_1_w3, q1_2_w3, q1_3_w3, _⟩ := Blk.four B1_w3;clear hfw3;go_wp2_with fail
    go_ret;exact ⟨ret_bool' _ _ (by rw [HE.out]; simp_all), (frA HF3.out)⟩
theorem eqL_snoc : ∀ (xs ys : List Tr.Nd) (k : Nat) (hx : k < xs.length) (hy : k < ys.length), Tr.eqL (xs.take (k + 1)) (ys.take (k + 1)) = (Tr.eqL (xs.take k) (ys.take k) && Tr.eqN xs[k] ys[k])
 | x :: xs, y :: ys, 0, _, _ => by simp [Tr.eqL]
 | x :: xs, y :: ys, k + 1, hx, hy => by
  simp only [List.take_succ_cons, Tr.eqL, List.getElem_cons_succ];rw [eqL_snoc xs ys k (by simpa using hx) (by simpa using hy), Bool.and_assoc]
 | [], _, _, hx, _ => by simp at hx
 | _ :: _, [], _, _, hy => by simp at hy
theorem eqL_no : ∀ (xs ys : List Tr.Nd) (k : Nat) (hx : k < xs.length) (hy : k < ys.length), Tr.eqN xs[k] ys[k] = false → Tr.eqL xs ys = false
 | x :: xs, y :: ys, 0, _, _, h => by simp only [List.getElem_cons_zero] at h; rw [Tr.eqL, h, Bool.false_and]
 | x :: xs, y :: ys, k + 1, hx, hy, h => by
  simp only [List.getElem_cons_succ] at h;rw [Tr.eqL, eqL_no xs ys k (by simpa using hx) (by simpa using hy) h, Bool.and_false]
 | [], _, _, hx, _, _ => by simp at hx
 | _ :: _, [], _, _, hy, _ => by simp at hy
theorem same_step (ks ls : List Tr.Nd) (v1 v2 : Value) (w : World) (h1 : RepL w ks v1) (h2 : RepL w ls v2)
  (hi : ∀ x ∈ ks, ∀ (y : Tr.Nd) (sx sy : Value) (w' : World), RepL w' x.kids sx → RepL w' y.kids sy → Calls Tryz.prog 21 #[.agg #[.int .i64 x.kind, .string ⟨x.text.toArray⟩, .int .i64 x.cols, sx], .agg #[.int .i64 y.kind, .string ⟨y.text.toArray⟩, .int .i64 y.cols, sy]] w' fun e w'' => e = .returned (.bool (Tr.eqN x y)) ∧ Fresh w' w'') :
  Calls Tryz.prog 18 #[v1, v2] w fun e w' => e = .returned (.bool (Tr.eqL ks ls)) ∧ Fresh w w' := by
 have HI := hid hi;clear hi;have hlen := h1.len;unfold maxLen at hlen;obtain ⟨A, cap, rfl⟩ := h1.slice;obtain ⟨B, cbp, rfl⟩ := h2.slice;have HR1 := hid h1;have HR2 := hid h2;clear h1 h2;have HLL := hid (Tr.eqL_len ks ls)
 by_cases c0 : ks.length = ls.length
 ·have b0 : ((ks.length : Int) == (ls.length : Int)) = true := by rw [c0]; simp
  have b0' : ((ks.length : Int) != (ls.length : Int)) = false := by rw [bne, b0]; rfl
  have C0 := hid c0;clear c0;go_enter Tryz.func18, Tryz.ntmps18;go_wp2_with fail
  go_loopw [5] (fun i wr => ∃ j : Nat, i = .int .i64 j ∧ j ≤ ks.length ∧ Hid (Tr.eqL (ks.take j) (ls.take j) = true) ∧ Hid (Fresh w wr)) (fun i _ => ks.length - (intOf i).toNat)
  case atStart => exact ⟨0, rfl, Nat.zero_le _, by simp [Tr.eqL, Hid], Touch.refl _ _⟩
  case round =>
   obtain ⟨j, rfl, hj, HA, HF⟩ := hrel
   by_cases c1 : j < ks.length
   ·have d1 : decide ((j : Int) < (ks.length : Int)) = true := by simp; omega
    have d1' : (j : Int) < (ks.length : Int) := by omega
    have c1y : j < ls.length := by rw [← C0.out]; exact c1
    have d1y : (j : Int) < (ls.length : Int) := by omega
    obtain ⟨g, o, sx, rfl, hg, m0, m1, m2, m3, hrk⟩ := HR1.out.get j c1;obtain ⟨g', o', sy, rfl, hg', n0, n1, n2, n3, hrl⟩ := HR2.out.get j c1y;have HS := hid (eqL_snoc ks ls j c1 c1y);have HN := hid (eqL_no ks ls j c1 c1y);have HX := hid (HI.out ks[j] (List.getElem_mem c1) ls[j] sx sy);have a0 := HF.out.cell m0 (fun h => h);have a1 := HF.out.cell m1 (fun h => h);have a2 := HF.out.cell m2 (fun h => h);have a3 := HF.out.cell m3 (fun h => h);have b0 := HF.out.cell n0 (fun h => h);have b1 := HF.out.cell n1 (fun h => h);have b2 := HF.out.cell n2 (fun h => h);have b3 := HF.out.cell n3 (fun h => h);have HRK := hid hrk;have HRL := hid hrl;clear m0 m1 m2 m3 n0 n1 n2 n3 hrk hrl HI HR1 HR2;generalize ks[j] = x at *;generalize ls[j] = y at *;go_wp2_with fail
    refine forget_world (fun W => Fresh wr W) frR ?_;rintro w4 hfw4;have HF4 := hid hfw4;clear hfw4;obtain ⟨a0_w4, a1_w4, a2_w4, a3_w4⟩ := mv4 HF4.out a0 a1 a2 a3;obtain ⟨b0_w4, b1_w4, b2_w4, b3_w4⟩ := mv4 HF4.out b0 b1 b2 b3;clear a0 a1 a2 a3 b0 b1 b2 b3;have ga0_w4 := cR a0_w4;have ga1_w4 := cR a1_w4;have ga2_w4 := cR a2_w4;have ga3_w4 := cR a3_w4;have gb0_w4 := cR b0_w4;have gb1_w4 := cR b1_w4;have gb2_w4 := cR b2_w4;have gb3_w4 := cR b3_w4;have C0_w4 := hid (calmF (P := Tryz.prog) w4 (fun w hw => HX.out _ (HRK.out.fresh (Touch.trans (HF.out.trans HF4.out) hw)) (HRL.out.fresh (Touch.trans (HF.out.trans HF4.out) hw))));refine wp_region_quiet_below (by kernel_rfl) (by kernel_rfl) ?_
    repeat (quiet_step (first | with_reducible exact C0_w4.out _ _))
    refine wpQuiet_nil ?_;rintro w5 ⟨⟨_, _⟩, hWw5⟩;have hfw5 : Fresh w4 w5 := by rw [hWw5]; exact fresh_of_below (below_regrown _ _ _)
    clear hWw5 ga0_w4 ga1_w4 ga2_w4 ga3_w4 gb0_w4 gb1_w4 gb2_w4 gb3_w4;have HF5 := hid (show Fresh w4 w5 from preA hfw5);obtain ⟨a0_w5, a1_w5, a2_w5, a3_w5⟩ := mv4 HF5.out a0_w4 a1_w4 a2_w4 a3_w4;obtain ⟨b0_w5, b1_w5, b2_w5, b3_w5⟩ := mv4 HF5.out b0_w4 b1_w4 b2_w4 b3_w4;clear a0_w4 a1_w4 a2_w4 a3_w4 b0_w4 b1_w4 b2_w4 b3_w4;clear hfw5;cases h4 : Tr.eqN x y with
    | false =>
     go_wp2_with fail
     go_ret;exact ⟨by rw [HN.out (by assumption)]; rfl, (HF.out.trans (HF4.out.trans HF5.out))⟩
    | true =>
     go_wp2_with fail
     go_roundw
     case rel => exact ⟨j + 1, by go_num, c1, by unfold Hid; rw [HS.out, HA.out]; simpa using (by assumption), (HF.out.trans (HF4.out.trans HF5.out))⟩
     case measure => simp [intOf]; omega
   ·have d1 : decide ((j : Int) < (ks.length : Int)) = false := by simp; omega
    obtain rfl : j = ks.length := by omega
    go_wp2_with fail
    go_ret;refine ⟨?_, HF.out⟩;have := HA.out;rw [List.take_length, C0.out, List.take_length] at this;rw [this]; rfl
 ·have b0 : ((ks.length : Int) == (ls.length : Int)) = false := by rw [beq_eq_false_iff_ne]; omega
  have b0' : ((ks.length : Int) != (ls.length : Int)) = true := by rw [bne, b0]; rfl
  have HLN := hid (HLL.out c0);clear c0;go_enter Tryz.func18, Tryz.ntmps18;go_wp2_with fail
  go_ret;exact ⟨by rw [HLN.out]; rfl, Touch.refl _ _⟩
theorem equal_any (m : Nat) : ∀ (n : Tr.Nd) (y : Tr.Nd) (sl sm : Value) (w : World), Tr.count n ≤ m → RepL w n.kids sl → RepL w y.kids sm →
  Calls Tryz.prog 21 #[.agg #[.int .i64 n.kind, .string ⟨n.text.toArray⟩, .int .i64 n.cols, sl], .agg #[.int .i64 y.kind, .string ⟨y.text.toArray⟩, .int .i64 y.cols, sm]] w fun e w' => e = .returned (.bool (Tr.eqN n y)) ∧ Fresh w w' := by
 induction m with
 | zero => intro n _ _ _ _ h; have := Tr.count_pos n; omega
 | succ m ih =>
  intro n y sl sm w hc h1 h2;refine equal_step n y sl sm w fun w' hf => same_step n.kids y.kids sl sm w' (h1.fresh hf) (h2.fresh hf) fun x hx z sx sz w'' g1 g2 => ih x z sx sz w'' ?_ g1 g2
  have := Tr.count_mem hx;have := Tr.count_kids n;omega
theorem all_snoc' (l : List UInt8) (j : Nat) (h : j < l.length) (p : UInt8 → Bool) : (l.take (j + 1)).all p = ((l.take j).all p && p l[j]) := by
 rw [List.take_add_one, List.getElem?_eq_getElem h, List.all_append]; simp only [Option.toList_some, List.all_cons, List.all_nil, Bool.and_true]
theorem all_no (l : List UInt8) (j : Nat) (h : j < l.length) (p : UInt8 → Bool) (hn : p l[j] = false) : l.all p = false := by
 rw [List.all_eq_false];exact ⟨l[j], List.getElem_mem _, by rw [hn]; decide⟩
theorem isEmpty_str (s : ByteArray) : s.toList.isEmpty = (s.data.toList == []) := by
 rw [ByteArray.toList_eq];cases s.data.toList <;> rfl
theorem all_end (s : ByteArray) (p : UInt8 → Bool) (j : Nat) (hj : j ≤ s.size) (hn : ¬ j < s.size) (h : (s.data.toList.take j).all p = true) : s.data.toList.all p = true := by
 have : s.data.toList.length = s.size := by simp
 rwa [List.take_of_length_le (by omega)] at h
theorem letter_or_256 : ∀ n : Fin 256, Tr.letter (UInt8.ofNat n.1) = (!decide (bits .or .u8 (n.1 : Int) 32 < (97 : Int)) && !decide ((122 : Int) < bits .or .u8 (n.1 : Int) 32)) := by decide +kernel
theorem letter_or (b : UInt8) : Tr.letter b = (!decide (bits .or .u8 (b.toNat : Int) 32 < (97 : Int)) && !decide ((122 : Int) < bits .or .u8 (b.toNat : Int) 32)) := by
 have := letter_or_256 ⟨b.toNat, b.toNat_lt⟩;simpa using this
theorem digit_256 : ∀ n : Fin 256, Tr.digit (UInt8.ofNat n.1) = (!decide ((n.1 : Int) < (48 : Int)) && !decide ((57 : Int) < (n.1 : Int))) := by decide +kernel
theorem digit_or (b : UInt8) : Tr.digit b = (!decide ((b.toNat : Int) < (48 : Int)) && !decide ((57 : Int) < (b.toNat : Int))) := by
 have := digit_256 ⟨b.toNat, b.toNat_lt⟩;simpa using this
def plainB (b : UInt8) : Bool := decide (32 ≤ b) && decide (b ≤ 126)
theorem plain_256 : ∀ n : Fin 256, plainB (UInt8.ofNat n.1) = (!decide ((n.1 : Int) < (32 : Int)) && !decide ((126 : Int) < (n.1 : Int))) := by decide +kernel
theorem plain_or (b : UInt8) : plainB b = (!decide ((b.toNat : Int) < (32 : Int)) && !decide ((126 : Int) < (b.toNat : Int))) := by
 have := plain_256 ⟨b.toNat, b.toNat_lt⟩;simpa using this
theorem letters_any (s : ByteArray) (w : World) (hm : s.size ≤ 9223372036854775807) :
  Calls Tryz.prog 59 #[.string s] w fun e w' => e = .returned (.bool (s.data.toList.all Tr.letter)) ∧ w' = w := by
 go_enter Tryz.func59, Tryz.ntmps59;go_wp2_with fail
 go_loopw [3] (fun i wr => ∃ j : Nat, i = .int .i64 j ∧ j ≤ s.size ∧ Hid ((s.data.toList.take j).all Tr.letter = true) ∧ wr = w) (fun i _ => s.size - (intOf i).toNat)
 case atStart => exact ⟨0, rfl, Nat.zero_le _, by simp [Hid], rfl⟩
 case round =>
  obtain ⟨j, rfl, hj, HA, rfl⟩ := hrel
  by_cases c1 : j < s.size
  ·have d1 : decide ((j : Int) < (s.size : Int)) = true := by simp; omega
   have d1' : (j : Int) < (s.size : Int) := by omega
   obtain ⟨b, hb⟩ : ∃ b, s[j]'c1 = b := ⟨_, rfl⟩;have hst := all_snoc' s.data.toList j (by simpa using c1) Tr.letter;have hno := all_no s.data.toList j (by simpa using c1) Tr.letter;have hbl : s.data.toList[j]'(by simpa using c1) = b := hb;rw [hbl] at hst hno;have HS := hid hst;have HN := hid hno;clear hst hno hbl;cases h1 : decide ((bits .or .u8 (b.toNat : Int) (32 : Int)) < (97 : Int)) with
   | false =>
    cases h2 : decide ((122 : Int) < (bits .or .u8 (b.toNat : Int) (32 : Int))) with
    | false =>
     go_wp2_with fail
     go_roundw
     case rel => exact ⟨j + 1, by go_num, c1, by unfold Hid; rw [HS.out, HA.out]; rw [letter_or]; simp_all, trivial⟩
     case measure => simp [intOf]; omega
    | true =>
     go_wp2_with fail
     go_ret;exact ⟨by rw [HN.out (by rw [letter_or]; simp_all)]; rfl, rfl⟩
   | true =>
    go_wp2_with fail
    go_ret;exact ⟨by rw [HN.out (by rw [letter_or]; simp_all)]; rfl, rfl⟩
  ·have d1 : decide ((j : Int) < (s.size : Int)) = false := by simp; omega
   go_wp2_with fail
   go_ret;exact ⟨by rw [all_end s Tr.letter j hj c1 HA.out]; rfl, rfl⟩
theorem digits_any (s : ByteArray) (w : World) (hm : s.size ≤ 9223372036854775807) :
  Calls Tryz.prog 73 #[.string s] w fun e w' => e = .returned (.bool (s.data.toList.all Tr.digit && !(s.data.toList == []))) ∧ w' = w := by
 go_enter Tryz.func73, Tryz.ntmps73;go_wp2_with fail
 go_loopw [3] (fun i wr => ∃ j : Nat, i = .int .i64 j ∧ j ≤ s.size ∧ Hid ((s.data.toList.take j).all Tr.digit = true) ∧ wr = w) (fun i _ => s.size - (intOf i).toNat)
 case atStart => exact ⟨0, rfl, Nat.zero_le _, by simp [Hid], rfl⟩
 case round =>
  obtain ⟨j, rfl, hj, HA, rfl⟩ := hrel
  by_cases c1 : j < s.size
  ·have d1 : decide ((j : Int) < (s.size : Int)) = true := by simp; omega
   have d1' : (j : Int) < (s.size : Int) := by omega
   obtain ⟨b, hb⟩ : ∃ b, s[j]'c1 = b := ⟨_, rfl⟩;have hst := all_snoc' s.data.toList j (by simpa using c1) Tr.digit;have hno := all_no s.data.toList j (by simpa using c1) Tr.digit;have hbl : s.data.toList[j]'(by simpa using c1) = b := hb;rw [hbl] at hst hno;have HS := hid hst;have HN := hid hno;clear hst hno hbl;cases h3 : decide ((b.toNat : Int) < (48 : Int)) with
   | false =>
    cases h4 : decide ((57 : Int) < (b.toNat : Int)) with
    | false =>
     have h4n : decide (57 < b.toNat) = false := by have hx := h4; simp only [decide_eq_false_iff_not] at hx ⊢; omega
     go_wp2_with fail
     go_roundw
     case rel => exact ⟨j + 1, by go_num, c1, by unfold Hid; rw [HS.out, HA.out]; rw [digit_or]; simp_all, trivial⟩
     case measure => simp [intOf]; omega
    | true =>
     have h4n : decide (57 < b.toNat) = true := by have hx := h4; simp only [decide_eq_true_eq] at hx ⊢; omega
     go_wp2_with fail
     go_ret;exact ⟨by rw [HN.out (by rw [digit_or]; simp_all)]; rfl, rfl⟩
   | true =>
    go_wp2_with fail
    go_ret;exact ⟨by rw [HN.out (by rw [digit_or]; simp_all)]; rfl, rfl⟩
  ·have d1 : decide ((j : Int) < (s.size : Int)) = false := by simp; omega
   cases h5 : (s.data.toList == ([] : List UInt8)) with
   | false =>
    have h5s : (s == (⟨#[]⟩ : ByteArray)) = false := by rw [str_eq']; exact h5
    have h5t : (s != (⟨#[]⟩ : ByteArray)) = true := by rw [bne, h5s]; rfl
    have h5e : (ByteArray.toList s).isEmpty = false := by rw [isEmpty_str]; exact h5
    go_wp2_with fail
    go_ret;exact ⟨ret_bool' _ _ (Eq.symm (by rw [all_end s Tr.digit j hj c1 HA.out, Bool.true_and]; simp only [*]; rfl)), rfl⟩
   | true =>
    have h5s : (s == (⟨#[]⟩ : ByteArray)) = true := by rw [str_eq']; exact h5
    have h5t : (s != (⟨#[]⟩ : ByteArray)) = false := by rw [bne, h5s]; rfl
    have h5e : (ByteArray.toList s).isEmpty = true := by rw [isEmpty_str]; exact h5
    go_wp2_with fail
    go_ret;exact ⟨ret_bool' _ _ (Eq.symm (by rw [all_end s Tr.digit j hj c1 HA.out, Bool.true_and]; simp only [*]; rfl)), rfl⟩
theorem plain_any (s : ByteArray) (w : World) (hm : s.size ≤ 9223372036854775807) :
  Calls Tryz.prog 51 #[.string s] w fun e w' => e = .returned (.bool (s.data.toList.all plainB && decide ((s.size : Int) ≤ (200 : Int)))) ∧ w' = w := by
 go_enter Tryz.func51, Tryz.ntmps51;go_wp2_with fail
 go_loopw [3] (fun i wr => ∃ j : Nat, i = .int .i64 j ∧ j ≤ s.size ∧ Hid ((s.data.toList.take j).all plainB = true) ∧ wr = w) (fun i _ => s.size - (intOf i).toNat)
 case atStart => exact ⟨0, rfl, Nat.zero_le _, by simp [Hid], rfl⟩
 case round =>
  obtain ⟨j, rfl, hj, HA, rfl⟩ := hrel
  by_cases c1 : j < s.size
  ·have d1 : decide ((j : Int) < (s.size : Int)) = true := by simp; omega
   have d1' : (j : Int) < (s.size : Int) := by omega
   obtain ⟨b, hb⟩ : ∃ b, s[j]'c1 = b := ⟨_, rfl⟩;have hst := all_snoc' s.data.toList j (by simpa using c1) plainB;have hno := all_no s.data.toList j (by simpa using c1) plainB;have hbl : s.data.toList[j]'(by simpa using c1) = b := hb;rw [hbl] at hst hno;have HS := hid hst;have HN := hid hno;clear hst hno hbl;cases h6 : decide ((b.toNat : Int) < (32 : Int)) with
   | false =>
    cases h7 : decide ((126 : Int) < (b.toNat : Int)) with
    | false =>
     have h7n : decide (126 < b.toNat) = false := by have hx := h7; simp only [decide_eq_false_iff_not] at hx ⊢; omega
     go_wp2_with fail
     go_roundw
     case rel => exact ⟨j + 1, by go_num, c1, by unfold Hid; rw [HS.out, HA.out]; rw [plain_or]; simp_all, trivial⟩
     case measure => simp [intOf]; omega
    | true =>
     have h7n : decide (126 < b.toNat) = true := by have hx := h7; simp only [decide_eq_true_eq] at hx ⊢; omega
     go_wp2_with fail
     go_ret;exact ⟨by rw [HN.out (by rw [plain_or]; simp_all)]; rfl, rfl⟩
   | true =>
    go_wp2_with fail
    go_ret;exact ⟨by rw [HN.out (by rw [plain_or]; simp_all)]; rfl, rfl⟩
  ·have d1 : decide ((j : Int) < (s.size : Int)) = false := by simp; omega
   cases h8 : decide ((s.size : Int) ≤ (200 : Int)) with
   | false =>
    go_wp2_with fail
    go_ret;exact ⟨ret_bool' _ _ (Eq.symm (by rw [all_end s plainB j hj c1 HA.out, Bool.true_and]; assumption)), rfl⟩
   | true =>
    go_wp2_with fail
    go_ret;exact ⟨ret_bool' _ _ (Eq.symm (by rw [all_end s plainB j hj c1 HA.out, Bool.true_and]; assumption)), rfl⟩
theorem accent_any (s : ByteArray) (w : World) :
  Calls Tryz.prog 52 #[.string s] w fun e w' => e = .returned (.bool (Tr.accents.contains s.data.toList)) ∧ w' = w := by
 go_enter Tryz.func52, Tryz.ntmps52;cases h9 : (s.data.toList == ([104, 97, 116] : List UInt8)) with
 | false =>
  have h9s : (s == (⟨#[104, 97, 116]⟩ : ByteArray)) = false := by rw [str_eq']; exact h9
  have h9t : (s != (⟨#[104, 97, 116]⟩ : ByteArray)) = true := by rw [bne, h9s]; rfl
  have h9l : (ByteArray.toList s == [104, 97, 116]) = false := by rw [ByteArray.toList_eq]; exact h9
  cases h10 : (s.data.toList == ([98, 97, 114] : List UInt8)) with
  | false =>
   have h10s : (s == (⟨#[98, 97, 114]⟩ : ByteArray)) = false := by rw [str_eq']; exact h10
   have h10t : (s != (⟨#[98, 97, 114]⟩ : ByteArray)) = true := by rw [bne, h10s]; rfl
   have h10l : (ByteArray.toList s == [98, 97, 114]) = false := by rw [ByteArray.toList_eq]; exact h10
   cases h11 : (s.data.toList == ([118, 101, 99] : List UInt8)) with
   | false =>
    have h11s : (s == (⟨#[118, 101, 99]⟩ : ByteArray)) = false := by rw [str_eq']; exact h11
    have h11t : (s != (⟨#[118, 101, 99]⟩ : ByteArray)) = true := by rw [bne, h11s]; rfl
    have h11l : (ByteArray.toList s == [118, 101, 99]) = false := by rw [ByteArray.toList_eq]; exact h11
    cases h12 : (s.data.toList == ([100, 111, 116] : List UInt8)) with
    | false =>
     have h12s : (s == (⟨#[100, 111, 116]⟩ : ByteArray)) = false := by rw [str_eq']; exact h12
     have h12t : (s != (⟨#[100, 111, 116]⟩ : ByteArray)) = true := by rw [bne, h12s]; rfl
     have h12l : (ByteArray.toList s == [100, 111, 116]) = false := by rw [ByteArray.toList_eq]; exact h12
     cases h13 : (s.data.toList == ([116, 105, 108, 100, 101] : List UInt8)) with
     | false =>
      have h13s : (s == (⟨#[116, 105, 108, 100, 101]⟩ : ByteArray)) = false := by rw [str_eq']; exact h13
      have h13t : (s != (⟨#[116, 105, 108, 100, 101]⟩ : ByteArray)) = true := by rw [bne, h13s]; rfl
      have h13l : (ByteArray.toList s == [116, 105, 108, 100, 101]) = false := by rw [ByteArray.toList_eq]; exact h13
      cases h14 : (s.data.toList == ([99, 104, 101, 99, 107] : List UInt8)) with
      | false =>
       have h14s : (s == (⟨#[99, 104, 101, 99, 107]⟩ : ByteArray)) = false := by rw [str_eq']; exact h14
       have h14t : (s != (⟨#[99, 104, 101, 99, 107]⟩ : ByteArray)) = true := by rw [bne, h14s]; rfl
       have h14l : (ByteArray.toList s == [99, 104, 101, 99, 107]) = false := by rw [ByteArray.toList_eq]; exact h14
       go_wp2_with fail
       go_ret;exact ⟨ret_bool' _ _ (by simp only [Tr.accents, List.contains_cons, List.contains_nil, *] <;> rfl), rfl⟩
      | true =>
       have h14s : (s == (⟨#[99, 104, 101, 99, 107]⟩ : ByteArray)) = true := by rw [str_eq']; exact h14
       have h14t : (s != (⟨#[99, 104, 101, 99, 107]⟩ : ByteArray)) = false := by rw [bne, h14s]; rfl
       have h14l : (ByteArray.toList s == [99, 104, 101, 99, 107]) = true := by rw [ByteArray.toList_eq]; exact h14
       go_wp2_with fail
       go_ret;exact ⟨ret_bool' _ _ (by simp only [Tr.accents, List.contains_cons, List.contains_nil, *] <;> rfl), rfl⟩
     | true =>
      have h13s : (s == (⟨#[116, 105, 108, 100, 101]⟩ : ByteArray)) = true := by rw [str_eq']; exact h13
      have h13t : (s != (⟨#[116, 105, 108, 100, 101]⟩ : ByteArray)) = false := by rw [bne, h13s]; rfl
      have h13l : (ByteArray.toList s == [116, 105, 108, 100, 101]) = true := by rw [ByteArray.toList_eq]; exact h13
      go_wp2_with fail
      go_ret;exact ⟨ret_bool' _ _ (by simp only [Tr.accents, List.contains_cons, List.contains_nil, *] <;> rfl), rfl⟩
    | true =>
     have h12s : (s == (⟨#[100, 111, 116]⟩ : ByteArray)) = true := by rw [str_eq']; exact h12
     have h12t : (s != (⟨#[100, 111, 116]⟩ : ByteArray)) = false := by rw [bne, h12s]; rfl
     have h12l : (ByteArray.toList s == [100, 111, 116]) = true := by rw [ByteArray.toList_eq]; exact h12
     go_wp2_with fail
     go_ret;exact ⟨ret_bool' _ _ (by simp only [Tr.accents, List.contains_cons, List.contains_nil, *] <;> rfl), rfl⟩
   | true =>
    have h11s : (s == (⟨#[118, 101, 99]⟩ : ByteArray)) = true := by rw [str_eq']; exact h11
    have h11t : (s != (⟨#[118, 101, 99]⟩ : ByteArray)) = false := by rw [bne, h11s]; rfl
    have h11l : (ByteArray.toList s == [118, 101, 99]) = true := by rw [ByteArray.toList_eq]; exact h11
    go_wp2_with fail
    go_ret;exact ⟨ret_bool' _ _ (by simp only [Tr.accents, List.contains_cons, List.contains_nil, *] <;> rfl), rfl⟩
  | true =>
   have h10s : (s == (⟨#[98, 97, 114]⟩ : ByteArray)) = true := by rw [str_eq']; exact h10
   have h10t : (s != (⟨#[98, 97, 114]⟩ : ByteArray)) = false := by rw [bne, h10s]; rfl
   have h10l : (ByteArray.toList s == [98, 97, 114]) = true := by rw [ByteArray.toList_eq]; exact h10
   go_wp2_with fail
   go_ret;exact ⟨ret_bool' _ _ (by simp only [Tr.accents, List.contains_cons, List.contains_nil, *] <;> rfl), rfl⟩
 | true =>
  have h9s : (s == (⟨#[104, 97, 116]⟩ : ByteArray)) = true := by rw [str_eq']; exact h9
  have h9t : (s != (⟨#[104, 97, 116]⟩ : ByteArray)) = false := by rw [bne, h9s]; rfl
  have h9l : (ByteArray.toList s == [104, 97, 116]) = true := by rw [ByteArray.toList_eq]; exact h9
  go_wp2_with fail
  go_ret;exact ⟨ret_bool' _ _ (by simp only [Tr.accents, List.contains_cons, List.contains_nil, *] <;> rfl), rfl⟩
theorem keyword_any (s : ByteArray) (w : World) :
  Calls Tryz.prog 61 #[.string s] w fun e w' => e = .returned (.bool (Tr.keywords.contains s.data.toList)) ∧ w' = w := by
 go_enter Tryz.func61, Tryz.ntmps61;cases h15 : (s.data.toList == ([102, 114, 97, 99] : List UInt8)) with
 | false =>
  have h15s : (s == (⟨#[102, 114, 97, 99]⟩ : ByteArray)) = false := by rw [str_eq']; exact h15
  have h15t : (s != (⟨#[102, 114, 97, 99]⟩ : ByteArray)) = true := by rw [bne, h15s]; rfl
  have h15l : (ByteArray.toList s == [102, 114, 97, 99]) = false := by rw [ByteArray.toList_eq]; exact h15
  cases h16 : (s.data.toList == ([114, 111, 111, 116] : List UInt8)) with
  | false =>
   have h16s : (s == (⟨#[114, 111, 111, 116]⟩ : ByteArray)) = false := by rw [str_eq']; exact h16
   have h16t : (s != (⟨#[114, 111, 111, 116]⟩ : ByteArray)) = true := by rw [bne, h16s]; rfl
   have h16l : (ByteArray.toList s == [114, 111, 111, 116]) = false := by rw [ByteArray.toList_eq]; exact h16
   cases h17 : (s.data.toList == ([109, 97, 116, 114, 105, 120] : List UInt8)) with
   | false =>
    have h17s : (s == (⟨#[109, 97, 116, 114, 105, 120]⟩ : ByteArray)) = false := by rw [str_eq']; exact h17
    have h17t : (s != (⟨#[109, 97, 116, 114, 105, 120]⟩ : ByteArray)) = true := by rw [bne, h17s]; rfl
    have h17l : (ByteArray.toList s == [109, 97, 116, 114, 105, 120]) = false := by rw [ByteArray.toList_eq]; exact h17
    cases h18 : (s.data.toList == ([102, 101, 110, 99, 101] : List UInt8)) with
    | false =>
     have h18s : (s == (⟨#[102, 101, 110, 99, 101]⟩ : ByteArray)) = false := by rw [str_eq']; exact h18
     have h18t : (s != (⟨#[102, 101, 110, 99, 101]⟩ : ByteArray)) = true := by rw [bne, h18s]; rfl
     have h18l : (ByteArray.toList s == [102, 101, 110, 99, 101]) = false := by rw [ByteArray.toList_eq]; exact h18
     go_wp2_with fail
     go_ret;exact ⟨ret_bool' _ _ (by simp only [Tr.keywords, List.contains_cons, List.contains_nil, *] <;> rfl), rfl⟩
    | true =>
     have h18s : (s == (⟨#[102, 101, 110, 99, 101]⟩ : ByteArray)) = true := by rw [str_eq']; exact h18
     have h18t : (s != (⟨#[102, 101, 110, 99, 101]⟩ : ByteArray)) = false := by rw [bne, h18s]; rfl
     have h18l : (ByteArray.toList s == [102, 101, 110, 99, 101]) = true := by rw [ByteArray.toList_eq]; exact h18
     go_wp2_with fail
     go_ret;exact ⟨ret_bool' _ _ (by simp only [Tr.keywords, List.contains_cons, List.contains_nil, *] <;> rfl), rfl⟩
   | true =>
    have h17s : (s == (⟨#[109, 97, 116, 114, 105, 120]⟩ : ByteArray)) = true := by rw [str_eq']; exact h17
    have h17t : (s != (⟨#[109, 97, 116, 114, 105, 120]⟩ : ByteArray)) = false := by rw [bne, h17s]; rfl
    have h17l : (ByteArray.toList s == [109, 97, 116, 114, 105, 120]) = true := by rw [ByteArray.toList_eq]; exact h17
    go_wp2_with fail
    go_ret;exact ⟨ret_bool' _ _ (by simp only [Tr.keywords, List.contains_cons, List.contains_nil, *] <;> rfl), rfl⟩
  | true =>
   have h16s : (s == (⟨#[114, 111, 111, 116]⟩ : ByteArray)) = true := by rw [str_eq']; exact h16
   have h16t : (s != (⟨#[114, 111, 111, 116]⟩ : ByteArray)) = false := by rw [bne, h16s]; rfl
   have h16l : (ByteArray.toList s == [114, 111, 111, 116]) = true := by rw [ByteArray.toList_eq]; exact h16
   go_wp2_with fail
   go_ret;exact ⟨ret_bool' _ _ (by simp only [Tr.keywords, List.contains_cons, List.contains_nil, *] <;> rfl), rfl⟩
 | true =>
  have h15s : (s == (⟨#[102, 114, 97, 99]⟩ : ByteArray)) = true := by rw [str_eq']; exact h15
  have h15t : (s != (⟨#[102, 114, 97, 99]⟩ : ByteArray)) = false := by rw [bne, h15s]; rfl
  have h15l : (ByteArray.toList s == [102, 114, 97, 99]) = true := by rw [ByteArray.toList_eq]; exact h15
  go_wp2_with fail
  go_ret;exact ⟨ret_bool' _ _ (by simp only [Tr.keywords, List.contains_cons, List.contains_nil, *] <;> rfl), rfl⟩
theorem empty_any (s : ByteArray) (w : World) :
  Calls Tryz.prog 49 #[.string s] w fun e w' => e = .returned (.bool (s.data.toList.isEmpty)) ∧ w' = w := by
 go_enter Tryz.func49, Tryz.ntmps49;cases h19 : (s.data.toList == ([] : List UInt8)) with
 | false =>
  have h19s : (s == (⟨#[]⟩ : ByteArray)) = false := by rw [str_eq']; exact h19
  have h19t : (s != (⟨#[]⟩ : ByteArray)) = true := by rw [bne, h19s]; rfl
  have h19e : (ByteArray.toList s).isEmpty = false := by rw [isEmpty_str]; exact h19
  go_wp2_with fail
  go_ret;exact ⟨ret_bool' _ _ (by cases hs : s.data.toList <;> simp_all), rfl⟩
 | true =>
  have h19s : (s == (⟨#[]⟩ : ByteArray)) = true := by rw [str_eq']; exact h19
  have h19t : (s != (⟨#[]⟩ : ByteArray)) = false := by rw [bne, h19s]; rfl
  have h19e : (ByteArray.toList s).isEmpty = true := by rw [isEmpty_str]; exact h19
  go_wp2_with fail
  go_ret;exact ⟨ret_bool' _ _ (by cases hs : s.data.toList <;> simp_all), rfl⟩
end Go.Proofs.YtomibmenojdieaaGreat
