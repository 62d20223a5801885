/- The reference printer's Item: a symbol, a number, a text, a root. -/
import Derived.Test.YtilgpmpiidccjaaPqC
namespace Go.Proofs.Ytilgpmpiidccjaa
open Go.RowKit
open Tr (Nd argT baseT rowT itemT cellsT)

/-- The blocks that a row of the call's own may turn: rows of tokens that are new since w. -/
def PR (w W : World) (k : Nat) : Prop := w.heap.size ≤ k ∧ ∃ cur fr, W.heap[k]? = some (.cells cur 73 fr)
theorem PR.trans {w a b c : World} (h : Touch (PR w a) a b) (k : Touch (PR w b) b c) : Touch (PR w a) a c := by
  refine ⟨k.os.trans h.os, k.tape.trans h.tape, k.output.trans h.output, Nat.le_trans h.size k.size, fun i hi hn => ?_⟩
  have h1 := h.block i hi hn
  refine (k.block i (Nat.lt_of_lt_of_le hi h.size) fun hs => hn ?_).trans h1
  obtain ⟨h2, cur, fr, h3⟩ := hs
  exact ⟨h2, cur, fr, by rw [← h1]; exact h3⟩
theorem PR.fresh {w a b : World} (h : Fresh a b) : Touch (PR w a) a b := h.mono fun _ h => h.elim
theorem PR.then {w a b c : World} (h : Touch (PR w a) a b) (k : Fresh b c) : Touch (PR w a) a c := PR.trans h (PR.fresh k)
theorem PR.grown {w a b c : World} {size n : Nat} {v : Value} {xs : List Value} (h : Touch (PR w a) a b) (ho : b.ownsRow w.heap.size 73 size v n xs) (hg : b.grownBy c v.ownBlock) : Touch (PR w a) a c :=
  PR.trans h (Touch.grown (S := PR w b) (Touch.refl _ b) hg fun g hk => .inl (by
    obtain ⟨h1, cur, h2⟩ := owns_type ho hk
    exact ⟨h1, cur, _, h2⟩))
theorem PR.blk {w a b : World} {g : Nat} {t : TypeId} {cs : Array Value} (h : Touch (PR w a) a b) (hb : Blk a g t cs) (ht : t ≠ 73) : Blk b g t cs := by
  refine h.blk hb ?_
  rintro ⟨_, cur, fr, h3⟩
  unfold Blk at hb
  rw [hb] at h3
  cases h3
  exact ht rfl
theorem PR.old {w a b : World} (h : Touch (PR w a) a b) (hf : Fresh w a) {q : Addr} {v : Value} (hc : w.cell? q = some v) : b.cell? q = some v := by
  have hlt := block_lt_of_cell (a := q) (v := v) hc
  exact h.cell (hf.cell hc (fun h => h)) fun hs => by have := hs.1; omega
theorem PR.all {w a b : World} (h : Touch (PR w a) a b) (hf : Fresh w a) : Fresh w b := hf.trans' h fun _ hs => .inr hs.1

set_option maxRecDepth 100000 in
set_option maxHeartbeats 2000000 in
theorem item_sym1_r (t : List UInt8) (h : t.length = 1) (cl sl : Value) (w : World) : Calls Try.prog 53 #[.agg #[.int .i64 2, .string ⟨t.toArray⟩, cl, sl]] w (TokRes w ([⟨1, t⟩])) := by
  have d1 : decide ((1 : Int) < (t.length : Int)) = false := by simp only [decide_eq_false_iff_not]; omega
  have d2 : decide (1 < t.length) = false := by simp only [decide_eq_false_iff_not]; omega
  have HH := hid h
  clear h
  go_enter Try.func53, Try.ntmps53
  go_wp2_with fail
  go_ret
  exact ⟨.slice (some ⟨w.heap.size + 1, 0, none⟩) 1 1, rfl, ownCast ((own_tok1 (B := w.heap.size) (i := w.heap.size + 1) _ ⟨1, t⟩ (by simp) (by first | assumption | (simp only [World.size_alloc]; omega)))) (by first | rfl | (simp only [List.append_assoc] <;> rfl) | (simp <;> rfl)), (by first | exact (Touch.refl _ _) | exact (Touch.refl _ _).alloc _ | exact ((Touch.refl _ _).alloc _).alloc _ | exact (((Touch.refl _ _).alloc _).alloc _).alloc _ | exact (Touch.refl _ _).drewN _ | exact ((Touch.refl _ _).alloc _).drewN _ | exact (((Touch.refl _ _).alloc _).alloc _).drewN _)⟩
set_option maxRecDepth 100000 in
set_option maxHeartbeats 2000000 in
theorem item_symn_r (t : List UInt8) (h : 1 < t.length) (cl sl : Value) (w : World) : Calls Try.prog 53 #[.agg #[.int .i64 2, .string ⟨t.toArray⟩, cl, sl]] w (TokRes w ([⟨4, t⟩])) := by
  have d1 : decide ((1 : Int) < (t.length : Int)) = true := by simp only [decide_eq_true_eq]; omega
  have d2 : decide (1 < t.length) = true := by simp only [decide_eq_true_eq]; omega
  have d3 : (1 : Int) < (t.length : Int) := by omega
  go_enter Try.func53, Try.ntmps53
  go_wp2_with fail
  refine Calls.mono (rname_any t _) ?_
  rintro _ w1 ⟨rfl, hfw1⟩
  have HF1 := hid (show Fresh w w1 from by first | exact hfw1 | exact Touch.pre hfw1 | exact Touch.pre (Touch.pre hfw1) | exact Touch.ofN hfw1 | exact Touch.preN hfw1 | exact Touch.pre (Touch.pre (Touch.pre hfw1)))
  have B0_w1 : Blk w1 (w.heap.size) 24 #[.int .i64 (2 : Int), .string (⟨t.toArray⟩ : ByteArray), cl, sl] := Touch.blk hfw1 (by first | exact Blk.new _ _ _ | exact (Blk.new _ _ _).alloc _ | exact Blk.new2 _ _ _ _ | exact ((Blk.new _ _ _).alloc _).alloc _ | exact (Blk.new2 _ _ _ _).alloc _ | exact Blk.new3 _ _ _ _ _ | assumption | exact Blk.alloc (by assumption) _ | exact (Blk.alloc (Blk.alloc (by assumption) _) _)) (fun h => h)
  have q0_0_w1 : World.cell? w1 ⟨w.heap.size, 0, none⟩ = some (.int .i64 (2 : Int)) := Blk.cell B0_w1 0
  have q0_1_w1 : World.cell? w1 ⟨w.heap.size, 1, none⟩ = some (.string (⟨t.toArray⟩ : ByteArray)) := Blk.cell B0_w1 1
  have q0_2_w1 : World.cell? w1 ⟨w.heap.size, 2, none⟩ = some (cl) := Blk.cell B0_w1 2
  have q0_3_w1 : World.cell? w1 ⟨w.heap.size, 3, none⟩ = some (sl) := Blk.cell B0_w1 3
  have hltb0_w1 : w.heap.size < w1.heap.size := Blk.lt B0_w1
  have hsz_w1 : w.heap.size ≤ w1.heap.size := Touch.size HF1.out
  clear hfw1
  go_wp2_with fail
  go_ret
  exact ⟨.slice (some ⟨w1.heap.size, 0, none⟩) 1 1, rfl, ownCast ((own_tok1 (B := w.heap.size) (i := w1.heap.size) _ (⟨4, t⟩ : Lx.Tok) (by simp) (by first | assumption | (simp only [World.size_alloc]; omega)))) (by first | rfl | (simp only [List.append_assoc] <;> rfl) | (simp <;> rfl)), (by first | exact HF1.out | exact HF1.out.alloc _ | exact (HF1.out.alloc _).alloc _ | exact ((HF1.out.alloc _).alloc _).alloc _ | exact HF1.out.drewN _ | exact (HF1.out.alloc _).drewN _ | exact ((HF1.out.alloc _).alloc _).drewN _)⟩
set_option maxRecDepth 100000 in
set_option maxHeartbeats 2000000 in
theorem item_num_r (t : List UInt8)  (cl sl : Value) (w : World) : Calls Try.prog 53 #[.agg #[.int .i64 3, .string ⟨t.toArray⟩, cl, sl]] w (TokRes w ([⟨2, t⟩])) := by
  go_enter Try.func53, Try.ntmps53
  go_wp2_with fail
  go_ret
  exact ⟨.slice (some ⟨w.heap.size + 1, 0, none⟩) 1 1, rfl, ownCast ((own_tok1 (B := w.heap.size) (i := w.heap.size + 1) _ ⟨2, t⟩ (by simp) (by first | assumption | (simp only [World.size_alloc]; omega)))) (by first | rfl | (simp only [List.append_assoc] <;> rfl) | (simp <;> rfl)), (by first | exact (Touch.refl _ _) | exact (Touch.refl _ _).alloc _ | exact ((Touch.refl _ _).alloc _).alloc _ | exact (((Touch.refl _ _).alloc _).alloc _).alloc _ | exact (Touch.refl _ _).drewN _ | exact ((Touch.refl _ _).alloc _).drewN _ | exact (((Touch.refl _ _).alloc _).alloc _).drewN _)⟩
set_option maxRecDepth 100000 in
set_option maxHeartbeats 2000000 in
theorem item_text_r (t : List UInt8)  (cl sl : Value) (w : World) : Calls Try.prog 53 #[.agg #[.int .i64 4, .string ⟨t.toArray⟩, cl, sl]] w (TokRes w ([⟨3, t⟩])) := by
  go_enter Try.func53, Try.ntmps53
  go_wp2_with fail
  go_ret
  exact ⟨.slice (some ⟨w.heap.size + 1, 0, none⟩) 1 1, rfl, ownCast ((own_tok1 (B := w.heap.size) (i := w.heap.size + 1) _ ⟨3, t⟩ (by simp) (by first | assumption | (simp only [World.size_alloc]; omega)))) (by first | rfl | (simp only [List.append_assoc] <;> rfl) | (simp <;> rfl)), (by first | exact (Touch.refl _ _) | exact (Touch.refl _ _).alloc _ | exact ((Touch.refl _ _).alloc _).alloc _ | exact (((Touch.refl _ _).alloc _).alloc _).alloc _ | exact (Touch.refl _ _).drewN _ | exact ((Touch.refl _ _).alloc _).drewN _ | exact (((Touch.refl _ _).alloc _).alloc _).drewN _)⟩
set_option maxRecDepth 100000 in
set_option maxHeartbeats 2000000 in
theorem item_root_full (tx cl : Value) (a b : Nd) (hk : a.kids ≠ []) (ha : RowR a) (hb : ArgR b) (hl : (rowT a.kids ++ argT b : List Lx.Tok).length ≤ 50000) (w : World) (sl : Value) (hsl : RepL w [a, b] sl) : Calls Try.prog 53 #[.agg #[.int .i64 6, tx, cl, sl]] w (TokRes w ([Tr.name Tr.sRoot] ++ ([Tr.mk7 91] ++ (rowT a.kids ++ ([Tr.mk7 93] ++ argT b))))) := by
  obtain ⟨g, o, cap, sa, sb, rfl, a0, a1, a2, a3, hra, b0, b1, b2, b3, hrb⟩ := hsl.two
  obtain ⟨Aa, capa, rfl⟩ := hra.slice
  obtain ⟨i0, hi, hz0, hz1, hz2⟩ := info_parts infoRTok
  have ROWa := hid ha
  have HRa := hid hra
  clear ha
  have ARGb := hid hb
  have HRb := hid hrb
  have HLEN := hid hl
  have hpos : 0 < a.kids.length := by exact List.length_pos_iff.2 hk
  have d1 : decide ((0 : Int) < (a.kids.length : Int)) = true := by simp only [decide_eq_true_eq]; omega
  have d1n : decide (0 < a.kids.length) = true := by simp only [decide_eq_true_eq]; omega
  have d1' : (0 : Int) < (a.kids.length : Int) := by omega
  clear hpos
  clear hb hsl hra hrb hk hl
  have XA0 := hid a0
  have XA1 := hid a1
  have XA2 := hid a2
  have XA3 := hid a3
  have XB0 := hid b0
  have XB1 := hid b1
  have XB2 := hid b2
  have XB3 := hid b3
  clear a0 a1 a2 a3 b0 b1 b2 b3
  have xa0_w : World.cell? w ⟨g, o, none⟩ = some (.int .i64 a.kind) := XA0.out
  have xa1_w : World.cell? w ⟨g, o + 1, none⟩ = some (.string (⟨a.text.toArray⟩ : ByteArray)) := XA1.out
  have xa2_w : World.cell? w ⟨g, o + 2, none⟩ = some (.int .i64 a.cols) := XA2.out
  have xa3_w : World.cell? w ⟨g, o + 3, none⟩ = some (.slice Aa a.kids.length capa) := XA3.out
  have xb0_w : World.cell? w ⟨g, o + 4, none⟩ = some (.int .i64 b.kind) := XB0.out
  have xb1_w : World.cell? w ⟨g, o + 4 + 1, none⟩ = some (.string (⟨b.text.toArray⟩ : ByteArray)) := XB1.out
  have xb2_w : World.cell? w ⟨g, o + 4 + 2, none⟩ = some (.int .i64 b.cols) := XB2.out
  have xb3_w : World.cell? w ⟨g, o + 4 + 3, none⟩ = some (sb) := XB3.out
  have hlt_g_w : g < w.heap.size := block_lt_of_cell xa0_w
  go_enter Try.func53, Try.ntmps53
  go_wp2_with fail
  refine Calls.mono (rname_any [114, 111, 111, 116] _) ?_
  rintro _ w1 ⟨rfl, hfw1⟩
  have HF1 := hid (show Fresh w w1 from by first | exact hfw1 | exact Touch.pre hfw1 | exact Touch.pre (Touch.pre hfw1) | exact Touch.ofN hfw1 | exact Touch.preN hfw1 | exact Touch.pre (Touch.pre (Touch.pre hfw1)))
  have B0_w1 : Blk w1 (w.heap.size) 24 #[.int .i64 (6 : Int), tx, cl, .slice (some ⟨g, o, none⟩) 2 cap] := Touch.blk hfw1 (by first | exact Blk.new _ _ _ | exact (Blk.new _ _ _).alloc _ | exact Blk.new2 _ _ _ _ | exact ((Blk.new _ _ _).alloc _).alloc _ | exact (Blk.new2 _ _ _ _).alloc _ | exact Blk.new3 _ _ _ _ _ | assumption | exact Blk.alloc (by assumption) _ | exact (Blk.alloc (Blk.alloc (by assumption) _) _)) (fun h => h)
  have q0_0_w1 : World.cell? w1 ⟨w.heap.size, 0, none⟩ = some (.int .i64 (6 : Int)) := Blk.cell B0_w1 0
  have q0_1_w1 : World.cell? w1 ⟨w.heap.size, 1, none⟩ = some (tx) := Blk.cell B0_w1 1
  have q0_2_w1 : World.cell? w1 ⟨w.heap.size, 2, none⟩ = some (cl) := Blk.cell B0_w1 2
  have q0_3_w1 : World.cell? w1 ⟨w.heap.size, 3, none⟩ = some (.slice (some ⟨g, o, none⟩) 2 cap) := Blk.cell B0_w1 3
  have hltb0_w1 : w.heap.size < w1.heap.size := Blk.lt B0_w1
  have xa0_w1 : World.cell? w1 ⟨g, o, none⟩ = some (.int .i64 a.kind) := Touch.cell HF1.out xa0_w (fun h => h)
  have xa1_w1 : World.cell? w1 ⟨g, o + 1, none⟩ = some (.string (⟨a.text.toArray⟩ : ByteArray)) := Touch.cell HF1.out xa1_w (fun h => h)
  have xa2_w1 : World.cell? w1 ⟨g, o + 2, none⟩ = some (.int .i64 a.cols) := Touch.cell HF1.out xa2_w (fun h => h)
  have xa3_w1 : World.cell? w1 ⟨g, o + 3, none⟩ = some (.slice Aa a.kids.length capa) := Touch.cell HF1.out xa3_w (fun h => h)
  have xb0_w1 : World.cell? w1 ⟨g, o + 4, none⟩ = some (.int .i64 b.kind) := Touch.cell HF1.out xb0_w (fun h => h)
  have xb1_w1 : World.cell? w1 ⟨g, o + 4 + 1, none⟩ = some (.string (⟨b.text.toArray⟩ : ByteArray)) := Touch.cell HF1.out xb1_w (fun h => h)
  have xb2_w1 : World.cell? w1 ⟨g, o + 4 + 2, none⟩ = some (.int .i64 b.cols) := Touch.cell HF1.out xb2_w (fun h => h)
  have xb3_w1 : World.cell? w1 ⟨g, o + 4 + 3, none⟩ = some (sb) := Touch.cell HF1.out xb3_w (fun h => h)
  clear xa0_w xa1_w xa2_w xa3_w xb0_w xb1_w xb2_w xb3_w
  have hsz_w1 : w.heap.size ≤ w1.heap.size := Touch.size HF1.out
  have hlt_g_w1 : g < w1.heap.size := block_lt_of_cell xa0_w1
  clear hfw1
  go_wp2_with fail
  refine Calls.mono (ROWa.out _ _ (HRa.out.fresh (by first | exact HF1.out | exact HF1.out.alloc _ | exact (HF1.out.alloc _).alloc _ | exact ((HF1.out.alloc _).alloc _).alloc _ | exact HF1.out.drewN _ | exact (HF1.out.alloc _).drewN _ | exact ((HF1.out.alloc _).alloc _).drewN _))) ?_
  rintro _ w2 ⟨v2, rfl, how2, hfw2⟩
  have O2_w2 := hid (ownsRow_base (B' := w.heap.size) how2 (by first | exact Nat.le_refl _ | assumption | (simp only [World.size_alloc]; omega)))
  clear how2
  have HF2 := hid (show Fresh w1 w2 from by first | exact hfw2 | exact Touch.pre hfw2 | exact Touch.pre (Touch.pre hfw2) | exact Touch.ofN hfw2 | exact Touch.preN hfw2 | exact Touch.pre (Touch.pre (Touch.pre hfw2)))
  have B0_w2 : Blk w2 (w.heap.size) 24 #[.int .i64 (6 : Int), tx, cl, .slice (some ⟨g, o, none⟩) 2 cap] := Touch.blk hfw2 (by first | exact Blk.new _ _ _ | exact (Blk.new _ _ _).alloc _ | exact Blk.new2 _ _ _ _ | exact ((Blk.new _ _ _).alloc _).alloc _ | exact (Blk.new2 _ _ _ _).alloc _ | exact Blk.new3 _ _ _ _ _ | assumption | exact Blk.alloc (by assumption) _ | exact (Blk.alloc (Blk.alloc (by assumption) _) _)) (fun h => h)
  clear q0_0_w1 q0_1_w1 q0_2_w1 q0_3_w1 B0_w1
  have q0_0_w2 : World.cell? w2 ⟨w.heap.size, 0, none⟩ = some (.int .i64 (6 : Int)) := Blk.cell B0_w2 0
  have q0_1_w2 : World.cell? w2 ⟨w.heap.size, 1, none⟩ = some (tx) := Blk.cell B0_w2 1
  have q0_2_w2 : World.cell? w2 ⟨w.heap.size, 2, none⟩ = some (cl) := Blk.cell B0_w2 2
  have q0_3_w2 : World.cell? w2 ⟨w.heap.size, 3, none⟩ = some (.slice (some ⟨g, o, none⟩) 2 cap) := Blk.cell B0_w2 3
  have hltb0_w2 : w.heap.size < w2.heap.size := Blk.lt B0_w2
  have xa0_w2 : World.cell? w2 ⟨g, o, none⟩ = some (.int .i64 a.kind) := Touch.cell HF2.out xa0_w1 (fun h => h)
  have xa1_w2 : World.cell? w2 ⟨g, o + 1, none⟩ = some (.string (⟨a.text.toArray⟩ : ByteArray)) := Touch.cell HF2.out xa1_w1 (fun h => h)
  have xa2_w2 : World.cell? w2 ⟨g, o + 2, none⟩ = some (.int .i64 a.cols) := Touch.cell HF2.out xa2_w1 (fun h => h)
  have xa3_w2 : World.cell? w2 ⟨g, o + 3, none⟩ = some (.slice Aa a.kids.length capa) := Touch.cell HF2.out xa3_w1 (fun h => h)
  have xb0_w2 : World.cell? w2 ⟨g, o + 4, none⟩ = some (.int .i64 b.kind) := Touch.cell HF2.out xb0_w1 (fun h => h)
  have xb1_w2 : World.cell? w2 ⟨g, o + 4 + 1, none⟩ = some (.string (⟨b.text.toArray⟩ : ByteArray)) := Touch.cell HF2.out xb1_w1 (fun h => h)
  have xb2_w2 : World.cell? w2 ⟨g, o + 4 + 2, none⟩ = some (.int .i64 b.cols) := Touch.cell HF2.out xb2_w1 (fun h => h)
  have xb3_w2 : World.cell? w2 ⟨g, o + 4 + 3, none⟩ = some (sb) := Touch.cell HF2.out xb3_w1 (fun h => h)
  clear xa0_w1 xa1_w1 xa2_w1 xa3_w1 xb0_w1 xb1_w1 xb2_w1 xb3_w1
  have hsz_w2 : w.heap.size ≤ w2.heap.size := Touch.size (HF1.out.trans HF2.out)
  have O1_w2 := hid (ownsRow_touch ((own_tok1 (B := w.heap.size) (i := w1.heap.size) _ (⟨4, [114, 111, 111, 116]⟩ : Lx.Tok) (by simp) (by first | assumption | (simp only [World.size_alloc]; omega)))) hfw2 (fun _ _ h => h))
  have hlt_g_w2 : g < w2.heap.size := block_lt_of_cell xa0_w2
  clear hfw2
  go_wp2_with fail
  refine Calls.mono (rin_any [91] [93] ((rowT a.kids)) _ _ (Src.of_own O2_w2.out) (by have := HLEN.out; (try simp at this); (try simp); omega)) ?_
  rintro _ w3 ⟨v3, rfl, how3, hfw3⟩
  have O3_w3 := hid (ownsRow_base (B' := w.heap.size) how3 (by first | exact Nat.le_refl _ | assumption | (simp only [World.size_alloc]; omega)))
  clear how3
  have HF3 := hid (show Fresh w2 w3 from by first | exact hfw3 | exact Touch.pre hfw3 | exact Touch.pre (Touch.pre hfw3) | exact Touch.ofN hfw3 | exact Touch.preN hfw3 | exact Touch.pre (Touch.pre (Touch.pre hfw3)))
  have B0_w3 : Blk w3 (w.heap.size) 24 #[.int .i64 (6 : Int), tx, cl, .slice (some ⟨g, o, none⟩) 2 cap] := Touch.blk hfw3 (by first | exact Blk.new _ _ _ | exact (Blk.new _ _ _).alloc _ | exact Blk.new2 _ _ _ _ | exact ((Blk.new _ _ _).alloc _).alloc _ | exact (Blk.new2 _ _ _ _).alloc _ | exact Blk.new3 _ _ _ _ _ | assumption | exact Blk.alloc (by assumption) _ | exact (Blk.alloc (Blk.alloc (by assumption) _) _)) (fun h => h)
  clear q0_0_w2 q0_1_w2 q0_2_w2 q0_3_w2 B0_w2
  have q0_0_w3 : World.cell? w3 ⟨w.heap.size, 0, none⟩ = some (.int .i64 (6 : Int)) := Blk.cell B0_w3 0
  have q0_1_w3 : World.cell? w3 ⟨w.heap.size, 1, none⟩ = some (tx) := Blk.cell B0_w3 1
  have q0_2_w3 : World.cell? w3 ⟨w.heap.size, 2, none⟩ = some (cl) := Blk.cell B0_w3 2
  have q0_3_w3 : World.cell? w3 ⟨w.heap.size, 3, none⟩ = some (.slice (some ⟨g, o, none⟩) 2 cap) := Blk.cell B0_w3 3
  have hltb0_w3 : w.heap.size < w3.heap.size := Blk.lt B0_w3
  have xa0_w3 : World.cell? w3 ⟨g, o, none⟩ = some (.int .i64 a.kind) := Touch.cell HF3.out xa0_w2 (fun h => h)
  have xa1_w3 : World.cell? w3 ⟨g, o + 1, none⟩ = some (.string (⟨a.text.toArray⟩ : ByteArray)) := Touch.cell HF3.out xa1_w2 (fun h => h)
  have xa2_w3 : World.cell? w3 ⟨g, o + 2, none⟩ = some (.int .i64 a.cols) := Touch.cell HF3.out xa2_w2 (fun h => h)
  have xa3_w3 : World.cell? w3 ⟨g, o + 3, none⟩ = some (.slice Aa a.kids.length capa) := Touch.cell HF3.out xa3_w2 (fun h => h)
  have xb0_w3 : World.cell? w3 ⟨g, o + 4, none⟩ = some (.int .i64 b.kind) := Touch.cell HF3.out xb0_w2 (fun h => h)
  have xb1_w3 : World.cell? w3 ⟨g, o + 4 + 1, none⟩ = some (.string (⟨b.text.toArray⟩ : ByteArray)) := Touch.cell HF3.out xb1_w2 (fun h => h)
  have xb2_w3 : World.cell? w3 ⟨g, o + 4 + 2, none⟩ = some (.int .i64 b.cols) := Touch.cell HF3.out xb2_w2 (fun h => h)
  have xb3_w3 : World.cell? w3 ⟨g, o + 4 + 3, none⟩ = some (sb) := Touch.cell HF3.out xb3_w2 (fun h => h)
  clear xa0_w2 xa1_w2 xa2_w2 xa3_w2 xb0_w2 xb1_w2 xb2_w2 xb3_w2
  have hsz_w3 : w.heap.size ≤ w3.heap.size := Touch.size ((HF1.out.trans HF2.out).trans HF3.out)
  have O1_w3 := hid (ownsRow_touch O1_w2.out HF3.out (fun _ _ h => h))
  clear O1_w2
  have hlt_g_w3 : g < w3.heap.size := block_lt_of_cell xa0_w3
  clear hfw3
  go_wp2_with (at_builtin; refine wpList_append_src _ rfl (.tmp 61) (.tmp 67) 34 rfl w.heap.size 73 i0 _ 4 40 Try.underlying34 hi hz0 hz1 hz2 rfl (by decide) (.slice (some ⟨w1.heap.size, 0, none⟩) 1 1) ([(⟨4, [114, 111, 111, 116]⟩ : Lx.Tok)]).length (([(⟨4, [114, 111, 111, 116]⟩ : Lx.Tok)]).flatMap tokC) (by simp [Act.eval]) O1_w3.out (v3) ((([⟨7, [91]⟩] : List Lx.Tok) ++ ((rowT a.kids) ++ ([⟨7, [93]⟩] : List Lx.Tok)))).length (((([⟨7, [91]⟩] : List Lx.Tok) ++ ((rowT a.kids) ++ ([⟨7, [93]⟩] : List Lx.Tok)))).flatMap tokC) (by simp [Act.eval]) (Src.of_own O3_w3.out) (tok_one _) (by have := HLEN.out; unfold maxLen; (try simp at this); (try simp); omega) (by have := HLEN.out; (try simp at this); (try simp); omega) (by first | exact Nat.le_refl _ | assumption | (simp only [World.size_alloc]; omega)) ?_; intro v4 y4 o4 go4 _; refine Stay.mk ?_)
  rw [← List.length_append, ← List.flatMap_append] at o4
  have HEy4 := hid (show Fresh w y4 from grown_fresh go4 O1_w3.out (by first | exact (HF1.out.trans (HF2.out.trans HF3.out)) | exact (HF1.out.trans (HF2.out.trans HF3.out)).alloc _ | exact ((HF1.out.trans (HF2.out.trans HF3.out)).alloc _).alloc _ | exact (((HF1.out.trans (HF2.out.trans HF3.out)).alloc _).alloc _).alloc _ | exact (HF1.out.trans (HF2.out.trans HF3.out)).drewN _ | exact ((HF1.out.trans (HF2.out.trans HF3.out)).alloc _).drewN _ | exact (((HF1.out.trans (HF2.out.trans HF3.out)).alloc _).alloc _).drewN _))
  have hsz_y4 : w.heap.size ≤ y4.heap.size := Touch.size HEy4.out
  have B0_y4 : Blk y4 (w.heap.size) 24 #[.int .i64 (6 : Int), tx, cl, .slice (some ⟨g, o, none⟩) 2 cap] := grown_blk (by first | exact Blk.new _ _ _ | exact (Blk.new _ _ _).alloc _ | exact Blk.new2 _ _ _ _ | exact ((Blk.new _ _ _).alloc _).alloc _ | exact (Blk.new2 _ _ _ _).alloc _ | exact Blk.new3 _ _ _ _ _ | assumption | exact Blk.alloc (by assumption) _ | exact (Blk.alloc (Blk.alloc (by assumption) _) _)) O1_w3.out go4 (by decide)
  clear q0_0_w3 q0_1_w3 q0_2_w3 q0_3_w3 B0_w3
  have q0_0_y4 : World.cell? y4 ⟨w.heap.size, 0, none⟩ = some (.int .i64 (6 : Int)) := Blk.cell B0_y4 0
  have q0_1_y4 : World.cell? y4 ⟨w.heap.size, 1, none⟩ = some (tx) := Blk.cell B0_y4 1
  have q0_2_y4 : World.cell? y4 ⟨w.heap.size, 2, none⟩ = some (cl) := Blk.cell B0_y4 2
  have q0_3_y4 : World.cell? y4 ⟨w.heap.size, 3, none⟩ = some (.slice (some ⟨g, o, none⟩) 2 cap) := Blk.cell B0_y4 3
  have hltb0_y4 : w.heap.size < y4.heap.size := Blk.lt B0_y4
  clear xa0_w3 xa1_w3 xa2_w3 xa3_w3 xb0_w3 xb1_w3 xb2_w3 xb3_w3
  have xa0_y4 : World.cell? y4 ⟨g, o, none⟩ = some (.int .i64 a.kind) := Touch.cell HEy4.out XA0.out (fun h => h)
  have xa1_y4 : World.cell? y4 ⟨g, o + 1, none⟩ = some (.string (⟨a.text.toArray⟩ : ByteArray)) := Touch.cell HEy4.out XA1.out (fun h => h)
  have xa2_y4 : World.cell? y4 ⟨g, o + 2, none⟩ = some (.int .i64 a.cols) := Touch.cell HEy4.out XA2.out (fun h => h)
  have xa3_y4 : World.cell? y4 ⟨g, o + 3, none⟩ = some (.slice Aa a.kids.length capa) := Touch.cell HEy4.out XA3.out (fun h => h)
  have xb0_y4 : World.cell? y4 ⟨g, o + 4, none⟩ = some (.int .i64 b.kind) := Touch.cell HEy4.out XB0.out (fun h => h)
  have xb1_y4 : World.cell? y4 ⟨g, o + 4 + 1, none⟩ = some (.string (⟨b.text.toArray⟩ : ByteArray)) := Touch.cell HEy4.out XB1.out (fun h => h)
  have xb2_y4 : World.cell? y4 ⟨g, o + 4 + 2, none⟩ = some (.int .i64 b.cols) := Touch.cell HEy4.out XB2.out (fun h => h)
  have xb3_y4 : World.cell? y4 ⟨g, o + 4 + 3, none⟩ = some (sb) := Touch.cell HEy4.out XB3.out (fun h => h)
  have hlt_g_y4 : g < y4.heap.size := block_lt_of_cell xa0_y4
  have O4_y4 := hid o4
  clear go4 o4 O1_w3 O3_w3
  refine Stay.go ?_
  go_wp2_with fail
  refine Calls.mono (ARGb.out _ _ (HRb.out.fresh (by first | exact HEy4.out | exact HEy4.out.alloc _ | exact (HEy4.out.alloc _).alloc _ | exact ((HEy4.out.alloc _).alloc _).alloc _ | exact HEy4.out.drewN _ | exact (HEy4.out.alloc _).drewN _ | exact ((HEy4.out.alloc _).alloc _).drewN _))) ?_
  rintro _ w4 ⟨v5, rfl, how4, hfw4⟩
  have O5_w4 := hid (ownsRow_base (B' := w.heap.size) how4 (by first | exact Nat.le_refl _ | assumption | (simp only [World.size_alloc]; omega)))
  clear how4
  have HF4 := hid (show Fresh y4 w4 from by first | exact hfw4 | exact Touch.pre hfw4 | exact Touch.pre (Touch.pre hfw4) | exact Touch.ofN hfw4 | exact Touch.preN hfw4 | exact Touch.pre (Touch.pre (Touch.pre hfw4)))
  have B0_w4 : Blk w4 (w.heap.size) 24 #[.int .i64 (6 : Int), tx, cl, .slice (some ⟨g, o, none⟩) 2 cap] := Touch.blk hfw4 (by first | exact Blk.new _ _ _ | exact (Blk.new _ _ _).alloc _ | exact Blk.new2 _ _ _ _ | exact ((Blk.new _ _ _).alloc _).alloc _ | exact (Blk.new2 _ _ _ _).alloc _ | exact Blk.new3 _ _ _ _ _ | assumption | exact Blk.alloc (by assumption) _ | exact (Blk.alloc (Blk.alloc (by assumption) _) _)) (fun h => h)
  clear q0_0_y4 q0_1_y4 q0_2_y4 q0_3_y4 B0_y4
  have q0_0_w4 : World.cell? w4 ⟨w.heap.size, 0, none⟩ = some (.int .i64 (6 : Int)) := Blk.cell B0_w4 0
  have q0_1_w4 : World.cell? w4 ⟨w.heap.size, 1, none⟩ = some (tx) := Blk.cell B0_w4 1
  have q0_2_w4 : World.cell? w4 ⟨w.heap.size, 2, none⟩ = some (cl) := Blk.cell B0_w4 2
  have q0_3_w4 : World.cell? w4 ⟨w.heap.size, 3, none⟩ = some (.slice (some ⟨g, o, none⟩) 2 cap) := Blk.cell B0_w4 3
  have hltb0_w4 : w.heap.size < w4.heap.size := Blk.lt B0_w4
  have xa0_w4 : World.cell? w4 ⟨g, o, none⟩ = some (.int .i64 a.kind) := Touch.cell HF4.out xa0_y4 (fun h => h)
  have xa1_w4 : World.cell? w4 ⟨g, o + 1, none⟩ = some (.string (⟨a.text.toArray⟩ : ByteArray)) := Touch.cell HF4.out xa1_y4 (fun h => h)
  have xa2_w4 : World.cell? w4 ⟨g, o + 2, none⟩ = some (.int .i64 a.cols) := Touch.cell HF4.out xa2_y4 (fun h => h)
  have xa3_w4 : World.cell? w4 ⟨g, o + 3, none⟩ = some (.slice Aa a.kids.length capa) := Touch.cell HF4.out xa3_y4 (fun h => h)
  have xb0_w4 : World.cell? w4 ⟨g, o + 4, none⟩ = some (.int .i64 b.kind) := Touch.cell HF4.out xb0_y4 (fun h => h)
  have xb1_w4 : World.cell? w4 ⟨g, o + 4 + 1, none⟩ = some (.string (⟨b.text.toArray⟩ : ByteArray)) := Touch.cell HF4.out xb1_y4 (fun h => h)
  have xb2_w4 : World.cell? w4 ⟨g, o + 4 + 2, none⟩ = some (.int .i64 b.cols) := Touch.cell HF4.out xb2_y4 (fun h => h)
  have xb3_w4 : World.cell? w4 ⟨g, o + 4 + 3, none⟩ = some (sb) := Touch.cell HF4.out xb3_y4 (fun h => h)
  clear xa0_y4 xa1_y4 xa2_y4 xa3_y4 xb0_y4 xb1_y4 xb2_y4 xb3_y4
  have hsz_w4 : w.heap.size ≤ w4.heap.size := Touch.size (HEy4.out.trans HF4.out)
  have O4_w4 := hid (ownsRow_touch O4_y4.out HF4.out (fun _ _ h => h))
  clear O4_y4
  have hlt_g_w4 : g < w4.heap.size := block_lt_of_cell xa0_w4
  clear hfw4
  go_wp2_with (at_builtin; refine wpList_append_src _ rfl (.tmp 69) (.tmp 74) 34 rfl w.heap.size 73 i0 _ 4 40 Try.underlying34 hi hz0 hz1 hz2 rfl (by decide) (v4) (([(⟨4, [114, 111, 111, 116]⟩ : Lx.Tok)] ++ (([⟨7, [91]⟩] : List Lx.Tok) ++ ((rowT a.kids) ++ ([⟨7, [93]⟩] : List Lx.Tok))))).length ((([(⟨4, [114, 111, 111, 116]⟩ : Lx.Tok)] ++ (([⟨7, [91]⟩] : List Lx.Tok) ++ ((rowT a.kids) ++ ([⟨7, [93]⟩] : List Lx.Tok))))).flatMap tokC) (by simp [Act.eval]) O4_w4.out (v5) ((argT b)).length (((argT b)).flatMap tokC) (by simp [Act.eval]) (Src.of_own O5_w4.out) (tok_one _) (by have := HLEN.out; unfold maxLen; (try simp at this); (try simp); omega) (by have := HLEN.out; (try simp at this); (try simp); omega) (by first | exact Nat.le_refl _ | assumption | (simp only [World.size_alloc]; omega)) ?_; intro v6 y6 o6 go6 _; refine Stay.mk ?_)
  rw [← List.length_append, ← List.flatMap_append] at o6
  have HEy6 := hid (show Fresh w y6 from grown_fresh go6 O4_w4.out (by first | exact (HEy4.out.trans HF4.out) | exact (HEy4.out.trans HF4.out).alloc _ | exact ((HEy4.out.trans HF4.out).alloc _).alloc _ | exact (((HEy4.out.trans HF4.out).alloc _).alloc _).alloc _ | exact (HEy4.out.trans HF4.out).drewN _ | exact ((HEy4.out.trans HF4.out).alloc _).drewN _ | exact (((HEy4.out.trans HF4.out).alloc _).alloc _).drewN _))
  have hsz_y6 : w.heap.size ≤ y6.heap.size := Touch.size HEy6.out
  have B0_y6 : Blk y6 (w.heap.size) 24 #[.int .i64 (6 : Int), tx, cl, .slice (some ⟨g, o, none⟩) 2 cap] := grown_blk (by first | exact Blk.new _ _ _ | exact (Blk.new _ _ _).alloc _ | exact Blk.new2 _ _ _ _ | exact ((Blk.new _ _ _).alloc _).alloc _ | exact (Blk.new2 _ _ _ _).alloc _ | exact Blk.new3 _ _ _ _ _ | assumption | exact Blk.alloc (by assumption) _ | exact (Blk.alloc (Blk.alloc (by assumption) _) _)) O4_w4.out go6 (by decide)
  clear q0_0_w4 q0_1_w4 q0_2_w4 q0_3_w4 B0_w4
  have q0_0_y6 : World.cell? y6 ⟨w.heap.size, 0, none⟩ = some (.int .i64 (6 : Int)) := Blk.cell B0_y6 0
  have q0_1_y6 : World.cell? y6 ⟨w.heap.size, 1, none⟩ = some (tx) := Blk.cell B0_y6 1
  have q0_2_y6 : World.cell? y6 ⟨w.heap.size, 2, none⟩ = some (cl) := Blk.cell B0_y6 2
  have q0_3_y6 : World.cell? y6 ⟨w.heap.size, 3, none⟩ = some (.slice (some ⟨g, o, none⟩) 2 cap) := Blk.cell B0_y6 3
  have hltb0_y6 : w.heap.size < y6.heap.size := Blk.lt B0_y6
  clear xa0_w4 xa1_w4 xa2_w4 xa3_w4 xb0_w4 xb1_w4 xb2_w4 xb3_w4
  have xa0_y6 : World.cell? y6 ⟨g, o, none⟩ = some (.int .i64 a.kind) := Touch.cell HEy6.out XA0.out (fun h => h)
  have xa1_y6 : World.cell? y6 ⟨g, o + 1, none⟩ = some (.string (⟨a.text.toArray⟩ : ByteArray)) := Touch.cell HEy6.out XA1.out (fun h => h)
  have xa2_y6 : World.cell? y6 ⟨g, o + 2, none⟩ = some (.int .i64 a.cols) := Touch.cell HEy6.out XA2.out (fun h => h)
  have xa3_y6 : World.cell? y6 ⟨g, o + 3, none⟩ = some (.slice Aa a.kids.length capa) := Touch.cell HEy6.out XA3.out (fun h => h)
  have xb0_y6 : World.cell? y6 ⟨g, o + 4, none⟩ = some (.int .i64 b.kind) := Touch.cell HEy6.out XB0.out (fun h => h)
  have xb1_y6 : World.cell? y6 ⟨g, o + 4 + 1, none⟩ = some (.string (⟨b.text.toArray⟩ : ByteArray)) := Touch.cell HEy6.out XB1.out (fun h => h)
  have xb2_y6 : World.cell? y6 ⟨g, o + 4 + 2, none⟩ = some (.int .i64 b.cols) := Touch.cell HEy6.out XB2.out (fun h => h)
  have xb3_y6 : World.cell? y6 ⟨g, o + 4 + 3, none⟩ = some (sb) := Touch.cell HEy6.out XB3.out (fun h => h)
  have hlt_g_y6 : g < y6.heap.size := block_lt_of_cell xa0_y6
  have O6_y6 := hid o6
  clear go6 o6 O4_w4 O5_w4
  refine Stay.go ?_
  go_wp2_with fail
  go_ret
  exact ⟨v6, rfl, ownCast (O6_y6.out) (by first | rfl | (simp only [List.append_assoc] <;> rfl) | (simp <;> rfl)), (by first | exact HEy6.out | exact HEy6.out.alloc _ | exact (HEy6.out.alloc _).alloc _ | exact ((HEy6.out.alloc _).alloc _).alloc _ | exact HEy6.out.drewN _ | exact (HEy6.out.alloc _).drewN _ | exact ((HEy6.out.alloc _).alloc _).drewN _)⟩
set_option maxRecDepth 100000 in
set_option maxHeartbeats 2000000 in
theorem item_root_bare (tx cl : Value) (a b : Nd) (hk : a.kids = []) (hb : ArgR b) (hl : (argT b : List Lx.Tok).length ≤ 50000) (w : World) (sl : Value) (hsl : RepL w [a, b] sl) : Calls Try.prog 53 #[.agg #[.int .i64 6, tx, cl, sl]] w (TokRes w ([Tr.name Tr.sRoot] ++ argT b)) := by
  obtain ⟨g, o, cap, sa, sb, rfl, a0, a1, a2, a3, hra, b0, b1, b2, b3, hrb⟩ := hsl.two
  obtain ⟨Aa, capa, rfl⟩ := hra.slice
  obtain ⟨i0, hi, hz0, hz1, hz2⟩ := info_parts infoRTok
  have ARGb := hid hb
  have HRb := hid hrb
  have HLEN := hid hl
  have hpos : a.kids.length = 0 := by rw [hk]; rfl
  have d1 : decide ((0 : Int) < (a.kids.length : Int)) = false := by simp only [decide_eq_false_iff_not]; omega
  have d1n : decide (0 < a.kids.length) = false := by simp only [decide_eq_false_iff_not]; omega
  have HPOS := hid hpos
  clear hpos
  clear hb hsl hra hrb hk hl
  have XA0 := hid a0
  have XA1 := hid a1
  have XA2 := hid a2
  have XA3 := hid a3
  have XB0 := hid b0
  have XB1 := hid b1
  have XB2 := hid b2
  have XB3 := hid b3
  clear a0 a1 a2 a3 b0 b1 b2 b3
  have xa0_w : World.cell? w ⟨g, o, none⟩ = some (.int .i64 a.kind) := XA0.out
  have xa1_w : World.cell? w ⟨g, o + 1, none⟩ = some (.string (⟨a.text.toArray⟩ : ByteArray)) := XA1.out
  have xa2_w : World.cell? w ⟨g, o + 2, none⟩ = some (.int .i64 a.cols) := XA2.out
  have xa3_w : World.cell? w ⟨g, o + 3, none⟩ = some (.slice Aa a.kids.length capa) := XA3.out
  have xb0_w : World.cell? w ⟨g, o + 4, none⟩ = some (.int .i64 b.kind) := XB0.out
  have xb1_w : World.cell? w ⟨g, o + 4 + 1, none⟩ = some (.string (⟨b.text.toArray⟩ : ByteArray)) := XB1.out
  have xb2_w : World.cell? w ⟨g, o + 4 + 2, none⟩ = some (.int .i64 b.cols) := XB2.out
  have xb3_w : World.cell? w ⟨g, o + 4 + 3, none⟩ = some (sb) := XB3.out
  have hlt_g_w : g < w.heap.size := block_lt_of_cell xa0_w
  go_enter Try.func53, Try.ntmps53
  go_wp2_with fail
  refine Calls.mono (rname_any [114, 111, 111, 116] _) ?_
  rintro _ w1 ⟨rfl, hfw1⟩
  have HF1 := hid (show Fresh w w1 from by first | exact hfw1 | exact Touch.pre hfw1 | exact Touch.pre (Touch.pre hfw1) | exact Touch.ofN hfw1 | exact Touch.preN hfw1 | exact Touch.pre (Touch.pre (Touch.pre hfw1)))
  have B0_w1 : Blk w1 (w.heap.size) 24 #[.int .i64 (6 : Int), tx, cl, .slice (some ⟨g, o, none⟩) 2 cap] := Touch.blk hfw1 (by first | exact Blk.new _ _ _ | exact (Blk.new _ _ _).alloc _ | exact Blk.new2 _ _ _ _ | exact ((Blk.new _ _ _).alloc _).alloc _ | exact (Blk.new2 _ _ _ _).alloc _ | exact Blk.new3 _ _ _ _ _ | assumption | exact Blk.alloc (by assumption) _ | exact (Blk.alloc (Blk.alloc (by assumption) _) _)) (fun h => h)
  have q0_0_w1 : World.cell? w1 ⟨w.heap.size, 0, none⟩ = some (.int .i64 (6 : Int)) := Blk.cell B0_w1 0
  have q0_1_w1 : World.cell? w1 ⟨w.heap.size, 1, none⟩ = some (tx) := Blk.cell B0_w1 1
  have q0_2_w1 : World.cell? w1 ⟨w.heap.size, 2, none⟩ = some (cl) := Blk.cell B0_w1 2
  have q0_3_w1 : World.cell? w1 ⟨w.heap.size, 3, none⟩ = some (.slice (some ⟨g, o, none⟩) 2 cap) := Blk.cell B0_w1 3
  have hltb0_w1 : w.heap.size < w1.heap.size := Blk.lt B0_w1
  have xa0_w1 : World.cell? w1 ⟨g, o, none⟩ = some (.int .i64 a.kind) := Touch.cell HF1.out xa0_w (fun h => h)
  have xa1_w1 : World.cell? w1 ⟨g, o + 1, none⟩ = some (.string (⟨a.text.toArray⟩ : ByteArray)) := Touch.cell HF1.out xa1_w (fun h => h)
  have xa2_w1 : World.cell? w1 ⟨g, o + 2, none⟩ = some (.int .i64 a.cols) := Touch.cell HF1.out xa2_w (fun h => h)
  have xa3_w1 : World.cell? w1 ⟨g, o + 3, none⟩ = some (.slice Aa a.kids.length capa) := Touch.cell HF1.out xa3_w (fun h => h)
  have xb0_w1 : World.cell? w1 ⟨g, o + 4, none⟩ = some (.int .i64 b.kind) := Touch.cell HF1.out xb0_w (fun h => h)
  have xb1_w1 : World.cell? w1 ⟨g, o + 4 + 1, none⟩ = some (.string (⟨b.text.toArray⟩ : ByteArray)) := Touch.cell HF1.out xb1_w (fun h => h)
  have xb2_w1 : World.cell? w1 ⟨g, o + 4 + 2, none⟩ = some (.int .i64 b.cols) := Touch.cell HF1.out xb2_w (fun h => h)
  have xb3_w1 : World.cell? w1 ⟨g, o + 4 + 3, none⟩ = some (sb) := Touch.cell HF1.out xb3_w (fun h => h)
  clear xa0_w xa1_w xa2_w xa3_w xb0_w xb1_w xb2_w xb3_w
  have hsz_w1 : w.heap.size ≤ w1.heap.size := Touch.size HF1.out
  have hlt_g_w1 : g < w1.heap.size := block_lt_of_cell xa0_w1
  clear hfw1
  go_wp2_with fail
  refine Calls.mono (ARGb.out _ _ (HRb.out.fresh (by first | exact HF1.out | exact HF1.out.alloc _ | exact (HF1.out.alloc _).alloc _ | exact ((HF1.out.alloc _).alloc _).alloc _ | exact HF1.out.drewN _ | exact (HF1.out.alloc _).drewN _ | exact ((HF1.out.alloc _).alloc _).drewN _))) ?_
  rintro _ w2 ⟨v2, rfl, how2, hfw2⟩
  have O2_w2 := hid (ownsRow_base (B' := w.heap.size) how2 (by first | exact Nat.le_refl _ | assumption | (simp only [World.size_alloc]; omega)))
  clear how2
  have HF2 := hid (show Fresh w1 w2 from by first | exact hfw2 | exact Touch.pre hfw2 | exact Touch.pre (Touch.pre hfw2) | exact Touch.ofN hfw2 | exact Touch.preN hfw2 | exact Touch.pre (Touch.pre (Touch.pre hfw2)))
  have B0_w2 : Blk w2 (w.heap.size) 24 #[.int .i64 (6 : Int), tx, cl, .slice (some ⟨g, o, none⟩) 2 cap] := Touch.blk hfw2 (by first | exact Blk.new _ _ _ | exact (Blk.new _ _ _).alloc _ | exact Blk.new2 _ _ _ _ | exact ((Blk.new _ _ _).alloc _).alloc _ | exact (Blk.new2 _ _ _ _).alloc _ | exact Blk.new3 _ _ _ _ _ | assumption | exact Blk.alloc (by assumption) _ | exact (Blk.alloc (Blk.alloc (by assumption) _) _)) (fun h => h)
  clear q0_0_w1 q0_1_w1 q0_2_w1 q0_3_w1 B0_w1
  have q0_0_w2 : World.cell? w2 ⟨w.heap.size, 0, none⟩ = some (.int .i64 (6 : Int)) := Blk.cell B0_w2 0
  have q0_1_w2 : World.cell? w2 ⟨w.heap.size, 1, none⟩ = some (tx) := Blk.cell B0_w2 1
  have q0_2_w2 : World.cell? w2 ⟨w.heap.size, 2, none⟩ = some (cl) := Blk.cell B0_w2 2
  have q0_3_w2 : World.cell? w2 ⟨w.heap.size, 3, none⟩ = some (.slice (some ⟨g, o, none⟩) 2 cap) := Blk.cell B0_w2 3
  have hltb0_w2 : w.heap.size < w2.heap.size := Blk.lt B0_w2
  have xa0_w2 : World.cell? w2 ⟨g, o, none⟩ = some (.int .i64 a.kind) := Touch.cell HF2.out xa0_w1 (fun h => h)
  have xa1_w2 : World.cell? w2 ⟨g, o + 1, none⟩ = some (.string (⟨a.text.toArray⟩ : ByteArray)) := Touch.cell HF2.out xa1_w1 (fun h => h)
  have xa2_w2 : World.cell? w2 ⟨g, o + 2, none⟩ = some (.int .i64 a.cols) := Touch.cell HF2.out xa2_w1 (fun h => h)
  have xa3_w2 : World.cell? w2 ⟨g, o + 3, none⟩ = some (.slice Aa a.kids.length capa) := Touch.cell HF2.out xa3_w1 (fun h => h)
  have xb0_w2 : World.cell? w2 ⟨g, o + 4, none⟩ = some (.int .i64 b.kind) := Touch.cell HF2.out xb0_w1 (fun h => h)
  have xb1_w2 : World.cell? w2 ⟨g, o + 4 + 1, none⟩ = some (.string (⟨b.text.toArray⟩ : ByteArray)) := Touch.cell HF2.out xb1_w1 (fun h => h)
  have xb2_w2 : World.cell? w2 ⟨g, o + 4 + 2, none⟩ = some (.int .i64 b.cols) := Touch.cell HF2.out xb2_w1 (fun h => h)
  have xb3_w2 : World.cell? w2 ⟨g, o + 4 + 3, none⟩ = some (sb) := Touch.cell HF2.out xb3_w1 (fun h => h)
  clear xa0_w1 xa1_w1 xa2_w1 xa3_w1 xb0_w1 xb1_w1 xb2_w1 xb3_w1
  have hsz_w2 : w.heap.size ≤ w2.heap.size := Touch.size (HF1.out.trans HF2.out)
  have O1_w2 := hid (ownsRow_touch ((own_tok1 (B := w.heap.size) (i := w1.heap.size) _ (⟨4, [114, 111, 111, 116]⟩ : Lx.Tok) (by simp) (by first | assumption | (simp only [World.size_alloc]; omega)))) hfw2 (fun _ _ h => h))
  have hlt_g_w2 : g < w2.heap.size := block_lt_of_cell xa0_w2
  clear hfw2
  go_wp2_with (at_builtin; refine wpList_append_src _ rfl (.tmp 69) (.tmp 74) 34 rfl w.heap.size 73 i0 _ 4 40 Try.underlying34 hi hz0 hz1 hz2 rfl (by decide) (.slice (some ⟨w1.heap.size, 0, none⟩) 1 1) ([(⟨4, [114, 111, 111, 116]⟩ : Lx.Tok)]).length (([(⟨4, [114, 111, 111, 116]⟩ : Lx.Tok)]).flatMap tokC) (by simp [Act.eval]) O1_w2.out (v2) ((argT b)).length (((argT b)).flatMap tokC) (by simp [Act.eval]) (Src.of_own O2_w2.out) (tok_one _) (by have := HLEN.out; unfold maxLen; (try simp at this); (try simp); omega) (by have := HLEN.out; (try simp at this); (try simp); omega) (by first | exact Nat.le_refl _ | assumption | (simp only [World.size_alloc]; omega)) ?_; intro v3 y3 o3 go3 _; refine Stay.mk ?_)
  rw [← List.length_append, ← List.flatMap_append] at o3
  have HEy3 := hid (show Fresh w y3 from grown_fresh go3 O1_w2.out (by first | exact (HF1.out.trans HF2.out) | exact (HF1.out.trans HF2.out).alloc _ | exact ((HF1.out.trans HF2.out).alloc _).alloc _ | exact (((HF1.out.trans HF2.out).alloc _).alloc _).alloc _ | exact (HF1.out.trans HF2.out).drewN _ | exact ((HF1.out.trans HF2.out).alloc _).drewN _ | exact (((HF1.out.trans HF2.out).alloc _).alloc _).drewN _))
  have hsz_y3 : w.heap.size ≤ y3.heap.size := Touch.size HEy3.out
  have B0_y3 : Blk y3 (w.heap.size) 24 #[.int .i64 (6 : Int), tx, cl, .slice (some ⟨g, o, none⟩) 2 cap] := grown_blk (by first | exact Blk.new _ _ _ | exact (Blk.new _ _ _).alloc _ | exact Blk.new2 _ _ _ _ | exact ((Blk.new _ _ _).alloc _).alloc _ | exact (Blk.new2 _ _ _ _).alloc _ | exact Blk.new3 _ _ _ _ _ | assumption | exact Blk.alloc (by assumption) _ | exact (Blk.alloc (Blk.alloc (by assumption) _) _)) O1_w2.out go3 (by decide)
  clear q0_0_w2 q0_1_w2 q0_2_w2 q0_3_w2 B0_w2
  have q0_0_y3 : World.cell? y3 ⟨w.heap.size, 0, none⟩ = some (.int .i64 (6 : Int)) := Blk.cell B0_y3 0
  have q0_1_y3 : World.cell? y3 ⟨w.heap.size, 1, none⟩ = some (tx) := Blk.cell B0_y3 1
  have q0_2_y3 : World.cell? y3 ⟨w.heap.size, 2, none⟩ = some (cl) := Blk.cell B0_y3 2
  have q0_3_y3 : World.cell? y3 ⟨w.heap.size, 3, none⟩ = some (.slice (some ⟨g, o, none⟩) 2 cap) := Blk.cell B0_y3 3
  have hltb0_y3 : w.heap.size < y3.heap.size := Blk.lt B0_y3
  clear xa0_w2 xa1_w2 xa2_w2 xa3_w2 xb0_w2 xb1_w2 xb2_w2 xb3_w2
  have xa0_y3 : World.cell? y3 ⟨g, o, none⟩ = some (.int .i64 a.kind) := Touch.cell HEy3.out XA0.out (fun h => h)
  have xa1_y3 : World.cell? y3 ⟨g, o + 1, none⟩ = some (.string (⟨a.text.toArray⟩ : ByteArray)) := Touch.cell HEy3.out XA1.out (fun h => h)
  have xa2_y3 : World.cell? y3 ⟨g, o + 2, none⟩ = some (.int .i64 a.cols) := Touch.cell HEy3.out XA2.out (fun h => h)
  have xa3_y3 : World.cell? y3 ⟨g, o + 3, none⟩ = some (.slice Aa a.kids.length capa) := Touch.cell HEy3.out XA3.out (fun h => h)
  have xb0_y3 : World.cell? y3 ⟨g, o + 4, none⟩ = some (.int .i64 b.kind) := Touch.cell HEy3.out XB0.out (fun h => h)
  have xb1_y3 : World.cell? y3 ⟨g, o + 4 + 1, none⟩ = some (.string (⟨b.text.toArray⟩ : ByteArray)) := Touch.cell HEy3.out XB1.out (fun h => h)
  have xb2_y3 : World.cell? y3 ⟨g, o + 4 + 2, none⟩ = some (.int .i64 b.cols) := Touch.cell HEy3.out XB2.out (fun h => h)
  have xb3_y3 : World.cell? y3 ⟨g, o + 4 + 3, none⟩ = some (sb) := Touch.cell HEy3.out XB3.out (fun h => h)
  have hlt_g_y3 : g < y3.heap.size := block_lt_of_cell xa0_y3
  have O3_y3 := hid o3
  clear go3 o3 O1_w2 O2_w2
  refine Stay.go ?_
  go_wp2_with fail
  go_ret
  exact ⟨v3, rfl, ownCast (O3_y3.out) (by first | rfl | (simp only [List.append_assoc] <;> rfl) | (simp <;> rfl)), (by first | exact HEy3.out | exact HEy3.out.alloc _ | exact (HEy3.out.alloc _).alloc _ | exact ((HEy3.out.alloc _).alloc _).alloc _ | exact HEy3.out.drewN _ | exact (HEy3.out.alloc _).drewN _ | exact ((HEy3.out.alloc _).alloc _).drewN _)⟩
end Go.Proofs.Ytilgpmpiidccjaa
