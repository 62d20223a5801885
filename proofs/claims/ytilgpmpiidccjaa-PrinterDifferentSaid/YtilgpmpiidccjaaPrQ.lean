/- The printer's fence. -/
import Derived.Test.YtilgpmpiidccjaaPrP
namespace Go.Proofs.Ytilgpmpiidccjaa
open Go.RowKit
open Tr (Nd argT baseT rowT itemT)

set_option maxRecDepth 100000 in
set_option maxHeartbeats 1000000 in
theorem fence_round (W0 : World) (p B : Nat) (kd cl : Value) (a : Nd) (ha : RowE W0 p B a) (sl : Value) (hsl : RepL W0 [a] sl) : Emits 82 #[pp p, .agg #[kd, .string ⟨#[40, 41]⟩, cl, sl]] W0 p B ([Tr.mk7 40] ++ (rowT a.kids ++ [Tr.mk7 41])) := by
  intro w toks txt hp hf
  obtain ⟨g, o, cap, sa, rfl, a0, a1, a2, a3, hra⟩ := hsl.one
  have ROWa := hid (ha sa hra)
  have PST0 := hid hp
  have FIT0 := hid hf
  clear hp hf ha hsl hra
  have e1 : (⟨#[40, 41]⟩ : ByteArray).extract 0 1 = ⟨#[40]⟩ := by decide
  have e2 : (⟨#[40, 41]⟩ : ByteArray).extract 1 2 = ⟨#[41]⟩ := by decide
  have e3 : (⟨#[40, 41]⟩ : ByteArray).toList = [40, 41] := by rw [ByteArray.toList_eq]
  have e4 : (⟨#[40, 41]⟩ : ByteArray).size = 2 := rfl
  have XA0 := hid a0
  have XA1 := hid a1
  have XA2 := hid a2
  have XA3 := hid a3
  clear a0 a1 a2 a3
  have xa0_w : World.cell? w ⟨g, o, none⟩ = some (.int .i64 a.kind) := Low.cell (PSt.low PST0.out) XA0.out
  have xa1_w : World.cell? w ⟨g, o + 1, none⟩ = some (.string (⟨a.text.toArray⟩ : ByteArray)) := Low.cell (PSt.low PST0.out) XA1.out
  have xa2_w : World.cell? w ⟨g, o + 2, none⟩ = some (.int .i64 a.cols) := Low.cell (PSt.low PST0.out) XA2.out
  have xa3_w : World.cell? w ⟨g, o + 3, none⟩ = some (sa) := Low.cell (PSt.low PST0.out) XA3.out
  have hlt_g_w : g < w.heap.size := block_lt_of_cell xa0_w
  go_enter Try.func82, Try.ntmps82
  go_wp2_with fail
  refine Calls.mono ((mark_em W0 p B [40]) _ _ _ (PSt.fresh PST0.out (by first | exact (Touch.refl _ _) | exact (Touch.refl _ _).alloc _ | exact ((Touch.refl _ _).alloc _).alloc _ | exact (((Touch.refl _ _).alloc _).alloc _).alloc _ | exact (Touch.refl _ _).drewN _ | exact ((Touch.refl _ _).alloc _).drewN _ | exact (((Touch.refl _ _).alloc _).alloc _).drewN _)) FIT0.out.left) ?_
  rintro _ w1 ⟨rfl, htw1⟩
  have PSTw1 := hid (PSt.add (PSt.fresh PST0.out (by first | exact (Touch.refl _ _) | exact (Touch.refl _ _).alloc _ | exact ((Touch.refl _ _).alloc _).alloc _ | exact (((Touch.refl _ _).alloc _).alloc _).alloc _ | exact (Touch.refl _ _).drewN _ | exact ((Touch.refl _ _).alloc _).drewN _ | exact (((Touch.refl _ _).alloc _).alloc _).drewN _)) htw1)
  have ACCw1 := hid (PrAdd.freshL (show Fresh w _ from (by first | exact (Touch.refl _ _) | exact (Touch.refl _ _).alloc _ | exact ((Touch.refl _ _).alloc _).alloc _ | exact (((Touch.refl _ _).alloc _).alloc _).alloc _ | exact (Touch.refl _ _).drewN _ | exact ((Touch.refl _ _).alloc _).drewN _ | exact (((Touch.refl _ _).alloc _).alloc _).drewN _)) htw1)
  have FITw1 := hid (Fits.right FIT0.out)
  have B0_w1 : Blk w1 (w.heap.size) 24 #[kd, .string (⟨#[40, 41]⟩ : ByteArray), cl, .slice (some ⟨g, o, none⟩) 1 cap] := PrAdd.blk htw1 (by first | exact Blk.new _ _ _ | exact (Blk.new _ _ _).alloc _ | exact Blk.new2 _ _ _ _ | exact ((Blk.new _ _ _).alloc _).alloc _ | exact (Blk.new2 _ _ _ _).alloc _ | exact Blk.new3 _ _ _ _ _ | assumption | exact Blk.alloc (by assumption) _ | exact (Blk.alloc (Blk.alloc (by assumption) _) _)) (by have := PSt.lt PST0.out; have := PSt.hB PST0.out; omega) (by decide) (by decide)
  have q0_0_w1 : World.cell? w1 ⟨w.heap.size, 0, none⟩ = some (kd) := Blk.cell B0_w1 0
  have q0_1_w1 : World.cell? w1 ⟨w.heap.size, 1, none⟩ = some (.string (⟨#[40, 41]⟩ : ByteArray)) := Blk.cell B0_w1 1
  have q0_2_w1 : World.cell? w1 ⟨w.heap.size, 2, none⟩ = some (cl) := Blk.cell B0_w1 2
  have q0_3_w1 : World.cell? w1 ⟨w.heap.size, 3, none⟩ = some (.slice (some ⟨g, o, none⟩) 1 cap) := Blk.cell B0_w1 3
  clear xa0_w xa1_w xa2_w xa3_w
  have xa0_w1 : World.cell? w1 ⟨g, o, none⟩ = some (.int .i64 a.kind) := Low.cell (PSt.low PSTw1.out) XA0.out
  have xa1_w1 : World.cell? w1 ⟨g, o + 1, none⟩ = some (.string (⟨a.text.toArray⟩ : ByteArray)) := Low.cell (PSt.low PSTw1.out) XA1.out
  have xa2_w1 : World.cell? w1 ⟨g, o + 2, none⟩ = some (.int .i64 a.cols) := Low.cell (PSt.low PSTw1.out) XA2.out
  have xa3_w1 : World.cell? w1 ⟨g, o + 3, none⟩ = some (sa) := Low.cell (PSt.low PSTw1.out) XA3.out
  have hlt_g_w1 : g < w1.heap.size := block_lt_of_cell xa0_w1
  clear htw1
  go_wp2_with fail
  refine Calls.mono ((ROWa.out) _ _ _ (PSt.fresh PSTw1.out (by first | exact (Touch.refl _ _) | exact (Touch.refl _ _).alloc _ | exact ((Touch.refl _ _).alloc _).alloc _ | exact (((Touch.refl _ _).alloc _).alloc _).alloc _ | exact (Touch.refl _ _).drewN _ | exact ((Touch.refl _ _).alloc _).drewN _ | exact (((Touch.refl _ _).alloc _).alloc _).drewN _)) FITw1.out.left) ?_
  rintro _ w2 ⟨rfl, htw2⟩
  have PSTw2 := hid (PSt.add2 (PSt.fresh PSTw1.out (by first | exact (Touch.refl _ _) | exact (Touch.refl _ _).alloc _ | exact ((Touch.refl _ _).alloc _).alloc _ | exact (((Touch.refl _ _).alloc _).alloc _).alloc _ | exact (Touch.refl _ _).drewN _ | exact ((Touch.refl _ _).alloc _).drewN _ | exact (((Touch.refl _ _).alloc _).alloc _).drewN _)) htw2)
  have ACCw2 := hid (PrAdd.app ACCw1.out (PrAdd.freshL (show Fresh w1 _ from (by first | exact (Touch.refl _ _) | exact (Touch.refl _ _).alloc _ | exact ((Touch.refl _ _).alloc _).alloc _ | exact (((Touch.refl _ _).alloc _).alloc _).alloc _ | exact (Touch.refl _ _).drewN _ | exact ((Touch.refl _ _).alloc _).drewN _ | exact (((Touch.refl _ _).alloc _).alloc _).drewN _)) htw2))
  have FITw2 := hid (Fits.right2 FITw1.out)
  have B0_w2 : Blk w2 (w.heap.size) 24 #[kd, .string (⟨#[40, 41]⟩ : ByteArray), cl, .slice (some ⟨g, o, none⟩) 1 cap] := PrAdd.blk htw2 (by first | exact Blk.new _ _ _ | exact (Blk.new _ _ _).alloc _ | exact Blk.new2 _ _ _ _ | exact ((Blk.new _ _ _).alloc _).alloc _ | exact (Blk.new2 _ _ _ _).alloc _ | exact Blk.new3 _ _ _ _ _ | assumption | exact Blk.alloc (by assumption) _ | exact (Blk.alloc (Blk.alloc (by assumption) _) _)) (by have := PSt.lt PST0.out; have := PSt.hB PST0.out; omega) (by decide) (by decide)
  clear q0_0_w1 q0_1_w1 q0_2_w1 q0_3_w1 B0_w1
  have q0_0_w2 : World.cell? w2 ⟨w.heap.size, 0, none⟩ = some (kd) := Blk.cell B0_w2 0
  have q0_1_w2 : World.cell? w2 ⟨w.heap.size, 1, none⟩ = some (.string (⟨#[40, 41]⟩ : ByteArray)) := Blk.cell B0_w2 1
  have q0_2_w2 : World.cell? w2 ⟨w.heap.size, 2, none⟩ = some (cl) := Blk.cell B0_w2 2
  have q0_3_w2 : World.cell? w2 ⟨w.heap.size, 3, none⟩ = some (.slice (some ⟨g, o, none⟩) 1 cap) := Blk.cell B0_w2 3
  clear xa0_w1 xa1_w1 xa2_w1 xa3_w1
  have xa0_w2 : World.cell? w2 ⟨g, o, none⟩ = some (.int .i64 a.kind) := Low.cell (PSt.low PSTw2.out) XA0.out
  have xa1_w2 : World.cell? w2 ⟨g, o + 1, none⟩ = some (.string (⟨a.text.toArray⟩ : ByteArray)) := Low.cell (PSt.low PSTw2.out) XA1.out
  have xa2_w2 : World.cell? w2 ⟨g, o + 2, none⟩ = some (.int .i64 a.cols) := Low.cell (PSt.low PSTw2.out) XA2.out
  have xa3_w2 : World.cell? w2 ⟨g, o + 3, none⟩ = some (sa) := Low.cell (PSt.low PSTw2.out) XA3.out
  have hlt_g_w2 : g < w2.heap.size := block_lt_of_cell xa0_w2
  clear htw2
  go_wp2_with fail
  refine Calls.mono ((mark_em W0 p B [41]) _ _ _ (PSt.fresh PSTw2.out (by first | exact (Touch.refl _ _) | exact (Touch.refl _ _).alloc _ | exact ((Touch.refl _ _).alloc _).alloc _ | exact (((Touch.refl _ _).alloc _).alloc _).alloc _ | exact (Touch.refl _ _).drewN _ | exact ((Touch.refl _ _).alloc _).drewN _ | exact (((Touch.refl _ _).alloc _).alloc _).drewN _)) FITw2.out) ?_
  rintro _ w3 ⟨rfl, htw3⟩
  have PSTw3 := hid (PSt.add2 (PSt.fresh PSTw2.out (by first | exact (Touch.refl _ _) | exact (Touch.refl _ _).alloc _ | exact ((Touch.refl _ _).alloc _).alloc _ | exact (((Touch.refl _ _).alloc _).alloc _).alloc _ | exact (Touch.refl _ _).drewN _ | exact ((Touch.refl _ _).alloc _).drewN _ | exact (((Touch.refl _ _).alloc _).alloc _).drewN _)) htw3)
  have ACCw3 := hid (PrAdd.app ACCw2.out (PrAdd.freshL (show Fresh w2 _ from (by first | exact (Touch.refl _ _) | exact (Touch.refl _ _).alloc _ | exact ((Touch.refl _ _).alloc _).alloc _ | exact (((Touch.refl _ _).alloc _).alloc _).alloc _ | exact (Touch.refl _ _).drewN _ | exact ((Touch.refl _ _).alloc _).drewN _ | exact (((Touch.refl _ _).alloc _).alloc _).drewN _)) htw3))
  have B0_w3 : Blk w3 (w.heap.size) 24 #[kd, .string (⟨#[40, 41]⟩ : ByteArray), cl, .slice (some ⟨g, o, none⟩) 1 cap] := PrAdd.blk htw3 (by first | exact Blk.new _ _ _ | exact (Blk.new _ _ _).alloc _ | exact Blk.new2 _ _ _ _ | exact ((Blk.new _ _ _).alloc _).alloc _ | exact (Blk.new2 _ _ _ _).alloc _ | exact Blk.new3 _ _ _ _ _ | assumption | exact Blk.alloc (by assumption) _ | exact (Blk.alloc (Blk.alloc (by assumption) _) _)) (by have := PSt.lt PST0.out; have := PSt.hB PST0.out; omega) (by decide) (by decide)
  clear q0_0_w2 q0_1_w2 q0_2_w2 q0_3_w2 B0_w2
  have q0_0_w3 : World.cell? w3 ⟨w.heap.size, 0, none⟩ = some (kd) := Blk.cell B0_w3 0
  have q0_1_w3 : World.cell? w3 ⟨w.heap.size, 1, none⟩ = some (.string (⟨#[40, 41]⟩ : ByteArray)) := Blk.cell B0_w3 1
  have q0_2_w3 : World.cell? w3 ⟨w.heap.size, 2, none⟩ = some (cl) := Blk.cell B0_w3 2
  have q0_3_w3 : World.cell? w3 ⟨w.heap.size, 3, none⟩ = some (.slice (some ⟨g, o, none⟩) 1 cap) := Blk.cell B0_w3 3
  clear xa0_w2 xa1_w2 xa2_w2 xa3_w2
  have xa0_w3 : World.cell? w3 ⟨g, o, none⟩ = some (.int .i64 a.kind) := Low.cell (PSt.low PSTw3.out) XA0.out
  have xa1_w3 : World.cell? w3 ⟨g, o + 1, none⟩ = some (.string (⟨a.text.toArray⟩ : ByteArray)) := Low.cell (PSt.low PSTw3.out) XA1.out
  have xa2_w3 : World.cell? w3 ⟨g, o + 2, none⟩ = some (.int .i64 a.cols) := Low.cell (PSt.low PSTw3.out) XA2.out
  have xa3_w3 : World.cell? w3 ⟨g, o + 3, none⟩ = some (sa) := Low.cell (PSt.low PSTw3.out) XA3.out
  have hlt_g_w3 : g < w3.heap.size := block_lt_of_cell xa0_w3
  clear htw3
  go_wp2_with fail
  first | go_end0 | refine bodyPost_ret (v := .tuple #[]) (results_none rfl _ _ _) rfl ?_
  exact ⟨rfl, PrAdd.cast ACCw3.out (by first | rfl | (simp only [List.append_assoc] <;> rfl))⟩
set_option maxRecDepth 100000 in
set_option maxHeartbeats 1000000 in
theorem fence_square (W0 : World) (p B : Nat) (kd cl : Value) (a : Nd) (ha : RowE W0 p B a) (sl : Value) (hsl : RepL W0 [a] sl) : Emits 82 #[pp p, .agg #[kd, .string ⟨#[91, 93]⟩, cl, sl]] W0 p B ([Tr.mk7 91] ++ (rowT a.kids ++ [Tr.mk7 93])) := by
  intro w toks txt hp hf
  obtain ⟨g, o, cap, sa, rfl, a0, a1, a2, a3, hra⟩ := hsl.one
  have ROWa := hid (ha sa hra)
  have PST0 := hid hp
  have FIT0 := hid hf
  clear hp hf ha hsl hra
  have e1 : (⟨#[91, 93]⟩ : ByteArray).extract 0 1 = ⟨#[91]⟩ := by decide
  have e2 : (⟨#[91, 93]⟩ : ByteArray).extract 1 2 = ⟨#[93]⟩ := by decide
  have e3 : (⟨#[91, 93]⟩ : ByteArray).toList = [91, 93] := by rw [ByteArray.toList_eq]
  have e4 : (⟨#[91, 93]⟩ : ByteArray).size = 2 := rfl
  have XA0 := hid a0
  have XA1 := hid a1
  have XA2 := hid a2
  have XA3 := hid a3
  clear a0 a1 a2 a3
  have xa0_w : World.cell? w ⟨g, o, none⟩ = some (.int .i64 a.kind) := Low.cell (PSt.low PST0.out) XA0.out
  have xa1_w : World.cell? w ⟨g, o + 1, none⟩ = some (.string (⟨a.text.toArray⟩ : ByteArray)) := Low.cell (PSt.low PST0.out) XA1.out
  have xa2_w : World.cell? w ⟨g, o + 2, none⟩ = some (.int .i64 a.cols) := Low.cell (PSt.low PST0.out) XA2.out
  have xa3_w : World.cell? w ⟨g, o + 3, none⟩ = some (sa) := Low.cell (PSt.low PST0.out) XA3.out
  have hlt_g_w : g < w.heap.size := block_lt_of_cell xa0_w
  go_enter Try.func82, Try.ntmps82
  go_wp2_with fail
  refine Calls.mono ((mark_em W0 p B [91]) _ _ _ (PSt.fresh PST0.out (by first | exact (Touch.refl _ _) | exact (Touch.refl _ _).alloc _ | exact ((Touch.refl _ _).alloc _).alloc _ | exact (((Touch.refl _ _).alloc _).alloc _).alloc _ | exact (Touch.refl _ _).drewN _ | exact ((Touch.refl _ _).alloc _).drewN _ | exact (((Touch.refl _ _).alloc _).alloc _).drewN _)) FIT0.out.left) ?_
  rintro _ w1 ⟨rfl, htw1⟩
  have PSTw1 := hid (PSt.add (PSt.fresh PST0.out (by first | exact (Touch.refl _ _) | exact (Touch.refl _ _).alloc _ | exact ((Touch.refl _ _).alloc _).alloc _ | exact (((Touch.refl _ _).alloc _).alloc _).alloc _ | exact (Touch.refl _ _).drewN _ | exact ((Touch.refl _ _).alloc _).drewN _ | exact (((Touch.refl _ _).alloc _).alloc _).drewN _)) htw1)
  have ACCw1 := hid (PrAdd.freshL (show Fresh w _ from (by first | exact (Touch.refl _ _) | exact (Touch.refl _ _).alloc _ | exact ((Touch.refl _ _).alloc _).alloc _ | exact (((Touch.refl _ _).alloc _).alloc _).alloc _ | exact (Touch.refl _ _).drewN _ | exact ((Touch.refl _ _).alloc _).drewN _ | exact (((Touch.refl _ _).alloc _).alloc _).drewN _)) htw1)
  have FITw1 := hid (Fits.right FIT0.out)
  have B0_w1 : Blk w1 (w.heap.size) 24 #[kd, .string (⟨#[91, 93]⟩ : ByteArray), cl, .slice (some ⟨g, o, none⟩) 1 cap] := PrAdd.blk htw1 (by first | exact Blk.new _ _ _ | exact (Blk.new _ _ _).alloc _ | exact Blk.new2 _ _ _ _ | exact ((Blk.new _ _ _).alloc _).alloc _ | exact (Blk.new2 _ _ _ _).alloc _ | exact Blk.new3 _ _ _ _ _ | assumption | exact Blk.alloc (by assumption) _ | exact (Blk.alloc (Blk.alloc (by assumption) _) _)) (by have := PSt.lt PST0.out; have := PSt.hB PST0.out; omega) (by decide) (by decide)
  have q0_0_w1 : World.cell? w1 ⟨w.heap.size, 0, none⟩ = some (kd) := Blk.cell B0_w1 0
  have q0_1_w1 : World.cell? w1 ⟨w.heap.size, 1, none⟩ = some (.string (⟨#[91, 93]⟩ : ByteArray)) := Blk.cell B0_w1 1
  have q0_2_w1 : World.cell? w1 ⟨w.heap.size, 2, none⟩ = some (cl) := Blk.cell B0_w1 2
  have q0_3_w1 : World.cell? w1 ⟨w.heap.size, 3, none⟩ = some (.slice (some ⟨g, o, none⟩) 1 cap) := Blk.cell B0_w1 3
  clear xa0_w xa1_w xa2_w xa3_w
  have xa0_w1 : World.cell? w1 ⟨g, o, none⟩ = some (.int .i64 a.kind) := Low.cell (PSt.low PSTw1.out) XA0.out
  have xa1_w1 : World.cell? w1 ⟨g, o + 1, none⟩ = some (.string (⟨a.text.toArray⟩ : ByteArray)) := Low.cell (PSt.low PSTw1.out) XA1.out
  have xa2_w1 : World.cell? w1 ⟨g, o + 2, none⟩ = some (.int .i64 a.cols) := Low.cell (PSt.low PSTw1.out) XA2.out
  have xa3_w1 : World.cell? w1 ⟨g, o + 3, none⟩ = some (sa) := Low.cell (PSt.low PSTw1.out) XA3.out
  have hlt_g_w1 : g < w1.heap.size := block_lt_of_cell xa0_w1
  clear htw1
  go_wp2_with fail
  refine Calls.mono ((ROWa.out) _ _ _ (PSt.fresh PSTw1.out (by first | exact (Touch.refl _ _) | exact (Touch.refl _ _).alloc _ | exact ((Touch.refl _ _).alloc _).alloc _ | exact (((Touch.refl _ _).alloc _).alloc _).alloc _ | exact (Touch.refl _ _).drewN _ | exact ((Touch.refl _ _).alloc _).drewN _ | exact (((Touch.refl _ _).alloc _).alloc _).drewN _)) FITw1.out.left) ?_
  rintro _ w2 ⟨rfl, htw2⟩
  have PSTw2 := hid (PSt.add2 (PSt.fresh PSTw1.out (by first | exact (Touch.refl _ _) | exact (Touch.refl _ _).alloc _ | exact ((Touch.refl _ _).alloc _).alloc _ | exact (((Touch.refl _ _).alloc _).alloc _).alloc _ | exact (Touch.refl _ _).drewN _ | exact ((Touch.refl _ _).alloc _).drewN _ | exact (((Touch.refl _ _).alloc _).alloc _).drewN _)) htw2)
  have ACCw2 := hid (PrAdd.app ACCw1.out (PrAdd.freshL (show Fresh w1 _ from (by first | exact (Touch.refl _ _) | exact (Touch.refl _ _).alloc _ | exact ((Touch.refl _ _).alloc _).alloc _ | exact (((Touch.refl _ _).alloc _).alloc _).alloc _ | exact (Touch.refl _ _).drewN _ | exact ((Touch.refl _ _).alloc _).drewN _ | exact (((Touch.refl _ _).alloc _).alloc _).drewN _)) htw2))
  have FITw2 := hid (Fits.right2 FITw1.out)
  have B0_w2 : Blk w2 (w.heap.size) 24 #[kd, .string (⟨#[91, 93]⟩ : ByteArray), cl, .slice (some ⟨g, o, none⟩) 1 cap] := PrAdd.blk htw2 (by first | exact Blk.new _ _ _ | exact (Blk.new _ _ _).alloc _ | exact Blk.new2 _ _ _ _ | exact ((Blk.new _ _ _).alloc _).alloc _ | exact (Blk.new2 _ _ _ _).alloc _ | exact Blk.new3 _ _ _ _ _ | assumption | exact Blk.alloc (by assumption) _ | exact (Blk.alloc (Blk.alloc (by assumption) _) _)) (by have := PSt.lt PST0.out; have := PSt.hB PST0.out; omega) (by decide) (by decide)
  clear q0_0_w1 q0_1_w1 q0_2_w1 q0_3_w1 B0_w1
  have q0_0_w2 : World.cell? w2 ⟨w.heap.size, 0, none⟩ = some (kd) := Blk.cell B0_w2 0
  have q0_1_w2 : World.cell? w2 ⟨w.heap.size, 1, none⟩ = some (.string (⟨#[91, 93]⟩ : ByteArray)) := Blk.cell B0_w2 1
  have q0_2_w2 : World.cell? w2 ⟨w.heap.size, 2, none⟩ = some (cl) := Blk.cell B0_w2 2
  have q0_3_w2 : World.cell? w2 ⟨w.heap.size, 3, none⟩ = some (.slice (some ⟨g, o, none⟩) 1 cap) := Blk.cell B0_w2 3
  clear xa0_w1 xa1_w1 xa2_w1 xa3_w1
  have xa0_w2 : World.cell? w2 ⟨g, o, none⟩ = some (.int .i64 a.kind) := Low.cell (PSt.low PSTw2.out) XA0.out
  have xa1_w2 : World.cell? w2 ⟨g, o + 1, none⟩ = some (.string (⟨a.text.toArray⟩ : ByteArray)) := Low.cell (PSt.low PSTw2.out) XA1.out
  have xa2_w2 : World.cell? w2 ⟨g, o + 2, none⟩ = some (.int .i64 a.cols) := Low.cell (PSt.low PSTw2.out) XA2.out
  have xa3_w2 : World.cell? w2 ⟨g, o + 3, none⟩ = some (sa) := Low.cell (PSt.low PSTw2.out) XA3.out
  have hlt_g_w2 : g < w2.heap.size := block_lt_of_cell xa0_w2
  clear htw2
  go_wp2_with fail
  refine Calls.mono ((mark_em W0 p B [93]) _ _ _ (PSt.fresh PSTw2.out (by first | exact (Touch.refl _ _) | exact (Touch.refl _ _).alloc _ | exact ((Touch.refl _ _).alloc _).alloc _ | exact (((Touch.refl _ _).alloc _).alloc _).alloc _ | exact (Touch.refl _ _).drewN _ | exact ((Touch.refl _ _).alloc _).drewN _ | exact (((Touch.refl _ _).alloc _).alloc _).drewN _)) FITw2.out) ?_
  rintro _ w3 ⟨rfl, htw3⟩
  have PSTw3 := hid (PSt.add2 (PSt.fresh PSTw2.out (by first | exact (Touch.refl _ _) | exact (Touch.refl _ _).alloc _ | exact ((Touch.refl _ _).alloc _).alloc _ | exact (((Touch.refl _ _).alloc _).alloc _).alloc _ | exact (Touch.refl _ _).drewN _ | exact ((Touch.refl _ _).alloc _).drewN _ | exact (((Touch.refl _ _).alloc _).alloc _).drewN _)) htw3)
  have ACCw3 := hid (PrAdd.app ACCw2.out (PrAdd.freshL (show Fresh w2 _ from (by first | exact (Touch.refl _ _) | exact (Touch.refl _ _).alloc _ | exact ((Touch.refl _ _).alloc _).alloc _ | exact (((Touch.refl _ _).alloc _).alloc _).alloc _ | exact (Touch.refl _ _).drewN _ | exact ((Touch.refl _ _).alloc _).drewN _ | exact (((Touch.refl _ _).alloc _).alloc _).drewN _)) htw3))
  have B0_w3 : Blk w3 (w.heap.size) 24 #[kd, .string (⟨#[91, 93]⟩ : ByteArray), cl, .slice (some ⟨g, o, none⟩) 1 cap] := PrAdd.blk htw3 (by first | exact Blk.new _ _ _ | exact (Blk.new _ _ _).alloc _ | exact Blk.new2 _ _ _ _ | exact ((Blk.new _ _ _).alloc _).alloc _ | exact (Blk.new2 _ _ _ _).alloc _ | exact Blk.new3 _ _ _ _ _ | assumption | exact Blk.alloc (by assumption) _ | exact (Blk.alloc (Blk.alloc (by assumption) _) _)) (by have := PSt.lt PST0.out; have := PSt.hB PST0.out; omega) (by decide) (by decide)
  clear q0_0_w2 q0_1_w2 q0_2_w2 q0_3_w2 B0_w2
  have q0_0_w3 : World.cell? w3 ⟨w.heap.size, 0, none⟩ = some (kd) := Blk.cell B0_w3 0
  have q0_1_w3 : World.cell? w3 ⟨w.heap.size, 1, none⟩ = some (.string (⟨#[91, 93]⟩ : ByteArray)) := Blk.cell B0_w3 1
  have q0_2_w3 : World.cell? w3 ⟨w.heap.size, 2, none⟩ = some (cl) := Blk.cell B0_w3 2
  have q0_3_w3 : World.cell? w3 ⟨w.heap.size, 3, none⟩ = some (.slice (some ⟨g, o, none⟩) 1 cap) := Blk.cell B0_w3 3
  clear xa0_w2 xa1_w2 xa2_w2 xa3_w2
  have xa0_w3 : World.cell? w3 ⟨g, o, none⟩ = some (.int .i64 a.kind) := Low.cell (PSt.low PSTw3.out) XA0.out
  have xa1_w3 : World.cell? w3 ⟨g, o + 1, none⟩ = some (.string (⟨a.text.toArray⟩ : ByteArray)) := Low.cell (PSt.low PSTw3.out) XA1.out
  have xa2_w3 : World.cell? w3 ⟨g, o + 2, none⟩ = some (.int .i64 a.cols) := Low.cell (PSt.low PSTw3.out) XA2.out
  have xa3_w3 : World.cell? w3 ⟨g, o + 3, none⟩ = some (sa) := Low.cell (PSt.low PSTw3.out) XA3.out
  have hlt_g_w3 : g < w3.heap.size := block_lt_of_cell xa0_w3
  clear htw3
  go_wp2_with fail
  first | go_end0 | refine bodyPost_ret (v := .tuple #[]) (results_none rfl _ _ _) rfl ?_
  exact ⟨rfl, PrAdd.cast ACCw3.out (by first | rfl | (simp only [List.append_assoc] <;> rfl))⟩
set_option maxRecDepth 100000 in
set_option maxHeartbeats 1000000 in
theorem fence_other (W0 : World) (p B : Nat) (kd cl : Value) (t : List UInt8) (h1 : t ≠ [40, 41]) (h2 : t ≠ [91, 93]) (a : Nd) (ha : ArgE W0 p B a) (sl : Value) (hsl : RepL W0 [a] sl) : Emits 82 #[pp p, .agg #[kd, .string ⟨t.toArray⟩, cl, sl]] W0 p B ([⟨5, t⟩] ++ argT a) := by
  intro w toks txt hp hf
  obtain ⟨g, o, cap, sa, rfl, a0, a1, a2, a3, hra⟩ := hsl.one
  have ARGa := hid (ha sa hra)
  have PST0 := hid hp
  have FIT0 := hid hf
  clear hp hf ha hsl hra
  have t1 : (ByteArray.toList ⟨t.toArray⟩ == [40, 41]) = false := by rw [ByteArray.toList_eq]; simpa using h1
  have t2 : (ByteArray.toList ⟨t.toArray⟩ == [91, 93]) = false := by rw [ByteArray.toList_eq]; simpa using h2
  have s1 : ((⟨t.toArray⟩ : ByteArray) == (⟨#[40, 41]⟩ : ByteArray)) = false := by rw [str_eq']; simpa using h1
  have s2 : ((⟨t.toArray⟩ : ByteArray) == (⟨#[91, 93]⟩ : ByteArray)) = false := by rw [str_eq']; simpa using h2
  have u1 : (t == [40, 41]) = false := by simpa using h1
  have u2 : (t == [91, 93]) = false := by simpa using h2
  have XA0 := hid a0
  have XA1 := hid a1
  have XA2 := hid a2
  have XA3 := hid a3
  clear a0 a1 a2 a3
  have xa0_w : World.cell? w ⟨g, o, none⟩ = some (.int .i64 a.kind) := Low.cell (PSt.low PST0.out) XA0.out
  have xa1_w : World.cell? w ⟨g, o + 1, none⟩ = some (.string (⟨a.text.toArray⟩ : ByteArray)) := Low.cell (PSt.low PST0.out) XA1.out
  have xa2_w : World.cell? w ⟨g, o + 2, none⟩ = some (.int .i64 a.cols) := Low.cell (PSt.low PST0.out) XA2.out
  have xa3_w : World.cell? w ⟨g, o + 3, none⟩ = some (sa) := Low.cell (PSt.low PST0.out) XA3.out
  have hlt_g_w : g < w.heap.size := block_lt_of_cell xa0_w
  go_enter Try.func82, Try.ntmps82
  go_wp2_with fail
  refine Calls.mono ((add_em W0 p B 5 t) _ _ _ (PSt.fresh PST0.out (by first | exact (Touch.refl _ _) | exact (Touch.refl _ _).alloc _ | exact ((Touch.refl _ _).alloc _).alloc _ | exact (((Touch.refl _ _).alloc _).alloc _).alloc _ | exact (Touch.refl _ _).drewN _ | exact ((Touch.refl _ _).alloc _).drewN _ | exact (((Touch.refl _ _).alloc _).alloc _).drewN _)) FIT0.out.left) ?_
  rintro _ w1 ⟨rfl, htw1⟩
  have PSTw1 := hid (PSt.add (PSt.fresh PST0.out (by first | exact (Touch.refl _ _) | exact (Touch.refl _ _).alloc _ | exact ((Touch.refl _ _).alloc _).alloc _ | exact (((Touch.refl _ _).alloc _).alloc _).alloc _ | exact (Touch.refl _ _).drewN _ | exact ((Touch.refl _ _).alloc _).drewN _ | exact (((Touch.refl _ _).alloc _).alloc _).drewN _)) htw1)
  have ACCw1 := hid (PrAdd.freshL (show Fresh w _ from (by first | exact (Touch.refl _ _) | exact (Touch.refl _ _).alloc _ | exact ((Touch.refl _ _).alloc _).alloc _ | exact (((Touch.refl _ _).alloc _).alloc _).alloc _ | exact (Touch.refl _ _).drewN _ | exact ((Touch.refl _ _).alloc _).drewN _ | exact (((Touch.refl _ _).alloc _).alloc _).drewN _)) htw1)
  have FITw1 := hid (Fits.right FIT0.out)
  have B0_w1 : Blk w1 (w.heap.size) 24 #[kd, .string (⟨t.toArray⟩ : ByteArray), cl, .slice (some ⟨g, o, none⟩) 1 cap] := PrAdd.blk htw1 (by first | exact Blk.new _ _ _ | exact (Blk.new _ _ _).alloc _ | exact Blk.new2 _ _ _ _ | exact ((Blk.new _ _ _).alloc _).alloc _ | exact (Blk.new2 _ _ _ _).alloc _ | exact Blk.new3 _ _ _ _ _ | assumption | exact Blk.alloc (by assumption) _ | exact (Blk.alloc (Blk.alloc (by assumption) _) _)) (by have := PSt.lt PST0.out; have := PSt.hB PST0.out; omega) (by decide) (by decide)
  have q0_0_w1 : World.cell? w1 ⟨w.heap.size, 0, none⟩ = some (kd) := Blk.cell B0_w1 0
  have q0_1_w1 : World.cell? w1 ⟨w.heap.size, 1, none⟩ = some (.string (⟨t.toArray⟩ : ByteArray)) := Blk.cell B0_w1 1
  have q0_2_w1 : World.cell? w1 ⟨w.heap.size, 2, none⟩ = some (cl) := Blk.cell B0_w1 2
  have q0_3_w1 : World.cell? w1 ⟨w.heap.size, 3, none⟩ = some (.slice (some ⟨g, o, none⟩) 1 cap) := Blk.cell B0_w1 3
  clear xa0_w xa1_w xa2_w xa3_w
  have xa0_w1 : World.cell? w1 ⟨g, o, none⟩ = some (.int .i64 a.kind) := Low.cell (PSt.low PSTw1.out) XA0.out
  have xa1_w1 : World.cell? w1 ⟨g, o + 1, none⟩ = some (.string (⟨a.text.toArray⟩ : ByteArray)) := Low.cell (PSt.low PSTw1.out) XA1.out
  have xa2_w1 : World.cell? w1 ⟨g, o + 2, none⟩ = some (.int .i64 a.cols) := Low.cell (PSt.low PSTw1.out) XA2.out
  have xa3_w1 : World.cell? w1 ⟨g, o + 3, none⟩ = some (sa) := Low.cell (PSt.low PSTw1.out) XA3.out
  have hlt_g_w1 : g < w1.heap.size := block_lt_of_cell xa0_w1
  clear htw1
  go_wp2_with fail
  refine Calls.mono ((ARGa.out) _ _ _ (PSt.fresh PSTw1.out (by first | exact (Touch.refl _ _) | exact (Touch.refl _ _).alloc _ | exact ((Touch.refl _ _).alloc _).alloc _ | exact (((Touch.refl _ _).alloc _).alloc _).alloc _ | exact (Touch.refl _ _).drewN _ | exact ((Touch.refl _ _).alloc _).drewN _ | exact (((Touch.refl _ _).alloc _).alloc _).drewN _)) FITw1.out) ?_
  rintro _ w2 ⟨rfl, htw2⟩
  have PSTw2 := hid (PSt.add2 (PSt.fresh PSTw1.out (by first | exact (Touch.refl _ _) | exact (Touch.refl _ _).alloc _ | exact ((Touch.refl _ _).alloc _).alloc _ | exact (((Touch.refl _ _).alloc _).alloc _).alloc _ | exact (Touch.refl _ _).drewN _ | exact ((Touch.refl _ _).alloc _).drewN _ | exact (((Touch.refl _ _).alloc _).alloc _).drewN _)) htw2)
  have ACCw2 := hid (PrAdd.app ACCw1.out (PrAdd.freshL (show Fresh w1 _ from (by first | exact (Touch.refl _ _) | exact (Touch.refl _ _).alloc _ | exact ((Touch.refl _ _).alloc _).alloc _ | exact (((Touch.refl _ _).alloc _).alloc _).alloc _ | exact (Touch.refl _ _).drewN _ | exact ((Touch.refl _ _).alloc _).drewN _ | exact (((Touch.refl _ _).alloc _).alloc _).drewN _)) htw2))
  have B0_w2 : Blk w2 (w.heap.size) 24 #[kd, .string (⟨t.toArray⟩ : ByteArray), cl, .slice (some ⟨g, o, none⟩) 1 cap] := PrAdd.blk htw2 (by first | exact Blk.new _ _ _ | exact (Blk.new _ _ _).alloc _ | exact Blk.new2 _ _ _ _ | exact ((Blk.new _ _ _).alloc _).alloc _ | exact (Blk.new2 _ _ _ _).alloc _ | exact Blk.new3 _ _ _ _ _ | assumption | exact Blk.alloc (by assumption) _ | exact (Blk.alloc (Blk.alloc (by assumption) _) _)) (by have := PSt.lt PST0.out; have := PSt.hB PST0.out; omega) (by decide) (by decide)
  clear q0_0_w1 q0_1_w1 q0_2_w1 q0_3_w1 B0_w1
  have q0_0_w2 : World.cell? w2 ⟨w.heap.size, 0, none⟩ = some (kd) := Blk.cell B0_w2 0
  have q0_1_w2 : World.cell? w2 ⟨w.heap.size, 1, none⟩ = some (.string (⟨t.toArray⟩ : ByteArray)) := Blk.cell B0_w2 1
  have q0_2_w2 : World.cell? w2 ⟨w.heap.size, 2, none⟩ = some (cl) := Blk.cell B0_w2 2
  have q0_3_w2 : World.cell? w2 ⟨w.heap.size, 3, none⟩ = some (.slice (some ⟨g, o, none⟩) 1 cap) := Blk.cell B0_w2 3
  clear xa0_w1 xa1_w1 xa2_w1 xa3_w1
  have xa0_w2 : World.cell? w2 ⟨g, o, none⟩ = some (.int .i64 a.kind) := Low.cell (PSt.low PSTw2.out) XA0.out
  have xa1_w2 : World.cell? w2 ⟨g, o + 1, none⟩ = some (.string (⟨a.text.toArray⟩ : ByteArray)) := Low.cell (PSt.low PSTw2.out) XA1.out
  have xa2_w2 : World.cell? w2 ⟨g, o + 2, none⟩ = some (.int .i64 a.cols) := Low.cell (PSt.low PSTw2.out) XA2.out
  have xa3_w2 : World.cell? w2 ⟨g, o + 3, none⟩ = some (sa) := Low.cell (PSt.low PSTw2.out) XA3.out
  have hlt_g_w2 : g < w2.heap.size := block_lt_of_cell xa0_w2
  clear htw2
  go_wp2_with fail
  first | go_end0 | refine bodyPost_ret (v := .tuple #[]) (results_none rfl _ _ _) rfl ?_
  exact ⟨rfl, PrAdd.cast ACCw2.out (by first | rfl | (simp only [List.append_assoc] <;> rfl))⟩
end Go.Proofs.Ytilgpmpiidccjaa
