/- Part 6 of 11 of a proof; its texts, joined: PrQ, PrS, PrN, PrT, NdF, NdG, NdH, NdI, NdJ. No condition. -/
import Derived.Test.YtdacpbdamliafaaJo5
import Derived.Test.YtdacpbdamliafaaJo2
import Derived.Test.YtdacpbdamliafaaJo3

/- The printer's fence. -/
namespace Go.Proofs.Ytdacpbdamliafaa
open Go.RowKit
open Tr (Nd argT baseT rowT itemT)

set_option maxRecDepth 100000 in
set_option maxHeartbeats 1000000 in
theorem fence_round (W0 : World) (p B : Nat) (kd cl : Value) (a : Nd) (ha : RowE W0 p B a) (sl : Value) (hsl : RepL W0 [a] sl) : Emits 64 #[pp p, .agg #[kd, .string ⟨#[40, 41]⟩, cl, sl]] W0 p B ([Tr.mk7 40] ++ (rowT a.kids ++ [Tr.mk7 41])) := by
  intro w toks txt hp hf
  obtain ⟨g, o, cap, sa, rfl, a0, a1, a2, a3, hra⟩ := hsl.one
  have ROWa := hid (ha sa hra)
  have PST0 := hid hp
  have FIT0 := hid hf
  clear hp hf ha hsl hra
  have e1 : (⟨#[40, 41]⟩ : ByteArray).extract 0 1 = ⟨#[40]⟩ := by decide
  have e2 : (⟨#[40, 41]⟩ : ByteArray).extract 1 2 = ⟨#[41]⟩ := by decide
  have e3 : (⟨#[40, 41]⟩ : ByteArray).toList = [40, 41] := by rw [ByteArray.toList_eq]
  have e4 : (⟨#[40, 41]⟩ : ByteArray).size = 2 := rfl
  have XA0 := hid a0
  have XA1 := hid a1
  have XA2 := hid a2
  have XA3 := hid a3
  clear a0 a1 a2 a3
  have xa0_w : World.cell? w ⟨g, o, none⟩ = some (.int .i64 a.kind) := Low.cell (PSt.low PST0.out) XA0.out
  have xa1_w : World.cell? w ⟨g, o + 1, none⟩ = some (.string (⟨a.text.toArray⟩ : ByteArray)) := Low.cell (PSt.low PST0.out) XA1.out
  have xa2_w : World.cell? w ⟨g, o + 2, none⟩ = some (.int .i64 a.cols) := Low.cell (PSt.low PST0.out) XA2.out
  have xa3_w : World.cell? w ⟨g, o + 3, none⟩ = some (sa) := Low.cell (PSt.low PST0.out) XA3.out
  have hlt_g_w : g < w.heap.size := block_lt_of_cell xa0_w
  go_enter Try.func64, Try.ntmps64
  go_wp2_with fail
  refine Calls.mono ((mark_em W0 p B [40]) _ _ _ (PSt.fresh PST0.out (by first | exact (Touch.refl _ _) | exact (Touch.refl _ _).alloc _ | exact ((Touch.refl _ _).alloc _).alloc _ | exact (((Touch.refl _ _).alloc _).alloc _).alloc _ | exact (Touch.refl _ _).drewN _ | exact ((Touch.refl _ _).alloc _).drewN _ | exact (((Touch.refl _ _).alloc _).alloc _).drewN _)) FIT0.out.left) ?_
  rintro _ w1 ⟨rfl, htw1⟩
  have PSTw1 := hid (PSt.add (PSt.fresh PST0.out (by first | exact (Touch.refl _ _) | exact (Touch.refl _ _).alloc _ | exact ((Touch.refl _ _).alloc _).alloc _ | exact (((Touch.refl _ _).alloc _).alloc _).alloc _ | exact (Touch.refl _ _).drewN _ | exact ((Touch.refl _ _).alloc _).drewN _ | exact (((Touch.refl _ _).alloc _).alloc _).drewN _)) htw1)
  have ACCw1 := hid (PrAdd.freshL (show Fresh w _ from (by first | exact (Touch.refl _ _) | exact (Touch.refl _ _).alloc _ | exact ((Touch.refl _ _).alloc _).alloc _ | exact (((Touch.refl _ _).alloc _).alloc _).alloc _ | exact (Touch.refl _ _).drewN _ | exact ((Touch.refl _ _).alloc _).drewN _ | exact (((Touch.refl _ _).alloc _).alloc _).drewN _)) htw1)
  have FITw1 := hid (Fits.right FIT0.out)
  have B0_w1 : Blk w1 (w.heap.size) 24 #[kd, .string (⟨#[40, 41]⟩ : ByteArray), cl, .slice (some ⟨g, o, none⟩) 1 cap] := PrAdd.blk htw1 (by first | exact Blk.new _ _ _ | exact (Blk.new _ _ _).alloc _ | exact Blk.new2 _ _ _ _ | exact ((Blk.new _ _ _).alloc _).alloc _ | exact (Blk.new2 _ _ _ _).alloc _ | exact Blk.new3 _ _ _ _ _ | assumption | exact Blk.alloc (by assumption) _ | exact (Blk.alloc (Blk.alloc (by assumption) _) _)) (by have := PSt.lt PST0.out; have := PSt.hB PST0.out; omega) (by decide) (by decide)
  have q0_0_w1 : World.cell? w1 ⟨w.heap.size, 0, none⟩ = some (kd) := Blk.cell B0_w1 0
  have q0_1_w1 : World.cell? w1 ⟨w.heap.size, 1, none⟩ = some (.string (⟨#[40, 41]⟩ : ByteArray)) := Blk.cell B0_w1 1
  have q0_2_w1 : World.cell? w1 ⟨w.heap.size, 2, none⟩ = some (cl) := Blk.cell B0_w1 2
  have q0_3_w1 : World.cell? w1 ⟨w.heap.size, 3, none⟩ = some (.slice (some ⟨g, o, none⟩) 1 cap) := Blk.cell B0_w1 3
  clear xa0_w xa1_w xa2_w xa3_w
  have xa0_w1 : World.cell? w1 ⟨g, o, none⟩ = some (.int .i64 a.kind) := Low.cell (PSt.low PSTw1.out) XA0.out
  have xa1_w1 : World.cell? w1 ⟨g, o + 1, none⟩ = some (.string (⟨a.text.toArray⟩ : ByteArray)) := Low.cell (PSt.low PSTw1.out) XA1.out
  have xa2_w1 : World.cell? w1 ⟨g, o + 2, none⟩ = some (.int .i64 a.cols) := Low.cell (PSt.low PSTw1.out) XA2.out
  have xa3_w1 : World.cell? w1 ⟨g, o + 3, none⟩ = some (sa) := Low.cell (PSt.low PSTw1.out) XA3.out
  have hlt_g_w1 : g < w1.heap.size := block_lt_of_cell xa0_w1
  clear htw1
  go_wp2_with fail
  refine Calls.mono ((ROWa.out) _ _ _ (PSt.fresh PSTw1.out (by first | exact (Touch.refl _ _) | exact (Touch.refl _ _).alloc _ | exact ((Touch.refl _ _).alloc _).alloc _ | exact (((Touch.refl _ _).alloc _).alloc _).alloc _ | exact (Touch.refl _ _).drewN _ | exact ((Touch.refl _ _).alloc _).drewN _ | exact (((Touch.refl _ _).alloc _).alloc _).drewN _)) FITw1.out.left) ?_
  rintro _ w2 ⟨rfl, htw2⟩
  have PSTw2 := hid (PSt.add2 (PSt.fresh PSTw1.out (by first | exact (Touch.refl _ _) | exact (Touch.refl _ _).alloc _ | exact ((Touch.refl _ _).alloc _).alloc _ | exact (((Touch.refl _ _).alloc _).alloc _).alloc _ | exact (Touch.refl _ _).drewN _ | exact ((Touch.refl _ _).alloc _).drewN _ | exact (((Touch.refl _ _).alloc _).alloc _).drewN _)) htw2)
  have ACCw2 := hid (PrAdd.app ACCw1.out (PrAdd.freshL (show Fresh w1 _ from (by first | exact (Touch.refl _ _) | exact (Touch.refl _ _).alloc _ | exact ((Touch.refl _ _).alloc _).alloc _ | exact (((Touch.refl _ _).alloc _).alloc _).alloc _ | exact (Touch.refl _ _).drewN _ | exact ((Touch.refl _ _).alloc _).drewN _ | exact (((Touch.refl _ _).alloc _).alloc _).drewN _)) htw2))
  have FITw2 := hid (Fits.right2 FITw1.out)
  have B0_w2 : Blk w2 (w.heap.size) 24 #[kd, .string (⟨#[40, 41]⟩ : ByteArray), cl, .slice (some ⟨g, o, none⟩) 1 cap] := PrAdd.blk htw2 (by first | exact Blk.new _ _ _ | exact (Blk.new _ _ _).alloc _ | exact Blk.new2 _ _ _ _ | exact ((Blk.new _ _ _).alloc _).alloc _ | exact (Blk.new2 _ _ _ _).alloc _ | exact Blk.new3 _ _ _ _ _ | assumption | exact Blk.alloc (by assumption) _ | exact (Blk.alloc (Blk.alloc (by assumption) _) _)) (by have := PSt.lt PST0.out; have := PSt.hB PST0.out; omega) (by decide) (by decide)
  clear q0_0_w1 q0_1_w1 q0_2_w1 q0_3_w1 B0_w1
  have q0_0_w2 : World.cell? w2 ⟨w.heap.size, 0, none⟩ = some (kd) := Blk.cell B0_w2 0
  have q0_1_w2 : World.cell? w2 ⟨w.heap.size, 1, none⟩ = some (.string (⟨#[40, 41]⟩ : ByteArray)) := Blk.cell B0_w2 1
  have q0_2_w2 : World.cell? w2 ⟨w.heap.size, 2, none⟩ = some (cl) := Blk.cell B0_w2 2
  have q0_3_w2 : World.cell? w2 ⟨w.heap.size, 3, none⟩ = some (.slice (some ⟨g, o, none⟩) 1 cap) := Blk.cell B0_w2 3
  clear xa0_w1 xa1_w1 xa2_w1 xa3_w1
  have xa0_w2 : World.cell? w2 ⟨g, o, none⟩ = some (.int .i64 a.kind) := Low.cell (PSt.low PSTw2.out) XA0.out
  have xa1_w2 : World.cell? w2 ⟨g, o + 1, none⟩ = some (.string (⟨a.text.toArray⟩ : ByteArray)) := Low.cell (PSt.low PSTw2.out) XA1.out
  have xa2_w2 : World.cell? w2 ⟨g, o + 2, none⟩ = some (.int .i64 a.cols) := Low.cell (PSt.low PSTw2.out) XA2.out
  have xa3_w2 : World.cell? w2 ⟨g, o + 3, none⟩ = some (sa) := Low.cell (PSt.low PSTw2.out) XA3.out
  have hlt_g_w2 : g < w2.heap.size := block_lt_of_cell xa0_w2
  clear htw2
  go_wp2_with fail
  refine Calls.mono ((mark_em W0 p B [41]) _ _ _ (PSt.fresh PSTw2.out (by first | exact (Touch.refl _ _) | exact (Touch.refl _ _).alloc _ | exact ((Touch.refl _ _).alloc _).alloc _ | exact (((Touch.refl _ _).alloc _).alloc _).alloc _ | exact (Touch.refl _ _).drewN _ | exact ((Touch.refl _ _).alloc _).drewN _ | exact (((Touch.refl _ _).alloc _).alloc _).drewN _)) FITw2.out) ?_
  rintro _ w3 ⟨rfl, htw3⟩
  have PSTw3 := hid (PSt.add2 (PSt.fresh PSTw2.out (by first | exact (Touch.refl _ _) | exact (Touch.refl _ _).alloc _ | exact ((Touch.refl _ _).alloc _).alloc _ | exact (((Touch.refl _ _).alloc _).alloc _).alloc _ | exact (Touch.refl _ _).drewN _ | exact ((Touch.refl _ _).alloc _).drewN _ | exact (((Touch.refl _ _).alloc _).alloc _).drewN _)) htw3)
  have ACCw3 := hid (PrAdd.app ACCw2.out (PrAdd.freshL (show Fresh w2 _ from (by first | exact (Touch.refl _ _) | exact (Touch.refl _ _).alloc _ | exact ((Touch.refl _ _).alloc _).alloc _ | exact (((Touch.refl _ _).alloc _).alloc _).alloc _ | exact (Touch.refl _ _).drewN _ | exact ((Touch.refl _ _).alloc _).drewN _ | exact (((Touch.refl _ _).alloc _).alloc _).drewN _)) htw3))
  have B0_w3 : Blk w3 (w.heap.size) 24 #[kd, .string (⟨#[40, 41]⟩ : ByteArray), cl, .slice (some ⟨g, o, none⟩) 1 cap] := PrAdd.blk htw3 (by first | exact Blk.new _ _ _ | exact (Blk.new _ _ _).alloc _ | exact Blk.new2 _ _ _ _ | exact ((Blk.new _ _ _).alloc _).alloc _ | exact (Blk.new2 _ _ _ _).alloc _ | exact Blk.new3 _ _ _ _ _ | assumption | exact Blk.alloc (by assumption) _ | exact (Blk.alloc (Blk.alloc (by assumption) _) _)) (by have := PSt.lt PST0.out; have := PSt.hB PST0.out; omega) (by decide) (by decide)
  clear q0_0_w2 q0_1_w2 q0_2_w2 q0_3_w2 B0_w2
  have q0_0_w3 : World.cell? w3 ⟨w.heap.size, 0, none⟩ = some (kd) := Blk.cell B0_w3 0
  have q0_1_w3 : World.cell? w3 ⟨w.heap.size, 1, none⟩ = some (.string (⟨#[40, 41]⟩ : ByteArray)) := Blk.cell B0_w3 1
  have q0_2_w3 : World.cell? w3 ⟨w.heap.size, 2, none⟩ = some (cl) := Blk.cell B0_w3 2
  have q0_3_w3 : World.cell? w3 ⟨w.heap.size, 3, none⟩ = some (.slice (some ⟨g, o, none⟩) 1 cap) := Blk.cell B0_w3 3
  clear xa0_w2 xa1_w2 xa2_w2 xa3_w2
  have xa0_w3 : World.cell? w3 ⟨g, o, none⟩ = some (.int .i64 a.kind) := Low.cell (PSt.low PSTw3.out) XA0.out
  have xa1_w3 : World.cell? w3 ⟨g, o + 1, none⟩ = some (.string (⟨a.text.toArray⟩ : ByteArray)) := Low.cell (PSt.low PSTw3.out) XA1.out
  have xa2_w3 : World.cell? w3 ⟨g, o + 2, none⟩ = some (.int .i64 a.cols) := Low.cell (PSt.low PSTw3.out) XA2.out
  have xa3_w3 : World.cell? w3 ⟨g, o + 3, none⟩ = some (sa) := Low.cell (PSt.low PSTw3.out) XA3.out
  have hlt_g_w3 : g < w3.heap.size := block_lt_of_cell xa0_w3
  clear htw3
  go_wp2_with fail
  first | go_end0 | refine bodyPost_ret (v := .tuple #[]) (results_none rfl _ _ _) rfl ?_
  exact ⟨rfl, PrAdd.cast ACCw3.out (by first | rfl | (simp only [List.append_assoc] <;> rfl))⟩
set_option maxRecDepth 100000 in
set_option maxHeartbeats 1000000 in
theorem fence_square (W0 : World) (p B : Nat) (kd cl : Value) (a : Nd) (ha : RowE W0 p B a) (sl : Value) (hsl : RepL W0 [a] sl) : Emits 64 #[pp p, .agg #[kd, .string ⟨#[91, 93]⟩, cl, sl]] W0 p B ([Tr.mk7 91] ++ (rowT a.kids ++ [Tr.mk7 93])) := by
  intro w toks txt hp hf
  obtain ⟨g, o, cap, sa, rfl, a0, a1, a2, a3, hra⟩ := hsl.one
  have ROWa := hid (ha sa hra)
  have PST0 := hid hp
  have FIT0 := hid hf
  clear hp hf ha hsl hra
  have e1 : (⟨#[91, 93]⟩ : ByteArray).extract 0 1 = ⟨#[91]⟩ := by decide
  have e2 : (⟨#[91, 93]⟩ : ByteArray).extract 1 2 = ⟨#[93]⟩ := by decide
  have e3 : (⟨#[91, 93]⟩ : ByteArray).toList = [91, 93] := by rw [ByteArray.toList_eq]
  have e4 : (⟨#[91, 93]⟩ : ByteArray).size = 2 := rfl
  have XA0 := hid a0
  have XA1 := hid a1
  have XA2 := hid a2
  have XA3 := hid a3
  clear a0 a1 a2 a3
  have xa0_w : World.cell? w ⟨g, o, none⟩ = some (.int .i64 a.kind) := Low.cell (PSt.low PST0.out) XA0.out
  have xa1_w : World.cell? w ⟨g, o + 1, none⟩ = some (.string (⟨a.text.toArray⟩ : ByteArray)) := Low.cell (PSt.low PST0.out) XA1.out
  have xa2_w : World.cell? w ⟨g, o + 2, none⟩ = some (.int .i64 a.cols) := Low.cell (PSt.low PST0.out) XA2.out
  have xa3_w : World.cell? w ⟨g, o + 3, none⟩ = some (sa) := Low.cell (PSt.low PST0.out) XA3.out
  have hlt_g_w : g < w.heap.size := block_lt_of_cell xa0_w
  go_enter Try.func64, Try.ntmps64
  go_wp2_with fail
  refine Calls.mono ((mark_em W0 p B [91]) _ _ _ (PSt.fresh PST0.out (by first | exact (Touch.refl _ _) | exact (Touch.refl _ _).alloc _ | exact ((Touch.refl _ _).alloc _).alloc _ | exact (((Touch.refl _ _).alloc _).alloc _).alloc _ | exact (Touch.refl _ _).drewN _ | exact ((Touch.refl _ _).alloc _).drewN _ | exact (((Touch.refl _ _).alloc _).alloc _).drewN _)) FIT0.out.left) ?_
  rintro _ w1 ⟨rfl, htw1⟩
  have PSTw1 := hid (PSt.add (PSt.fresh PST0.out (by first | exact (Touch.refl _ _) | exact (Touch.refl _ _).alloc _ | exact ((Touch.refl _ _).alloc _).alloc _ | exact (((Touch.refl _ _).alloc _).alloc _).alloc _ | exact (Touch.refl _ _).drewN _ | exact ((Touch.refl _ _).alloc _).drewN _ | exact (((Touch.refl _ _).alloc _).alloc _).drewN _)) htw1)
  have ACCw1 := hid (PrAdd.freshL (show Fresh w _ from (by first | exact (Touch.refl _ _) | exact (Touch.refl _ _).alloc _ | exact ((Touch.refl _ _).alloc _).alloc _ | exact (((Touch.refl _ _).alloc _).alloc _).alloc _ | exact (Touch.refl _ _).drewN _ | exact ((Touch.refl _ _).alloc _).drewN _ | exact (((Touch.refl _ _).alloc _).alloc _).drewN _)) htw1)
  have FITw1 := hid (Fits.right FIT0.out)
  have B0_w1 : Blk w1 (w.heap.size) 24 #[kd, .string (⟨#[91, 93]⟩ : ByteArray), cl, .slice (some ⟨g, o, none⟩) 1 cap] := PrAdd.blk htw1 (by first | exact Blk.new _ _ _ | exact (Blk.new _ _ _).alloc _ | exact Blk.new2 _ _ _ _ | exact ((Blk.new _ _ _).alloc _).alloc _ | exact (Blk.new2 _ _ _ _).alloc _ | exact Blk.new3 _ _ _ _ _ | assumption | exact Blk.alloc (by assumption) _ | exact (Blk.alloc (Blk.alloc (by assumption) _) _)) (by have := PSt.lt PST0.out; have := PSt.hB PST0.out; omega) (by decide) (by decide)
  have q0_0_w1 : World.cell? w1 ⟨w.heap.size, 0, none⟩ = some (kd) := Blk.cell B0_w1 0
  have q0_1_w1 : World.cell? w1 ⟨w.heap.size, 1, none⟩ = some (.string (⟨#[91, 93]⟩ : ByteArray)) := Blk.cell B0_w1 1
  have q0_2_w1 : World.cell? w1 ⟨w.heap.size, 2, none⟩ = some (cl) := Blk.cell B0_w1 2
  have q0_3_w1 : World.cell? w1 ⟨w.heap.size, 3, none⟩ = some (.slice (some ⟨g, o, none⟩) 1 cap) := Blk.cell B0_w1 3
  clear xa0_w xa1_w xa2_w xa3_w
  have xa0_w1 : World.cell? w1 ⟨g, o, none⟩ = some (.int .i64 a.kind) := Low.cell (PSt.low PSTw1.out) XA0.out
  have xa1_w1 : World.cell? w1 ⟨g, o + 1, none⟩ = some (.string (⟨a.text.toArray⟩ : ByteArray)) := Low.cell (PSt.low PSTw1.out) XA1.out
  have xa2_w1 : World.cell? w1 ⟨g, o + 2, none⟩ = some (.int .i64 a.cols) := Low.cell (PSt.low PSTw1.out) XA2.out
  have xa3_w1 : World.cell? w1 ⟨g, o + 3, none⟩ = some (sa) := Low.cell (PSt.low PSTw1.out) XA3.out
  have hlt_g_w1 : g < w1.heap.size := block_lt_of_cell xa0_w1
  clear htw1
  go_wp2_with fail
  refine Calls.mono ((ROWa.out) _ _ _ (PSt.fresh PSTw1.out (by first | exact (Touch.refl _ _) | exact (Touch.refl _ _).alloc _ | exact ((Touch.refl _ _).alloc _).alloc _ | exact (((Touch.refl _ _).alloc _).alloc _).alloc _ | exact (Touch.refl _ _).drewN _ | exact ((Touch.refl _ _).alloc _).drewN _ | exact (((Touch.refl _ _).alloc _).alloc _).drewN _)) FITw1.out.left) ?_
  rintro _ w2 ⟨rfl, htw2⟩
  have PSTw2 := hid (PSt.add2 (PSt.fresh PSTw1.out (by first | exact (Touch.refl _ _) | exact (Touch.refl _ _).alloc _ | exact ((Touch.refl _ _).alloc _).alloc _ | exact (((Touch.refl _ _).alloc _).alloc _).alloc _ | exact (Touch.refl _ _).drewN _ | exact ((Touch.refl _ _).alloc _).drewN _ | exact (((Touch.refl _ _).alloc _).alloc _).drewN _)) htw2)
  have ACCw2 := hid (PrAdd.app ACCw1.out (PrAdd.freshL (show Fresh w1 _ from (by first | exact (Touch.refl _ _) | exact (Touch.refl _ _).alloc _ | exact ((Touch.refl _ _).alloc _).alloc _ | exact (((Touch.refl _ _).alloc _).alloc _).alloc _ | exact (Touch.refl _ _).drewN _ | exact ((Touch.refl _ _).alloc _).drewN _ | exact (((Touch.refl _ _).alloc _).alloc _).drewN _)) htw2))
  have FITw2 := hid (Fits.right2 FITw1.out)
  have B0_w2 : Blk w2 (w.heap.size) 24 #[kd, .string (⟨#[91, 93]⟩ : ByteArray), cl, .slice (some ⟨g, o, none⟩) 1 cap] := PrAdd.blk htw2 (by first | exact Blk.new _ _ _ | exact (Blk.new _ _ _).alloc _ | exact Blk.new2 _ _ _ _ | exact ((Blk.new _ _ _).alloc _).alloc _ | exact (Blk.new2 _ _ _ _).alloc _ | exact Blk.new3 _ _ _ _ _ | assumption | exact Blk.alloc (by assumption) _ | exact (Blk.alloc (Blk.alloc (by assumption) _) _)) (by have := PSt.lt PST0.out; have := PSt.hB PST0.out; omega) (by decide) (by decide)
  clear q0_0_w1 q0_1_w1 q0_2_w1 q0_3_w1 B0_w1
  have q0_0_w2 : World.cell? w2 ⟨w.heap.size, 0, none⟩ = some (kd) := Blk.cell B0_w2 0
  have q0_1_w2 : World.cell? w2 ⟨w.heap.size, 1, none⟩ = some (.string (⟨#[91, 93]⟩ : ByteArray)) := Blk.cell B0_w2 1
  have q0_2_w2 : World.cell? w2 ⟨w.heap.size, 2, none⟩ = some (cl) := Blk.cell B0_w2 2
  have q0_3_w2 : World.cell? w2 ⟨w.heap.size, 3, none⟩ = some (.slice (some ⟨g, o, none⟩) 1 cap) := Blk.cell B0_w2 3
  clear xa0_w1 xa1_w1 xa2_w1 xa3_w1
  have xa0_w2 : World.cell? w2 ⟨g, o, none⟩ = some (.int .i64 a.kind) := Low.cell (PSt.low PSTw2.out) XA0.out
  have xa1_w2 : World.cell? w2 ⟨g, o + 1, none⟩ = some (.string (⟨a.text.toArray⟩ : ByteArray)) := Low.cell (PSt.low PSTw2.out) XA1.out
  have xa2_w2 : World.cell? w2 ⟨g, o + 2, none⟩ = some (.int .i64 a.cols) := Low.cell (PSt.low PSTw2.out) XA2.out
  have xa3_w2 : World.cell? w2 ⟨g, o + 3, none⟩ = some (sa) := Low.cell (PSt.low PSTw2.out) XA3.out
  have hlt_g_w2 : g < w2.heap.size := block_lt_of_cell xa0_w2
  clear htw2
  go_wp2_with fail
  refine Calls.mono ((mark_em W0 p B [93]) _ _ _ (PSt.fresh PSTw2.out (by first | exact (Touch.refl _ _) | exact (Touch.refl _ _).alloc _ | exact ((Touch.refl _ _).alloc _).alloc _ | exact (((Touch.refl _ _).alloc _).alloc _).alloc _ | exact (Touch.refl _ _).drewN _ | exact ((Touch.refl _ _).alloc _).drewN _ | exact (((Touch.refl _ _).alloc _).alloc _).drewN _)) FITw2.out) ?_
  rintro _ w3 ⟨rfl, htw3⟩
  have PSTw3 := hid (PSt.add2 (PSt.fresh PSTw2.out (by first | exact (Touch.refl _ _) | exact (Touch.refl _ _).alloc _ | exact ((Touch.refl _ _).alloc _).alloc _ | exact (((Touch.refl _ _).alloc _).alloc _).alloc _ | exact (Touch.refl _ _).drewN _ | exact ((Touch.refl _ _).alloc _).drewN _ | exact (((Touch.refl _ _).alloc _).alloc _).drewN _)) htw3)
  have ACCw3 := hid (PrAdd.app ACCw2.out (PrAdd.freshL (show Fresh w2 _ from (by first | exact (Touch.refl _ _) | exact (Touch.refl _ _).alloc _ | exact ((Touch.refl _ _).alloc _).alloc _ | exact (((Touch.refl _ _).alloc _).alloc _).alloc _ | exact (Touch.refl _ _).drewN _ | exact ((Touch.refl _ _).alloc _).drewN _ | exact (((Touch.refl _ _).alloc _).alloc _).drewN _)) htw3))
  have B0_w3 : Blk w3 (w.heap.size) 24 #[kd, .string (⟨#[91, 93]⟩ : ByteArray), cl, .slice (some ⟨g, o, none⟩) 1 cap] := PrAdd.blk htw3 (by first | exact Blk.new _ _ _ | exact (Blk.new _ _ _).alloc _ | exact Blk.new2 _ _ _ _ | exact ((Blk.new _ _ _).alloc _).alloc _ | exact (Blk.new2 _ _ _ _).alloc _ | exact Blk.new3 _ _ _ _ _ | assumption | exact Blk.alloc (by assumption) _ | exact (Blk.alloc (Blk.alloc (by assumption) _) _)) (by have := PSt.lt PST0.out; have := PSt.hB PST0.out; omega) (by decide) (by decide)
  clear q0_0_w2 q0_1_w2 q0_2_w2 q0_3_w2 B0_w2
  have q0_0_w3 : World.cell? w3 ⟨w.heap.size, 0, none⟩ = some (kd) := Blk.cell B0_w3 0
  have q0_1_w3 : World.cell? w3 ⟨w.heap.size, 1, none⟩ = some (.string (⟨#[91, 93]⟩ : ByteArray)) := Blk.cell B0_w3 1
  have q0_2_w3 : World.cell? w3 ⟨w.heap.size, 2, none⟩ = some (cl) := Blk.cell B0_w3 2
  have q0_3_w3 : World.cell? w3 ⟨w.heap.size, 3, none⟩ = some (.slice (some ⟨g, o, none⟩) 1 cap) := Blk.cell B0_w3 3
  clear xa0_w2 xa1_w2 xa2_w2 xa3_w2
  have xa0_w3 : World.cell? w3 ⟨g, o, none⟩ = some (.int .i64 a.kind) := Low.cell (PSt.low PSTw3.out) XA0.out
  have xa1_w3 : World.cell? w3 ⟨g, o + 1, none⟩ = some (.string (⟨a.text.toArray⟩ : ByteArray)) := Low.cell (PSt.low PSTw3.out) XA1.out
  have xa2_w3 : World.cell? w3 ⟨g, o + 2, none⟩ = some (.int .i64 a.cols) := Low.cell (PSt.low PSTw3.out) XA2.out
  have xa3_w3 : World.cell? w3 ⟨g, o + 3, none⟩ = some (sa) := Low.cell (PSt.low PSTw3.out) XA3.out
  have hlt_g_w3 : g < w3.heap.size := block_lt_of_cell xa0_w3
  clear htw3
  go_wp2_with fail
  first | go_end0 | refine bodyPost_ret (v := .tuple #[]) (results_none rfl _ _ _) rfl ?_
  exact ⟨rfl, PrAdd.cast ACCw3.out (by first | rfl | (simp only [List.append_assoc] <;> rfl))⟩
set_option maxRecDepth 100000 in
set_option maxHeartbeats 1000000 in
theorem fence_other (W0 : World) (p B : Nat) (kd cl : Value) (t : List UInt8) (h1 : t ≠ [40, 41]) (h2 : t ≠ [91, 93]) (a : Nd) (ha : ArgE W0 p B a) (sl : Value) (hsl : RepL W0 [a] sl) : Emits 64 #[pp p, .agg #[kd, .string ⟨t.toArray⟩, cl, sl]] W0 p B ([⟨5, t⟩] ++ argT a) := by
  intro w toks txt hp hf
  obtain ⟨g, o, cap, sa, rfl, a0, a1, a2, a3, hra⟩ := hsl.one
  have ARGa := hid (ha sa hra)
  have PST0 := hid hp
  have FIT0 := hid hf
  clear hp hf ha hsl hra
  have t1 : (ByteArray.toList ⟨t.toArray⟩ == [40, 41]) = false := by rw [ByteArray.toList_eq]; simpa using h1
  have t2 : (ByteArray.toList ⟨t.toArray⟩ == [91, 93]) = false := by rw [ByteArray.toList_eq]; simpa using h2
  have s1 : ((⟨t.toArray⟩ : ByteArray) == (⟨#[40, 41]⟩ : ByteArray)) = false := by rw [str_eq']; simpa using h1
  have s2 : ((⟨t.toArray⟩ : ByteArray) == (⟨#[91, 93]⟩ : ByteArray)) = false := by rw [str_eq']; simpa using h2
  have u1 : (t == [40, 41]) = false := by simpa using h1
  have u2 : (t == [91, 93]) = false := by simpa using h2
  have XA0 := hid a0
  have XA1 := hid a1
  have XA2 := hid a2
  have XA3 := hid a3
  clear a0 a1 a2 a3
  have xa0_w : World.cell? w ⟨g, o, none⟩ = some (.int .i64 a.kind) := Low.cell (PSt.low PST0.out) XA0.out
  have xa1_w : World.cell? w ⟨g, o + 1, none⟩ = some (.string (⟨a.text.toArray⟩ : ByteArray)) := Low.cell (PSt.low PST0.out) XA1.out
  have xa2_w : World.cell? w ⟨g, o + 2, none⟩ = some (.int .i64 a.cols) := Low.cell (PSt.low PST0.out) XA2.out
  have xa3_w : World.cell? w ⟨g, o + 3, none⟩ = some (sa) := Low.cell (PSt.low PST0.out) XA3.out
  have hlt_g_w : g < w.heap.size := block_lt_of_cell xa0_w
  go_enter Try.func64, Try.ntmps64
  go_wp2_with fail
  refine Calls.mono ((add_em W0 p B 5 t) _ _ _ (PSt.fresh PST0.out (by first | exact (Touch.refl _ _) | exact (Touch.refl _ _).alloc _ | exact ((Touch.refl _ _).alloc _).alloc _ | exact (((Touch.refl _ _).alloc _).alloc _).alloc _ | exact (Touch.refl _ _).drewN _ | exact ((Touch.refl _ _).alloc _).drewN _ | exact (((Touch.refl _ _).alloc _).alloc _).drewN _)) FIT0.out.left) ?_
  rintro _ w1 ⟨rfl, htw1⟩
  have PSTw1 := hid (PSt.add (PSt.fresh PST0.out (by first | exact (Touch.refl _ _) | exact (Touch.refl _ _).alloc _ | exact ((Touch.refl _ _).alloc _).alloc _ | exact (((Touch.refl _ _).alloc _).alloc _).alloc _ | exact (Touch.refl _ _).drewN _ | exact ((Touch.refl _ _).alloc _).drewN _ | exact (((Touch.refl _ _).alloc _).alloc _).drewN _)) htw1)
  have ACCw1 := hid (PrAdd.freshL (show Fresh w _ from (by first | exact (Touch.refl _ _) | exact (Touch.refl _ _).alloc _ | exact ((Touch.refl _ _).alloc _).alloc _ | exact (((Touch.refl _ _).alloc _).alloc _).alloc _ | exact (Touch.refl _ _).drewN _ | exact ((Touch.refl _ _).alloc _).drewN _ | exact (((Touch.refl _ _).alloc _).alloc _).drewN _)) htw1)
  have FITw1 := hid (Fits.right FIT0.out)
  have B0_w1 : Blk w1 (w.heap.size) 24 #[kd, .string (⟨t.toArray⟩ : ByteArray), cl, .slice (some ⟨g, o, none⟩) 1 cap] := PrAdd.blk htw1 (by first | exact Blk.new _ _ _ | exact (Blk.new _ _ _).alloc _ | exact Blk.new2 _ _ _ _ | exact ((Blk.new _ _ _).alloc _).alloc _ | exact (Blk.new2 _ _ _ _).alloc _ | exact Blk.new3 _ _ _ _ _ | assumption | exact Blk.alloc (by assumption) _ | exact (Blk.alloc (Blk.alloc (by assumption) _) _)) (by have := PSt.lt PST0.out; have := PSt.hB PST0.out; omega) (by decide) (by decide)
  have q0_0_w1 : World.cell? w1 ⟨w.heap.size, 0, none⟩ = some (kd) := Blk.cell B0_w1 0
  have q0_1_w1 : World.cell? w1 ⟨w.heap.size, 1, none⟩ = some (.string (⟨t.toArray⟩ : ByteArray)) := Blk.cell B0_w1 1
  have q0_2_w1 : World.cell? w1 ⟨w.heap.size, 2, none⟩ = some (cl) := Blk.cell B0_w1 2
  have q0_3_w1 : World.cell? w1 ⟨w.heap.size, 3, none⟩ = some (.slice (some ⟨g, o, none⟩) 1 cap) := Blk.cell B0_w1 3
  clear xa0_w xa1_w xa2_w xa3_w
  have xa0_w1 : World.cell? w1 ⟨g, o, none⟩ = some (.int .i64 a.kind) := Low.cell (PSt.low PSTw1.out) XA0.out
  have xa1_w1 : World.cell? w1 ⟨g, o + 1, none⟩ = some (.string (⟨a.text.toArray⟩ : ByteArray)) := Low.cell (PSt.low PSTw1.out) XA1.out
  have xa2_w1 : World.cell? w1 ⟨g, o + 2, none⟩ = some (.int .i64 a.cols) := Low.cell (PSt.low PSTw1.out) XA2.out
  have xa3_w1 : World.cell? w1 ⟨g, o + 3, none⟩ = some (sa) := Low.cell (PSt.low PSTw1.out) XA3.out
  have hlt_g_w1 : g < w1.heap.size := block_lt_of_cell xa0_w1
  clear htw1
  go_wp2_with fail
  refine Calls.mono ((ARGa.out) _ _ _ (PSt.fresh PSTw1.out (by first | exact (Touch.refl _ _) | exact (Touch.refl _ _).alloc _ | exact ((Touch.refl _ _).alloc _).alloc _ | exact (((Touch.refl _ _).alloc _).alloc _).alloc _ | exact (Touch.refl _ _).drewN _ | exact ((Touch.refl _ _).alloc _).drewN _ | exact (((Touch.refl _ _).alloc _).alloc _).drewN _)) FITw1.out) ?_
  rintro _ w2 ⟨rfl, htw2⟩
  have PSTw2 := hid (PSt.add2 (PSt.fresh PSTw1.out (by first | exact (Touch.refl _ _) | exact (Touch.refl _ _).alloc _ | exact ((Touch.refl _ _).alloc _).alloc _ | exact (((Touch.refl _ _).alloc _).alloc _).alloc _ | exact (Touch.refl _ _).drewN _ | exact ((Touch.refl _ _).alloc _).drewN _ | exact (((Touch.refl _ _).alloc _).alloc _).drewN _)) htw2)
  have ACCw2 := hid (PrAdd.app ACCw1.out (PrAdd.freshL (show Fresh w1 _ from (by first | exact (Touch.refl _ _) | exact (Touch.refl _ _).alloc _ | exact ((Touch.refl _ _).alloc _).alloc _ | exact (((Touch.refl _ _).alloc _).alloc _).alloc _ | exact (Touch.refl _ _).drewN _ | exact ((Touch.refl _ _).alloc _).drewN _ | exact (((Touch.refl _ _).alloc _).alloc _).drewN _)) htw2))
  have B0_w2 : Blk w2 (w.heap.size) 24 #[kd, .string (⟨t.toArray⟩ : ByteArray), cl, .slice (some ⟨g, o, none⟩) 1 cap] := PrAdd.blk htw2 (by first | exact Blk.new _ _ _ | exact (Blk.new _ _ _).alloc _ | exact Blk.new2 _ _ _ _ | exact ((Blk.new _ _ _).alloc _).alloc _ | exact (Blk.new2 _ _ _ _).alloc _ | exact Blk.new3 _ _ _ _ _ | assumption | exact Blk.alloc (by assumption) _ | exact (Blk.alloc (Blk.alloc (by assumption) _) _)) (by have := PSt.lt PST0.out; have := PSt.hB PST0.out; omega) (by decide) (by decide)
  clear q0_0_w1 q0_1_w1 q0_2_w1 q0_3_w1 B0_w1
  have q0_0_w2 : World.cell? w2 ⟨w.heap.size, 0, none⟩ = some (kd) := Blk.cell B0_w2 0
  have q0_1_w2 : World.cell? w2 ⟨w.heap.size, 1, none⟩ = some (.string (⟨t.toArray⟩ : ByteArray)) := Blk.cell B0_w2 1
  have q0_2_w2 : World.cell? w2 ⟨w.heap.size, 2, none⟩ = some (cl) := Blk.cell B0_w2 2
  have q0_3_w2 : World.cell? w2 ⟨w.heap.size, 3, none⟩ = some (.slice (some ⟨g, o, none⟩) 1 cap) := Blk.cell B0_w2 3
  clear xa0_w1 xa1_w1 xa2_w1 xa3_w1
  have xa0_w2 : World.cell? w2 ⟨g, o, none⟩ = some (.int .i64 a.kind) := Low.cell (PSt.low PSTw2.out) XA0.out
  have xa1_w2 : World.cell? w2 ⟨g, o + 1, none⟩ = some (.string (⟨a.text.toArray⟩ : ByteArray)) := Low.cell (PSt.low PSTw2.out) XA1.out
  have xa2_w2 : World.cell? w2 ⟨g, o + 2, none⟩ = some (.int .i64 a.cols) := Low.cell (PSt.low PSTw2.out) XA2.out
  have xa3_w2 : World.cell? w2 ⟨g, o + 3, none⟩ = some (sa) := Low.cell (PSt.low PSTw2.out) XA3.out
  have hlt_g_w2 : g < w2.heap.size := block_lt_of_cell xa0_w2
  clear htw2
  go_wp2_with fail
  first | go_end0 | refine bodyPost_ret (v := .tuple #[]) (results_none rfl _ _ _) rfl ?_
  exact ⟨rfl, PrAdd.cast ACCw2.out (by first | rfl | (simp only [List.append_assoc] <;> rfl))⟩
end Go.Proofs.Ytdacpbdamliafaa

/- The printer's row. -/
namespace Go.Proofs.Ytdacpbdamliafaa
open Go.RowKit
open Tr (Nd argT baseT rowT itemT)

theorem Fits.mid {a b c : List Lx.Tok} {toks : List Lx.PTok} {txt : List UInt8} (h : Fits (a ++ (b ++ c)) toks txt) : Fits b (adds a toks txt).1 (adds a toks txt).2 := h.right.left

/-- The method of an item's kind adds the tokens of the item. -/
def ItemE (W0 : World) (p B : Nat) (x : Nd) : Prop :=
  ∃ fid : Nat, (∀ w : World, (Instr.index 82 (.agg visitCells) (.int .i64 x.kind)).run Try.prog w = .ok (.func (.func fid) #[] #[]) w) ∧
    (∀ (a : Array Value) (w : World), (callFunc fid a).run Try.prog w = .ok (.enter fid a) w) ∧
    ∀ sx, RepL W0 x.kids sx → Emits fid #[pp p, nv x sx] W0 p B (itemT x)

theorem rowT_take (l : List Nd) (j : Nat) (h : j < l.length) : rowT (l.take (j + 1)) = rowT (l.take j) ++ itemT l[j] := by
  induction l generalizing j with
  | nil => simp at h
  | cons x l ih =>
    cases j with
    | zero => simp [Tr.rowT_cons, Tr.rowT_nil]
    | succ j =>
      simp only [List.take_succ_cons, Tr.rowT_cons, List.getElem_cons_succ]
      rw [ih j (by simpa using h), List.append_assoc]
theorem rowT_split (l : List Nd) (j : Nat) (h : j < l.length) : ∃ r, rowT l = rowT (l.take j) ++ (itemT l[j] ++ r) := by
  induction l generalizing j with
  | nil => simp at h
  | cons x l ih =>
    cases j with
    | zero => exact ⟨rowT l, by simp [Tr.rowT_cons, Tr.rowT_nil]⟩
    | succ j =>
      obtain ⟨r, hr⟩ := ih j (by simpa using h)
      refine ⟨r, ?_⟩
      simp only [List.take_succ_cons, Tr.rowT_cons, List.getElem_cons_succ]
      rw [hr, List.append_assoc]

set_option maxRecDepth 100000 in
set_option maxHeartbeats 2000000 in
theorem row_em (W0 : World) (p B : Nat) (n : Nd) (hi : ∀ x ∈ n.kids, ItemE W0 p B x) : RowE W0 p B n := by
  intro sl hsl w toks txt hp hf
  obtain ⟨A, cap, rfl⟩ := hsl.slice
  have hlen := hsl.len
  unfold maxLen at hlen
  have HI := hid hi
  have HSL := hid hsl
  have PST0 := hid hp
  have FIT0 := hid hf
  have hfw : Fresh w (w.alloc (.cells #[.int .i64 n.kind, .string ⟨n.text.toArray⟩, .int .i64 n.cols, .slice A n.kids.length cap] 24)) := (Touch.refl _ _).alloc _
  have HFW := hid hfw
  clear hi hsl hp hf hfw
  go_enter Try.func27, Try.ntmps27
  go_wp2_with fail
  go_loopw [9] (fun i wr => ∃ j : Nat, i = .int .i64 j ∧ j ≤ n.kids.length ∧ Hid (PSt W0 p B wr (adds (rowT (n.kids.take j)) toks txt).1 (adds (rowT (n.kids.take j)) toks txt).2) ∧ Hid (PrAdd w wr p B toks txt (rowT (n.kids.take j)))) (fun i _ => n.kids.length - (intOf i).toNat)
  case atStart => exact ⟨0, rfl, Nat.zero_le _, by rw [List.take_zero, Tr.rowT_nil]; exact PST0.out.fresh HFW.out, by
      rw [List.take_zero, Tr.rowT_nil]
      obtain ⟨vt, vb, cs, hpr⟩ := PST0.out.pr
      exact ⟨vt, vb, cs, hpr.fresh HFW.out, PS.fresh HFW.out⟩⟩
  case round =>
    obtain ⟨j, rfl, hj, PSTR, ACCR⟩ := hrel
    by_cases c1 : j < n.kids.length
    · have d1 : decide ((j : Int) < (n.kids.length : Int)) = true := by simp only [decide_eq_true_eq]; omega
      have d1n : decide (j < n.kids.length) = true := by simp only [decide_eq_true_eq]; omega
      have d1' : (j : Int) < (n.kids.length : Int) := by omega
      obtain ⟨g, o, sx, rfl, hg, m0, m1, m2, m3, hrk⟩ := HSL.out.get j c1
      obtain ⟨Ax, capx, rfl⟩ := hrk.slice
      obtain ⟨fid, hix, hcf, hem⟩ := HI.out n.kids[j] (List.getElem_mem c1)
      obtain ⟨r, hr⟩ := rowT_split n.kids j c1
      have HTK := hid (rowT_take n.kids j c1)
      have FIT := hid (Fits.mid (show Fits (rowT (n.kids.take j) ++ (itemT n.kids[j] ++ r)) toks txt by rw [← hr]; exact FIT0.out))
      have EM := hid (hem _ hrk)
      have a0 := Low.cell (PSt.low PSTR.out) m0
      have a1 := Low.cell (PSt.low PSTR.out) m1
      have a2 := Low.cell (PSt.low PSTR.out) m2
      have a3 := Low.cell (PSt.low PSTR.out) m3
      have hgw : g < wr.heap.size := block_lt_of_cell a0
      clear m0 m1 m2 m3 hrk hem hr hg HI HSL
      generalize n.kids[j] = x at *
      go_wp2_with fail
      refine forget_world (fun W => Fresh wr W ∧ Blk W wr.heap.size 24 #[.int .i64 x.kind, .string ⟨x.text.toArray⟩, .int .i64 x.cols, .slice Ax x.kids.length capx]) ⟨(Touch.refl _ _).alloc _, Blk.new _ _ _⟩ ?_
      rintro W4 ⟨hf4, hb4⟩
      obtain ⟨q0, q1, q2, q3, _, _, _, _, hg4⟩ := Blk.four hb4
      have g0 := cell_regrown q0
      have g1 := cell_regrown q1
      have g2 := cell_regrown q2
      have g3 := cell_regrown q3
      have HF4 := hid hf4
      have CV := hid (calmF (P := Try.prog) W4 (fun w _ => visitors_any w))
      clear hf4 hb4 a0 a1 a2 a3
      refine wp_region_segs_below [([0, 1, 2, 3, 4, 5], 6)] [] (by kernel_rfl) (by kernel_rfl) ?_
      simp only [wpSegsC, pick, List.getElem?_cons_zero, List.getElem?_cons_succ]
      repeat (quiet_step (with_reducible exact CV.out _ _))
      refine wpQuiet_nil ?_
      rintro W5 ⟨⟨_, _⟩, hW5⟩
      have hf5 : Fresh W4 W5 := by rw [hW5]; exact fresh_of_below (below_regrown _ _ _)
      have HF5 := hid hf5
      clear hW5 hf5 q0 q1 q2 q3 g0 g1 g2 g3
      go_wp2_with fail
      refine (EM.out _ _ _ (PSTR.out.fresh (Touch.trans HF4.out HF5.out)) FIT.out).mono ?_
      rintro _ w6 ⟨rfl, h6⟩
      have PST6 := hid (PSt.add2 (PSTR.out.fresh (Touch.trans HF4.out HF5.out)) h6)
      have ACC6 := hid (PrAdd.app ACCR.out (PrAdd.freshL (Touch.trans HF4.out HF5.out) h6))
      clear h6
      go_wp2_with fail
      refine wpQuiet_nil ?_
      rintro W7 ⟨⟨_, _⟩, hW7⟩
      have hf7 : Fresh w6 W7 := by rw [hW7]; exact fresh_of_below (below_regrown _ _ _)
      have HF7 := hid hf7
      clear hW7 hf7
      go_wp2_with fail
      go_roundw
      case rel => exact ⟨j + 1, by go_num, c1, by rw [HTK.out]; exact PST6.out.fresh HF7.out, by rw [HTK.out]; exact ACC6.out.freshR HF7.out⟩
      case measure => simp [intOf]; omega
    · have d1 : decide ((j : Int) < (n.kids.length : Int)) = false := by simp only [decide_eq_false_iff_not]; omega
      have d1n : decide (j < n.kids.length) = false := by simp only [decide_eq_false_iff_not]; omega
      obtain rfl : j = n.kids.length := by omega
      have HA := hid (show PrAdd w wr p B toks txt (rowT n.kids) by
        have := ACCR.out
        rwa [List.take_length] at this)
      go_wp2_with fail
      go_end0
      exact ⟨rfl, HA.out⟩
end Go.Proofs.Ytdacpbdamliafaa

/- The tokens of a small valid tree fit into a printer. -/
namespace Go.Proofs.Ytdacpbdamliafaa
open Tr (Nd View IsRow itemT rowT argT baseT cellsT count countL AllOK)

def cost : List Lx.Tok → Nat
  | [] => 0
  | t :: l => (Lx.spell t).length + 1 + cost l

theorem adds_len : ∀ (l : List Lx.Tok) (toks : List Lx.PTok) (txt : List UInt8), (adds l toks txt).1.length = toks.length + l.length ∧ (adds l toks txt).2.length ≤ txt.length + cost l
  | [], _, _ => ⟨rfl, Nat.le_refl _⟩
  | t :: l, toks, txt => by
    have h := adds_len l (added toks txt t) (txt ++ gap toks t ++ Lx.spell t)
    have hg : (gap toks t).length ≤ 1 := by unfold gap; split <;> simp
    simp only [adds, added, List.length_append, List.length_nil, List.length_cons, cost] at h ⊢
    omega
theorem ok_text (t : Lx.Tok) (h : Lx.TokOK t) : t.text.length ≤ 200 := by
  rcases h with ⟨_, c, h, _⟩ | ⟨_, h, _⟩ | ⟨_, h, _⟩ | ⟨_, h, _⟩ | ⟨_, a, b, h, _⟩ | ⟨_, c, h, _⟩ | ⟨_, c, h, _⟩ | ⟨_, h⟩
  · rw [h]; simp
  · omega
  · exact h
  · omega
  · rw [h]; simp
  · rw [h]; simp
  · rw [h]; simp
  · rw [h]; simp
theorem ok_cost : ∀ l : List Lx.Tok, AllOK l → cost l ≤ 407 * l.length
  | [], _ => Nat.le_refl _
  | t :: l, h => by
    have h1 := ok_cost l fun x hx => h x (by simp [hx])
    have h2 := ok_text t (h t (by simp))
    have h3 := spellL_le t.kind t.text
    have h4 : (Lx.spell t).length ≤ 2 * t.text.length + 6 := h3
    simp only [cost, List.length_cons]
    omega

theorem rowT_len (ks : List Nd) (h : ∀ x ∈ ks, (itemT x).length ≤ 3 * count x) : (rowT ks).length ≤ 3 * countL ks := by
  induction ks with
  | nil => rw [Tr.rowT_nil]; simp
  | cons x ks ih =>
    rw [Tr.rowT_cons, List.length_append, countL]
    have h1 := h x (by simp)
    have h2 := ih fun y hy => h y (by simp [hy])
    omega
theorem argT_len (a : Nd) (h : ∀ x ∈ a.kids, (itemT x).length ≤ 3 * count x) : (argT a).length ≤ 3 * count a - 1 := by
  have hc := Tr.count_kids a
  have hr := rowT_len a.kids h
  rw [Tr.argT_eq]
  split
  · rename_i x hx
    rw [hx] at h hc hr
    have h1 := h x (by simp)
    simp only [countL] at hc
    split
    · omega
    · simp only [List.length_cons, List.length_append, List.length_nil, countL] at hr ⊢; omega
  · simp only [List.length_cons, List.length_append, List.length_nil]; omega
theorem baseT_len (a : Nd) (h : ∀ x ∈ a.kids, (itemT x).length ≤ 3 * count x) : (baseT a).length ≤ 3 * count a - 1 := by
  have hc := Tr.count_kids a
  have hr := rowT_len a.kids h
  rw [Tr.baseT_eq]
  split
  · rename_i x hx
    rw [hx] at h hc hr
    have h1 := h x (by simp)
    simp only [countL] at hc
    split
    · simp only [List.length_cons, List.length_append, List.length_nil, countL] at hr ⊢; omega
    · omega
  · simp only [List.length_cons, List.length_append, List.length_nil]; omega
theorem cellsT_len (c : Int) : ∀ (ks : List Nd) (i : Nat), (∀ k ∈ ks, ∀ x ∈ k.kids, (itemT x).length ≤ 3 * count x) → (cellsT c i ks).length ≤ 3 * countL ks
  | [], _, _ => by rw [cellsT]; simp
  | k :: ks, i, h => by
    have h1 := cellsT_len c ks (i + 1) fun y hy => h y (by simp [hy])
    have h2 := rowT_len k.kids (h k (by simp))
    have h3 := Tr.count_kids k
    rw [cellsT, List.length_append, List.length_append, countL]
    have h4 : (if i = 0 then [] else if (i : Int) % c = 0 then [(⟨8, [92, 92]⟩ : Lx.Tok)] else [Tr.mk7 38]).length ≤ 1 := by
      split
      · simp
      · split <;> simp
    omega
theorem item_len (m : Nat) : ∀ n, count n ≤ m → View n → (itemT n).length ≤ 3 * count n := by
  induction m with
  | zero => intro n h; have := Tr.count_pos n; omega
  | succ m ih =>
    intro n hc v
    have hk : ∀ (k : Int) (t : Tr.Bytes) (c : Int) (ks : List Nd), n = .mk k t c ks → ∀ a ∈ ks, IsRow a → ∀ x ∈ a.kids, (itemT x).length ≤ 3 * count x := fun k t c ks e a ha hr x hx => by
      have h1 := Tr.count_mem hx
      have h2 := Tr.count_kids a
      have h3 := Tr.count_mem ha
      rw [e, count] at hc
      exact ih x (by omega) (hr.views x hx)
    cases v with
    | sym t h => rw [Tr.itemT_sym]; simp [count]; omega
    | num t h => rw [Tr.itemT_num]; simp [count]; omega
    | text t h => rw [Tr.itemT_text]; simp [count]; omega
    | frac a b ha hb =>
      have h1 := argT_len a (hk _ _ _ _ rfl a (by simp) ha)
      have h2 := argT_len b (hk _ _ _ _ rfl b (by simp) hb)
      have h3 := Tr.count_pos a
      have h4 := Tr.count_pos b
      rw [Tr.itemT_frac]
      simp only [List.length_cons, List.length_append, count, countL]
      omega
    | root a b ha hb =>
      have h1 := rowT_len a.kids (hk _ _ _ _ rfl a (by simp) ha)
      have h2 := argT_len b (hk _ _ _ _ rfl b (by simp) hb)
      have h3 := Tr.count_kids a
      have h4 := Tr.count_pos b
      rw [Tr.itemT_root]
      simp only [List.length_cons, List.length_append, count, countL]
      split
      · simp only [List.length_nil]; omega
      · simp only [List.length_cons, List.length_append, List.length_nil]; omega
    | sub a b ha hb =>
      have h1 := baseT_len a (hk _ _ _ _ rfl a (by simp) ha)
      have h2 := argT_len b (hk _ _ _ _ rfl b (by simp) hb)
      have h3 := Tr.count_pos a
      have h4 := Tr.count_pos b
      rw [Tr.itemT_sub]
      simp only [List.length_cons, List.length_append, count, countL]
      omega
    | sup a b ha hb =>
      have h1 := baseT_len a (hk _ _ _ _ rfl a (by simp) ha)
      have h2 := argT_len b (hk _ _ _ _ rfl b (by simp) hb)
      have h3 := Tr.count_pos a
      have h4 := Tr.count_pos b
      rw [Tr.itemT_sup]
      simp only [List.length_cons, List.length_append, count, countL]
      omega
    | both a b d ha hb hd =>
      have h1 := baseT_len a (hk _ _ _ _ rfl a (by simp) ha)
      have h2 := argT_len b (hk _ _ _ _ rfl b (by simp) hb)
      have h3 := argT_len d (hk _ _ _ _ rfl d (by simp) hd)
      have h4 := Tr.count_pos a
      have h5 := Tr.count_pos b
      have h6 := Tr.count_pos d
      rw [Tr.itemT_both]
      simp only [List.length_cons, List.length_append, count, countL]
      omega
    | accent t a h ha =>
      have h1 := argT_len a (hk _ _ _ _ rfl a (by simp) ha)
      rw [Tr.itemT_accent]
      simp only [List.length_cons, count, countL]
      omega
    | fence t a h ha =>
      have h1 := argT_len a (hk _ _ _ _ rfl a (by simp) ha)
      have h2 := rowT_len a.kids (hk _ _ _ _ rfl a (by simp) ha)
      have h3 := Tr.count_kids a
      rw [Tr.itemT_fence]
      split
      · simp only [List.length_cons, List.length_append, List.length_nil, count, countL]; omega
      · simp only [List.length_cons, count, countL]; omega
    | matrix c ks hc1 hn hm h =>
      have h1 := cellsT_len c ks 0 fun k hk' => hk _ _ _ _ rfl k hk' (h k hk')
      rw [Tr.itemT_matrix c ks (by rintro rfl; simp at hn)]
      simp only [List.length_cons, List.length_append, List.length_nil, count]
      omega

theorem row_len (a : Nd) (ha : IsRow a) : (rowT a.kids).length ≤ 3 * count a := by
  have := rowT_len a.kids fun x hx => item_len _ x (Nat.le_refl _) (ha.views x hx)
  have := Tr.count_kids a
  omega
/-- The tokens of a valid tree of at most 800 nodes fit into an empty printer. -/
theorem row_fits (a : Nd) (ha : IsRow a) (hc : count a ≤ 800) : Fits (rowT a.kids) [] [] := by
  have h1 := row_len a ha
  have h2 := ok_cost _ (Tr.row_ok a ha)
  have h3 := adds_len (rowT a.kids) [] []
  simp only [List.length_nil] at h3
  unfold Fits
  omega
end Go.Proofs.Ytdacpbdamliafaa

/- The printer's matrix; the methods of all kinds together. -/
namespace Go.Proofs.Ytdacpbdamliafaa
open Go.RowKit
open Tr (Nd argT baseT rowT itemT cellsT View IsRow)

def sepT (c : Int) (i : Nat) : List Lx.Tok := if i = 0 then [] else if (i : Int) % c = 0 then [⟨8, [92, 92]⟩] else [Tr.mk7 38]
theorem cellsT_eq (c : Int) (i : Nat) (n : Nd) (ns : List Nd) : cellsT c i (n :: ns) = sepT c i ++ (rowT n.kids ++ cellsT c (i + 1) ns) := by rw [cellsT]; rfl
theorem cellsT_nil (c : Int) (i : Nat) : cellsT c i [] = [] := by rw [cellsT]
theorem cellsT_take (c : Int) (l : List Nd) : ∀ (i j : Nat) (h : j < l.length), cellsT c i (l.take (j + 1)) = cellsT c i (l.take j) ++ (sepT c (i + j) ++ rowT l[j].kids) := by
  induction l with
  | nil => intro i j h; simp at h
  | cons x l ih =>
    intro i j h
    cases j with
    | zero => simp [cellsT_eq, cellsT_nil]
    | succ j =>
      simp only [List.take_succ_cons, cellsT_eq, List.getElem_cons_succ]
      rw [ih (i + 1) j (by simpa using h), show i + 1 + j = i + (j + 1) by omega]
      simp only [List.append_assoc]
theorem cellsT_split (c : Int) (l : List Nd) : ∀ (i j : Nat) (h : j < l.length), ∃ r, cellsT c i l = cellsT c i (l.take j) ++ (sepT c (i + j) ++ (rowT l[j].kids ++ r)) := by
  induction l with
  | nil => intro i j h; simp at h
  | cons x l ih =>
    intro i j h
    cases j with
    | zero => exact ⟨cellsT c (i + 1) l, by simp [cellsT_eq, cellsT_nil]⟩
    | succ j =>
      obtain ⟨r, hr⟩ := ih (i + 1) j (by simpa using h)
      refine ⟨r, ?_⟩
      simp only [List.take_succ_cons, cellsT_eq, List.getElem_cons_succ]
      rw [hr, show i + 1 + j = i + (j + 1) by omega]
      simp only [List.append_assoc]

set_option maxRecDepth 100000 in
set_option maxHeartbeats 4000000 in
theorem matrix_em (W0 : World) (p B : Nat) (kd tx : Value) (c : Int) (ks : List Nd) (hc : 1 ≤ c) (hc' : c ≤ 1000000) (hk : ∀ x ∈ ks, RowE W0 p B x) (sl : Value) (hsl : RepL W0 ks sl) :
    Emits 65 #[pp p, .agg #[kd, tx, .int .i64 c, sl]] W0 p B ([Tr.name Tr.sMatrix] ++ ([Tr.mk7 123] ++ (cellsT c 0 ks ++ [Tr.mk7 125]))) := by
  intro w toks txt hp hf
  obtain ⟨A, cap, rfl⟩ := hsl.slice
  have hlen := hsl.len
  unfold maxLen at hlen
  have HK := hid hk
  have HSL := hid hsl
  have PST0 := hid hp
  have FIT0 := hid hf
  have hc0 : (c == 0) = false := by rw [beq_eq_false_iff_ne]; omega
  have hc1 : 0 < c := by omega
  have hc2 : 0 ≤ c := by omega
  clear hk hsl hp hf
  go_enter Try.func65, Try.ntmps65
  go_wp2_with fail
  refine Calls.mono ((add_em W0 p B 4 [109, 97, 116, 114, 105, 120]) _ _ _ (PSt.fresh PST0.out (by first | exact (Touch.refl _ _) | exact (Touch.refl _ _).alloc _ | exact ((Touch.refl _ _).alloc _).alloc _ | exact (((Touch.refl _ _).alloc _).alloc _).alloc _ | exact (Touch.refl _ _).drewN _ | exact ((Touch.refl _ _).alloc _).drewN _ | exact (((Touch.refl _ _).alloc _).alloc _).drewN _)) FIT0.out.left) ?_
  rintro _ w1 ⟨rfl, htw1⟩
  have PSTw1 := hid (PSt.add (PSt.fresh PST0.out (by first | exact (Touch.refl _ _) | exact (Touch.refl _ _).alloc _ | exact ((Touch.refl _ _).alloc _).alloc _ | exact (((Touch.refl _ _).alloc _).alloc _).alloc _ | exact (Touch.refl _ _).drewN _ | exact ((Touch.refl _ _).alloc _).drewN _ | exact (((Touch.refl _ _).alloc _).alloc _).drewN _)) htw1)
  have ACCw1 := hid (PrAdd.freshL (show Fresh w _ from (by first | exact (Touch.refl _ _) | exact (Touch.refl _ _).alloc _ | exact ((Touch.refl _ _).alloc _).alloc _ | exact (((Touch.refl _ _).alloc _).alloc _).alloc _ | exact (Touch.refl _ _).drewN _ | exact ((Touch.refl _ _).alloc _).drewN _ | exact (((Touch.refl _ _).alloc _).alloc _).drewN _)) htw1)
  have FITw1 := hid (Fits.right FIT0.out)
  have B0_w1 : Blk w1 (w.heap.size) 24 #[kd, tx, .int .i64 c, .slice A ks.length cap] := PrAdd.blk htw1 (by first | exact Blk.new _ _ _ | exact (Blk.new _ _ _).alloc _ | exact Blk.new2 _ _ _ _ | exact ((Blk.new _ _ _).alloc _).alloc _ | exact (Blk.new2 _ _ _ _).alloc _ | exact Blk.new3 _ _ _ _ _ | assumption | exact Blk.alloc (by assumption) _ | exact (Blk.alloc (Blk.alloc (by assumption) _) _)) (by have := PSt.lt PST0.out; have := PSt.hB PST0.out; omega) (by decide) (by decide)
  have q0_0_w1 : World.cell? w1 ⟨w.heap.size, 0, none⟩ = some (kd) := Blk.cell B0_w1 0
  have q0_1_w1 : World.cell? w1 ⟨w.heap.size, 1, none⟩ = some (tx) := Blk.cell B0_w1 1
  have q0_2_w1 : World.cell? w1 ⟨w.heap.size, 2, none⟩ = some (.int .i64 c) := Blk.cell B0_w1 2
  have q0_3_w1 : World.cell? w1 ⟨w.heap.size, 3, none⟩ = some (.slice A ks.length cap) := Blk.cell B0_w1 3
  clear htw1
  go_wp2_with fail
  refine Calls.mono ((mark_em W0 p B [123]) _ _ _ (PSt.fresh PSTw1.out (by first | exact (Touch.refl _ _) | exact (Touch.refl _ _).alloc _ | exact ((Touch.refl _ _).alloc _).alloc _ | exact (((Touch.refl _ _).alloc _).alloc _).alloc _ | exact (Touch.refl _ _).drewN _ | exact ((Touch.refl _ _).alloc _).drewN _ | exact (((Touch.refl _ _).alloc _).alloc _).drewN _)) FITw1.out.left) ?_
  rintro _ w2 ⟨rfl, htw2⟩
  have PSTw2 := hid (PSt.add2 (PSt.fresh PSTw1.out (by first | exact (Touch.refl _ _) | exact (Touch.refl _ _).alloc _ | exact ((Touch.refl _ _).alloc _).alloc _ | exact (((Touch.refl _ _).alloc _).alloc _).alloc _ | exact (Touch.refl _ _).drewN _ | exact ((Touch.refl _ _).alloc _).drewN _ | exact (((Touch.refl _ _).alloc _).alloc _).drewN _)) htw2)
  have ACCw2 := hid (PrAdd.app ACCw1.out (PrAdd.freshL (show Fresh w1 _ from (by first | exact (Touch.refl _ _) | exact (Touch.refl _ _).alloc _ | exact ((Touch.refl _ _).alloc _).alloc _ | exact (((Touch.refl _ _).alloc _).alloc _).alloc _ | exact (Touch.refl _ _).drewN _ | exact ((Touch.refl _ _).alloc _).drewN _ | exact (((Touch.refl _ _).alloc _).alloc _).drewN _)) htw2))
  have FITw2 := hid (Fits.right2 FITw1.out)
  have B0_w2 : Blk w2 (w.heap.size) 24 #[kd, tx, .int .i64 c, .slice A ks.length cap] := PrAdd.blk htw2 (by first | exact Blk.new _ _ _ | exact (Blk.new _ _ _).alloc _ | exact Blk.new2 _ _ _ _ | exact ((Blk.new _ _ _).alloc _).alloc _ | exact (Blk.new2 _ _ _ _).alloc _ | exact Blk.new3 _ _ _ _ _ | assumption | exact Blk.alloc (by assumption) _ | exact (Blk.alloc (Blk.alloc (by assumption) _) _)) (by have := PSt.lt PST0.out; have := PSt.hB PST0.out; omega) (by decide) (by decide)
  clear q0_0_w1 q0_1_w1 q0_2_w1 q0_3_w1 B0_w1
  have q0_0_w2 : World.cell? w2 ⟨w.heap.size, 0, none⟩ = some (kd) := Blk.cell B0_w2 0
  have q0_1_w2 : World.cell? w2 ⟨w.heap.size, 1, none⟩ = some (tx) := Blk.cell B0_w2 1
  have q0_2_w2 : World.cell? w2 ⟨w.heap.size, 2, none⟩ = some (.int .i64 c) := Blk.cell B0_w2 2
  have q0_3_w2 : World.cell? w2 ⟨w.heap.size, 3, none⟩ = some (.slice A ks.length cap) := Blk.cell B0_w2 3
  clear htw2
  go_wp2_with fail
  go_loopw [13] (fun i wr => ∃ j : Nat, i = .int .i64 j ∧ j ≤ ks.length ∧ Hid (PSt W0 p B wr (adds ([Tr.name Tr.sMatrix] ++ [Tr.mk7 123] ++ cellsT c 0 (ks.take j)) toks txt).1 (adds ([Tr.name Tr.sMatrix] ++ [Tr.mk7 123] ++ cellsT c 0 (ks.take j)) toks txt).2) ∧ Hid (PrAdd w wr p B toks txt ([Tr.name Tr.sMatrix] ++ [Tr.mk7 123] ++ cellsT c 0 (ks.take j))) ∧ Hid (Blk wr w.heap.size 24 #[kd, tx, .int .i64 c, .slice A ks.length cap])) (fun i _ => ks.length - (intOf i).toNat)
  case atStart => exact ⟨0, rfl, Nat.zero_le _, by rw [List.take_zero, cellsT_nil, List.append_nil]; exact PSTw2.out, by rw [List.take_zero, cellsT_nil, List.append_nil]; exact ACCw2.out, B0_w2⟩
  case round =>
    obtain ⟨j, rfl, hj, PSTR, ACCR, HB⟩ := hrel
    by_cases c1 : j < ks.length
    · have d1 : decide ((j : Int) < (ks.length : Int)) = true := by simp only [decide_eq_true_eq]; omega
      have hlt_w_wr : w.heap.size < wr.heap.size := Blk.lt HB.out
      have d1n : decide (j < ks.length) = true := by simp only [decide_eq_true_eq]; omega
      have d1' : (j : Int) < (ks.length : Int) := by omega
      obtain ⟨g, o, sx, rfl, hg, m0, m1, m2, m3, hrk⟩ := HSL.out.get j c1
      obtain ⟨Ax, capx, rfl⟩ := hrk.slice
      have ROWx := hid (HK.out ks[j] (List.getElem_mem c1) _ hrk)
      obtain ⟨r, hr⟩ := cellsT_split c ks 0 j c1
      have HTK := hid (cellsT_take c ks 0 j c1)
      rw [Nat.zero_add] at hr HTK
      have FITX := hid (show Fits (([Tr.name Tr.sMatrix] ++ [Tr.mk7 123] ++ cellsT c 0 (ks.take j)) ++ ((sepT c j ++ rowT ks[j].kids) ++ (r ++ [Tr.mk7 125]))) toks txt by
        have := FIT0.out
        rw [hr] at this
        simpa only [List.append_assoc] using this)
      have XX0 := hid m0
      have XX1 := hid m1
      have XX2 := hid m2
      have XX3 := hid m3
      have xx0_wr := Low.cell (PSt.low PSTR.out) m0
      have xx1_wr := Low.cell (PSt.low PSTR.out) m1
      have xx2_wr := Low.cell (PSt.low PSTR.out) m2
      have xx3_wr := Low.cell (PSt.low PSTR.out) m3
      have hlt_g_wr : g < wr.heap.size := block_lt_of_cell xx0_wr
      clear m0 m1 m2 m3 hrk hr hg HK HSL
      generalize ks[j] = x at *
      have q0_0_wr : World.cell? wr ⟨w.heap.size, 0, none⟩ = some (kd) := Blk.cell HB.out 0
      have q0_1_wr : World.cell? wr ⟨w.heap.size, 1, none⟩ = some (tx) := Blk.cell HB.out 1
      have q0_2_wr : World.cell? wr ⟨w.heap.size, 2, none⟩ = some (.int .i64 c) := Blk.cell HB.out 2
      have q0_3_wr : World.cell? wr ⟨w.heap.size, 3, none⟩ = some (.slice (some ⟨g, o, none⟩) ks.length cap) := Blk.cell HB.out 3
      have B0_wr : Blk wr w.heap.size 24 #[kd, tx, .int .i64 c, .slice (some ⟨g, o, none⟩) ks.length cap] := HB.out
      by_cases j0 : j = 0
      · subst j0
        have HSEP := hid (show sepT c 0 = [] from by rfl)
        have FITR := hid (show Fits (rowT x.kids) (adds ([Tr.name Tr.sMatrix] ++ [Tr.mk7 123] ++ cellsT c 0 (ks.take 0)) toks txt).1 (adds ([Tr.name Tr.sMatrix] ++ [Tr.mk7 123] ++ cellsT c 0 (ks.take 0)) toks txt).2 by
          have := FITX.out.mid
          rw [HSEP.out] at this
          exact this)
        rw [Nat.zero_mul, Nat.add_zero] at xx0_wr xx1_wr xx2_wr xx3_wr
        have XY0 : Hid (W0.cell? ⟨g, o, none⟩ = some (.int .i64 x.kind)) := by have := XX0.out; rw [Nat.zero_mul, Nat.add_zero] at this; exact this
        have XY1 : Hid (W0.cell? ⟨g, o + 1, none⟩ = some (.string (⟨x.text.toArray⟩ : ByteArray))) := by have := XX1.out; rw [Nat.zero_mul, Nat.add_zero] at this; exact this
        have XY2 : Hid (W0.cell? ⟨g, o + 2, none⟩ = some (.int .i64 x.cols)) := by have := XX2.out; rw [Nat.zero_mul, Nat.add_zero] at this; exact this
        have XY3 : Hid (W0.cell? ⟨g, o + 3, none⟩ = some (.slice Ax x.kids.length capx)) := by have := XX3.out; rw [Nat.zero_mul, Nat.add_zero] at this; exact this
        go_wp2_with fail
        refine Calls.mono ((ROWx.out) _ _ _ (PSt.fresh PSTR.out (by first | exact (Touch.refl _ _) | exact (Touch.refl _ _).alloc _ | exact ((Touch.refl _ _).alloc _).alloc _ | exact (((Touch.refl _ _).alloc _).alloc _).alloc _ | exact (Touch.refl _ _).drewN _ | exact ((Touch.refl _ _).alloc _).drewN _ | exact (((Touch.refl _ _).alloc _).alloc _).drewN _)) FITR.out) ?_
        rintro _ w3 ⟨rfl, htw3⟩
        have PSTw3 := hid (PSt.add2 (PSt.fresh PSTR.out (by first | exact (Touch.refl _ _) | exact (Touch.refl _ _).alloc _ | exact ((Touch.refl _ _).alloc _).alloc _ | exact (((Touch.refl _ _).alloc _).alloc _).alloc _ | exact (Touch.refl _ _).drewN _ | exact ((Touch.refl _ _).alloc _).drewN _ | exact (((Touch.refl _ _).alloc _).alloc _).drewN _)) htw3)
        have ACCw3 := hid (PrAdd.app ACCR.out (PrAdd.freshL (show Fresh wr _ from (by first | exact (Touch.refl _ _) | exact (Touch.refl _ _).alloc _ | exact ((Touch.refl _ _).alloc _).alloc _ | exact (((Touch.refl _ _).alloc _).alloc _).alloc _ | exact (Touch.refl _ _).drewN _ | exact ((Touch.refl _ _).alloc _).drewN _ | exact (((Touch.refl _ _).alloc _).alloc _).drewN _)) htw3))
        have B0_w3 : Blk w3 (w.heap.size) 24 #[kd, tx, .int .i64 c, .slice (some ⟨g, o, none⟩) ks.length cap] := PrAdd.blk htw3 (by first | exact Blk.new _ _ _ | exact (Blk.new _ _ _).alloc _ | exact Blk.new2 _ _ _ _ | exact ((Blk.new _ _ _).alloc _).alloc _ | exact (Blk.new2 _ _ _ _).alloc _ | exact Blk.new3 _ _ _ _ _ | assumption | exact Blk.alloc (by assumption) _ | exact (Blk.alloc (Blk.alloc (by assumption) _) _)) (by have := PSt.lt PST0.out; have := PSt.hB PST0.out; omega) (by decide) (by decide)
        have B1_w3 : Blk w3 (wr.heap.size) 24 #[.int .i64 x.kind, .string (⟨x.text.toArray⟩ : ByteArray), .int .i64 x.cols, .slice Ax x.kids.length capx] := PrAdd.blk htw3 (by first | exact Blk.new _ _ _ | exact (Blk.new _ _ _).alloc _ | exact Blk.new2 _ _ _ _ | exact ((Blk.new _ _ _).alloc _).alloc _ | exact (Blk.new2 _ _ _ _).alloc _ | exact Blk.new3 _ _ _ _ _ | assumption | exact Blk.alloc (by assumption) _ | exact (Blk.alloc (Blk.alloc (by assumption) _) _)) (by have := PSt.lt PSTR.out; have := PSt.hB PSTR.out; omega) (by decide) (by decide)
        clear q0_0_wr q0_1_wr q0_2_wr q0_3_wr B0_wr
        have q0_0_w3 : World.cell? w3 ⟨w.heap.size, 0, none⟩ = some (kd) := Blk.cell B0_w3 0
        have q0_1_w3 : World.cell? w3 ⟨w.heap.size, 1, none⟩ = some (tx) := Blk.cell B0_w3 1
        have q0_2_w3 : World.cell? w3 ⟨w.heap.size, 2, none⟩ = some (.int .i64 c) := Blk.cell B0_w3 2
        have q0_3_w3 : World.cell? w3 ⟨w.heap.size, 3, none⟩ = some (.slice (some ⟨g, o, none⟩) ks.length cap) := Blk.cell B0_w3 3
        have q1_0_w3 : World.cell? w3 ⟨wr.heap.size, 0, none⟩ = some (.int .i64 x.kind) := Blk.cell B1_w3 0
        have q1_1_w3 : World.cell? w3 ⟨wr.heap.size, 1, none⟩ = some (.string (⟨x.text.toArray⟩ : ByteArray)) := Blk.cell B1_w3 1
        have q1_2_w3 : World.cell? w3 ⟨wr.heap.size, 2, none⟩ = some (.int .i64 x.cols) := Blk.cell B1_w3 2
        have q1_3_w3 : World.cell? w3 ⟨wr.heap.size, 3, none⟩ = some (.slice Ax x.kids.length capx) := Blk.cell B1_w3 3
        clear xx0_wr xx1_wr xx2_wr xx3_wr
        have xy0_w3 : World.cell? w3 ⟨g, o, none⟩ = some (.int .i64 x.kind) := Low.cell (PSt.low PSTw3.out) XY0.out
        have xy1_w3 : World.cell? w3 ⟨g, o + 1, none⟩ = some (.string (⟨x.text.toArray⟩ : ByteArray)) := Low.cell (PSt.low PSTw3.out) XY1.out
        have xy2_w3 : World.cell? w3 ⟨g, o + 2, none⟩ = some (.int .i64 x.cols) := Low.cell (PSt.low PSTw3.out) XY2.out
        have xy3_w3 : World.cell? w3 ⟨g, o + 3, none⟩ = some (.slice Ax x.kids.length capx) := Low.cell (PSt.low PSTw3.out) XY3.out
        have hlt_g_w3 : g < w3.heap.size := block_lt_of_cell xy0_w3
        clear htw3
        go_wp2_with fail
        go_roundw
        case rel =>
          have HE := hid (show [Tr.name Tr.sMatrix] ++ [Tr.mk7 123] ++ cellsT c 0 (ks.take 0) ++ rowT x.kids = [Tr.name Tr.sMatrix] ++ [Tr.mk7 123] ++ cellsT c 0 (ks.take (0 + 1)) from by have h := HTK.out; rw [HSEP.out] at h; rw [h]; simp only [List.append_assoc, List.nil_append])
          have hpst := PSTw3.out
          have hacc := ACCw3.out
          rw [HE.out] at hpst hacc
          exact ⟨0 + 1, by go_num, by omega, hpst, hacc, B0_w3⟩
        case measure => simp [intOf]; omega
      · have e0 : ((j : Int) == 0) = false := by rw [beq_eq_false_iff_ne]; omega
        have e0n : (j == 0) = false := by rw [beq_eq_false_iff_ne]; omega
        by_cases jc : (j : Int) % c = 0
        · have e1 : ((j : Int) % c == 0) = true := by rw [beq_iff_eq]; exact jc
          have HSEP := hid (show sepT c j = [⟨8, [92, 92]⟩] from by unfold sepT; rw [if_neg j0, if_pos jc])
          have FITR := hid (show Fits ([⟨8, [92, 92]⟩] ++ rowT x.kids) (adds ([Tr.name Tr.sMatrix] ++ [Tr.mk7 123] ++ cellsT c 0 (ks.take j)) toks txt).1 (adds ([Tr.name Tr.sMatrix] ++ [Tr.mk7 123] ++ cellsT c 0 (ks.take j)) toks txt).2 by
            have := FITX.out.mid
            rw [HSEP.out] at this
            exact this)
          clear j0 jc
          go_wp2_with fail
          refine Calls.mono ((add_em W0 p B 8 [92, 92]) _ _ _ (PSt.fresh PSTR.out (by first | exact (Touch.refl _ _) | exact (Touch.refl _ _).alloc _ | exact ((Touch.refl _ _).alloc _).alloc _ | exact (((Touch.refl _ _).alloc _).alloc _).alloc _ | exact (Touch.refl _ _).drewN _ | exact ((Touch.refl _ _).alloc _).drewN _ | exact (((Touch.refl _ _).alloc _).alloc _).drewN _)) FITR.out.left) ?_
          rintro _ w4 ⟨rfl, htw4⟩
          have PSTw4 := hid (PSt.add2 (PSt.fresh PSTR.out (by first | exact (Touch.refl _ _) | exact (Touch.refl _ _).alloc _ | exact ((Touch.refl _ _).alloc _).alloc _ | exact (((Touch.refl _ _).alloc _).alloc _).alloc _ | exact (Touch.refl _ _).drewN _ | exact ((Touch.refl _ _).alloc _).drewN _ | exact (((Touch.refl _ _).alloc _).alloc _).drewN _)) htw4)
          have ACCw4 := hid (PrAdd.app ACCR.out (PrAdd.freshL (show Fresh wr _ from (by first | exact (Touch.refl _ _) | exact (Touch.refl _ _).alloc _ | exact ((Touch.refl _ _).alloc _).alloc _ | exact (((Touch.refl _ _).alloc _).alloc _).alloc _ | exact (Touch.refl _ _).drewN _ | exact ((Touch.refl _ _).alloc _).drewN _ | exact (((Touch.refl _ _).alloc _).alloc _).drewN _)) htw4))
          have FITw4 := hid (Fits.right2 FITR.out)
          have B0_w4 : Blk w4 (w.heap.size) 24 #[kd, tx, .int .i64 c, .slice (some ⟨g, o, none⟩) ks.length cap] := PrAdd.blk htw4 (by first | exact Blk.new _ _ _ | exact (Blk.new _ _ _).alloc _ | exact Blk.new2 _ _ _ _ | exact ((Blk.new _ _ _).alloc _).alloc _ | exact (Blk.new2 _ _ _ _).alloc _ | exact Blk.new3 _ _ _ _ _ | assumption | exact Blk.alloc (by assumption) _ | exact (Blk.alloc (Blk.alloc (by assumption) _) _)) (by have := PSt.lt PST0.out; have := PSt.hB PST0.out; omega) (by decide) (by decide)
          have B1_w4 : Blk w4 (wr.heap.size) 24 #[.int .i64 x.kind, .string (⟨x.text.toArray⟩ : ByteArray), .int .i64 x.cols, .slice Ax x.kids.length capx] := PrAdd.blk htw4 (by first | exact Blk.new _ _ _ | exact (Blk.new _ _ _).alloc _ | exact Blk.new2 _ _ _ _ | exact ((Blk.new _ _ _).alloc _).alloc _ | exact (Blk.new2 _ _ _ _).alloc _ | exact Blk.new3 _ _ _ _ _ | assumption | exact Blk.alloc (by assumption) _ | exact (Blk.alloc (Blk.alloc (by assumption) _) _)) (by have := PSt.lt PSTR.out; have := PSt.hB PSTR.out; omega) (by decide) (by decide)
          clear q0_0_wr q0_1_wr q0_2_wr q0_3_wr B0_wr
          have q0_0_w4 : World.cell? w4 ⟨w.heap.size, 0, none⟩ = some (kd) := Blk.cell B0_w4 0
          have q0_1_w4 : World.cell? w4 ⟨w.heap.size, 1, none⟩ = some (tx) := Blk.cell B0_w4 1
          have q0_2_w4 : World.cell? w4 ⟨w.heap.size, 2, none⟩ = some (.int .i64 c) := Blk.cell B0_w4 2
          have q0_3_w4 : World.cell? w4 ⟨w.heap.size, 3, none⟩ = some (.slice (some ⟨g, o, none⟩) ks.length cap) := Blk.cell B0_w4 3
          have q1_0_w4 : World.cell? w4 ⟨wr.heap.size, 0, none⟩ = some (.int .i64 x.kind) := Blk.cell B1_w4 0
          have q1_1_w4 : World.cell? w4 ⟨wr.heap.size, 1, none⟩ = some (.string (⟨x.text.toArray⟩ : ByteArray)) := Blk.cell B1_w4 1
          have q1_2_w4 : World.cell? w4 ⟨wr.heap.size, 2, none⟩ = some (.int .i64 x.cols) := Blk.cell B1_w4 2
          have q1_3_w4 : World.cell? w4 ⟨wr.heap.size, 3, none⟩ = some (.slice Ax x.kids.length capx) := Blk.cell B1_w4 3
          clear xx0_wr xx1_wr xx2_wr xx3_wr
          have xx0_w4 : World.cell? w4 ⟨g, o + j * 4, none⟩ = some (.int .i64 x.kind) := Low.cell (PSt.low PSTw4.out) XX0.out
          have xx1_w4 : World.cell? w4 ⟨g, o + j * 4 + 1, none⟩ = some (.string (⟨x.text.toArray⟩ : ByteArray)) := Low.cell (PSt.low PSTw4.out) XX1.out
          have xx2_w4 : World.cell? w4 ⟨g, o + j * 4 + 2, none⟩ = some (.int .i64 x.cols) := Low.cell (PSt.low PSTw4.out) XX2.out
          have xx3_w4 : World.cell? w4 ⟨g, o + j * 4 + 3, none⟩ = some (.slice Ax x.kids.length capx) := Low.cell (PSt.low PSTw4.out) XX3.out
          have hlt_g_w4 : g < w4.heap.size := block_lt_of_cell xx0_w4
          clear htw4
          go_wp2_with fail
          refine Calls.mono ((ROWx.out) _ _ _ (PSt.fresh PSTw4.out (by first | exact (Touch.refl _ _) | exact (Touch.refl _ _).alloc _ | exact ((Touch.refl _ _).alloc _).alloc _ | exact (((Touch.refl _ _).alloc _).alloc _).alloc _ | exact (Touch.refl _ _).drewN _ | exact ((Touch.refl _ _).alloc _).drewN _ | exact (((Touch.refl _ _).alloc _).alloc _).drewN _)) FITw4.out) ?_
          rintro _ w5 ⟨rfl, htw5⟩
          have PSTw5 := hid (PSt.add2 (PSt.fresh PSTw4.out (by first | exact (Touch.refl _ _) | exact (Touch.refl _ _).alloc _ | exact ((Touch.refl _ _).alloc _).alloc _ | exact (((Touch.refl _ _).alloc _).alloc _).alloc _ | exact (Touch.refl _ _).drewN _ | exact ((Touch.refl _ _).alloc _).drewN _ | exact (((Touch.refl _ _).alloc _).alloc _).drewN _)) htw5)
          have ACCw5 := hid (PrAdd.app ACCw4.out (PrAdd.freshL (show Fresh w4 _ from (by first | exact (Touch.refl _ _) | exact (Touch.refl _ _).alloc _ | exact ((Touch.refl _ _).alloc _).alloc _ | exact (((Touch.refl _ _).alloc _).alloc _).alloc _ | exact (Touch.refl _ _).drewN _ | exact ((Touch.refl _ _).alloc _).drewN _ | exact (((Touch.refl _ _).alloc _).alloc _).drewN _)) htw5))
          have B0_w5 : Blk w5 (w.heap.size) 24 #[kd, tx, .int .i64 c, .slice (some ⟨g, o, none⟩) ks.length cap] := PrAdd.blk htw5 (by first | exact Blk.new _ _ _ | exact (Blk.new _ _ _).alloc _ | exact Blk.new2 _ _ _ _ | exact ((Blk.new _ _ _).alloc _).alloc _ | exact (Blk.new2 _ _ _ _).alloc _ | exact Blk.new3 _ _ _ _ _ | assumption | exact Blk.alloc (by assumption) _ | exact (Blk.alloc (Blk.alloc (by assumption) _) _)) (by have := PSt.lt PST0.out; have := PSt.hB PST0.out; omega) (by decide) (by decide)
          have B1_w5 : Blk w5 (wr.heap.size) 24 #[.int .i64 x.kind, .string (⟨x.text.toArray⟩ : ByteArray), .int .i64 x.cols, .slice Ax x.kids.length capx] := PrAdd.blk htw5 (by first | exact Blk.new _ _ _ | exact (Blk.new _ _ _).alloc _ | exact Blk.new2 _ _ _ _ | exact ((Blk.new _ _ _).alloc _).alloc _ | exact (Blk.new2 _ _ _ _).alloc _ | exact Blk.new3 _ _ _ _ _ | assumption | exact Blk.alloc (by assumption) _ | exact (Blk.alloc (Blk.alloc (by assumption) _) _)) (by have := PSt.lt PSTR.out; have := PSt.hB PSTR.out; omega) (by decide) (by decide)
          clear q0_0_w4 q0_1_w4 q0_2_w4 q0_3_w4 B0_w4 q1_0_w4 q1_1_w4 q1_2_w4 q1_3_w4 B1_w4
          have q0_0_w5 : World.cell? w5 ⟨w.heap.size, 0, none⟩ = some (kd) := Blk.cell B0_w5 0
          have q0_1_w5 : World.cell? w5 ⟨w.heap.size, 1, none⟩ = some (tx) := Blk.cell B0_w5 1
          have q0_2_w5 : World.cell? w5 ⟨w.heap.size, 2, none⟩ = some (.int .i64 c) := Blk.cell B0_w5 2
          have q0_3_w5 : World.cell? w5 ⟨w.heap.size, 3, none⟩ = some (.slice (some ⟨g, o, none⟩) ks.length cap) := Blk.cell B0_w5 3
          have q1_0_w5 : World.cell? w5 ⟨wr.heap.size, 0, none⟩ = some (.int .i64 x.kind) := Blk.cell B1_w5 0
          have q1_1_w5 : World.cell? w5 ⟨wr.heap.size, 1, none⟩ = some (.string (⟨x.text.toArray⟩ : ByteArray)) := Blk.cell B1_w5 1
          have q1_2_w5 : World.cell? w5 ⟨wr.heap.size, 2, none⟩ = some (.int .i64 x.cols) := Blk.cell B1_w5 2
          have q1_3_w5 : World.cell? w5 ⟨wr.heap.size, 3, none⟩ = some (.slice Ax x.kids.length capx) := Blk.cell B1_w5 3
          clear xx0_w4 xx1_w4 xx2_w4 xx3_w4
          have xx0_w5 : World.cell? w5 ⟨g, o + j * 4, none⟩ = some (.int .i64 x.kind) := Low.cell (PSt.low PSTw5.out) XX0.out
          have xx1_w5 : World.cell? w5 ⟨g, o + j * 4 + 1, none⟩ = some (.string (⟨x.text.toArray⟩ : ByteArray)) := Low.cell (PSt.low PSTw5.out) XX1.out
          have xx2_w5 : World.cell? w5 ⟨g, o + j * 4 + 2, none⟩ = some (.int .i64 x.cols) := Low.cell (PSt.low PSTw5.out) XX2.out
          have xx3_w5 : World.cell? w5 ⟨g, o + j * 4 + 3, none⟩ = some (.slice Ax x.kids.length capx) := Low.cell (PSt.low PSTw5.out) XX3.out
          have hlt_g_w5 : g < w5.heap.size := block_lt_of_cell xx0_w5
          clear htw5
          go_wp2_with fail
          go_roundw
          case rel =>
            have HE := hid (show [Tr.name Tr.sMatrix] ++ [Tr.mk7 123] ++ cellsT c 0 (ks.take j) ++ [⟨8, [92, 92]⟩] ++ rowT x.kids = [Tr.name Tr.sMatrix] ++ [Tr.mk7 123] ++ cellsT c 0 (ks.take (j + 1)) from by have h := HTK.out; rw [HSEP.out] at h; rw [h]; simp only [List.append_assoc])
            have hpst := PSTw5.out
            have hacc := ACCw5.out
            rw [HE.out] at hpst hacc
            exact ⟨j + 1, by go_num, by omega, hpst, hacc, B0_w5⟩
          case measure => simp [intOf]; omega
        · have e1 : ((j : Int) % c == 0) = false := by rw [beq_eq_false_iff_ne]; exact jc
          have HSEP := hid (show sepT c j = [⟨7, [38]⟩] from by unfold sepT; rw [if_neg j0, if_neg jc]; rfl)
          have FITR := hid (show Fits ([⟨7, [38]⟩] ++ rowT x.kids) (adds ([Tr.name Tr.sMatrix] ++ [Tr.mk7 123] ++ cellsT c 0 (ks.take j)) toks txt).1 (adds ([Tr.name Tr.sMatrix] ++ [Tr.mk7 123] ++ cellsT c 0 (ks.take j)) toks txt).2 by
            have := FITX.out.mid
            rw [HSEP.out] at this
            exact this)
          clear j0 jc
          go_wp2_with fail
          refine Calls.mono ((mark_em W0 p B [38]) _ _ _ (PSt.fresh PSTR.out (by first | exact (Touch.refl _ _) | exact (Touch.refl _ _).alloc _ | exact ((Touch.refl _ _).alloc _).alloc _ | exact (((Touch.refl _ _).alloc _).alloc _).alloc _ | exact (Touch.refl _ _).drewN _ | exact ((Touch.refl _ _).alloc _).drewN _ | exact (((Touch.refl _ _).alloc _).alloc _).drewN _)) FITR.out.left) ?_
          rintro _ w6 ⟨rfl, htw6⟩
          have PSTw6 := hid (PSt.add2 (PSt.fresh PSTR.out (by first | exact (Touch.refl _ _) | exact (Touch.refl _ _).alloc _ | exact ((Touch.refl _ _).alloc _).alloc _ | exact (((Touch.refl _ _).alloc _).alloc _).alloc _ | exact (Touch.refl _ _).drewN _ | exact ((Touch.refl _ _).alloc _).drewN _ | exact (((Touch.refl _ _).alloc _).alloc _).drewN _)) htw6)
          have ACCw6 := hid (PrAdd.app ACCR.out (PrAdd.freshL (show Fresh wr _ from (by first | exact (Touch.refl _ _) | exact (Touch.refl _ _).alloc _ | exact ((Touch.refl _ _).alloc _).alloc _ | exact (((Touch.refl _ _).alloc _).alloc _).alloc _ | exact (Touch.refl _ _).drewN _ | exact ((Touch.refl _ _).alloc _).drewN _ | exact (((Touch.refl _ _).alloc _).alloc _).drewN _)) htw6))
          have FITw6 := hid (Fits.right2 FITR.out)
          have B0_w6 : Blk w6 (w.heap.size) 24 #[kd, tx, .int .i64 c, .slice (some ⟨g, o, none⟩) ks.length cap] := PrAdd.blk htw6 (by first | exact Blk.new _ _ _ | exact (Blk.new _ _ _).alloc _ | exact Blk.new2 _ _ _ _ | exact ((Blk.new _ _ _).alloc _).alloc _ | exact (Blk.new2 _ _ _ _).alloc _ | exact Blk.new3 _ _ _ _ _ | assumption | exact Blk.alloc (by assumption) _ | exact (Blk.alloc (Blk.alloc (by assumption) _) _)) (by have := PSt.lt PST0.out; have := PSt.hB PST0.out; omega) (by decide) (by decide)
          have B1_w6 : Blk w6 (wr.heap.size) 24 #[.int .i64 x.kind, .string (⟨x.text.toArray⟩ : ByteArray), .int .i64 x.cols, .slice Ax x.kids.length capx] := PrAdd.blk htw6 (by first | exact Blk.new _ _ _ | exact (Blk.new _ _ _).alloc _ | exact Blk.new2 _ _ _ _ | exact ((Blk.new _ _ _).alloc _).alloc _ | exact (Blk.new2 _ _ _ _).alloc _ | exact Blk.new3 _ _ _ _ _ | assumption | exact Blk.alloc (by assumption) _ | exact (Blk.alloc (Blk.alloc (by assumption) _) _)) (by have := PSt.lt PSTR.out; have := PSt.hB PSTR.out; omega) (by decide) (by decide)
          clear q0_0_wr q0_1_wr q0_2_wr q0_3_wr B0_wr
          have q0_0_w6 : World.cell? w6 ⟨w.heap.size, 0, none⟩ = some (kd) := Blk.cell B0_w6 0
          have q0_1_w6 : World.cell? w6 ⟨w.heap.size, 1, none⟩ = some (tx) := Blk.cell B0_w6 1
          have q0_2_w6 : World.cell? w6 ⟨w.heap.size, 2, none⟩ = some (.int .i64 c) := Blk.cell B0_w6 2
          have q0_3_w6 : World.cell? w6 ⟨w.heap.size, 3, none⟩ = some (.slice (some ⟨g, o, none⟩) ks.length cap) := Blk.cell B0_w6 3
          have q1_0_w6 : World.cell? w6 ⟨wr.heap.size, 0, none⟩ = some (.int .i64 x.kind) := Blk.cell B1_w6 0
          have q1_1_w6 : World.cell? w6 ⟨wr.heap.size, 1, none⟩ = some (.string (⟨x.text.toArray⟩ : ByteArray)) := Blk.cell B1_w6 1
          have q1_2_w6 : World.cell? w6 ⟨wr.heap.size, 2, none⟩ = some (.int .i64 x.cols) := Blk.cell B1_w6 2
          have q1_3_w6 : World.cell? w6 ⟨wr.heap.size, 3, none⟩ = some (.slice Ax x.kids.length capx) := Blk.cell B1_w6 3
          clear xx0_wr xx1_wr xx2_wr xx3_wr
          have xx0_w6 : World.cell? w6 ⟨g, o + j * 4, none⟩ = some (.int .i64 x.kind) := Low.cell (PSt.low PSTw6.out) XX0.out
          have xx1_w6 : World.cell? w6 ⟨g, o + j * 4 + 1, none⟩ = some (.string (⟨x.text.toArray⟩ : ByteArray)) := Low.cell (PSt.low PSTw6.out) XX1.out
          have xx2_w6 : World.cell? w6 ⟨g, o + j * 4 + 2, none⟩ = some (.int .i64 x.cols) := Low.cell (PSt.low PSTw6.out) XX2.out
          have xx3_w6 : World.cell? w6 ⟨g, o + j * 4 + 3, none⟩ = some (.slice Ax x.kids.length capx) := Low.cell (PSt.low PSTw6.out) XX3.out
          have hlt_g_w6 : g < w6.heap.size := block_lt_of_cell xx0_w6
          clear htw6
          go_wp2_with fail
          refine Calls.mono ((ROWx.out) _ _ _ (PSt.fresh PSTw6.out (by first | exact (Touch.refl _ _) | exact (Touch.refl _ _).alloc _ | exact ((Touch.refl _ _).alloc _).alloc _ | exact (((Touch.refl _ _).alloc _).alloc _).alloc _ | exact (Touch.refl _ _).drewN _ | exact ((Touch.refl _ _).alloc _).drewN _ | exact (((Touch.refl _ _).alloc _).alloc _).drewN _)) FITw6.out) ?_
          rintro _ w7 ⟨rfl, htw7⟩
          have PSTw7 := hid (PSt.add2 (PSt.fresh PSTw6.out (by first | exact (Touch.refl _ _) | exact (Touch.refl _ _).alloc _ | exact ((Touch.refl _ _).alloc _).alloc _ | exact (((Touch.refl _ _).alloc _).alloc _).alloc _ | exact (Touch.refl _ _).drewN _ | exact ((Touch.refl _ _).alloc _).drewN _ | exact (((Touch.refl _ _).alloc _).alloc _).drewN _)) htw7)
          have ACCw7 := hid (PrAdd.app ACCw6.out (PrAdd.freshL (show Fresh w6 _ from (by first | exact (Touch.refl _ _) | exact (Touch.refl _ _).alloc _ | exact ((Touch.refl _ _).alloc _).alloc _ | exact (((Touch.refl _ _).alloc _).alloc _).alloc _ | exact (Touch.refl _ _).drewN _ | exact ((Touch.refl _ _).alloc _).drewN _ | exact (((Touch.refl _ _).alloc _).alloc _).drewN _)) htw7))
          have B0_w7 : Blk w7 (w.heap.size) 24 #[kd, tx, .int .i64 c, .slice (some ⟨g, o, none⟩) ks.length cap] := PrAdd.blk htw7 (by first | exact Blk.new _ _ _ | exact (Blk.new _ _ _).alloc _ | exact Blk.new2 _ _ _ _ | exact ((Blk.new _ _ _).alloc _).alloc _ | exact (Blk.new2 _ _ _ _).alloc _ | exact Blk.new3 _ _ _ _ _ | assumption | exact Blk.alloc (by assumption) _ | exact (Blk.alloc (Blk.alloc (by assumption) _) _)) (by have := PSt.lt PST0.out; have := PSt.hB PST0.out; omega) (by decide) (by decide)
          have B1_w7 : Blk w7 (wr.heap.size) 24 #[.int .i64 x.kind, .string (⟨x.text.toArray⟩ : ByteArray), .int .i64 x.cols, .slice Ax x.kids.length capx] := PrAdd.blk htw7 (by first | exact Blk.new _ _ _ | exact (Blk.new _ _ _).alloc _ | exact Blk.new2 _ _ _ _ | exact ((Blk.new _ _ _).alloc _).alloc _ | exact (Blk.new2 _ _ _ _).alloc _ | exact Blk.new3 _ _ _ _ _ | assumption | exact Blk.alloc (by assumption) _ | exact (Blk.alloc (Blk.alloc (by assumption) _) _)) (by have := PSt.lt PSTR.out; have := PSt.hB PSTR.out; omega) (by decide) (by decide)
          clear q0_0_w6 q0_1_w6 q0_2_w6 q0_3_w6 B0_w6 q1_0_w6 q1_1_w6 q1_2_w6 q1_3_w6 B1_w6
          have q0_0_w7 : World.cell? w7 ⟨w.heap.size, 0, none⟩ = some (kd) := Blk.cell B0_w7 0
          have q0_1_w7 : World.cell? w7 ⟨w.heap.size, 1, none⟩ = some (tx) := Blk.cell B0_w7 1
          have q0_2_w7 : World.cell? w7 ⟨w.heap.size, 2, none⟩ = some (.int .i64 c) := Blk.cell B0_w7 2
          have q0_3_w7 : World.cell? w7 ⟨w.heap.size, 3, none⟩ = some (.slice (some ⟨g, o, none⟩) ks.length cap) := Blk.cell B0_w7 3
          have q1_0_w7 : World.cell? w7 ⟨wr.heap.size, 0, none⟩ = some (.int .i64 x.kind) := Blk.cell B1_w7 0
          have q1_1_w7 : World.cell? w7 ⟨wr.heap.size, 1, none⟩ = some (.string (⟨x.text.toArray⟩ : ByteArray)) := Blk.cell B1_w7 1
          have q1_2_w7 : World.cell? w7 ⟨wr.heap.size, 2, none⟩ = some (.int .i64 x.cols) := Blk.cell B1_w7 2
          have q1_3_w7 : World.cell? w7 ⟨wr.heap.size, 3, none⟩ = some (.slice Ax x.kids.length capx) := Blk.cell B1_w7 3
          clear xx0_w6 xx1_w6 xx2_w6 xx3_w6
          have xx0_w7 : World.cell? w7 ⟨g, o + j * 4, none⟩ = some (.int .i64 x.kind) := Low.cell (PSt.low PSTw7.out) XX0.out
          have xx1_w7 : World.cell? w7 ⟨g, o + j * 4 + 1, none⟩ = some (.string (⟨x.text.toArray⟩ : ByteArray)) := Low.cell (PSt.low PSTw7.out) XX1.out
          have xx2_w7 : World.cell? w7 ⟨g, o + j * 4 + 2, none⟩ = some (.int .i64 x.cols) := Low.cell (PSt.low PSTw7.out) XX2.out
          have xx3_w7 : World.cell? w7 ⟨g, o + j * 4 + 3, none⟩ = some (.slice Ax x.kids.length capx) := Low.cell (PSt.low PSTw7.out) XX3.out
          have hlt_g_w7 : g < w7.heap.size := block_lt_of_cell xx0_w7
          clear htw7
          go_wp2_with fail
          go_roundw
          case rel =>
            have HE := hid (show [Tr.name Tr.sMatrix] ++ [Tr.mk7 123] ++ cellsT c 0 (ks.take j) ++ [⟨7, [38]⟩] ++ rowT x.kids = [Tr.name Tr.sMatrix] ++ [Tr.mk7 123] ++ cellsT c 0 (ks.take (j + 1)) from by have h := HTK.out; rw [HSEP.out] at h; rw [h]; simp only [List.append_assoc])
            have hpst := PSTw7.out
            have hacc := ACCw7.out
            rw [HE.out] at hpst hacc
            exact ⟨j + 1, by go_num, by omega, hpst, hacc, B0_w7⟩
          case measure => simp [intOf]; omega
    · have d1 : decide ((j : Int) < (ks.length : Int)) = false := by simp only [decide_eq_false_iff_not]; omega
      have hlt_w_wr : w.heap.size < wr.heap.size := Blk.lt HB.out
      have d1n : decide (j < ks.length) = false := by simp only [decide_eq_false_iff_not]; omega
      obtain rfl : j = ks.length := by omega
      have q0_0_wr : World.cell? wr ⟨w.heap.size, 0, none⟩ = some (kd) := Blk.cell HB.out 0
      have q0_1_wr : World.cell? wr ⟨w.heap.size, 1, none⟩ = some (tx) := Blk.cell HB.out 1
      have q0_2_wr : World.cell? wr ⟨w.heap.size, 2, none⟩ = some (.int .i64 c) := Blk.cell HB.out 2
      have q0_3_wr : World.cell? wr ⟨w.heap.size, 3, none⟩ = some (.slice A ks.length cap) := Blk.cell HB.out 3
      have B0_wr : Blk wr w.heap.size 24 #[kd, tx, .int .i64 c, .slice A ks.length cap] := HB.out
      have ACCE := hid (show PrAdd w wr p B toks txt ([Tr.name Tr.sMatrix] ++ [Tr.mk7 123] ++ cellsT c 0 ks) by
        have := ACCR.out
        rwa [List.take_length] at this)
      have PSTE := hid (show PSt W0 p B wr (adds ([Tr.name Tr.sMatrix] ++ [Tr.mk7 123] ++ cellsT c 0 ks) toks txt).1 (adds ([Tr.name Tr.sMatrix] ++ [Tr.mk7 123] ++ cellsT c 0 ks) toks txt).2 by
        have := PSTR.out
        rwa [List.take_length] at this)
      have FITE := hid (Fits.right (l := [Tr.name Tr.sMatrix] ++ [Tr.mk7 123] ++ cellsT c 0 ks) (m := [Tr.mk7 125]) (by have := FIT0.out; simpa only [List.append_assoc] using this))
      go_wp2_with fail
      refine Calls.mono ((mark_em W0 p B [125]) _ _ _ (PSt.fresh PSTE.out (by first | exact (Touch.refl _ _) | exact (Touch.refl _ _).alloc _ | exact ((Touch.refl _ _).alloc _).alloc _ | exact (((Touch.refl _ _).alloc _).alloc _).alloc _ | exact (Touch.refl _ _).drewN _ | exact ((Touch.refl _ _).alloc _).drewN _ | exact (((Touch.refl _ _).alloc _).alloc _).drewN _)) FITE.out) ?_
      rintro _ w8 ⟨rfl, htw8⟩
      have PSTw8 := hid (PSt.add2 (PSt.fresh PSTE.out (by first | exact (Touch.refl _ _) | exact (Touch.refl _ _).alloc _ | exact ((Touch.refl _ _).alloc _).alloc _ | exact (((Touch.refl _ _).alloc _).alloc _).alloc _ | exact (Touch.refl _ _).drewN _ | exact ((Touch.refl _ _).alloc _).drewN _ | exact (((Touch.refl _ _).alloc _).alloc _).drewN _)) htw8)
      have ACCw8 := hid (PrAdd.app ACCE.out (PrAdd.freshL (show Fresh wr _ from (by first | exact (Touch.refl _ _) | exact (Touch.refl _ _).alloc _ | exact ((Touch.refl _ _).alloc _).alloc _ | exact (((Touch.refl _ _).alloc _).alloc _).alloc _ | exact (Touch.refl _ _).drewN _ | exact ((Touch.refl _ _).alloc _).drewN _ | exact (((Touch.refl _ _).alloc _).alloc _).drewN _)) htw8))
      have B0_w8 : Blk w8 (w.heap.size) 24 #[kd, tx, .int .i64 c, .slice A ks.length cap] := PrAdd.blk htw8 (by first | exact Blk.new _ _ _ | exact (Blk.new _ _ _).alloc _ | exact Blk.new2 _ _ _ _ | exact ((Blk.new _ _ _).alloc _).alloc _ | exact (Blk.new2 _ _ _ _).alloc _ | exact Blk.new3 _ _ _ _ _ | assumption | exact Blk.alloc (by assumption) _ | exact (Blk.alloc (Blk.alloc (by assumption) _) _)) (by have := PSt.lt PST0.out; have := PSt.hB PST0.out; omega) (by decide) (by decide)
      clear q0_0_wr q0_1_wr q0_2_wr q0_3_wr B0_wr
      have q0_0_w8 : World.cell? w8 ⟨w.heap.size, 0, none⟩ = some (kd) := Blk.cell B0_w8 0
      have q0_1_w8 : World.cell? w8 ⟨w.heap.size, 1, none⟩ = some (tx) := Blk.cell B0_w8 1
      have q0_2_w8 : World.cell? w8 ⟨w.heap.size, 2, none⟩ = some (.int .i64 c) := Blk.cell B0_w8 2
      have q0_3_w8 : World.cell? w8 ⟨w.heap.size, 3, none⟩ = some (.slice A ks.length cap) := Blk.cell B0_w8 3
      clear htw8
      go_wp2_with fail
      first | go_end0 | refine bodyPost_ret (v := .tuple #[]) (results_none rfl _ _ _) rfl ?_
      exact ⟨rfl, PrAdd.cast ACCw8.out (by first | rfl | (simp only [List.append_assoc] <;> rfl))⟩
end Go.Proofs.Ytdacpbdamliafaa

/- The walk of checker.own. -/
namespace Go.Proofs.Ytdacpbdamliafaa
open Go.RowKit

theorem same_fresh {f : Nat} {args : Array Value} {v : Value} {w : World} (h : Calls Try.prog f args w fun e w' => e = .returned v ∧ w' = w) : Calls Try.prog f args w fun e w' => e = .returned v ∧ Fresh w w' :=
  h.mono fun _ _ h => ⟨h.1, by rw [h.2]; exact Touch.refl _ _⟩
/-- The cells of a checker. -/
def checkCells (m : Int) : Array Value := kindCells.push (.int .i64 m)

/-- What own reports behind the test of the text. -/
def ownRest (k c : Int) (n : Nat) (slots : Int) : Bool :=
  if k == 1 then (c == (0 : Int)) && decide ((n : Int) ≤ (200 : Int))
  else if k == 12 then decide ((1 : Int) ≤ c) && (decide (c ≤ (16 : Int)) && (decide ((1 : Int) ≤ (n : Int)) && (decide ((n : Int) ≤ (256 : Int)) && (((n : Int) % c) == (0 : Int)))))
  else (c == (0 : Int)) && ((n : Int) == slots)

set_option maxHeartbeats 2000000 in
theorem own_gen (t : List UInt8) (cols slots : Int) (k len : Nat) (fid : Nat) (tx : Bool) (A : Option Addr) (cap c g o : Nat) (w : World) (hk1 : 1 ≤ k) (hk2 : k ≤ 12) (hcf : ∀ (a : Array Value) (w' : World), (callFunc fid a).run Try.prog w' = .ok (.enter fid a) w')
    (ct : ∀ w', Calls Try.prog fid #[.string ⟨t.toArray⟩] w' fun e w'' => e = .returned (.bool tx) ∧ Fresh w' w'')
    (a0 : w.cell? ⟨g, o, none⟩ = some (.int .i64 (k : Int))) (a1 : w.cell? ⟨g, o + 1, none⟩ = some (.string ⟨t.toArray⟩)) (a2 : w.cell? ⟨g, o + 2, none⟩ = some (.int .i64 cols)) (a3 : w.cell? ⟨g, o + 3, none⟩ = some (.slice A len cap))
    (c1 : w.cell? ⟨c, k * 3 + 1, none⟩ = some (.int .i64 slots)) (c2 : w.cell? ⟨c, k * 3 + 2, none⟩ = some (.func (.func fid) #[] #[])) :
    Calls Try.prog 56 #[.pointer (some ⟨c, 0, none⟩), .pointer (some ⟨g, o, none⟩)] w fun e w' => e = .returned (.bool (tx && ownRest k cols len slots)) ∧ Fresh w w' := by
  have CT := hid ct
  clear ct
  have e1 : decide ((k : Int) < (1 : Int)) = false := by simp only [decide_eq_false_iff_not]; omega
  have e2 : decide ((12 : Int) < (k : Int)) = false := by simp only [decide_eq_false_iff_not]; omega
  have e3 : decide (k < 1) = false := by simp only [decide_eq_false_iff_not]; omega
  have e4 : decide (12 < k) = false := by simp only [decide_eq_false_iff_not]; omega
  have e5 : (k : Int) < 13 := by omega
  have e6 : k < 13 := by omega
  go_enter Try.func56, Try.ntmps56
  go_wp2_with fail
  refine forget_world (fun W => Fresh w W) (by first | exact (Touch.refl _ _) | exact (Touch.refl _ _).alloc _ | exact ((Touch.refl _ _).alloc _).alloc _ | exact (((Touch.refl _ _).alloc _).alloc _).alloc _ | exact (Touch.refl _ _).drewN _ | exact ((Touch.refl _ _).alloc _).drewN _ | exact (((Touch.refl _ _).alloc _).alloc _).drewN _) ?_
  rintro w1 hfw1
  have HF1 := hid hfw1
  clear hfw1
  have a0_w1 : World.cell? w1 ⟨g, o, none⟩ = some (.int .i64 (k : Int)) := Touch.cell HF1.out a0 (fun h => h)
  have a1_w1 : World.cell? w1 ⟨g, o + 1, none⟩ = some (.string ⟨t.toArray⟩) := Touch.cell HF1.out a1 (fun h => h)
  have a2_w1 : World.cell? w1 ⟨g, o + 2, none⟩ = some (.int .i64 cols) := Touch.cell HF1.out a2 (fun h => h)
  have a3_w1 : World.cell? w1 ⟨g, o + 3, none⟩ = some (.slice A len cap) := Touch.cell HF1.out a3 (fun h => h)
  have c1_w1 : World.cell? w1 ⟨c, k * 3 + 1, none⟩ = some (.int .i64 slots) := Touch.cell HF1.out c1 (fun h => h)
  have c2_w1 : World.cell? w1 ⟨c, k * 3 + 2, none⟩ = some (.func (.func fid) #[] #[]) := Touch.cell HF1.out c2 (fun h => h)
  clear a0 a1 a2 a3 c1 c2
  have ga0_w1 := cell_regrown a0_w1
  have ga1_w1 := cell_regrown a1_w1
  have ga2_w1 := cell_regrown a2_w1
  have ga3_w1 := cell_regrown a3_w1
  have gc1_w1 := cell_regrown c1_w1
  have gc2_w1 := cell_regrown c2_w1
  have C0_w1 := hid (calmF (P := Try.prog) w1 (fun w hw => CT.out _))
  refine wp_region_quiet_below (by kernel_rfl) (by kernel_rfl) ?_
  repeat (quiet_step (first | with_reducible exact C0_w1.out _ _))
  refine wpQuiet_nil ?_
  rintro w2 ⟨⟨_, _⟩, hWw2⟩
  have hfw2 : Fresh w1 w2 := by rw [hWw2]; exact fresh_of_below (below_regrown _ _ _)
  clear hWw2 ga0_w1 ga1_w1 ga2_w1 ga3_w1 gc1_w1 gc2_w1
  have HF2 := hid (show Fresh w1 w2 from by first | exact hfw2 | exact Touch.pre hfw2 | exact Touch.pre (Touch.pre hfw2) | exact Touch.ofN hfw2 | exact Touch.preN hfw2 | exact Touch.pre (Touch.pre (Touch.pre hfw2)))
  have a0_w2 : World.cell? w2 ⟨g, o, none⟩ = some (.int .i64 (k : Int)) := Touch.cell HF2.out a0_w1 (fun h => h)
  have a1_w2 : World.cell? w2 ⟨g, o + 1, none⟩ = some (.string ⟨t.toArray⟩) := Touch.cell HF2.out a1_w1 (fun h => h)
  have a2_w2 : World.cell? w2 ⟨g, o + 2, none⟩ = some (.int .i64 cols) := Touch.cell HF2.out a2_w1 (fun h => h)
  have a3_w2 : World.cell? w2 ⟨g, o + 3, none⟩ = some (.slice A len cap) := Touch.cell HF2.out a3_w1 (fun h => h)
  have c1_w2 : World.cell? w2 ⟨c, k * 3 + 1, none⟩ = some (.int .i64 slots) := Touch.cell HF2.out c1_w1 (fun h => h)
  have c2_w2 : World.cell? w2 ⟨c, k * 3 + 2, none⟩ = some (.func (.func fid) #[] #[]) := Touch.cell HF2.out c2_w1 (fun h => h)
  clear a0_w1 a1_w1 a2_w1 a3_w1 c1_w1 c2_w1
  clear hfw2
  cases h1 : tx with
  | false =>
    go_wp2_with fail
    go_ret
    exact ⟨ret_bool' _ _ (by unfold ownRest; simp only [*] <;> rfl), (by first | exact (HF1.out.trans HF2.out) | exact (HF1.out.trans HF2.out).alloc _ | exact ((HF1.out.trans HF2.out).alloc _).alloc _ | exact (((HF1.out.trans HF2.out).alloc _).alloc _).alloc _ | exact (HF1.out.trans HF2.out).drewN _ | exact ((HF1.out.trans HF2.out).alloc _).drewN _ | exact (((HF1.out.trans HF2.out).alloc _).alloc _).drewN _)⟩
  | true =>
    cases h2 : ((k : Int) == (1 : Int)) with
    | false =>
      have h2m : ((k : Int) != (1 : Int)) = true := by rw [bne, h2]; rfl
      have h2n : (k == 1) = false := by have hx := h2; simp only [beq_eq_false_iff_ne, ne_eq] at hx ⊢; omega
      cases h3 : ((k : Int) == (12 : Int)) with
      | false =>
        have h3m : ((k : Int) != (12 : Int)) = true := by rw [bne, h3]; rfl
        have h3n : (k == 12) = false := by have hx := h3; simp only [beq_eq_false_iff_ne, ne_eq] at hx ⊢; omega
        cases h4 : (cols == (0 : Int)) with
        | false =>
          have h4m : (cols != (0 : Int)) = true := by rw [bne, h4]; rfl
          go_wp2_with fail
          go_quiet (fail)
          go_wp2_with fail
          go_ret
          exact ⟨ret_bool' _ _ (by unfold ownRest; simp only [*] <;> rfl), (by first | exact (HF1.out.trans HF2.out) | exact (HF1.out.trans HF2.out).alloc _ | exact ((HF1.out.trans HF2.out).alloc _).alloc _ | exact (((HF1.out.trans HF2.out).alloc _).alloc _).alloc _ | exact (HF1.out.trans HF2.out).drewN _ | exact ((HF1.out.trans HF2.out).alloc _).drewN _ | exact (((HF1.out.trans HF2.out).alloc _).alloc _).drewN _)⟩
        | true =>
          have h4m : (cols != (0 : Int)) = false := by rw [bne, h4]; rfl
          go_wp2_with fail
          go_quiet (fail)
          cases h5 : ((len : Int) == slots) with
          | false =>
            have h5m : ((len : Int) != slots) = true := by rw [bne, h5]; rfl
            go_wp2_with fail
            go_ret
            exact ⟨ret_bool' _ _ (by unfold ownRest; simp only [*] <;> rfl), (by first | exact (HF1.out.trans HF2.out) | exact (HF1.out.trans HF2.out).alloc _ | exact ((HF1.out.trans HF2.out).alloc _).alloc _ | exact (((HF1.out.trans HF2.out).alloc _).alloc _).alloc _ | exact (HF1.out.trans HF2.out).drewN _ | exact ((HF1.out.trans HF2.out).alloc _).drewN _ | exact (((HF1.out.trans HF2.out).alloc _).alloc _).drewN _)⟩
          | true =>
            have h5m : ((len : Int) != slots) = false := by rw [bne, h5]; rfl
            go_wp2_with fail
            go_ret
            exact ⟨ret_bool' _ _ (by unfold ownRest; simp only [*] <;> rfl), (by first | exact (HF1.out.trans HF2.out) | exact (HF1.out.trans HF2.out).alloc _ | exact ((HF1.out.trans HF2.out).alloc _).alloc _ | exact (((HF1.out.trans HF2.out).alloc _).alloc _).alloc _ | exact (HF1.out.trans HF2.out).drewN _ | exact ((HF1.out.trans HF2.out).alloc _).drewN _ | exact (((HF1.out.trans HF2.out).alloc _).alloc _).drewN _)⟩
      | true =>
        have h3m : ((k : Int) != (12 : Int)) = false := by rw [bne, h3]; rfl
        have h3n : (k == 12) = true := by have hx := h3; simp only [beq_iff_eq] at hx ⊢; omega
        cases h6 : decide ((1 : Int) ≤ cols) with
        | false =>
          go_wp2_with fail
          go_quiet (fail)
          go_wp2_with fail
          go_ret
          exact ⟨ret_bool' _ _ (by unfold ownRest; simp only [*] <;> rfl), (by first | exact (HF1.out.trans HF2.out) | exact (HF1.out.trans HF2.out).alloc _ | exact ((HF1.out.trans HF2.out).alloc _).alloc _ | exact (((HF1.out.trans HF2.out).alloc _).alloc _).alloc _ | exact (HF1.out.trans HF2.out).drewN _ | exact ((HF1.out.trans HF2.out).alloc _).drewN _ | exact (((HF1.out.trans HF2.out).alloc _).alloc _).drewN _)⟩
        | true =>
          have h6p := of_decide_eq_true h6
          cases h7 : decide (cols ≤ (16 : Int)) with
          | false =>
            go_wp2_with fail
            go_quiet (fail)
            go_wp2_with fail
            go_ret
            exact ⟨ret_bool' _ _ (by unfold ownRest; simp only [*] <;> rfl), (by first | exact (HF1.out.trans HF2.out) | exact (HF1.out.trans HF2.out).alloc _ | exact ((HF1.out.trans HF2.out).alloc _).alloc _ | exact (((HF1.out.trans HF2.out).alloc _).alloc _).alloc _ | exact (HF1.out.trans HF2.out).drewN _ | exact ((HF1.out.trans HF2.out).alloc _).drewN _ | exact (((HF1.out.trans HF2.out).alloc _).alloc _).drewN _)⟩
          | true =>
            have h7p := of_decide_eq_true h7
            cases h8 : decide ((1 : Int) ≤ (len : Int)) with
            | false =>
              have h8n : decide (1 ≤ len) = false := by have hx := h8; simp only [decide_eq_false_iff_not] at hx ⊢; omega
              go_wp2_with fail
              go_quiet (fail)
              go_wp2_with fail
              go_ret
              exact ⟨ret_bool' _ _ (by unfold ownRest; simp only [*] <;> rfl), (by first | exact (HF1.out.trans HF2.out) | exact (HF1.out.trans HF2.out).alloc _ | exact ((HF1.out.trans HF2.out).alloc _).alloc _ | exact (((HF1.out.trans HF2.out).alloc _).alloc _).alloc _ | exact (HF1.out.trans HF2.out).drewN _ | exact ((HF1.out.trans HF2.out).alloc _).drewN _ | exact (((HF1.out.trans HF2.out).alloc _).alloc _).drewN _)⟩
            | true =>
              have h8p := of_decide_eq_true h8
              have h8n : decide (1 ≤ len) = true := by have hx := h8; simp only [decide_eq_true_eq] at hx ⊢; omega
              cases h9 : decide ((len : Int) ≤ (256 : Int)) with
              | false =>
                have h9n : decide (len ≤ 256) = false := by have hx := h9; simp only [decide_eq_false_iff_not] at hx ⊢; omega
                go_wp2_with fail
                go_quiet (fail)
                go_wp2_with fail
                go_ret
                exact ⟨ret_bool' _ _ (by unfold ownRest; simp only [*] <;> rfl), (by first | exact (HF1.out.trans HF2.out) | exact (HF1.out.trans HF2.out).alloc _ | exact ((HF1.out.trans HF2.out).alloc _).alloc _ | exact (((HF1.out.trans HF2.out).alloc _).alloc _).alloc _ | exact (HF1.out.trans HF2.out).drewN _ | exact ((HF1.out.trans HF2.out).alloc _).drewN _ | exact (((HF1.out.trans HF2.out).alloc _).alloc _).drewN _)⟩
              | true =>
                have h9p := of_decide_eq_true h9
                have h9n : decide (len ≤ 256) = true := by have hx := h9; simp only [decide_eq_true_eq] at hx ⊢; omega
                go_wp2_with fail
                go_quiet (fail)
                cases h10 : (((len : Int) % cols) == (0 : Int)) with
                | false =>
                  have h10m : (((len : Int) % cols) != (0 : Int)) = true := by rw [bne, h10]; rfl
                  go_wp2_with fail
                  go_ret
                  exact ⟨ret_bool' _ _ (by unfold ownRest; simp only [*] <;> rfl), (by first | exact (HF1.out.trans HF2.out) | exact (HF1.out.trans HF2.out).alloc _ | exact ((HF1.out.trans HF2.out).alloc _).alloc _ | exact (((HF1.out.trans HF2.out).alloc _).alloc _).alloc _ | exact (HF1.out.trans HF2.out).drewN _ | exact ((HF1.out.trans HF2.out).alloc _).drewN _ | exact (((HF1.out.trans HF2.out).alloc _).alloc _).drewN _)⟩
                | true =>
                  have h10m : (((len : Int) % cols) != (0 : Int)) = false := by rw [bne, h10]; rfl
                  go_wp2_with fail
                  go_ret
                  exact ⟨ret_bool' _ _ (by unfold ownRest; simp only [*] <;> rfl), (by first | exact (HF1.out.trans HF2.out) | exact (HF1.out.trans HF2.out).alloc _ | exact ((HF1.out.trans HF2.out).alloc _).alloc _ | exact (((HF1.out.trans HF2.out).alloc _).alloc _).alloc _ | exact (HF1.out.trans HF2.out).drewN _ | exact ((HF1.out.trans HF2.out).alloc _).drewN _ | exact (((HF1.out.trans HF2.out).alloc _).alloc _).drewN _)⟩
    | true =>
      have h2m : ((k : Int) != (1 : Int)) = false := by rw [bne, h2]; rfl
      have h2n : (k == 1) = true := by have hx := h2; simp only [beq_iff_eq] at hx ⊢; omega
      cases h11 : (cols == (0 : Int)) with
      | false =>
        have h11m : (cols != (0 : Int)) = true := by rw [bne, h11]; rfl
        go_wp2_with fail
        go_ret
        exact ⟨ret_bool' _ _ (by unfold ownRest; simp only [*] <;> rfl), (by first | exact (HF1.out.trans HF2.out) | exact (HF1.out.trans HF2.out).alloc _ | exact ((HF1.out.trans HF2.out).alloc _).alloc _ | exact (((HF1.out.trans HF2.out).alloc _).alloc _).alloc _ | exact (HF1.out.trans HF2.out).drewN _ | exact ((HF1.out.trans HF2.out).alloc _).drewN _ | exact (((HF1.out.trans HF2.out).alloc _).alloc _).drewN _)⟩
      | true =>
        have h11m : (cols != (0 : Int)) = false := by rw [bne, h11]; rfl
        cases h12 : decide ((len : Int) ≤ (200 : Int)) with
        | false =>
          have h12n : decide (len ≤ 200) = false := by have hx := h12; simp only [decide_eq_false_iff_not] at hx ⊢; omega
          go_wp2_with fail
          go_ret
          exact ⟨ret_bool' _ _ (by unfold ownRest; simp only [*] <;> rfl), (by first | exact (HF1.out.trans HF2.out) | exact (HF1.out.trans HF2.out).alloc _ | exact ((HF1.out.trans HF2.out).alloc _).alloc _ | exact (((HF1.out.trans HF2.out).alloc _).alloc _).alloc _ | exact (HF1.out.trans HF2.out).drewN _ | exact ((HF1.out.trans HF2.out).alloc _).drewN _ | exact (((HF1.out.trans HF2.out).alloc _).alloc _).drewN _)⟩
        | true =>
          have h12p := of_decide_eq_true h12
          have h12n : decide (len ≤ 200) = true := by have hx := h12; simp only [decide_eq_true_eq] at hx ⊢; omega
          go_wp2_with fail
          go_ret
          exact ⟨ret_bool' _ _ (by unfold ownRest; simp only [*] <;> rfl), (by first | exact (HF1.out.trans HF2.out) | exact (HF1.out.trans HF2.out).alloc _ | exact ((HF1.out.trans HF2.out).alloc _).alloc _ | exact (((HF1.out.trans HF2.out).alloc _).alloc _).alloc _ | exact (HF1.out.trans HF2.out).drewN _ | exact ((HF1.out.trans HF2.out).alloc _).drewN _ | exact (((HF1.out.trans HF2.out).alloc _).alloc _).drewN _)⟩

end Go.Proofs.Ytdacpbdamliafaa

/- What checker.own reports. -/
namespace Go.Proofs.Ytdacpbdamliafaa
open Go.RowKit

/-- What own reports. -/
def ownF (n : Tr.Nd) : Bool := decide (1 ≤ n.kind) && (decide (n.kind ≤ 12) && (Tr.textOK n.kind n.text && Tr.kidsOK n.kind n.cols n.kids.length))

theorem own_lo (n : Tr.Nd) (c g o : Nat) (w : World) (hk : n.kind < 1)
    (a0 : w.cell? ⟨g, o, none⟩ = some (.int .i64 n.kind)) :
    Calls Try.prog 56 #[.pointer (some ⟨c, 0, none⟩), .pointer (some ⟨g, o, none⟩)] w fun e w' => e = .returned (.bool false) ∧ Fresh w w' := by
  have e1 : decide (n.kind < (1 : Int)) = true := by simp only [decide_eq_true_eq]; omega
  have e2 : decide ((12 : Int) < n.kind) = false := by simp only [decide_eq_false_iff_not]; omega
  clear hk
  go_enter Try.func56, Try.ntmps56
  go_wp2_with fail
  go_quiet (fail)
  go_wp2_with fail
  go_ret
  exact ⟨rfl, (by first | exact (Touch.refl _ _) | exact (Touch.refl _ _).alloc _ | exact ((Touch.refl _ _).alloc _).alloc _ | exact (((Touch.refl _ _).alloc _).alloc _).alloc _ | exact (Touch.refl _ _).drewN _ | exact ((Touch.refl _ _).alloc _).drewN _ | exact (((Touch.refl _ _).alloc _).alloc _).drewN _)⟩

theorem own_hi (n : Tr.Nd) (c g o : Nat) (w : World) (hk : 12 < n.kind)
    (a0 : w.cell? ⟨g, o, none⟩ = some (.int .i64 n.kind)) :
    Calls Try.prog 56 #[.pointer (some ⟨c, 0, none⟩), .pointer (some ⟨g, o, none⟩)] w fun e w' => e = .returned (.bool false) ∧ Fresh w w' := by
  have e1 : decide (n.kind < (1 : Int)) = false := by simp only [decide_eq_false_iff_not]; omega
  have e2 : decide ((12 : Int) < n.kind) = true := by simp only [decide_eq_true_eq]; omega
  clear hk
  go_enter Try.func56, Try.ntmps56
  go_wp2_with fail
  go_quiet (fail)
  go_wp2_with fail
  go_ret
  exact ⟨rfl, (by first | exact (Touch.refl _ _) | exact (Touch.refl _ _).alloc _ | exact ((Touch.refl _ _).alloc _).alloc _ | exact (((Touch.refl _ _).alloc _).alloc _).alloc _ | exact (Touch.refl _ _).drewN _ | exact ((Touch.refl _ _).alloc _).drewN _ | exact (((Touch.refl _ _).alloc _).alloc _).drewN _)⟩

theorem dec_len (a b : Nat) : decide ((a : Int) ≤ (b : Int)) = decide (a ≤ b) := by rw [Bool.eq_iff_iff, decide_eq_true_iff, decide_eq_true_iff]; omega
theorem plain_text (t : List UInt8) : Tr.textOK ((4 : Nat) : Int) t = (t.all plainB && decide ((ByteArray.size ⟨t.toArray⟩ : Int) ≤ (200 : Int))) := by
  show (decide (t.length ≤ 200) && Tr.printable t) = _
  have : (ByteArray.size ⟨t.toArray⟩) = t.length := by show t.toArray.size = _; simp
  rw [this, show decide ((t.length : Int) ≤ (200 : Int)) = decide (t.length ≤ 200) from dec_len t.length 200, Bool.and_comm]
  rfl
theorem ownF_at (k : Nat) (n : Tr.Nd) (tx : Bool) (slots : Int) (hk : n.kind = k) (h1 : 1 ≤ k) (h2 : k ≤ 12) (ht : Tr.textOK n.kind n.text = tx)
    (hs : (k = 5 ∨ k = 6 ∨ k = 7 ∨ k = 8 → slots = 2) ∧ (k = 9 → slots = 3) ∧ (k = 10 ∨ k = 11 → slots = 1) ∧ (k = 2 ∨ k = 3 ∨ k = 4 → slots = 0)) : ownF n = (tx && ownRest k n.cols n.kids.length slots) := by
  unfold ownF
  rw [ht, hk]
  have e1 : decide ((1 : Int) ≤ (k : Int)) = true := by simp; omega
  have e2 : decide ((k : Int) ≤ 12) = true := by simp; omega
  rw [e1, e2, Bool.true_and, Bool.true_and]
  congr 1
  unfold Tr.kidsOK ownRest
  generalize n.kids.length = m
  generalize n.cols = c
  obtain ⟨s1, s2, s3, s4⟩ := hs
  by_cases k12 : k = 12
  · subst k12
    rw [if_pos (show ((12 : Nat) : Int) = 12 from rfl), if_neg (show ¬ (((12 : Nat) : Int) == 1) = true by decide), if_pos (show (((12 : Nat) : Int) == 12) = true by decide)]
    have f1 : decide ((1 : Int) ≤ (m : Int)) = decide (1 ≤ m) := dec_len 1 m
    have f2 : decide ((m : Int) ≤ (256 : Int)) = decide (m ≤ 256) := dec_len m 256
    show (decide (1 ≤ c) && decide (c ≤ 16) && decide (1 ≤ m) && decide (m ≤ 256) && decide ((m : Int) % c = 0)) = (decide (1 ≤ c) && (decide (c ≤ 16) && (decide ((1 : Int) ≤ (m : Int)) && (decide ((m : Int) ≤ (256 : Int)) && ((m : Int) % c == 0)))))
    rw [f1, f2]
    simp only [Bool.and_assoc]
    rfl
  · have k12' : ¬ (k : Int) = 12 := by omega
    have k12'' : ((k : Int) == 12) = false := by simpa using k12'
    rw [if_neg k12', k12'']
    by_cases hc : c = 0
    · subst hc
      simp only [ne_eq, not_true_eq_false, if_false, Bool.false_eq_true]
      by_cases k1 : k = 1
      · subst k1
        rw [if_pos (show ((1 : Nat) : Int) = 1 from rfl), if_pos (show (((1 : Nat) : Int) == 1) = true by decide)]
        exact (dec_len m 200).symm
      · have k1' : ¬ (k : Int) = 1 := by omega
        have k1'' : ((k : Int) == 1) = false := by simpa using k1'
        rw [if_neg k1', k1'']
        simp only [Bool.false_eq_true, if_false, BEq.rfl, Bool.true_and]
        have dn : ∀ (j : Nat) (sl : Int), sl = j → decide (m = j) = ((m : Int) == sl) := by
          intro j sl h; subst h; rw [Bool.eq_iff_iff, decide_eq_true_iff, beq_iff_eq]; omega
        split
        · exact dn 0 slots (s4 (by omega))
        · split
          · exact dn 2 slots (s1 (by omega))
          · split
            · exact dn 3 slots (s2 (by omega))
            · split
              · exact dn 1 slots (s3 (by omega))
              · omega
    · have hc' : (c == 0) = false := by simpa using hc
      rw [if_pos hc, hc']
      simp
set_option maxRecDepth 100000 in
set_option maxHeartbeats 1000000 in
theorem own_any (n : Tr.Nd) (A : Option Addr) (cap c g o : Nat) (m : Int) (w : World) (hc : Blk w c 78 (checkCells m)) (hm : n.text.length ≤ 9223372036854775807)
    (a0 : w.cell? ⟨g, o, none⟩ = some (.int .i64 n.kind)) (a1 : w.cell? ⟨g, o + 1, none⟩ = some (.string ⟨n.text.toArray⟩)) (a2 : w.cell? ⟨g, o + 2, none⟩ = some (.int .i64 n.cols)) (a3 : w.cell? ⟨g, o + 3, none⟩ = some (.slice A n.kids.length cap)) :
    Calls Try.prog 56 #[.pointer (some ⟨c, 0, none⟩), .pointer (some ⟨g, o, none⟩)] w fun e w' => e = .returned (.bool (ownF n)) ∧ Fresh w w' := by
  by_cases h1 : n.kind < 1
  · have e : ownF n = false := by
      unfold ownF
      have : decide (1 ≤ n.kind) = false := by simp; omega
      rw [this]; rfl
    rw [e]
    exact own_lo n c g o w h1 a0
  by_cases h2 : 12 < n.kind
  · have e : ownF n = false := by
      unfold ownF
      have : decide (n.kind ≤ 12) = false := by simp; omega
      rw [this, Bool.false_and, Bool.and_false]
    rw [e]
    exact own_hi n c g o w h2 a0
  obtain ⟨k, hk⟩ : ∃ k : Nat, n.kind = k := ⟨n.kind.toNat, by omega⟩
  have k1 : 1 ≤ k := by omega
  have k2 : k ≤ 12 := by omega
  rw [hk] at a0
  match k, k1, k2, hk, a0 with
  | 1, k1, k2, hk, a0 =>
    rw [ownF_at 1 n (n.text.isEmpty) 0 hk k1 k2 (by rw [hk]; rfl) (by decide)]
    exact own_gen n.text n.cols 0 1 n.kids.length 50 _ A cap c g o w k1 k2 (fun _ _ => by kernel_rfl) (fun w' => same_fresh (empty_any ⟨n.text.toArray⟩ w')) a0 a1 a2 a3 (hc.cell 4) (hc.cell 5)
  | 2, k1, k2, hk, a0 =>
    rw [ownF_at 2 n (Tr.symbol n.text) 0 hk k1 k2 (by rw [hk]; rfl) (by decide)]
    exact own_gen n.text n.cols 0 2 n.kids.length 51 _ A cap c g o w k1 k2 (fun _ _ => by kernel_rfl) (fun w' => same_fresh (symbol_any ⟨n.text.toArray⟩ w' (by show n.text.toArray.size ≤ _; simpa using hm))) a0 a1 a2 a3 (hc.cell 7) (hc.cell 8)
  | 3, k1, k2, hk, a0 =>
    rw [ownF_at 3 n (Tr.isNum n.text) 0 hk k1 k2 (by rw [hk]; rfl) (by decide)]
    exact own_gen n.text n.cols 0 3 n.kids.length 52 _ A cap c g o w k1 k2 (fun _ _ => by kernel_rfl) (fun w' => numText_any ⟨n.text.toArray⟩ w' (by show n.text.toArray.size ≤ _; simpa using hm)) a0 a1 a2 a3 (hc.cell 10) (hc.cell 11)
  | 4, k1, k2, hk, a0 =>
    rw [ownF_at 4 n ((n.text.all plainB && decide ((ByteArray.size ⟨n.text.toArray⟩ : Int) ≤ (200 : Int)))) 0 hk k1 k2 (by rw [hk]; exact plain_text n.text) (by decide)]
    exact own_gen n.text n.cols 0 4 n.kids.length 53 _ A cap c g o w k1 k2 (fun _ _ => by kernel_rfl) (fun w' => same_fresh (plain_any ⟨n.text.toArray⟩ w' (by show n.text.toArray.size ≤ _; simpa using hm))) a0 a1 a2 a3 (hc.cell 13) (hc.cell 14)
  | 5, k1, k2, hk, a0 =>
    rw [ownF_at 5 n (n.text.isEmpty) 2 hk k1 k2 (by rw [hk]; rfl) (by decide)]
    exact own_gen n.text n.cols 2 5 n.kids.length 50 _ A cap c g o w k1 k2 (fun _ _ => by kernel_rfl) (fun w' => same_fresh (empty_any ⟨n.text.toArray⟩ w')) a0 a1 a2 a3 (hc.cell 16) (hc.cell 17)
  | 6, k1, k2, hk, a0 =>
    rw [ownF_at 6 n (n.text.isEmpty) 2 hk k1 k2 (by rw [hk]; rfl) (by decide)]
    exact own_gen n.text n.cols 2 6 n.kids.length 50 _ A cap c g o w k1 k2 (fun _ _ => by kernel_rfl) (fun w' => same_fresh (empty_any ⟨n.text.toArray⟩ w')) a0 a1 a2 a3 (hc.cell 19) (hc.cell 20)
  | 7, k1, k2, hk, a0 =>
    rw [ownF_at 7 n (n.text.isEmpty) 2 hk k1 k2 (by rw [hk]; rfl) (by decide)]
    exact own_gen n.text n.cols 2 7 n.kids.length 50 _ A cap c g o w k1 k2 (fun _ _ => by kernel_rfl) (fun w' => same_fresh (empty_any ⟨n.text.toArray⟩ w')) a0 a1 a2 a3 (hc.cell 22) (hc.cell 23)
  | 8, k1, k2, hk, a0 =>
    rw [ownF_at 8 n (n.text.isEmpty) 2 hk k1 k2 (by rw [hk]; rfl) (by decide)]
    exact own_gen n.text n.cols 2 8 n.kids.length 50 _ A cap c g o w k1 k2 (fun _ _ => by kernel_rfl) (fun w' => same_fresh (empty_any ⟨n.text.toArray⟩ w')) a0 a1 a2 a3 (hc.cell 25) (hc.cell 26)
  | 9, k1, k2, hk, a0 =>
    rw [ownF_at 9 n (n.text.isEmpty) 3 hk k1 k2 (by rw [hk]; rfl) (by decide)]
    exact own_gen n.text n.cols 3 9 n.kids.length 50 _ A cap c g o w k1 k2 (fun _ _ => by kernel_rfl) (fun w' => same_fresh (empty_any ⟨n.text.toArray⟩ w')) a0 a1 a2 a3 (hc.cell 28) (hc.cell 29)
  | 10, k1, k2, hk, a0 =>
    rw [ownF_at 10 n (Tr.accents.contains n.text) 1 hk k1 k2 (by rw [hk]; rfl) (by decide)]
    exact own_gen n.text n.cols 1 10 n.kids.length 54 _ A cap c g o w k1 k2 (fun _ _ => by kernel_rfl) (fun w' => same_fresh (accent_any ⟨n.text.toArray⟩ w')) a0 a1 a2 a3 (hc.cell 31) (hc.cell 32)
  | 11, k1, k2, hk, a0 =>
    rw [ownF_at 11 n (Tr.fence n.text) 1 hk k1 k2 (by rw [hk]; rfl) (by decide)]
    exact own_gen n.text n.cols 1 11 n.kids.length 55 _ A cap c g o w k1 k2 (fun _ _ => by kernel_rfl) (fun w' => same_fresh (fence_any ⟨n.text.toArray⟩ w')) a0 a1 a2 a3 (hc.cell 34) (hc.cell 35)
  | 12, k1, k2, hk, a0 =>
    rw [ownF_at 12 n (n.text.isEmpty) 0 hk k1 k2 (by rw [hk]; rfl) (by decide)]
    exact own_gen n.text n.cols 0 12 n.kids.length 50 _ A cap c g o w k1 k2 (fun _ _ => by kernel_rfl) (fun w' => same_fresh (empty_any ⟨n.text.toArray⟩ w')) a0 a1 a2 a3 (hc.cell 37) (hc.cell 38)
end Go.Proofs.Ytdacpbdamliafaa

/- The walk of checker.node. -/
namespace Go.Proofs.Ytdacpbdamliafaa
open Go.RowKit

mutual
/-- What checker.node reports at a depth. -/
def chkN : Nat → Tr.Nd → Bool
  | d, .mk k t c ks => decide (d ≤ 24) && (ownF (.mk k t c ks) && chkL (k == 1) (d + 1) ks)
def chkL : Bool → Nat → List Tr.Nd → Bool
  | _, _, [] => true
  | r, d, n :: ns => (!((n.kind == 1) == r)) && (chkN d n && chkL r d ns)
end
theorem chkN_eq (d : Nat) (n : Tr.Nd) : chkN d n = (decide (d ≤ 24) && (ownF n && chkL (n.kind == 1) (d + 1) n.kids)) := by cases n; rw [chkN]; rfl
theorem chkL_take (r : Bool) (d : Nat) : ∀ (l : List Tr.Nd) (i : Nat) (h : i < l.length), chkL r d (l.take (i + 1)) = (chkL r d (l.take i) && ((!((l[i].kind == 1) == r)) && chkN d l[i]))
  | [], i, h => by simp at h
  | x :: l, 0, h => by simp [chkL]
  | x :: l, i + 1, h => by
    simp only [List.take_succ_cons, chkL, List.getElem_cons_succ]
    rw [chkL_take r d l i (by simpa using h)]
    simp only [Bool.and_assoc]
theorem chkL_no (r : Bool) (d : Nat) : ∀ (l : List Tr.Nd) (i : Nat) (h : i < l.length), ((!((l[i].kind == 1) == r)) && chkN d l[i]) = false → chkL r d l = false
  | [], i, h, _ => by simp at h
  | x :: l, 0, h, hn => by
    simp only [List.getElem_cons_zero] at hn
    rw [chkL, ← Bool.and_assoc, hn, Bool.false_and]
  | x :: l, i + 1, h, hn => by
    simp only [List.getElem_cons_succ] at hn
    rw [chkL, chkL_no r d l i (by simpa using h) hn, Bool.and_false, Bool.and_false]

/-- How checker.node ends. -/
def NodeEnd (c : Nat) (d m : Nat) (n : Tr.Nd) (w : World) (e : Ending) (w' : World) : Prop :=
  ∃ m' : Nat, e = .returned (.bool (chkN d n)) ∧ Blk w' c 78 (checkCells m') ∧ Touch (· = c) w w' ∧ m' ≤ m + Tr.count n ∧ (chkN d n = true → m' = m + Tr.count n)

theorem check_put (m : Nat) : (checkCells (m : Int)).setIfInBounds 39 (.int .i64 ((m : Int) + 1)) = checkCells ((m + 1 : Nat) : Int) := by rfl
theorem check_39 (m : Int) : (checkCells m)[39]? = some (.int .i64 m) := by rfl

set_option maxRecDepth 100000 in
set_option maxHeartbeats 4000000 in
theorem node_any (W0 : World) (c : Nat) (hcW : W0.heap.size ≤ c) (k : Nat) : ∀ (n : Tr.Nd) (A : Option Addr) (g o cap d m : Nat) (dd : Int) (w : World), dd = d → Tr.count n ≤ k →
    W0.cell? ⟨g, o, none⟩ = some (.int .i64 n.kind) → W0.cell? ⟨g, o + 1, none⟩ = some (.string ⟨n.text.toArray⟩) → W0.cell? ⟨g, o + 2, none⟩ = some (.int .i64 n.cols) → W0.cell? ⟨g, o + 3, none⟩ = some (.slice A n.kids.length cap) →
    RepL W0 n.kids (.slice A n.kids.length cap) → n.text.length ≤ maxLen → Blk w c 78 (checkCells m) → Touch (· = c) W0 w → m + Tr.count n ≤ 1000 → d ≤ 1000 →
    Calls Try.prog 42 #[.pointer (some ⟨c, 0, none⟩), .pointer (some ⟨g, o, none⟩), .int .i64 dd] w (NodeEnd c d m n w) := by
  induction k with
  | zero => intro n _ _ _ _ _ _ _ _ _ h; have := Tr.count_pos n; omega
  | succ k ih =>
    intro n A g o cap d m dd w hdd hcn a0 a1 a2 a3 hrep htx hb htw hm hd
    subst hdd
    have hgc : g < W0.heap.size := block_lt_of_cell a0
    have hne : g ≠ c := by omega
    have hlen := hrep.len
    unfold maxLen at htx hlen
    have hck := Tr.count_kids n
    have hnl := Tr.countL_len n.kids
    have HIH := hid ih
    have HREP := hid hrep
    have HCE := hid (chkN_eq d n)
    have HTW := hid htw
    have HB := hid hb
    have ht1 : Touch (· = c) w (w.setCell ⟨c, 39, none⟩ (.int .i64 ((m : Int) + 1))) := Touch.setCell (S := (· = c)) (Touch.refl _ w) (p := ⟨c, 39, none⟩) (.inl rfl) _
    have hb1 : Blk (w.setCell ⟨c, 39, none⟩ (.int .i64 ((m : Int) + 1))) c 78 (checkCells ((m + 1 : Nat) : Int)) := by
      rw [← check_put]; exact hb.put 39 _
    have q39 : w.cell? ⟨c, 39, none⟩ = some (.int .i64 (m : Int)) := (hb.cell 39).trans (check_39 m)
    have z39 : w.frozen? ⟨c, 39, none⟩ = false := hb.frozen 39
    have r39 : (w.setCell ⟨c, 39, none⟩ (.int .i64 ((m : Int) + 1))).cell? ⟨c, 39, none⟩ = some (.int .i64 ((m : Int) + 1)) := (hb1.cell 39).trans (check_39 _)
    have lim : decide ((1000 : Int) < (m : Int) + 1) = false := by simp only [decide_eq_false_iff_not]; omega
    have HT1 := hid ht1
    have HB1 := hid hb1
    clear ih hrep htw hb ht1 hb1
    by_cases hd24 : 24 < d
    · have dl : decide ((24 : Int) < (d : Int)) = true := by simp only [decide_eq_true_eq]; omega
      have dln : decide (24 < d) = true := by simp only [decide_eq_true_eq]; omega
      have hch : chkN d n = false := by
        rw [HCE.out]
        have : decide (d ≤ 24) = false := by simp only [decide_eq_false_iff_not]; omega
        rw [this]; rfl
      have HCH := hid hch
      clear hch HCE
      go_enter Try.func42, Try.ntmps42
      go_wp2_with fail
      go_ret
      exact ⟨m + 1, by rw [HCH.out]; rfl, HB1.out, HT1.out, by omega, fun h => by rw [HCH.out] at h; cases h⟩
    · have dl : decide ((24 : Int) < (d : Int)) = false := by simp only [decide_eq_false_iff_not]; omega
      have dln : decide (24 < d) = false := by simp only [decide_eq_false_iff_not]; omega
      have b0 := (HTW.out.trans HT1.out).cell a0 hne
      have b1 := (HTW.out.trans HT1.out).cell a1 hne
      have b2 := (HTW.out.trans HT1.out).cell a2 hne
      have b3 := (HTW.out.trans HT1.out).cell a3 hne
      have HOWN := hid (own_any n A cap c g o _ _ HB1.out htx b0 b1 b2 b3)
      have hd24' : decide (d ≤ 24) = true := by simp only [decide_eq_true_eq]; omega
      have HC2 := hid (show chkN d n = (ownF n && chkL (n.kind == 1) (d + 1) n.kids) by rw [HCE.out, hd24']; rfl)
      clear HCE hd24' b0 b1 b2 b3
      go_enter Try.func42, Try.ntmps42
      go_wp2_with fail
      refine HOWN.out.mono ?_
      rintro _ w2 ⟨rfl, hf2⟩
      have hb2 := hf2.blk HB1.out (fun h => h)
      have ht2 : Touch (· = c) w w2 := HT1.out.trans (hf2.mono (fun _ h => h.elim))
      have HB2 := hid hb2
      have HT2 := hid ht2
      have b0 := (HTW.out.trans ht2).cell a0 hne
      have b3 := (HTW.out.trans ht2).cell a3 hne
      clear hf2 hb2 ht2 r39 q39 z39
      cases how : ownF n with
      | false =>
        have HCH := hid (show chkN d n = false by rw [HC2.out, how]; rfl)
        go_wp2_with fail
        go_ret
        exact ⟨m + 1, by rw [HCH.out]; rfl, HB2.out, HT2.out, by omega, fun h => by rw [HCH.out] at h; cases h⟩
      | true =>
        have HC3 := hid (show chkN d n = chkL (n.kind == 1) (d + 1) n.kids by rw [HC2.out, how]; rfl)
        clear HC2 how
        go_wp2_with fail
        go_loopw [35] (fun i wr => ∃ (j m' : Nat), i = .int .i64 j ∧ j ≤ n.kids.length ∧ Hid (Blk wr c 78 (checkCells m')) ∧ Hid (Touch (· = c) w wr) ∧ Hid (m' = m + 1 + Tr.countL (n.kids.take j)) ∧ Hid (chkL (n.kind == 1) (d + 1) (n.kids.take j) = true)) (fun i _ => n.kids.length - (intOf i).toNat)
        case atStart => exact ⟨0, m + 1, rfl, Nat.zero_le _, HB2.out, HT2.out, by simp [Tr.countL, Hid], by simp [chkL, Hid]⟩
        case round =>
          obtain ⟨j, m', rfl, hj, HB3, HT3, HM, HL⟩ := hrel
          by_cases c1 : j < n.kids.length
          · have d1 : decide ((j : Int) < (n.kids.length : Int)) = true := by simp only [decide_eq_true_eq]; omega
            have d1n : decide (j < n.kids.length) = true := by simp only [decide_eq_true_eq]; omega
            have d1' : (j : Int) < (n.kids.length : Int) := by omega
            obtain ⟨g', o', sl, rfl, hg', n0, n1, n2, n3, hrk⟩ := HREP.out.get j c1
            have htx' := HREP.out.texts j c1
            obtain ⟨A', cap', rfl⟩ := hrk.slice
            have hne' : g' ≠ c := by omega
            have e0 := (HTW.out.trans HT3.out).cell a0 hne
            have e3 := (HTW.out.trans HT3.out).cell a3 hne
            have x0 := (HTW.out.trans HT3.out).cell n0 hne'
            have hcm := Tr.count_mem (List.getElem_mem (l := n.kids) (n := j) c1)
            have hct := Tr.countL_take n.kids j c1
            have hcl := Tr.countL_le n.kids (j + 1)
            have hcj := Tr.countL_le n.kids j
            have HS := hid (chkL_take (n.kind == 1) (d + 1) n.kids j c1)
            have HN := hid (chkL_no (n.kind == 1) (d + 1) n.kids j c1)
            have HM0 := HM.out
            have HX := hid (fun (w' : World) (hb' : Blk w' c 78 (checkCells m')) (ht' : Touch (· = c) W0 w') => HIH.out n.kids[j] A' g' (o' + j * 4) cap' (d + 1) m' ((d : Int) + 1) w' (by omega) (by omega) n0 n1 n2 n3 hrk htx' hb' ht' (by omega) (by omega))
            have HCT := hid hct
            clear n0 n1 n2 n3 hrk HIH HREP hct
            generalize n.kids[j] = x at *
            cases p1 : (n.kind == 1) with
            | false =>
              rw [p1] at HS HN
              cases p2 : (x.kind == 1) with
              | false =>
                have HCH := hid (show chkN d n = false by rw [HC3.out, p1]; exact HN.out (by rw [p2]; rfl))
                go_wp2_with fail
                go_quiet (fail)
                go_wp2_with fail
                go_ret
                exact ⟨m', by rw [HCH.out]; rfl, HB3.out, HT3.out.drewN _, by omega, fun h => by rw [HCH.out] at h; cases h⟩
              | true =>
                go_wp2_with fail
                refine wp_region_segs [([0,1,2,3,4,5,6,7,8,9,10,11,12,13,14,15,16,17,18,19,20,21,22,23,24],25)] [26,27] (by kernel_rfl) (by kernel_rfl) ?_
                simp only [wpSegs, pick, List.getElem?_cons_zero, List.getElem?_cons_succ]
                repeat (quiet_step (fail))
                refine wpQuiet_nil ?_
                rintro _ ⟨nq, rfl⟩
                go_wp2_with fail
                refine (HX.out _ (HB3.out.drewN nq) ((HTW.out.trans HT3.out).drewN nq)).mono ?_
                rintro _ w5 ⟨m5, rfl, hb5, ht5, hm5, hm5'⟩
                have HB5 := hid hb5
                have HT5 := hid (HT3.out.trans (Touch.ofN ht5))
                clear hb5 ht5 e0 e3 x0
                cases hx : chkN (d + 1) x with
                | false =>
                  have HCH := hid (show chkN d n = false by rw [HC3.out, p1]; exact HN.out (by rw [hx, Bool.and_false]))
                  rw [hx] at hm5'
                  go_wp2_with fail
                  repeat (quiet_step (fail))
                  refine wpQuiet_nil ?_
                  rintro _ ⟨nq2, rfl⟩
                  go_wp2_with fail
                  go_ret
                  exact ⟨m5, by rw [HCH.out]; rfl, HB5.out.drewN _, HT5.out.drewN _, by have := HCT.out; omega, fun h => by rw [HCH.out] at h; cases h⟩
                | true =>
                  rw [hx] at hm5'
                  have hm6 := hm5' rfl
                  clear hm5'
                  have HL5 := hid (show chkL false (d + 1) (n.kids.take (j + 1)) = true by
                    have hl := HL.out
                    rw [p1] at hl
                    rw [HS.out, hl, p2, hx]; rfl)
                  go_wp2_with fail
                  repeat (quiet_step (fail))
                  refine wpQuiet_nil ?_
                  rintro _ ⟨nq2, rfl⟩
                  go_wp2_with fail
                  go_roundw
                  case rel => exact ⟨j + 1, m5, by go_num, by omega, HB5.out.drewN _, HT5.out.drewN _, by rw [HCT.out]; unfold Hid; omega, HL5⟩
                  case measure => simp [intOf]; omega
            | true =>
              rw [p1] at HS HN
              cases p2 : (x.kind == 1) with
              | false =>
                go_wp2_with fail
                refine wp_region_segs [([0,1,2,3,4,5,6,7,8,9,10,11,12,13,14,15,16,17,18,19,20,21,22,23,24],25)] [26,27] (by kernel_rfl) (by kernel_rfl) ?_
                simp only [wpSegs, pick, List.getElem?_cons_zero, List.getElem?_cons_succ]
                repeat (quiet_step (fail))
                refine wpQuiet_nil ?_
                rintro _ ⟨nq, rfl⟩
                go_wp2_with fail
                refine (HX.out _ (HB3.out.drewN nq) ((HTW.out.trans HT3.out).drewN nq)).mono ?_
                rintro _ w5 ⟨m5, rfl, hb5, ht5, hm5, hm5'⟩
                have HB5 := hid hb5
                have HT5 := hid (HT3.out.trans (Touch.ofN ht5))
                clear hb5 ht5 e0 e3 x0
                cases hx : chkN (d + 1) x with
                | false =>
                  have HCH := hid (show chkN d n = false by rw [HC3.out, p1]; exact HN.out (by rw [hx, Bool.and_false]))
                  rw [hx] at hm5'
                  go_wp2_with fail
                  repeat (quiet_step (fail))
                  refine wpQuiet_nil ?_
                  rintro _ ⟨nq2, rfl⟩
                  go_wp2_with fail
                  go_ret
                  exact ⟨m5, by rw [HCH.out]; rfl, HB5.out.drewN _, HT5.out.drewN _, by have := HCT.out; omega, fun h => by rw [HCH.out] at h; cases h⟩
                | true =>
                  rw [hx] at hm5'
                  have hm6 := hm5' rfl
                  clear hm5'
                  have HL5 := hid (show chkL true (d + 1) (n.kids.take (j + 1)) = true by
                    have hl := HL.out
                    rw [p1] at hl
                    rw [HS.out, hl, p2, hx]; rfl)
                  go_wp2_with fail
                  repeat (quiet_step (fail))
                  refine wpQuiet_nil ?_
                  rintro _ ⟨nq2, rfl⟩
                  go_wp2_with fail
                  go_roundw
                  case rel => exact ⟨j + 1, m5, by go_num, by omega, HB5.out.drewN _, HT5.out.drewN _, by rw [HCT.out]; unfold Hid; omega, HL5⟩
                  case measure => simp [intOf]; omega
              | true =>
                have HCH := hid (show chkN d n = false by rw [HC3.out, p1]; exact HN.out (by rw [p2]; rfl))
                go_wp2_with fail
                go_quiet (fail)
                go_wp2_with fail
                go_ret
                exact ⟨m', by rw [HCH.out]; rfl, HB3.out, HT3.out.drewN _, by omega, fun h => by rw [HCH.out] at h; cases h⟩
          · have d1 : decide ((j : Int) < (n.kids.length : Int)) = false := by simp only [decide_eq_false_iff_not]; omega
            have d1n : decide (j < n.kids.length) = false := by simp only [decide_eq_false_iff_not]; omega
            obtain rfl : j = n.kids.length := by omega
            have hl := HL.out
            rw [List.take_length] at hl
            have hmm := HM.out
            rw [List.take_length] at hmm
            have HCH := hid (show chkN d n = true by rw [HC3.out]; exact hl)
            clear hl
            go_wp2_with fail
            go_ret
            exact ⟨m', by rw [HCH.out]; rfl, HB3.out, HT3.out, by omega, fun _ => by omega⟩
end Go.Proofs.Ytdacpbdamliafaa

/- The walk of node.Valid. -/
namespace Go.Proofs.Ytdacpbdamliafaa
open Go.RowKit
attribute [local go_sem] Oper.semAt_some

theorem built_check : Try.prog.built 78 [(0, .agg kindCells)] = some (checkCells 0) := by kernel_rfl

set_option maxRecDepth 100000 in
set_option maxHeartbeats 1000000 in
theorem valid_any (n : Tr.Nd) (sl : Value) (w : World) (hr : RepL w n.kids sl) (ht : n.text.length ≤ maxLen) (hc : Tr.count n ≤ 1000) :
    Calls Try.prog 26 #[.agg #[.int .i64 n.kind, .string ⟨n.text.toArray⟩, .int .i64 n.cols, sl]] w fun e w' => e = .returned (.bool ((n.kind == 1) && chkN 1 n)) ∧ Fresh w w' := by
  obtain ⟨A, cap, rfl⟩ := hr.slice
  have HR := hid hr
  clear hr
  go_enter Try.func26, Try.ntmps26
  go_wp2_with fail
  refine (kinds_any _).mono ?_
  rintro _ w1 ⟨rfl, hf1⟩
  have hf1' : Fresh w w1 := hf1.pre
  have hb1 := hf1.blk (Blk.new w 24 #[.int .i64 n.kind, .string ⟨n.text.toArray⟩, .int .i64 n.cols, .slice A n.kids.length cap]) (fun h => h)
  obtain ⟨q0, q1, q2, q3, _, _, _, _, hg⟩ := Blk.four hb1
  have HN := hid (node_any w1 w1.heap.size (Nat.le_refl _) _ n A w.heap.size 0 cap 1 0 1 (w1.alloc (.cells (checkCells 0) 78)) rfl (Nat.le_refl _) q0 q1 q2 q3 (HR.out.fresh hf1') ht (Blk.new _ _ _) ((Touch.refl _ _).alloc _) (by omega) (by decide))
  have HF1 := hid hf1'
  have hb2 := hb1.alloc (.cells (checkCells 0) 78)
  obtain ⟨r0, r1, r2, r3, _, _, _, _, hg2⟩ := Blk.four hb2
  clear hf1 hf1' hb1 hb2
  cases hk : (n.kind == 1) with
  | false =>
    go_wp2_with (refine wpList_build_kind [(0, .agg kindCells)] built_check _ rfl rfl rfl (.agg (checkCells 0)) rfl ?_)
    go_ret
    exact ⟨ret_bool' _ _ (by rw [hk]; rfl), HF1.out.alloc _⟩
  | true =>
    go_wp2_with (refine wpList_build_kind [(0, .agg kindCells)] built_check _ rfl rfl rfl (.agg (checkCells 0)) rfl ?_)
    refine HN.out.mono ?_
    rintro _ w2 ⟨m', rfl, hb3, ht3, _, _⟩
    have hf2 : Fresh w w2 := HF1.out.trans' (Touch.pre ht3) (fun i hi => by right; have := HF1.out.size; omega)
    have HF2 := hid hf2
    clear hf2 hb3 ht3 q0 q1 q2 q3 r0 r1 r2 r3
    go_wp2_with fail
    go_ret
    exact ⟨ret_bool' _ _ (by rw [hk]; rfl), HF2.out⟩
end Go.Proofs.Ytdacpbdamliafaa

/- What node.Valid reports is validity. -/
namespace Go.Proofs.Ytdacpbdamliafaa
open Go.RowKit

theorem ownF_form (n : Tr.Nd) : ownF n = (Tr.textOK n.kind n.text && Tr.kidsOK n.kind n.cols n.kids.length) := by
  unfold ownF
  by_cases h1 : 1 ≤ n.kind
  · by_cases h2 : n.kind ≤ 12
    · simp [h1, h2]
    · have : Tr.kidsOK n.kind n.cols n.kids.length = false := by
        unfold Tr.kidsOK
        rw [if_neg (by omega)]
        split
        · rfl
        · rw [if_neg (by omega), if_neg (by omega), if_neg (by omega), if_neg (by omega), if_neg (by omega)]
      simp [this]
  · have : Tr.kidsOK n.kind n.cols n.kids.length = false := by
      unfold Tr.kidsOK
      rw [if_neg (by omega)]
      split
      · rfl
      · rw [if_neg (by omega), if_neg (by omega), if_neg (by omega), if_neg (by omega), if_neg (by omega)]
    simp [this]

theorem chk_form (n : Tr.Nd) : ∀ d, chkN d n = (Tr.form n && decide (d + Tr.depth n ≤ 25)) := by
  induction n using Tr.Nd.ind with
  | h n ih =>
    have hL : ∀ (r : Bool) (l : List Tr.Nd) (d : Nat), d ≤ 25 → (∀ x ∈ l, ∀ d, chkN d x = (Tr.form x && decide (d + Tr.depth x ≤ 25))) → chkL r d l = (Tr.formL r l && decide (d + Tr.depthL l ≤ 25)) := by
      intro r l
      induction l with
      | nil => intro d hd _; simp [chkL, Tr.formL, Tr.depthL, hd]
      | cons x l ihl =>
        intro d hd h
        rw [chkL, Tr.formL, Tr.depthL, h x (by simp) d, ihl d hd (fun y hy => h y (by simp [hy]))]
        have e : decide (d + max (Tr.depth x) (Tr.depthL l) ≤ 25) = (decide (d + Tr.depth x ≤ 25) && decide (d + Tr.depthL l ≤ 25)) := by
          rw [Bool.eq_iff_iff, Bool.and_eq_true, decide_eq_true_iff, decide_eq_true_iff, decide_eq_true_iff]; omega
        rw [e, bne]
        generalize (!((x.kind == 1) == r)) = a
        generalize Tr.form x = b
        generalize Tr.formL r l = c
        generalize decide (d + Tr.depth x ≤ 25) = p
        generalize decide (d + Tr.depthL l ≤ 25) = q
        cases a <;> cases b <;> cases c <;> cases p <;> cases q <;> rfl
    intro d
    rw [chkN_eq, ownF_form, Tr.form_eq, Tr.depth_kids]
    by_cases hd : d ≤ 24
    · rw [hL _ _ (d + 1) (by omega) ih]
      have e : decide (d + 1 + Tr.depthL n.kids ≤ 25) = decide (d + (Tr.depthL n.kids + 1) ≤ 25) := by
        rw [Bool.eq_iff_iff, decide_eq_true_iff, decide_eq_true_iff]; omega
      rw [e]
      simp [hd, Bool.and_assoc]
    · have e : decide (d + (Tr.depthL n.kids + 1) ≤ 25) = false := by simp only [decide_eq_false_iff_not]; omega
      rw [e]
      simp [hd]

theorem valid_is (n : Tr.Nd) (hc : Tr.count n ≤ 1000) : ((n.kind == 1) && chkN 1 n) = Tr.valid n := by
  rw [chk_form]
  unfold Tr.valid
  have e1 : decide (Tr.count n ≤ 1000) = true := by simp only [decide_eq_true_eq]; exact hc
  have e2 : decide (1 + Tr.depth n ≤ 25) = decide (Tr.depth n ≤ 24) := by rw [Bool.eq_iff_iff, decide_eq_true_iff, decide_eq_true_iff]; omega
  rw [e1, e2, Bool.and_true, Bool.and_assoc]

theorem valid_call (n : Tr.Nd) (sl : Value) (w : World) (hr : RepL w n.kids sl) (ht : n.text.length ≤ maxLen) (hc : Tr.count n ≤ 1000) :
    Calls Try.prog 26 #[.agg #[.int .i64 n.kind, .string ⟨n.text.toArray⟩, .int .i64 n.cols, sl]] w fun e w' => e = .returned (.bool (Tr.valid n)) ∧ Fresh w w' := by
  rw [← valid_is n hc]; exact valid_any n sl w hr ht hc
end Go.Proofs.Ytdacpbdamliafaa
