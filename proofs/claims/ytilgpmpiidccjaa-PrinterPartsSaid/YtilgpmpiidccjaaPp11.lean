/- Part 11 of 11 of a proof; its texts, joined: PrY. No condition. -/
import Derived.Test.YtilgpmpiidccjaaPp10
import Derived.Test.YtilgpmpiidccjaaPp1

/- The statement PrinterParts: for all trees the law returns true, and the trees read as they did. No condition. -/
namespace Go.Proofs.Ytilgpmpiidccjaa
open Go.ChangeShapes Go.WideShapes Go.ChangeAt Go.RowKit
open Tr (Nd)

set_option maxRecDepth 100000 in
set_option maxHeartbeats 1000000 in
theorem parts_big_a (a b : Nd) (sa sb : Value) (w : World) (ra : RepL w a.kids sa) (rb : RepL w b.kids sb) (h1 : decide ((Tr.count a : Int) ≤ 300) = false) :
    Calls Try.prog 6 #[nv a sa, nv b sb] w fun e w' => e = .returned (.bool true) ∧ Fresh w w' := by
  have Ra := hid ra
  have Rb := hid rb
  clear ra rb
  go_enter Try.func6, Try.ntmps6
  go_wp2_with fail
  refine Calls.mono (awake21_any _) ?_
  rintro _ w1 ⟨rfl, hfw1⟩
  have HF1 := hid (show Fresh w w1 from by first | exact hfw1 | exact Touch.pre hfw1 | exact Touch.pre (Touch.pre hfw1) | exact Touch.ofN hfw1 | exact Touch.preN hfw1 | exact Touch.pre (Touch.pre (Touch.pre hfw1)))
  have B0_w1 : Blk w1 (w.heap.size) 24 #[.int .i64 a.kind, .string (⟨a.text.toArray⟩ : ByteArray), .int .i64 a.cols, sa] := Touch.blk hfw1 (by first | exact Blk.new _ _ _ | exact (Blk.new _ _ _).alloc _ | exact Blk.new2 _ _ _ _ | exact ((Blk.new _ _ _).alloc _).alloc _ | exact (Blk.new2 _ _ _ _).alloc _ | exact Blk.new3 _ _ _ _ _ | assumption | exact Blk.alloc (by assumption) _ | exact (Blk.alloc (Blk.alloc (by assumption) _) _)) (fun h => h)
  have B1_w1 : Blk w1 (w.heap.size + 1) 24 #[.int .i64 b.kind, .string (⟨b.text.toArray⟩ : ByteArray), .int .i64 b.cols, sb] := Touch.blk hfw1 (by first | exact Blk.new _ _ _ | exact (Blk.new _ _ _).alloc _ | exact Blk.new2 _ _ _ _ | exact ((Blk.new _ _ _).alloc _).alloc _ | exact (Blk.new2 _ _ _ _).alloc _ | exact Blk.new3 _ _ _ _ _ | assumption | exact Blk.alloc (by assumption) _ | exact (Blk.alloc (Blk.alloc (by assumption) _) _)) (fun h => h)
  have q0_0_w1 : World.cell? w1 ⟨w.heap.size, 0, none⟩ = some (.int .i64 a.kind) := Blk.cell B0_w1 0
  have q0_1_w1 : World.cell? w1 ⟨w.heap.size, 1, none⟩ = some (.string (⟨a.text.toArray⟩ : ByteArray)) := Blk.cell B0_w1 1
  have q0_2_w1 : World.cell? w1 ⟨w.heap.size, 2, none⟩ = some (.int .i64 a.cols) := Blk.cell B0_w1 2
  have q0_3_w1 : World.cell? w1 ⟨w.heap.size, 3, none⟩ = some (sa) := Blk.cell B0_w1 3
  have q1_0_w1 : World.cell? w1 ⟨w.heap.size + 1, 0, none⟩ = some (.int .i64 b.kind) := Blk.cell B1_w1 0
  have q1_1_w1 : World.cell? w1 ⟨w.heap.size + 1, 1, none⟩ = some (.string (⟨b.text.toArray⟩ : ByteArray)) := Blk.cell B1_w1 1
  have q1_2_w1 : World.cell? w1 ⟨w.heap.size + 1, 2, none⟩ = some (.int .i64 b.cols) := Blk.cell B1_w1 2
  have q1_3_w1 : World.cell? w1 ⟨w.heap.size + 1, 3, none⟩ = some (sb) := Blk.cell B1_w1 3
  clear hfw1
  go_wp2_with fail
  refine Calls.mono (few21_any a sa _ (Ra.out.fresh (by first | exact HF1.out | exact HF1.out.alloc _ | exact (HF1.out.alloc _).alloc _ | exact ((HF1.out.alloc _).alloc _).alloc _ | exact HF1.out.drewN _ | exact (HF1.out.alloc _).drewN _ | exact ((HF1.out.alloc _).alloc _).drewN _))) ?_
  rintro _ w2 ⟨rfl, hfw2⟩
  have HF2 := hid (show Fresh w1 w2 from by first | exact hfw2 | exact Touch.pre hfw2 | exact Touch.pre (Touch.pre hfw2) | exact Touch.ofN hfw2 | exact Touch.preN hfw2 | exact Touch.pre (Touch.pre (Touch.pre hfw2)))
  have B0_w2 : Blk w2 (w.heap.size) 24 #[.int .i64 a.kind, .string (⟨a.text.toArray⟩ : ByteArray), .int .i64 a.cols, sa] := Touch.blk hfw2 (by first | exact Blk.new _ _ _ | exact (Blk.new _ _ _).alloc _ | exact Blk.new2 _ _ _ _ | exact ((Blk.new _ _ _).alloc _).alloc _ | exact (Blk.new2 _ _ _ _).alloc _ | exact Blk.new3 _ _ _ _ _ | assumption | exact Blk.alloc (by assumption) _ | exact (Blk.alloc (Blk.alloc (by assumption) _) _)) (fun h => h)
  have B1_w2 : Blk w2 (w.heap.size + 1) 24 #[.int .i64 b.kind, .string (⟨b.text.toArray⟩ : ByteArray), .int .i64 b.cols, sb] := Touch.blk hfw2 (by first | exact Blk.new _ _ _ | exact (Blk.new _ _ _).alloc _ | exact Blk.new2 _ _ _ _ | exact ((Blk.new _ _ _).alloc _).alloc _ | exact (Blk.new2 _ _ _ _).alloc _ | exact Blk.new3 _ _ _ _ _ | assumption | exact Blk.alloc (by assumption) _ | exact (Blk.alloc (Blk.alloc (by assumption) _) _)) (fun h => h)
  clear q0_0_w1 q0_1_w1 q0_2_w1 q0_3_w1 B0_w1 q1_0_w1 q1_1_w1 q1_2_w1 q1_3_w1 B1_w1
  have q0_0_w2 : World.cell? w2 ⟨w.heap.size, 0, none⟩ = some (.int .i64 a.kind) := Blk.cell B0_w2 0
  have q0_1_w2 : World.cell? w2 ⟨w.heap.size, 1, none⟩ = some (.string (⟨a.text.toArray⟩ : ByteArray)) := Blk.cell B0_w2 1
  have q0_2_w2 : World.cell? w2 ⟨w.heap.size, 2, none⟩ = some (.int .i64 a.cols) := Blk.cell B0_w2 2
  have q0_3_w2 : World.cell? w2 ⟨w.heap.size, 3, none⟩ = some (sa) := Blk.cell B0_w2 3
  have q1_0_w2 : World.cell? w2 ⟨w.heap.size + 1, 0, none⟩ = some (.int .i64 b.kind) := Blk.cell B1_w2 0
  have q1_1_w2 : World.cell? w2 ⟨w.heap.size + 1, 1, none⟩ = some (.string (⟨b.text.toArray⟩ : ByteArray)) := Blk.cell B1_w2 1
  have q1_2_w2 : World.cell? w2 ⟨w.heap.size + 1, 2, none⟩ = some (.int .i64 b.cols) := Blk.cell B1_w2 2
  have q1_3_w2 : World.cell? w2 ⟨w.heap.size + 1, 3, none⟩ = some (sb) := Blk.cell B1_w2 3
  clear hfw2
  go_wp2_with fail
  refine Calls.mono (awake21_any _) ?_
  rintro _ w3 ⟨rfl, hfw3⟩
  have HF3 := hid (show Fresh w2 w3 from by first | exact hfw3 | exact Touch.pre hfw3 | exact Touch.pre (Touch.pre hfw3) | exact Touch.ofN hfw3 | exact Touch.preN hfw3 | exact Touch.pre (Touch.pre (Touch.pre hfw3)))
  have B0_w3 : Blk w3 (w.heap.size) 24 #[.int .i64 a.kind, .string (⟨a.text.toArray⟩ : ByteArray), .int .i64 a.cols, sa] := Touch.blk hfw3 (by first | exact Blk.new _ _ _ | exact (Blk.new _ _ _).alloc _ | exact Blk.new2 _ _ _ _ | exact ((Blk.new _ _ _).alloc _).alloc _ | exact (Blk.new2 _ _ _ _).alloc _ | exact Blk.new3 _ _ _ _ _ | assumption | exact Blk.alloc (by assumption) _ | exact (Blk.alloc (Blk.alloc (by assumption) _) _)) (fun h => h)
  have B1_w3 : Blk w3 (w.heap.size + 1) 24 #[.int .i64 b.kind, .string (⟨b.text.toArray⟩ : ByteArray), .int .i64 b.cols, sb] := Touch.blk hfw3 (by first | exact Blk.new _ _ _ | exact (Blk.new _ _ _).alloc _ | exact Blk.new2 _ _ _ _ | exact ((Blk.new _ _ _).alloc _).alloc _ | exact (Blk.new2 _ _ _ _).alloc _ | exact Blk.new3 _ _ _ _ _ | assumption | exact Blk.alloc (by assumption) _ | exact (Blk.alloc (Blk.alloc (by assumption) _) _)) (fun h => h)
  clear q0_0_w2 q0_1_w2 q0_2_w2 q0_3_w2 B0_w2 q1_0_w2 q1_1_w2 q1_2_w2 q1_3_w2 B1_w2
  have q0_0_w3 : World.cell? w3 ⟨w.heap.size, 0, none⟩ = some (.int .i64 a.kind) := Blk.cell B0_w3 0
  have q0_1_w3 : World.cell? w3 ⟨w.heap.size, 1, none⟩ = some (.string (⟨a.text.toArray⟩ : ByteArray)) := Blk.cell B0_w3 1
  have q0_2_w3 : World.cell? w3 ⟨w.heap.size, 2, none⟩ = some (.int .i64 a.cols) := Blk.cell B0_w3 2
  have q0_3_w3 : World.cell? w3 ⟨w.heap.size, 3, none⟩ = some (sa) := Blk.cell B0_w3 3
  have q1_0_w3 : World.cell? w3 ⟨w.heap.size + 1, 0, none⟩ = some (.int .i64 b.kind) := Blk.cell B1_w3 0
  have q1_1_w3 : World.cell? w3 ⟨w.heap.size + 1, 1, none⟩ = some (.string (⟨b.text.toArray⟩ : ByteArray)) := Blk.cell B1_w3 1
  have q1_2_w3 : World.cell? w3 ⟨w.heap.size + 1, 2, none⟩ = some (.int .i64 b.cols) := Blk.cell B1_w3 2
  have q1_3_w3 : World.cell? w3 ⟨w.heap.size + 1, 3, none⟩ = some (sb) := Blk.cell B1_w3 3
  clear hfw3
  go_wp2_with fail
  go_ret
  exact ⟨rfl, (by first | exact (HF1.out.trans (HF2.out.trans HF3.out)) | exact (HF1.out.trans (HF2.out.trans HF3.out)).alloc _ | exact ((HF1.out.trans (HF2.out.trans HF3.out)).alloc _).alloc _ | exact (((HF1.out.trans (HF2.out.trans HF3.out)).alloc _).alloc _).alloc _ | exact (HF1.out.trans (HF2.out.trans HF3.out)).drewN _ | exact ((HF1.out.trans (HF2.out.trans HF3.out)).alloc _).drewN _ | exact (((HF1.out.trans (HF2.out.trans HF3.out)).alloc _).alloc _).drewN _)⟩
set_option maxRecDepth 100000 in
set_option maxHeartbeats 1000000 in
theorem parts_big_b (a b : Nd) (sa sb : Value) (w : World) (ra : RepL w a.kids sa) (rb : RepL w b.kids sb) (h1 : decide ((Tr.count a : Int) ≤ 300) = true) (h2 : decide ((Tr.count b : Int) ≤ 300) = false) :
    Calls Try.prog 6 #[nv a sa, nv b sb] w fun e w' => e = .returned (.bool true) ∧ Fresh w w' := by
  have Ra := hid ra
  have Rb := hid rb
  clear ra rb
  go_enter Try.func6, Try.ntmps6
  go_wp2_with fail
  refine Calls.mono (awake21_any _) ?_
  rintro _ w1 ⟨rfl, hfw1⟩
  have HF1 := hid (show Fresh w w1 from by first | exact hfw1 | exact Touch.pre hfw1 | exact Touch.pre (Touch.pre hfw1) | exact Touch.ofN hfw1 | exact Touch.preN hfw1 | exact Touch.pre (Touch.pre (Touch.pre hfw1)))
  have B0_w1 : Blk w1 (w.heap.size) 24 #[.int .i64 a.kind, .string (⟨a.text.toArray⟩ : ByteArray), .int .i64 a.cols, sa] := Touch.blk hfw1 (by first | exact Blk.new _ _ _ | exact (Blk.new _ _ _).alloc _ | exact Blk.new2 _ _ _ _ | exact ((Blk.new _ _ _).alloc _).alloc _ | exact (Blk.new2 _ _ _ _).alloc _ | exact Blk.new3 _ _ _ _ _ | assumption | exact Blk.alloc (by assumption) _ | exact (Blk.alloc (Blk.alloc (by assumption) _) _)) (fun h => h)
  have B1_w1 : Blk w1 (w.heap.size + 1) 24 #[.int .i64 b.kind, .string (⟨b.text.toArray⟩ : ByteArray), .int .i64 b.cols, sb] := Touch.blk hfw1 (by first | exact Blk.new _ _ _ | exact (Blk.new _ _ _).alloc _ | exact Blk.new2 _ _ _ _ | exact ((Blk.new _ _ _).alloc _).alloc _ | exact (Blk.new2 _ _ _ _).alloc _ | exact Blk.new3 _ _ _ _ _ | assumption | exact Blk.alloc (by assumption) _ | exact (Blk.alloc (Blk.alloc (by assumption) _) _)) (fun h => h)
  have q0_0_w1 : World.cell? w1 ⟨w.heap.size, 0, none⟩ = some (.int .i64 a.kind) := Blk.cell B0_w1 0
  have q0_1_w1 : World.cell? w1 ⟨w.heap.size, 1, none⟩ = some (.string (⟨a.text.toArray⟩ : ByteArray)) := Blk.cell B0_w1 1
  have q0_2_w1 : World.cell? w1 ⟨w.heap.size, 2, none⟩ = some (.int .i64 a.cols) := Blk.cell B0_w1 2
  have q0_3_w1 : World.cell? w1 ⟨w.heap.size, 3, none⟩ = some (sa) := Blk.cell B0_w1 3
  have q1_0_w1 : World.cell? w1 ⟨w.heap.size + 1, 0, none⟩ = some (.int .i64 b.kind) := Blk.cell B1_w1 0
  have q1_1_w1 : World.cell? w1 ⟨w.heap.size + 1, 1, none⟩ = some (.string (⟨b.text.toArray⟩ : ByteArray)) := Blk.cell B1_w1 1
  have q1_2_w1 : World.cell? w1 ⟨w.heap.size + 1, 2, none⟩ = some (.int .i64 b.cols) := Blk.cell B1_w1 2
  have q1_3_w1 : World.cell? w1 ⟨w.heap.size + 1, 3, none⟩ = some (sb) := Blk.cell B1_w1 3
  clear hfw1
  go_wp2_with fail
  refine Calls.mono (few21_any a sa _ (Ra.out.fresh (by first | exact HF1.out | exact HF1.out.alloc _ | exact (HF1.out.alloc _).alloc _ | exact ((HF1.out.alloc _).alloc _).alloc _ | exact HF1.out.drewN _ | exact (HF1.out.alloc _).drewN _ | exact ((HF1.out.alloc _).alloc _).drewN _))) ?_
  rintro _ w2 ⟨rfl, hfw2⟩
  have HF2 := hid (show Fresh w1 w2 from by first | exact hfw2 | exact Touch.pre hfw2 | exact Touch.pre (Touch.pre hfw2) | exact Touch.ofN hfw2 | exact Touch.preN hfw2 | exact Touch.pre (Touch.pre (Touch.pre hfw2)))
  have B0_w2 : Blk w2 (w.heap.size) 24 #[.int .i64 a.kind, .string (⟨a.text.toArray⟩ : ByteArray), .int .i64 a.cols, sa] := Touch.blk hfw2 (by first | exact Blk.new _ _ _ | exact (Blk.new _ _ _).alloc _ | exact Blk.new2 _ _ _ _ | exact ((Blk.new _ _ _).alloc _).alloc _ | exact (Blk.new2 _ _ _ _).alloc _ | exact Blk.new3 _ _ _ _ _ | assumption | exact Blk.alloc (by assumption) _ | exact (Blk.alloc (Blk.alloc (by assumption) _) _)) (fun h => h)
  have B1_w2 : Blk w2 (w.heap.size + 1) 24 #[.int .i64 b.kind, .string (⟨b.text.toArray⟩ : ByteArray), .int .i64 b.cols, sb] := Touch.blk hfw2 (by first | exact Blk.new _ _ _ | exact (Blk.new _ _ _).alloc _ | exact Blk.new2 _ _ _ _ | exact ((Blk.new _ _ _).alloc _).alloc _ | exact (Blk.new2 _ _ _ _).alloc _ | exact Blk.new3 _ _ _ _ _ | assumption | exact Blk.alloc (by assumption) _ | exact (Blk.alloc (Blk.alloc (by assumption) _) _)) (fun h => h)
  clear q0_0_w1 q0_1_w1 q0_2_w1 q0_3_w1 B0_w1 q1_0_w1 q1_1_w1 q1_2_w1 q1_3_w1 B1_w1
  have q0_0_w2 : World.cell? w2 ⟨w.heap.size, 0, none⟩ = some (.int .i64 a.kind) := Blk.cell B0_w2 0
  have q0_1_w2 : World.cell? w2 ⟨w.heap.size, 1, none⟩ = some (.string (⟨a.text.toArray⟩ : ByteArray)) := Blk.cell B0_w2 1
  have q0_2_w2 : World.cell? w2 ⟨w.heap.size, 2, none⟩ = some (.int .i64 a.cols) := Blk.cell B0_w2 2
  have q0_3_w2 : World.cell? w2 ⟨w.heap.size, 3, none⟩ = some (sa) := Blk.cell B0_w2 3
  have q1_0_w2 : World.cell? w2 ⟨w.heap.size + 1, 0, none⟩ = some (.int .i64 b.kind) := Blk.cell B1_w2 0
  have q1_1_w2 : World.cell? w2 ⟨w.heap.size + 1, 1, none⟩ = some (.string (⟨b.text.toArray⟩ : ByteArray)) := Blk.cell B1_w2 1
  have q1_2_w2 : World.cell? w2 ⟨w.heap.size + 1, 2, none⟩ = some (.int .i64 b.cols) := Blk.cell B1_w2 2
  have q1_3_w2 : World.cell? w2 ⟨w.heap.size + 1, 3, none⟩ = some (sb) := Blk.cell B1_w2 3
  clear hfw2
  go_wp2_with fail
  refine Calls.mono (few21_any b sb _ (Rb.out.fresh (by first | exact (HF1.out.trans HF2.out) | exact (HF1.out.trans HF2.out).alloc _ | exact ((HF1.out.trans HF2.out).alloc _).alloc _ | exact (((HF1.out.trans HF2.out).alloc _).alloc _).alloc _ | exact (HF1.out.trans HF2.out).drewN _ | exact ((HF1.out.trans HF2.out).alloc _).drewN _ | exact (((HF1.out.trans HF2.out).alloc _).alloc _).drewN _))) ?_
  rintro _ w3 ⟨rfl, hfw3⟩
  have HF3 := hid (show Fresh w2 w3 from by first | exact hfw3 | exact Touch.pre hfw3 | exact Touch.pre (Touch.pre hfw3) | exact Touch.ofN hfw3 | exact Touch.preN hfw3 | exact Touch.pre (Touch.pre (Touch.pre hfw3)))
  have B0_w3 : Blk w3 (w.heap.size) 24 #[.int .i64 a.kind, .string (⟨a.text.toArray⟩ : ByteArray), .int .i64 a.cols, sa] := Touch.blk hfw3 (by first | exact Blk.new _ _ _ | exact (Blk.new _ _ _).alloc _ | exact Blk.new2 _ _ _ _ | exact ((Blk.new _ _ _).alloc _).alloc _ | exact (Blk.new2 _ _ _ _).alloc _ | exact Blk.new3 _ _ _ _ _ | assumption | exact Blk.alloc (by assumption) _ | exact (Blk.alloc (Blk.alloc (by assumption) _) _)) (fun h => h)
  have B1_w3 : Blk w3 (w.heap.size + 1) 24 #[.int .i64 b.kind, .string (⟨b.text.toArray⟩ : ByteArray), .int .i64 b.cols, sb] := Touch.blk hfw3 (by first | exact Blk.new _ _ _ | exact (Blk.new _ _ _).alloc _ | exact Blk.new2 _ _ _ _ | exact ((Blk.new _ _ _).alloc _).alloc _ | exact (Blk.new2 _ _ _ _).alloc _ | exact Blk.new3 _ _ _ _ _ | assumption | exact Blk.alloc (by assumption) _ | exact (Blk.alloc (Blk.alloc (by assumption) _) _)) (fun h => h)
  clear q0_0_w2 q0_1_w2 q0_2_w2 q0_3_w2 B0_w2 q1_0_w2 q1_1_w2 q1_2_w2 q1_3_w2 B1_w2
  have q0_0_w3 : World.cell? w3 ⟨w.heap.size, 0, none⟩ = some (.int .i64 a.kind) := Blk.cell B0_w3 0
  have q0_1_w3 : World.cell? w3 ⟨w.heap.size, 1, none⟩ = some (.string (⟨a.text.toArray⟩ : ByteArray)) := Blk.cell B0_w3 1
  have q0_2_w3 : World.cell? w3 ⟨w.heap.size, 2, none⟩ = some (.int .i64 a.cols) := Blk.cell B0_w3 2
  have q0_3_w3 : World.cell? w3 ⟨w.heap.size, 3, none⟩ = some (sa) := Blk.cell B0_w3 3
  have q1_0_w3 : World.cell? w3 ⟨w.heap.size + 1, 0, none⟩ = some (.int .i64 b.kind) := Blk.cell B1_w3 0
  have q1_1_w3 : World.cell? w3 ⟨w.heap.size + 1, 1, none⟩ = some (.string (⟨b.text.toArray⟩ : ByteArray)) := Blk.cell B1_w3 1
  have q1_2_w3 : World.cell? w3 ⟨w.heap.size + 1, 2, none⟩ = some (.int .i64 b.cols) := Blk.cell B1_w3 2
  have q1_3_w3 : World.cell? w3 ⟨w.heap.size + 1, 3, none⟩ = some (sb) := Blk.cell B1_w3 3
  clear hfw3
  go_wp2_with fail
  refine Calls.mono (awake21_any _) ?_
  rintro _ w4 ⟨rfl, hfw4⟩
  have HF4 := hid (show Fresh w3 w4 from by first | exact hfw4 | exact Touch.pre hfw4 | exact Touch.pre (Touch.pre hfw4) | exact Touch.ofN hfw4 | exact Touch.preN hfw4 | exact Touch.pre (Touch.pre (Touch.pre hfw4)))
  have B0_w4 : Blk w4 (w.heap.size) 24 #[.int .i64 a.kind, .string (⟨a.text.toArray⟩ : ByteArray), .int .i64 a.cols, sa] := Touch.blk hfw4 (by first | exact Blk.new _ _ _ | exact (Blk.new _ _ _).alloc _ | exact Blk.new2 _ _ _ _ | exact ((Blk.new _ _ _).alloc _).alloc _ | exact (Blk.new2 _ _ _ _).alloc _ | exact Blk.new3 _ _ _ _ _ | assumption | exact Blk.alloc (by assumption) _ | exact (Blk.alloc (Blk.alloc (by assumption) _) _)) (fun h => h)
  have B1_w4 : Blk w4 (w.heap.size + 1) 24 #[.int .i64 b.kind, .string (⟨b.text.toArray⟩ : ByteArray), .int .i64 b.cols, sb] := Touch.blk hfw4 (by first | exact Blk.new _ _ _ | exact (Blk.new _ _ _).alloc _ | exact Blk.new2 _ _ _ _ | exact ((Blk.new _ _ _).alloc _).alloc _ | exact (Blk.new2 _ _ _ _).alloc _ | exact Blk.new3 _ _ _ _ _ | assumption | exact Blk.alloc (by assumption) _ | exact (Blk.alloc (Blk.alloc (by assumption) _) _)) (fun h => h)
  clear q0_0_w3 q0_1_w3 q0_2_w3 q0_3_w3 B0_w3 q1_0_w3 q1_1_w3 q1_2_w3 q1_3_w3 B1_w3
  have q0_0_w4 : World.cell? w4 ⟨w.heap.size, 0, none⟩ = some (.int .i64 a.kind) := Blk.cell B0_w4 0
  have q0_1_w4 : World.cell? w4 ⟨w.heap.size, 1, none⟩ = some (.string (⟨a.text.toArray⟩ : ByteArray)) := Blk.cell B0_w4 1
  have q0_2_w4 : World.cell? w4 ⟨w.heap.size, 2, none⟩ = some (.int .i64 a.cols) := Blk.cell B0_w4 2
  have q0_3_w4 : World.cell? w4 ⟨w.heap.size, 3, none⟩ = some (sa) := Blk.cell B0_w4 3
  have q1_0_w4 : World.cell? w4 ⟨w.heap.size + 1, 0, none⟩ = some (.int .i64 b.kind) := Blk.cell B1_w4 0
  have q1_1_w4 : World.cell? w4 ⟨w.heap.size + 1, 1, none⟩ = some (.string (⟨b.text.toArray⟩ : ByteArray)) := Blk.cell B1_w4 1
  have q1_2_w4 : World.cell? w4 ⟨w.heap.size + 1, 2, none⟩ = some (.int .i64 b.cols) := Blk.cell B1_w4 2
  have q1_3_w4 : World.cell? w4 ⟨w.heap.size + 1, 3, none⟩ = some (sb) := Blk.cell B1_w4 3
  clear hfw4
  go_wp2_with fail
  go_ret
  exact ⟨rfl, (by first | exact (HF1.out.trans (HF2.out.trans (HF3.out.trans HF4.out))) | exact (HF1.out.trans (HF2.out.trans (HF3.out.trans HF4.out))).alloc _ | exact ((HF1.out.trans (HF2.out.trans (HF3.out.trans HF4.out))).alloc _).alloc _ | exact (((HF1.out.trans (HF2.out.trans (HF3.out.trans HF4.out))).alloc _).alloc _).alloc _ | exact (HF1.out.trans (HF2.out.trans (HF3.out.trans HF4.out))).drewN _ | exact ((HF1.out.trans (HF2.out.trans (HF3.out.trans HF4.out))).alloc _).drewN _ | exact (((HF1.out.trans (HF2.out.trans (HF3.out.trans HF4.out))).alloc _).alloc _).drewN _)⟩
theorem parts_all (a b : Nd) (sa sb : Value) (w : World) (ra : RepL w a.kids sa) (rb : RepL w b.kids sb) (ta : a.text.length ≤ maxLen) (tb : b.text.length ≤ maxLen) :
    Calls Try.prog 6 #[nv a sa, nv b sb] w fun e w' => e = .returned (.bool true) ∧ Fresh w w' := by
  by_cases h1 : (Tr.count a : Int) ≤ 300
  · by_cases h2 : (Tr.count b : Int) ≤ 300
    · exact parts_any a b sa sb w ra rb ta tb h1 h2
    · exact parts_big_b a b sa sb w ra rb (by simpa using h1) (by simpa using h2)
  · exact parts_big_a a b sa sb w ra rb (by simpa using h1)

set_option maxRecDepth 100000 in
theorem printerParts_lifted (os : Os) (started : os.Started) (H : Type) (enc : TypeId × Value → H) :
    ReturnsInHanded {} Try.checked os 6 .any (Rows.printerPartsSpec.pre6 enc Try.prog Try.f6 Rows.printerPartsRow.domain false) (Rows.printerPartsSpec.post enc Try.prog Try.f6 false true false false) := by
  refine returnsInHanded_of_change (C := Try.checked) Try.ownKnob started (by kernel_rfl) Try.func6
    (ChangeSpec.witness6 (enc := enc) (C := Try.checked) false ⟨#[], #[.agg #[.int .i64 0, .string ⟨#[]⟩, .int .i64 0, .slice none 0 0], .agg #[.int .i64 0, .string ⟨#[]⟩, .int .i64 0, .slice none 0 0]], []⟩ 8 (by kernel_rfl) (by kernel_rfl) (by kernel_rfl) (by kernel_rfl)) ?_
  intro W base args ds gs before hval0 hW hcnd _
  have hval : ∀ (j : Nat) t v, Try.f6.params[j]? = some t → args[j]? = some v → Value.okWide Try.prog W .any base t v := hval0
  have hW' := hW
  obtain ⟨p, q, hA0, hV, rfl, hfz, hnd⟩ := hW
  have hA : DataW.TrodAll enc Try.prog W 0 (fun _ => true) true Try.f6.params.toList args.toList ds p := hA0
  rw [Try.params6] at hA hval
  obtain ⟨v0, v1, d0, d1, p0, p1, rfl, rfl, rfl, h0, h1⟩ := trodAll_two hA
  obtain ⟨rfl, rfl⟩ := trodVars_none hV
  obtain ⟨a, ⟨sa, rfl, ra⟩, ta⟩ := open_node (hval 0 24 v0 rfl rfl) h0
  obtain ⟨b, ⟨sb, rfl, rb⟩, tb⟩ := open_node (hval 1 24 v1 rfl rfl) h1
  refine (parts_all a b sa sb W ra rb ta tb).mono fun e W' ⟨he, hw⟩ => ?_
  exact ⟨_, he, post_true Try.laidOut Try.underlying4 (by kernel_rfl) (by kernel_rfl) rfl rfl hW' hw⟩

theorem PrinterParts_holds : Rows.PrinterPartsSaid :=
  OpenClaim.holds_of_wide 6 Try.f6 rfl rfl rfl rfl rfl rfl rfl ⟨rfl, rfl, rfl, rfl, rfl⟩ rfl rfl rfl rfl rfl (by kernel_rfl) Try.func6 (by kernel_rfl)
    (of_decide_eq_true (by kernel_rfl)) (by unfold Func.isWrapper; first | (rw [if_pos (by decide +kernel)]; kernel_rfl) | (rw [if_neg (by decide +kernel)]; exact ⟨rfl, rfl⟩))
    (fun os started H enc _ => printerParts_lifted os started H enc)
end Go.Proofs.Ytilgpmpiidccjaa
