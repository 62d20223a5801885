/- The statement PrinterDifferent: for all trees the law returns true, and the trees read as they did. No condition. -/
import Derived.Test.YtilgpmpiidccjaaPrV
import Derived.Test.YtilgpmpiidccjaaRow
namespace Go.Proofs.Ytilgpmpiidccjaa
open Go.ChangeShapes Go.WideShapes Go.ChangeAt Go.RowKit
open Tr (Nd)

/-- The plain law. -/
theorem different (a b : Nd) (ha : printE a = 0) (hb : printE b = 0) : (printS a == printS b) = Tr.eqN a b := by
  have va : Tr.valid a = true := by
    unfold printE at ha
    split at ha
    · assumption
    · cases ha
  have vb : Tr.valid b = true := by
    unfold printE at hb
    split at hb
    · assumption
    · cases hb
  unfold printS
  rw [if_pos va, if_pos vb, Bool.eq_iff_iff, beq_iff_eq, Tr.eqN_iff]
  exact Tr.text_tells a b (Tr.valid_row a va) (Tr.valid_row b vb)

set_option maxRecDepth 100000 in
set_option maxHeartbeats 2000000 in
theorem different_any (a b : Nd) (sa sb : Value) (w : World) (ra : RepL w a.kids sa) (rb : RepL w b.kids sb) (ta : a.text.length ≤ maxLen) (tb : b.text.length ≤ maxLen) :
    Calls Try.prog 3 #[nv a sa, nv b sb] w fun e w' => e = .returned (.bool true) ∧ Fresh w w' := by
  have Ra := hid ra
  have Rb := hid rb
  have Da := hid (fun ha hb => different a b ha hb)
  have Pa := hid (fun (w : World) (hr : RepL w a.kids sa) (hc : (Tr.count a : Int) ≤ 300) => print_any a sa w hr ta (by omega))
  have Pb := hid (fun (w : World) (hr : RepL w b.kids sb) (hc : (Tr.count b : Int) ≤ 300) => print_any b sb w hr tb (by omega))
  clear ra rb ta tb
  go_enter Try.func3, Try.ntmps3
  go_wp2_with fail
  refine Calls.mono (awake21_any _) ?_
  rintro _ w1 ⟨rfl, hfw1⟩
  have HF1 := hid (show Fresh w w1 from by first | exact hfw1 | exact Touch.pre hfw1 | exact Touch.pre (Touch.pre hfw1) | exact Touch.ofN hfw1 | exact Touch.preN hfw1 | exact Touch.pre (Touch.pre (Touch.pre hfw1)))
  have B0_w1 : Blk w1 (w.heap.size) 24 #[.int .i64 a.kind, .string (⟨a.text.toArray⟩ : ByteArray), .int .i64 a.cols, sa] := Touch.blk hfw1 (by first | exact Blk.new _ _ _ | exact (Blk.new _ _ _).alloc _ | exact Blk.new2 _ _ _ _ | exact ((Blk.new _ _ _).alloc _).alloc _ | exact (Blk.new2 _ _ _ _).alloc _ | exact Blk.new3 _ _ _ _ _ | assumption | exact Blk.alloc (by assumption) _ | exact (Blk.alloc (Blk.alloc (by assumption) _) _)) (fun h => h)
  have B1_w1 : Blk w1 (w.heap.size + 1) 24 #[.int .i64 b.kind, .string (⟨b.text.toArray⟩ : ByteArray), .int .i64 b.cols, sb] := Touch.blk hfw1 (by first | exact Blk.new _ _ _ | exact (Blk.new _ _ _).alloc _ | exact Blk.new2 _ _ _ _ | exact ((Blk.new _ _ _).alloc _).alloc _ | exact (Blk.new2 _ _ _ _).alloc _ | exact Blk.new3 _ _ _ _ _ | assumption | exact Blk.alloc (by assumption) _ | exact (Blk.alloc (Blk.alloc (by assumption) _) _)) (fun h => h)
  have q0_0_w1 : World.cell? w1 ⟨w.heap.size, 0, none⟩ = some (.int .i64 a.kind) := Blk.cell B0_w1 0
  have q0_1_w1 : World.cell? w1 ⟨w.heap.size, 1, none⟩ = some (.string (⟨a.text.toArray⟩ : ByteArray)) := Blk.cell B0_w1 1
  have q0_2_w1 : World.cell? w1 ⟨w.heap.size, 2, none⟩ = some (.int .i64 a.cols) := Blk.cell B0_w1 2
  have q0_3_w1 : World.cell? w1 ⟨w.heap.size, 3, none⟩ = some (sa) := Blk.cell B0_w1 3
  have q1_0_w1 : World.cell? w1 ⟨w.heap.size + 1, 0, none⟩ = some (.int .i64 b.kind) := Blk.cell B1_w1 0
  have q1_1_w1 : World.cell? w1 ⟨w.heap.size + 1, 1, none⟩ = some (.string (⟨b.text.toArray⟩ : ByteArray)) := Blk.cell B1_w1 1
  have q1_2_w1 : World.cell? w1 ⟨w.heap.size + 1, 2, none⟩ = some (.int .i64 b.cols) := Blk.cell B1_w1 2
  have q1_3_w1 : World.cell? w1 ⟨w.heap.size + 1, 3, none⟩ = some (sb) := Blk.cell B1_w1 3
  clear hfw1
  go_wp2_with fail
  refine Calls.mono (few21_any a sa _ (Ra.out.fresh (by first | exact HF1.out | exact HF1.out.alloc _ | exact (HF1.out.alloc _).alloc _ | exact ((HF1.out.alloc _).alloc _).alloc _ | exact HF1.out.drewN _ | exact (HF1.out.alloc _).drewN _ | exact ((HF1.out.alloc _).alloc _).drewN _))) ?_
  rintro _ w2 ⟨rfl, hfw2⟩
  have HF2 := hid (show Fresh w1 w2 from by first | exact hfw2 | exact Touch.pre hfw2 | exact Touch.pre (Touch.pre hfw2) | exact Touch.ofN hfw2 | exact Touch.preN hfw2 | exact Touch.pre (Touch.pre (Touch.pre hfw2)))
  have B0_w2 : Blk w2 (w.heap.size) 24 #[.int .i64 a.kind, .string (⟨a.text.toArray⟩ : ByteArray), .int .i64 a.cols, sa] := Touch.blk hfw2 (by first | exact Blk.new _ _ _ | exact (Blk.new _ _ _).alloc _ | exact Blk.new2 _ _ _ _ | exact ((Blk.new _ _ _).alloc _).alloc _ | exact (Blk.new2 _ _ _ _).alloc _ | exact Blk.new3 _ _ _ _ _ | assumption | exact Blk.alloc (by assumption) _ | exact (Blk.alloc (Blk.alloc (by assumption) _) _)) (fun h => h)
  have B1_w2 : Blk w2 (w.heap.size + 1) 24 #[.int .i64 b.kind, .string (⟨b.text.toArray⟩ : ByteArray), .int .i64 b.cols, sb] := Touch.blk hfw2 (by first | exact Blk.new _ _ _ | exact (Blk.new _ _ _).alloc _ | exact Blk.new2 _ _ _ _ | exact ((Blk.new _ _ _).alloc _).alloc _ | exact (Blk.new2 _ _ _ _).alloc _ | exact Blk.new3 _ _ _ _ _ | assumption | exact Blk.alloc (by assumption) _ | exact (Blk.alloc (Blk.alloc (by assumption) _) _)) (fun h => h)
  clear q0_0_w1 q0_1_w1 q0_2_w1 q0_3_w1 B0_w1 q1_0_w1 q1_1_w1 q1_2_w1 q1_3_w1 B1_w1
  have q0_0_w2 : World.cell? w2 ⟨w.heap.size, 0, none⟩ = some (.int .i64 a.kind) := Blk.cell B0_w2 0
  have q0_1_w2 : World.cell? w2 ⟨w.heap.size, 1, none⟩ = some (.string (⟨a.text.toArray⟩ : ByteArray)) := Blk.cell B0_w2 1
  have q0_2_w2 : World.cell? w2 ⟨w.heap.size, 2, none⟩ = some (.int .i64 a.cols) := Blk.cell B0_w2 2
  have q0_3_w2 : World.cell? w2 ⟨w.heap.size, 3, none⟩ = some (sa) := Blk.cell B0_w2 3
  have q1_0_w2 : World.cell? w2 ⟨w.heap.size + 1, 0, none⟩ = some (.int .i64 b.kind) := Blk.cell B1_w2 0
  have q1_1_w2 : World.cell? w2 ⟨w.heap.size + 1, 1, none⟩ = some (.string (⟨b.text.toArray⟩ : ByteArray)) := Blk.cell B1_w2 1
  have q1_2_w2 : World.cell? w2 ⟨w.heap.size + 1, 2, none⟩ = some (.int .i64 b.cols) := Blk.cell B1_w2 2
  have q1_3_w2 : World.cell? w2 ⟨w.heap.size + 1, 3, none⟩ = some (sb) := Blk.cell B1_w2 3
  clear hfw2
  cases h1 : decide ((Tr.count a : Int) ≤ 300) with
  | false =>
    go_wp2_with fail
    refine Calls.mono (awake21_any _) ?_
    rintro _ w3 ⟨rfl, hfw3⟩
    have HF3 := hid (show Fresh w2 w3 from by first | exact hfw3 | exact Touch.pre hfw3 | exact Touch.pre (Touch.pre hfw3) | exact Touch.ofN hfw3 | exact Touch.preN hfw3 | exact Touch.pre (Touch.pre (Touch.pre hfw3)))
    have B0_w3 : Blk w3 (w.heap.size) 24 #[.int .i64 a.kind, .string (⟨a.text.toArray⟩ : ByteArray), .int .i64 a.cols, sa] := Touch.blk hfw3 (by first | exact Blk.new _ _ _ | exact (Blk.new _ _ _).alloc _ | exact Blk.new2 _ _ _ _ | exact ((Blk.new _ _ _).alloc _).alloc _ | exact (Blk.new2 _ _ _ _).alloc _ | exact Blk.new3 _ _ _ _ _ | assumption | exact Blk.alloc (by assumption) _ | exact (Blk.alloc (Blk.alloc (by assumption) _) _)) (fun h => h)
    have B1_w3 : Blk w3 (w.heap.size + 1) 24 #[.int .i64 b.kind, .string (⟨b.text.toArray⟩ : ByteArray), .int .i64 b.cols, sb] := Touch.blk hfw3 (by first | exact Blk.new _ _ _ | exact (Blk.new _ _ _).alloc _ | exact Blk.new2 _ _ _ _ | exact ((Blk.new _ _ _).alloc _).alloc _ | exact (Blk.new2 _ _ _ _).alloc _ | exact Blk.new3 _ _ _ _ _ | assumption | exact Blk.alloc (by assumption) _ | exact (Blk.alloc (Blk.alloc (by assumption) _) _)) (fun h => h)
    clear q0_0_w2 q0_1_w2 q0_2_w2 q0_3_w2 B0_w2 q1_0_w2 q1_1_w2 q1_2_w2 q1_3_w2 B1_w2
    have q0_0_w3 : World.cell? w3 ⟨w.heap.size, 0, none⟩ = some (.int .i64 a.kind) := Blk.cell B0_w3 0
    have q0_1_w3 : World.cell? w3 ⟨w.heap.size, 1, none⟩ = some (.string (⟨a.text.toArray⟩ : ByteArray)) := Blk.cell B0_w3 1
    have q0_2_w3 : World.cell? w3 ⟨w.heap.size, 2, none⟩ = some (.int .i64 a.cols) := Blk.cell B0_w3 2
    have q0_3_w3 : World.cell? w3 ⟨w.heap.size, 3, none⟩ = some (sa) := Blk.cell B0_w3 3
    have q1_0_w3 : World.cell? w3 ⟨w.heap.size + 1, 0, none⟩ = some (.int .i64 b.kind) := Blk.cell B1_w3 0
    have q1_1_w3 : World.cell? w3 ⟨w.heap.size + 1, 1, none⟩ = some (.string (⟨b.text.toArray⟩ : ByteArray)) := Blk.cell B1_w3 1
    have q1_2_w3 : World.cell? w3 ⟨w.heap.size + 1, 2, none⟩ = some (.int .i64 b.cols) := Blk.cell B1_w3 2
    have q1_3_w3 : World.cell? w3 ⟨w.heap.size + 1, 3, none⟩ = some (sb) := Blk.cell B1_w3 3
    clear hfw3
    go_wp2_with fail
    go_ret
    exact ⟨ret_bool' _ _ (by first | rfl | (have hD := Da.out; simp_all)), (by first | exact (HF1.out.trans (HF2.out.trans HF3.out)) | exact (HF1.out.trans (HF2.out.trans HF3.out)).alloc _ | exact ((HF1.out.trans (HF2.out.trans HF3.out)).alloc _).alloc _ | exact (((HF1.out.trans (HF2.out.trans HF3.out)).alloc _).alloc _).alloc _ | exact (HF1.out.trans (HF2.out.trans HF3.out)).drewN _ | exact ((HF1.out.trans (HF2.out.trans HF3.out)).alloc _).drewN _ | exact (((HF1.out.trans (HF2.out.trans HF3.out)).alloc _).alloc _).drewN _)⟩
  | true =>
    have h1p := of_decide_eq_true h1
    go_wp2_with fail
    refine Calls.mono (few21_any b sb _ (Rb.out.fresh (by first | exact (HF1.out.trans HF2.out) | exact (HF1.out.trans HF2.out).alloc _ | exact ((HF1.out.trans HF2.out).alloc _).alloc _ | exact (((HF1.out.trans HF2.out).alloc _).alloc _).alloc _ | exact (HF1.out.trans HF2.out).drewN _ | exact ((HF1.out.trans HF2.out).alloc _).drewN _ | exact (((HF1.out.trans HF2.out).alloc _).alloc _).drewN _))) ?_
    rintro _ w4 ⟨rfl, hfw4⟩
    have HF4 := hid (show Fresh w2 w4 from by first | exact hfw4 | exact Touch.pre hfw4 | exact Touch.pre (Touch.pre hfw4) | exact Touch.ofN hfw4 | exact Touch.preN hfw4 | exact Touch.pre (Touch.pre (Touch.pre hfw4)))
    have B0_w4 : Blk w4 (w.heap.size) 24 #[.int .i64 a.kind, .string (⟨a.text.toArray⟩ : ByteArray), .int .i64 a.cols, sa] := Touch.blk hfw4 (by first | exact Blk.new _ _ _ | exact (Blk.new _ _ _).alloc _ | exact Blk.new2 _ _ _ _ | exact ((Blk.new _ _ _).alloc _).alloc _ | exact (Blk.new2 _ _ _ _).alloc _ | exact Blk.new3 _ _ _ _ _ | assumption | exact Blk.alloc (by assumption) _ | exact (Blk.alloc (Blk.alloc (by assumption) _) _)) (fun h => h)
    have B1_w4 : Blk w4 (w.heap.size + 1) 24 #[.int .i64 b.kind, .string (⟨b.text.toArray⟩ : ByteArray), .int .i64 b.cols, sb] := Touch.blk hfw4 (by first | exact Blk.new _ _ _ | exact (Blk.new _ _ _).alloc _ | exact Blk.new2 _ _ _ _ | exact ((Blk.new _ _ _).alloc _).alloc _ | exact (Blk.new2 _ _ _ _).alloc _ | exact Blk.new3 _ _ _ _ _ | assumption | exact Blk.alloc (by assumption) _ | exact (Blk.alloc (Blk.alloc (by assumption) _) _)) (fun h => h)
    clear q0_0_w2 q0_1_w2 q0_2_w2 q0_3_w2 B0_w2 q1_0_w2 q1_1_w2 q1_2_w2 q1_3_w2 B1_w2
    have q0_0_w4 : World.cell? w4 ⟨w.heap.size, 0, none⟩ = some (.int .i64 a.kind) := Blk.cell B0_w4 0
    have q0_1_w4 : World.cell? w4 ⟨w.heap.size, 1, none⟩ = some (.string (⟨a.text.toArray⟩ : ByteArray)) := Blk.cell B0_w4 1
    have q0_2_w4 : World.cell? w4 ⟨w.heap.size, 2, none⟩ = some (.int .i64 a.cols) := Blk.cell B0_w4 2
    have q0_3_w4 : World.cell? w4 ⟨w.heap.size, 3, none⟩ = some (sa) := Blk.cell B0_w4 3
    have q1_0_w4 : World.cell? w4 ⟨w.heap.size + 1, 0, none⟩ = some (.int .i64 b.kind) := Blk.cell B1_w4 0
    have q1_1_w4 : World.cell? w4 ⟨w.heap.size + 1, 1, none⟩ = some (.string (⟨b.text.toArray⟩ : ByteArray)) := Blk.cell B1_w4 1
    have q1_2_w4 : World.cell? w4 ⟨w.heap.size + 1, 2, none⟩ = some (.int .i64 b.cols) := Blk.cell B1_w4 2
    have q1_3_w4 : World.cell? w4 ⟨w.heap.size + 1, 3, none⟩ = some (sb) := Blk.cell B1_w4 3
    clear hfw4
    cases h2 : decide ((Tr.count b : Int) ≤ 300) with
    | false =>
      go_wp2_with fail
      refine Calls.mono (awake21_any _) ?_
      rintro _ w5 ⟨rfl, hfw5⟩
      have HF5 := hid (show Fresh w4 w5 from by first | exact hfw5 | exact Touch.pre hfw5 | exact Touch.pre (Touch.pre hfw5) | exact Touch.ofN hfw5 | exact Touch.preN hfw5 | exact Touch.pre (Touch.pre (Touch.pre hfw5)))
      have B0_w5 : Blk w5 (w.heap.size) 24 #[.int .i64 a.kind, .string (⟨a.text.toArray⟩ : ByteArray), .int .i64 a.cols, sa] := Touch.blk hfw5 (by first | exact Blk.new _ _ _ | exact (Blk.new _ _ _).alloc _ | exact Blk.new2 _ _ _ _ | exact ((Blk.new _ _ _).alloc _).alloc _ | exact (Blk.new2 _ _ _ _).alloc _ | exact Blk.new3 _ _ _ _ _ | assumption | exact Blk.alloc (by assumption) _ | exact (Blk.alloc (Blk.alloc (by assumption) _) _)) (fun h => h)
      have B1_w5 : Blk w5 (w.heap.size + 1) 24 #[.int .i64 b.kind, .string (⟨b.text.toArray⟩ : ByteArray), .int .i64 b.cols, sb] := Touch.blk hfw5 (by first | exact Blk.new _ _ _ | exact (Blk.new _ _ _).alloc _ | exact Blk.new2 _ _ _ _ | exact ((Blk.new _ _ _).alloc _).alloc _ | exact (Blk.new2 _ _ _ _).alloc _ | exact Blk.new3 _ _ _ _ _ | assumption | exact Blk.alloc (by assumption) _ | exact (Blk.alloc (Blk.alloc (by assumption) _) _)) (fun h => h)
      clear q0_0_w4 q0_1_w4 q0_2_w4 q0_3_w4 B0_w4 q1_0_w4 q1_1_w4 q1_2_w4 q1_3_w4 B1_w4
      have q0_0_w5 : World.cell? w5 ⟨w.heap.size, 0, none⟩ = some (.int .i64 a.kind) := Blk.cell B0_w5 0
      have q0_1_w5 : World.cell? w5 ⟨w.heap.size, 1, none⟩ = some (.string (⟨a.text.toArray⟩ : ByteArray)) := Blk.cell B0_w5 1
      have q0_2_w5 : World.cell? w5 ⟨w.heap.size, 2, none⟩ = some (.int .i64 a.cols) := Blk.cell B0_w5 2
      have q0_3_w5 : World.cell? w5 ⟨w.heap.size, 3, none⟩ = some (sa) := Blk.cell B0_w5 3
      have q1_0_w5 : World.cell? w5 ⟨w.heap.size + 1, 0, none⟩ = some (.int .i64 b.kind) := Blk.cell B1_w5 0
      have q1_1_w5 : World.cell? w5 ⟨w.heap.size + 1, 1, none⟩ = some (.string (⟨b.text.toArray⟩ : ByteArray)) := Blk.cell B1_w5 1
      have q1_2_w5 : World.cell? w5 ⟨w.heap.size + 1, 2, none⟩ = some (.int .i64 b.cols) := Blk.cell B1_w5 2
      have q1_3_w5 : World.cell? w5 ⟨w.heap.size + 1, 3, none⟩ = some (sb) := Blk.cell B1_w5 3
      clear hfw5
      go_wp2_with fail
      go_ret
      exact ⟨ret_bool' _ _ (by first | rfl | (have hD := Da.out; simp_all)), (by first | exact (HF1.out.trans (HF2.out.trans (HF4.out.trans HF5.out))) | exact (HF1.out.trans (HF2.out.trans (HF4.out.trans HF5.out))).alloc _ | exact ((HF1.out.trans (HF2.out.trans (HF4.out.trans HF5.out))).alloc _).alloc _ | exact (((HF1.out.trans (HF2.out.trans (HF4.out.trans HF5.out))).alloc _).alloc _).alloc _ | exact (HF1.out.trans (HF2.out.trans (HF4.out.trans HF5.out))).drewN _ | exact ((HF1.out.trans (HF2.out.trans (HF4.out.trans HF5.out))).alloc _).drewN _ | exact (((HF1.out.trans (HF2.out.trans (HF4.out.trans HF5.out))).alloc _).alloc _).drewN _)⟩
    | true =>
      have h2p := of_decide_eq_true h2
      go_wp2_with fail
      refine Calls.mono (Pa.out _ (Ra.out.fresh (by first | exact (HF1.out.trans (HF2.out.trans HF4.out)) | exact (HF1.out.trans (HF2.out.trans HF4.out)).alloc _ | exact ((HF1.out.trans (HF2.out.trans HF4.out)).alloc _).alloc _ | exact (((HF1.out.trans (HF2.out.trans HF4.out)).alloc _).alloc _).alloc _ | exact (HF1.out.trans (HF2.out.trans HF4.out)).drewN _ | exact ((HF1.out.trans (HF2.out.trans HF4.out)).alloc _).drewN _ | exact (((HF1.out.trans (HF2.out.trans HF4.out)).alloc _).alloc _).drewN _)) (by assumption)) ?_
      rintro _ w6 ⟨rfl, hfw6⟩
      have HF6 := hid (show Fresh w4 w6 from by first | exact hfw6 | exact Touch.pre hfw6 | exact Touch.pre (Touch.pre hfw6) | exact Touch.ofN hfw6 | exact Touch.preN hfw6 | exact Touch.pre (Touch.pre (Touch.pre hfw6)))
      have B0_w6 : Blk w6 (w.heap.size) 24 #[.int .i64 a.kind, .string (⟨a.text.toArray⟩ : ByteArray), .int .i64 a.cols, sa] := Touch.blk hfw6 (by first | exact Blk.new _ _ _ | exact (Blk.new _ _ _).alloc _ | exact Blk.new2 _ _ _ _ | exact ((Blk.new _ _ _).alloc _).alloc _ | exact (Blk.new2 _ _ _ _).alloc _ | exact Blk.new3 _ _ _ _ _ | assumption | exact Blk.alloc (by assumption) _ | exact (Blk.alloc (Blk.alloc (by assumption) _) _)) (fun h => h)
      have B1_w6 : Blk w6 (w.heap.size + 1) 24 #[.int .i64 b.kind, .string (⟨b.text.toArray⟩ : ByteArray), .int .i64 b.cols, sb] := Touch.blk hfw6 (by first | exact Blk.new _ _ _ | exact (Blk.new _ _ _).alloc _ | exact Blk.new2 _ _ _ _ | exact ((Blk.new _ _ _).alloc _).alloc _ | exact (Blk.new2 _ _ _ _).alloc _ | exact Blk.new3 _ _ _ _ _ | assumption | exact Blk.alloc (by assumption) _ | exact (Blk.alloc (Blk.alloc (by assumption) _) _)) (fun h => h)
      clear q0_0_w4 q0_1_w4 q0_2_w4 q0_3_w4 B0_w4 q1_0_w4 q1_1_w4 q1_2_w4 q1_3_w4 B1_w4
      have q0_0_w6 : World.cell? w6 ⟨w.heap.size, 0, none⟩ = some (.int .i64 a.kind) := Blk.cell B0_w6 0
      have q0_1_w6 : World.cell? w6 ⟨w.heap.size, 1, none⟩ = some (.string (⟨a.text.toArray⟩ : ByteArray)) := Blk.cell B0_w6 1
      have q0_2_w6 : World.cell? w6 ⟨w.heap.size, 2, none⟩ = some (.int .i64 a.cols) := Blk.cell B0_w6 2
      have q0_3_w6 : World.cell? w6 ⟨w.heap.size, 3, none⟩ = some (sa) := Blk.cell B0_w6 3
      have q1_0_w6 : World.cell? w6 ⟨w.heap.size + 1, 0, none⟩ = some (.int .i64 b.kind) := Blk.cell B1_w6 0
      have q1_1_w6 : World.cell? w6 ⟨w.heap.size + 1, 1, none⟩ = some (.string (⟨b.text.toArray⟩ : ByteArray)) := Blk.cell B1_w6 1
      have q1_2_w6 : World.cell? w6 ⟨w.heap.size + 1, 2, none⟩ = some (.int .i64 b.cols) := Blk.cell B1_w6 2
      have q1_3_w6 : World.cell? w6 ⟨w.heap.size + 1, 3, none⟩ = some (sb) := Blk.cell B1_w6 3
      clear hfw6
      go_wp2_with fail
      refine Calls.mono (Pb.out _ (Rb.out.fresh (by first | exact (HF1.out.trans (HF2.out.trans (HF4.out.trans HF6.out))) | exact (HF1.out.trans (HF2.out.trans (HF4.out.trans HF6.out))).alloc _ | exact ((HF1.out.trans (HF2.out.trans (HF4.out.trans HF6.out))).alloc _).alloc _ | exact (((HF1.out.trans (HF2.out.trans (HF4.out.trans HF6.out))).alloc _).alloc _).alloc _ | exact (HF1.out.trans (HF2.out.trans (HF4.out.trans HF6.out))).drewN _ | exact ((HF1.out.trans (HF2.out.trans (HF4.out.trans HF6.out))).alloc _).drewN _ | exact (((HF1.out.trans (HF2.out.trans (HF4.out.trans HF6.out))).alloc _).alloc _).drewN _)) (by assumption)) ?_
      rintro _ w7 ⟨rfl, hfw7⟩
      have HF7 := hid (show Fresh w6 w7 from by first | exact hfw7 | exact Touch.pre hfw7 | exact Touch.pre (Touch.pre hfw7) | exact Touch.ofN hfw7 | exact Touch.preN hfw7 | exact Touch.pre (Touch.pre (Touch.pre hfw7)))
      have B0_w7 : Blk w7 (w.heap.size) 24 #[.int .i64 a.kind, .string (⟨a.text.toArray⟩ : ByteArray), .int .i64 a.cols, sa] := Touch.blk hfw7 (by first | exact Blk.new _ _ _ | exact (Blk.new _ _ _).alloc _ | exact Blk.new2 _ _ _ _ | exact ((Blk.new _ _ _).alloc _).alloc _ | exact (Blk.new2 _ _ _ _).alloc _ | exact Blk.new3 _ _ _ _ _ | assumption | exact Blk.alloc (by assumption) _ | exact (Blk.alloc (Blk.alloc (by assumption) _) _)) (fun h => h)
      have B1_w7 : Blk w7 (w.heap.size + 1) 24 #[.int .i64 b.kind, .string (⟨b.text.toArray⟩ : ByteArray), .int .i64 b.cols, sb] := Touch.blk hfw7 (by first | exact Blk.new _ _ _ | exact (Blk.new _ _ _).alloc _ | exact Blk.new2 _ _ _ _ | exact ((Blk.new _ _ _).alloc _).alloc _ | exact (Blk.new2 _ _ _ _).alloc _ | exact Blk.new3 _ _ _ _ _ | assumption | exact Blk.alloc (by assumption) _ | exact (Blk.alloc (Blk.alloc (by assumption) _) _)) (fun h => h)
      clear q0_0_w6 q0_1_w6 q0_2_w6 q0_3_w6 B0_w6 q1_0_w6 q1_1_w6 q1_2_w6 q1_3_w6 B1_w6
      have q0_0_w7 : World.cell? w7 ⟨w.heap.size, 0, none⟩ = some (.int .i64 a.kind) := Blk.cell B0_w7 0
      have q0_1_w7 : World.cell? w7 ⟨w.heap.size, 1, none⟩ = some (.string (⟨a.text.toArray⟩ : ByteArray)) := Blk.cell B0_w7 1
      have q0_2_w7 : World.cell? w7 ⟨w.heap.size, 2, none⟩ = some (.int .i64 a.cols) := Blk.cell B0_w7 2
      have q0_3_w7 : World.cell? w7 ⟨w.heap.size, 3, none⟩ = some (sa) := Blk.cell B0_w7 3
      have q1_0_w7 : World.cell? w7 ⟨w.heap.size + 1, 0, none⟩ = some (.int .i64 b.kind) := Blk.cell B1_w7 0
      have q1_1_w7 : World.cell? w7 ⟨w.heap.size + 1, 1, none⟩ = some (.string (⟨b.text.toArray⟩ : ByteArray)) := Blk.cell B1_w7 1
      have q1_2_w7 : World.cell? w7 ⟨w.heap.size + 1, 2, none⟩ = some (.int .i64 b.cols) := Blk.cell B1_w7 2
      have q1_3_w7 : World.cell? w7 ⟨w.heap.size + 1, 3, none⟩ = some (sb) := Blk.cell B1_w7 3
      clear hfw7
      cases h3 : ((printE a) == (0 : Int)) with
      | false =>
        have h3m : ((printE a) != (0 : Int)) = true := by rw [bne, h3]; rfl
        go_wp2_with fail
        go_ret
        exact ⟨ret_bool' _ _ (by first | rfl | (have hD := Da.out; simp_all)), (by first | exact (HF1.out.trans (HF2.out.trans (HF4.out.trans (HF6.out.trans HF7.out)))) | exact (HF1.out.trans (HF2.out.trans (HF4.out.trans (HF6.out.trans HF7.out)))).alloc _ | exact ((HF1.out.trans (HF2.out.trans (HF4.out.trans (HF6.out.trans HF7.out)))).alloc _).alloc _ | exact (((HF1.out.trans (HF2.out.trans (HF4.out.trans (HF6.out.trans HF7.out)))).alloc _).alloc _).alloc _ | exact (HF1.out.trans (HF2.out.trans (HF4.out.trans (HF6.out.trans HF7.out)))).drewN _ | exact ((HF1.out.trans (HF2.out.trans (HF4.out.trans (HF6.out.trans HF7.out)))).alloc _).drewN _ | exact (((HF1.out.trans (HF2.out.trans (HF4.out.trans (HF6.out.trans HF7.out)))).alloc _).alloc _).drewN _)⟩
      | true =>
        have h3m : ((printE a) != (0 : Int)) = false := by rw [bne, h3]; rfl
        cases h4 : ((printE b) == (0 : Int)) with
        | false =>
          have h4m : ((printE b) != (0 : Int)) = true := by rw [bne, h4]; rfl
          go_wp2_with fail
          go_ret
          exact ⟨ret_bool' _ _ (by first | rfl | (have hD := Da.out; simp_all)), (by first | exact (HF1.out.trans (HF2.out.trans (HF4.out.trans (HF6.out.trans HF7.out)))) | exact (HF1.out.trans (HF2.out.trans (HF4.out.trans (HF6.out.trans HF7.out)))).alloc _ | exact ((HF1.out.trans (HF2.out.trans (HF4.out.trans (HF6.out.trans HF7.out)))).alloc _).alloc _ | exact (((HF1.out.trans (HF2.out.trans (HF4.out.trans (HF6.out.trans HF7.out)))).alloc _).alloc _).alloc _ | exact (HF1.out.trans (HF2.out.trans (HF4.out.trans (HF6.out.trans HF7.out)))).drewN _ | exact ((HF1.out.trans (HF2.out.trans (HF4.out.trans (HF6.out.trans HF7.out)))).alloc _).drewN _ | exact (((HF1.out.trans (HF2.out.trans (HF4.out.trans (HF6.out.trans HF7.out)))).alloc _).alloc _).drewN _)⟩
        | true =>
          have h4m : ((printE b) != (0 : Int)) = false := by rw [bne, h4]; rfl
          go_wp2_with fail
          refine Calls.mono (equal_any _ a b sa sb _ (Nat.le_refl _) (Ra.out.fresh (by first | exact (HF1.out.trans (HF2.out.trans (HF4.out.trans (HF6.out.trans HF7.out)))) | exact (HF1.out.trans (HF2.out.trans (HF4.out.trans (HF6.out.trans HF7.out)))).alloc _ | exact ((HF1.out.trans (HF2.out.trans (HF4.out.trans (HF6.out.trans HF7.out)))).alloc _).alloc _ | exact (((HF1.out.trans (HF2.out.trans (HF4.out.trans (HF6.out.trans HF7.out)))).alloc _).alloc _).alloc _ | exact (HF1.out.trans (HF2.out.trans (HF4.out.trans (HF6.out.trans HF7.out)))).drewN _ | exact ((HF1.out.trans (HF2.out.trans (HF4.out.trans (HF6.out.trans HF7.out)))).alloc _).drewN _ | exact (((HF1.out.trans (HF2.out.trans (HF4.out.trans (HF6.out.trans HF7.out)))).alloc _).alloc _).drewN _)) (Rb.out.fresh (by first | exact (HF1.out.trans (HF2.out.trans (HF4.out.trans (HF6.out.trans HF7.out)))) | exact (HF1.out.trans (HF2.out.trans (HF4.out.trans (HF6.out.trans HF7.out)))).alloc _ | exact ((HF1.out.trans (HF2.out.trans (HF4.out.trans (HF6.out.trans HF7.out)))).alloc _).alloc _ | exact (((HF1.out.trans (HF2.out.trans (HF4.out.trans (HF6.out.trans HF7.out)))).alloc _).alloc _).alloc _ | exact (HF1.out.trans (HF2.out.trans (HF4.out.trans (HF6.out.trans HF7.out)))).drewN _ | exact ((HF1.out.trans (HF2.out.trans (HF4.out.trans (HF6.out.trans HF7.out)))).alloc _).drewN _ | exact (((HF1.out.trans (HF2.out.trans (HF4.out.trans (HF6.out.trans HF7.out)))).alloc _).alloc _).drewN _))) ?_
          rintro _ w8 ⟨rfl, hfw8⟩
          have HF8 := hid (show Fresh w7 w8 from by first | exact hfw8 | exact Touch.pre hfw8 | exact Touch.pre (Touch.pre hfw8) | exact Touch.ofN hfw8 | exact Touch.preN hfw8 | exact Touch.pre (Touch.pre (Touch.pre hfw8)))
          have B0_w8 : Blk w8 (w.heap.size) 24 #[.int .i64 a.kind, .string (⟨a.text.toArray⟩ : ByteArray), .int .i64 a.cols, sa] := Touch.blk hfw8 (by first | exact Blk.new _ _ _ | exact (Blk.new _ _ _).alloc _ | exact Blk.new2 _ _ _ _ | exact ((Blk.new _ _ _).alloc _).alloc _ | exact (Blk.new2 _ _ _ _).alloc _ | exact Blk.new3 _ _ _ _ _ | assumption | exact Blk.alloc (by assumption) _ | exact (Blk.alloc (Blk.alloc (by assumption) _) _)) (fun h => h)
          have B1_w8 : Blk w8 (w.heap.size + 1) 24 #[.int .i64 b.kind, .string (⟨b.text.toArray⟩ : ByteArray), .int .i64 b.cols, sb] := Touch.blk hfw8 (by first | exact Blk.new _ _ _ | exact (Blk.new _ _ _).alloc _ | exact Blk.new2 _ _ _ _ | exact ((Blk.new _ _ _).alloc _).alloc _ | exact (Blk.new2 _ _ _ _).alloc _ | exact Blk.new3 _ _ _ _ _ | assumption | exact Blk.alloc (by assumption) _ | exact (Blk.alloc (Blk.alloc (by assumption) _) _)) (fun h => h)
          clear q0_0_w7 q0_1_w7 q0_2_w7 q0_3_w7 B0_w7 q1_0_w7 q1_1_w7 q1_2_w7 q1_3_w7 B1_w7
          have q0_0_w8 : World.cell? w8 ⟨w.heap.size, 0, none⟩ = some (.int .i64 a.kind) := Blk.cell B0_w8 0
          have q0_1_w8 : World.cell? w8 ⟨w.heap.size, 1, none⟩ = some (.string (⟨a.text.toArray⟩ : ByteArray)) := Blk.cell B0_w8 1
          have q0_2_w8 : World.cell? w8 ⟨w.heap.size, 2, none⟩ = some (.int .i64 a.cols) := Blk.cell B0_w8 2
          have q0_3_w8 : World.cell? w8 ⟨w.heap.size, 3, none⟩ = some (sa) := Blk.cell B0_w8 3
          have q1_0_w8 : World.cell? w8 ⟨w.heap.size + 1, 0, none⟩ = some (.int .i64 b.kind) := Blk.cell B1_w8 0
          have q1_1_w8 : World.cell? w8 ⟨w.heap.size + 1, 1, none⟩ = some (.string (⟨b.text.toArray⟩ : ByteArray)) := Blk.cell B1_w8 1
          have q1_2_w8 : World.cell? w8 ⟨w.heap.size + 1, 2, none⟩ = some (.int .i64 b.cols) := Blk.cell B1_w8 2
          have q1_3_w8 : World.cell? w8 ⟨w.heap.size + 1, 3, none⟩ = some (sb) := Blk.cell B1_w8 3
          clear hfw8
          go_wp2_with fail
          go_ret
          exact ⟨ret_bool' _ _ (by first | rfl | (have hD := Da.out; simp_all)), (by first | exact (HF1.out.trans (HF2.out.trans (HF4.out.trans (HF6.out.trans (HF7.out.trans HF8.out))))) | exact (HF1.out.trans (HF2.out.trans (HF4.out.trans (HF6.out.trans (HF7.out.trans HF8.out))))).alloc _ | exact ((HF1.out.trans (HF2.out.trans (HF4.out.trans (HF6.out.trans (HF7.out.trans HF8.out))))).alloc _).alloc _ | exact (((HF1.out.trans (HF2.out.trans (HF4.out.trans (HF6.out.trans (HF7.out.trans HF8.out))))).alloc _).alloc _).alloc _ | exact (HF1.out.trans (HF2.out.trans (HF4.out.trans (HF6.out.trans (HF7.out.trans HF8.out))))).drewN _ | exact ((HF1.out.trans (HF2.out.trans (HF4.out.trans (HF6.out.trans (HF7.out.trans HF8.out))))).alloc _).drewN _ | exact (((HF1.out.trans (HF2.out.trans (HF4.out.trans (HF6.out.trans (HF7.out.trans HF8.out))))).alloc _).alloc _).drewN _)⟩


set_option maxRecDepth 100000 in
theorem printerDifferent_lifted (os : Os) (started : os.Started) (H : Type) (enc : TypeId × Value → H) :
    ReturnsInHanded {} Try.checked os 3 .any (Rows.printerDifferentSpec.pre6 enc Try.prog Try.f3 Rows.printerDifferentRow.domain false) (Rows.printerDifferentSpec.post enc Try.prog Try.f3 false true false false) := by
  refine returnsInHanded_of_change (C := Try.checked) Try.ownKnob started (by kernel_rfl) Try.func3
    (ChangeSpec.witness6 (enc := enc) (C := Try.checked) false ⟨#[], #[.agg #[.int .i64 0, .string ⟨#[]⟩, .int .i64 0, .slice none 0 0], .agg #[.int .i64 0, .string ⟨#[]⟩, .int .i64 0, .slice none 0 0]], []⟩ 8 (by kernel_rfl) (by kernel_rfl) (by kernel_rfl) (by kernel_rfl)) ?_
  intro W base args ds gs before hval0 hW hcnd _
  have hval : ∀ (j : Nat) t v, Try.f3.params[j]? = some t → args[j]? = some v → Value.okWide Try.prog W .any base t v := hval0
  have hW' := hW
  obtain ⟨p, q, hA0, hV, rfl, hfz, hnd⟩ := hW
  have hA : DataW.TrodAll enc Try.prog W 0 (fun _ => true) true Try.f3.params.toList args.toList ds p := hA0
  rw [Try.params3] at hA hval
  obtain ⟨v0, v1, d0, d1, p0, p1, rfl, rfl, rfl, h0, h1⟩ := trodAll_two hA
  obtain ⟨rfl, rfl⟩ := trodVars_none hV
  obtain ⟨a, ⟨sa, rfl, ra⟩, ta⟩ := open_node (hval 0 24 v0 rfl rfl) h0
  obtain ⟨b, ⟨sb, rfl, rb⟩, tb⟩ := open_node (hval 1 24 v1 rfl rfl) h1
  refine (different_any a b sa sb W ra rb ta tb).mono fun e W' ⟨he, hw⟩ => ?_
  exact ⟨_, he, post_true Try.laidOut Try.underlying4 (by kernel_rfl) (by kernel_rfl) rfl rfl hW' hw⟩

theorem PrinterDifferent_holds : Rows.PrinterDifferentSaid :=
  OpenClaim.holds_of_wide 3 Try.f3 rfl rfl rfl rfl rfl rfl rfl ⟨rfl, rfl, rfl, rfl, rfl⟩ rfl rfl rfl rfl rfl (by kernel_rfl) Try.func3 (by kernel_rfl)
    (of_decide_eq_true (by kernel_rfl)) (by unfold Func.isWrapper; first | (rw [if_pos (by decide +kernel)]; kernel_rfl) | (rw [if_neg (by decide +kernel)]; exact ⟨rfl, rfl⟩))
    (fun os started H enc _ => printerDifferent_lifted os started H enc)
end Go.Proofs.Ytilgpmpiidccjaa
