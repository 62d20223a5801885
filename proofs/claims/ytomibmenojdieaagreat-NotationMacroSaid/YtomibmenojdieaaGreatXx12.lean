/- Part 12 of 42 of a proof; its texts, joined: NdP. No condition. -/
import Derived.Test.YtomibmenojdieaaGreatXx11
set_option maxRecDepth 100000
set_option maxHeartbeats 1000000
namespace Go.Proofs.YtomibmenojdieaaGreat
open Go.RowKit
theorem rValid_any (n : Tr.Nd) (sl : Value) (w : World) (hr : RepL w n.kids sl) (ht : n.text.length ≤ maxLen) (hc : Tr.count n ≤ 1000000) :
  Calls Tryz.prog 20 #[.agg #[.int .i64 n.kind, .string ⟨n.text.toArray⟩, .int .i64 n.cols, sl]] w fun e w' => e = .returned (.bool (Tr.valid n)) ∧ Fresh w w' := by
 have HR := hid hr;have HV := hid (show Tr.valid n = ((n.kind == 1) && Tr.form n && decide (Tr.count n ≤ 1000) && decide (Tr.depth n ≤ 24)) from rfl);have HT := hid ht;have HC := hid hc;clear hr ht hc;go_enter Tryz.func20, Tryz.ntmps20;cases h1 : (n.kind == (1 : Int)) with
 | false =>
  have h1m : (n.kind != (1 : Int)) = true := by rw [bne, h1]; rfl
  go_wp2_with fail
  go_ret;exact ⟨ret_bool' _ _ (by rw [HV.out, show (n.kind == 1) = false from by assumption]; simp), frR⟩
 | true =>
  have h1m : (n.kind != (1 : Int)) = false := by rw [bne, h1]; rfl
  go_wp2_with fail
  refine Calls.mono (form_any _ n sl _ (Nat.le_refl _) HC.out (HR.out.fresh frR) HT.out) ?_;rintro _ w1 ⟨rfl, hfw1⟩;have HF1 := hid (show Fresh w w1 from preA hfw1);have B0_w1 : Blk w1 (w.heap.size) 35 #[.int .i64 n.kind, .string (⟨n.text.toArray⟩ : ByteArray), .int .i64 n.cols, sl] := Touch.blk hfw1 (by first | exact blkN | assumption | exact blkA (by assumption)) (fun h => h);obtain ⟨q0_0_w1, q0_1_w1, q0_2_w1, q0_3_w1, _⟩ := Blk.four B0_w1;clear hfw1;cases h2 : (Tr.form n) with
  | false =>
   go_wp2_with fail
   go_ret;exact ⟨ret_bool' _ _ (by rw [HV.out, show (n.kind == 1) = true from by assumption, show (Tr.form n) = false from by assumption]; simp), (frA HF1.out)⟩
  | true =>
   go_wp2_with fail
   refine Calls.mono (count_any _ n sl _ (Nat.le_refl _) HC.out (HR.out.fresh (frA HF1.out)) HT.out) ?_;rintro _ w2 ⟨rfl, hfw2⟩;have HF2 := hid (show Fresh w1 w2 from preA hfw2);have B0_w2 := Touch.blk hfw2 (blkA B0_w1) (fun h => h);clear q0_0_w1 q0_1_w1 q0_2_w1 q0_3_w1 B0_w1;obtain ⟨q0_0_w2, q0_1_w2, q0_2_w2, q0_3_w2, _⟩ := Blk.four B0_w2;clear hfw2;cases h3 : decide ((Tr.count n : Int) ≤ (1000 : Int)) with
   | false =>
    go_wp2_with fail
    go_ret;exact ⟨ret_bool' _ _ (by rw [HV.out, show (n.kind == 1) = true from by assumption, show (Tr.form n) = true from by assumption, show decide (Tr.count n ≤ 1000) = false from by have := of_decide_eq_false (by assumption : decide ((Tr.count n : Int) ≤ (1000 : Int)) = false); simp only [decide_eq_false_iff_not]; omega]; simp), (frA (HF1.out.trans HF2.out))⟩
   | true =>
    go_wp2_with fail
    refine Calls.mono (depth_any _ n sl _ (Nat.le_refl _) HC.out (HR.out.fresh (frA (HF1.out.trans HF2.out))) HT.out) ?_;rintro _ w3 ⟨rfl, hfw3⟩;have HF3 := hid (show Fresh w2 w3 from preA hfw3);have B0_w3 := Touch.blk hfw3 (blkA B0_w2) (fun h => h);clear q0_0_w2 q0_1_w2 q0_2_w2 q0_3_w2 B0_w2;obtain ⟨q0_0_w3, q0_1_w3, q0_2_w3, q0_3_w3, _⟩ := Blk.four B0_w3;clear hfw3;cases h4 : decide ((Tr.depth n : Int) ≤ (24 : Int)) with
    | false =>
     go_wp2_with fail
     go_ret;exact ⟨ret_bool' _ _ (by rw [HV.out, show (n.kind == 1) = true from by assumption, show (Tr.form n) = true from by assumption, show decide (Tr.count n ≤ 1000) = true from by have := of_decide_eq_true (by assumption : decide ((Tr.count n : Int) ≤ (1000 : Int)) = true); simp only [decide_eq_true_eq]; omega, show decide (Tr.depth n ≤ 24) = false from by have := of_decide_eq_false (by assumption : decide ((Tr.depth n : Int) ≤ (24 : Int)) = false); simp only [decide_eq_false_iff_not]; omega]; rfl), (frA (HF1.out.trans (HF2.out.trans HF3.out)))⟩
    | true =>
     go_wp2_with fail
     go_ret;exact ⟨ret_bool' _ _ (by rw [HV.out, show (n.kind == 1) = true from by assumption, show (Tr.form n) = true from by assumption, show decide (Tr.count n ≤ 1000) = true from by have := of_decide_eq_true (by assumption : decide ((Tr.count n : Int) ≤ (1000 : Int)) = true); simp only [decide_eq_true_eq]; omega, show decide (Tr.depth n ≤ 24) = true from by have := of_decide_eq_true (by assumption : decide ((Tr.depth n : Int) ≤ (24 : Int)) = true); simp only [decide_eq_true_eq]; omega]; rfl), (frA (HF1.out.trans (HF2.out.trans HF3.out)))⟩
end Go.Proofs.YtomibmenojdieaaGreat
