/- Part 8 of 35 of a proof; its texts, joined: NdJ. No condition. -/
import Derived.Test.YtnbeemkfmlfgfaaGreatDoorYa7
set_option maxRecDepth 100000
namespace Go.Proofs.YtnbeemkfmlfgfaaGreatDoor
open Go.RowKit
theorem ownF_form (n : Tr.Nd) : ownF n = (Tr.textOK n.kind n.text && Tr.kidsOK n.kind n.cols n.kids.length) := by
 unfold ownF
 by_cases h1 : 1 ≤ n.kind
 ·by_cases h2 : n.kind ≤ 12
  ·simp [h1, h2]
  ·have : Tr.kidsOK n.kind n.cols n.kids.length = false := by
    unfold Tr.kidsOK;rw [if_neg (by omega)];split
    ·rfl
    ·rw [if_neg (by omega), if_neg (by omega), if_neg (by omega), if_neg (by omega), if_neg (by omega)]
   simp [this]
 ·have : Tr.kidsOK n.kind n.cols n.kids.length = false := by
   unfold Tr.kidsOK;rw [if_neg (by omega)];split
   ·rfl
   ·rw [if_neg (by omega), if_neg (by omega), if_neg (by omega), if_neg (by omega), if_neg (by omega)]
  simp [this]
theorem chk_form (n : Tr.Nd) : ∀ d, chkN d n = (Tr.form n && decide (d + Tr.depth n ≤ 25)) := by
 induction n using Tr.Nd.ind with
 | h n ih =>
  have hL : ∀ (r : Bool) (l : List Tr.Nd) (d : Nat), d ≤ 25 → (∀ x ∈ l, ∀ d, chkN d x = (Tr.form x && decide (d + Tr.depth x ≤ 25))) → chkL r d l = (Tr.formL r l && decide (d + Tr.depthL l ≤ 25)) := by
   intro r l
   induction l with
   | nil => intro d hd _; simp [chkL, Tr.formL, Tr.depthL, hd]
   | cons x l ihl =>
    intro d hd h;rw [chkL, Tr.formL, Tr.depthL, h x (by simp) d, ihl d hd (fun y hy => h y (by simp [hy]))]
    have e : decide (d + max (Tr.depth x) (Tr.depthL l) ≤ 25) = (decide (d + Tr.depth x ≤ 25) && decide (d + Tr.depthL l ≤ 25)) := by
     rw [Bool.eq_iff_iff, Bool.and_eq_true, decide_eq_true_iff, decide_eq_true_iff, decide_eq_true_iff]; omega
    rw [e, bne];generalize (!((x.kind == 1) == r)) = a;generalize Tr.form x = b;generalize Tr.formL r l = c;generalize decide (d + Tr.depth x ≤ 25) = p;generalize decide (d + Tr.depthL l ≤ 25) = q;cases a <;> cases b <;> cases c <;> cases p <;> cases q <;> rfl
  intro d;rw [chkN_eq, ownF_form, Tr.form_eq, Tr.depth_kids]
  by_cases hd : d ≤ 24
  ·rw [hL _ _ (d + 1) (by omega) ih]
   have e : decide (d + 1 + Tr.depthL n.kids ≤ 25) = decide (d + (Tr.depthL n.kids + 1) ≤ 25) := by
    rw [Bool.eq_iff_iff, decide_eq_true_iff, decide_eq_true_iff]; omega
   rw [e];simp [hd, Bool.and_assoc]
  ·have e : decide (d + (Tr.depthL n.kids + 1) ≤ 25) = false := dF (by omega)
   rw [e];simp [hd]
theorem valid_is (n : Tr.Nd) : ((n.kind == 1) && (chkN 1 n && decide (Tr.count n ≤ 1000))) = Tr.valid n := by
 rw [chk_form];unfold Tr.valid;have e2 : decide (1 + Tr.depth n ≤ 25) = decide (Tr.depth n ≤ 24) := by rw [Bool.eq_iff_iff, decide_eq_true_iff, decide_eq_true_iff]; omega
 rw [e2];cases (n.kind == 1) <;> cases Tr.form n <;> cases decide (Tr.depth n ≤ 24) <;> cases decide (Tr.count n ≤ 1000) <;> rfl
theorem valid_all (n : Tr.Nd) (sl : Value) (w : World) (hr : RepL w n.kids sl) (ht : n.text.length ≤ maxLen) :
  Calls Tryz.prog 28 #[.agg #[.int .i64 n.kind, .string ⟨n.text.toArray⟩, .int .i64 n.cols, sl]] w fun e w' => e = .returned (.bool (Tr.valid n)) ∧ Fresh w w' := by
 rw [← valid_is n]; exact valid_any n sl w hr ht
theorem valid_call (n : Tr.Nd) (sl : Value) (w : World) (hr : RepL w n.kids sl) (ht : n.text.length ≤ maxLen) (_hc : Tr.count n ≤ 1000) :
  Calls Tryz.prog 28 #[.agg #[.int .i64 n.kind, .string ⟨n.text.toArray⟩, .int .i64 n.cols, sl]] w fun e w' => e = .returned (.bool (Tr.valid n)) ∧ Fresh w w' := valid_all n sl w hr ht
end Go.Proofs.YtnbeemkfmlfgfaaGreatDoor
