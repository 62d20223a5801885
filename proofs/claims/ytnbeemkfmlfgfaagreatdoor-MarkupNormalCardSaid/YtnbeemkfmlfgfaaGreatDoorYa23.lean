/- Part 23 of 35 of a proof; its texts, joined: MnC. No condition. -/
import Derived.Test.YtnbeemkfmlfgfaaGreatDoorYa22
import Derived.Laws.Concat
set_option maxRecDepth 100000
set_option maxHeartbeats 2000000
namespace Go.Proofs.YtnbeemkfmlfgfaaGreatDoor
open Go.RowKit
open Tr (Nd)
open El (E Attrs leafK attrV rowNil validI lett)
theorem dIe (n k : Nat) (z : Int) (h : (k : Int) = z) : ((n : Int) == z) = decide (n = k) := by rw [← h, Bool.eq_iff_iff, beq_iff_eq, decide_eq_true_eq]; omega
theorem dIl (n k : Nat) (z : Int) (h : (k : Int) = z) : decide (z ≤ (n : Int)) = decide (k ≤ n) := by rw [← h, Bool.eq_iff_iff]; simp
theorem dIg (n k : Nat) (z : Int) (h : (k : Int) = z) : decide ((n : Int) ≤ z) = decide (n ≤ k) := by rw [← h, Bool.eq_iff_iff]; simp
theorem emp_eq (t : List UInt8) : t.isEmpty = (t == ([] : List UInt8)) := by cases t <;> rfl
theorem len0_eq {α : Type} (l : List α) : l.isEmpty = ((l.length : Int) == (0 : Int)) := by cases l <;> rfl
section
variable {a : Attrs} {ks : List E} {t : List UInt8}
theorem ownF_Mi : El.ownF (.mk El.nMi a ks t) = ((lett t) && ((a.length : Int) == (0 : Int)) && ((ks.length : Int) == (0 : Int)) && validI 2 t 0) := by rw [← len0_eq, ← len0_eq]; rfl
theorem ownF_Mo : El.ownF (.mk El.nMo a ks t) = ((!lett t) && ((a.length : Int) == (0 : Int)) && ((ks.length : Int) == (0 : Int)) && validI 2 t 0) := by rw [← len0_eq, ← len0_eq]; rfl
theorem ownF_Mn : El.ownF (.mk El.nMn a ks t) = (((a.length : Int) == (0 : Int)) && ((ks.length : Int) == (0 : Int)) && validI 3 t 0) := by rw [← len0_eq, ← len0_eq]; rw [← Bool.true_and a.isEmpty]; rfl
theorem ownF_Mtext : El.ownF (.mk El.nMtext a ks t) = (((a.length : Int) == (0 : Int)) && ((ks.length : Int) == (0 : Int)) && validI 4 t 0) := by rw [← len0_eq, ← len0_eq]; rw [← Bool.true_and a.isEmpty]; rfl
theorem ownF_Math : El.ownF (.mk El.nMath a ks t) = ((t == ([] : List UInt8)) && true && ((a.length : Int) == (0 : Int))) := by rw [← emp_eq, dIe a.length 0 0 rfl]; rw [← Bool.and_true (t.isEmpty && _)]; rfl
theorem ownF_Mrow : El.ownF (.mk El.nMrow a ks t) = ((t == ([] : List UInt8)) && true && ((a.length : Int) == (0 : Int))) := by rw [← emp_eq, dIe a.length 0 0 rfl]; rw [← Bool.and_true (t.isEmpty && _)]; rfl
theorem ownF_Mtd : El.ownF (.mk El.nMtd a ks t) = ((t == ([] : List UInt8)) && true && ((a.length : Int) == (0 : Int))) := by rw [← emp_eq, dIe a.length 0 0 rfl]; rw [← Bool.and_true (t.isEmpty && _)]; rfl
theorem ownF_Mtable : El.ownF (.mk El.nMtable a ks t) = ((t == ([] : List UInt8)) && decide ((1 : Int) ≤ (ks.length : Int)) && ((a.length : Int) == (0 : Int))) := by rw [← emp_eq, dIe a.length 0 0 rfl, dIl ks.length 1 1 rfl]; rw [← Bool.and_true (t.isEmpty && _)]; rfl
theorem ownF_Mtr : El.ownF (.mk El.nMtr a ks t) = ((t == ([] : List UInt8)) && (decide ((1 : Int) ≤ (ks.length : Int)) && decide ((ks.length : Int) ≤ (16 : Int))) && ((a.length : Int) == (0 : Int))) := by rw [← emp_eq, dIe a.length 0 0 rfl, dIl ks.length 1 1 rfl, dIg ks.length 16 16 rfl]; rw [← Bool.and_true (t.isEmpty && _)]; rfl
theorem ownF_Mfrac : El.ownF (.mk El.nMfrac a ks t) = ((t == ([] : List UInt8)) && ((ks.length : Int) == (2 : Int)) && ((a.length : Int) == (0 : Int))) := by rw [← emp_eq, dIe a.length 0 0 rfl, dIe ks.length 2 2 rfl]; rw [← Bool.and_true (t.isEmpty && _)]; rfl
theorem ownF_Mroot : El.ownF (.mk El.nMroot a ks t) = ((t == ([] : List UInt8)) && ((ks.length : Int) == (2 : Int)) && ((a.length : Int) == (0 : Int))) := by rw [← emp_eq, dIe a.length 0 0 rfl, dIe ks.length 2 2 rfl]; rw [← Bool.and_true (t.isEmpty && _)]; rfl
theorem ownF_Msub : El.ownF (.mk El.nMsub a ks t) = ((t == ([] : List UInt8)) && ((ks.length : Int) == (2 : Int)) && ((a.length : Int) == (0 : Int))) := by rw [← emp_eq, dIe a.length 0 0 rfl, dIe ks.length 2 2 rfl]; rw [← Bool.and_true (t.isEmpty && _)]; rfl
theorem ownF_Msup : El.ownF (.mk El.nMsup a ks t) = ((t == ([] : List UInt8)) && ((ks.length : Int) == (2 : Int)) && ((a.length : Int) == (0 : Int))) := by rw [← emp_eq, dIe a.length 0 0 rfl, dIe ks.length 2 2 rfl]; rw [← Bool.and_true (t.isEmpty && _)]; rfl
theorem ownF_Msubsup : El.ownF (.mk El.nMsubsup a ks t) = ((t == ([] : List UInt8)) && ((ks.length : Int) == (3 : Int)) && ((a.length : Int) == (0 : Int))) := by rw [← emp_eq, dIe a.length 0 0 rfl, dIe ks.length 3 3 rfl]; rw [← Bool.and_true (t.isEmpty && _)]; rfl
theorem ownF_Msqrt : El.ownF (.mk El.nMsqrt a ks t) = ((t == ([] : List UInt8)) && ((ks.length : Int) == (1 : Int)) && ((a.length : Int) == (0 : Int))) := by rw [← emp_eq, dIe a.length 0 0 rfl, dIe ks.length 1 1 rfl]; rw [← Bool.and_true (t.isEmpty && _)]; rfl
theorem ownF_Mover : El.ownF (.mk El.nMover a ks t) = ((t == ([] : List UInt8)) && ((ks.length : Int) == (1 : Int)) && validI 10 (attrV a El.nAccent) 1 && ((a.length : Int) == (1 : Int))) := by rw [← emp_eq, dIe a.length 1 1 rfl, dIe ks.length 1 1 rfl]; rfl
theorem ownF_Mfenced : El.ownF (.mk El.nMfenced a ks t) = ((t == ([] : List UInt8)) && ((ks.length : Int) == (1 : Int)) && ((((attrV a El.nOpen).length : Int) == (1 : Int)) && (((attrV a El.nClose).length : Int) == (1 : Int)) && validI 11 (attrV a El.nOpen ++ attrV a El.nClose) 1) && ((a.length : Int) == (2 : Int))) := by rw [← emp_eq, dIe a.length 2 2 rfl, dIe ks.length 1 1 rfl, dIe (attrV a El.nOpen).length 1 1 rfl, dIe (attrV a El.nClose).length 1 1 rfl]; rfl
end
theorem own_Mi (a : Attrs) (ks : List E) (t : List UInt8) (g o : Nat) (va vk : Value) (w : World) (he : ElAt w g o (.mk ([109, 105]) a ks t) va vk) : Calls Tryz.prog 73 #[.pointer (some ⟨g, o, none⟩)] w fun x w' => x = .returned (.bool (El.ownF (.mk ([109, 105]) a ks t))) ∧ Fresh w w' := by
 obtain ⟨A, ca, hva⟩ := he.2.2.2.2.2.1.slice;obtain ⟨B, cb, hvb⟩ := he.2.2.2.2.2.2.1.slice;replace hva : va = .slice A a.length ca := hva;replace hvb : vk = .slice B ks.length cb := hvb;subst hva;subst hvb;have htl : t.length ≤ maxLen := he.2.2.2.2.2.2.2.2;have hl1 : a.length ≤ maxLen := by obtain ⟨_, _, _, h, _⟩ := he.2.2.2.2.2.1; exact h.1
 have hl2 : ks.length ≤ maxLen := he.2.2.2.2.2.2.1.len;have HTL := hid htl;unfold maxLen at hl1 hl2 htl;have HE := hid he;obtain ⟨_, a0, a1, a2, a3, _⟩ := he;replace a0 : w.cell? ⟨g, o, none⟩ = some (.string ⟨([109, 105] : List UInt8).toArray⟩) := a0;replace a3 : w.cell? ⟨g, o + 3, none⟩ = some (.string ⟨t.toArray⟩) := a3;rw [show El.ownF (.mk ([109, 105]) a ks t) = _ from ownF_Mi];go_enter Tryz.func73, Tryz.ntmps73;go_wp2_with fail
 refine Calls.mono (leaf_is [109, 105] 2 (by rfl) _) ?_;rintro _ w1q ⟨rfl, hqw1⟩;replace hqw1 := hqw1.symm;subst hqw1;cases h1 : (lett t) with
 | false =>
  go_wp2_with fail
  refine forget_world (fun W => Fresh w W) (by first | exact (Touch.refl _ _) | exact (Touch.refl _ _).alloc _ | exact ((Touch.refl _ _).alloc _).alloc _ | exact (((Touch.refl _ _).alloc _).alloc _).alloc _ | exact (Touch.refl _ _).drewN _ | exact ((Touch.refl _ _).alloc _).drewN _ | exact (((Touch.refl _ _).alloc _).alloc _).drewN _) ?_;rintro w2 hfw2;have HF2 := hid hfw2;clear hfw2;have a0_w2 : World.cell? w2 ⟨g, o, none⟩ = some (.string ⟨#[109, 105]⟩) := Touch.cell HF2.out a0 (fun h => h);have a1_w2 : World.cell? w2 ⟨g, o + 1, none⟩ = some (.slice A a.length ca) := Touch.cell HF2.out a1 (fun h => h);have a2_w2 : World.cell? w2 ⟨g, o + 2, none⟩ = some (.slice B ks.length cb) := Touch.cell HF2.out a2 (fun h => h);have a3_w2 : World.cell? w2 ⟨g, o + 3, none⟩ = some (.string ⟨t.toArray⟩) := Touch.cell HF2.out a3 (fun h => h);clear a0 a1 a2 a3;have ga0_w2 := cell_regrown a0_w2;have ga1_w2 := cell_regrown a1_w2;have ga2_w2 := cell_regrown a2_w2;have ga3_w2 := cell_regrown a3_w2;have C0_w2 := hid (calmF (P := Tryz.prog) w2 (fun w hw => mletter_fresh t _));refine wp_region_quiet_below (by kernel_rfl) (by kernel_rfl) ?_
  repeat (with_reducible refine wpQuiet_step (fun K hK => ?_); go_simp; first | (refine hK _ ?_; clear hK K) | (apply Exists.intro; refine ⟨fun _ => ?_, hK _ ?_⟩; (first | with_reducible exact C0_w2.out _ _); clear hK K))
  refine wpQuiet_nil ?_;rintro w3 ⟨⟨_, _⟩, hWw3⟩;have hfw3 : Fresh w2 w3 := by rw [hWw3]; exact fresh_of_below (below_regrown _ _ _)
  clear hWw3 ga0_w2 ga1_w2 ga2_w2 ga3_w2;have HF3 := hid (show Fresh w2 w3 from by first | exact hfw3 | exact Touch.pre hfw3 | exact Touch.pre (Touch.pre hfw3) | exact Touch.ofN hfw3 | exact Touch.preN hfw3 | exact Touch.pre (Touch.pre (Touch.pre hfw3)));have a0_w3 : World.cell? w3 ⟨g, o, none⟩ = some (.string ⟨#[109, 105]⟩) := Touch.cell HF3.out a0_w2 (fun h => h);have a1_w3 : World.cell? w3 ⟨g, o + 1, none⟩ = some (.slice A a.length ca) := Touch.cell HF3.out a1_w2 (fun h => h);have a2_w3 : World.cell? w3 ⟨g, o + 2, none⟩ = some (.slice B ks.length cb) := Touch.cell HF3.out a2_w2 (fun h => h);have a3_w3 : World.cell? w3 ⟨g, o + 3, none⟩ = some (.string ⟨t.toArray⟩) := Touch.cell HF3.out a3_w2 (fun h => h);clear a0_w2 a1_w2 a2_w2 a3_w2;clear hfw3;go_wp2_with fail
  go_ret;exact ⟨ret_bool' _ _ (by simp only [*] <;> rfl), (by first | exact (HF2.out.trans HF3.out) | exact (HF2.out.trans HF3.out).alloc _ | exact ((HF2.out.trans HF3.out).alloc _).alloc _ | exact (((HF2.out.trans HF3.out).alloc _).alloc _).alloc _ | exact (HF2.out.trans HF3.out).drewN _ | exact ((HF2.out.trans HF3.out).alloc _).drewN _ | exact (((HF2.out.trans HF3.out).alloc _).alloc _).drewN _)⟩
 | true =>
  go_wp2_with fail
  refine forget_world (fun W => Fresh w W) (by first | exact (Touch.refl _ _) | exact (Touch.refl _ _).alloc _ | exact ((Touch.refl _ _).alloc _).alloc _ | exact (((Touch.refl _ _).alloc _).alloc _).alloc _ | exact (Touch.refl _ _).drewN _ | exact ((Touch.refl _ _).alloc _).drewN _ | exact (((Touch.refl _ _).alloc _).alloc _).drewN _) ?_;rintro w4 hfw4;have HF4 := hid hfw4;clear hfw4;have a0_w4 : World.cell? w4 ⟨g, o, none⟩ = some (.string ⟨#[109, 105]⟩) := Touch.cell HF4.out a0 (fun h => h);have a1_w4 : World.cell? w4 ⟨g, o + 1, none⟩ = some (.slice A a.length ca) := Touch.cell HF4.out a1 (fun h => h);have a2_w4 : World.cell? w4 ⟨g, o + 2, none⟩ = some (.slice B ks.length cb) := Touch.cell HF4.out a2 (fun h => h);have a3_w4 : World.cell? w4 ⟨g, o + 3, none⟩ = some (.string ⟨t.toArray⟩) := Touch.cell HF4.out a3 (fun h => h);clear a0 a1 a2 a3;have ga0_w4 := cell_regrown a0_w4;have ga1_w4 := cell_regrown a1_w4;have ga2_w4 := cell_regrown a2_w4;have ga3_w4 := cell_regrown a3_w4;have C0_w4 := hid (calmF (P := Tryz.prog) w4 (fun w hw => mletter_fresh t _));refine wp_region_quiet_below (by kernel_rfl) (by kernel_rfl) ?_
  repeat (with_reducible refine wpQuiet_step (fun K hK => ?_); go_simp; first | (refine hK _ ?_; clear hK K) | (apply Exists.intro; refine ⟨fun _ => ?_, hK _ ?_⟩; (first | with_reducible exact C0_w4.out _ _); clear hK K))
  refine wpQuiet_nil ?_;rintro w5 ⟨⟨_, _⟩, hWw5⟩;have hfw5 : Fresh w4 w5 := by rw [hWw5]; exact fresh_of_below (below_regrown _ _ _)
  clear hWw5 ga0_w4 ga1_w4 ga2_w4 ga3_w4;have HF5 := hid (show Fresh w4 w5 from by first | exact hfw5 | exact Touch.pre hfw5 | exact Touch.pre (Touch.pre hfw5) | exact Touch.ofN hfw5 | exact Touch.preN hfw5 | exact Touch.pre (Touch.pre (Touch.pre hfw5)));have a0_w5 : World.cell? w5 ⟨g, o, none⟩ = some (.string ⟨#[109, 105]⟩) := Touch.cell HF5.out a0_w4 (fun h => h);have a1_w5 : World.cell? w5 ⟨g, o + 1, none⟩ = some (.slice A a.length ca) := Touch.cell HF5.out a1_w4 (fun h => h);have a2_w5 : World.cell? w5 ⟨g, o + 2, none⟩ = some (.slice B ks.length cb) := Touch.cell HF5.out a2_w4 (fun h => h);have a3_w5 : World.cell? w5 ⟨g, o + 3, none⟩ = some (.string ⟨t.toArray⟩) := Touch.cell HF5.out a3_w4 (fun h => h);clear a0_w4 a1_w4 a2_w4 a3_w4;clear hfw5;cases h2 : ((a.length : Int) == (0 : Int)) with
  | false =>
   have h2m : ((a.length : Int) != (0 : Int)) = true := by rw [bne, h2]; rfl
   go_wp2_with fail
   go_ret;exact ⟨ret_bool' _ _ (by simp only [*] <;> rfl), (by first | exact (HF4.out.trans HF5.out) | exact (HF4.out.trans HF5.out).alloc _ | exact ((HF4.out.trans HF5.out).alloc _).alloc _ | exact (((HF4.out.trans HF5.out).alloc _).alloc _).alloc _ | exact (HF4.out.trans HF5.out).drewN _ | exact ((HF4.out.trans HF5.out).alloc _).drewN _ | exact (((HF4.out.trans HF5.out).alloc _).alloc _).drewN _)⟩
  | true =>
   have h2m : ((a.length : Int) != (0 : Int)) = false := by rw [bne, h2]; rfl
   cases h3 : ((ks.length : Int) == (0 : Int)) with
   | false =>
    have h3m : ((ks.length : Int) != (0 : Int)) = true := by rw [bne, h3]; rfl
    go_wp2_with fail
    go_ret;exact ⟨ret_bool' _ _ (by simp only [*] <;> rfl), (by first | exact (HF4.out.trans HF5.out) | exact (HF4.out.trans HF5.out).alloc _ | exact ((HF4.out.trans HF5.out).alloc _).alloc _ | exact (((HF4.out.trans HF5.out).alloc _).alloc _).alloc _ | exact (HF4.out.trans HF5.out).drewN _ | exact ((HF4.out.trans HF5.out).alloc _).drewN _ | exact (((HF4.out.trans HF5.out).alloc _).alloc _).drewN _)⟩
   | true =>
    have h3m : ((ks.length : Int) != (0 : Int)) = false := by rw [bne, h3]; rfl
    go_wp2_with fail
    refine Calls.mono (mvalid_any 2 t 0 (by decide) HTL.out _) ?_;rintro _ w6 ⟨rfl, hfw6⟩;have HF6 := hid (show Fresh w5 w6 from by first | exact hfw6 | exact Touch.pre hfw6 | exact Touch.pre (Touch.pre hfw6) | exact Touch.ofN hfw6 | exact Touch.preN hfw6 | exact Touch.pre (Touch.pre (Touch.pre hfw6)));have a0_w6 : World.cell? w6 ⟨g, o, none⟩ = some (.string ⟨#[109, 105]⟩) := Touch.cell HF6.out a0_w5 (fun h => h);have a1_w6 : World.cell? w6 ⟨g, o + 1, none⟩ = some (.slice A a.length ca) := Touch.cell HF6.out a1_w5 (fun h => h);have a2_w6 : World.cell? w6 ⟨g, o + 2, none⟩ = some (.slice B ks.length cb) := Touch.cell HF6.out a2_w5 (fun h => h);have a3_w6 : World.cell? w6 ⟨g, o + 3, none⟩ = some (.string ⟨t.toArray⟩) := Touch.cell HF6.out a3_w5 (fun h => h);clear a0_w5 a1_w5 a2_w5 a3_w5;clear hfw6;cases h4 : (validI 2 t 0) with
    | false =>
     go_wp2_with fail
     go_ret;exact ⟨ret_bool' _ _ (by simp only [*] <;> rfl), (by first | exact (HF4.out.trans (HF5.out.trans HF6.out)) | exact (HF4.out.trans (HF5.out.trans HF6.out)).alloc _ | exact ((HF4.out.trans (HF5.out.trans HF6.out)).alloc _).alloc _ | exact (((HF4.out.trans (HF5.out.trans HF6.out)).alloc _).alloc _).alloc _ | exact (HF4.out.trans (HF5.out.trans HF6.out)).drewN _ | exact ((HF4.out.trans (HF5.out.trans HF6.out)).alloc _).drewN _ | exact (((HF4.out.trans (HF5.out.trans HF6.out)).alloc _).alloc _).drewN _)⟩
    | true =>
     go_wp2_with fail
     go_ret;exact ⟨ret_bool' _ _ (by simp only [*] <;> rfl), (by first | exact (HF4.out.trans (HF5.out.trans HF6.out)) | exact (HF4.out.trans (HF5.out.trans HF6.out)).alloc _ | exact ((HF4.out.trans (HF5.out.trans HF6.out)).alloc _).alloc _ | exact (((HF4.out.trans (HF5.out.trans HF6.out)).alloc _).alloc _).alloc _ | exact (HF4.out.trans (HF5.out.trans HF6.out)).drewN _ | exact ((HF4.out.trans (HF5.out.trans HF6.out)).alloc _).drewN _ | exact (((HF4.out.trans (HF5.out.trans HF6.out)).alloc _).alloc _).drewN _)⟩
theorem own_Mo (a : Attrs) (ks : List E) (t : List UInt8) (g o : Nat) (va vk : Value) (w : World) (he : ElAt w g o (.mk ([109, 111]) a ks t) va vk) : Calls Tryz.prog 73 #[.pointer (some ⟨g, o, none⟩)] w fun x w' => x = .returned (.bool (El.ownF (.mk ([109, 111]) a ks t))) ∧ Fresh w w' := by
 obtain ⟨A, ca, hva⟩ := he.2.2.2.2.2.1.slice;obtain ⟨B, cb, hvb⟩ := he.2.2.2.2.2.2.1.slice;replace hva : va = .slice A a.length ca := hva;replace hvb : vk = .slice B ks.length cb := hvb;subst hva;subst hvb;have htl : t.length ≤ maxLen := he.2.2.2.2.2.2.2.2;have hl1 : a.length ≤ maxLen := by obtain ⟨_, _, _, h, _⟩ := he.2.2.2.2.2.1; exact h.1
 have hl2 : ks.length ≤ maxLen := he.2.2.2.2.2.2.1.len;have HTL := hid htl;unfold maxLen at hl1 hl2 htl;have HE := hid he;obtain ⟨_, a0, a1, a2, a3, _⟩ := he;replace a0 : w.cell? ⟨g, o, none⟩ = some (.string ⟨([109, 111] : List UInt8).toArray⟩) := a0;replace a3 : w.cell? ⟨g, o + 3, none⟩ = some (.string ⟨t.toArray⟩) := a3;rw [show El.ownF (.mk ([109, 111]) a ks t) = _ from ownF_Mo];go_enter Tryz.func73, Tryz.ntmps73;go_wp2_with fail
 refine Calls.mono (leaf_is [109, 111] 2 (by rfl) _) ?_;rintro _ w7q ⟨rfl, hqw7⟩;replace hqw7 := hqw7.symm;subst hqw7;cases h5 : (lett t) with
 | false =>
  go_wp2_with fail
  refine forget_world (fun W => Fresh w W) (by first | exact (Touch.refl _ _) | exact (Touch.refl _ _).alloc _ | exact ((Touch.refl _ _).alloc _).alloc _ | exact (((Touch.refl _ _).alloc _).alloc _).alloc _ | exact (Touch.refl _ _).drewN _ | exact ((Touch.refl _ _).alloc _).drewN _ | exact (((Touch.refl _ _).alloc _).alloc _).drewN _) ?_;rintro w8 hfw8;have HF8 := hid hfw8;clear hfw8;have a0_w8 : World.cell? w8 ⟨g, o, none⟩ = some (.string ⟨#[109, 111]⟩) := Touch.cell HF8.out a0 (fun h => h);have a1_w8 : World.cell? w8 ⟨g, o + 1, none⟩ = some (.slice A a.length ca) := Touch.cell HF8.out a1 (fun h => h);have a2_w8 : World.cell? w8 ⟨g, o + 2, none⟩ = some (.slice B ks.length cb) := Touch.cell HF8.out a2 (fun h => h);have a3_w8 : World.cell? w8 ⟨g, o + 3, none⟩ = some (.string ⟨t.toArray⟩) := Touch.cell HF8.out a3 (fun h => h);clear a0 a1 a2 a3;have ga0_w8 := cell_regrown a0_w8;have ga1_w8 := cell_regrown a1_w8;have ga2_w8 := cell_regrown a2_w8;have ga3_w8 := cell_regrown a3_w8;have C0_w8 := hid (calmF (P := Tryz.prog) w8 (fun w hw => mletter_fresh t _));refine wp_region_quiet_below (by kernel_rfl) (by kernel_rfl) ?_
  repeat (with_reducible refine wpQuiet_step (fun K hK => ?_); go_simp; first | (refine hK _ ?_; clear hK K) | (apply Exists.intro; refine ⟨fun _ => ?_, hK _ ?_⟩; (first | with_reducible exact C0_w8.out _ _); clear hK K))
  refine wpQuiet_nil ?_;rintro w9 ⟨⟨_, _⟩, hWw9⟩;have hfw9 : Fresh w8 w9 := by rw [hWw9]; exact fresh_of_below (below_regrown _ _ _)
  clear hWw9 ga0_w8 ga1_w8 ga2_w8 ga3_w8;have HF9 := hid (show Fresh w8 w9 from by first | exact hfw9 | exact Touch.pre hfw9 | exact Touch.pre (Touch.pre hfw9) | exact Touch.ofN hfw9 | exact Touch.preN hfw9 | exact Touch.pre (Touch.pre (Touch.pre hfw9)));have a0_w9 : World.cell? w9 ⟨g, o, none⟩ = some (.string ⟨#[109, 111]⟩) := Touch.cell HF9.out a0_w8 (fun h => h);have a1_w9 : World.cell? w9 ⟨g, o + 1, none⟩ = some (.slice A a.length ca) := Touch.cell HF9.out a1_w8 (fun h => h);have a2_w9 : World.cell? w9 ⟨g, o + 2, none⟩ = some (.slice B ks.length cb) := Touch.cell HF9.out a2_w8 (fun h => h);have a3_w9 : World.cell? w9 ⟨g, o + 3, none⟩ = some (.string ⟨t.toArray⟩) := Touch.cell HF9.out a3_w8 (fun h => h);clear a0_w8 a1_w8 a2_w8 a3_w8;clear hfw9;cases h6 : ((a.length : Int) == (0 : Int)) with
  | false =>
   have h6m : ((a.length : Int) != (0 : Int)) = true := by rw [bne, h6]; rfl
   go_wp2_with fail
   go_ret;exact ⟨ret_bool' _ _ (by simp only [*] <;> rfl), (by first | exact (HF8.out.trans HF9.out) | exact (HF8.out.trans HF9.out).alloc _ | exact ((HF8.out.trans HF9.out).alloc _).alloc _ | exact (((HF8.out.trans HF9.out).alloc _).alloc _).alloc _ | exact (HF8.out.trans HF9.out).drewN _ | exact ((HF8.out.trans HF9.out).alloc _).drewN _ | exact (((HF8.out.trans HF9.out).alloc _).alloc _).drewN _)⟩
  | true =>
   have h6m : ((a.length : Int) != (0 : Int)) = false := by rw [bne, h6]; rfl
   cases h7 : ((ks.length : Int) == (0 : Int)) with
   | false =>
    have h7m : ((ks.length : Int) != (0 : Int)) = true := by rw [bne, h7]; rfl
    go_wp2_with fail
    go_ret;exact ⟨ret_bool' _ _ (by simp only [*] <;> rfl), (by first | exact (HF8.out.trans HF9.out) | exact (HF8.out.trans HF9.out).alloc _ | exact ((HF8.out.trans HF9.out).alloc _).alloc _ | exact (((HF8.out.trans HF9.out).alloc _).alloc _).alloc _ | exact (HF8.out.trans HF9.out).drewN _ | exact ((HF8.out.trans HF9.out).alloc _).drewN _ | exact (((HF8.out.trans HF9.out).alloc _).alloc _).drewN _)⟩
   | true =>
    have h7m : ((ks.length : Int) != (0 : Int)) = false := by rw [bne, h7]; rfl
    go_wp2_with fail
    refine Calls.mono (mvalid_any 2 t 0 (by decide) HTL.out _) ?_;rintro _ w10 ⟨rfl, hfw10⟩;have HF10 := hid (show Fresh w9 w10 from by first | exact hfw10 | exact Touch.pre hfw10 | exact Touch.pre (Touch.pre hfw10) | exact Touch.ofN hfw10 | exact Touch.preN hfw10 | exact Touch.pre (Touch.pre (Touch.pre hfw10)));have a0_w10 : World.cell? w10 ⟨g, o, none⟩ = some (.string ⟨#[109, 111]⟩) := Touch.cell HF10.out a0_w9 (fun h => h);have a1_w10 : World.cell? w10 ⟨g, o + 1, none⟩ = some (.slice A a.length ca) := Touch.cell HF10.out a1_w9 (fun h => h);have a2_w10 : World.cell? w10 ⟨g, o + 2, none⟩ = some (.slice B ks.length cb) := Touch.cell HF10.out a2_w9 (fun h => h);have a3_w10 : World.cell? w10 ⟨g, o + 3, none⟩ = some (.string ⟨t.toArray⟩) := Touch.cell HF10.out a3_w9 (fun h => h);clear a0_w9 a1_w9 a2_w9 a3_w9;clear hfw10;cases h8 : (validI 2 t 0) with
    | false =>
     go_wp2_with fail
     go_ret;exact ⟨ret_bool' _ _ (by simp only [*] <;> rfl), (by first | exact (HF8.out.trans (HF9.out.trans HF10.out)) | exact (HF8.out.trans (HF9.out.trans HF10.out)).alloc _ | exact ((HF8.out.trans (HF9.out.trans HF10.out)).alloc _).alloc _ | exact (((HF8.out.trans (HF9.out.trans HF10.out)).alloc _).alloc _).alloc _ | exact (HF8.out.trans (HF9.out.trans HF10.out)).drewN _ | exact ((HF8.out.trans (HF9.out.trans HF10.out)).alloc _).drewN _ | exact (((HF8.out.trans (HF9.out.trans HF10.out)).alloc _).alloc _).drewN _)⟩
    | true =>
     go_wp2_with fail
     go_ret;exact ⟨ret_bool' _ _ (by simp only [*] <;> rfl), (by first | exact (HF8.out.trans (HF9.out.trans HF10.out)) | exact (HF8.out.trans (HF9.out.trans HF10.out)).alloc _ | exact ((HF8.out.trans (HF9.out.trans HF10.out)).alloc _).alloc _ | exact (((HF8.out.trans (HF9.out.trans HF10.out)).alloc _).alloc _).alloc _ | exact (HF8.out.trans (HF9.out.trans HF10.out)).drewN _ | exact ((HF8.out.trans (HF9.out.trans HF10.out)).alloc _).drewN _ | exact (((HF8.out.trans (HF9.out.trans HF10.out)).alloc _).alloc _).drewN _)⟩
 | true =>
  go_wp2_with fail
  refine forget_world (fun W => Fresh w W) (by first | exact (Touch.refl _ _) | exact (Touch.refl _ _).alloc _ | exact ((Touch.refl _ _).alloc _).alloc _ | exact (((Touch.refl _ _).alloc _).alloc _).alloc _ | exact (Touch.refl _ _).drewN _ | exact ((Touch.refl _ _).alloc _).drewN _ | exact (((Touch.refl _ _).alloc _).alloc _).drewN _) ?_;rintro w11 hfw11;have HF11 := hid hfw11;clear hfw11;have a0_w11 : World.cell? w11 ⟨g, o, none⟩ = some (.string ⟨#[109, 111]⟩) := Touch.cell HF11.out a0 (fun h => h);have a1_w11 : World.cell? w11 ⟨g, o + 1, none⟩ = some (.slice A a.length ca) := Touch.cell HF11.out a1 (fun h => h);have a2_w11 : World.cell? w11 ⟨g, o + 2, none⟩ = some (.slice B ks.length cb) := Touch.cell HF11.out a2 (fun h => h);have a3_w11 : World.cell? w11 ⟨g, o + 3, none⟩ = some (.string ⟨t.toArray⟩) := Touch.cell HF11.out a3 (fun h => h);clear a0 a1 a2 a3;have ga0_w11 := cell_regrown a0_w11;have ga1_w11 := cell_regrown a1_w11;have ga2_w11 := cell_regrown a2_w11;have ga3_w11 := cell_regrown a3_w11;have C0_w11 := hid (calmF (P := Tryz.prog) w11 (fun w hw => mletter_fresh t _));refine wp_region_quiet_below (by kernel_rfl) (by kernel_rfl) ?_
  repeat (with_reducible refine wpQuiet_step (fun K hK => ?_); go_simp; first | (refine hK _ ?_; clear hK K) | (apply Exists.intro; refine ⟨fun _ => ?_, hK _ ?_⟩; (first | with_reducible exact C0_w11.out _ _); clear hK K))
  refine wpQuiet_nil ?_;rintro w12 ⟨⟨_, _⟩, hWw12⟩;have hfw12 : Fresh w11 w12 := by rw [hWw12]; exact fresh_of_below (below_regrown _ _ _)
  clear hWw12 ga0_w11 ga1_w11 ga2_w11 ga3_w11;have HF12 := hid (show Fresh w11 w12 from by first | exact hfw12 | exact Touch.pre hfw12 | exact Touch.pre (Touch.pre hfw12) | exact Touch.ofN hfw12 | exact Touch.preN hfw12 | exact Touch.pre (Touch.pre (Touch.pre hfw12)));have a0_w12 : World.cell? w12 ⟨g, o, none⟩ = some (.string ⟨#[109, 111]⟩) := Touch.cell HF12.out a0_w11 (fun h => h);have a1_w12 : World.cell? w12 ⟨g, o + 1, none⟩ = some (.slice A a.length ca) := Touch.cell HF12.out a1_w11 (fun h => h);have a2_w12 : World.cell? w12 ⟨g, o + 2, none⟩ = some (.slice B ks.length cb) := Touch.cell HF12.out a2_w11 (fun h => h);have a3_w12 : World.cell? w12 ⟨g, o + 3, none⟩ = some (.string ⟨t.toArray⟩) := Touch.cell HF12.out a3_w11 (fun h => h);clear a0_w11 a1_w11 a2_w11 a3_w11;clear hfw12;go_wp2_with fail
  go_ret;exact ⟨ret_bool' _ _ (by simp only [*] <;> rfl), (by first | exact (HF11.out.trans HF12.out) | exact (HF11.out.trans HF12.out).alloc _ | exact ((HF11.out.trans HF12.out).alloc _).alloc _ | exact (((HF11.out.trans HF12.out).alloc _).alloc _).alloc _ | exact (HF11.out.trans HF12.out).drewN _ | exact ((HF11.out.trans HF12.out).alloc _).drewN _ | exact (((HF11.out.trans HF12.out).alloc _).alloc _).drewN _)⟩
theorem own_Mn (a : Attrs) (ks : List E) (t : List UInt8) (g o : Nat) (va vk : Value) (w : World) (he : ElAt w g o (.mk ([109, 110]) a ks t) va vk) : Calls Tryz.prog 73 #[.pointer (some ⟨g, o, none⟩)] w fun x w' => x = .returned (.bool (El.ownF (.mk ([109, 110]) a ks t))) ∧ Fresh w w' := by
 obtain ⟨A, ca, hva⟩ := he.2.2.2.2.2.1.slice;obtain ⟨B, cb, hvb⟩ := he.2.2.2.2.2.2.1.slice;replace hva : va = .slice A a.length ca := hva;replace hvb : vk = .slice B ks.length cb := hvb;subst hva;subst hvb;have htl : t.length ≤ maxLen := he.2.2.2.2.2.2.2.2;have hl1 : a.length ≤ maxLen := by obtain ⟨_, _, _, h, _⟩ := he.2.2.2.2.2.1; exact h.1
 have hl2 : ks.length ≤ maxLen := he.2.2.2.2.2.2.1.len;have HTL := hid htl;unfold maxLen at hl1 hl2 htl;have HE := hid he;obtain ⟨_, a0, a1, a2, a3, _⟩ := he;replace a0 : w.cell? ⟨g, o, none⟩ = some (.string ⟨([109, 110] : List UInt8).toArray⟩) := a0;replace a3 : w.cell? ⟨g, o + 3, none⟩ = some (.string ⟨t.toArray⟩) := a3;rw [show El.ownF (.mk ([109, 110]) a ks t) = _ from ownF_Mn];go_enter Tryz.func73, Tryz.ntmps73;go_wp2_with fail
 refine Calls.mono (leaf_is [109, 110] 3 (by rfl) _) ?_;rintro _ w13q ⟨rfl, hqw13⟩;replace hqw13 := hqw13.symm;subst hqw13;go_wp2_with fail
 refine wp_region_quiet_lit (by kernel_rfl) (by kernel_rfl) ?_
 repeat (with_reducible refine wpQuiet_step (fun K hK => ?_); go_simp; first | (refine hK _ ?_; clear hK K) | (apply Exists.intro; refine ⟨fun _ => ?_, hK _ ?_⟩; (fail); clear hK K))
 refine wpQuiet_nil ?_;rintro _ ⟨nq, rfl⟩;cases h9 : ((a.length : Int) == (0 : Int)) with
 | false =>
  have h9m : ((a.length : Int) != (0 : Int)) = true := by rw [bne, h9]; rfl
  go_wp2_with fail
  go_ret;exact ⟨ret_bool' _ _ (by simp only [*] <;> rfl), (by first | exact (Touch.refl _ _) | exact (Touch.refl _ _).alloc _ | exact ((Touch.refl _ _).alloc _).alloc _ | exact (((Touch.refl _ _).alloc _).alloc _).alloc _ | exact (Touch.refl _ _).drewN _ | exact ((Touch.refl _ _).alloc _).drewN _ | exact (((Touch.refl _ _).alloc _).alloc _).drewN _)⟩
 | true =>
  have h9m : ((a.length : Int) != (0 : Int)) = false := by rw [bne, h9]; rfl
  cases h10 : ((ks.length : Int) == (0 : Int)) with
  | false =>
   have h10m : ((ks.length : Int) != (0 : Int)) = true := by rw [bne, h10]; rfl
   go_wp2_with fail
   go_ret;exact ⟨ret_bool' _ _ (by simp only [*] <;> rfl), (by first | exact (Touch.refl _ _) | exact (Touch.refl _ _).alloc _ | exact ((Touch.refl _ _).alloc _).alloc _ | exact (((Touch.refl _ _).alloc _).alloc _).alloc _ | exact (Touch.refl _ _).drewN _ | exact ((Touch.refl _ _).alloc _).drewN _ | exact (((Touch.refl _ _).alloc _).alloc _).drewN _)⟩
  | true =>
   have h10m : ((ks.length : Int) != (0 : Int)) = false := by rw [bne, h10]; rfl
   go_wp2_with fail
   refine Calls.mono (mvalid_any 3 t 0 (by decide) HTL.out _) ?_;rintro _ w14 ⟨rfl, hfw14⟩;have HF14 := hid (show Fresh w w14 from by first | exact hfw14 | exact Touch.pre hfw14 | exact Touch.pre (Touch.pre hfw14) | exact Touch.ofN hfw14 | exact Touch.preN hfw14 | exact Touch.pre (Touch.pre (Touch.pre hfw14)));have a0_w14 : World.cell? w14 ⟨g, o, none⟩ = some (.string ⟨#[109, 110]⟩) := Touch.cell HF14.out a0 (fun h => h);have a1_w14 : World.cell? w14 ⟨g, o + 1, none⟩ = some (.slice A a.length ca) := Touch.cell HF14.out a1 (fun h => h);have a2_w14 : World.cell? w14 ⟨g, o + 2, none⟩ = some (.slice B ks.length cb) := Touch.cell HF14.out a2 (fun h => h);have a3_w14 : World.cell? w14 ⟨g, o + 3, none⟩ = some (.string ⟨t.toArray⟩) := Touch.cell HF14.out a3 (fun h => h);clear a0 a1 a2 a3;clear hfw14;cases h11 : (validI 3 t 0) with
   | false =>
    go_wp2_with fail
    go_ret;exact ⟨ret_bool' _ _ (by simp only [*] <;> rfl), (by first | exact HF14.out | exact HF14.out.alloc _ | exact (HF14.out.alloc _).alloc _ | exact ((HF14.out.alloc _).alloc _).alloc _ | exact HF14.out.drewN _ | exact (HF14.out.alloc _).drewN _ | exact ((HF14.out.alloc _).alloc _).drewN _)⟩
   | true =>
    go_wp2_with fail
    go_ret;exact ⟨ret_bool' _ _ (by simp only [*] <;> rfl), (by first | exact HF14.out | exact HF14.out.alloc _ | exact (HF14.out.alloc _).alloc _ | exact ((HF14.out.alloc _).alloc _).alloc _ | exact HF14.out.drewN _ | exact (HF14.out.alloc _).drewN _ | exact ((HF14.out.alloc _).alloc _).drewN _)⟩
theorem own_Mtext (a : Attrs) (ks : List E) (t : List UInt8) (g o : Nat) (va vk : Value) (w : World) (he : ElAt w g o (.mk ([109, 116, 101, 120, 116]) a ks t) va vk) : Calls Tryz.prog 73 #[.pointer (some ⟨g, o, none⟩)] w fun x w' => x = .returned (.bool (El.ownF (.mk ([109, 116, 101, 120, 116]) a ks t))) ∧ Fresh w w' := by
 obtain ⟨A, ca, hva⟩ := he.2.2.2.2.2.1.slice;obtain ⟨B, cb, hvb⟩ := he.2.2.2.2.2.2.1.slice;replace hva : va = .slice A a.length ca := hva;replace hvb : vk = .slice B ks.length cb := hvb;subst hva;subst hvb;have htl : t.length ≤ maxLen := he.2.2.2.2.2.2.2.2;have hl1 : a.length ≤ maxLen := by obtain ⟨_, _, _, h, _⟩ := he.2.2.2.2.2.1; exact h.1
 have hl2 : ks.length ≤ maxLen := he.2.2.2.2.2.2.1.len;have HTL := hid htl;unfold maxLen at hl1 hl2 htl;have HE := hid he;obtain ⟨_, a0, a1, a2, a3, _⟩ := he;replace a0 : w.cell? ⟨g, o, none⟩ = some (.string ⟨([109, 116, 101, 120, 116] : List UInt8).toArray⟩) := a0;replace a3 : w.cell? ⟨g, o + 3, none⟩ = some (.string ⟨t.toArray⟩) := a3;rw [show El.ownF (.mk ([109, 116, 101, 120, 116]) a ks t) = _ from ownF_Mtext];go_enter Tryz.func73, Tryz.ntmps73;go_wp2_with fail
 refine Calls.mono (leaf_is [109, 116, 101, 120, 116] 4 (by rfl) _) ?_;rintro _ w15q ⟨rfl, hqw15⟩;replace hqw15 := hqw15.symm;subst hqw15;go_wp2_with fail
 refine wp_region_quiet_lit (by kernel_rfl) (by kernel_rfl) ?_
 repeat (with_reducible refine wpQuiet_step (fun K hK => ?_); go_simp; first | (refine hK _ ?_; clear hK K) | (apply Exists.intro; refine ⟨fun _ => ?_, hK _ ?_⟩; (fail); clear hK K))
 refine wpQuiet_nil ?_;rintro _ ⟨nq, rfl⟩;cases h12 : ((a.length : Int) == (0 : Int)) with
 | false =>
  have h12m : ((a.length : Int) != (0 : Int)) = true := by rw [bne, h12]; rfl
  go_wp2_with fail
  go_ret;exact ⟨ret_bool' _ _ (by simp only [*] <;> rfl), (by first | exact (Touch.refl _ _) | exact (Touch.refl _ _).alloc _ | exact ((Touch.refl _ _).alloc _).alloc _ | exact (((Touch.refl _ _).alloc _).alloc _).alloc _ | exact (Touch.refl _ _).drewN _ | exact ((Touch.refl _ _).alloc _).drewN _ | exact (((Touch.refl _ _).alloc _).alloc _).drewN _)⟩
 | true =>
  have h12m : ((a.length : Int) != (0 : Int)) = false := by rw [bne, h12]; rfl
  cases h13 : ((ks.length : Int) == (0 : Int)) with
  | false =>
   have h13m : ((ks.length : Int) != (0 : Int)) = true := by rw [bne, h13]; rfl
   go_wp2_with fail
   go_ret;exact ⟨ret_bool' _ _ (by simp only [*] <;> rfl), (by first | exact (Touch.refl _ _) | exact (Touch.refl _ _).alloc _ | exact ((Touch.refl _ _).alloc _).alloc _ | exact (((Touch.refl _ _).alloc _).alloc _).alloc _ | exact (Touch.refl _ _).drewN _ | exact ((Touch.refl _ _).alloc _).drewN _ | exact (((Touch.refl _ _).alloc _).alloc _).drewN _)⟩
  | true =>
   have h13m : ((ks.length : Int) != (0 : Int)) = false := by rw [bne, h13]; rfl
   go_wp2_with fail
   refine Calls.mono (mvalid_any 4 t 0 (by decide) HTL.out _) ?_;rintro _ w16 ⟨rfl, hfw16⟩;have HF16 := hid (show Fresh w w16 from by first | exact hfw16 | exact Touch.pre hfw16 | exact Touch.pre (Touch.pre hfw16) | exact Touch.ofN hfw16 | exact Touch.preN hfw16 | exact Touch.pre (Touch.pre (Touch.pre hfw16)));have a0_w16 : World.cell? w16 ⟨g, o, none⟩ = some (.string ⟨#[109, 116, 101, 120, 116]⟩) := Touch.cell HF16.out a0 (fun h => h);have a1_w16 : World.cell? w16 ⟨g, o + 1, none⟩ = some (.slice A a.length ca) := Touch.cell HF16.out a1 (fun h => h);have a2_w16 : World.cell? w16 ⟨g, o + 2, none⟩ = some (.slice B ks.length cb) := Touch.cell HF16.out a2 (fun h => h);have a3_w16 : World.cell? w16 ⟨g, o + 3, none⟩ = some (.string ⟨t.toArray⟩) := Touch.cell HF16.out a3 (fun h => h);clear a0 a1 a2 a3;clear hfw16;cases h14 : (validI 4 t 0) with
   | false =>
    go_wp2_with fail
    go_ret;exact ⟨ret_bool' _ _ (by simp only [*] <;> rfl), (by first | exact HF16.out | exact HF16.out.alloc _ | exact (HF16.out.alloc _).alloc _ | exact ((HF16.out.alloc _).alloc _).alloc _ | exact HF16.out.drewN _ | exact (HF16.out.alloc _).drewN _ | exact ((HF16.out.alloc _).alloc _).drewN _)⟩
   | true =>
    go_wp2_with fail
    go_ret;exact ⟨ret_bool' _ _ (by simp only [*] <;> rfl), (by first | exact HF16.out | exact HF16.out.alloc _ | exact (HF16.out.alloc _).alloc _ | exact ((HF16.out.alloc _).alloc _).alloc _ | exact HF16.out.drewN _ | exact (HF16.out.alloc _).drewN _ | exact ((HF16.out.alloc _).alloc _).drewN _)⟩
theorem own_Math (a : Attrs) (ks : List E) (t : List UInt8) (g o : Nat) (va vk : Value) (w : World) (he : ElAt w g o (.mk ([109, 97, 116, 104]) a ks t) va vk) : Calls Tryz.prog 73 #[.pointer (some ⟨g, o, none⟩)] w fun x w' => x = .returned (.bool (El.ownF (.mk ([109, 97, 116, 104]) a ks t))) ∧ Fresh w w' := by
 obtain ⟨A, ca, hva⟩ := he.2.2.2.2.2.1.slice;obtain ⟨B, cb, hvb⟩ := he.2.2.2.2.2.2.1.slice;replace hva : va = .slice A a.length ca := hva;replace hvb : vk = .slice B ks.length cb := hvb;subst hva;subst hvb;have htl : t.length ≤ maxLen := he.2.2.2.2.2.2.2.2;have hl1 : a.length ≤ maxLen := by obtain ⟨_, _, _, h, _⟩ := he.2.2.2.2.2.1; exact h.1
 have hl2 : ks.length ≤ maxLen := he.2.2.2.2.2.2.1.len;have HTL := hid htl;unfold maxLen at hl1 hl2 htl;have HE := hid he;obtain ⟨_, a0, a1, a2, a3, _⟩ := he;replace a0 : w.cell? ⟨g, o, none⟩ = some (.string ⟨([109, 97, 116, 104] : List UInt8).toArray⟩) := a0;replace a3 : w.cell? ⟨g, o + 3, none⟩ = some (.string ⟨t.toArray⟩) := a3;rw [show El.ownF (.mk ([109, 97, 116, 104]) a ks t) = _ from ownF_Math];go_enter Tryz.func73, Tryz.ntmps73;go_wp2_with fail
 refine Calls.mono (leaf_is [109, 97, 116, 104] 0 (by rfl) _) ?_;rintro _ w17q ⟨rfl, hqw17⟩;replace hqw17 := hqw17.symm;subst hqw17;go_wp2_with fail
 refine wp_region_quiet_lit (by kernel_rfl) (by kernel_rfl) ?_
 repeat (with_reducible refine wpQuiet_step (fun K hK => ?_); go_simp; first | (refine hK _ ?_; clear hK K) | (apply Exists.intro; refine ⟨fun _ => ?_, hK _ ?_⟩; (fail); clear hK K))
 refine wpQuiet_nil ?_;rintro _ ⟨nq, rfl⟩;cases h15 : (t == ([] : List UInt8)) with
 | false =>
  have h15s : ((⟨t.toArray⟩ : ByteArray) == (⟨#[]⟩ : ByteArray)) = false := by rw [str_eq']; exact h15
  have h15t : ((⟨t.toArray⟩ : ByteArray) != (⟨#[]⟩ : ByteArray)) = true := by rw [bne, h15s]; rfl
  have h15e : (ByteArray.toList (⟨t.toArray⟩ : ByteArray)).isEmpty = false := by rw [isEmpty_str]; exact h15
  go_wp2_with fail
  go_ret;exact ⟨ret_bool' _ _ (by first | rfl | (simp only [*] <;> rfl)), (by first | exact (Touch.refl _ _) | exact (Touch.refl _ _).alloc _ | exact ((Touch.refl _ _).alloc _).alloc _ | exact (((Touch.refl _ _).alloc _).alloc _).alloc _ | exact (Touch.refl _ _).drewN _ | exact ((Touch.refl _ _).alloc _).drewN _ | exact (((Touch.refl _ _).alloc _).alloc _).drewN _)⟩
 | true =>
  have h15s : ((⟨t.toArray⟩ : ByteArray) == (⟨#[]⟩ : ByteArray)) = true := by rw [str_eq']; exact h15
  have h15t : ((⟨t.toArray⟩ : ByteArray) != (⟨#[]⟩ : ByteArray)) = false := by rw [bne, h15s]; rfl
  have h15e : (ByteArray.toList (⟨t.toArray⟩ : ByteArray)).isEmpty = true := by rw [isEmpty_str]; exact h15
  cases h16 : ((a.length : Int) == (0 : Int)) with
  | false =>
   have h16m : ((a.length : Int) != (0 : Int)) = true := by rw [bne, h16]; rfl
   go_wp2_with fail
   go_ret;exact ⟨ret_bool' _ _ (by first | rfl | (simp only [*] <;> rfl)), (by first | exact (Touch.refl _ _) | exact (Touch.refl _ _).alloc _ | exact ((Touch.refl _ _).alloc _).alloc _ | exact (((Touch.refl _ _).alloc _).alloc _).alloc _ | exact (Touch.refl _ _).drewN _ | exact ((Touch.refl _ _).alloc _).drewN _ | exact (((Touch.refl _ _).alloc _).alloc _).drewN _)⟩
  | true =>
   have h16m : ((a.length : Int) != (0 : Int)) = false := by rw [bne, h16]; rfl
   go_wp2_with fail
   go_ret;exact ⟨ret_bool' _ _ (by first | rfl | (simp only [*] <;> rfl)), (by first | exact (Touch.refl _ _) | exact (Touch.refl _ _).alloc _ | exact ((Touch.refl _ _).alloc _).alloc _ | exact (((Touch.refl _ _).alloc _).alloc _).alloc _ | exact (Touch.refl _ _).drewN _ | exact ((Touch.refl _ _).alloc _).drewN _ | exact (((Touch.refl _ _).alloc _).alloc _).drewN _)⟩
theorem own_Mrow (a : Attrs) (ks : List E) (t : List UInt8) (g o : Nat) (va vk : Value) (w : World) (he : ElAt w g o (.mk ([109, 114, 111, 119]) a ks t) va vk) : Calls Tryz.prog 73 #[.pointer (some ⟨g, o, none⟩)] w fun x w' => x = .returned (.bool (El.ownF (.mk ([109, 114, 111, 119]) a ks t))) ∧ Fresh w w' := by
 obtain ⟨A, ca, hva⟩ := he.2.2.2.2.2.1.slice;obtain ⟨B, cb, hvb⟩ := he.2.2.2.2.2.2.1.slice;replace hva : va = .slice A a.length ca := hva;replace hvb : vk = .slice B ks.length cb := hvb;subst hva;subst hvb;have htl : t.length ≤ maxLen := he.2.2.2.2.2.2.2.2;have hl1 : a.length ≤ maxLen := by obtain ⟨_, _, _, h, _⟩ := he.2.2.2.2.2.1; exact h.1
 have hl2 : ks.length ≤ maxLen := he.2.2.2.2.2.2.1.len;have HTL := hid htl;unfold maxLen at hl1 hl2 htl;have HE := hid he;obtain ⟨_, a0, a1, a2, a3, _⟩ := he;replace a0 : w.cell? ⟨g, o, none⟩ = some (.string ⟨([109, 114, 111, 119] : List UInt8).toArray⟩) := a0;replace a3 : w.cell? ⟨g, o + 3, none⟩ = some (.string ⟨t.toArray⟩) := a3;rw [show El.ownF (.mk ([109, 114, 111, 119]) a ks t) = _ from ownF_Mrow];go_enter Tryz.func73, Tryz.ntmps73;go_wp2_with fail
 refine Calls.mono (leaf_is [109, 114, 111, 119] 0 (by rfl) _) ?_;rintro _ w18q ⟨rfl, hqw18⟩;replace hqw18 := hqw18.symm;subst hqw18;go_wp2_with fail
 refine wp_region_quiet_lit (by kernel_rfl) (by kernel_rfl) ?_
 repeat (with_reducible refine wpQuiet_step (fun K hK => ?_); go_simp; first | (refine hK _ ?_; clear hK K) | (apply Exists.intro; refine ⟨fun _ => ?_, hK _ ?_⟩; (fail); clear hK K))
 refine wpQuiet_nil ?_;rintro _ ⟨nq, rfl⟩;cases h17 : (t == ([] : List UInt8)) with
 | false =>
  have h17s : ((⟨t.toArray⟩ : ByteArray) == (⟨#[]⟩ : ByteArray)) = false := by rw [str_eq']; exact h17
  have h17t : ((⟨t.toArray⟩ : ByteArray) != (⟨#[]⟩ : ByteArray)) = true := by rw [bne, h17s]; rfl
  have h17e : (ByteArray.toList (⟨t.toArray⟩ : ByteArray)).isEmpty = false := by rw [isEmpty_str]; exact h17
  go_wp2_with fail
  go_ret;exact ⟨ret_bool' _ _ (by first | rfl | (simp only [*] <;> rfl)), (by first | exact (Touch.refl _ _) | exact (Touch.refl _ _).alloc _ | exact ((Touch.refl _ _).alloc _).alloc _ | exact (((Touch.refl _ _).alloc _).alloc _).alloc _ | exact (Touch.refl _ _).drewN _ | exact ((Touch.refl _ _).alloc _).drewN _ | exact (((Touch.refl _ _).alloc _).alloc _).drewN _)⟩
 | true =>
  have h17s : ((⟨t.toArray⟩ : ByteArray) == (⟨#[]⟩ : ByteArray)) = true := by rw [str_eq']; exact h17
  have h17t : ((⟨t.toArray⟩ : ByteArray) != (⟨#[]⟩ : ByteArray)) = false := by rw [bne, h17s]; rfl
  have h17e : (ByteArray.toList (⟨t.toArray⟩ : ByteArray)).isEmpty = true := by rw [isEmpty_str]; exact h17
  cases h18 : ((a.length : Int) == (0 : Int)) with
  | false =>
   have h18m : ((a.length : Int) != (0 : Int)) = true := by rw [bne, h18]; rfl
   go_wp2_with fail
   go_ret;exact ⟨ret_bool' _ _ (by first | rfl | (simp only [*] <;> rfl)), (by first | exact (Touch.refl _ _) | exact (Touch.refl _ _).alloc _ | exact ((Touch.refl _ _).alloc _).alloc _ | exact (((Touch.refl _ _).alloc _).alloc _).alloc _ | exact (Touch.refl _ _).drewN _ | exact ((Touch.refl _ _).alloc _).drewN _ | exact (((Touch.refl _ _).alloc _).alloc _).drewN _)⟩
  | true =>
   have h18m : ((a.length : Int) != (0 : Int)) = false := by rw [bne, h18]; rfl
   go_wp2_with fail
   go_ret;exact ⟨ret_bool' _ _ (by first | rfl | (simp only [*] <;> rfl)), (by first | exact (Touch.refl _ _) | exact (Touch.refl _ _).alloc _ | exact ((Touch.refl _ _).alloc _).alloc _ | exact (((Touch.refl _ _).alloc _).alloc _).alloc _ | exact (Touch.refl _ _).drewN _ | exact ((Touch.refl _ _).alloc _).drewN _ | exact (((Touch.refl _ _).alloc _).alloc _).drewN _)⟩
theorem own_Mtd (a : Attrs) (ks : List E) (t : List UInt8) (g o : Nat) (va vk : Value) (w : World) (he : ElAt w g o (.mk ([109, 116, 100]) a ks t) va vk) : Calls Tryz.prog 73 #[.pointer (some ⟨g, o, none⟩)] w fun x w' => x = .returned (.bool (El.ownF (.mk ([109, 116, 100]) a ks t))) ∧ Fresh w w' := by
 obtain ⟨A, ca, hva⟩ := he.2.2.2.2.2.1.slice;obtain ⟨B, cb, hvb⟩ := he.2.2.2.2.2.2.1.slice;replace hva : va = .slice A a.length ca := hva;replace hvb : vk = .slice B ks.length cb := hvb;subst hva;subst hvb;have htl : t.length ≤ maxLen := he.2.2.2.2.2.2.2.2;have hl1 : a.length ≤ maxLen := by obtain ⟨_, _, _, h, _⟩ := he.2.2.2.2.2.1; exact h.1
 have hl2 : ks.length ≤ maxLen := he.2.2.2.2.2.2.1.len;have HTL := hid htl;unfold maxLen at hl1 hl2 htl;have HE := hid he;obtain ⟨_, a0, a1, a2, a3, _⟩ := he;replace a0 : w.cell? ⟨g, o, none⟩ = some (.string ⟨([109, 116, 100] : List UInt8).toArray⟩) := a0;replace a3 : w.cell? ⟨g, o + 3, none⟩ = some (.string ⟨t.toArray⟩) := a3;rw [show El.ownF (.mk ([109, 116, 100]) a ks t) = _ from ownF_Mtd];go_enter Tryz.func73, Tryz.ntmps73;go_wp2_with fail
 refine Calls.mono (leaf_is [109, 116, 100] 0 (by rfl) _) ?_;rintro _ w19q ⟨rfl, hqw19⟩;replace hqw19 := hqw19.symm;subst hqw19;go_wp2_with fail
 refine wp_region_quiet_lit (by kernel_rfl) (by kernel_rfl) ?_
 repeat (with_reducible refine wpQuiet_step (fun K hK => ?_); go_simp; first | (refine hK _ ?_; clear hK K) | (apply Exists.intro; refine ⟨fun _ => ?_, hK _ ?_⟩; (fail); clear hK K))
 refine wpQuiet_nil ?_;rintro _ ⟨nq, rfl⟩;cases h19 : (t == ([] : List UInt8)) with
 | false =>
  have h19s : ((⟨t.toArray⟩ : ByteArray) == (⟨#[]⟩ : ByteArray)) = false := by rw [str_eq']; exact h19
  have h19t : ((⟨t.toArray⟩ : ByteArray) != (⟨#[]⟩ : ByteArray)) = true := by rw [bne, h19s]; rfl
  have h19e : (ByteArray.toList (⟨t.toArray⟩ : ByteArray)).isEmpty = false := by rw [isEmpty_str]; exact h19
  go_wp2_with fail
  go_ret;exact ⟨ret_bool' _ _ (by first | rfl | (simp only [*] <;> rfl)), (by first | exact (Touch.refl _ _) | exact (Touch.refl _ _).alloc _ | exact ((Touch.refl _ _).alloc _).alloc _ | exact (((Touch.refl _ _).alloc _).alloc _).alloc _ | exact (Touch.refl _ _).drewN _ | exact ((Touch.refl _ _).alloc _).drewN _ | exact (((Touch.refl _ _).alloc _).alloc _).drewN _)⟩
 | true =>
  have h19s : ((⟨t.toArray⟩ : ByteArray) == (⟨#[]⟩ : ByteArray)) = true := by rw [str_eq']; exact h19
  have h19t : ((⟨t.toArray⟩ : ByteArray) != (⟨#[]⟩ : ByteArray)) = false := by rw [bne, h19s]; rfl
  have h19e : (ByteArray.toList (⟨t.toArray⟩ : ByteArray)).isEmpty = true := by rw [isEmpty_str]; exact h19
  cases h20 : ((a.length : Int) == (0 : Int)) with
  | false =>
   have h20m : ((a.length : Int) != (0 : Int)) = true := by rw [bne, h20]; rfl
   go_wp2_with fail
   go_ret;exact ⟨ret_bool' _ _ (by first | rfl | (simp only [*] <;> rfl)), (by first | exact (Touch.refl _ _) | exact (Touch.refl _ _).alloc _ | exact ((Touch.refl _ _).alloc _).alloc _ | exact (((Touch.refl _ _).alloc _).alloc _).alloc _ | exact (Touch.refl _ _).drewN _ | exact ((Touch.refl _ _).alloc _).drewN _ | exact (((Touch.refl _ _).alloc _).alloc _).drewN _)⟩
  | true =>
   have h20m : ((a.length : Int) != (0 : Int)) = false := by rw [bne, h20]; rfl
   go_wp2_with fail
   go_ret;exact ⟨ret_bool' _ _ (by first | rfl | (simp only [*] <;> rfl)), (by first | exact (Touch.refl _ _) | exact (Touch.refl _ _).alloc _ | exact ((Touch.refl _ _).alloc _).alloc _ | exact (((Touch.refl _ _).alloc _).alloc _).alloc _ | exact (Touch.refl _ _).drewN _ | exact ((Touch.refl _ _).alloc _).drewN _ | exact (((Touch.refl _ _).alloc _).alloc _).drewN _)⟩
theorem own_Mtable (a : Attrs) (ks : List E) (t : List UInt8) (g o : Nat) (va vk : Value) (w : World) (he : ElAt w g o (.mk ([109, 116, 97, 98, 108, 101]) a ks t) va vk) : Calls Tryz.prog 73 #[.pointer (some ⟨g, o, none⟩)] w fun x w' => x = .returned (.bool (El.ownF (.mk ([109, 116, 97, 98, 108, 101]) a ks t))) ∧ Fresh w w' := by
 obtain ⟨A, ca, hva⟩ := he.2.2.2.2.2.1.slice;obtain ⟨B, cb, hvb⟩ := he.2.2.2.2.2.2.1.slice;replace hva : va = .slice A a.length ca := hva;replace hvb : vk = .slice B ks.length cb := hvb;subst hva;subst hvb;have htl : t.length ≤ maxLen := he.2.2.2.2.2.2.2.2;have hl1 : a.length ≤ maxLen := by obtain ⟨_, _, _, h, _⟩ := he.2.2.2.2.2.1; exact h.1
 have hl2 : ks.length ≤ maxLen := he.2.2.2.2.2.2.1.len;have HTL := hid htl;unfold maxLen at hl1 hl2 htl;have HE := hid he;obtain ⟨_, a0, a1, a2, a3, _⟩ := he;replace a0 : w.cell? ⟨g, o, none⟩ = some (.string ⟨([109, 116, 97, 98, 108, 101] : List UInt8).toArray⟩) := a0;replace a3 : w.cell? ⟨g, o + 3, none⟩ = some (.string ⟨t.toArray⟩) := a3;rw [show El.ownF (.mk ([109, 116, 97, 98, 108, 101]) a ks t) = _ from ownF_Mtable];go_enter Tryz.func73, Tryz.ntmps73;go_wp2_with fail
 refine Calls.mono (leaf_is [109, 116, 97, 98, 108, 101] 0 (by rfl) _) ?_;rintro _ w20q ⟨rfl, hqw20⟩;replace hqw20 := hqw20.symm;subst hqw20;go_wp2_with fail
 refine wp_region_quiet_lit (by kernel_rfl) (by kernel_rfl) ?_
 repeat (with_reducible refine wpQuiet_step (fun K hK => ?_); go_simp; first | (refine hK _ ?_; clear hK K) | (apply Exists.intro; refine ⟨fun _ => ?_, hK _ ?_⟩; (fail); clear hK K))
 refine wpQuiet_nil ?_;rintro _ ⟨nq, rfl⟩;cases h21 : (t == ([] : List UInt8)) with
 | false =>
  have h21s : ((⟨t.toArray⟩ : ByteArray) == (⟨#[]⟩ : ByteArray)) = false := by rw [str_eq']; exact h21
  have h21t : ((⟨t.toArray⟩ : ByteArray) != (⟨#[]⟩ : ByteArray)) = true := by rw [bne, h21s]; rfl
  have h21e : (ByteArray.toList (⟨t.toArray⟩ : ByteArray)).isEmpty = false := by rw [isEmpty_str]; exact h21
  go_wp2_with fail
  go_ret;exact ⟨ret_bool' _ _ (by first | rfl | (simp only [*] <;> rfl)), (by first | exact (Touch.refl _ _) | exact (Touch.refl _ _).alloc _ | exact ((Touch.refl _ _).alloc _).alloc _ | exact (((Touch.refl _ _).alloc _).alloc _).alloc _ | exact (Touch.refl _ _).drewN _ | exact ((Touch.refl _ _).alloc _).drewN _ | exact (((Touch.refl _ _).alloc _).alloc _).drewN _)⟩
 | true =>
  have h21s : ((⟨t.toArray⟩ : ByteArray) == (⟨#[]⟩ : ByteArray)) = true := by rw [str_eq']; exact h21
  have h21t : ((⟨t.toArray⟩ : ByteArray) != (⟨#[]⟩ : ByteArray)) = false := by rw [bne, h21s]; rfl
  have h21e : (ByteArray.toList (⟨t.toArray⟩ : ByteArray)).isEmpty = true := by rw [isEmpty_str]; exact h21
  cases h22 : decide ((1 : Int) ≤ (ks.length : Int)) with
  | false =>
   have h22n : decide (1 ≤ ks.length) = false := by have hx := h22; simp only [decide_eq_false_iff_not] at hx ⊢; omega
   go_wp2_with fail
   go_ret;exact ⟨ret_bool' _ _ (by first | rfl | (simp only [*] <;> rfl)), (by first | exact (Touch.refl _ _) | exact (Touch.refl _ _).alloc _ | exact ((Touch.refl _ _).alloc _).alloc _ | exact (((Touch.refl _ _).alloc _).alloc _).alloc _ | exact (Touch.refl _ _).drewN _ | exact ((Touch.refl _ _).alloc _).drewN _ | exact (((Touch.refl _ _).alloc _).alloc _).drewN _)⟩
  | true =>
   have h22n : decide (1 ≤ ks.length) = true := by have hx := h22; simp only [decide_eq_true_eq] at hx ⊢; omega
   cases h23 : ((a.length : Int) == (0 : Int)) with
   | false =>
    have h23m : ((a.length : Int) != (0 : Int)) = true := by rw [bne, h23]; rfl
    go_wp2_with fail
    go_ret;exact ⟨ret_bool' _ _ (by first | rfl | (simp only [*] <;> rfl)), (by first | exact (Touch.refl _ _) | exact (Touch.refl _ _).alloc _ | exact ((Touch.refl _ _).alloc _).alloc _ | exact (((Touch.refl _ _).alloc _).alloc _).alloc _ | exact (Touch.refl _ _).drewN _ | exact ((Touch.refl _ _).alloc _).drewN _ | exact (((Touch.refl _ _).alloc _).alloc _).drewN _)⟩
   | true =>
    have h23m : ((a.length : Int) != (0 : Int)) = false := by rw [bne, h23]; rfl
    go_wp2_with fail
    go_ret;exact ⟨ret_bool' _ _ (by first | rfl | (simp only [*] <;> rfl)), (by first | exact (Touch.refl _ _) | exact (Touch.refl _ _).alloc _ | exact ((Touch.refl _ _).alloc _).alloc _ | exact (((Touch.refl _ _).alloc _).alloc _).alloc _ | exact (Touch.refl _ _).drewN _ | exact ((Touch.refl _ _).alloc _).drewN _ | exact (((Touch.refl _ _).alloc _).alloc _).drewN _)⟩
theorem own_Mtr (a : Attrs) (ks : List E) (t : List UInt8) (g o : Nat) (va vk : Value) (w : World) (he : ElAt w g o (.mk ([109, 116, 114]) a ks t) va vk) : Calls Tryz.prog 73 #[.pointer (some ⟨g, o, none⟩)] w fun x w' => x = .returned (.bool (El.ownF (.mk ([109, 116, 114]) a ks t))) ∧ Fresh w w' := by
 obtain ⟨A, ca, hva⟩ := he.2.2.2.2.2.1.slice;obtain ⟨B, cb, hvb⟩ := he.2.2.2.2.2.2.1.slice;replace hva : va = .slice A a.length ca := hva;replace hvb : vk = .slice B ks.length cb := hvb;subst hva;subst hvb;have htl : t.length ≤ maxLen := he.2.2.2.2.2.2.2.2;have hl1 : a.length ≤ maxLen := by obtain ⟨_, _, _, h, _⟩ := he.2.2.2.2.2.1; exact h.1
 have hl2 : ks.length ≤ maxLen := he.2.2.2.2.2.2.1.len;have HTL := hid htl;unfold maxLen at hl1 hl2 htl;have HE := hid he;obtain ⟨_, a0, a1, a2, a3, _⟩ := he;replace a0 : w.cell? ⟨g, o, none⟩ = some (.string ⟨([109, 116, 114] : List UInt8).toArray⟩) := a0;replace a3 : w.cell? ⟨g, o + 3, none⟩ = some (.string ⟨t.toArray⟩) := a3;rw [show El.ownF (.mk ([109, 116, 114]) a ks t) = _ from ownF_Mtr];go_enter Tryz.func73, Tryz.ntmps73;go_wp2_with fail
 refine Calls.mono (leaf_is [109, 116, 114] 0 (by rfl) _) ?_;rintro _ w21q ⟨rfl, hqw21⟩;replace hqw21 := hqw21.symm;subst hqw21;go_wp2_with fail
 refine wp_region_quiet_lit (by kernel_rfl) (by kernel_rfl) ?_
 repeat (with_reducible refine wpQuiet_step (fun K hK => ?_); go_simp; first | (refine hK _ ?_; clear hK K) | (apply Exists.intro; refine ⟨fun _ => ?_, hK _ ?_⟩; (fail); clear hK K))
 refine wpQuiet_nil ?_;rintro _ ⟨nq, rfl⟩;cases h24 : (t == ([] : List UInt8)) with
 | false =>
  have h24s : ((⟨t.toArray⟩ : ByteArray) == (⟨#[]⟩ : ByteArray)) = false := by rw [str_eq']; exact h24
  have h24t : ((⟨t.toArray⟩ : ByteArray) != (⟨#[]⟩ : ByteArray)) = true := by rw [bne, h24s]; rfl
  have h24e : (ByteArray.toList (⟨t.toArray⟩ : ByteArray)).isEmpty = false := by rw [isEmpty_str]; exact h24
  go_wp2_with fail
  go_ret;exact ⟨ret_bool' _ _ (by first | rfl | (simp only [*] <;> rfl)), (by first | exact (Touch.refl _ _) | exact (Touch.refl _ _).alloc _ | exact ((Touch.refl _ _).alloc _).alloc _ | exact (((Touch.refl _ _).alloc _).alloc _).alloc _ | exact (Touch.refl _ _).drewN _ | exact ((Touch.refl _ _).alloc _).drewN _ | exact (((Touch.refl _ _).alloc _).alloc _).drewN _)⟩
 | true =>
  have h24s : ((⟨t.toArray⟩ : ByteArray) == (⟨#[]⟩ : ByteArray)) = true := by rw [str_eq']; exact h24
  have h24t : ((⟨t.toArray⟩ : ByteArray) != (⟨#[]⟩ : ByteArray)) = false := by rw [bne, h24s]; rfl
  have h24e : (ByteArray.toList (⟨t.toArray⟩ : ByteArray)).isEmpty = true := by rw [isEmpty_str]; exact h24
  cases h25 : decide ((1 : Int) ≤ (ks.length : Int)) with
  | false =>
   have h25n : decide (1 ≤ ks.length) = false := by have hx := h25; simp only [decide_eq_false_iff_not] at hx ⊢; omega
   go_wp2_with fail
   go_ret;exact ⟨ret_bool' _ _ (by first | rfl | (simp only [*] <;> rfl)), (by first | exact (Touch.refl _ _) | exact (Touch.refl _ _).alloc _ | exact ((Touch.refl _ _).alloc _).alloc _ | exact (((Touch.refl _ _).alloc _).alloc _).alloc _ | exact (Touch.refl _ _).drewN _ | exact ((Touch.refl _ _).alloc _).drewN _ | exact (((Touch.refl _ _).alloc _).alloc _).drewN _)⟩
  | true =>
   have h25n : decide (1 ≤ ks.length) = true := by have hx := h25; simp only [decide_eq_true_eq] at hx ⊢; omega
   cases h26 : decide ((ks.length : Int) ≤ (16 : Int)) with
   | false =>
    have h26n : decide (ks.length ≤ 16) = false := by have hx := h26; simp only [decide_eq_false_iff_not] at hx ⊢; omega
    go_wp2_with fail
    go_ret;exact ⟨ret_bool' _ _ (by first | rfl | (simp only [*] <;> rfl)), (by first | exact (Touch.refl _ _) | exact (Touch.refl _ _).alloc _ | exact ((Touch.refl _ _).alloc _).alloc _ | exact (((Touch.refl _ _).alloc _).alloc _).alloc _ | exact (Touch.refl _ _).drewN _ | exact ((Touch.refl _ _).alloc _).drewN _ | exact (((Touch.refl _ _).alloc _).alloc _).drewN _)⟩
   | true =>
    have h26n : decide (ks.length ≤ 16) = true := by have hx := h26; simp only [decide_eq_true_eq] at hx ⊢; omega
    cases h27 : ((a.length : Int) == (0 : Int)) with
    | false =>
     have h27m : ((a.length : Int) != (0 : Int)) = true := by rw [bne, h27]; rfl
     go_wp2_with fail
     go_ret;exact ⟨ret_bool' _ _ (by first | rfl | (simp only [*] <;> rfl)), (by first | exact (Touch.refl _ _) | exact (Touch.refl _ _).alloc _ | exact ((Touch.refl _ _).alloc _).alloc _ | exact (((Touch.refl _ _).alloc _).alloc _).alloc _ | exact (Touch.refl _ _).drewN _ | exact ((Touch.refl _ _).alloc _).drewN _ | exact (((Touch.refl _ _).alloc _).alloc _).drewN _)⟩
    | true =>
     have h27m : ((a.length : Int) != (0 : Int)) = false := by rw [bne, h27]; rfl
     go_wp2_with fail
     go_ret;exact ⟨ret_bool' _ _ (by first | rfl | (simp only [*] <;> rfl)), (by first | exact (Touch.refl _ _) | exact (Touch.refl _ _).alloc _ | exact ((Touch.refl _ _).alloc _).alloc _ | exact (((Touch.refl _ _).alloc _).alloc _).alloc _ | exact (Touch.refl _ _).drewN _ | exact ((Touch.refl _ _).alloc _).drewN _ | exact (((Touch.refl _ _).alloc _).alloc _).drewN _)⟩
theorem own_Mfrac (a : Attrs) (ks : List E) (t : List UInt8) (g o : Nat) (va vk : Value) (w : World) (he : ElAt w g o (.mk ([109, 102, 114, 97, 99]) a ks t) va vk) : Calls Tryz.prog 73 #[.pointer (some ⟨g, o, none⟩)] w fun x w' => x = .returned (.bool (El.ownF (.mk ([109, 102, 114, 97, 99]) a ks t))) ∧ Fresh w w' := by
 obtain ⟨A, ca, hva⟩ := he.2.2.2.2.2.1.slice;obtain ⟨B, cb, hvb⟩ := he.2.2.2.2.2.2.1.slice;replace hva : va = .slice A a.length ca := hva;replace hvb : vk = .slice B ks.length cb := hvb;subst hva;subst hvb;have htl : t.length ≤ maxLen := he.2.2.2.2.2.2.2.2;have hl1 : a.length ≤ maxLen := by obtain ⟨_, _, _, h, _⟩ := he.2.2.2.2.2.1; exact h.1
 have hl2 : ks.length ≤ maxLen := he.2.2.2.2.2.2.1.len;have HTL := hid htl;unfold maxLen at hl1 hl2 htl;have HE := hid he;obtain ⟨_, a0, a1, a2, a3, _⟩ := he;replace a0 : w.cell? ⟨g, o, none⟩ = some (.string ⟨([109, 102, 114, 97, 99] : List UInt8).toArray⟩) := a0;replace a3 : w.cell? ⟨g, o + 3, none⟩ = some (.string ⟨t.toArray⟩) := a3;rw [show El.ownF (.mk ([109, 102, 114, 97, 99]) a ks t) = _ from ownF_Mfrac];go_enter Tryz.func73, Tryz.ntmps73;go_wp2_with fail
 refine Calls.mono (leaf_is [109, 102, 114, 97, 99] 0 (by rfl) _) ?_;rintro _ w22q ⟨rfl, hqw22⟩;replace hqw22 := hqw22.symm;subst hqw22;go_wp2_with fail
 refine wp_region_quiet_lit (by kernel_rfl) (by kernel_rfl) ?_
 repeat (with_reducible refine wpQuiet_step (fun K hK => ?_); go_simp; first | (refine hK _ ?_; clear hK K) | (apply Exists.intro; refine ⟨fun _ => ?_, hK _ ?_⟩; (fail); clear hK K))
 refine wpQuiet_nil ?_;rintro _ ⟨nq, rfl⟩;cases h28 : (t == ([] : List UInt8)) with
 | false =>
  have h28s : ((⟨t.toArray⟩ : ByteArray) == (⟨#[]⟩ : ByteArray)) = false := by rw [str_eq']; exact h28
  have h28t : ((⟨t.toArray⟩ : ByteArray) != (⟨#[]⟩ : ByteArray)) = true := by rw [bne, h28s]; rfl
  have h28e : (ByteArray.toList (⟨t.toArray⟩ : ByteArray)).isEmpty = false := by rw [isEmpty_str]; exact h28
  go_wp2_with fail
  go_ret;exact ⟨ret_bool' _ _ (by first | rfl | (simp only [*] <;> rfl)), (by first | exact (Touch.refl _ _) | exact (Touch.refl _ _).alloc _ | exact ((Touch.refl _ _).alloc _).alloc _ | exact (((Touch.refl _ _).alloc _).alloc _).alloc _ | exact (Touch.refl _ _).drewN _ | exact ((Touch.refl _ _).alloc _).drewN _ | exact (((Touch.refl _ _).alloc _).alloc _).drewN _)⟩
 | true =>
  have h28s : ((⟨t.toArray⟩ : ByteArray) == (⟨#[]⟩ : ByteArray)) = true := by rw [str_eq']; exact h28
  have h28t : ((⟨t.toArray⟩ : ByteArray) != (⟨#[]⟩ : ByteArray)) = false := by rw [bne, h28s]; rfl
  have h28e : (ByteArray.toList (⟨t.toArray⟩ : ByteArray)).isEmpty = true := by rw [isEmpty_str]; exact h28
  cases h29 : ((ks.length : Int) == (2 : Int)) with
  | false =>
   have h29m : ((ks.length : Int) != (2 : Int)) = true := by rw [bne, h29]; rfl
   go_wp2_with fail
   go_ret;exact ⟨ret_bool' _ _ (by first | rfl | (simp only [*] <;> rfl)), (by first | exact (Touch.refl _ _) | exact (Touch.refl _ _).alloc _ | exact ((Touch.refl _ _).alloc _).alloc _ | exact (((Touch.refl _ _).alloc _).alloc _).alloc _ | exact (Touch.refl _ _).drewN _ | exact ((Touch.refl _ _).alloc _).drewN _ | exact (((Touch.refl _ _).alloc _).alloc _).drewN _)⟩
  | true =>
   have h29m : ((ks.length : Int) != (2 : Int)) = false := by rw [bne, h29]; rfl
   cases h30 : ((a.length : Int) == (0 : Int)) with
   | false =>
    have h30m : ((a.length : Int) != (0 : Int)) = true := by rw [bne, h30]; rfl
    go_wp2_with fail
    go_ret;exact ⟨ret_bool' _ _ (by first | rfl | (simp only [*] <;> rfl)), (by first | exact (Touch.refl _ _) | exact (Touch.refl _ _).alloc _ | exact ((Touch.refl _ _).alloc _).alloc _ | exact (((Touch.refl _ _).alloc _).alloc _).alloc _ | exact (Touch.refl _ _).drewN _ | exact ((Touch.refl _ _).alloc _).drewN _ | exact (((Touch.refl _ _).alloc _).alloc _).drewN _)⟩
   | true =>
    have h30m : ((a.length : Int) != (0 : Int)) = false := by rw [bne, h30]; rfl
    go_wp2_with fail
    go_ret;exact ⟨ret_bool' _ _ (by first | rfl | (simp only [*] <;> rfl)), (by first | exact (Touch.refl _ _) | exact (Touch.refl _ _).alloc _ | exact ((Touch.refl _ _).alloc _).alloc _ | exact (((Touch.refl _ _).alloc _).alloc _).alloc _ | exact (Touch.refl _ _).drewN _ | exact ((Touch.refl _ _).alloc _).drewN _ | exact (((Touch.refl _ _).alloc _).alloc _).drewN _)⟩
theorem own_Mroot (a : Attrs) (ks : List E) (t : List UInt8) (g o : Nat) (va vk : Value) (w : World) (he : ElAt w g o (.mk ([109, 114, 111, 111, 116]) a ks t) va vk) : Calls Tryz.prog 73 #[.pointer (some ⟨g, o, none⟩)] w fun x w' => x = .returned (.bool (El.ownF (.mk ([109, 114, 111, 111, 116]) a ks t))) ∧ Fresh w w' := by
 obtain ⟨A, ca, hva⟩ := he.2.2.2.2.2.1.slice;obtain ⟨B, cb, hvb⟩ := he.2.2.2.2.2.2.1.slice;replace hva : va = .slice A a.length ca := hva;replace hvb : vk = .slice B ks.length cb := hvb;subst hva;subst hvb;have htl : t.length ≤ maxLen := he.2.2.2.2.2.2.2.2;have hl1 : a.length ≤ maxLen := by obtain ⟨_, _, _, h, _⟩ := he.2.2.2.2.2.1; exact h.1
 have hl2 : ks.length ≤ maxLen := he.2.2.2.2.2.2.1.len;have HTL := hid htl;unfold maxLen at hl1 hl2 htl;have HE := hid he;obtain ⟨_, a0, a1, a2, a3, _⟩ := he;replace a0 : w.cell? ⟨g, o, none⟩ = some (.string ⟨([109, 114, 111, 111, 116] : List UInt8).toArray⟩) := a0;replace a3 : w.cell? ⟨g, o + 3, none⟩ = some (.string ⟨t.toArray⟩) := a3;rw [show El.ownF (.mk ([109, 114, 111, 111, 116]) a ks t) = _ from ownF_Mroot];go_enter Tryz.func73, Tryz.ntmps73;go_wp2_with fail
 refine Calls.mono (leaf_is [109, 114, 111, 111, 116] 0 (by rfl) _) ?_;rintro _ w23q ⟨rfl, hqw23⟩;replace hqw23 := hqw23.symm;subst hqw23;go_wp2_with fail
 refine wp_region_quiet_lit (by kernel_rfl) (by kernel_rfl) ?_
 repeat (with_reducible refine wpQuiet_step (fun K hK => ?_); go_simp; first | (refine hK _ ?_; clear hK K) | (apply Exists.intro; refine ⟨fun _ => ?_, hK _ ?_⟩; (fail); clear hK K))
 refine wpQuiet_nil ?_;rintro _ ⟨nq, rfl⟩;cases h31 : (t == ([] : List UInt8)) with
 | false =>
  have h31s : ((⟨t.toArray⟩ : ByteArray) == (⟨#[]⟩ : ByteArray)) = false := by rw [str_eq']; exact h31
  have h31t : ((⟨t.toArray⟩ : ByteArray) != (⟨#[]⟩ : ByteArray)) = true := by rw [bne, h31s]; rfl
  have h31e : (ByteArray.toList (⟨t.toArray⟩ : ByteArray)).isEmpty = false := by rw [isEmpty_str]; exact h31
  go_wp2_with fail
  go_ret;exact ⟨ret_bool' _ _ (by first | rfl | (simp only [*] <;> rfl)), (by first | exact (Touch.refl _ _) | exact (Touch.refl _ _).alloc _ | exact ((Touch.refl _ _).alloc _).alloc _ | exact (((Touch.refl _ _).alloc _).alloc _).alloc _ | exact (Touch.refl _ _).drewN _ | exact ((Touch.refl _ _).alloc _).drewN _ | exact (((Touch.refl _ _).alloc _).alloc _).drewN _)⟩
 | true =>
  have h31s : ((⟨t.toArray⟩ : ByteArray) == (⟨#[]⟩ : ByteArray)) = true := by rw [str_eq']; exact h31
  have h31t : ((⟨t.toArray⟩ : ByteArray) != (⟨#[]⟩ : ByteArray)) = false := by rw [bne, h31s]; rfl
  have h31e : (ByteArray.toList (⟨t.toArray⟩ : ByteArray)).isEmpty = true := by rw [isEmpty_str]; exact h31
  cases h32 : ((ks.length : Int) == (2 : Int)) with
  | false =>
   have h32m : ((ks.length : Int) != (2 : Int)) = true := by rw [bne, h32]; rfl
   go_wp2_with fail
   go_ret;exact ⟨ret_bool' _ _ (by first | rfl | (simp only [*] <;> rfl)), (by first | exact (Touch.refl _ _) | exact (Touch.refl _ _).alloc _ | exact ((Touch.refl _ _).alloc _).alloc _ | exact (((Touch.refl _ _).alloc _).alloc _).alloc _ | exact (Touch.refl _ _).drewN _ | exact ((Touch.refl _ _).alloc _).drewN _ | exact (((Touch.refl _ _).alloc _).alloc _).drewN _)⟩
  | true =>
   have h32m : ((ks.length : Int) != (2 : Int)) = false := by rw [bne, h32]; rfl
   cases h33 : ((a.length : Int) == (0 : Int)) with
   | false =>
    have h33m : ((a.length : Int) != (0 : Int)) = true := by rw [bne, h33]; rfl
    go_wp2_with fail
    go_ret;exact ⟨ret_bool' _ _ (by first | rfl | (simp only [*] <;> rfl)), (by first | exact (Touch.refl _ _) | exact (Touch.refl _ _).alloc _ | exact ((Touch.refl _ _).alloc _).alloc _ | exact (((Touch.refl _ _).alloc _).alloc _).alloc _ | exact (Touch.refl _ _).drewN _ | exact ((Touch.refl _ _).alloc _).drewN _ | exact (((Touch.refl _ _).alloc _).alloc _).drewN _)⟩
   | true =>
    have h33m : ((a.length : Int) != (0 : Int)) = false := by rw [bne, h33]; rfl
    go_wp2_with fail
    go_ret;exact ⟨ret_bool' _ _ (by first | rfl | (simp only [*] <;> rfl)), (by first | exact (Touch.refl _ _) | exact (Touch.refl _ _).alloc _ | exact ((Touch.refl _ _).alloc _).alloc _ | exact (((Touch.refl _ _).alloc _).alloc _).alloc _ | exact (Touch.refl _ _).drewN _ | exact ((Touch.refl _ _).alloc _).drewN _ | exact (((Touch.refl _ _).alloc _).alloc _).drewN _)⟩
theorem own_Msub (a : Attrs) (ks : List E) (t : List UInt8) (g o : Nat) (va vk : Value) (w : World) (he : ElAt w g o (.mk ([109, 115, 117, 98]) a ks t) va vk) : Calls Tryz.prog 73 #[.pointer (some ⟨g, o, none⟩)] w fun x w' => x = .returned (.bool (El.ownF (.mk ([109, 115, 117, 98]) a ks t))) ∧ Fresh w w' := by
 obtain ⟨A, ca, hva⟩ := he.2.2.2.2.2.1.slice;obtain ⟨B, cb, hvb⟩ := he.2.2.2.2.2.2.1.slice;replace hva : va = .slice A a.length ca := hva;replace hvb : vk = .slice B ks.length cb := hvb;subst hva;subst hvb;have htl : t.length ≤ maxLen := he.2.2.2.2.2.2.2.2;have hl1 : a.length ≤ maxLen := by obtain ⟨_, _, _, h, _⟩ := he.2.2.2.2.2.1; exact h.1
 have hl2 : ks.length ≤ maxLen := he.2.2.2.2.2.2.1.len;have HTL := hid htl;unfold maxLen at hl1 hl2 htl;have HE := hid he;obtain ⟨_, a0, a1, a2, a3, _⟩ := he;replace a0 : w.cell? ⟨g, o, none⟩ = some (.string ⟨([109, 115, 117, 98] : List UInt8).toArray⟩) := a0;replace a3 : w.cell? ⟨g, o + 3, none⟩ = some (.string ⟨t.toArray⟩) := a3;rw [show El.ownF (.mk ([109, 115, 117, 98]) a ks t) = _ from ownF_Msub];go_enter Tryz.func73, Tryz.ntmps73;go_wp2_with fail
 refine Calls.mono (leaf_is [109, 115, 117, 98] 0 (by rfl) _) ?_;rintro _ w24q ⟨rfl, hqw24⟩;replace hqw24 := hqw24.symm;subst hqw24;go_wp2_with fail
 refine wp_region_quiet_lit (by kernel_rfl) (by kernel_rfl) ?_
 repeat (with_reducible refine wpQuiet_step (fun K hK => ?_); go_simp; first | (refine hK _ ?_; clear hK K) | (apply Exists.intro; refine ⟨fun _ => ?_, hK _ ?_⟩; (fail); clear hK K))
 refine wpQuiet_nil ?_;rintro _ ⟨nq, rfl⟩;cases h34 : (t == ([] : List UInt8)) with
 | false =>
  have h34s : ((⟨t.toArray⟩ : ByteArray) == (⟨#[]⟩ : ByteArray)) = false := by rw [str_eq']; exact h34
  have h34t : ((⟨t.toArray⟩ : ByteArray) != (⟨#[]⟩ : ByteArray)) = true := by rw [bne, h34s]; rfl
  have h34e : (ByteArray.toList (⟨t.toArray⟩ : ByteArray)).isEmpty = false := by rw [isEmpty_str]; exact h34
  go_wp2_with fail
  go_ret;exact ⟨ret_bool' _ _ (by first | rfl | (simp only [*] <;> rfl)), (by first | exact (Touch.refl _ _) | exact (Touch.refl _ _).alloc _ | exact ((Touch.refl _ _).alloc _).alloc _ | exact (((Touch.refl _ _).alloc _).alloc _).alloc _ | exact (Touch.refl _ _).drewN _ | exact ((Touch.refl _ _).alloc _).drewN _ | exact (((Touch.refl _ _).alloc _).alloc _).drewN _)⟩
 | true =>
  have h34s : ((⟨t.toArray⟩ : ByteArray) == (⟨#[]⟩ : ByteArray)) = true := by rw [str_eq']; exact h34
  have h34t : ((⟨t.toArray⟩ : ByteArray) != (⟨#[]⟩ : ByteArray)) = false := by rw [bne, h34s]; rfl
  have h34e : (ByteArray.toList (⟨t.toArray⟩ : ByteArray)).isEmpty = true := by rw [isEmpty_str]; exact h34
  cases h35 : ((ks.length : Int) == (2 : Int)) with
  | false =>
   have h35m : ((ks.length : Int) != (2 : Int)) = true := by rw [bne, h35]; rfl
   go_wp2_with fail
   go_ret;exact ⟨ret_bool' _ _ (by first | rfl | (simp only [*] <;> rfl)), (by first | exact (Touch.refl _ _) | exact (Touch.refl _ _).alloc _ | exact ((Touch.refl _ _).alloc _).alloc _ | exact (((Touch.refl _ _).alloc _).alloc _).alloc _ | exact (Touch.refl _ _).drewN _ | exact ((Touch.refl _ _).alloc _).drewN _ | exact (((Touch.refl _ _).alloc _).alloc _).drewN _)⟩
  | true =>
   have h35m : ((ks.length : Int) != (2 : Int)) = false := by rw [bne, h35]; rfl
   cases h36 : ((a.length : Int) == (0 : Int)) with
   | false =>
    have h36m : ((a.length : Int) != (0 : Int)) = true := by rw [bne, h36]; rfl
    go_wp2_with fail
    go_ret;exact ⟨ret_bool' _ _ (by first | rfl | (simp only [*] <;> rfl)), (by first | exact (Touch.refl _ _) | exact (Touch.refl _ _).alloc _ | exact ((Touch.refl _ _).alloc _).alloc _ | exact (((Touch.refl _ _).alloc _).alloc _).alloc _ | exact (Touch.refl _ _).drewN _ | exact ((Touch.refl _ _).alloc _).drewN _ | exact (((Touch.refl _ _).alloc _).alloc _).drewN _)⟩
   | true =>
    have h36m : ((a.length : Int) != (0 : Int)) = false := by rw [bne, h36]; rfl
    go_wp2_with fail
    go_ret;exact ⟨ret_bool' _ _ (by first | rfl | (simp only [*] <;> rfl)), (by first | exact (Touch.refl _ _) | exact (Touch.refl _ _).alloc _ | exact ((Touch.refl _ _).alloc _).alloc _ | exact (((Touch.refl _ _).alloc _).alloc _).alloc _ | exact (Touch.refl _ _).drewN _ | exact ((Touch.refl _ _).alloc _).drewN _ | exact (((Touch.refl _ _).alloc _).alloc _).drewN _)⟩
theorem own_Msup (a : Attrs) (ks : List E) (t : List UInt8) (g o : Nat) (va vk : Value) (w : World) (he : ElAt w g o (.mk ([109, 115, 117, 112]) a ks t) va vk) : Calls Tryz.prog 73 #[.pointer (some ⟨g, o, none⟩)] w fun x w' => x = .returned (.bool (El.ownF (.mk ([109, 115, 117, 112]) a ks t))) ∧ Fresh w w' := by
 obtain ⟨A, ca, hva⟩ := he.2.2.2.2.2.1.slice;obtain ⟨B, cb, hvb⟩ := he.2.2.2.2.2.2.1.slice;replace hva : va = .slice A a.length ca := hva;replace hvb : vk = .slice B ks.length cb := hvb;subst hva;subst hvb;have htl : t.length ≤ maxLen := he.2.2.2.2.2.2.2.2;have hl1 : a.length ≤ maxLen := by obtain ⟨_, _, _, h, _⟩ := he.2.2.2.2.2.1; exact h.1
 have hl2 : ks.length ≤ maxLen := he.2.2.2.2.2.2.1.len;have HTL := hid htl;unfold maxLen at hl1 hl2 htl;have HE := hid he;obtain ⟨_, a0, a1, a2, a3, _⟩ := he;replace a0 : w.cell? ⟨g, o, none⟩ = some (.string ⟨([109, 115, 117, 112] : List UInt8).toArray⟩) := a0;replace a3 : w.cell? ⟨g, o + 3, none⟩ = some (.string ⟨t.toArray⟩) := a3;rw [show El.ownF (.mk ([109, 115, 117, 112]) a ks t) = _ from ownF_Msup];go_enter Tryz.func73, Tryz.ntmps73;go_wp2_with fail
 refine Calls.mono (leaf_is [109, 115, 117, 112] 0 (by rfl) _) ?_;rintro _ w25q ⟨rfl, hqw25⟩;replace hqw25 := hqw25.symm;subst hqw25;go_wp2_with fail
 refine wp_region_quiet_lit (by kernel_rfl) (by kernel_rfl) ?_
 repeat (with_reducible refine wpQuiet_step (fun K hK => ?_); go_simp; first | (refine hK _ ?_; clear hK K) | (apply Exists.intro; refine ⟨fun _ => ?_, hK _ ?_⟩; (fail); clear hK K))
 refine wpQuiet_nil ?_;rintro _ ⟨nq, rfl⟩;cases h37 : (t == ([] : List UInt8)) with
 | false =>
  have h37s : ((⟨t.toArray⟩ : ByteArray) == (⟨#[]⟩ : ByteArray)) = false := by rw [str_eq']; exact h37
  have h37t : ((⟨t.toArray⟩ : ByteArray) != (⟨#[]⟩ : ByteArray)) = true := by rw [bne, h37s]; rfl
  have h37e : (ByteArray.toList (⟨t.toArray⟩ : ByteArray)).isEmpty = false := by rw [isEmpty_str]; exact h37
  go_wp2_with fail
  go_ret;exact ⟨ret_bool' _ _ (by first | rfl | (simp only [*] <;> rfl)), (by first | exact (Touch.refl _ _) | exact (Touch.refl _ _).alloc _ | exact ((Touch.refl _ _).alloc _).alloc _ | exact (((Touch.refl _ _).alloc _).alloc _).alloc _ | exact (Touch.refl _ _).drewN _ | exact ((Touch.refl _ _).alloc _).drewN _ | exact (((Touch.refl _ _).alloc _).alloc _).drewN _)⟩
 | true =>
  have h37s : ((⟨t.toArray⟩ : ByteArray) == (⟨#[]⟩ : ByteArray)) = true := by rw [str_eq']; exact h37
  have h37t : ((⟨t.toArray⟩ : ByteArray) != (⟨#[]⟩ : ByteArray)) = false := by rw [bne, h37s]; rfl
  have h37e : (ByteArray.toList (⟨t.toArray⟩ : ByteArray)).isEmpty = true := by rw [isEmpty_str]; exact h37
  cases h38 : ((ks.length : Int) == (2 : Int)) with
  | false =>
   have h38m : ((ks.length : Int) != (2 : Int)) = true := by rw [bne, h38]; rfl
   go_wp2_with fail
   go_ret;exact ⟨ret_bool' _ _ (by first | rfl | (simp only [*] <;> rfl)), (by first | exact (Touch.refl _ _) | exact (Touch.refl _ _).alloc _ | exact ((Touch.refl _ _).alloc _).alloc _ | exact (((Touch.refl _ _).alloc _).alloc _).alloc _ | exact (Touch.refl _ _).drewN _ | exact ((Touch.refl _ _).alloc _).drewN _ | exact (((Touch.refl _ _).alloc _).alloc _).drewN _)⟩
  | true =>
   have h38m : ((ks.length : Int) != (2 : Int)) = false := by rw [bne, h38]; rfl
   cases h39 : ((a.length : Int) == (0 : Int)) with
   | false =>
    have h39m : ((a.length : Int) != (0 : Int)) = true := by rw [bne, h39]; rfl
    go_wp2_with fail
    go_ret;exact ⟨ret_bool' _ _ (by first | rfl | (simp only [*] <;> rfl)), (by first | exact (Touch.refl _ _) | exact (Touch.refl _ _).alloc _ | exact ((Touch.refl _ _).alloc _).alloc _ | exact (((Touch.refl _ _).alloc _).alloc _).alloc _ | exact (Touch.refl _ _).drewN _ | exact ((Touch.refl _ _).alloc _).drewN _ | exact (((Touch.refl _ _).alloc _).alloc _).drewN _)⟩
   | true =>
    have h39m : ((a.length : Int) != (0 : Int)) = false := by rw [bne, h39]; rfl
    go_wp2_with fail
    go_ret;exact ⟨ret_bool' _ _ (by first | rfl | (simp only [*] <;> rfl)), (by first | exact (Touch.refl _ _) | exact (Touch.refl _ _).alloc _ | exact ((Touch.refl _ _).alloc _).alloc _ | exact (((Touch.refl _ _).alloc _).alloc _).alloc _ | exact (Touch.refl _ _).drewN _ | exact ((Touch.refl _ _).alloc _).drewN _ | exact (((Touch.refl _ _).alloc _).alloc _).drewN _)⟩
theorem own_Msubsup (a : Attrs) (ks : List E) (t : List UInt8) (g o : Nat) (va vk : Value) (w : World) (he : ElAt w g o (.mk ([109, 115, 117, 98, 115, 117, 112]) a ks t) va vk) : Calls Tryz.prog 73 #[.pointer (some ⟨g, o, none⟩)] w fun x w' => x = .returned (.bool (El.ownF (.mk ([109, 115, 117, 98, 115, 117, 112]) a ks t))) ∧ Fresh w w' := by
 obtain ⟨A, ca, hva⟩ := he.2.2.2.2.2.1.slice;obtain ⟨B, cb, hvb⟩ := he.2.2.2.2.2.2.1.slice;replace hva : va = .slice A a.length ca := hva;replace hvb : vk = .slice B ks.length cb := hvb;subst hva;subst hvb;have htl : t.length ≤ maxLen := he.2.2.2.2.2.2.2.2;have hl1 : a.length ≤ maxLen := by obtain ⟨_, _, _, h, _⟩ := he.2.2.2.2.2.1; exact h.1
 have hl2 : ks.length ≤ maxLen := he.2.2.2.2.2.2.1.len;have HTL := hid htl;unfold maxLen at hl1 hl2 htl;have HE := hid he;obtain ⟨_, a0, a1, a2, a3, _⟩ := he;replace a0 : w.cell? ⟨g, o, none⟩ = some (.string ⟨([109, 115, 117, 98, 115, 117, 112] : List UInt8).toArray⟩) := a0;replace a3 : w.cell? ⟨g, o + 3, none⟩ = some (.string ⟨t.toArray⟩) := a3;rw [show El.ownF (.mk ([109, 115, 117, 98, 115, 117, 112]) a ks t) = _ from ownF_Msubsup];go_enter Tryz.func73, Tryz.ntmps73;go_wp2_with fail
 refine Calls.mono (leaf_is [109, 115, 117, 98, 115, 117, 112] 0 (by rfl) _) ?_;rintro _ w26q ⟨rfl, hqw26⟩;replace hqw26 := hqw26.symm;subst hqw26;go_wp2_with fail
 refine wp_region_quiet_lit (by kernel_rfl) (by kernel_rfl) ?_
 repeat (with_reducible refine wpQuiet_step (fun K hK => ?_); go_simp; first | (refine hK _ ?_; clear hK K) | (apply Exists.intro; refine ⟨fun _ => ?_, hK _ ?_⟩; (fail); clear hK K))
 refine wpQuiet_nil ?_;rintro _ ⟨nq, rfl⟩;cases h40 : (t == ([] : List UInt8)) with
 | false =>
  have h40s : ((⟨t.toArray⟩ : ByteArray) == (⟨#[]⟩ : ByteArray)) = false := by rw [str_eq']; exact h40
  have h40t : ((⟨t.toArray⟩ : ByteArray) != (⟨#[]⟩ : ByteArray)) = true := by rw [bne, h40s]; rfl
  have h40e : (ByteArray.toList (⟨t.toArray⟩ : ByteArray)).isEmpty = false := by rw [isEmpty_str]; exact h40
  go_wp2_with fail
  go_ret;exact ⟨ret_bool' _ _ (by first | rfl | (simp only [*] <;> rfl)), (by first | exact (Touch.refl _ _) | exact (Touch.refl _ _).alloc _ | exact ((Touch.refl _ _).alloc _).alloc _ | exact (((Touch.refl _ _).alloc _).alloc _).alloc _ | exact (Touch.refl _ _).drewN _ | exact ((Touch.refl _ _).alloc _).drewN _ | exact (((Touch.refl _ _).alloc _).alloc _).drewN _)⟩
 | true =>
  have h40s : ((⟨t.toArray⟩ : ByteArray) == (⟨#[]⟩ : ByteArray)) = true := by rw [str_eq']; exact h40
  have h40t : ((⟨t.toArray⟩ : ByteArray) != (⟨#[]⟩ : ByteArray)) = false := by rw [bne, h40s]; rfl
  have h40e : (ByteArray.toList (⟨t.toArray⟩ : ByteArray)).isEmpty = true := by rw [isEmpty_str]; exact h40
  cases h41 : ((ks.length : Int) == (3 : Int)) with
  | false =>
   have h41m : ((ks.length : Int) != (3 : Int)) = true := by rw [bne, h41]; rfl
   go_wp2_with fail
   go_ret;exact ⟨ret_bool' _ _ (by first | rfl | (simp only [*] <;> rfl)), (by first | exact (Touch.refl _ _) | exact (Touch.refl _ _).alloc _ | exact ((Touch.refl _ _).alloc _).alloc _ | exact (((Touch.refl _ _).alloc _).alloc _).alloc _ | exact (Touch.refl _ _).drewN _ | exact ((Touch.refl _ _).alloc _).drewN _ | exact (((Touch.refl _ _).alloc _).alloc _).drewN _)⟩
  | true =>
   have h41m : ((ks.length : Int) != (3 : Int)) = false := by rw [bne, h41]; rfl
   cases h42 : ((a.length : Int) == (0 : Int)) with
   | false =>
    have h42m : ((a.length : Int) != (0 : Int)) = true := by rw [bne, h42]; rfl
    go_wp2_with fail
    go_ret;exact ⟨ret_bool' _ _ (by first | rfl | (simp only [*] <;> rfl)), (by first | exact (Touch.refl _ _) | exact (Touch.refl _ _).alloc _ | exact ((Touch.refl _ _).alloc _).alloc _ | exact (((Touch.refl _ _).alloc _).alloc _).alloc _ | exact (Touch.refl _ _).drewN _ | exact ((Touch.refl _ _).alloc _).drewN _ | exact (((Touch.refl _ _).alloc _).alloc _).drewN _)⟩
   | true =>
    have h42m : ((a.length : Int) != (0 : Int)) = false := by rw [bne, h42]; rfl
    go_wp2_with fail
    go_ret;exact ⟨ret_bool' _ _ (by first | rfl | (simp only [*] <;> rfl)), (by first | exact (Touch.refl _ _) | exact (Touch.refl _ _).alloc _ | exact ((Touch.refl _ _).alloc _).alloc _ | exact (((Touch.refl _ _).alloc _).alloc _).alloc _ | exact (Touch.refl _ _).drewN _ | exact ((Touch.refl _ _).alloc _).drewN _ | exact (((Touch.refl _ _).alloc _).alloc _).drewN _)⟩
theorem own_Msqrt (a : Attrs) (ks : List E) (t : List UInt8) (g o : Nat) (va vk : Value) (w : World) (he : ElAt w g o (.mk ([109, 115, 113, 114, 116]) a ks t) va vk) : Calls Tryz.prog 73 #[.pointer (some ⟨g, o, none⟩)] w fun x w' => x = .returned (.bool (El.ownF (.mk ([109, 115, 113, 114, 116]) a ks t))) ∧ Fresh w w' := by
 obtain ⟨A, ca, hva⟩ := he.2.2.2.2.2.1.slice;obtain ⟨B, cb, hvb⟩ := he.2.2.2.2.2.2.1.slice;replace hva : va = .slice A a.length ca := hva;replace hvb : vk = .slice B ks.length cb := hvb;subst hva;subst hvb;have htl : t.length ≤ maxLen := he.2.2.2.2.2.2.2.2;have hl1 : a.length ≤ maxLen := by obtain ⟨_, _, _, h, _⟩ := he.2.2.2.2.2.1; exact h.1
 have hl2 : ks.length ≤ maxLen := he.2.2.2.2.2.2.1.len;have HTL := hid htl;unfold maxLen at hl1 hl2 htl;have HE := hid he;obtain ⟨_, a0, a1, a2, a3, _⟩ := he;replace a0 : w.cell? ⟨g, o, none⟩ = some (.string ⟨([109, 115, 113, 114, 116] : List UInt8).toArray⟩) := a0;replace a3 : w.cell? ⟨g, o + 3, none⟩ = some (.string ⟨t.toArray⟩) := a3;rw [show El.ownF (.mk ([109, 115, 113, 114, 116]) a ks t) = _ from ownF_Msqrt];go_enter Tryz.func73, Tryz.ntmps73;go_wp2_with fail
 refine Calls.mono (leaf_is [109, 115, 113, 114, 116] 0 (by rfl) _) ?_;rintro _ w27q ⟨rfl, hqw27⟩;replace hqw27 := hqw27.symm;subst hqw27;go_wp2_with fail
 refine wp_region_quiet_lit (by kernel_rfl) (by kernel_rfl) ?_
 repeat (with_reducible refine wpQuiet_step (fun K hK => ?_); go_simp; first | (refine hK _ ?_; clear hK K) | (apply Exists.intro; refine ⟨fun _ => ?_, hK _ ?_⟩; (fail); clear hK K))
 refine wpQuiet_nil ?_;rintro _ ⟨nq, rfl⟩;cases h43 : (t == ([] : List UInt8)) with
 | false =>
  have h43s : ((⟨t.toArray⟩ : ByteArray) == (⟨#[]⟩ : ByteArray)) = false := by rw [str_eq']; exact h43
  have h43t : ((⟨t.toArray⟩ : ByteArray) != (⟨#[]⟩ : ByteArray)) = true := by rw [bne, h43s]; rfl
  have h43e : (ByteArray.toList (⟨t.toArray⟩ : ByteArray)).isEmpty = false := by rw [isEmpty_str]; exact h43
  go_wp2_with fail
  go_ret;exact ⟨ret_bool' _ _ (by first | rfl | (simp only [*] <;> rfl)), (by first | exact (Touch.refl _ _) | exact (Touch.refl _ _).alloc _ | exact ((Touch.refl _ _).alloc _).alloc _ | exact (((Touch.refl _ _).alloc _).alloc _).alloc _ | exact (Touch.refl _ _).drewN _ | exact ((Touch.refl _ _).alloc _).drewN _ | exact (((Touch.refl _ _).alloc _).alloc _).drewN _)⟩
 | true =>
  have h43s : ((⟨t.toArray⟩ : ByteArray) == (⟨#[]⟩ : ByteArray)) = true := by rw [str_eq']; exact h43
  have h43t : ((⟨t.toArray⟩ : ByteArray) != (⟨#[]⟩ : ByteArray)) = false := by rw [bne, h43s]; rfl
  have h43e : (ByteArray.toList (⟨t.toArray⟩ : ByteArray)).isEmpty = true := by rw [isEmpty_str]; exact h43
  cases h44 : ((ks.length : Int) == (1 : Int)) with
  | false =>
   have h44m : ((ks.length : Int) != (1 : Int)) = true := by rw [bne, h44]; rfl
   go_wp2_with fail
   go_ret;exact ⟨ret_bool' _ _ (by first | rfl | (simp only [*] <;> rfl)), (by first | exact (Touch.refl _ _) | exact (Touch.refl _ _).alloc _ | exact ((Touch.refl _ _).alloc _).alloc _ | exact (((Touch.refl _ _).alloc _).alloc _).alloc _ | exact (Touch.refl _ _).drewN _ | exact ((Touch.refl _ _).alloc _).drewN _ | exact (((Touch.refl _ _).alloc _).alloc _).drewN _)⟩
  | true =>
   have h44m : ((ks.length : Int) != (1 : Int)) = false := by rw [bne, h44]; rfl
   cases h45 : ((a.length : Int) == (0 : Int)) with
   | false =>
    have h45m : ((a.length : Int) != (0 : Int)) = true := by rw [bne, h45]; rfl
    go_wp2_with fail
    go_ret;exact ⟨ret_bool' _ _ (by first | rfl | (simp only [*] <;> rfl)), (by first | exact (Touch.refl _ _) | exact (Touch.refl _ _).alloc _ | exact ((Touch.refl _ _).alloc _).alloc _ | exact (((Touch.refl _ _).alloc _).alloc _).alloc _ | exact (Touch.refl _ _).drewN _ | exact ((Touch.refl _ _).alloc _).drewN _ | exact (((Touch.refl _ _).alloc _).alloc _).drewN _)⟩
   | true =>
    have h45m : ((a.length : Int) != (0 : Int)) = false := by rw [bne, h45]; rfl
    go_wp2_with fail
    go_ret;exact ⟨ret_bool' _ _ (by first | rfl | (simp only [*] <;> rfl)), (by first | exact (Touch.refl _ _) | exact (Touch.refl _ _).alloc _ | exact ((Touch.refl _ _).alloc _).alloc _ | exact (((Touch.refl _ _).alloc _).alloc _).alloc _ | exact (Touch.refl _ _).drewN _ | exact ((Touch.refl _ _).alloc _).drewN _ | exact (((Touch.refl _ _).alloc _).alloc _).drewN _)⟩
theorem own_Mover (a : Attrs) (ks : List E) (t : List UInt8) (av : List UInt8) (hav : attrV a El.nAccent = av) (hal : av.length ≤ maxLen) (g o : Nat) (va vk : Value) (w : World) (he : ElAt w g o (.mk ([109, 111, 118, 101, 114]) a ks t) va vk) : Calls Tryz.prog 73 #[.pointer (some ⟨g, o, none⟩)] w fun x w' => x = .returned (.bool (El.ownF (.mk ([109, 111, 118, 101, 114]) a ks t))) ∧ Fresh w w' := by
 obtain ⟨A, ca, hva⟩ := he.2.2.2.2.2.1.slice;obtain ⟨B, cb, hvb⟩ := he.2.2.2.2.2.2.1.slice;replace hva : va = .slice A a.length ca := hva;replace hvb : vk = .slice B ks.length cb := hvb;subst hva;subst hvb;have htl : t.length ≤ maxLen := he.2.2.2.2.2.2.2.2;have hl1 : a.length ≤ maxLen := by obtain ⟨_, _, _, h, _⟩ := he.2.2.2.2.2.1; exact h.1
 have hl2 : ks.length ≤ maxLen := he.2.2.2.2.2.2.1.len;have HTL := hid htl;unfold maxLen at hl1 hl2 htl;have HE := hid he;obtain ⟨_, a0, a1, a2, a3, _⟩ := he;replace a0 : w.cell? ⟨g, o, none⟩ = some (.string ⟨([109, 111, 118, 101, 114] : List UInt8).toArray⟩) := a0;replace a3 : w.cell? ⟨g, o + 3, none⟩ = some (.string ⟨t.toArray⟩) := a3;rw [show El.ownF (.mk ([109, 111, 118, 101, 114]) a ks t) = _ from ownF_Mover];rw [hav];have HAV := hid hav;have HAL := hid hal;clear hav;go_enter Tryz.func73, Tryz.ntmps73;go_wp2_with fail
 refine Calls.mono (leaf_is [109, 111, 118, 101, 114] 0 (by rfl) _) ?_;rintro _ w28q ⟨rfl, hqw28⟩;replace hqw28 := hqw28.symm;subst hqw28;go_wp2_with fail
 refine wp_region_quiet_lit (by kernel_rfl) (by kernel_rfl) ?_
 repeat (with_reducible refine wpQuiet_step (fun K hK => ?_); go_simp; first | (refine hK _ ?_; clear hK K) | (apply Exists.intro; refine ⟨fun _ => ?_, hK _ ?_⟩; (fail); clear hK K))
 refine wpQuiet_nil ?_;rintro _ ⟨nq, rfl⟩;cases h46 : (t == ([] : List UInt8)) with
 | false =>
  have h46s : ((⟨t.toArray⟩ : ByteArray) == (⟨#[]⟩ : ByteArray)) = false := by rw [str_eq']; exact h46
  have h46t : ((⟨t.toArray⟩ : ByteArray) != (⟨#[]⟩ : ByteArray)) = true := by rw [bne, h46s]; rfl
  have h46e : (ByteArray.toList (⟨t.toArray⟩ : ByteArray)).isEmpty = false := by rw [isEmpty_str]; exact h46
  go_wp2_with fail
  go_ret;exact ⟨ret_bool' _ _ (by first | rfl | (simp only [*] <;> rfl)), (by first | exact (Touch.refl _ _) | exact (Touch.refl _ _).alloc _ | exact ((Touch.refl _ _).alloc _).alloc _ | exact (((Touch.refl _ _).alloc _).alloc _).alloc _ | exact (Touch.refl _ _).drewN _ | exact ((Touch.refl _ _).alloc _).drewN _ | exact (((Touch.refl _ _).alloc _).alloc _).drewN _)⟩
 | true =>
  have h46s : ((⟨t.toArray⟩ : ByteArray) == (⟨#[]⟩ : ByteArray)) = true := by rw [str_eq']; exact h46
  have h46t : ((⟨t.toArray⟩ : ByteArray) != (⟨#[]⟩ : ByteArray)) = false := by rw [bne, h46s]; rfl
  have h46e : (ByteArray.toList (⟨t.toArray⟩ : ByteArray)).isEmpty = true := by rw [isEmpty_str]; exact h46
  cases h47 : ((ks.length : Int) == (1 : Int)) with
  | false =>
   have h47m : ((ks.length : Int) != (1 : Int)) = true := by rw [bne, h47]; rfl
   go_wp2_with fail
   go_ret;exact ⟨ret_bool' _ _ (by first | rfl | (simp only [*] <;> rfl)), (by first | exact (Touch.refl _ _) | exact (Touch.refl _ _).alloc _ | exact ((Touch.refl _ _).alloc _).alloc _ | exact (((Touch.refl _ _).alloc _).alloc _).alloc _ | exact (Touch.refl _ _).drewN _ | exact ((Touch.refl _ _).alloc _).drewN _ | exact (((Touch.refl _ _).alloc _).alloc _).drewN _)⟩
  | true =>
   have h47m : ((ks.length : Int) != (1 : Int)) = false := by rw [bne, h47]; rfl
   go_wp2_with fail
   refine Calls.mono (show Calls _ _ _ _ (fun x w' => x = .returned (.string ⟨av.toArray⟩) ∧ Fresh _ w') from HAV.out ▸ attr_any _ El.nAccent g o _ _ _ (HE.out.fresh (by first | exact (Touch.refl _ _) | exact (Touch.refl _ _).alloc _ | exact ((Touch.refl _ _).alloc _).alloc _ | exact (((Touch.refl _ _).alloc _).alloc _).alloc _ | exact (Touch.refl _ _).drewN _ | exact ((Touch.refl _ _).alloc _).drewN _ | exact (((Touch.refl _ _).alloc _).alloc _).drewN _))) ?_;rintro _ w29 ⟨rfl, hfw29⟩;have HF29 := hid (show Fresh w w29 from by first | exact hfw29 | exact Touch.pre hfw29 | exact Touch.pre (Touch.pre hfw29) | exact Touch.ofN hfw29 | exact Touch.preN hfw29 | exact Touch.pre (Touch.pre (Touch.pre hfw29)));have a0_w29 : World.cell? w29 ⟨g, o, none⟩ = some (.string ⟨#[109, 111, 118, 101, 114]⟩) := Touch.cell HF29.out a0 (fun h => h);have a1_w29 : World.cell? w29 ⟨g, o + 1, none⟩ = some (.slice A a.length ca) := Touch.cell HF29.out a1 (fun h => h);have a2_w29 : World.cell? w29 ⟨g, o + 2, none⟩ = some (.slice B ks.length cb) := Touch.cell HF29.out a2 (fun h => h);have a3_w29 : World.cell? w29 ⟨g, o + 3, none⟩ = some (.string ⟨t.toArray⟩) := Touch.cell HF29.out a3 (fun h => h);clear a0 a1 a2 a3;clear hfw29;go_wp2_with fail
   refine Calls.mono (mvalid_any 10 av 1 (by decide) HAL.out _) ?_;rintro _ w30 ⟨rfl, hfw30⟩;have HF30 := hid (show Fresh w29 w30 from by first | exact hfw30 | exact Touch.pre hfw30 | exact Touch.pre (Touch.pre hfw30) | exact Touch.ofN hfw30 | exact Touch.preN hfw30 | exact Touch.pre (Touch.pre (Touch.pre hfw30)));have a0_w30 : World.cell? w30 ⟨g, o, none⟩ = some (.string ⟨#[109, 111, 118, 101, 114]⟩) := Touch.cell HF30.out a0_w29 (fun h => h);have a1_w30 : World.cell? w30 ⟨g, o + 1, none⟩ = some (.slice A a.length ca) := Touch.cell HF30.out a1_w29 (fun h => h);have a2_w30 : World.cell? w30 ⟨g, o + 2, none⟩ = some (.slice B ks.length cb) := Touch.cell HF30.out a2_w29 (fun h => h);have a3_w30 : World.cell? w30 ⟨g, o + 3, none⟩ = some (.string ⟨t.toArray⟩) := Touch.cell HF30.out a3_w29 (fun h => h);clear a0_w29 a1_w29 a2_w29 a3_w29;clear hfw30;cases h48 : (validI 10 av 1) with
   | false =>
    go_wp2_with fail
    go_ret;exact ⟨ret_bool' _ _ (by first | rfl | (simp only [*] <;> rfl)), (by first | exact (HF29.out.trans HF30.out) | exact (HF29.out.trans HF30.out).alloc _ | exact ((HF29.out.trans HF30.out).alloc _).alloc _ | exact (((HF29.out.trans HF30.out).alloc _).alloc _).alloc _ | exact (HF29.out.trans HF30.out).drewN _ | exact ((HF29.out.trans HF30.out).alloc _).drewN _ | exact (((HF29.out.trans HF30.out).alloc _).alloc _).drewN _)⟩
   | true =>
    cases h49 : ((a.length : Int) == (1 : Int)) with
    | false =>
     have h49m : ((a.length : Int) != (1 : Int)) = true := by rw [bne, h49]; rfl
     go_wp2_with fail
     go_ret;exact ⟨ret_bool' _ _ (by first | rfl | (simp only [*] <;> rfl)), (by first | exact (HF29.out.trans HF30.out) | exact (HF29.out.trans HF30.out).alloc _ | exact ((HF29.out.trans HF30.out).alloc _).alloc _ | exact (((HF29.out.trans HF30.out).alloc _).alloc _).alloc _ | exact (HF29.out.trans HF30.out).drewN _ | exact ((HF29.out.trans HF30.out).alloc _).drewN _ | exact (((HF29.out.trans HF30.out).alloc _).alloc _).drewN _)⟩
    | true =>
     have h49m : ((a.length : Int) != (1 : Int)) = false := by rw [bne, h49]; rfl
     go_wp2_with fail
     go_ret;exact ⟨ret_bool' _ _ (by first | rfl | (simp only [*] <;> rfl)), (by first | exact (HF29.out.trans HF30.out) | exact (HF29.out.trans HF30.out).alloc _ | exact ((HF29.out.trans HF30.out).alloc _).alloc _ | exact (((HF29.out.trans HF30.out).alloc _).alloc _).alloc _ | exact (HF29.out.trans HF30.out).drewN _ | exact ((HF29.out.trans HF30.out).alloc _).drewN _ | exact (((HF29.out.trans HF30.out).alloc _).alloc _).drewN _)⟩
theorem own_Mfenced (a : Attrs) (ks : List E) (t : List UInt8) (av bv : List UInt8) (hav : attrV a El.nOpen = av) (hbv : attrV a El.nClose = bv) (g o : Nat) (va vk : Value) (w : World) (he : ElAt w g o (.mk ([109, 102, 101, 110, 99, 101, 100]) a ks t) va vk) : Calls Tryz.prog 73 #[.pointer (some ⟨g, o, none⟩)] w fun x w' => x = .returned (.bool (El.ownF (.mk ([109, 102, 101, 110, 99, 101, 100]) a ks t))) ∧ Fresh w w' := by
 obtain ⟨A, ca, hva⟩ := he.2.2.2.2.2.1.slice;obtain ⟨B, cb, hvb⟩ := he.2.2.2.2.2.2.1.slice;replace hva : va = .slice A a.length ca := hva;replace hvb : vk = .slice B ks.length cb := hvb;subst hva;subst hvb;have htl : t.length ≤ maxLen := he.2.2.2.2.2.2.2.2;have hl1 : a.length ≤ maxLen := by obtain ⟨_, _, _, h, _⟩ := he.2.2.2.2.2.1; exact h.1
 have hl2 : ks.length ≤ maxLen := he.2.2.2.2.2.2.1.len;have HTL := hid htl;unfold maxLen at hl1 hl2 htl;have HE := hid he;obtain ⟨_, a0, a1, a2, a3, _⟩ := he;replace a0 : w.cell? ⟨g, o, none⟩ = some (.string ⟨([109, 102, 101, 110, 99, 101, 100] : List UInt8).toArray⟩) := a0;replace a3 : w.cell? ⟨g, o + 3, none⟩ = some (.string ⟨t.toArray⟩) := a3;rw [show El.ownF (.mk ([109, 102, 101, 110, 99, 101, 100]) a ks t) = _ from ownF_Mfenced];rw [hav, hbv];have HAV := hid hav;have HBV := hid hbv;clear hav hbv;cases h0 : (t == ([] : List UInt8)) with
 | false =>
  have h0s : ((⟨t.toArray⟩ : ByteArray) == (⟨#[]⟩ : ByteArray)) = false := by rw [str_eq']; exact h0
  have h0e : (ByteArray.toList (⟨t.toArray⟩ : ByteArray)).isEmpty = false := by rw [isEmpty_str]; exact h0
  go_enter Tryz.func73, Tryz.ntmps73;go_wp2_with fail
  refine Calls.mono (leaf_is [109, 102, 101, 110, 99, 101, 100] 0 (by rfl) _) ?_;rintro _ w31q ⟨rfl, hqw31⟩;replace hqw31 := hqw31.symm;subst hqw31;go_wp2_with fail
  refine wp_region_quiet_lit (by kernel_rfl) (by kernel_rfl) ?_
  repeat (with_reducible refine wpQuiet_step (fun K hK => ?_); go_simp; first | (refine hK _ ?_; clear hK K) | (apply Exists.intro; refine ⟨fun _ => ?_, hK _ ?_⟩; (fail); clear hK K))
  refine wpQuiet_nil ?_;rintro _ ⟨nq, rfl⟩;go_wp2_with fail
  refine Calls.mono (show Calls _ _ _ _ (fun x w' => x = .returned (.string ⟨av.toArray⟩) ∧ Fresh _ w') from HAV.out ▸ attr_any _ El.nOpen g o _ _ _ (HE.out.fresh (by first | exact (Touch.refl _ _) | exact (Touch.refl _ _).alloc _ | exact ((Touch.refl _ _).alloc _).alloc _ | exact (((Touch.refl _ _).alloc _).alloc _).alloc _ | exact (Touch.refl _ _).drewN _ | exact ((Touch.refl _ _).alloc _).drewN _ | exact (((Touch.refl _ _).alloc _).alloc _).drewN _))) ?_;rintro _ w32 ⟨rfl, hfw32⟩;have HF32 := hid (show Fresh w w32 from by first | exact hfw32 | exact Touch.pre hfw32 | exact Touch.pre (Touch.pre hfw32) | exact Touch.ofN hfw32 | exact Touch.preN hfw32 | exact Touch.pre (Touch.pre (Touch.pre hfw32)));have a0_w32 : World.cell? w32 ⟨g, o, none⟩ = some (.string ⟨#[109, 102, 101, 110, 99, 101, 100]⟩) := Touch.cell HF32.out a0 (fun h => h);have a1_w32 : World.cell? w32 ⟨g, o + 1, none⟩ = some (.slice A a.length ca) := Touch.cell HF32.out a1 (fun h => h);have a2_w32 : World.cell? w32 ⟨g, o + 2, none⟩ = some (.slice B ks.length cb) := Touch.cell HF32.out a2 (fun h => h);have a3_w32 : World.cell? w32 ⟨g, o + 3, none⟩ = some (.string ⟨t.toArray⟩) := Touch.cell HF32.out a3 (fun h => h);clear a0 a1 a2 a3;clear hfw32;go_wp2_with fail
  refine Calls.mono (show Calls _ _ _ _ (fun x w' => x = .returned (.string ⟨bv.toArray⟩) ∧ Fresh _ w') from HBV.out ▸ attr_any _ El.nClose g o _ _ _ (HE.out.fresh (by first | exact HF32.out | exact HF32.out.alloc _ | exact (HF32.out.alloc _).alloc _ | exact ((HF32.out.alloc _).alloc _).alloc _ | exact HF32.out.drewN _ | exact (HF32.out.alloc _).drewN _ | exact ((HF32.out.alloc _).alloc _).drewN _))) ?_;rintro _ w33 ⟨rfl, hfw33⟩;have HF33 := hid (show Fresh w32 w33 from by first | exact hfw33 | exact Touch.pre hfw33 | exact Touch.pre (Touch.pre hfw33) | exact Touch.ofN hfw33 | exact Touch.preN hfw33 | exact Touch.pre (Touch.pre (Touch.pre hfw33)));have a0_w33 : World.cell? w33 ⟨g, o, none⟩ = some (.string ⟨#[109, 102, 101, 110, 99, 101, 100]⟩) := Touch.cell HF33.out a0_w32 (fun h => h);have a1_w33 : World.cell? w33 ⟨g, o + 1, none⟩ = some (.slice A a.length ca) := Touch.cell HF33.out a1_w32 (fun h => h);have a2_w33 : World.cell? w33 ⟨g, o + 2, none⟩ = some (.slice B ks.length cb) := Touch.cell HF33.out a2_w32 (fun h => h);have a3_w33 : World.cell? w33 ⟨g, o + 3, none⟩ = some (.string ⟨t.toArray⟩) := Touch.cell HF33.out a3_w32 (fun h => h);clear a0_w32 a1_w32 a2_w32 a3_w32;clear hfw33;go_wp2_with fail
  go_ret;exact ⟨ret_bool' _ _ (by first | rfl | (simp only [*] <;> rfl)), (by first | exact (HF32.out.trans HF33.out) | exact (HF32.out.trans HF33.out).alloc _ | exact ((HF32.out.trans HF33.out).alloc _).alloc _ | exact (((HF32.out.trans HF33.out).alloc _).alloc _).alloc _ | exact (HF32.out.trans HF33.out).drewN _ | exact ((HF32.out.trans HF33.out).alloc _).drewN _ | exact (((HF32.out.trans HF33.out).alloc _).alloc _).drewN _)⟩
 | true =>
  have h0s : ((⟨t.toArray⟩ : ByteArray) == (⟨#[]⟩ : ByteArray)) = true := by rw [str_eq']; exact h0
  have h0e : (ByteArray.toList (⟨t.toArray⟩ : ByteArray)).isEmpty = true := by rw [isEmpty_str]; exact h0
  go_enter Tryz.func73, Tryz.ntmps73;go_wp2_with fail
  refine Calls.mono (leaf_is [109, 102, 101, 110, 99, 101, 100] 0 (by rfl) _) ?_;rintro _ w34q ⟨rfl, hqw34⟩;replace hqw34 := hqw34.symm;subst hqw34;go_wp2_with fail
  refine wp_region_quiet_lit (by kernel_rfl) (by kernel_rfl) ?_
  repeat (with_reducible refine wpQuiet_step (fun K hK => ?_); go_simp; first | (refine hK _ ?_; clear hK K) | (apply Exists.intro; refine ⟨fun _ => ?_, hK _ ?_⟩; (fail); clear hK K))
  refine wpQuiet_nil ?_;rintro _ ⟨nq, rfl⟩;go_wp2_with fail
  refine Calls.mono (show Calls _ _ _ _ (fun x w' => x = .returned (.string ⟨av.toArray⟩) ∧ Fresh _ w') from HAV.out ▸ attr_any _ El.nOpen g o _ _ _ (HE.out.fresh (by first | exact (Touch.refl _ _) | exact (Touch.refl _ _).alloc _ | exact ((Touch.refl _ _).alloc _).alloc _ | exact (((Touch.refl _ _).alloc _).alloc _).alloc _ | exact (Touch.refl _ _).drewN _ | exact ((Touch.refl _ _).alloc _).drewN _ | exact (((Touch.refl _ _).alloc _).alloc _).drewN _))) ?_;rintro _ w35 ⟨rfl, hfw35⟩;have HF35 := hid (show Fresh w w35 from by first | exact hfw35 | exact Touch.pre hfw35 | exact Touch.pre (Touch.pre hfw35) | exact Touch.ofN hfw35 | exact Touch.preN hfw35 | exact Touch.pre (Touch.pre (Touch.pre hfw35)));have a0_w35 : World.cell? w35 ⟨g, o, none⟩ = some (.string ⟨#[109, 102, 101, 110, 99, 101, 100]⟩) := Touch.cell HF35.out a0 (fun h => h);have a1_w35 : World.cell? w35 ⟨g, o + 1, none⟩ = some (.slice A a.length ca) := Touch.cell HF35.out a1 (fun h => h);have a2_w35 : World.cell? w35 ⟨g, o + 2, none⟩ = some (.slice B ks.length cb) := Touch.cell HF35.out a2 (fun h => h);have a3_w35 : World.cell? w35 ⟨g, o + 3, none⟩ = some (.string ⟨t.toArray⟩) := Touch.cell HF35.out a3 (fun h => h);clear a0 a1 a2 a3;clear hfw35;go_wp2_with fail
  refine Calls.mono (show Calls _ _ _ _ (fun x w' => x = .returned (.string ⟨bv.toArray⟩) ∧ Fresh _ w') from HBV.out ▸ attr_any _ El.nClose g o _ _ _ (HE.out.fresh (by first | exact HF35.out | exact HF35.out.alloc _ | exact (HF35.out.alloc _).alloc _ | exact ((HF35.out.alloc _).alloc _).alloc _ | exact HF35.out.drewN _ | exact (HF35.out.alloc _).drewN _ | exact ((HF35.out.alloc _).alloc _).drewN _))) ?_;rintro _ w36 ⟨rfl, hfw36⟩;have HF36 := hid (show Fresh w35 w36 from by first | exact hfw36 | exact Touch.pre hfw36 | exact Touch.pre (Touch.pre hfw36) | exact Touch.ofN hfw36 | exact Touch.preN hfw36 | exact Touch.pre (Touch.pre (Touch.pre hfw36)));have a0_w36 : World.cell? w36 ⟨g, o, none⟩ = some (.string ⟨#[109, 102, 101, 110, 99, 101, 100]⟩) := Touch.cell HF36.out a0_w35 (fun h => h);have a1_w36 : World.cell? w36 ⟨g, o + 1, none⟩ = some (.slice A a.length ca) := Touch.cell HF36.out a1_w35 (fun h => h);have a2_w36 : World.cell? w36 ⟨g, o + 2, none⟩ = some (.slice B ks.length cb) := Touch.cell HF36.out a2_w35 (fun h => h);have a3_w36 : World.cell? w36 ⟨g, o + 3, none⟩ = some (.string ⟨t.toArray⟩) := Touch.cell HF36.out a3_w35 (fun h => h);clear a0_w35 a1_w35 a2_w35 a3_w35;clear hfw36;cases h50 : ((ks.length : Int) == (1 : Int)) with
  | false =>
   have h50m : ((ks.length : Int) != (1 : Int)) = true := by rw [bne, h50]; rfl
   go_wp2_with fail
   go_ret;exact ⟨ret_bool' _ _ (by first | rfl | (simp only [*] <;> rfl)), (by first | exact (HF35.out.trans HF36.out) | exact (HF35.out.trans HF36.out).alloc _ | exact ((HF35.out.trans HF36.out).alloc _).alloc _ | exact (((HF35.out.trans HF36.out).alloc _).alloc _).alloc _ | exact (HF35.out.trans HF36.out).drewN _ | exact ((HF35.out.trans HF36.out).alloc _).drewN _ | exact (((HF35.out.trans HF36.out).alloc _).alloc _).drewN _)⟩
  | true =>
   have h50m : ((ks.length : Int) != (1 : Int)) = false := by rw [bne, h50]; rfl
   cases h51 : ((av.length : Int) == (1 : Int)) with
   | false =>
    have h51m : ((av.length : Int) != (1 : Int)) = true := by rw [bne, h51]; rfl
    go_wp2_with fail
    go_ret;exact ⟨ret_bool' _ _ (by first | rfl | (simp only [*] <;> rfl)), (by first | exact (HF35.out.trans HF36.out) | exact (HF35.out.trans HF36.out).alloc _ | exact ((HF35.out.trans HF36.out).alloc _).alloc _ | exact (((HF35.out.trans HF36.out).alloc _).alloc _).alloc _ | exact (HF35.out.trans HF36.out).drewN _ | exact ((HF35.out.trans HF36.out).alloc _).drewN _ | exact (((HF35.out.trans HF36.out).alloc _).alloc _).drewN _)⟩
   | true =>
    have h51m : ((av.length : Int) != (1 : Int)) = false := by rw [bne, h51]; rfl
    cases h52 : ((bv.length : Int) == (1 : Int)) with
    | false =>
     have h52m : ((bv.length : Int) != (1 : Int)) = true := by rw [bne, h52]; rfl
     go_wp2_with fail
     go_ret;exact ⟨ret_bool' _ _ (by first | rfl | (simp only [*] <;> rfl)), (by first | exact (HF35.out.trans HF36.out) | exact (HF35.out.trans HF36.out).alloc _ | exact ((HF35.out.trans HF36.out).alloc _).alloc _ | exact (((HF35.out.trans HF36.out).alloc _).alloc _).alloc _ | exact (HF35.out.trans HF36.out).drewN _ | exact ((HF35.out.trans HF36.out).alloc _).drewN _ | exact (((HF35.out.trans HF36.out).alloc _).alloc _).drewN _)⟩
    | true =>
     have h52m : ((bv.length : Int) != (1 : Int)) = false := by rw [bne, h52]; rfl
     have hla : (av.length : Int) = 1 := eq_of_beq (by assumption);have hlb : (bv.length : Int) = 1 := eq_of_beq (by assumption);have hadd := fun W : World => run_string_add_lists (P := Tryz.prog) W av bv (by omega) (by omega)
     go_wp2_with fail
     refine Calls.mono (mvalid_any 11 (av ++ bv) 1 (by decide) (by unfold maxLen; rw [List.length_append]; omega) _) ?_;rintro _ w37 ⟨rfl, hfw37⟩;have HF37 := hid (show Fresh w36 w37 from by first | exact hfw37 | exact Touch.pre hfw37 | exact Touch.pre (Touch.pre hfw37) | exact Touch.ofN hfw37 | exact Touch.preN hfw37 | exact Touch.pre (Touch.pre (Touch.pre hfw37)));have a0_w37 : World.cell? w37 ⟨g, o, none⟩ = some (.string ⟨#[109, 102, 101, 110, 99, 101, 100]⟩) := Touch.cell HF37.out a0_w36 (fun h => h);have a1_w37 : World.cell? w37 ⟨g, o + 1, none⟩ = some (.slice A a.length ca) := Touch.cell HF37.out a1_w36 (fun h => h);have a2_w37 : World.cell? w37 ⟨g, o + 2, none⟩ = some (.slice B ks.length cb) := Touch.cell HF37.out a2_w36 (fun h => h);have a3_w37 : World.cell? w37 ⟨g, o + 3, none⟩ = some (.string ⟨t.toArray⟩) := Touch.cell HF37.out a3_w36 (fun h => h);clear a0_w36 a1_w36 a2_w36 a3_w36;clear hfw37;cases h53 : (validI 11 (av ++ bv) 1) with
     | false =>
      go_wp2_with fail
      go_ret;exact ⟨ret_bool' _ _ (by first | rfl | (simp only [*] <;> rfl)), (by first | exact (HF35.out.trans (HF36.out.trans HF37.out)) | exact (HF35.out.trans (HF36.out.trans HF37.out)).alloc _ | exact ((HF35.out.trans (HF36.out.trans HF37.out)).alloc _).alloc _ | exact (((HF35.out.trans (HF36.out.trans HF37.out)).alloc _).alloc _).alloc _ | exact (HF35.out.trans (HF36.out.trans HF37.out)).drewN _ | exact ((HF35.out.trans (HF36.out.trans HF37.out)).alloc _).drewN _ | exact (((HF35.out.trans (HF36.out.trans HF37.out)).alloc _).alloc _).drewN _)⟩
     | true =>
      cases h54 : ((a.length : Int) == (2 : Int)) with
      | false =>
       have h54m : ((a.length : Int) != (2 : Int)) = true := by rw [bne, h54]; rfl
       go_wp2_with fail
       go_ret;exact ⟨ret_bool' _ _ (by first | rfl | (simp only [*] <;> rfl)), (by first | exact (HF35.out.trans (HF36.out.trans HF37.out)) | exact (HF35.out.trans (HF36.out.trans HF37.out)).alloc _ | exact ((HF35.out.trans (HF36.out.trans HF37.out)).alloc _).alloc _ | exact (((HF35.out.trans (HF36.out.trans HF37.out)).alloc _).alloc _).alloc _ | exact (HF35.out.trans (HF36.out.trans HF37.out)).drewN _ | exact ((HF35.out.trans (HF36.out.trans HF37.out)).alloc _).drewN _ | exact (((HF35.out.trans (HF36.out.trans HF37.out)).alloc _).alloc _).drewN _)⟩
      | true =>
       have h54m : ((a.length : Int) != (2 : Int)) = false := by rw [bne, h54]; rfl
       go_wp2_with fail
       go_ret;exact ⟨ret_bool' _ _ (by first | rfl | (simp only [*] <;> rfl)), (by first | exact (HF35.out.trans (HF36.out.trans HF37.out)) | exact (HF35.out.trans (HF36.out.trans HF37.out)).alloc _ | exact ((HF35.out.trans (HF36.out.trans HF37.out)).alloc _).alloc _ | exact (((HF35.out.trans (HF36.out.trans HF37.out)).alloc _).alloc _).alloc _ | exact (HF35.out.trans (HF36.out.trans HF37.out)).drewN _ | exact ((HF35.out.trans (HF36.out.trans HF37.out)).alloc _).drewN _ | exact (((HF35.out.trans (HF36.out.trans HF37.out)).alloc _).alloc _).drewN _)⟩
end Go.Proofs.YtnbeemkfmlfgfaaGreatDoor
