/- Part 24 of 35 of a proof; its texts, joined: MnD. No condition. -/
import Derived.Test.YtnbeemkfmlfgfaaGreatDoorYa23
set_option maxRecDepth 100000
set_option maxHeartbeats 2000000
namespace Go.Proofs.YtnbeemkfmlfgfaaGreatDoor
open Go.RowKit
open Tr (Nd)
open El (E Attrs leafK attrV rowNil validI lett)
def noName (n : List UInt8) : Prop := (n == ([109, 105] : List UInt8)) = false ∧ (n == ([109, 111] : List UInt8)) = false ∧ (n == ([109, 110] : List UInt8)) = false ∧ (n == ([109, 116, 101, 120, 116] : List UInt8)) = false ∧ (n == ([109, 97, 116, 104] : List UInt8)) = false ∧ (n == ([109, 114, 111, 119] : List UInt8)) = false ∧ (n == ([109, 116, 100] : List UInt8)) = false ∧ (n == ([109, 116, 97, 98, 108, 101] : List UInt8)) = false ∧ (n == ([109, 116, 114] : List UInt8)) = false ∧ (n == ([109, 102, 114, 97, 99] : List UInt8)) = false ∧ (n == ([109, 114, 111, 111, 116] : List UInt8)) = false ∧ (n == ([109, 115, 117, 98] : List UInt8)) = false ∧ (n == ([109, 115, 117, 112] : List UInt8)) = false ∧ (n == ([109, 115, 117, 98, 115, 117, 112] : List UInt8)) = false ∧ (n == ([109, 115, 113, 114, 116] : List UInt8)) = false ∧ (n == ([109, 111, 118, 101, 114] : List UInt8)) = false ∧ (n == ([109, 102, 101, 110, 99, 101, 100] : List UInt8)) = false
theorem name_cases (n : List UInt8) : n = El.nMi ∨ n = El.nMo ∨ n = El.nMn ∨ n = El.nMtext ∨ n = El.nMath ∨ n = El.nMrow ∨ n = El.nMtd ∨ n = El.nMtable ∨ n = El.nMtr ∨ n = El.nMfrac ∨ n = El.nMroot ∨ n = El.nMsub ∨ n = El.nMsup ∨ n = El.nMsubsup ∨ n = El.nMsqrt ∨ n = El.nMover ∨ n = El.nMfenced ∨ noName n := by
 by_cases hMi : n = El.nMi
 ·simp only [hMi, true_or]
 by_cases hMo : n = El.nMo
 ·simp only [hMo, true_or, or_true]
 by_cases hMn : n = El.nMn
 ·simp only [hMn, true_or, or_true]
 by_cases hMtext : n = El.nMtext
 ·simp only [hMtext, true_or, or_true]
 by_cases hMath : n = El.nMath
 ·simp only [hMath, true_or, or_true]
 by_cases hMrow : n = El.nMrow
 ·simp only [hMrow, true_or, or_true]
 by_cases hMtd : n = El.nMtd
 ·simp only [hMtd, true_or, or_true]
 by_cases hMtable : n = El.nMtable
 ·simp only [hMtable, true_or, or_true]
 by_cases hMtr : n = El.nMtr
 ·simp only [hMtr, true_or, or_true]
 by_cases hMfrac : n = El.nMfrac
 ·simp only [hMfrac, true_or, or_true]
 by_cases hMroot : n = El.nMroot
 ·simp only [hMroot, true_or, or_true]
 by_cases hMsub : n = El.nMsub
 ·simp only [hMsub, true_or, or_true]
 by_cases hMsup : n = El.nMsup
 ·simp only [hMsup, true_or, or_true]
 by_cases hMsubsup : n = El.nMsubsup
 ·simp only [hMsubsup, true_or, or_true]
 by_cases hMsqrt : n = El.nMsqrt
 ·simp only [hMsqrt, true_or, or_true]
 by_cases hMover : n = El.nMover
 ·simp only [hMover, true_or, or_true]
 by_cases hMfenced : n = El.nMfenced
 ·simp only [hMfenced, true_or, or_true]
 refine .inr (.inr (.inr (.inr (.inr (.inr (.inr (.inr (.inr (.inr (.inr (.inr (.inr (.inr (.inr (.inr (.inr (⟨beq_eq_false_iff_ne.2 hMi, beq_eq_false_iff_ne.2 hMo, beq_eq_false_iff_ne.2 hMn, beq_eq_false_iff_ne.2 hMtext, beq_eq_false_iff_ne.2 hMath, beq_eq_false_iff_ne.2 hMrow, beq_eq_false_iff_ne.2 hMtd, beq_eq_false_iff_ne.2 hMtable, beq_eq_false_iff_ne.2 hMtr, beq_eq_false_iff_ne.2 hMfrac, beq_eq_false_iff_ne.2 hMroot, beq_eq_false_iff_ne.2 hMsub, beq_eq_false_iff_ne.2 hMsup, beq_eq_false_iff_ne.2 hMsubsup, beq_eq_false_iff_ne.2 hMsqrt, beq_eq_false_iff_ne.2 hMover, beq_eq_false_iff_ne.2 hMfenced⟩)))))))))))))))))
theorem leafK_no (n : List UInt8) (h : noName n) : leafK n = 0 := by
 rw [leafK_beq, h.1, h.2.1, h.2.2.1, h.2.2.2.1]; rfl
theorem slotsR_no (n : List UInt8) (h : noName n) (k : Nat) : El.slotsR n k = false := by
 obtain ⟨_, _, _, _, hMath, hMrow, hMtd, hMtable, hMtr, hMfrac, hMroot, hMsub, hMsup, hMsubsup, hMsqrt, hMover, hMfenced⟩ := h;unfold El.slotsR;rw [if_neg (show ¬ n = El.nMath from beq_eq_false_iff_ne.1 hMath), if_neg (show ¬ n = El.nMrow from beq_eq_false_iff_ne.1 hMrow), if_neg (show ¬ n = El.nMtd from beq_eq_false_iff_ne.1 hMtd), if_neg (show ¬ n = El.nMtable from beq_eq_false_iff_ne.1 hMtable), if_neg (show ¬ n = El.nMtr from beq_eq_false_iff_ne.1 hMtr), if_neg (show ¬ n = El.nMfrac from beq_eq_false_iff_ne.1 hMfrac), if_neg (show ¬ n = El.nMroot from beq_eq_false_iff_ne.1 hMroot), if_neg (show ¬ n = El.nMsub from beq_eq_false_iff_ne.1 hMsub), if_neg (show ¬ n = El.nMsup from beq_eq_false_iff_ne.1 hMsup), if_neg (show ¬ n = El.nMsubsup from beq_eq_false_iff_ne.1 hMsubsup), if_neg (show ¬ n = El.nMsqrt from beq_eq_false_iff_ne.1 hMsqrt), if_neg (show ¬ n = El.nMover from beq_eq_false_iff_ne.1 hMover), if_neg (show ¬ n = El.nMfenced from beq_eq_false_iff_ne.1 hMfenced)]
theorem ownF_no (n : List UInt8) (h : noName n) (a : Attrs) (ks : List E) (t : List UInt8) : El.ownF (.mk n a ks t) = false := by
 have hh : El.ownF (.mk n a ks t) = (if leafK n ≠ 0 then ((if n = El.nMi then lett t else if n = El.nMo then !lett t else true) && a.isEmpty && ks.isEmpty && validI (leafK n) t 0) else (t.isEmpty && El.slotsR n ks.length && El.moreR n a && decide (a.length = El.attrsR n))) := rfl;rw [hh, leafK_no n h, if_neg (by simp), slotsR_no n h];simp
theorem own_none (n : List UInt8) (hn : noName n) (a : Attrs) (ks : List E) (t : List UInt8) (g o : Nat) (va vk : Value) (w : World) (he : ElAt w g o (.mk (n) a ks t) va vk) : Calls Tryz.prog 73 #[.pointer (some ⟨g, o, none⟩)] w fun x w' => x = .returned (.bool (El.ownF (.mk (n) a ks t))) ∧ Fresh w w' := by
 obtain ⟨A, ca, hva⟩ := he.2.2.2.2.2.1.slice;obtain ⟨B, cb, hvb⟩ := he.2.2.2.2.2.2.1.slice;replace hva : va = .slice A a.length ca := hva;replace hvb : vk = .slice B ks.length cb := hvb;subst hva;subst hvb;have htl : t.length ≤ maxLen := he.2.2.2.2.2.2.2.2;have hl1 : a.length ≤ maxLen := by obtain ⟨_, _, _, h, _⟩ := he.2.2.2.2.2.1; exact h.1
 have hl2 : ks.length ≤ maxLen := he.2.2.2.2.2.2.1.len;have HTL := hid htl;unfold maxLen at hl1 hl2 htl;have HE := hid he;obtain ⟨_, a0, a1, a2, a3, _⟩ := he;replace a0 : w.cell? ⟨g, o, none⟩ = some (.string ⟨n.toArray⟩) := a0;replace a3 : w.cell? ⟨g, o + 3, none⟩ = some (.string ⟨t.toArray⟩) := a3;have HN := hid (leafK_no n hn);rw [ownF_no n hn];obtain ⟨hMi, hMo, hMn, hMtext, hMath, hMrow, hMtd, hMtable, hMtr, hMfrac, hMroot, hMsub, hMsup, hMsubsup, hMsqrt, hMover, hMfenced⟩ := hn;have hMis : ((⟨n.toArray⟩ : ByteArray) == (⟨#[109, 105]⟩ : ByteArray)) = false := by rw [str_eq']; exact hMi
 have hMil : (ByteArray.toList (⟨n.toArray⟩ : ByteArray) == [109, 105]) = false := by rw [ByteArray.toList_eq]; exact hMi
 have hMos : ((⟨n.toArray⟩ : ByteArray) == (⟨#[109, 111]⟩ : ByteArray)) = false := by rw [str_eq']; exact hMo
 have hMol : (ByteArray.toList (⟨n.toArray⟩ : ByteArray) == [109, 111]) = false := by rw [ByteArray.toList_eq]; exact hMo
 have hMns : ((⟨n.toArray⟩ : ByteArray) == (⟨#[109, 110]⟩ : ByteArray)) = false := by rw [str_eq']; exact hMn
 have hMnl : (ByteArray.toList (⟨n.toArray⟩ : ByteArray) == [109, 110]) = false := by rw [ByteArray.toList_eq]; exact hMn
 have hMtexts : ((⟨n.toArray⟩ : ByteArray) == (⟨#[109, 116, 101, 120, 116]⟩ : ByteArray)) = false := by rw [str_eq']; exact hMtext
 have hMtextl : (ByteArray.toList (⟨n.toArray⟩ : ByteArray) == [109, 116, 101, 120, 116]) = false := by rw [ByteArray.toList_eq]; exact hMtext
 have hMaths : ((⟨n.toArray⟩ : ByteArray) == (⟨#[109, 97, 116, 104]⟩ : ByteArray)) = false := by rw [str_eq']; exact hMath
 have hMathl : (ByteArray.toList (⟨n.toArray⟩ : ByteArray) == [109, 97, 116, 104]) = false := by rw [ByteArray.toList_eq]; exact hMath
 have hMrows : ((⟨n.toArray⟩ : ByteArray) == (⟨#[109, 114, 111, 119]⟩ : ByteArray)) = false := by rw [str_eq']; exact hMrow
 have hMrowl : (ByteArray.toList (⟨n.toArray⟩ : ByteArray) == [109, 114, 111, 119]) = false := by rw [ByteArray.toList_eq]; exact hMrow
 have hMtds : ((⟨n.toArray⟩ : ByteArray) == (⟨#[109, 116, 100]⟩ : ByteArray)) = false := by rw [str_eq']; exact hMtd
 have hMtdl : (ByteArray.toList (⟨n.toArray⟩ : ByteArray) == [109, 116, 100]) = false := by rw [ByteArray.toList_eq]; exact hMtd
 have hMtables : ((⟨n.toArray⟩ : ByteArray) == (⟨#[109, 116, 97, 98, 108, 101]⟩ : ByteArray)) = false := by rw [str_eq']; exact hMtable
 have hMtablel : (ByteArray.toList (⟨n.toArray⟩ : ByteArray) == [109, 116, 97, 98, 108, 101]) = false := by rw [ByteArray.toList_eq]; exact hMtable
 have hMtrs : ((⟨n.toArray⟩ : ByteArray) == (⟨#[109, 116, 114]⟩ : ByteArray)) = false := by rw [str_eq']; exact hMtr
 have hMtrl : (ByteArray.toList (⟨n.toArray⟩ : ByteArray) == [109, 116, 114]) = false := by rw [ByteArray.toList_eq]; exact hMtr
 have hMfracs : ((⟨n.toArray⟩ : ByteArray) == (⟨#[109, 102, 114, 97, 99]⟩ : ByteArray)) = false := by rw [str_eq']; exact hMfrac
 have hMfracl : (ByteArray.toList (⟨n.toArray⟩ : ByteArray) == [109, 102, 114, 97, 99]) = false := by rw [ByteArray.toList_eq]; exact hMfrac
 have hMroots : ((⟨n.toArray⟩ : ByteArray) == (⟨#[109, 114, 111, 111, 116]⟩ : ByteArray)) = false := by rw [str_eq']; exact hMroot
 have hMrootl : (ByteArray.toList (⟨n.toArray⟩ : ByteArray) == [109, 114, 111, 111, 116]) = false := by rw [ByteArray.toList_eq]; exact hMroot
 have hMsubs : ((⟨n.toArray⟩ : ByteArray) == (⟨#[109, 115, 117, 98]⟩ : ByteArray)) = false := by rw [str_eq']; exact hMsub
 have hMsubl : (ByteArray.toList (⟨n.toArray⟩ : ByteArray) == [109, 115, 117, 98]) = false := by rw [ByteArray.toList_eq]; exact hMsub
 have hMsups : ((⟨n.toArray⟩ : ByteArray) == (⟨#[109, 115, 117, 112]⟩ : ByteArray)) = false := by rw [str_eq']; exact hMsup
 have hMsupl : (ByteArray.toList (⟨n.toArray⟩ : ByteArray) == [109, 115, 117, 112]) = false := by rw [ByteArray.toList_eq]; exact hMsup
 have hMsubsups : ((⟨n.toArray⟩ : ByteArray) == (⟨#[109, 115, 117, 98, 115, 117, 112]⟩ : ByteArray)) = false := by rw [str_eq']; exact hMsubsup
 have hMsubsupl : (ByteArray.toList (⟨n.toArray⟩ : ByteArray) == [109, 115, 117, 98, 115, 117, 112]) = false := by rw [ByteArray.toList_eq]; exact hMsubsup
 have hMsqrts : ((⟨n.toArray⟩ : ByteArray) == (⟨#[109, 115, 113, 114, 116]⟩ : ByteArray)) = false := by rw [str_eq']; exact hMsqrt
 have hMsqrtl : (ByteArray.toList (⟨n.toArray⟩ : ByteArray) == [109, 115, 113, 114, 116]) = false := by rw [ByteArray.toList_eq]; exact hMsqrt
 have hMovers : ((⟨n.toArray⟩ : ByteArray) == (⟨#[109, 111, 118, 101, 114]⟩ : ByteArray)) = false := by rw [str_eq']; exact hMover
 have hMoverl : (ByteArray.toList (⟨n.toArray⟩ : ByteArray) == [109, 111, 118, 101, 114]) = false := by rw [ByteArray.toList_eq]; exact hMover
 have hMfenceds : ((⟨n.toArray⟩ : ByteArray) == (⟨#[109, 102, 101, 110, 99, 101, 100]⟩ : ByteArray)) = false := by rw [str_eq']; exact hMfenced
 have hMfencedl : (ByteArray.toList (⟨n.toArray⟩ : ByteArray) == [109, 102, 101, 110, 99, 101, 100]) = false := by rw [ByteArray.toList_eq]; exact hMfenced
 cases h0 : (t == ([] : List UInt8)) with
 | false =>
  have h0s : ((⟨t.toArray⟩ : ByteArray) == (⟨#[]⟩ : ByteArray)) = false := by rw [str_eq']; exact h0
  have h0e : (ByteArray.toList (⟨t.toArray⟩ : ByteArray)).isEmpty = false := by rw [isEmpty_str]; exact h0
  go_enter Tryz.func73, Tryz.ntmps73;go_wp2_with fail
  refine Calls.mono (leaf_is n 0 HN.out _) ?_;rintro _ w1q ⟨rfl, hqw1⟩;replace hqw1 := hqw1.symm;subst hqw1;go_wp2_with fail
  refine wp_region_quiet_lit (by kernel_rfl) (by kernel_rfl) ?_
  repeat (with_reducible refine wpQuiet_step (fun K hK => ?_); go_simp; first | (refine hK _ ?_; clear hK K) | (apply Exists.intro; refine ⟨fun _ => ?_, hK _ ?_⟩; (fail); clear hK K))
  refine wpQuiet_nil ?_;rintro _ ⟨nq, rfl⟩;go_wp2_with fail
  go_ret;exact ⟨rfl, (by first | exact (Touch.refl _ _) | exact (Touch.refl _ _).alloc _ | exact ((Touch.refl _ _).alloc _).alloc _ | exact (((Touch.refl _ _).alloc _).alloc _).alloc _ | exact (Touch.refl _ _).drewN _ | exact ((Touch.refl _ _).alloc _).drewN _ | exact (((Touch.refl _ _).alloc _).alloc _).drewN _)⟩
 | true =>
  have h0s : ((⟨t.toArray⟩ : ByteArray) == (⟨#[]⟩ : ByteArray)) = true := by rw [str_eq']; exact h0
  have h0e : (ByteArray.toList (⟨t.toArray⟩ : ByteArray)).isEmpty = true := by rw [isEmpty_str]; exact h0
  go_enter Tryz.func73, Tryz.ntmps73;go_wp2_with fail
  refine Calls.mono (leaf_is n 0 HN.out _) ?_;rintro _ w2q ⟨rfl, hqw2⟩;replace hqw2 := hqw2.symm;subst hqw2;go_wp2_with fail
  refine wp_region_quiet_lit (by kernel_rfl) (by kernel_rfl) ?_
  repeat (with_reducible refine wpQuiet_step (fun K hK => ?_); go_simp; first | (refine hK _ ?_; clear hK K) | (apply Exists.intro; refine ⟨fun _ => ?_, hK _ ?_⟩; (fail); clear hK K))
  refine wpQuiet_nil ?_;rintro _ ⟨nq, rfl⟩;go_wp2_with fail
  go_ret;exact ⟨rfl, (by first | exact (Touch.refl _ _) | exact (Touch.refl _ _).alloc _ | exact ((Touch.refl _ _).alloc _).alloc _ | exact (((Touch.refl _ _).alloc _).alloc _).alloc _ | exact (Touch.refl _ _).drewN _ | exact ((Touch.refl _ _).alloc _).drewN _ | exact (((Touch.refl _ _).alloc _).alloc _).drewN _)⟩
theorem own_elem (e : E) (g o : Nat) (va vk : Value) (w : World) (he : ElAt w g o e va vk) (hal : (attrV e.attrs El.nAccent).length ≤ maxLen) : Calls Tryz.prog 73 #[.pointer (some ⟨g, o, none⟩)] w fun x w' => x = .returned (.bool (El.ownF e)) ∧ Fresh w w' := by
 obtain ⟨n, a, ks, t⟩ := e
 rcases name_cases n with rfl | rfl | rfl | rfl | rfl | rfl | rfl | rfl | rfl | rfl | rfl | rfl | rfl | rfl | rfl | rfl | rfl | hn
 ·exact own_Mi a ks t g o va vk w he
 ·exact own_Mo a ks t g o va vk w he
 ·exact own_Mn a ks t g o va vk w he
 ·exact own_Mtext a ks t g o va vk w he
 ·exact own_Math a ks t g o va vk w he
 ·exact own_Mrow a ks t g o va vk w he
 ·exact own_Mtd a ks t g o va vk w he
 ·exact own_Mtable a ks t g o va vk w he
 ·exact own_Mtr a ks t g o va vk w he
 ·exact own_Mfrac a ks t g o va vk w he
 ·exact own_Mroot a ks t g o va vk w he
 ·exact own_Msub a ks t g o va vk w he
 ·exact own_Msup a ks t g o va vk w he
 ·exact own_Msubsup a ks t g o va vk w he
 ·exact own_Msqrt a ks t g o va vk w he
 ·exact own_Mover a ks t _ rfl hal g o va vk w he
 ·exact own_Mfenced a ks t _ _ rfl rfl g o va vk w he
 ·exact own_none n hn a ks t g o va vk w he
end Go.Proofs.YtnbeemkfmlfgfaaGreatDoor
