/- Part 28 of 35 of a proof; its texts, joined: MnY, MnZ, MoA, EqE. No condition. -/
import Derived.Test.YtnbeemkfmlfgfaaGreatDoorYa27
import Derived.Test.YtnbeemkfmlfgfaaGreatDoorYa26
import Derived.Test.YtnbeemkfmlfgfaaGreatDoorYa4
import Derived.Test.YtnbeemkfmlfgfaaGreatDoorYa13
import Derived.Test.YtnbeemkfmlfgfaaGreatDoorYa5
import Derived.Laws.StructEq
set_option maxRecDepth 100000
set_option maxHeartbeats 3000000
namespace Go.Proofs.YtnbeemkfmlfgfaaGreatDoor
open Go.RowKit Go.Maps
open Tr (Nd)
open El (E Attrs attrV itemN itemsN rowN rowsN leafK rowK)
attribute [local go_sem] stillV stillUpon
theorem owns_fresh {w w' : World} {b n : Nat} {D : DataW Unit} (h : w.ownsMap (H := Unit) Tryz.prog 9 (plainElem Tryz.prog 3) b n D) (hf : Fresh w w') : w'.ownsMap (H := Unit) Tryz.prog 9 (plainElem Tryz.prog 3) b n D :=
 h.kept (row := none) ⟨hf.os, hf.tape, hf.output, hf.size, fun i hi _ => hf.block i hi fun h => h⟩ (by simp)
theorem rk_look (n : List UInt8) (hn : n.length ≤ maxLen) (c : Int) (hc : El.rowK n = c) (w : World) (b : Nat) (h : w.ownsMap (H := Unit) Tryz.prog 9 (plainElem Tryz.prog 3) b 4 rkD) :
  (Instr.lookup 177 (.map (some b)) (.string ⟨n.toArray⟩) false).run Tryz.prog w = .ok (.int .i64 c) w := by
 obtain ⟨c', hrun, hat, _⟩ := h.lookup_int (q := .i64) strKeys Tryz.underlying177 Tryz.underlying3 (by exact Tryz.zeroValue3 w) (keyOf_strs n hn);rw [rkD_at] at hat
 have : c' = c := by
  rw [← hc];unfold El.rowK
  by_cases h1 : n = El.nMfrac
  ·subst h1
   simp only [rkL, List.find?_cons, beq_self_eq_true] at hat;cases hat; rw [if_pos rfl]
  ·by_cases h2 : n = El.nMsub
   ·subst h2
    have e : rkL.find? (·.1 == El.nMsub) = some (El.nMsub, 7) := by decide
    rw [e] at hat;cases hat; rw [if_neg h1, if_pos rfl]
   ·by_cases h3 : n = El.nMsup
    ·subst h3
     have e : rkL.find? (·.1 == El.nMsup) = some (El.nMsup, 8) := by decide
     rw [e] at hat;cases hat; rw [if_neg h1, if_neg h2, if_pos rfl]
    ·by_cases h4 : n = El.nMsubsup
     ·subst h4
      have e : rkL.find? (·.1 == El.nMsubsup) = some (El.nMsubsup, 9) := by decide
      rw [e] at hat;cases hat; rw [if_neg h1, if_neg h2, if_neg h3, if_pos rfl]
     ·have e : rkL.find? (·.1 == n) = none := by
       rw [List.find?_eq_none];intro x hx;simp only [rkL, List.mem_cons, List.not_mem_nil, or_false] at hx
       rcases hx with rfl | rfl | rfl | rfl
       ·simpa using fun h => h1 h.symm
       ·simpa using fun h => h2 h.symm
       ·simpa using fun h => h3 h.symm
       ·simpa using fun h => h4 h.symm
      rw [e] at hat;cases hat; rw [if_neg h1, if_neg h2, if_neg h3, if_neg h4]
 rw [this] at hrun;exact hrun
theorem rowsN_len (l : List E) : (rowsN l).length = l.length := by rw [El.rowsN_map, List.length_map]
theorem rowsN_take (l : List E) (j : Nat) (h : j < l.length) : (rowsN l).take j ++ [rowN l[j]] = (rowsN l).take (j + 1) := by
 rw [El.rowsN_map, List.take_add_one, List.getElem?_map, List.getElem?_eq_getElem h];rfl
theorem item_rows (n : List UInt8) (hn : n.length ≤ maxLen) (hleaf : leafK n = 0) (nMsqrt : n ≠ El.nMsqrt) (nMroot : n ≠ El.nMroot) (nMover : n ≠ El.nMover) (nMfenced : n ≠ El.nMfenced) (nMtable : n ≠ El.nMtable) (a : Attrs) (ks : List E) (t : List UInt8) (g o : Nat) (va vk : Value) (w : World) (he : ElAt w g o (.mk n a ks t) va vk)
  (hks : ∀ x ∈ ks, ItemsNC x ∧ (∀ y ∈ x.kids, El.okT y = true ∧ y.name ∈ itemNs) ∧ El.count x ≤ 100000) (hkl : ks.length ≤ 100000) :
  Calls Tryz.prog 75 #[.pointer (some ⟨g, o, none⟩)] w fun x w' => ∃ v, x = .returned v ∧ MakesN w w' (itemN (.mk n a ks t)) v := by
 obtain ⟨B, cb, hvb⟩ := he.2.2.2.2.2.2.1.slice;replace hvb : vk = .slice B ks.length cb := hvb;subst hvb;obtain ⟨c, hc⟩ : ∃ c, rowK n = c := ⟨_, rfl⟩
 have HIT := hid (show itemN (.mk n a ks t) = .mk c [] 0 (rowsN ks) by
  rw [El.itemN_eq];show El.mkN n a t _ _ _ = _;unfold El.mkN;rw [if_neg (by rw [hleaf]; simp), if_neg nMsqrt, if_neg nMroot, if_neg nMover, if_neg nMfenced, if_neg nMtable, hc]; rfl)
 rw [HIT.out];have HC := hid hc;have HLF := hid hleaf;have HNL := hid hn;have HKS := hid hks;have HE := hid he;obtain ⟨hg0, a0, _, a2, _, _⟩ := he;replace a0 : w.cell? ⟨g, o, none⟩ = some (.string ⟨n.toArray⟩) := a0;replace a2 : w.cell? ⟨g, o + 2, none⟩ = some (.slice B ks.length cb) := a2;have hMsqrt : (n == [109, 115, 113, 114, 116]) = false := beq_eq_false_iff_ne.2 nMsqrt;have hMroot : (n == [109, 114, 111, 111, 116]) = false := beq_eq_false_iff_ne.2 nMroot;have hMover : (n == [109, 111, 118, 101, 114]) = false := beq_eq_false_iff_ne.2 nMover;have hMfenced : (n == [109, 102, 101, 110, 99, 101, 100]) = false := beq_eq_false_iff_ne.2 nMfenced;have hMtable : (n == [109, 116, 97, 98, 108, 101]) = false := beq_eq_false_iff_ne.2 nMtable;have HKL := hid hkl;clear hc hleaf hn hks hkl nMsqrt nMroot nMover nMfenced nMtable;go_enter Tryz.func75, Tryz.ntmps75;go_wp2_with fail
 have HR0 := hid (Blk.new w 31 #[.int .i64 0, .string ⟨#[]⟩, .int .i64 0, .slice none 0 0]);have hf0 := (Touch.refl (fun _ => False) w).alloc (.cells #[.int .i64 0, .string ⟨#[]⟩, .int .i64 0, .slice none 0 0] 31);have hg1 := HR0.out.lt;have HF0 := hid hf0;have HE1 := hid (HE.out.fresh hf0);generalize w.alloc (.cells #[.int .i64 0, .string ⟨#[]⟩, .int .i64 0, .slice none 0 0] 31) = W1 at *;clear hf0 hg0 a0 a2;obtain ⟨hg0, a0, _, a2, _, _⟩ := HE1.out;replace a0 : W1.cell? ⟨g, o, none⟩ = some (.string ⟨n.toArray⟩) := a0;replace a2 : W1.cell? ⟨g, o + 2, none⟩ = some (.slice B ks.length cb) := a2;refine (leaf_is n 0 HLF.out _).mono ?_;rintro _ w2 ⟨rfl, hw2⟩;replace hw2 := hw2.symm;subst hw2;go_wp2_with fail
 have k0 := cR a0;refine wp_region_plan (Plan.of [(1, true), (2, true), (3, true), (4, true)] (.fork 0 (.fork 5 (.plain 6 (.lone 7 .nil)) 7 (.lone 5 (.plain 6 .nil))) 7 (.lone 0 (.lone 5 (.plain 6 .nil))))) [0, 1, 2, 3, 4, 5, 6, 7] 8 (Array.replicate 8 true ++ #[false]) [] [] (by kernel_rfl) (fun _ _ d _ _ h => by cases d <;> exact h) (by kernel_rfl) ?_;unfold Plan.of
 repeat (refine wpPlan_plain rfl (fun K hK => ?_); go_simp; refine hK _ ?_; clear hK K; first | done | unfold Plan.of)
 clear k0;have hdr := (Touch.refl (fun _ => False) W1).drewN 1;have HDR := hid hdr;clear hdr;refine wpPlan_fork ?_ ?_
 focus
  refine wpPlan_lone rfl (fun K hK => ?_);go_wp2_with fail
  refine (rowKinds_any Unit _).mono ?_;rintro _ w2 ⟨rfl, hown, hf2⟩;have HF2 := hid (show Fresh W1 w2 from HDR.out.trans hf2);have HL := hid (fun (W : World) (hW : Fresh w2 W) => show (Instr.lookup 177 (.map (some W1.heap.size)) (.string ⟨n.toArray⟩) false).run Tryz.prog W = .ok (.int .i64 c) W from rk_look n HNL.out c HC.out W _ (owns_fresh hown hW));clear hown hf2;go_wp2_with fail
  refine hK _ _ (growing_fresh HF2.out) ?_;clear hK K;refine wpPlan_fork ?_ ?_
  focus
   refine wpPlan_lone rfl (fun K hK => ?_);have hl := HL.out w2 (Touch.refl _ _);go_wp2_with fail
   refine hK _ _ (growing_fresh HF2.out) ?_;clear hK K hl;refine wpPlan_plain rfl (fun K hK => ?_); go_simp; refine hK _ ?_; clear hK K
   refine wpPlan_lone rfl (fun K hK => ?_);go_wp2_with fail
   refine hK _ _ (growing_fresh (HF2.out.alloc _)) ?_;clear hK K;have HB8 := hid (Blk.new w2 31 #[.int .i64 0, .string ⟨#[]⟩, .int .i64 0, .slice none 0 0]);have HF8 := hid (HF2.out.alloc (.cells #[.int .i64 0, .string ⟨#[]⟩, .int .i64 0, .slice none 0 0] 31));generalize w2.alloc (.cells #[.int .i64 0, .string ⟨#[]⟩, .int .i64 0, .slice none 0 0] 31) = w8 at HB8 HF8 ⊢;obtain ⟨b, hb⟩ : ∃ b, b = w2.heap.size := ⟨_, rfl⟩;have HBB := hid (show W1.heap.size ≤ b by rw [hb]; exact HF2.out.size);rw [← hb] at HB8 ⊢;clear hb HL HF2 HDR
  rotate_left
  focus
   refine wpPlan_lone rfl (fun K hK => ?_);go_wp2_with fail
   refine hK _ _ (growing_fresh (HF2.out.alloc _)) ?_;clear hK K;have HB8 := hid (Blk.new w2 31 #[.int .i64 0, .string ⟨#[]⟩, .int .i64 0, .slice none 0 0]);have HF8 := hid (HF2.out.alloc (.cells #[.int .i64 0, .string ⟨#[]⟩, .int .i64 0, .slice none 0 0] 31));have hl := HL.out _ ((Touch.refl _ w2).alloc (.cells #[.int .i64 0, .string ⟨#[]⟩, .int .i64 0, .slice none 0 0] 31));generalize w2.alloc (.cells #[.int .i64 0, .string ⟨#[]⟩, .int .i64 0, .slice none 0 0] 31) = w8 at HB8 HF8 hl ⊢;obtain ⟨b, hb⟩ : ∃ b, b = w2.heap.size := ⟨_, rfl⟩;have HBB := hid (show W1.heap.size ≤ b by rw [hb]; exact HF2.out.size);rw [← hb] at HB8 ⊢;clear hb HL HF2 HDR;refine wpPlan_lone rfl (fun K hK => ?_);go_wp2_with fail
   refine hK _ _ (growing_fresh HF8.out) ?_;clear hK K hl;refine wpPlan_plain rfl (fun K hK => ?_); go_simp; refine hK _ ?_; clear hK K
 rotate_left
 rotate_left
 focus
  refine wpPlan_lone rfl (fun K hK => ?_);go_wp2_with fail
  refine hK _ _ (growing_fresh (HDR.out.alloc _)) ?_;clear hK K;have HB3 := hid (Blk.new (W1.drewN 1) 31 #[.int .i64 0, .string ⟨#[]⟩, .int .i64 0, .slice none 0 0]);have HF3 := hid (HDR.out.alloc (.cells #[.int .i64 0, .string ⟨#[]⟩, .int .i64 0, .slice none 0 0] 31));generalize (W1.drewN 1).alloc (.cells #[.int .i64 0, .string ⟨#[]⟩, .int .i64 0, .slice none 0 0] 31) = w3 at HB3 HF3 ⊢;obtain ⟨b, hb⟩ : ∃ b, b = (W1.drewN 1).heap.size := ⟨_, rfl⟩;have HBB := hid (show W1.heap.size ≤ b by rw [hb]; exact Nat.le_refl _);rw [show W1.heap.size = b from hb.symm];rw [← hb] at HB3;clear hb HDR;refine wpPlan_lone rfl (fun K hK => ?_);go_wp2_with fail
  refine (rowKinds_any Unit _).mono ?_;rintro _ w8 ⟨rfl, hown, hf2⟩;have HF8 := hid (show Fresh W1 w8 from HF3.out.trans hf2);have HB8 := hid (hf2.blk HB3.out fun h => h);have hl := rk_look n HNL.out c HC.out w8 _ hown;clear hown hf2;go_wp2_with fail
  refine hK _ _ (growing_fresh HF8.out) ?_;clear hK K;refine wpPlan_lone rfl (fun K hK => ?_);go_wp2_with fail
  refine hK _ _ (growing_fresh HF8.out) ?_;clear hK K hl HF3 HB3;refine wpPlan_plain rfl (fun K hK => ?_); go_simp; refine hK _ ?_; clear hK K
 all_goals
  clear hg0 a0 a2;have HR8 := hid (HF8.out.blk HR0.out fun h => h);have HFA := hid (HF0.out.trans HF8.out);obtain ⟨y0, y1, y2, y3, z0, z1, z2, z3, hgr⟩ := Blk.four HB8.out;obtain ⟨r0, r1, r2, r3, _, _, _, _, _⟩ := Blk.four (HB8.out.self4 (.int .i64 c) (.string ⟨#[]⟩) (.int .i64 0) (.slice none 0 0));refine wpPlan_shut rfl (fun K hK => ?_);go_wp2_with fail
  refine wpMix_end ?_;have HBC := hid (HB8.out.self4 (.int .i64 c) (.string ⟨#[]⟩) (.int .i64 0) (.slice none 0 0));have hbne : w.heap.size ≠ b := by have := HBB.out; omega
  have HRC := hid (HR8.out.far4 hbne (.int .i64 c) (.string ⟨#[]⟩) (.int .i64 0) (.slice none 0 0));have HFC := hid (Touch.put4 HFA.out (.inr (show w.heap.size ≤ b by have := HBB.out; omega)) (.int .i64 c) (.string ⟨#[]⟩) (.int .i64 0) (.slice none 0 0));clear r0 r1 r2 r3 y0 y1 y2 y3 z0 z1 z2 z3;simp only [put4] at HBC HRC HFC;generalize (((w8.setCell ⟨b, 0, none⟩ (.int .i64 c)).setCell ⟨b, 1, none⟩ (.string ⟨#[]⟩)).setCell ⟨b, 2, none⟩ (.int .i64 0)).setCell ⟨b, 3, none⟩ (.slice none 0 0) = W2 at HBC HRC HFC ⊢;have hbw := HBC.out.lt;obtain ⟨hg0, _, _, a2, _, _⟩ := HE.out.fresh HFC.out;replace a2 : W2.cell? ⟨g, o + 2, none⟩ = some (.slice B ks.length cb) := a2;have hkl := HKL.out;go_wp2_with fail
  have HG1 := hid (show GrowN W2.heap.size W2 ((rowsN ks).take 0) (.slice none 0 0) by rw [List.take_zero]; exact GrowN.nil (Nat.le_refl _));have HBW := hid hbw;have HWW := hid HRC.out.lt;clear hg0 a2 hgr hbw
  go_loopw [144] (fun i wr => ∃ (j : Nat) (Ae : Option Addr) (ce : Nat), i = .int .i64 j ∧ j ≤ ks.length ∧ Hid (Blk wr w.heap.size 31 #[.int .i64 0, .string ⟨#[]⟩, .int .i64 0, .slice none 0 0]) ∧ Hid (Blk wr b 31 #[.int .i64 c, .string ⟨#[]⟩, .int .i64 0, .slice Ae j ce]) ∧ Hid (GrowN W2.heap.size wr ((rowsN ks).take j) (.slice Ae j ce)) ∧ Hid (Fresh w wr)) (fun i _ => ks.length - (intOf i).toNat)
  case atStart => exact ⟨0, none, 0, rfl, Nat.zero_le _, HRC, HBC, HG1, HFC⟩
  case round =>
   clear HBC HRC HFC HG1;obtain ⟨j, Ae, ce, rfl, hj, HBR, HBE, HG, HF⟩ := hrel;rename_i wr _
   by_cases c1 : j < ks.length
   ·have d1 : decide ((j : Int) < (ks.length : Int)) = true := dT (by omega)
    have d1n : decide (j < ks.length) = true := dT c1;have d1' : (j : Int) < (ks.length : Int) := by omega
    have HER := hid (HE.out.fresh HF.out);obtain ⟨gk, ok, xa, xk, rfl, hek⟩ := (show RepE wr ks _ from HER.out.2.2.2.2.2.2.1).elAt j c1;have HEK := hid hek;have HLN := hid (show ((rowsN ks).take j).length = j by rw [List.length_take, rowsN_len]; omega);have HTK := hid (rowsN_take ks j c1);have HCX := hid (HKS.out _ (List.getElem_mem c1));obtain ⟨hgr, _, _, h2, _, _⟩ := HER.out;replace h2 : wr.cell? ⟨g, o + 2, none⟩ = some (.slice (some ⟨gk, ok, none⟩) ks.length cb) := h2;obtain ⟨q0, q1, q2, q3, _, _, _, _, hlt⟩ := Blk.four HBE.out;clear hek;generalize ks[j] = x at *;go_wp2_with fail
    have k0 := cR h2;have k3 := cR q3;clear h2 q0 q1 q2 q3;refine wp_region_mix [([(0, true), (1, true), (2, true), (3, true), (4, true), (5, true), (6, true), (7, true), (8, false), (9, false)], 10), ([(11, true)], 12)] [] (by kernel_rfl) (fun _ _ d _ _ h => by cases d <;> exact h) (by kernel_rfl) ?_;refine wpMix_seg ?_
    repeat (refine wpSeq_plain rfl (fun K hK => ?_); go_simp; refine hK _ ?_; clear hK K)
    clear k0 k3;refine wpSeq_lone rfl (fun K hK => ?_);go_wp2_with fail
    refine (HCX.out.1 gk (ok + j * 4) xa xk _ (HEK.out.fresh ((Touch.refl _ _).drewN 1)) HCX.out.2.1 HCX.out.2.2).mono ?_;rintro _ w6 ⟨v6, rfl, sl, rfl, hf6, htl6, hst6⟩;have HF6 := hid (show Fresh wr w6 from ((Touch.refl _ wr).drewN 1).trans hf6);have HST6 := hid (show Stab (fun k => k < wr.heap.size) w6 fun W => RepL W (rowN x).kids sl from hst6);have HTL6 := hid htl6;obtain ⟨Ak, ck, rfl⟩ := hst6.now.slice;clear hf6 hst6 htl6;go_wp2_with fail
    refine hK _ _ (growing_fresh HF6.out) ?_;clear hK K;refine wpSeq_lone rfl (fun K hK => ?_);go_wp2_with fail
    refine hK _ _ (growing_fresh (HF6.out.alloc _)) ?_;clear hK K;have HBV := hid (Blk.new w6 31 #[.int .i64 (rowN x).kind, .string ⟨(rowN x).text.toArray⟩, .int .i64 (rowN x).cols, .slice Ak (rowN x).kids.length ck]);have HF7 := hid (HF6.out.alloc (.cells #[.int .i64 (rowN x).kind, .string ⟨(rowN x).text.toArray⟩, .int .i64 (rowN x).cols, .slice Ak (rowN x).kids.length ck] 31));have HST7 := hid (HST6.out.fresh ((Touch.refl _ w6).alloc (.cells #[.int .i64 (rowN x).kind, .string ⟨(rowN x).text.toArray⟩, .int .i64 (rowN x).cols, .slice Ak (rowN x).kids.length ck] 31)));generalize (w6.alloc (.cells #[.int .i64 (rowN x).kind, .string ⟨(rowN x).text.toArray⟩, .int .i64 (rowN x).cols, .slice Ak (rowN x).kids.length ck] 31)) = w7 at HBV HF7 HST7 ⊢;have HG7 := hid (HG.out.fresh HF7.out);have HOW := hid HG.out.own_lt;have HBE7 := hid (HF7.out.blk HBE.out fun h => h);have HBR7 := hid (HF7.out.blk HBR.out fun h => h);have HB5 := hid HG.out.1;refine wpSeq_shut rfl (fun K hK => ?_)
    go_wp2_with (at_builtin; go_loud (refine wpList_append_node rfl (.tmp 148) (.tmp 156) rfl HG7.out HLN.out (by simp [Act.eval]) (rowN x) HBV.out (by simp [Act.eval]) wr.heap.size HB5.out (fun k hk => (HOW.out k hk).2) HTL6.out HST7.out (by omega) ?_); intro A8 c8 w9 hg8 ht8 _; refine Stay.mk ?_)
    have HG8 := hid hg8;have HBE8 := hid (ht8.blk HBE7.out fun h => by have := (HOW.out _ h).1; have := HBW.out; omega);have HBR8 := hid (ht8.blk HBR7.out fun h => by have := (HOW.out _ h).1; have := HWW.out; omega);have HF9 := hid (show Fresh w w9 from (HF.out.trans HF7.out).trans' ht8 fun k hk => .inr (by have := (HOW.out _ hk).1; have := HWW.out; omega));clear hg8 ht8;obtain ⟨q0, q1, q2, q3, z0, z1, z2, z3, hlt8⟩ := Blk.four HBE8.out;refine Stay.go ?_;go_wp2_with fail
    refine wpMix_seg ?_
    repeat (refine wpSeq_plain rfl (fun K hK => ?_); go_simp; refine hK _ ?_; clear hK K)
    refine wpSeq_shut rfl (fun K hK => ?_);go_wp2_with fail
    refine wpMix_end ?_;go_wp2_with fail
    have hg9 := HG8.out.mv ((Touch.refl (fun k => k = b) w9).setCell (p := ⟨b, 3, none⟩) (.inl rfl) (.slice A8 (j + 1) c8)) (fun k hk _ => by have hk : k = b := hk; have := HBW.out; omega);rw [HTK.out] at hg9;exact ⟨⟨j + 1, A8, c8, by simp, by omega, HBR8.out.far (p := ⟨b, 3, none⟩) (by have := HBB.out; show w.heap.size ≠ b; omega) _, HBE8.out.put 3 _, hg9, HF9.out.setCell (p := ⟨b, 3, none⟩) (.inr (by show w.heap.size ≤ b; have := HBB.out; omega)) _⟩, by simp [intOf]; omega⟩
   ·have d1 : decide ((j : Int) < (ks.length : Int)) = false := dF (by omega)
    have d1n : decide (j < ks.length) = false := dF c1;obtain rfl : j = ks.length := by omega
    obtain ⟨q0, q1, q2, q3, _, _, _, _, hlt⟩ := Blk.four HBE.out;obtain ⟨p0, p1, p2, p3, y0, y1, y2, y3, hlp⟩ := Blk.four HBR.out;have hg9 := HG.out.mv ((Touch.refl (fun k => k = w.heap.size) wr).put4 (.inl rfl) (.int .i64 c) (.string ⟨#[]⟩) (.int .i64 0) (.slice Ae ks.length ce)) (fun k hk _ => by have hk : k = w.heap.size := hk; have := HWW.out; omega);rw [List.take_of_length_le (by rw [rowsN_len]; exact Nat.le_refl _)] at hg9;have HG9 := hid hg9;obtain ⟨r0, r1, r2, r3, _, _, _, _, _⟩ := Blk.four (HBR.out.self4 (.int .i64 c) (.string ⟨#[]⟩) (.int .i64 0) (.slice Ae ks.length ce));simp only [put4] at r0 r1 r2 r3;have HF9 := hid (Touch.put4 HF.out (.inr (Nat.le_refl _)) (.int .i64 c) (.string ⟨#[]⟩) (.int .i64 0) (.slice Ae ks.length ce));clear hg9 hkl c1 hj hbne;go_wp2_with fail
    refine bodyPost_ret (v := .agg #[.int .i64 c, .string ⟨#[]⟩, .int .i64 0, .slice Ae ks.length ce]) (by simp [results, Tryz.results75, go_sem, r0, r1, r2, r3]) rfl ?_;have hln := rowsN_len ks;refine ⟨_, rfl, .slice Ae ks.length ce, rfl, HF9.out, Nat.zero_le _, ?_⟩;exact (HG9.out.done.mono fun i _ hi => by have := HWW.out; omega)
end Go.Proofs.YtnbeemkfmlfgfaaGreatDoor
namespace Go.Proofs.YtnbeemkfmlfgfaaGreatDoor
open Go.RowKit
open Tr (Nd)
open El (E Attrs attrV itemN itemsN rowN rowsN cellsN colsN)
attribute [local go_sem] stillV stillUpon
theorem cellsN_take (l : List E) (i : Nat) (h : i < l.length) : cellsN (l.take (i + 1)) = cellsN (l.take i) ++ rowsN l[i].kids := by
 rw [El.cellsN_map, El.cellsN_map, List.take_add_one, List.getElem?_eq_getElem h, List.flatMap_append];simp
theorem cells_len (l : List E) : (cellsN l).length ≤ El.countL l := by
 induction l with
 | nil => exact Nat.zero_le _
 | cons x l ih =>
  obtain ⟨a, b, ks, c⟩ := x;rw [El.cellsN, List.length_append, rowsN_len, El.countL, El.count];have := El.countL_len ks;omega
theorem item_mtable (a : Attrs) (ks : List E) (t : List UInt8) (g o : Nat) (va vk : Value) (w : World) (he : ElAt w g o (.mk ([109, 116, 97, 98, 108, 101]) a ks t) va vk)
  (hne : 0 < ks.length) (hks : ∀ x ∈ ks, ∀ y ∈ x.kids, ItemsNC y ∧ (∀ z ∈ y.kids, El.okT z = true ∧ z.name ∈ itemNs) ∧ El.count y ≤ 100000) (hkl : El.countL ks ≤ 100000): Calls Tryz.prog 75 #[.pointer (some ⟨g, o, none⟩)] w fun x w' => ∃ v, x = .returned v ∧ MakesN w w' (itemN (.mk ([109, 116, 97, 98, 108, 101]) a ks t)) v := by
 obtain ⟨A, ca, hva⟩ := he.2.2.2.2.2.1.slice;obtain ⟨B, cb, hvb⟩ := he.2.2.2.2.2.2.1.slice;replace hva : va = .slice A a.length ca := hva;replace hvb : vk = .slice B ks.length cb := hvb;subst hva;subst hvb;have htl : t.length ≤ maxLen := he.2.2.2.2.2.2.2.2;have HTL := hid htl;have HE := hid he;obtain ⟨hg0, a0, a1, a2, a3, _⟩ := he;replace a0 : w.cell? ⟨g, o, none⟩ = some (.string ⟨#[109, 116, 97, 98, 108, 101]⟩) := a0;replace a2 : w.cell? ⟨g, o + 2, none⟩ = some (.slice B ks.length cb) := a2;replace a3 : w.cell? ⟨g, o + 3, none⟩ = some (.string ⟨t.toArray⟩) := a3;have HIT := hid (show itemN (.mk ([109, 116, 97, 98, 108, 101]) a ks t) = .mk 12 [] (colsN ks) (cellsN ks) from by rw [El.itemN_eq]; rfl);rw [HIT.out];have HKS := hid hks;have HKL := hid hkl;have hkl1 := El.countL_len ks;have hkn : ks.length ≤ 100000 := by omega
 have hn0 : (0 : Int) < (ks.length : Int) := by omega
 clear hks hkl hkl1;go_enter Tryz.func75, Tryz.ntmps75;go_wp2_with fail
 have HR0 := hid (Blk.new w 31 #[.int .i64 0, .string ⟨#[]⟩, .int .i64 0, .slice none 0 0]);have hf0 := (Touch.refl (fun _ => False) w).alloc (.cells #[.int .i64 0, .string ⟨#[]⟩, .int .i64 0, .slice none 0 0] 31);have hg1 := HR0.out.lt;have HF0 := hid hf0;have HE1 := hid (HE.out.fresh hf0);generalize w.alloc (.cells #[.int .i64 0, .string ⟨#[]⟩, .int .i64 0, .slice none 0 0] 31) = W1 at *;clear hf0 hg0 a0 a1 a2 a3;obtain ⟨hg0, a0, a1, a2, a3, _⟩ := HE1.out;replace a0 : W1.cell? ⟨g, o, none⟩ = some (.string ⟨#[109, 116, 97, 98, 108, 101]⟩) := a0;replace a2 : W1.cell? ⟨g, o + 2, none⟩ = some (.slice B ks.length cb) := a2;replace a3 : W1.cell? ⟨g, o + 3, none⟩ = some (.string ⟨t.toArray⟩) := a3;refine (leaf_is [109, 116, 97, 98, 108, 101] 0 (by rfl) _).mono ?_;rintro _ w2 ⟨rfl, hw2⟩;replace hw2 := hw2.symm;subst hw2;obtain ⟨gk, ok, xa, xk, rfl, hek⟩ := (show RepE W1 ks _ from HE1.out.2.2.2.2.2.2.1).elAt 0 hne;obtain ⟨B1, c1', hv1⟩ := hek.2.2.2.2.2.2.1.slice;have h02 := hek.2.2.2.1;have hgk := hek.1;rw [hv1] at h02;replace h02 : W1.cell? ⟨gk, ok + 2, none⟩ = some (.slice B1 ks[0].kids.length c1') := by simpa using h02
 have HCOL := hid (show ks[0].kids.length = colsN ks by
  match ks, hne with
  | .mk _ _ js _ :: r, _ => rfl)
 clear hek hv1;rw [HCOL.out] at h02;go_wp2_with fail
 have hb := Blk.new W1 31 #[.int .i64 12, .string ⟨#[]⟩, .int .i64 (colsN ks : Nat), .slice none 0 0];have hf2 := (Touch.refl (fun _ => False) W1).alloc (.cells #[.int .i64 12, .string ⟨#[]⟩, .int .i64 (colsN ks : Nat), .slice none 0 0] 31);have HBB := hid (show w.heap.size < W1.heap.size from hg1);have HW2 := hid (show (W1.alloc (.cells #[.int .i64 12, .string ⟨#[]⟩, .int .i64 (colsN ks : Nat), .slice none 0 0] 31)).heap.size = W1.heap.size + 1 by simp);generalize W1.alloc (.cells #[.int .i64 12, .string ⟨#[]⟩, .int .i64 (colsN ks : Nat), .slice none 0 0] 31) = W2 at *;obtain ⟨b, hbe⟩ : ∃ b, b = W1.heap.size := ⟨_, rfl⟩;rw [← hbe] at hb HBB HW2;have hbg : W1.heap.size = b := hbe.symm;have HBC := hid hb;have HRC := hid (hf2.blk HR0.out fun h => h);have HFC := hid (HF0.out.trans hf2);generalize hcn : colsN ks = cn at *;have HCN := hid hcn;have HG1 := hid (show GrowN (b + 1) W2 (cellsN (ks.take 0)) (.slice none 0 0) by rw [List.take_zero, El.cellsN]; exact GrowN.nil (by have := HW2.out; omega));rw [show W1.heap.size = b from hbg];clear hb hf2 hbe hbg hg0 a0 a1 a2 a3 h02 hgk HCOL hcn hg1
 go_loopw [98] (fun i wr => ∃ (p m : Nat) (Ae : Option Addr) (ce : Nat), i = .int .i64 p ∧ p ≤ ks.length ∧ Hid ((cellsN (ks.take p)).length = m) ∧ Hid (Blk wr w.heap.size 31 #[.int .i64 0, .string ⟨#[]⟩, .int .i64 0, .slice none 0 0]) ∧ Hid (Blk wr b 31 #[.int .i64 12, .string ⟨#[]⟩, .int .i64 (cn : Int), .slice Ae m ce]) ∧ Hid (GrowN (b + 1) wr (cellsN (ks.take p)) (.slice Ae m ce)) ∧ Hid (Fresh w wr)) (fun i _ => ks.length - (intOf i).toNat)
 case atStart => exact ⟨0, 0, none, 0, rfl, Nat.zero_le _, by show (cellsN []).length = 0; rw [El.cellsN]; rfl, HRC, HBC, HG1, HFC⟩
 case round =>
  clear HBC HRC HFC HG1;obtain ⟨p, m, Ae, ce, rfl, hp, HM, HBR, HBE, HG, HF⟩ := hrel;rename_i wr _
  by_cases cp : p < ks.length
  ·have d1 : decide ((p : Int) < (ks.length : Int)) = true := dT (by omega)
   have d1n : decide (p < ks.length) = true := dT cp;have d1' : (p : Int) < (ks.length : Int) := by omega
   have HER := hid (HE.out.fresh HF.out);obtain ⟨gi, oi, ya, yk, hgi, hey⟩ := (show RepE w ks _ from HE.out.2.2.2.2.2.2.1).elAt p cp;obtain ⟨rfl, rfl⟩ : gk = gi ∧ ok = oi := by cases hgi; exact ⟨rfl, rfl⟩
   have hyl : ks[p].kids.length ≤ 100000 := by
    have h1 := El.count_mem (List.getElem_mem cp);have h2 := El.count_kids ks[p];have h3 := El.countL_len ks[p].kids;have := HKL.out;omega
   have hml : m ≤ 100000 := by
    have h1 := cells_len (ks.take p);have h2 := El.countL_le ks p;have := HKL.out;rw [← HM.out]; omega
   have HCT := hid (cellsN_take ks p cp);have HKX := hid (HKS.out _ (List.getElem_mem cp));obtain ⟨Bl, cl, hvl⟩ := hey.2.2.2.2.2.2.1.slice;subst hvl;have hey2 := hey.fresh HF.out;have hgy := hey2.1;have h2y := hey2.2.2.2.1;clear hey2;obtain ⟨hgr, _, _, h2, _, _⟩ := HER.out;replace h2 : wr.cell? ⟨g, o + 2, none⟩ = some (.slice (some ⟨gk, ok, none⟩) ks.length cb) := h2;have HPI := hid (fun (W : World) (hW : Fresh w W) => hey.fresh hW);have HGI := hid (show ∀ W : World, Fresh w W → ElAt W g o (.mk [109, 116, 97, 98, 108, 101] a ks t) (.slice A a.length ca) (.slice (some ⟨gk, ok, none⟩) ks.length cb) from fun W hW => HE.out.fresh hW);clear hey hgi;generalize ks[p] = y at *;go_wp2_with fail
   clear hgy h2y hgr h2
   go_loopw [110] (fun i wr => ∃ (j : Nat) (Ae : Option Addr) (ce : Nat), i = .int .i64 j ∧ j ≤ y.kids.length ∧ Hid (Blk wr w.heap.size 31 #[.int .i64 0, .string ⟨#[]⟩, .int .i64 0, .slice none 0 0]) ∧ Hid (Blk wr b 31 #[.int .i64 12, .string ⟨#[]⟩, .int .i64 (cn : Int), .slice Ae (m + j) ce]) ∧ Hid (GrowN (b + 1) wr (cellsN (ks.take p) ++ (rowsN y.kids).take j) (.slice Ae (m + j) ce)) ∧ Hid (Fresh w wr)) (fun i _ => y.kids.length - (intOf i).toNat)
   case atStart => exact ⟨0, Ae, ce, rfl, Nat.zero_le _, HBR, HBE, by rw [List.take_zero, List.append_nil]; exact HG, HF⟩
   case round =>
    clear HBR HBE HG HF;obtain ⟨j, Ae, ce, rfl, hj, HBR, HBE, HG, HF⟩ := hrel;rename_i wr _
    by_cases c1 : j < y.kids.length
    ·have e1 : decide ((j : Int) < (y.kids.length : Int)) = true := dT (by omega)
     have e1n : decide (j < y.kids.length) = true := dT c1;have e1' : (j : Int) < (y.kids.length : Int) := by omega
     have HPY := hid (HPI.out wr HF.out);obtain ⟨gj, oj, za, zk, rfl, hek⟩ := (show RepE wr y.kids _ from HPY.out.2.2.2.2.2.2.1).elAt j c1;have HEK := hid hek;have HLN := hid (show (cellsN (ks.take p) ++ (rowsN y.kids).take j).length = m + j by rw [List.length_append, HM.out, List.length_take, rowsN_len]; omega);have HTK := hid (rowsN_take y.kids j c1);have HCX := hid (HKX.out _ (List.getElem_mem c1));obtain ⟨hgr, _, _, h2, _, _⟩ := HE.out.fresh HF.out;replace h2 : wr.cell? ⟨g, o + 2, none⟩ = some (.slice (some ⟨gk, ok, none⟩) ks.length cb) := h2;obtain ⟨hgy, _, _, h2y, _, _⟩ := HPY.out;obtain ⟨q0, q1, q2, q3, _, _, _, _, hlt⟩ := Blk.four HBE.out;clear hek;generalize y.kids[j] = x at *;go_wp2_with fail
     have k0 := cR h2;have k1 := cR h2y;have k3 := cR q3;clear h2 h2y q0 q1 q2 q3;refine wp_region_mix [([(0, true), (1, true), (2, true), (3, true), (4, true), (5, true), (6, true), (7, true), (8, true), (9, true), (10, true), (11, true), (12, false), (13, false)], 14), ([(15, true)], 16)] [] (by kernel_rfl) (fun _ _ d _ _ h => by cases d <;> exact h) (by kernel_rfl) ?_;refine wpMix_seg ?_
     repeat (refine wpSeq_plain rfl (fun K hK => ?_); go_simp; refine hK _ ?_; clear hK K)
     clear k0 k1 k3;refine wpSeq_lone rfl (fun K hK => ?_);go_wp2_with fail
     refine (HCX.out.1 gj (oj + j * 4) za zk _ (HEK.out.fresh ((Touch.refl _ _).drewN 1)) HCX.out.2.1 HCX.out.2.2).mono ?_;rintro _ w6 ⟨v6, rfl, sl, rfl, hf6, htl6, hst6⟩;have HF6 := hid (show Fresh wr w6 from ((Touch.refl _ wr).drewN 1).trans hf6);have HST6 := hid (show Stab (fun k => k < wr.heap.size) w6 fun W => RepL W (rowN x).kids sl from hst6);have HTL6 := hid htl6;obtain ⟨Ak, ck, rfl⟩ := hst6.now.slice;clear hf6 hst6 htl6;go_wp2_with fail
     refine hK _ _ (growing_fresh HF6.out) ?_;clear hK K;refine wpSeq_lone rfl (fun K hK => ?_);go_wp2_with fail
     refine hK _ _ (growing_fresh (HF6.out.alloc _)) ?_;clear hK K;have HBV := hid (Blk.new w6 31 #[.int .i64 (rowN x).kind, .string ⟨(rowN x).text.toArray⟩, .int .i64 (rowN x).cols, .slice Ak (rowN x).kids.length ck]);have HF7 := hid (HF6.out.alloc (.cells #[.int .i64 (rowN x).kind, .string ⟨(rowN x).text.toArray⟩, .int .i64 (rowN x).cols, .slice Ak (rowN x).kids.length ck] 31));have HST7 := hid (HST6.out.fresh ((Touch.refl _ w6).alloc (.cells #[.int .i64 (rowN x).kind, .string ⟨(rowN x).text.toArray⟩, .int .i64 (rowN x).cols, .slice Ak (rowN x).kids.length ck] 31)));generalize (w6.alloc (.cells #[.int .i64 (rowN x).kind, .string ⟨(rowN x).text.toArray⟩, .int .i64 (rowN x).cols, .slice Ak (rowN x).kids.length ck] 31)) = w7 at HBV HF7 HST7 ⊢;have HG7 := hid (HG.out.fresh HF7.out);have HOW := hid HG.out.own_lt;have HBE7 := hid (HF7.out.blk HBE.out fun h => h);have HBR7 := hid (HF7.out.blk HBR.out fun h => h);have HB5 := hid HG.out.1;refine wpSeq_shut rfl (fun K hK => ?_)
     go_wp2_with (at_builtin; go_loud (refine wpList_append_node rfl (.tmp 114) (.tmp 126) rfl HG7.out HLN.out (by simp [Act.eval]) (rowN x) HBV.out (by simp [Act.eval]) wr.heap.size HB5.out (fun k hk => (HOW.out k hk).2) HTL6.out HST7.out (by omega) ?_); intro A8 c8 w9 hg8 ht8 _; refine Stay.mk ?_)
     have HG8 := hid hg8;have HBE8 := hid (ht8.blk HBE7.out fun h => by have := (HOW.out _ h).1; omega);have HBR8 := hid (ht8.blk HBR7.out fun h => by have := (HOW.out _ h).1; have := HBB.out; omega);have HF9 := hid (show Fresh w w9 from (HF.out.trans HF7.out).trans' ht8 fun k hk => .inr (by have := (HOW.out _ hk).1; have := HBB.out; omega));clear hg8 ht8;obtain ⟨q0, q1, q2, q3, z0, z1, z2, z3, hlt8⟩ := Blk.four HBE8.out;refine Stay.go ?_;go_wp2_with fail
     refine wpMix_seg ?_
     repeat (refine wpSeq_plain rfl (fun K hK => ?_); go_simp; refine hK _ ?_; clear hK K)
     refine wpSeq_shut rfl (fun K hK => ?_);go_wp2_with fail
     refine wpMix_end ?_;go_wp2_with fail
     have hg9 := HG8.out.mv ((Touch.refl (fun k => k = b) w9).setCell (p := ⟨b, 3, none⟩) (.inl rfl) (.slice A8 (m + j + 1) c8)) (fun k hk _ => by have hk : k = b := hk; omega);rw [List.append_assoc, HTK.out] at hg9;exact ⟨⟨j + 1, A8, c8, by simp, by omega, HBR8.out.far (p := ⟨b, 3, none⟩) (by have := HBB.out; show w.heap.size ≠ b; omega) _, HBE8.out.put 3 _, hg9, HF9.out.setCell (p := ⟨b, 3, none⟩) (.inr (by show w.heap.size ≤ b; have := HBB.out; omega)) _⟩, by simp [intOf]; omega⟩
    ·have e1 : decide ((j : Int) < (y.kids.length : Int)) = false := dF (by omega)
     have e1n : decide (j < y.kids.length) = false := dF c1;obtain rfl : j = y.kids.length := by omega
     have HMN := hid (show (cellsN (ks.take (p + 1))).length = m + y.kids.length by rw [HCT.out, List.length_append, HM.out, rowsN_len])
     have HGN := hid (show GrowN (b + 1) wr (cellsN (ks.take (p + 1))) (.slice Ae (m + y.kids.length) ce) by
      have := HG.out;rw [show (rowsN y.kids).take y.kids.length = rowsN y.kids from List.take_of_length_le (by rw [rowsN_len]; exact Nat.le_refl _)] at this;rw [HCT.out]; exact this)
     clear hyl hml c1 hj;go_wp2_with fail
     go_roundw
     case rel => exact ⟨p + 1, m + y.kids.length, Ae, ce, by go_num, cp, HMN, HBR, HBE, HGN, HF⟩
     case measure => simp [intOf]; omega
  ·have d1 : decide ((p : Int) < (ks.length : Int)) = false := dF (by omega)
   have d1n : decide (p < ks.length) = false := dF cp;obtain rfl : p = ks.length := by omega
   obtain ⟨q0, q1, q2, q3, _, _, _, _, hlt⟩ := Blk.four HBE.out;obtain ⟨p0, p1, p2, p3, y0, y1, y2, y3, hlp⟩ := Blk.four HBR.out;have hg9 := HG.out.mv ((Touch.refl (fun k => k = w.heap.size) wr).put4 (.inl rfl) (.int .i64 12) (.string ⟨#[]⟩) (.int .i64 (cn : Int)) (.slice Ae m ce)) (fun k hk _ => by have hk : k = w.heap.size := hk; have := HBB.out; omega);rw [List.take_length] at hg9;have HG9 := hid hg9;obtain ⟨r0, r1, r2, r3, _, _, _, _, _⟩ := Blk.four (HBR.out.self4 (.int .i64 12) (.string ⟨#[]⟩) (.int .i64 (cn : Int)) (.slice Ae m ce));simp only [put4] at r0 r1 r2 r3;have HF9 := hid (Touch.put4 HF.out (.inr (Nat.le_refl _)) (.int .i64 12) (.string ⟨#[]⟩) (.int .i64 (cn : Int)) (.slice Ae m ce));clear hg9 hkn cp hp hn0;go_wp2_with fail
   refine bodyPost_ret (v := .agg #[.int .i64 12, .string ⟨#[]⟩, .int .i64 (cn : Int), .slice Ae m ce]) (by simp [results, Tryz.results75, go_sem, r0, r1, r2, r3]) rfl ?_;rw [HCN.out];refine ⟨_, rfl, .slice Ae m ce, rfl, HF9.out, Nat.zero_le _, ?_⟩;exact (HG9.out.done.mono fun i _ hi => by have := HBB.out; omega)
end Go.Proofs.YtnbeemkfmlfgfaaGreatDoor
namespace Go.Proofs.YtnbeemkfmlfgfaaGreatDoor
open Go.RowKit
open Tr (Nd)
open El (E Attrs attrV okT okL admF itemN itemsN rowN)
theorem own_name (e : E) (h : El.ownF e = true) : e.name ∈ itemNs ∨ e.name = El.nMath ∨ e.name = El.nMrow ∨ e.name = El.nMtd ∨ e.name = El.nMtr := by
 obtain ⟨n, a, ks, t⟩ := e;show n ∈ itemNs ∨ n = El.nMath ∨ n = El.nMrow ∨ n = El.nMtd ∨ n = El.nMtr
 rcases name_cases n with h0 | h0 | h0 | h0 | h0 | h0 | h0 | h0 | h0 | h0 | h0 | h0 | h0 | h0 | h0 | h0 | h0 | hn
 all_goals first
  | (refine .inl ?_; rw [h0]; decide)
  | (exact .inr (.inl h0))
  | (exact .inr (.inr (.inl h0)))
  | (exact .inr (.inr (.inr (.inl h0))))
  | (exact .inr (.inr (.inr (.inr h0))))
  | (rw [ownF_no n hn] at h; cases h)
theorem row_ready (x : E) (hok : okT x = true) (hn : x.name = El.nMath ∨ x.name = El.nMrow ∨ x.name = El.nMtd) : ∀ y ∈ x.kids, okT y = true ∧ y.name ∈ itemNs := by
 intro y hy;rw [El.okT_eq, Bool.and_eq_true, El.okL_all, List.all_eq_true] at hok;have hxy := hok.2 y hy;rw [Bool.and_eq_true] at hxy;refine ⟨hxy.2, ?_⟩;have hoy := hxy.2;rw [El.okT_eq, Bool.and_eq_true] at hoy;have ha := hxy.1;obtain ⟨n, a, ks, t⟩ := x;obtain ⟨m, b, ls, s⟩ := y;replace ha : (if n = El.nMath ∨ n = El.nMrow ∨ n = El.nMtd then !(decide (m = El.nMath) || decide (m = El.nMrow) || decide (m = El.nMtd) || decide (m = El.nMtr)) else _) = true := ha;replace hn : n = El.nMath ∨ n = El.nMrow ∨ n = El.nMtd := hn;rw [if_pos hn] at ha;simp only [Bool.not_eq_true', Bool.or_eq_false_iff, decide_eq_false_iff_not] at ha
 rcases own_name _ hoy.1 with h | h | h | h | h
 ·exact h
 ·exact absurd h ha.1.1.1
 ·exact absurd h ha.1.1.2
 ·exact absurd h ha.1.2
 ·exact absurd h ha.2
theorem kid_rows (n : List UInt8) (a : Attrs) (ks : List E) (t : List UInt8) (hok : okT (.mk n a ks t) = true) (h1 : ¬ (n = El.nMath ∨ n = El.nMrow ∨ n = El.nMtd)) (h2 : n ≠ El.nMtable) (h3 : n ≠ El.nMtr) : ∀ x ∈ ks, okT x = true ∧ x.name = El.nMrow := by
 intro x hx;rw [El.okT_eq, Bool.and_eq_true, El.okL_all, List.all_eq_true] at hok;have hxy := hok.2 x hx;rw [Bool.and_eq_true] at hxy;refine ⟨hxy.2, ?_⟩;have ha := hxy.1;obtain ⟨m, b, ls, s⟩ := x;replace ha : (if n = El.nMath ∨ n = El.nMrow ∨ n = El.nMtd then _ else if n = El.nMtable then _ else if n = El.nMtr then _ else decide (m = El.nMrow)) = true := ha;rw [if_neg h1, if_neg h2, if_neg h3] at ha;exact of_decide_eq_true ha
theorem table_rows (a : Attrs) (ks : List E) (t : List UInt8) (hok : okT (.mk El.nMtable a ks t) = true) : ∀ x ∈ ks, okT x = true ∧ x.name = El.nMtr := by
 intro x hx;rw [El.okT_eq, Bool.and_eq_true, El.okL_all, List.all_eq_true] at hok;have hxy := hok.2 x hx;rw [Bool.and_eq_true] at hxy;refine ⟨hxy.2, ?_⟩;have ha := hxy.1;obtain ⟨m, b, ls, s⟩ := x;replace ha : (decide (m = El.nMtr) && _) = true := ha;rw [Bool.and_eq_true] at ha;exact of_decide_eq_true ha.1
theorem tr_cells (x : E) (hok : okT x = true) (hn : x.name = El.nMtr) : ∀ y ∈ x.kids, okT y = true ∧ y.name = El.nMtd := by
 intro y hy;rw [El.okT_eq, Bool.and_eq_true, El.okL_all, List.all_eq_true] at hok;have hxy := hok.2 y hy;rw [Bool.and_eq_true] at hxy;refine ⟨hxy.2, ?_⟩;have ha := hxy.1;obtain ⟨n, a, ks, t⟩ := x;obtain ⟨m, b, ls, s⟩ := y;replace hn : n = El.nMtr := hn;subst hn;replace ha : decide (m = El.nMtd) = true := ha;exact of_decide_eq_true ha
theorem one_of {l : List E} (h : l.length = 1) : ∃ x, l = [x] := by
 match l, h with
 | [x], _ => exact ⟨x, rfl⟩
theorem two_of {l : List E} (h : l.length = 2) : ∃ x y, l = [x, y] := by
 match l, h with
 | [x, y], _ => exact ⟨x, y, rfl⟩
theorem item_some (e : E) (hok : okT e = true) (hn : e.name ∈ itemNs) (hI : ∀ x ∈ e.kids, ItemsNC x) (hJ : ∀ x ∈ e.kids, ∀ y ∈ x.kids, ItemsNC y) : ∀ (g o : Nat) (va vk : Value) (w : World), ElAt w g o e va vk → El.count e ≤ 100000 →
  Calls Tryz.prog 75 #[.pointer (some ⟨g, o, none⟩)] w fun x w' => ∃ v, x = .returned v ∧ MakesN w w' (itemN e) v := by
 intro g o va vk w he hc;obtain ⟨n, a, ks, t⟩ := e;have hown : El.ownF (.mk n a ks t) = true := by rw [El.okT_eq, Bool.and_eq_true] at hok; exact hok.1
 replace hn : n ∈ itemNs := hn;replace hI : ∀ x ∈ ks, ItemsNC x := hI;replace hJ : ∀ x ∈ ks, ∀ y ∈ x.kids, ItemsNC y := hJ;have hcl : El.countL ks ≤ 100000 := by rw [El.count] at hc; omega
 have hcx : ∀ x ∈ ks, El.count x ≤ 100000 := fun x hx => by have := El.count_mem hx; omega
 have hkn : ks.length ≤ 100000 := by have := El.countL_len ks; omega
 have hnr : ∀ m ∈ itemNs, ¬ (m = El.nMath ∨ m = El.nMrow ∨ m = El.nMtd) ∧ m ≠ El.nMtr := by decide
 have hready : n ≠ El.nMtable → ∀ x ∈ ks, ∀ y ∈ x.kids, okT y = true ∧ y.name ∈ itemNs := fun ht x hx => by
  have := kid_rows n a ks t hok (hnr n hn).1 ht (hnr n hn).2 x hx;exact row_ready x this.1 (.inr (.inl this.2))
 simp only [itemNs, List.mem_cons, List.not_mem_nil, or_false] at hn;have hal : ∀ nm, (attrV a nm).length ≤ maxLen := attrV_len he.2.2.2.2.2.1
 rcases hn with rfl | rfl | rfl | rfl | rfl | rfl | rfl | rfl | rfl | rfl | rfl | rfl | rfl
 ·exact item_mi a ks t g o va vk w he
 ·exact item_mo a ks t g o va vk w he
 ·exact item_mn a ks t g o va vk w he
 ·exact item_mtext a ks t g o va vk w he
 ·exact item_rows El.nMfrac (by decide) (by rfl) (by decide) (by decide) (by decide) (by decide) (by decide) a ks t g o va vk w he (fun x hx => ⟨hI x hx, hready (by decide) x hx, hcx x hx⟩) hkn
 ·rw [show El.ownF (.mk El.nMsqrt a ks t) = _ from ownF_Msqrt] at hown
  simp only [Bool.and_eq_true, beq_iff_eq] at hown;obtain ⟨x, rfl⟩ := one_of (show ks.length = 1 by omega);exact item_msqrt a [x] t x rfl (hI x (by simp)) (hready (by decide) x (by simp)) (hcx x (by simp)) g o va vk w he
 ·rw [show El.ownF (.mk El.nMroot a ks t) = _ from ownF_Mroot] at hown
  simp only [Bool.and_eq_true, beq_iff_eq] at hown;obtain ⟨x, y, rfl⟩ := two_of (show ks.length = 2 by omega);exact item_mroot a [x, y] t x y rfl (hI x (by simp)) (hI y (by simp)) (hready (by decide) x (by simp)) (hready (by decide) y (by simp)) (hcx x (by simp)) (hcx y (by simp)) g o va vk w he
 ·exact item_rows El.nMsub (by decide) (by rfl) (by decide) (by decide) (by decide) (by decide) (by decide) a ks t g o va vk w he (fun x hx => ⟨hI x hx, hready (by decide) x hx, hcx x hx⟩) hkn
 ·exact item_rows El.nMsup (by decide) (by rfl) (by decide) (by decide) (by decide) (by decide) (by decide) a ks t g o va vk w he (fun x hx => ⟨hI x hx, hready (by decide) x hx, hcx x hx⟩) hkn
 ·exact item_rows El.nMsubsup (by decide) (by rfl) (by decide) (by decide) (by decide) (by decide) (by decide) a ks t g o va vk w he (fun x hx => ⟨hI x hx, hready (by decide) x hx, hcx x hx⟩) hkn
 ·rw [show El.ownF (.mk El.nMover a ks t) = _ from ownF_Mover] at hown
  simp only [Bool.and_eq_true, beq_iff_eq] at hown;obtain ⟨x, rfl⟩ := one_of (show ks.length = 1 by omega);exact item_mover a [x] t x rfl (hI x (by simp)) (hready (by decide) x (by simp)) (hcx x (by simp)) _ rfl (hal _) g o va vk w he
 ·rw [show El.ownF (.mk El.nMfenced a ks t) = _ from ownF_Mfenced] at hown
  simp only [Bool.and_eq_true, beq_iff_eq] at hown;obtain ⟨x, rfl⟩ := one_of (show ks.length = 1 by omega);exact item_mfenced a [x] t x rfl (hI x (by simp)) (hready (by decide) x (by simp)) (hcx x (by simp)) _ _ rfl rfl (by omega) (by omega) g o va vk w he
 ·have hlen : 0 < ks.length := by
   rw [show El.ownF (.mk El.nMtable a ks t) = _ from ownF_Mtable] at hown;simp only [Bool.and_eq_true, decide_eq_true_eq] at hown;omega
  refine item_mtable a ks t g o va vk w he hlen (fun x hx y hy => ⟨hJ x hx y hy, ?_, ?_⟩) hcl
  ·have h1 := table_rows a ks t hok x hx
   have h2 := tr_cells x h1.1 h1.2 y hy;exact row_ready y h2.1 (.inr (.inr h2.2))
  ·have h1 := El.count_mem hy
   have h2 := El.count_kids x;have := hcx x hx;omega
theorem items_all : ∀ (m : Nat) (e : E), El.count e ≤ m → ItemNC e ∧ ItemsNC e := by
 intro m
 induction m with
 | zero => intro e h; have := El.count_pos e; omega
 | succ m ih =>
  intro e hm;have hk : ∀ x ∈ e.kids, El.count x ≤ m := fun x hx => by have := El.count_mem hx; have := El.count_kids e; omega
  refine ⟨fun g o va vk w he hok hn hc => item_some e hok hn (fun x hx => (ih x (hk x hx)).2) (fun x hx y hy => (ih y (by have := El.count_mem hy; have := El.count_kids x; have := hk x hx; omega)).2) g o va vk w he hc, ?_⟩;exact items_step e fun x hx => (ih x (hk x hx)).1
theorem items_any (e : E) : ItemsNC e := (items_all _ e (Nat.le_refl _)).2
end Go.Proofs.YtnbeemkfmlfgfaaGreatDoor
namespace Go.Proofs.YtnbeemkfmlfgfaaGreatDoor
open Go.RowKit
open El (E Attrs)
theorem guardAttr : Tryz.prog.eqGuardType Tryz.prog.depth 79 = false := by kernel_rfl
theorem stoodAttr : Tryz.prog.stoodInHeld 79 = false := by kernel_rfl
theorem fieldsAttr : Tryz.prog.underlying 79 = some (.struct (Tryz.prog.fieldsOf 79)) := by kernel_rfl
theorem eqAttr (a b c d : ByteArray) (w : World) : (Op.equalIn 10000 79 (.agg #[.string a, .string b]) (.agg #[.string c, .string d])).run Tryz.prog w = .ok (a == c && b == d) w := by
 rw [show (10000 : Nat) = 9999 + 1 from rfl, run_equalIn_struct w 9999 79 _ _ fieldsAttr stoodAttr];simp only [Program.fieldsOf, Tryz.underlying79];go_simp;rw [beq_toListBytes a c, beq_toListBytes b d]
 by_cases h1 : a.toList = c.toList <;> by_cases h2 : b.toList = d.toList <;> simp [h1, h2]
theorem eqE_snoc : ∀ (xs ys : List E) (k : Nat) (hx : k < xs.length) (hy : k < ys.length), El.eqL (xs.take (k + 1)) (ys.take (k + 1)) = (El.eqL (xs.take k) (ys.take k) && El.eqE xs[k] ys[k])
 | x :: xs, y :: ys, 0, _, _ => by simp [El.eqL]
 | x :: xs, y :: ys, k + 1, hx, hy => by
  simp only [List.take_succ_cons, El.eqL, List.getElem_cons_succ];rw [eqE_snoc xs ys k (by simpa using hx) (by simpa using hy), Bool.and_assoc]
 | [], _, _, hx, _ => by simp at hx
 | _ :: _, [], _, _, hy => by simp at hy
theorem eqE_no : ∀ (xs ys : List E) (k : Nat) (hx : k < xs.length) (hy : k < ys.length), El.eqE xs[k] ys[k] = false → El.eqL xs ys = false
 | x :: xs, y :: ys, 0, _, _, h => by simp only [List.getElem_cons_zero] at h; rw [El.eqL, h, Bool.false_and]
 | x :: xs, y :: ys, k + 1, hx, hy, h => by
  simp only [List.getElem_cons_succ] at h;rw [El.eqL, eqE_no xs ys k (by simpa using hx) (by simpa using hy) h, Bool.and_false]
 | [], _, _, hx, _, _ => by simp at hx
 | _ :: _, [], _, _, hy, _ => by simp at hy
theorem str_dec (a b : List UInt8) (p : Bool) (h : decide (a = b) = p) : ((⟨a.toArray⟩ : ByteArray) != (⟨b.toArray⟩ : ByteArray)) = !p := by
 rw [bne, str_eq', ← h];rw [Bool.eq_iff_iff];simp
theorem int_dec (a b : Nat) (p : Bool) (h : decide (a = b) = p) : ((a : Int) != (b : Int)) = !p := by
 rw [bne, ← h, Bool.eq_iff_iff];simp only [Bool.not_eq_true', beq_eq_false_iff_ne, ne_eq, decide_eq_false_iff_not];omega
theorem take_eq_snoc {α : Type} (l m : List α) (j : Nat) (hl : j < l.length) (hm : j < m.length) (h : l.take j = m.take j) (he : l[j] = m[j]) : l.take (j + 1) = m.take (j + 1) := by
 rw [List.take_add_one, List.take_add_one, h, List.getElem?_eq_getElem hl, List.getElem?_eq_getElem hm, he]
end Go.Proofs.YtnbeemkfmlfgfaaGreatDoor
