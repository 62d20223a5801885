/- Part 35 of 35 of a proof; its texts, joined: MoN, MoV, XuA. No condition. -/
import Derived.Test.YtnbeemkfmlfgfaaGreatDoorYa34
import Derived.Test.YtnbeemkfmlfgfaaGreatDoorYa13
import Derived.Test.YtnbeemkfmlfgfaaGreatDoorYa31
import Derived.Test.YtnbeemkfmlfgfaaGreatDoorYa5
import Derived.Test.YtnbeemkfmlfgfaaGreatDoorYa11
import Derived.Test.YtnbeemkfmlfgfaaGreatDoorYa2
import Derived.Test.YtnbeemkfmlfgfaaGreatDoorTie
import Derived.Test.YtnbeemkfmlfgfaaGreatDoorCards
import Derived.ProofKit
import Derived.OpenShut
import Derived.ChangeSlices
import Derived.LaidMore
import Derived.Lay
import Derived.SevenTiedAt
import Derived.Stop.Joined
set_option maxRecDepth 100000
set_option maxHeartbeats 4000000
namespace Go.Proofs.YtnbeemkfmlfgfaaGreatDoor
open Go.RowKit
open El (E Attrs)
theorem all_snocE (l : List E) (j : Nat) (h : j < l.length) (p : E → Bool) : (l.take (j + 1)).all p = ((l.take j).all p && p l[j]) := by
 rw [List.take_add_one, List.getElem?_eq_getElem h, List.all_append];simp
theorem all_noE (l : List E) (j : Nat) (h : j < l.length) (p : E → Bool) (hn : p l[j] = false) : l.all p = false := by
 rw [List.all_eq_false];exact ⟨l[j], List.getElem_mem h, by rw [hn]; decide⟩
theorem empty_forms (t : List UInt8) (b : Bool) (h : t.isEmpty = b) : (t == ([] : List UInt8)) = b ∧ (t != ([] : List UInt8)) = (!b) ∧ ((⟨t.toArray⟩ : ByteArray) == (⟨#[]⟩ : ByteArray)) = b ∧ ((⟨t.toArray⟩ : ByteArray) != (⟨#[]⟩ : ByteArray)) = (!b) ∧ (⟨t.toArray⟩ : ByteArray).toList.isEmpty = b := by
 have h1 : (t == ([] : List UInt8)) = b := by rw [← h]; cases t <;> rfl
 have h2 : ((⟨t.toArray⟩ : ByteArray) == (⟨#[]⟩ : ByteArray)) = b := str_decT t [] b h1;exact ⟨h1, by rw [bne, h1], h2, by rw [bne, h2], by rw [ByteArray.toList_eq]; exact h⟩
def RProperC (e : E) : Prop := ∀ (va vk : Value) (w : World), RepV w e va vk → Calls Tryz.prog 46 #[ev e va vk] w fun x w' => x = .returned (.bool (El.proper e)) ∧ Fresh w w'
theorem rproper_step (e : E) (ih : ∀ x ∈ e.kids, RProperC x) : RProperC e := by
 intro va vk w hr;obtain ⟨A, ca, hva⟩ := hr.1.slice;obtain ⟨B, cb, hvk⟩ := hr.2.1.slice;have HR := hid hr;have HIH := hid ih;obtain ⟨n, ats, ks, t⟩ := e;have hl1 : ats.length ≤ maxLen := by obtain ⟨_, _, _, h, _⟩ := hr.1; exact h.1
 have hl2 : ks.length ≤ maxLen := hr.2.1.len;have hnl : n.length ≤ maxLen := hr.2.2.1;have htl : t.length ≤ maxLen := hr.2.2.2;unfold maxLen at hl1 hl2 hnl htl;have HPE := hid (show El.proper (.mk n ats ks t) = (El.nameOK n && El.valueOK t && (t.isEmpty || ks.isEmpty) && decide (ats.length ≤ 8) && El.attrsOK ats && ks.all El.proper) by rw [El.proper_eq, El.properL_all]; rfl);replace hva : va = .slice A ats.length ca := hva;replace hvk : vk = .slice B ks.length cb := hvk;subst hva;subst hvk;unfold ev;simp only [E.name, E.kids, E.text] at HIH ⊢;clear hr ih;generalize El.proper (.mk n ats ks t) = PR at HPE ⊢;have HK := hid (show RepE w ks _ from HR.out.2.1);have HA := hid (show RepA w ats _ from HR.out.1);have HNM := hid (fun W : World => rname23_list n W hnl);have HVL := hid (fun W : World => rvalue_list t W htl);have HB0 := hid (Blk.new w 45 #[.string ⟨n.toArray⟩, .slice A ats.length ca, .slice B ks.length cb, .string ⟨t.toArray⟩]);have HF0 := hid ((Touch.refl (fun _ => False) w).alloc (.cells #[.string ⟨n.toArray⟩, .slice A ats.length ca, .slice B ks.length cb, .string ⟨t.toArray⟩] 45));cases hn : El.nameOK n with
 | false =>
  have HPR := hid (show PR = false by rw [HPE.out, hn]; rfl);go_enter Tryz.func46, Tryz.ntmps46;go_wp2_with fail
  refine (HNM.out _).mono ?_;rintro _ w1 ⟨rfl, hf1⟩;have HF1 := hid (HF0.out.trans hf1);clear hf1;rw [hn];go_wp2_with fail
  go_ret;exact ⟨ret_bool' _ _ HPR.out.symm, HF1.out⟩
 | true =>
 cases c1 : decide ((8 : Int) < (ats.length : Int)) with
 | true =>
  have HPR := hid (show PR = false by rw [HPE.out, show decide (ats.length ≤ 8) = false from dF (by have := of_decide_eq_true c1; omega)]; simp);go_enter Tryz.func46, Tryz.ntmps46;go_wp2_with fail
  refine (HNM.out _).mono ?_;rintro _ w1 ⟨rfl, hf1⟩;have HF1 := hid (HF0.out.trans hf1);obtain ⟨q0, q1, q2, q3, _⟩ := Blk.four (hf1.blk HB0.out fun h => h);clear hf1;rw [hn];go_wp2_with fail
  go_ret;exact ⟨ret_bool' _ _ HPR.out.symm, HF1.out⟩
 | false =>
 have HL8 := hid (show decide (ats.length ≤ 8) = true from dT (by have := of_decide_eq_false c1; omega));cases hv : El.valueOK t with
 | false =>
  have HPR := hid (show PR = false by rw [HPE.out, hv]; simp);go_enter Tryz.func46, Tryz.ntmps46;go_wp2_with fail
  refine (HNM.out _).mono ?_;rintro _ w1 ⟨rfl, hf1⟩;have HF1 := hid (HF0.out.trans hf1);obtain ⟨q0, q1, q2, q3, _⟩ := Blk.four (hf1.blk HB0.out fun h => h);clear hf1;rw [hn];go_wp2_with fail
  refine (HVL.out _).mono ?_;rintro _ w2 ⟨rfl, hf2⟩;have HF2 := hid (HF1.out.trans hf2);clear hf2;rw [hv];go_wp2_with fail
  go_ret;exact ⟨ret_bool' _ _ HPR.out.symm, HF2.out⟩
 | true =>
 have hways : (t.isEmpty = false ∧ (decide ((0 : Int) < (ks.length : Int)) = true ∧ decide (0 < ks.length) = true) ∧ PR = false) ∨ ((t.isEmpty = true ∨ (t.isEmpty = false ∧ decide ((0 : Int) < (ks.length : Int)) = false ∧ decide (0 < ks.length) = false)) ∧ PR = (El.attrsOK ats && ks.all El.proper)) := by
  have h := HPE.out;rw [hn, hv, HL8.out] at h;cases ht : t.isEmpty with
  | true => exact .inr ⟨.inl rfl, by rw [h, ht]; simp⟩
  | false =>
   cases hk : ks with
   | nil => exact .inr ⟨.inr ⟨rfl, rfl, rfl⟩, by rw [h, ht, hk]; simp⟩
   | cons x xs => exact .inl ⟨rfl, ⟨by rw [List.length_cons]; exact dT (by omega), by rw [List.length_cons]; exact dT (by omega)⟩, by rw [h, ht, hk]; simp⟩
 clear HPE HL8
 rcases hways with ⟨hte, ⟨c2, c2n⟩, hpr⟩ | ⟨hte | ⟨hte, c2, c2n⟩, hpr⟩
 focus
  obtain ⟨z1, z2, z3, z4, z5⟩ := empty_forms t _ hte;simp only [Bool.not_false] at z2 z4;have HPR := hid hpr;clear hpr;go_enter Tryz.func46, Tryz.ntmps46;go_wp2_with fail
  refine (HNM.out _).mono ?_;rintro _ w1 ⟨rfl, hf1⟩;have HF1 := hid (HF0.out.trans hf1);have HB1 := hid (hf1.blk HB0.out fun h => h);obtain ⟨q0, q1, q2, q3, _⟩ := Blk.four HB1.out;clear hf1;rw [hn];go_wp2_with fail
  refine (HVL.out _).mono ?_;rintro _ w2 ⟨rfl, hf2⟩;have HF2 := hid (HF1.out.trans hf2);clear q0 q1 q2 q3;obtain ⟨q0, q1, q2, q3, _⟩ := Blk.four (hf2.blk HB1.out fun h => h);clear hf2;rw [hv];go_wp2_with fail
  go_ret;exact ⟨ret_bool' _ _ HPR.out.symm, HF2.out⟩
 all_goals
  obtain ⟨z1, z2, z3, z4, z5⟩ := empty_forms t _ hte;simp only [Bool.not_false, Bool.not_true] at z2 z4;have HPR := hid hpr;clear hpr;go_enter Tryz.func46, Tryz.ntmps46;go_wp2_with fail
  refine (HNM.out _).mono ?_;rintro _ w1 ⟨rfl, hf1⟩;have HF1 := hid (HF0.out.trans hf1);have HB1 := hid (hf1.blk HB0.out fun h => h);obtain ⟨q0, q1, q2, q3, _⟩ := Blk.four HB1.out;clear hf1;rw [hn];go_wp2_with fail
  refine (HVL.out _).mono ?_;rintro _ w2 ⟨rfl, hf2⟩;have HF2 := hid (HF1.out.trans hf2);have HB2 := hid (hf2.blk HB1.out fun h => h);clear q0 q1 q2 q3;obtain ⟨q0, q1, q2, q3, _⟩ := Blk.four HB2.out;clear hf2 HF1 HB1;rw [hv];go_wp2_with fail
  clear z1 z2 z3 z4 z5 q0 q1 q2 q3 hte hn hv c1 HNM HVL HF0 HB0
  go_loopw [3] (fun i wr => ∃ j : Nat, i = .int .i64 j ∧ j ≤ ats.length ∧ Hid (El.attrsOK (ats.take j) = true) ∧ Hid (Blk wr w.heap.size 45 #[.string ⟨n.toArray⟩, .slice A ats.length ca, .slice B ks.length cb, .string ⟨t.toArray⟩]) ∧ Hid (Fresh w wr)) (fun i _ => ats.length - (intOf i).toNat)
  case atStart => exact ⟨0, rfl, Nat.zero_le _, hid rfl, HB2, HF2⟩
  case round =>
   obtain ⟨j, rfl, hj, HOK, HB, HF⟩ := hrel;obtain ⟨q0, q1, q2, q3, _, _, _, _, hgl⟩ := Blk.four HB.out
   by_cases c1 : j < ats.length
   ·have d1 : decide ((j : Int) < (ats.length : Int)) = true := dT (by omega)
    have d1' : (j : Int) < (ats.length : Int) := by omega
    have d1n : decide (j < ats.length) = true := dT c1;obtain ⟨g, o, rfl, hg2, m0, m1, hx1, hx2⟩ := HA.out.get j c1;have m0 := HF.out.cell m0 (fun h => h);have m1 := HF.out.cell m1 (fun h => h);have HSN := hid (El.attrsOK_snoc ats j c1);have HNO := hid (El.attrsOK_no ats (j + 1));have HAR := hid (HA.out.fresh HF.out);unfold maxLen at hx1 hx2;generalize ats[j] = x at *;have HN1 := hid (fun W : World => rname23_list x.1 W hx1);have HV1 := hid (fun W : World => rvalue_list x.2 W hx2);clear hx1 hx2;go_wp2_with fail
    refine (HN1.out _).mono ?_;rintro _ w3 ⟨rfl, hf3⟩;have HF3 := hid (HF.out.trans hf3);have HB3 := hid (hf3.blk HB.out fun h => h);have HA3 := hid (HAR.out.fresh hf3);have m0 := hf3.cell m0 (fun h => h);have m1 := hf3.cell m1 (fun h => h);clear hf3 q0 q1 q2 q3 hgl;obtain ⟨q0, q1, q2, q3, _, _, _, _, hgl⟩ := Blk.four HB3.out;cases hxn : El.nameOK x.1 with
    | false =>
     have HP2 := hid (show PR = false by rw [HPR.out, HNO.out (by rw [HSN.out, hxn]; simp)]; rfl);go_wp2_with fail
     go_ret;exact ⟨ret_bool' _ _ HP2.out.symm, HF3.out⟩
    | true =>
    go_wp2_with fail
    refine (HV1.out _).mono ?_;rintro _ w4 ⟨rfl, hf4⟩;have HF4 := hid (HF3.out.trans hf4);have HB4 := hid (hf4.blk HB3.out fun h => h);have HA4 := hid (HA3.out.fresh hf4);have m0 := hf4.cell m0 (fun h => h);clear hf4 q0 q1 q2 q3 hgl m1;obtain ⟨q0, q1, q2, q3, _, _, _, _, hgl⟩ := Blk.four HB4.out;cases hxv : El.valueOK x.2 with
    | false =>
     have HP2 := hid (show PR = false by rw [HPR.out, HNO.out (by rw [HSN.out, hxv]; simp)]; rfl);go_wp2_with fail
     go_ret;exact ⟨ret_bool' _ _ HP2.out.symm, HF4.out⟩
    | true =>
    have HSN2 := hid (show El.attrsOK (ats.take (j + 1)) = !(ats.take j).any (fun y => y.1 == x.1) by rw [HSN.out, hxn, hxv, HOK.out]; simp);clear HSN hxn hxv HN1 HV1;go_wp2_with fail
    clear q0 q1 q2 q3 d1 d1n
    go_loopw [4] (fun i wr => ∃ k : Nat, i = .int .i64 k ∧ k ≤ j ∧ Hid ((ats.take k).any (fun y => y.1 == x.1) = false) ∧ Hid (Blk wr w.heap.size 45 #[.string ⟨n.toArray⟩, .slice (some ⟨g, o, none⟩) ats.length ca, .slice B ks.length cb, .string ⟨t.toArray⟩]) ∧ Hid (Fresh w wr) ∧ wr.cell? ⟨g, o + j * 2, none⟩ = some (.string ⟨x.1.toArray⟩)) (fun i _ => j - (intOf i).toNat)
    case atStart => exact ⟨0, rfl, Nat.zero_le _, hid rfl, HB4, HF4, m0⟩
    case round =>
     obtain ⟨k, rfl, hk, HNK, HB5, HF5, m5⟩ := hrel;obtain ⟨q0, q1, q2, q3, _⟩ := Blk.four HB5.out
     by_cases c2 : k < j
     ·have d2 : decide ((k : Int) < (j : Int)) = true := dT (by omega)
      have d2n : decide (k < j) = true := dT c2;have d2' : (k : Int) < (ats.length : Int) := by omega
      obtain ⟨g', o', hA', hg2', n0, n1, _, _⟩ := (HA.out.fresh HF5.out).get k (by omega);cases hA';have HSK := hid (any_snoc ats k (by omega) (fun y => y.1 == x.1))
      have HJK := hid (show ats[k]'(by omega) ∈ ats.take j by
       rw [List.mem_take_iff_getElem];exact ⟨k, by omega, rfl⟩)
      generalize hy : ats[k]'(by omega) = y at *;clear hy;cases hxy : (y.1 == x.1) with
      | true =>
       have HP2 := hid (show PR = false by
        rw [HPR.out, HNO.out (by
         rw [HSN2.out, show (ats.take j).any (fun y => y.1 == x.1) = true from List.any_eq_true.2 ⟨y, HJK.out, hxy⟩]; rfl)]; rfl)
       clear n1;go_wp2_with fail
       go_quiet (fail)
       go_wp2_with fail
       go_ret;exact ⟨ret_bool' _ _ HP2.out.symm, HF5.out.drewN _⟩
      | false =>
       have HNK2 := hid (show (ats.take (k + 1)).any (fun y => y.1 == x.1) = false by rw [HSK.out, HNK.out, hxy]; rfl);clear n1;go_wp2_with fail
       go_quiet (fail)
       go_wp2_with fail
       exact ⟨⟨k + 1, by go_num, c2, HNK2, hid (HB5.out.drewN _), hid (HF5.out.drewN _), (Touch.refl (fun _ => False) _).drewN _ |>.cell m5 (fun h => h)⟩, by simp [intOf]; omega⟩
     ·have d2 : decide ((k : Int) < (j : Int)) = false := dF (by omega)
      have d2n : decide (k < j) = false := dF c2;obtain rfl : k = j := by omega
      have HOK2 := hid (show El.attrsOK (ats.take (k + 1)) = true by rw [HSN2.out, HNK.out]; rfl);go_wp2_with fail
      exact ⟨⟨k + 1, by go_num, c1, HOK2, HB5, HF5⟩, by simp [intOf]; omega⟩
   ·have d1 : decide ((j : Int) < (ats.length : Int)) = false := dF (by omega)
    have d1n : decide (j < ats.length) = false := dF c1;obtain rfl : j = ats.length := by omega
    have HPK := hid (show PR = ks.all El.proper by
     have h := HOK.out;rw [List.take_length] at h;rw [HPR.out, h, Bool.true_and])
    go_wp2_with fail
    clear d1 d1n q0 q1 q2 q3 hgl HOK HPR
    go_loopw [5] (fun i wr => ∃ k : Nat, i = .int .i64 k ∧ k ≤ ks.length ∧ Hid ((ks.take k).all El.proper = true) ∧ Hid (Blk wr w.heap.size 45 #[.string ⟨n.toArray⟩, .slice A ats.length ca, .slice B ks.length cb, .string ⟨t.toArray⟩]) ∧ Hid (Fresh w wr)) (fun i _ => ks.length - (intOf i).toNat)
    case atStart => exact ⟨0, rfl, Nat.zero_le _, hid rfl, HB, HF⟩
    case round =>
     obtain ⟨k, rfl, hk, HAL, HB, HF⟩ := hrel;obtain ⟨q0, q1, q2, q3, _, _, _, _, hgl⟩ := Blk.four HB.out
     by_cases c2 : k < ks.length
     ·have d2 : decide ((k : Int) < (ks.length : Int)) = true := dT (by omega)
      have d2' : (k : Int) < (ks.length : Int) := by omega
      have d2n : decide (k < ks.length) = true := dT c2;obtain ⟨g, o, va, vk, rfl, hg, m0, m1, m2, m3, hrx⟩ := HK.out.get k c2;obtain ⟨e0, e1, e2, e3⟩ := mv4 HF.out m0 m1 m2 m3;obtain ⟨Aa, aa, hva⟩ := hrx.1.slice;obtain ⟨Ak, ak, hvk⟩ := hrx.2.1.slice;have HS := hid (all_snocE ks k c2 El.proper);have HN := hid (all_noE ks k c2 El.proper);have HC := hid (fun (W : World) (hw : RepV W ks[k] va vk) => HIH.out ks[k] (List.getElem_mem c2) va vk W hw);have HX := hid (hrx.fresh HF.out);clear m0 m1 m2 m3 hrx;generalize ks[k] = x at *;generalize El.proper x = px at *;obtain ⟨xn, xa, xk, xt⟩ := x;unfold ev at HC;simp only [E.name, E.attrs, E.kids, E.text] at hva hvk e0 e1 e2 e3 HC;subst hva hvk;go_wp2_with fail
      refine (HC.out _ HX.out).mono ?_;rintro _ w5 ⟨rfl, hf5⟩;have HF5 := hid (HF.out.trans hf5);have HB5 := hid (hf5.blk HB.out fun h => h);clear hf5;cases px with
      | false =>
       have HP2 := hid (show PR = false by rw [HPK.out, HN.out rfl]);go_wp2_with fail
       go_ret;exact ⟨ret_bool' _ _ HP2.out.symm, HF5.out⟩
      | true =>
       go_wp2_with fail
       go_roundw
       case rel => exact ⟨k + 1, by go_num, c2, hid (by rw [HS.out, HAL.out]; rfl), HB5, HF5⟩
       case measure => simp [intOf]; omega
     ·have d2 : decide ((k : Int) < (ks.length : Int)) = false := dF (by omega)
      have d2n : decide (k < ks.length) = false := dF c2;obtain rfl : k = ks.length := by omega
      have HP2 := hid (show PR = true by rw [HPK.out]; have := HAL.out; rwa [List.take_length] at this);go_wp2_with fail
      go_ret;exact ⟨ret_bool' _ _ HP2.out.symm, HF.out⟩
theorem rValid23_any (e : E) (va vk : Value) (w : World) (hr : RepV w e va vk) (hc : El.count e ≤ 1000000) :
  Calls Tryz.prog 24 #[ev e va vk] w fun x w' => x = .returned (.bool (El.valid e)) ∧ Fresh w w' := by
 have HPR := hid (fun (W : World) (h : RepV W e va vk) => El.E.ind (p := RProperC) rproper_step e va vk W h);have HCO := hid (fun (W : World) (h : RepV W e va vk) => rcount_any e va vk W h hc);have HDE := hid (fun (W : World) (h : RepV W e va vk) => rdepth_any e va vk W h hc);have HV := hid (show El.valid e = (El.proper e && decide (El.count e ≤ 3000) && decide (El.depth e ≤ 64)) from rfl);have hdl : El.depth e ≤ 1000000 := by have h1 := depthL_le_count e.kids; have h2 := El.depth_kids e; have h3 := El.count_kids e; omega
 have HR := hid hr;obtain ⟨A, ca, hva⟩ := hr.1.slice;obtain ⟨B, cb, hvk⟩ := hr.2.1.slice;clear hr;generalize El.valid e = V at *;generalize El.proper e = P at *;generalize El.count e = c at *;generalize El.depth e = d at *;obtain ⟨n, ats, ks, t⟩ := e;replace hva : va = .slice A ats.length ca := hva;replace hvk : vk = .slice B ks.length cb := hvk;subst hva;subst hvk;unfold ev at *;simp only [E.name, E.text] at *;have HB0 := hid (Blk.new w 45 #[.string ⟨n.toArray⟩, .slice A ats.length ca, .slice B ks.length cb, .string ⟨t.toArray⟩]);have HF0 := hid ((Touch.refl (fun _ => False) w).alloc (.cells #[.string ⟨n.toArray⟩, .slice A ats.length ca, .slice B ks.length cb, .string ⟨t.toArray⟩] 45));go_enter Tryz.func24, Tryz.ntmps24;go_wp2_with fail
 refine (HPR.out _ (HR.out.fresh HF0.out)).mono ?_;rintro _ w1 ⟨rfl, hf1⟩;have HF1 := hid (HF0.out.trans hf1);have HB1 := hid (hf1.blk HB0.out fun h => h);clear hf1 HF0 HB0;cases P with
 | false =>
  have HZ := hid (show V = false by rw [HV.out]; rfl);go_wp2_with fail
  go_ret;exact ⟨ret_bool' _ _ HZ.out.symm, HF1.out⟩
 | true =>
 obtain ⟨q0, q1, q2, q3, _⟩ := Blk.four HB1.out;go_wp2_with fail
 refine (HCO.out _ (HR.out.fresh HF1.out)).mono ?_;rintro _ w2 ⟨rfl, hf2⟩;have HF2 := hid (HF1.out.trans hf2);have HB2 := hid (hf2.blk HB1.out fun h => h);clear hf2 HF1 HB1 q0 q1 q2 q3;obtain ⟨q0, q1, q2, q3, _⟩ := Blk.four HB2.out
 by_cases c1 : c ≤ 3000
 ·have d1 : decide ((c : Int) ≤ (3000 : Int)) = true := dT (by omega)
  have d1n : decide (c ≤ 3000) = true := dT c1;go_wp2_with fail
  refine (HDE.out _ (HR.out.fresh HF2.out)).mono ?_;rintro _ w3 ⟨rfl, hf3⟩;have HF3 := hid (HF2.out.trans hf3)
  have HZ := hid (show V = decide ((d : Int) ≤ (64 : Int)) by
   rw [HV.out, d1n, Bool.true_and, Bool.true_and, decide_eq_decide]; omega)
  clear hf3;go_wp2_with fail
  go_ret;exact ⟨ret_bool' _ _ HZ.out.symm, HF3.out⟩
 ·have d1 : decide ((c : Int) ≤ (3000 : Int)) = false := dF (by omega)
  have d1n : decide (c ≤ 3000) = false := dF c1;have HZ := hid (show V = false by rw [HV.out, d1n]; rfl);go_wp2_with fail
  go_ret;exact ⟨ret_bool' _ _ HZ.out.symm, HF2.out⟩
end Go.Proofs.YtnbeemkfmlfgfaaGreatDoor
namespace Go.Proofs.YtnbeemkfmlfgfaaGreatDoor
open Go.ChangeShapes Go.WideShapes Go.ChangeAt Go.RowKit
open Tr (Nd)
open El (E Attrs writeE nodeF nilNd elM)
theorem text_none (n : Nd) (h : Tr.valid n = true) : n.text.length ≤ maxLen ∧ Tr.count n ≤ 1000 := by
 unfold Tr.valid at h;simp only [Bool.and_eq_true, decide_eq_true_eq, beq_iff_eq] at h;obtain ⟨⟨⟨h1, h2⟩, h3⟩, _⟩ := h;rw [Tr.form_eq, Bool.and_eq_true, Bool.and_eq_true, h1] at h2;exact ⟨by rw [El.no_text 1 n.text h2.1.1 (by decide)]; exact Nat.zero_le _, h3⟩
theorem export_ok (n : Nd) (h : Tr.valid n = true) : exportX n = writeE (elM n) ∧ exportEr n = 0 := by
 have h1 := El.tree_valid n h;unfold exportX exportEr printX printXEr;rw [if_pos h, if_pos h, if_pos h1, if_pos h1];exact ⟨rfl, rfl⟩
theorem markupRoundTrip_any (n : Nd) (sl : Value) (w : World) (hr : RepL w n.kids sl) (ht : n.text.length ≤ maxLen) :
  Calls Tryz.prog 5 #[nv n sl] w fun e w' => e = .returned (.bool true) ∧ Fresh w w' := by
 obtain ⟨A, cap, rfl⟩ := hr.slice;have HR := hid hr;have HFW := hid (fun (W : World) (h : Fresh w W) => few_any n (.slice A n.kids.length cap) 150 W (HR.out.fresh h) (by decide) (by decide));have HVL := hid (fun (hc : Tr.count n ≤ 1000000) (W : World) (h : Fresh w W) => rValid_any n (.slice A n.kids.length cap) W (HR.out.fresh h) ht hc)
 have HEX := hid (fun (hc : Tr.count n ≤ 1000) (hv : Tr.valid n = true) (W : World) (h : Fresh w W) => show Calls Tryz.prog 13 #[nv n (.slice A n.kids.length cap)] W fun x w' => x = .returned (.tuple #[.string ⟨(writeE (elM n)).toArray⟩, .int .i64 0]) ∧ Fresh W w' by
  have h2 := mkExport_any n (.slice A n.kids.length cap) W (HR.out.fresh h) ht hc (fun hv => El.tree_short n hv);rw [(export_ok n hv).1, (export_ok n hv).2] at h2;exact h2)
 have HIM := hid (fun (hv : Tr.valid n = true) (W : World) => show Calls Tryz.prog 14 #[.string ⟨(writeE (elM n)).toArray⟩] W fun x w' => ∃ v, x = .returned (.tuple #[v, .int .i64 0, .int .i64 0]) ∧ MakesN W w' n v by
  have h2 := import_any ⟨(writeE (elM n)).toArray⟩ W (show (writeE (elM n)).length ≤ _ from Nat.le_trans (El.tree_short n hv) (by decide));rw [show (⟨(writeE (elM n)).toArray⟩ : ByteArray).data.toList = writeE (elM n) from rfl, import_back n hv] at h2;exact h2)
 have HEL := hid (fun (hc : Tr.count n ≤ 1000) (hv : Tr.valid n = true) (W : World) (h : Fresh w W) => show Calls Tryz.prog 22 #[nv n (.slice A n.kids.length cap)] W fun e w' => ∃ v, e = .returned (.tuple #[v, .int .i64 0]) ∧ MakesE W w' (elM n) v by
  have h2 := mkEl_any n (.slice A n.kids.length cap) W (HR.out.fresh h) ht hc;rw [show markE n = elM n by unfold markE; rw [if_pos hv], show markEr n = 0 by unfold markEr; rw [if_pos hv]] at h2;exact h2)
 have HND := hid (fun (hv : Tr.valid n = true) (va vk : Value) (W : World) (h : RepV W (elM n) va vk) => show Calls Tryz.prog 23 #[ev (elM n) va vk] W fun x w' => ∃ v, x = .returned (.tuple #[v, .int .i64 0, .int .i64 0]) ∧ MakesN W w' n v by
  have h2 := mkNode_any (elM n) va vk W h;rw [El.node_back n hv] at h2;exact h2)
 have HEV := hid (fun (hv : Tr.valid n = true) (hc : Tr.count n ≤ 1000) (va vk : Value) (W : World) (h : RepV W (elM n) va vk) => show Calls Tryz.prog 24 #[ev (elM n) va vk] W fun x w' => x = .returned (.bool true) ∧ Fresh W w' by
  have h2 := rValid23_any (elM n) va vk W h (by have := (El.tree_size n hv).1; omega);rw [El.tree_valid n hv] at h2;exact h2)
 have HEQ := hid (fun (sl : Value) (W : World) (h : RepL W n.kids sl) (h2 : RepL W n.kids (.slice A n.kids.length cap)) => show Calls Tryz.prog 15 #[nv n sl, nv n (.slice A n.kids.length cap)] W fun e w' => e = .returned (.bool true) ∧ Fresh W w' by
  have h3 := equal_any _ n n sl (.slice A n.kids.length cap) W (Nat.le_refl _) h h2;rw [(Tr.eqN_iff n n).2 rfl] at h3;exact h3)
 generalize writeE (elM n) = T at *;clear hr ht;unfold nv at *;have HB0 := hid (Blk.new w 31 #[.int .i64 n.kind, .string ⟨n.text.toArray⟩, .int .i64 n.cols, .slice A n.kids.length cap]);have HF0 := hid ((Touch.refl (fun _ => False) w).alloc (.cells #[.int .i64 n.kind, .string ⟨n.text.toArray⟩, .int .i64 n.cols, .slice A n.kids.length cap] 31));go_enter Tryz.func5, Tryz.ntmps5;go_wp2_with fail
 generalize (w.alloc (.cells #[.int .i64 n.kind, .string ⟨n.text.toArray⟩, .int .i64 n.cols, .slice A n.kids.length cap] 31)) = w0 at HB0 HF0 ⊢;refine (awake24_any _).mono ?_;rintro _ w1 ⟨rfl, hf1⟩;have HF1 := hid (HF0.out.trans hf1);have HB1 := hid (hf1.blk HB0.out fun h => h);clear hf1 HF0 HB0;obtain ⟨q0, q1, q2, q3, _⟩ := Blk.four HB1.out;go_wp2_with fail
 refine (HFW.out _ HF1.out).mono ?_;rintro _ w2 ⟨rfl, hf2⟩;have HF2 := hid (HF1.out.trans hf2);have HB2 := hid (hf2.blk HB1.out fun h => h);clear hf2 HF1 HB1 q0 q1 q2 q3;obtain ⟨q0, q1, q2, q3, _⟩ := Blk.four HB2.out;cases h1 : decide ((Tr.count n : Int) ≤ 150) with
 | false =>
  go_wp2_with fail
  go_ret;exact ⟨rfl, HF2.out⟩
 | true =>
 have HC := hid (show Tr.count n ≤ 150 by have := of_decide_eq_true h1; omega);clear h1;go_wp2_with fail
 refine (HVL.out (by have := HC.out; omega) _ HF2.out).mono ?_;rintro _ w3 ⟨rfl, hf3⟩;have HF3 := hid (HF2.out.trans hf3);have HB3 := hid (hf3.blk HB2.out fun h => h);clear hf3 HF2 HB2 q0 q1 q2 q3;obtain ⟨q0, q1, q2, q3, _⟩ := Blk.four HB3.out;cases hv : Tr.valid n with
 | false =>
  go_wp2_with fail
  go_ret;exact ⟨rfl, HF3.out⟩
 | true =>
 have HV := hid hv;clear hv;go_wp2_with fail
 refine (HEX.out (by have := HC.out; omega) HV.out _ HF3.out).mono ?_;rintro _ w4 ⟨rfl, hf4⟩;have HF4 := hid (HF3.out.trans hf4);have HB4 := hid (hf4.blk HB3.out fun h => h);clear hf4 HF3 HB3 q0 q1 q2 q3;go_wp2_with fail
 refine (HIM.out HV.out _).mono ?_;rintro _ w5 ⟨v5, rfl, s5, rfl, hf5, _, hst5⟩;obtain ⟨A5, c5, rfl⟩ := hst5.now.slice;have HF5 := hid (HF4.out.trans hf5);have HB5 := hid (hf5.blk HB4.out fun h => h);have HR5 := hid hst5.now;clear hf5 hst5 HF4 HB4;have HFa := hid ((Touch.refl (fun _ => False) w5).alloc (.cells #[.int .i64 n.kind, .string ⟨n.text.toArray⟩, .int .i64 n.cols, .slice A5 n.kids.length c5] 31));have HBa := hid (Blk.new w5 31 #[.int .i64 n.kind, .string ⟨n.text.toArray⟩, .int .i64 n.cols, .slice A5 n.kids.length c5]);have HF6 := hid (HF5.out.trans HFa.out);have HB6 := hid (HFa.out.blk HB5.out fun h => h);have HR6 := hid (HR5.out.fresh HFa.out);clear HFa HF5 HB5 HR5;obtain ⟨q0, q1, q2, q3, _⟩ := Blk.four HB6.out;unfold nv;go_wp2_with fail
 generalize (w5.alloc (.cells #[.int .i64 n.kind, .string ⟨n.text.toArray⟩, .int .i64 n.cols, .slice A5 n.kids.length c5] 31)) = w6 at HBa HF6 HB6 HR6 ⊢;refine (HEL.out (by have := HC.out; omega) HV.out _ HF6.out).mono ?_;rintro _ w7 ⟨v7, rfl, va, vk, hev, hf7, hst7⟩;have HF7 := hid (HF6.out.trans hf7);have HB7 := hid (hf7.blk HB6.out fun h => h);have HX7 := hid (hf7.blk HBa.out fun h => h);have HR7 := hid (HR6.out.fresh hf7);have HE7 := hid hst7.now;obtain ⟨Aa, ca, hva⟩ := hst7.now.1.slice;obtain ⟨Ak, ck, hvk⟩ := hst7.now.2.1.slice;clear hf7 hst7 HF6 HB6 HBa HR6 q0 q1 q2 q3;generalize elM n = em at *;obtain ⟨en, ea, ek, et⟩ := em;unfold ev at *;simp only [E.name, E.attrs, E.kids, E.text] at *;subst hev hva hvk;have HFb := hid ((Touch.refl (fun _ => False) w7).alloc (.cells #[.string ⟨en.toArray⟩, .slice Aa ea.length ca, .slice Ak ek.length ck, .string ⟨et.toArray⟩] 45));have HBb := hid (Blk.new w7 45 #[.string ⟨en.toArray⟩, .slice Aa ea.length ca, .slice Ak ek.length ck, .string ⟨et.toArray⟩]);have HF8 := hid (HF7.out.trans HFb.out);have HB8 := hid (HFb.out.blk HB7.out fun h => h);have HX8 := hid (HFb.out.blk HX7.out fun h => h);have HR8 := hid (HR7.out.fresh HFb.out);have HE8 := hid (HE7.out.fresh HFb.out);clear HFb HF7 HB7 HX7 HR7 HE7;go_wp2_with fail
 generalize (w7.alloc (.cells #[.string ⟨en.toArray⟩, .slice Aa ea.length ca, .slice Ak ek.length ck, .string ⟨et.toArray⟩] 45)) = w8 at HBb HF8 HB8 HX8 HR8 HE8 ⊢;refine (HND.out HV.out _ _ _ HE8.out).mono ?_;rintro _ w9 ⟨v9, rfl, s9, rfl, hf9, _, hst9⟩;obtain ⟨A9, c9, rfl⟩ := hst9.now.slice;have HFc := hid ((Touch.refl (fun _ => False) w9).alloc (.cells #[.int .i64 n.kind, .string ⟨n.text.toArray⟩, .int .i64 n.cols, .slice A9 n.kids.length c9] 31));have HBc := hid (Blk.new w9 31 #[.int .i64 n.kind, .string ⟨n.text.toArray⟩, .int .i64 n.cols, .slice A9 n.kids.length c9]);have HFd := hid (hf9.trans HFc.out);have HFe := hid (HF8.out.trans HFd.out);have HBe := hid (HFd.out.blk HB8.out fun h => h);have HXe := hid (HFd.out.blk HX8.out fun h => h);have HYe := hid (HFd.out.blk HBb.out fun h => h);have HRe := hid (HR8.out.fresh HFd.out);have HSe := hid (hst9.now.fresh HFc.out);have HEe := hid (HE8.out.fresh HFd.out);clear hf9 hst9 HF8 HB8 HX8 HBb HR8 HE8 HFd HFc;obtain ⟨q0, q1, q2, q3, _⟩ := Blk.four HBe.out;obtain ⟨x0, x1, x2, x3, _⟩ := Blk.four HXe.out;unfold nv;go_wp2_with fail
 generalize (w9.alloc (.cells #[.int .i64 n.kind, .string ⟨n.text.toArray⟩, .int .i64 n.cols, .slice A9 n.kids.length c9] 31)) = w10 at HBc HFe HBe HXe HYe HRe HSe HEe q0 q1 q2 q3 x0 x1 x2 x3 ⊢;refine (HEQ.out _ _ HRe.out (HR.out.fresh HFe.out)).mono ?_;rintro _ w11 ⟨rfl, hf11⟩;have HFf := hid (HFe.out.trans hf11);have HBf := hid (hf11.blk HBe.out fun h => h);have HXf := hid (hf11.blk HBc.out fun h => h);have HYf := hid (hf11.blk HYe.out fun h => h);have HSf := hid (HSe.out.fresh hf11);have HEf := hid (HEe.out.fresh hf11);clear hf11 HBe HXe HYe HSe HEe HRe HBc HFe q0 q1 q2 q3 x0 x1 x2 x3;obtain ⟨q0, q1, q2, q3, _⟩ := Blk.four HBf.out;obtain ⟨x0, x1, x2, x3, _⟩ := Blk.four HXf.out;go_wp2_with fail
 refine (HEQ.out _ _ HSf.out (HR.out.fresh HFf.out)).mono ?_;rintro _ w12 ⟨rfl, hf12⟩;have HFg := hid (HFf.out.trans hf12);have HYg := hid (hf12.blk HYf.out fun h => h);have HEg := hid (HEf.out.fresh hf12);clear hf12 HBf HXf HYf HSf HEf HFf q0 q1 q2 q3 x0 x1 x2 x3;obtain ⟨y0, y1, y2, y3, _⟩ := Blk.four HYg.out;go_wp2_with fail
 refine (HEV.out HV.out (by have := HC.out; omega) _ _ _ HEg.out).mono ?_;rintro _ w13 ⟨rfl, hf13⟩;have HFh := hid (HFg.out.trans hf13);clear hf13;go_wp2_with fail
 go_ret;exact ⟨rfl, HFh.out⟩
theorem markupRoundTrip_lifted (os : Os) (started : os.Started) (H : Type) (enc : TypeId × Value → H) :
  ReturnsInHanded {} Tryz.checked os 5 .any (fun w args => (Rows.markupRoundTripSpec.pre enc Tryz.prog Tryz.f5 Rows.markupRoundTripRow.domain false w args ∧ laidMetH Tryz.prog Rows.markupRoundTripRow.laid w) ∧ sizedMet enc Tryz.prog Tryz.f5 (OpenSpec.ofChange Rows.markupRoundTripSpec) false w args)
   (Rows.markupRoundTripSpec.post enc Tryz.prog Tryz.f5 false true false false) := by
 refine returnsInHanded_of_change_and (C := Tryz.checked) (X := fun w _ => laidMetH Tryz.prog Rows.markupRoundTripRow.laid w) (fun _ _ _ hh h => h.of_heap hh) Tryz.ownKnob started (by kernel_rfl) Tryz.func5
  (ChangeSpec.witness_shaped (enc := enc) (C := Tryz.checked) (os := os) (X := fun w _ => laidMetH Tryz.prog Rows.markupRoundTripRow.laid w) false (World.laidAll Tryz.prog os Rows.markupRoundTripRow.laid) #[.agg #[.int .i64 0, .string ⟨#[]⟩, .int .i64 0, .slice none 0 0]] 8 (World.laidAll_os _ _ _)
   (World.shaped_of_ZipB (by kernel_rfl) (by kernel_rfl)) (by kernel_rfl) (by kernel_rfl) (by kernel_rfl)
   (by rw [MakeChecks.laidMetH_plain _ _ _ (by kernel_rfl)]; exact laidMet_laidAll _ (by kernel_rfl) (by kernel_rfl))) ?_
 intro W base args ds gs before hval0 hW _ _ _ _;have hval : ∀ (j : Nat) t v, Tryz.f5.params[j]? = some t → args[j]? = some v → Value.okWide Tryz.prog W .any base t v := hval0;have hW' := hW;obtain ⟨p, q, hA0, hV, rfl, hfz, hnd⟩ := hW;have hA : DataW.TrodAll enc Tryz.prog W 0 (fun _ => true) true Tryz.f5.params.toList args.toList ds p := hA0;rw [Tryz.params5] at hA hval;obtain ⟨v0, d0, rfl, rfl, h0⟩ := trodAll_one hA;obtain ⟨rfl, rfl⟩ := trodVars_none hV;obtain ⟨n0, ⟨s0, rfl, r0⟩, t0⟩ := open_node (hval 0 31 v0 rfl rfl) h0;refine (markupRoundTrip_any n0 s0 W r0 t0).mono fun e W' ⟨he, hw⟩ => ?_
 exact ⟨_, he, post_true Tryz.laidOut Tryz.underlying4 (by kernel_rfl) (by kernel_rfl) rfl rfl hW' hw⟩
theorem MarkupRoundTrip_holds : Rows.MarkupRoundTripSaid :=
 OpenClaim.holds_of_wide 5 Tryz.f5 rfl rfl rfl rfl rfl rfl rfl ⟨rfl, rfl, rfl, rfl, rfl⟩ rfl rfl rfl rfl rfl (by kernel_rfl) Tryz.func5 (by kernel_rfl)
  (of_decide_eq_true (by kernel_rfl)) (by unfold Func.isWrapper; first | (rw [if_pos (by decide +kernel)]; kernel_rfl) | (rw [if_neg (by decide +kernel)]; exact ⟨rfl, rfl⟩))
  (fun os started H enc _ => markupRoundTrip_lifted os started H enc)
theorem MarkupRoundTrip_card : Rows.MarkupRoundTripCardSaid :=
 Claim7.holds_tied_plain_at .later [] [.data, .pinned] true _ true MarkupRoundTrip_holds (fun _ h => by cases h) (by kernel_rfl) (fun _ h => by cases h) markupRoundTrip_row_tie rfl ⟨rfl, rfl⟩ (by kernel_rfl) (by kernel_rfl)
  (fun f fn hf hfn => by
   obtain rfl : f = 5 := Option.some.inj ((show Tryz.prog.funcNamed Rows.markupRoundTripRow.func = some 5 by kernel_rfl).symm.trans hf) |>.symm
   obtain rfl : fn = Tryz.f5 := (Option.some.inj (Tryz.func5.symm.trans hfn)).symm
   exact ⟨by kernel_rfl, fun j t ht => by
    have hm := Array.mem_of_getElem? ht;have hall : (Tryz.f5.params.toList.all fun u => !Tryz.prog.wantsStandIn u) = true := by kernel_rfl
    exact (show Tryz.prog.wantsStandIn t = false by simpa using List.all_eq_true.1 hall t (by simpa using hm))⟩)
  (by kernel_rfl)
end Go.Proofs.YtnbeemkfmlfgfaaGreatDoor
