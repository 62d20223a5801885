/- Part 18 of 33 of a proof; its texts, joined: MoN, MnR, MnQ. No condition. -/
import Derived.Test.YtfnjcldgicohaaaGreatWa17
import Derived.Test.YtfnjcldgicohaaaGreatWa12
set_option maxRecDepth 100000
set_option maxHeartbeats 4000000
namespace Go.Proofs.YtfnjcldgicohaaaGreat
open Go.RowKit
open El (E Attrs)
theorem all_snocE (l : List E) (j : Nat) (h : j < l.length) (p : E → Bool) : (l.take (j + 1)).all p = ((l.take j).all p && p l[j]) := by
 rw [List.take_add_one, List.getElem?_eq_getElem h, List.all_append];simp
theorem all_noE (l : List E) (j : Nat) (h : j < l.length) (p : E → Bool) (hn : p l[j] = false) : l.all p = false := by
 rw [List.all_eq_false];exact ⟨l[j], List.getElem_mem h, by rw [hn]; decide⟩
theorem empty_forms (t : List UInt8) (b : Bool) (h : t.isEmpty = b) : (t == ([] : List UInt8)) = b ∧ (t != ([] : List UInt8)) = (!b) ∧ ((⟨t.toArray⟩ : ByteArray) == (⟨#[]⟩ : ByteArray)) = b ∧ ((⟨t.toArray⟩ : ByteArray) != (⟨#[]⟩ : ByteArray)) = (!b) ∧ (⟨t.toArray⟩ : ByteArray).toList.isEmpty = b := by
 have h1 : (t == ([] : List UInt8)) = b := by rw [← h]; cases t <;> rfl
 have h2 : ((⟨t.toArray⟩ : ByteArray) == (⟨#[]⟩ : ByteArray)) = b := str_decT t [] b h1;exact ⟨h1, by rw [bne, h1], h2, by rw [bne, h2], by rw [ByteArray.toList_eq]; exact h⟩
def RProperC (e : E) : Prop := ∀ (va vk : Value) (w : World), RepV w e va vk → Calls Tryz.prog 28 #[ev e va vk] w fun x w' => x = .returned (.bool (El.proper e)) ∧ Fresh w w'
theorem rproper_step (e : E) (ih : ∀ x ∈ e.kids, RProperC x) : RProperC e := by
 intro va vk w hr;obtain ⟨A, ca, hva⟩ := hr.1.slice;obtain ⟨B, cb, hvk⟩ := hr.2.1.slice;have HR := hid hr;have HIH := hid ih;obtain ⟨n, ats, ks, t⟩ := e;have hl1 : ats.length ≤ maxLen := by obtain ⟨_, _, _, h, _⟩ := hr.1; exact h.1
 have hl2 : ks.length ≤ maxLen := hr.2.1.len;have hnl : n.length ≤ maxLen := hr.2.2.1;have htl : t.length ≤ maxLen := hr.2.2.2;unfold maxLen at hl1 hl2 hnl htl;have HPE := hid (show El.proper (.mk n ats ks t) = (El.nameOK n && El.valueOK t && (t.isEmpty || ks.isEmpty) && decide (ats.length ≤ 8) && El.attrsOK ats && ks.all El.proper) by rw [El.proper_eq, El.properL_all]; rfl);replace hva : va = .slice A ats.length ca := hva;replace hvk : vk = .slice B ks.length cb := hvk;subst hva;subst hvk;unfold ev;simp only [E.name, E.kids, E.text] at HIH ⊢;clear hr ih;generalize El.proper (.mk n ats ks t) = PR at HPE ⊢;have HK := hid (show RepE w ks _ from HR.out.2.1);have HA := hid (show RepA w ats _ from HR.out.1);have HNM := hid (fun W : World => rname23_list n W hnl);have HVL := hid (fun W : World => rvalue_list t W htl);have HB0 := hid (Blk.new w 25 #[.string ⟨n.toArray⟩, .slice A ats.length ca, .slice B ks.length cb, .string ⟨t.toArray⟩]);have HF0 := hid ((Touch.refl (fun _ => False) w).alloc (.cells #[.string ⟨n.toArray⟩, .slice A ats.length ca, .slice B ks.length cb, .string ⟨t.toArray⟩] 25));cases hn : El.nameOK n with
 | false =>
  have HPR := hid (show PR = false by rw [HPE.out, hn]; rfl);go_enter Tryz.func28, Tryz.ntmps28;go_wp2_with fail
  refine (HNM.out _).mono ?_;rintro _ w1 ⟨rfl, hf1⟩;have HF1 := hid (HF0.out.trans hf1);clear hf1;rw [hn];go_wp2_with fail
  go_ret;exact ⟨ret_bool' _ _ HPR.out.symm, HF1.out⟩
 | true =>
 cases c1 : decide ((8 : Int) < (ats.length : Int)) with
 | true =>
  have HPR := hid (show PR = false by rw [HPE.out, show decide (ats.length ≤ 8) = false from dF (by have := of_decide_eq_true c1; omega)]; simp);go_enter Tryz.func28, Tryz.ntmps28;go_wp2_with fail
  refine (HNM.out _).mono ?_;rintro _ w1 ⟨rfl, hf1⟩;have HF1 := hid (HF0.out.trans hf1);obtain ⟨q0, q1, q2, q3, _⟩ := Blk.four (hf1.blk HB0.out fun h => h);clear hf1;rw [hn];go_wp2_with fail
  go_ret;exact ⟨ret_bool' _ _ HPR.out.symm, HF1.out⟩
 | false =>
 have HL8 := hid (show decide (ats.length ≤ 8) = true from dT (by have := of_decide_eq_false c1; omega));cases hv : El.valueOK t with
 | false =>
  have HPR := hid (show PR = false by rw [HPE.out, hv]; simp);go_enter Tryz.func28, Tryz.ntmps28;go_wp2_with fail
  refine (HNM.out _).mono ?_;rintro _ w1 ⟨rfl, hf1⟩;have HF1 := hid (HF0.out.trans hf1);obtain ⟨q0, q1, q2, q3, _⟩ := Blk.four (hf1.blk HB0.out fun h => h);clear hf1;rw [hn];go_wp2_with fail
  refine (HVL.out _).mono ?_;rintro _ w2 ⟨rfl, hf2⟩;have HF2 := hid (HF1.out.trans hf2);clear hf2;rw [hv];go_wp2_with fail
  go_ret;exact ⟨ret_bool' _ _ HPR.out.symm, HF2.out⟩
 | true =>
 have hways : (t.isEmpty = false ∧ (decide ((0 : Int) < (ks.length : Int)) = true ∧ decide (0 < ks.length) = true) ∧ PR = false) ∨ ((t.isEmpty = true ∨ (t.isEmpty = false ∧ decide ((0 : Int) < (ks.length : Int)) = false ∧ decide (0 < ks.length) = false)) ∧ PR = (El.attrsOK ats && ks.all El.proper)) := by
  have h := HPE.out;rw [hn, hv, HL8.out] at h;cases ht : t.isEmpty with
  | true => exact .inr ⟨.inl rfl, by rw [h, ht]; simp⟩
  | false =>
   cases hk : ks with
   | nil => exact .inr ⟨.inr ⟨rfl, rfl, rfl⟩, by rw [h, ht, hk]; simp⟩
   | cons x xs => exact .inl ⟨rfl, ⟨by rw [List.length_cons]; exact dT (by omega), by rw [List.length_cons]; exact dT (by omega)⟩, by rw [h, ht, hk]; simp⟩
 clear HPE HL8
 rcases hways with ⟨hte, ⟨c2, c2n⟩, hpr⟩ | ⟨hte | ⟨hte, c2, c2n⟩, hpr⟩
 focus
  obtain ⟨z1, z2, z3, z4, z5⟩ := empty_forms t _ hte;simp only [Bool.not_false] at z2 z4;have HPR := hid hpr;clear hpr;go_enter Tryz.func28, Tryz.ntmps28;go_wp2_with fail
  refine (HNM.out _).mono ?_;rintro _ w1 ⟨rfl, hf1⟩;have HF1 := hid (HF0.out.trans hf1);have HB1 := hid (hf1.blk HB0.out fun h => h);obtain ⟨q0, q1, q2, q3, _⟩ := Blk.four HB1.out;clear hf1;rw [hn];go_wp2_with fail
  refine (HVL.out _).mono ?_;rintro _ w2 ⟨rfl, hf2⟩;have HF2 := hid (HF1.out.trans hf2);clear q0 q1 q2 q3;obtain ⟨q0, q1, q2, q3, _⟩ := Blk.four (hf2.blk HB1.out fun h => h);clear hf2;rw [hv];go_wp2_with fail
  go_ret;exact ⟨ret_bool' _ _ HPR.out.symm, HF2.out⟩
 all_goals
  obtain ⟨z1, z2, z3, z4, z5⟩ := empty_forms t _ hte;simp only [Bool.not_false, Bool.not_true] at z2 z4;have HPR := hid hpr;clear hpr;go_enter Tryz.func28, Tryz.ntmps28;go_wp2_with fail
  refine (HNM.out _).mono ?_;rintro _ w1 ⟨rfl, hf1⟩;have HF1 := hid (HF0.out.trans hf1);have HB1 := hid (hf1.blk HB0.out fun h => h);obtain ⟨q0, q1, q2, q3, _⟩ := Blk.four HB1.out;clear hf1;rw [hn];go_wp2_with fail
  refine (HVL.out _).mono ?_;rintro _ w2 ⟨rfl, hf2⟩;have HF2 := hid (HF1.out.trans hf2);have HB2 := hid (hf2.blk HB1.out fun h => h);clear q0 q1 q2 q3;obtain ⟨q0, q1, q2, q3, _⟩ := Blk.four HB2.out;clear hf2 HF1 HB1;rw [hv];go_wp2_with fail
  clear z1 z2 z3 z4 z5 q0 q1 q2 q3 hte hn hv c1 HNM HVL HF0 HB0
  go_loopw [3] (fun i wr => ∃ j : Nat, i = .int .i64 j ∧ j ≤ ats.length ∧ Hid (El.attrsOK (ats.take j) = true) ∧ Hid (Blk wr w.heap.size 25 #[.string ⟨n.toArray⟩, .slice A ats.length ca, .slice B ks.length cb, .string ⟨t.toArray⟩]) ∧ Hid (Fresh w wr)) (fun i _ => ats.length - (intOf i).toNat)
  case atStart => exact ⟨0, rfl, Nat.zero_le _, hid rfl, HB2, HF2⟩
  case round =>
   obtain ⟨j, rfl, hj, HOK, HB, HF⟩ := hrel;obtain ⟨q0, q1, q2, q3, _, _, _, _, hgl⟩ := Blk.four HB.out
   by_cases c1 : j < ats.length
   ·have d1 : decide ((j : Int) < (ats.length : Int)) = true := dT (by omega)
    have d1' : (j : Int) < (ats.length : Int) := by omega
    have d1n : decide (j < ats.length) = true := dT c1;obtain ⟨g, o, rfl, hg2, m0, m1, hx1, hx2⟩ := HA.out.get j c1;have m0 := HF.out.cell m0 (fun h => h);have m1 := HF.out.cell m1 (fun h => h);have HSN := hid (El.attrsOK_snoc ats j c1);have HNO := hid (El.attrsOK_no ats (j + 1));have HAR := hid (HA.out.fresh HF.out);unfold maxLen at hx1 hx2;generalize ats[j] = x at *;have HN1 := hid (fun W : World => rname23_list x.1 W hx1);have HV1 := hid (fun W : World => rvalue_list x.2 W hx2);clear hx1 hx2;go_wp2_with fail
    refine (HN1.out _).mono ?_;rintro _ w3 ⟨rfl, hf3⟩;have HF3 := hid (HF.out.trans hf3);have HB3 := hid (hf3.blk HB.out fun h => h);have HA3 := hid (HAR.out.fresh hf3);have m0 := hf3.cell m0 (fun h => h);have m1 := hf3.cell m1 (fun h => h);clear hf3 q0 q1 q2 q3 hgl;obtain ⟨q0, q1, q2, q3, _, _, _, _, hgl⟩ := Blk.four HB3.out;cases hxn : El.nameOK x.1 with
    | false =>
     have HP2 := hid (show PR = false by rw [HPR.out, HNO.out (by rw [HSN.out, hxn]; simp)]; rfl);go_wp2_with fail
     go_ret;exact ⟨ret_bool' _ _ HP2.out.symm, HF3.out⟩
    | true =>
    go_wp2_with fail
    refine (HV1.out _).mono ?_;rintro _ w4 ⟨rfl, hf4⟩;have HF4 := hid (HF3.out.trans hf4);have HB4 := hid (hf4.blk HB3.out fun h => h);have HA4 := hid (HA3.out.fresh hf4);have m0 := hf4.cell m0 (fun h => h);clear hf4 q0 q1 q2 q3 hgl m1;obtain ⟨q0, q1, q2, q3, _, _, _, _, hgl⟩ := Blk.four HB4.out;cases hxv : El.valueOK x.2 with
    | false =>
     have HP2 := hid (show PR = false by rw [HPR.out, HNO.out (by rw [HSN.out, hxv]; simp)]; rfl);go_wp2_with fail
     go_ret;exact ⟨ret_bool' _ _ HP2.out.symm, HF4.out⟩
    | true =>
    have HSN2 := hid (show El.attrsOK (ats.take (j + 1)) = !(ats.take j).any (fun y => y.1 == x.1) by rw [HSN.out, hxn, hxv, HOK.out]; simp);clear HSN hxn hxv HN1 HV1;go_wp2_with fail
    clear q0 q1 q2 q3 d1 d1n
    go_loopw [4] (fun i wr => ∃ k : Nat, i = .int .i64 k ∧ k ≤ j ∧ Hid ((ats.take k).any (fun y => y.1 == x.1) = false) ∧ Hid (Blk wr w.heap.size 25 #[.string ⟨n.toArray⟩, .slice (some ⟨g, o, none⟩) ats.length ca, .slice B ks.length cb, .string ⟨t.toArray⟩]) ∧ Hid (Fresh w wr) ∧ wr.cell? ⟨g, o + j * 2, none⟩ = some (.string ⟨x.1.toArray⟩)) (fun i _ => j - (intOf i).toNat)
    case atStart => exact ⟨0, rfl, Nat.zero_le _, hid rfl, HB4, HF4, m0⟩
    case round =>
     obtain ⟨k, rfl, hk, HNK, HB5, HF5, m5⟩ := hrel;obtain ⟨q0, q1, q2, q3, _⟩ := Blk.four HB5.out
     by_cases c2 : k < j
     ·have d2 : decide ((k : Int) < (j : Int)) = true := dT (by omega)
      have d2n : decide (k < j) = true := dT c2;have d2' : (k : Int) < (ats.length : Int) := by omega
      obtain ⟨g', o', hA', hg2', n0, n1, _, _⟩ := (HA.out.fresh HF5.out).get k (by omega);cases hA';have HSK := hid (any_snoc ats k (by omega) (fun y => y.1 == x.1))
      have HJK := hid (show ats[k]'(by omega) ∈ ats.take j by
       rw [List.mem_take_iff_getElem];exact ⟨k, by omega, rfl⟩)
      generalize hy : ats[k]'(by omega) = y at *;clear hy;cases hxy : (y.1 == x.1) with
      | true =>
       have HP2 := hid (show PR = false by
        rw [HPR.out, HNO.out (by
         rw [HSN2.out, show (ats.take j).any (fun y => y.1 == x.1) = true from List.any_eq_true.2 ⟨y, HJK.out, hxy⟩]; rfl)]; rfl)
       clear n1;go_wp2_with fail
       go_quiet (fail)
       go_wp2_with fail
       go_ret;exact ⟨ret_bool' _ _ HP2.out.symm, HF5.out.drewN _⟩
      | false =>
       have HNK2 := hid (show (ats.take (k + 1)).any (fun y => y.1 == x.1) = false by rw [HSK.out, HNK.out, hxy]; rfl);clear n1;go_wp2_with fail
       go_quiet (fail)
       go_wp2_with fail
       exact ⟨⟨k + 1, by go_num, c2, HNK2, hid (HB5.out.drewN _), hid (HF5.out.drewN _), (Touch.refl (fun _ => False) _).drewN _ |>.cell m5 (fun h => h)⟩, by simp [intOf]; omega⟩
     ·have d2 : decide ((k : Int) < (j : Int)) = false := dF (by omega)
      have d2n : decide (k < j) = false := dF c2;obtain rfl : k = j := by omega
      have HOK2 := hid (show El.attrsOK (ats.take (k + 1)) = true by rw [HSN2.out, HNK.out]; rfl);go_wp2_with fail
      exact ⟨⟨k + 1, by go_num, c1, HOK2, HB5, HF5⟩, by simp [intOf]; omega⟩
   ·have d1 : decide ((j : Int) < (ats.length : Int)) = false := dF (by omega)
    have d1n : decide (j < ats.length) = false := dF c1;obtain rfl : j = ats.length := by omega
    have HPK := hid (show PR = ks.all El.proper by
     have h := HOK.out;rw [List.take_length] at h;rw [HPR.out, h, Bool.true_and])
    go_wp2_with fail
    clear d1 d1n q0 q1 q2 q3 hgl HOK HPR
    go_loopw [5] (fun i wr => ∃ k : Nat, i = .int .i64 k ∧ k ≤ ks.length ∧ Hid ((ks.take k).all El.proper = true) ∧ Hid (Blk wr w.heap.size 25 #[.string ⟨n.toArray⟩, .slice A ats.length ca, .slice B ks.length cb, .string ⟨t.toArray⟩]) ∧ Hid (Fresh w wr)) (fun i _ => ks.length - (intOf i).toNat)
    case atStart => exact ⟨0, rfl, Nat.zero_le _, hid rfl, HB, HF⟩
    case round =>
     obtain ⟨k, rfl, hk, HAL, HB, HF⟩ := hrel;obtain ⟨q0, q1, q2, q3, _, _, _, _, hgl⟩ := Blk.four HB.out
     by_cases c2 : k < ks.length
     ·have d2 : decide ((k : Int) < (ks.length : Int)) = true := dT (by omega)
      have d2' : (k : Int) < (ks.length : Int) := by omega
      have d2n : decide (k < ks.length) = true := dT c2;obtain ⟨g, o, va, vk, rfl, hg, m0, m1, m2, m3, hrx⟩ := HK.out.get k c2;obtain ⟨e0, e1, e2, e3⟩ := mv4 HF.out m0 m1 m2 m3;obtain ⟨Aa, aa, hva⟩ := hrx.1.slice;obtain ⟨Ak, ak, hvk⟩ := hrx.2.1.slice;have HS := hid (all_snocE ks k c2 El.proper);have HN := hid (all_noE ks k c2 El.proper);have HC := hid (fun (W : World) (hw : RepV W ks[k] va vk) => HIH.out ks[k] (List.getElem_mem c2) va vk W hw);have HX := hid (hrx.fresh HF.out);clear m0 m1 m2 m3 hrx;generalize ks[k] = x at *;generalize El.proper x = px at *;obtain ⟨xn, xa, xk, xt⟩ := x;unfold ev at HC;simp only [E.name, E.attrs, E.kids, E.text] at hva hvk e0 e1 e2 e3 HC;subst hva hvk;go_wp2_with fail
      refine (HC.out _ HX.out).mono ?_;rintro _ w5 ⟨rfl, hf5⟩;have HF5 := hid (HF.out.trans hf5);have HB5 := hid (hf5.blk HB.out fun h => h);clear hf5;cases px with
      | false =>
       have HP2 := hid (show PR = false by rw [HPK.out, HN.out rfl]);go_wp2_with fail
       go_ret;exact ⟨ret_bool' _ _ HP2.out.symm, HF5.out⟩
      | true =>
       go_wp2_with fail
       go_roundw
       case rel => exact ⟨k + 1, by go_num, c2, hid (by rw [HS.out, HAL.out]; rfl), HB5, HF5⟩
       case measure => simp [intOf]; omega
     ·have d2 : decide ((k : Int) < (ks.length : Int)) = false := dF (by omega)
      have d2n : decide (k < ks.length) = false := dF c2;obtain rfl : k = ks.length := by omega
      have HP2 := hid (show PR = true by rw [HPK.out]; have := HAL.out; rwa [List.take_length] at this);go_wp2_with fail
      go_ret;exact ⟨ret_bool' _ _ HP2.out.symm, HF.out⟩
end Go.Proofs.YtfnjcldgicohaaaGreat
namespace Go.Proofs.YtfnjcldgicohaaaGreat.El
mutual
def ren (k : Nat) (nm : Bytes) : Nat → E → E × Nat
 | i, .mk n a ks t => (.mk (if i = k then nm else n) a (renL k nm (i + 1) ks).1 t, (renL k nm (i + 1) ks).2)
def renL (k : Nat) (nm : Bytes) : Nat → List E → List E × Nat
 | i, [] => ([], i)
 | i, x :: xs => ((ren k nm i x).1 :: (renL k nm (ren k nm i x).2 xs).1, (renL k nm (ren k nm i x).2 xs).2)
end
theorem ren_eq (k : Nat) (nm : Bytes) (i : Nat) (e : E) : ren k nm i e = (.mk (if i = k then nm else e.name) e.attrs (renL k nm (i + 1) e.kids).1 e.text, (renL k nm (i + 1) e.kids).2) := by cases e; rw [ren]; rfl
theorem renL_snd (k : Nat) (nm : Bytes) (l : List E) (h : ∀ x ∈ l, ∀ i, (ren k nm i x).2 = i + count x) : ∀ i, (renL k nm i l).2 = i + countL l := by
 induction l with
 | nil => intro i; rw [renL, countL]; rfl
 | cons x l ih =>
  intro i;rw [renL, countL, h x (List.mem_cons_self ..)];show (renL k nm (i + count x) l).2 = _;rw [ih (fun y hy => h y (List.mem_cons_of_mem _ hy))];omega
theorem ren_snd (k : Nat) (nm : Bytes) (e : E) : ∀ i, (ren k nm i e).2 = i + count e := by
 induction e using E.ind with
 | h e ih => intro i; rw [ren_eq, count_kids]; show (renL k nm (i + 1) e.kids).2 = _; rw [renL_snd k nm e.kids ih]; omega
theorem renL_snd' (k : Nat) (nm : Bytes) (l : List E) (i : Nat) : (renL k nm i l).2 = i + countL l := renL_snd k nm l (fun x _ i => ren_snd k nm x i) i
theorem renL_len (k : Nat) (nm : Bytes) (l : List E) : ∀ i, (renL k nm i l).1.length = l.length := by
 induction l with
 | nil => intro i; rw [renL]
 | cons x l ih => intro i; rw [renL]; show (_ :: _).length = _; rw [List.length_cons, ih, List.length_cons]
theorem renL_snoc (k : Nat) (nm : Bytes) (l : List E) : ∀ (i j : Nat) (h : j < l.length), (renL k nm i (l.take (j + 1))).1 = (renL k nm i (l.take j)).1 ++ [(ren k nm (i + countL (l.take j)) l[j]).1] := by
 induction l with
 | nil => intro i j h; simp at h
 | cons x l ih =>
  intro i j h;cases j with
  | zero => simp [renL, countL]
  | succ j =>
   simp only [List.take_succ_cons, renL, countL, List.getElem_cons_succ, List.cons_append];rw [ih _ j (by simpa using h), ren_snd, Nat.add_assoc]
theorem ren_out (k : Nat) (nm : Bytes) (e : E) : ∀ i, (k < i ∨ i + count e ≤ k) → (ren k nm i e).1 = e := by
 induction e using E.ind with
 | h e ih =>
  intro i hk
  have hL : ∀ (l : List E), (∀ x ∈ l, x ∈ e.kids) → ∀ i, (k < i ∨ i + countL l ≤ k) → (renL k nm i l).1 = l := by
   intro l
   induction l with
   | nil => intro _ i _; rw [renL]
   | cons x l ihl =>
    intro hm i hk;rw [countL] at hk;rw [renL];show (ren k nm i x).1 :: (renL k nm (ren k nm i x).2 l).1 = _;rw [ren_snd, ih x (hm x (List.mem_cons_self ..)) i (by omega), ihl (fun y hy => hm y (List.mem_cons_of_mem _ hy)) _ (by omega)]
  rw [count_kids] at hk;have := count_pos e;rw [ren_eq, hL e.kids (fun x hx => hx) _ (by omega), if_neg (by omega)];exact (E.eta e).symm
theorem ren_parts (k : Nat) (nm : Bytes) (e : E) (i : Nat) : (ren k nm i e).1.attrs = e.attrs ∧ (ren k nm i e).1.text = e.text ∧ (ren k nm i e).1.kids.length = e.kids.length ∧ (i ≠ k → (ren k nm i e).1.name = e.name) ∧ (i = k → (ren k nm i e).1.name = nm) := by
 rw [ren_eq];refine ⟨rfl, rfl, renL_len _ _ _ _, fun h => if_neg h, fun h => if_pos h⟩
def nNone : Bytes := [110, 111, 110, 101]
theorem own_none_name (a : Attrs) (ks : List E) (t : Bytes) : ownF (.mk nNone a ks t) = false := by
 show (t.isEmpty && false && _ && _) = false;simp
theorem ownF_same (e e' : E) (hn : e'.name = e.name) (ha : e'.attrs = e.attrs) (hk : e'.kids.length = e.kids.length) (ht : e'.text = e.text) : ownF e' = ownF e := by
 obtain ⟨n, a, ks, t⟩ := e;obtain ⟨n', a', ks', t'⟩ := e';simp only [E.name, E.attrs, E.kids, E.text] at hn ha hk ht;subst hn ha ht;have : ks'.isEmpty = ks.isEmpty := by rw [Bool.eq_iff_iff, List.isEmpty_iff_length_eq_zero, List.isEmpty_iff_length_eq_zero, hk]
 unfold ownF;simp only [hk, this]
theorem admF_same (n : Bytes) (a : Attrs) (ks ks' : List E) (t : Bytes) (x x' : E) (hc : colsN ks' = colsN ks) (h0 : 0 < ks.length) (h0' : 0 < ks'.length) (hn : x'.name = x.name) (hk : x'.kids.length = x.kids.length) : admF (.mk n a ks' t) x' = admF (.mk n a ks t) x := by
 obtain ⟨m, b, ls, s⟩ := x;obtain ⟨m', b', ls', s'⟩ := x';simp only [E.name, E.kids] at hn hk;subst hn
 match ks, ks', h0, h0', hc with
 | .mk _ _ js _ :: r, .mk _ _ js' _ :: r', _, _, hc =>
  have hc : js'.length = js.length := hc;unfold admF;simp only [hk, hc]
theorem ren_vis (k : Nat) (e : E) : ∀ i, i ≤ k → k < i + count e → okT e = true → ∀ adm, (i ≠ k → adm = true) → vis adm i (ren k nNone i e).1 = (false, k + 1) := by
 induction e using E.ind with
 | h e ih =>
  intro i hik hk hok adm hadm;have hp := ren_parts k nNone e i;rw [vis_eq]
  by_cases h : i = k
  ·have ho : ownF (ren k nNone i e).1 = false := by
    rw [E.eta (ren k nNone i e).1, hp.2.2.2.2 h];exact own_none_name _ _ _
   rw [ho, Bool.and_false, h]; rfl
  ·rw [okT_eq, Bool.and_eq_true] at hok
   rw [ownF_same e _ (hp.2.2.2.1 h) hp.1 hp.2.2.1 hp.2.1, hok.1, hadm h];simp only [Bool.true_and, if_true]
   have hL : ∀ (p : E) (l : List E), (∀ x ∈ l, x ∈ e.kids) → (∀ x ∈ l, ∀ x' : E, x'.name = x.name → x'.kids.length = x.kids.length → admF p x' = true) → (∀ x ∈ l, okT x = true) →
     ∀ i, i ≤ k → k < i + countL l → visL p i (renL k nNone i l).1 = (false, k + 1) := by
    intro p l
    induction l with
    | nil => intro _ _ _ i h1 h2; rw [countL] at h2; omega
    | cons x l ihl =>
     intro hm ha ho i h1 h2;rw [countL] at h2;rw [renL, visL];have hx := ren_parts k nNone x i
     by_cases hkx : k < i + count x
     ·rw [ih x (hm x (List.mem_cons_self ..)) i h1 hkx (ho x (List.mem_cons_self ..)) _ (fun hne => ha x (List.mem_cons_self ..) _ (hx.2.2.2.1 hne) hx.2.2.1)]
     ·rw [ren_snd, ren_out k nNone x i (by omega)]
      rw [(vis_spec x _ _).1 (by rw [ha x (List.mem_cons_self ..) x rfl rfl, ho x (List.mem_cons_self ..)]; rfl)];exact ihl (fun y hy => hm y (List.mem_cons_of_mem _ hy)) (fun y hy => ha y (List.mem_cons_of_mem _ hy)) (fun y hy => ho y (List.mem_cons_of_mem _ hy)) _ (by omega) (by omega)
   have hall := hok.2;rw [okL_all, List.all_eq_true] at hall;have hkids : (ren k nNone i e).1.kids = (renL k nNone (i + 1) e.kids).1 := by rw [ren_eq]; rfl
   rw [hkids];rw [count_kids] at hk;refine hL _ e.kids (fun x hx => hx) (fun x hx x' hn hl => ?_) (fun x hx => by have := hall x hx; rw [Bool.and_eq_true] at this; exact this.2) (i + 1) (by omega) (by omega);have hax : admF e x = true := by have := hall x hx; rw [Bool.and_eq_true] at this; exact this.1
   have hne : 0 < e.kids.length := List.length_pos_of_mem hx;rw [E.eta (ren k nNone i e).1, hp.2.2.2.1 h, hp.1, hp.2.1, hkids];rw [← hax]
   conv => rhs; rw [E.eta e]
   refine admF_same _ _ _ _ _ x x' ?_ hne (by rw [renL_len]; exact hne) hn hl |>.trans ?_
   ·match hks : e.kids, hne with
    | y :: r, _ =>
     rw [renL];show colsN ((ren k nNone (i + 1) y).1 :: _) = _;have := (ren_parts k nNone y (i + 1)).2.2.1;obtain ⟨yn, ya, yk, yt⟩ := y
     rcases hr : (ren k nNone (i + 1) (E.mk yn ya yk yt)).1 with ⟨zn, za, zk, zt⟩
     rw [hr] at this;exact this
   ·rfl
theorem ren_fault (k : Nat) (e : E) (hk : k < count e) (hok : okT e = true) (hn : e.name = nMath) : faultF (ren k nNone 0 e).1 = ((k : Int), true) := by
 have hp := ren_parts k nNone e 0;have hv := ren_vis k e 0 (Nat.zero_le _) (by omega) hok (decide ((ren k nNone 0 e).1.name = nMath)) (fun h => by rw [hp.2.2.2.1 h, hn]; rfl);unfold faultF;rw [hv];show ((((k + 1 : Nat) : Int) - 1), true) = _
 congr 1
 omega
theorem ren_count (k : Nat) (nm : Bytes) (e : E) : ∀ i, count (ren k nm i e).1 = count e ∧ depth (ren k nm i e).1 = depth e ∧ (nameOK nm = true → proper e = true → proper (ren k nm i e).1 = true) := by
 induction e using E.ind with
 | h e ih =>
  intro i
  have hL : ∀ (l : List E), (∀ x ∈ l, x ∈ e.kids) → ∀ i, countL (renL k nm i l).1 = countL l ∧ depthL (renL k nm i l).1 = depthL l ∧ (nameOK nm = true → properL l = true → properL (renL k nm i l).1 = true) := by
   intro l
   induction l with
   | nil => intro _ i; rw [renL]; exact ⟨rfl, rfl, fun _ h => h⟩
   | cons x l ihl =>
    intro hm i;obtain ⟨h1, h2, h3⟩ := ih x (hm x (List.mem_cons_self ..)) i;obtain ⟨h4, h5, h6⟩ := ihl (fun y hy => hm y (List.mem_cons_of_mem _ hy)) (ren k nm i x).2;rw [renL];show countL (_ :: _) = _ ∧ depthL (_ :: _) = _ ∧ (_ → _ → properL (_ :: _) = true);rw [countL, countL, depthL, depthL, properL, properL, h1, h2, h4, h5];refine ⟨rfl, rfl, fun hn hp => ?_⟩;rw [Bool.and_eq_true] at hp ⊢;exact ⟨h3 hn hp.1, h6 hn hp.2⟩
  obtain ⟨h1, h2, h3⟩ := hL e.kids (fun x hx => hx) (i + 1);rw [ren_eq, count_kids, depth_kids, proper_eq, proper_eq, count_kids e, depth_kids e];refine ⟨congrArg (1 + ·) h1, congrArg (· + 1) h2, fun hn hp => ?_⟩;rw [Bool.and_eq_true] at hp ⊢;refine ⟨?_, h3 hn hp.2⟩;have ho := hp.1;have hl : ((renL k nm (i + 1) e.kids).1).isEmpty = e.kids.isEmpty := by rw [Bool.eq_iff_iff, List.isEmpty_iff_length_eq_zero, List.isEmpty_iff_length_eq_zero, renL_len]
  show (nameOK (if i = k then nm else e.name) && valueOK e.text && (e.text.isEmpty || ((renL k nm (i + 1) e.kids).1).isEmpty) && decide (e.attrs.length ≤ 8) && attrsOK e.attrs) = true;replace ho : (nameOK e.name && valueOK e.text && (e.text.isEmpty || e.kids.isEmpty) && decide (e.attrs.length ≤ 8) && attrsOK e.attrs) = true := ho;rw [hl]
  by_cases h : i = k
  ·rw [if_pos h, hn]
   simp only [Bool.and_eq_true, Bool.true_and] at ho ⊢;exact ⟨⟨⟨ho.1.1.1.2, ho.1.1.2⟩, ho.1.2⟩, ho.2⟩
  ·rw [if_neg h]
   exact ho
theorem ren_valid (k : Nat) (nm : Bytes) (e : E) (i : Nat) (hn : nameOK nm = true) (h : valid e = true) : valid (ren k nm i e).1 = true := by
 obtain ⟨h1, h2, h3⟩ := ren_count k nm e i;unfold valid at h ⊢;rw [h1, h2];simp only [Bool.and_eq_true] at h ⊢;exact ⟨⟨h3 hn h.1.1, h.1.2⟩, h.2⟩
end Go.Proofs.YtfnjcldgicohaaaGreat.El
namespace Go.Proofs.YtfnjcldgicohaaaGreat.El
open Tr (Nd)
theorem valid_one (x : Nd) (hc : Tr.count x ≤ 10) (hd : Tr.depth x ≤ 10) : Tr.valid (.mk 1 [] 0 [x]) = ((x.kind != 1) && Tr.form x) := by
 unfold Tr.valid;have h1 : decide (Tr.count (.mk 1 [] 0 [x]) ≤ 1000) = true := by rw [Tr.count, Tr.countL, Tr.countL]; exact decide_eq_true (by omega)
 have h2 : decide (Tr.depth (.mk 1 [] 0 [x]) ≤ 24) = true := by rw [Tr.depth, Tr.depthL, Tr.depthL]; exact decide_eq_true (by omega)
 rw [h1, h2, Bool.and_true, Bool.and_true, Tr.form, Tr.formL, Tr.formL, Bool.and_true];show (true && (true && ((x.kind == 1) != true) && Tr.form x)) = _;rw [Bool.true_and, Bool.true_and];cases h : x.kind == 1 <;> simp [bne, h]
theorem validI_eq (k : Int) (t : Bytes) (s : Nat) (hs : s ≤ 1) : validI k t s = ((k != 1) && (Tr.textOK k t && Tr.kidsOK k 0 s)) := by
 have h : s = 0 ∨ s = 1 := by omega
 unfold validI
 rcases h with rfl | rfl
 ·rw [valid_one _ (by rw [Tr.count, List.replicate, Tr.countL]; omega) (by rw [Tr.depth, List.replicate, Tr.depthL]; omega), Tr.form, List.replicate, Tr.formL, Bool.and_true]; rfl
 ·rw [valid_one _ (by simp only [Tr.count, List.replicate, Tr.countL, rowNil]; omega) (by simp only [Tr.depth, List.replicate, Tr.depthL, rowNil]; decide), Tr.form]
  show ((k != 1) && (Tr.textOK k t && Tr.kidsOK k 0 1 && Tr.formL (k == 1) [rowNil])) = _;cases h : k == 1 with
  | true => simp [bne, h]
  | false =>
   rw [show Tr.formL false [rowNil] = true from by simp only [Tr.formL, rowNil, Tr.form]; rfl, Bool.and_true]
def itemNames : List Bytes := [nMi, nMo, nMn, nMtext, nMfrac, nMsqrt, nMroot, nMsub, nMsup, nMsubsup, nMover, nMfenced, nMtable]
def rowNames : List Bytes := [nMath, nMrow, nMtd]
theorem names_ok : ∀ n ∈ itemNames ++ rowNames ++ [nMtr], nameOK n = true := by decide
def ItE (e : E) : Prop := okT e = true ∧ proper e = true ∧ e.name ∈ itemNames
theorem adm_item (n : Bytes) (hn : n ∈ rowNames) (a : Attrs) (ks : List E) (t : Bytes) (x : E) (hx : x.name ∈ itemNames) : admF (.mk n a ks t) x = true := by
 obtain ⟨m, b, ls, s⟩ := x;have h1 : n = nMath ∨ n = nMrow ∨ n = nMtd := by simpa [rowNames] using hn
 have h2 : ∀ m ∈ itemNames, !(decide (m = nMath) || decide (m = nMrow) || decide (m = nMtd) || decide (m = nMtr)) := by decide
 show (if _ then _ else _) = true;rw [if_pos h1];exact h2 m hx
theorem ownF_row (n : Bytes) (hn : n ∈ rowNames) (l : List E) : ownF (.mk n [] l []) = true := by
 have h1 : n = nMath ∨ n = nMrow ∨ n = nMtd := by simpa [rowNames] using hn
 rcases h1 with rfl | rfl | rfl <;> rfl
theorem ownOK_bare (n : Bytes) (hn : nameOK n = true) (l : List E) : ownOK (.mk n [] l []) = true := by
 show (nameOK n && valueOK [] && (([] : Bytes).isEmpty || l.isEmpty) && decide (0 ≤ 8) && attrsOK []) = true;rw [hn]; rfl
theorem row_ok (n : Bytes) (hn : n ∈ rowNames) (l : List E) (h : ∀ x ∈ l, ItE x) : okT (mrow n l) = true ∧ proper (mrow n l) = true := by
 unfold mrow;rw [okT_eq, ownF_row n hn, proper_eq, ownOK_bare n (names_ok n (by simp [hn]))];refine ⟨?_, ?_⟩
 ·rw [Bool.true_and, okL_all, List.all_eq_true]
  intro x hx;rw [adm_item n hn _ _ _ x (h x hx).2.2, (h x hx).1]; rfl
 ·rw [Bool.true_and, properL_all, List.all_eq_true]
  exact fun x hx => (h x hx).2.1
theorem rows_ok (n : Bytes) (hn : n ∈ itemNames) (h0 : n ≠ nMtable) (a : Attrs) (ls : List (List E)) (h : ∀ l ∈ ls, ∀ x ∈ l, ItE x) (ho : ownF (.mk n a (ls.map (mrow nMrow)) []) = true) (ha : (decide (a.length ≤ 8) && attrsOK a) = true) : ItE (.mk n a (ls.map (mrow nMrow)) []) := by
 have hadm : ∀ m ∈ itemNames, m ≠ nMtable → ¬ (m = nMath ∨ m = nMrow ∨ m = nMtd) ∧ m ≠ nMtr := by decide
 have hr : ∀ x ∈ ls.map (mrow nMrow), okT x = true ∧ proper x = true ∧ x.name = nMrow := by
  intro x hx;obtain ⟨l, hl, rfl⟩ := List.mem_map.1 hx;have := row_ok nMrow (by simp [rowNames]) l (h l hl);exact ⟨this.1, this.2, rfl⟩
 refine ⟨?_, ?_, hn⟩
 ·rw [okT_eq, ho, Bool.true_and, okL_all, List.all_eq_true]
  intro x hx;obtain ⟨h1, _, h3⟩ := hr x hx;obtain ⟨m, b, js, s⟩ := x;rw [h1, Bool.and_true];show (if _ then _ else _) = true;rw [if_neg (hadm n hn h0).1, if_neg h0, if_neg (hadm n hn h0).2];exact decide_eq_true h3
 ·rw [proper_eq, Bool.and_eq_true]
  refine ⟨?_, ?_⟩
  ·show (nameOK n && valueOK [] && (([] : Bytes).isEmpty || (ls.map (mrow nMrow)).isEmpty) && decide (a.length ≤ 8) && attrsOK a) = true
   rw [Bool.and_eq_true] at ha;rw [names_ok n (by simp [hn]), ha.1, ha.2]; rfl
  ·rw [properL_all, List.all_eq_true]
   exact fun x hx => (hr x hx).2.1
theorem leaf_ok (n : Bytes) (hn : n ∈ itemNames) (t : Bytes) (ho : ownF (.mk n [] [] t) = true) (ht : valueOK t = true) : ItE (.mk n [] [] t) := by
 refine ⟨?_, ?_, hn⟩
 ·rw [okT_eq, ho]; exact (by rw [E.kids, okL]; rfl)
 ·rw [proper_eq, Bool.and_eq_true]
  refine ⟨?_, by rw [E.kids, properL]⟩;show (nameOK n && valueOK t && (t.isEmpty || true) && decide (0 ≤ 8) && attrsOK []) = true;rw [names_ok n (by simp [hn]), ht, Bool.or_true]; rfl
theorem grid_all {α : Type} (c : Nat) (hc : 0 < c) (l : List α) (hd : l.length % c = 0) : ∀ r ∈ grid c l, r.length = c ∧ ∀ x ∈ r, x ∈ l := by
 intro r hr;unfold grid at hr;obtain ⟨i, hi, rfl⟩ := List.mem_map.1 hr;have hi := List.mem_range.1 hi;have h1 : l.length = l.length / c * c := by have := Nat.div_add_mod l.length c; rw [Nat.mul_comm] at this; omega
 have h2 : (l.length + c - 1) / c = l.length / c := by
  have := ceil_mul c (l.length / c) hc;rw [← h1] at this;exact this
 rw [h2] at hi;have h3 : (i + 1) * c ≤ l.length / c * c := Nat.mul_le_mul_right c hi;rw [Nat.add_mul, Nat.one_mul] at h3;refine ⟨by rw [List.length_take, List.length_drop]; omega, fun x hx => List.mem_of_mem_drop (List.mem_of_mem_take hx)⟩
theorem grid_count {α : Type} (c : Nat) (hc : 0 < c) (l : List α) (hd : l.length % c = 0) : (grid c l).length = l.length / c ∧ (grid c l).flatten = l := by
 have h1 : l.length = l.length / c * c := by have := Nat.div_add_mod l.length c; rw [Nat.mul_comm] at this; omega
 have h2 : (l.length + c - 1) / c = l.length / c := by
  have := ceil_mul c (l.length / c) hc;rw [← h1] at this;exact this
 refine ⟨by unfold grid; rw [List.length_map, List.length_range, h2], ?_⟩;unfold grid;rw [h2]
 have : ∀ k, k * c ≤ l.length → ((List.range k).map fun r => (l.drop (r * c)).take c).flatten = l.take (k * c) := by
  intro k
  induction k with
  | zero => intro _; simp
  | succ k ih =>
   intro hk;rw [Nat.add_mul, Nat.one_mul] at hk ⊢;rw [List.range_succ, List.map_append, List.flatten_append, ih (by omega), List.map_singleton, List.flatten_singleton, List.take_add]
 rw [this _ (by omega), List.take_of_length_le (by omega)]
theorem table_ok (gs : List (List (List E))) (c : Nat) (h0 : 0 < gs.length) (hc : 1 ≤ c) (hc2 : c ≤ 16) (hl : ∀ r ∈ gs, r.length = c) (h : ∀ r ∈ gs, ∀ l ∈ r, ∀ x ∈ l, ItE x) : ItE (.mk nMtable [] (gs.map fun r => mrow nMtr (r.map (mrow nMtd))) []) := by
 have hr : ∀ r ∈ gs, okT (mrow nMtr (r.map (mrow nMtd))) = true ∧ proper (mrow nMtr (r.map (mrow nMtd))) = true := by
  intro r hr
  have hx : ∀ x ∈ r.map (mrow nMtd), okT x = true ∧ proper x = true ∧ x.name = nMtd := by
   intro x hx;obtain ⟨l, hl, rfl⟩ := List.mem_map.1 hx;have := row_ok nMtd (by simp [rowNames]) l (h r hr l hl);exact ⟨this.1, this.2, rfl⟩
  have ho : ownF (mrow nMtr (r.map (mrow nMtd))) = true := by
   show (true && (decide (1 ≤ (r.map (mrow nMtd)).length) && decide ((r.map (mrow nMtd)).length ≤ 16)) && true && decide (0 = 0)) = true;rw [List.length_map, hl r hr, decide_eq_true hc, decide_eq_true hc2]; rfl
  refine ⟨?_, ?_⟩
  ·rw [okT_eq, ho, Bool.true_and, okL_all, List.all_eq_true]
   intro x hx';obtain ⟨h1, _, h3⟩ := hx x hx';obtain ⟨m, b, js, s⟩ := x;rw [h1, Bool.and_true];exact decide_eq_true h3
  ·rw [proper_eq, Bool.and_eq_true]
   refine ⟨ownOK_bare nMtr (by decide) _, ?_⟩;rw [properL_all, List.all_eq_true];exact fun x hx' => (hx x hx').2.1
 refine ⟨?_, ?_, (show nMtable ∈ itemNames by decide)⟩
 ·have ho : ownF (.mk nMtable [] (gs.map fun r => mrow nMtr (r.map (mrow nMtd))) []) = true := by
   show (true && decide (1 ≤ (gs.map fun r => mrow nMtr (r.map (mrow nMtd))).length) && true && decide (0 = 0)) = true;rw [List.length_map, decide_eq_true (show 1 ≤ gs.length from h0)]; rfl
  rw [okT_eq, ho, Bool.true_and, okL_all, List.all_eq_true];intro x hx;obtain ⟨r, hr', rfl⟩ := List.mem_map.1 hx;rw [(hr r hr').1, Bool.and_true];have hlr := hl r hr'
  match gs, h0, hl with
  | g :: gs', _, hl =>
   show (true && decide ((r.map (mrow nMtd)).length = (g.map (mrow nMtd)).length)) = true;rw [List.length_map, List.length_map, hlr, hl g (List.mem_cons_self ..)];simp
 ·rw [proper_eq, Bool.and_eq_true]
  refine ⟨ownOK_bare nMtable (by decide) _, ?_⟩;rw [properL_all, List.all_eq_true];intro x hx;obtain ⟨r, hr', rfl⟩ := List.mem_map.1 hx;exact (hr r hr').2
theorem char_prints : ∀ n : Fin 256, Tr.character (UInt8.ofNat n.1) = true → printable (UInt8.ofNat n.1) = true := by decide +kernel
theorem char_print (b : UInt8) (h : Tr.character b = true) : printable b = true := by
 have := char_prints ⟨b.toNat, b.toNat_lt⟩;simp only [UInt8.ofNat_toNat] at this;exact this h
theorem digit_prints : ∀ n : Fin 256, Tr.digit (UInt8.ofNat n.1) = true → printable (UInt8.ofNat n.1) = true := by decide +kernel
theorem digit_print (b : UInt8) (h : Tr.digit b = true) : printable b = true := by
 have := digit_prints ⟨b.toNat, b.toNat_lt⟩;simp only [UInt8.ofNat_toNat] at this;exact this h
theorem letter_print (b : UInt8) (h : Tr.letter b = true) : printable b = true := char_print b (by unfold Tr.character; rw [h]; rfl)
theorem all_imp {p q : UInt8 → Bool} (h : ∀ b, p b = true → q b = true) (s : Bytes) (hs : s.all p = true) : s.all q = true := by
 rw [List.all_eq_true] at hs ⊢;exact fun b hb => h b (hs b hb)
theorem num_print (s : Bytes) (h1 : (s.takeWhile (· ≠ 46)).all Tr.digit = true) (h2 : ∀ d b, s.dropWhile (· ≠ 46) = d :: b → b.all Tr.digit = true) : s.all printable = true := by
 induction s with
 | nil => rfl
 | cons x r ih =>
  rw [List.all_cons, Bool.and_eq_true]
  by_cases hx : x = 46
  ·subst hx
   refine ⟨by decide, all_imp digit_print r (h2 46 r (by simp [List.dropWhile]))⟩
  ·rw [List.takeWhile_cons_of_pos (by simpa using hx), List.all_cons, Bool.and_eq_true] at h1
   refine ⟨digit_print x h1.1, ih h1.2 fun d b hd => h2 d b ?_⟩;rw [List.dropWhile_cons_of_pos (by simpa using hx), hd]
theorem text_value (k : Int) (s : Bytes) (h : Tr.textOK k s = true) : valueOK s = true := by
 unfold valueOK;rw [Bool.and_eq_true, decide_eq_true_eq];unfold Tr.textOK at h;split at h
 ·unfold Tr.symbol at h
  split at h
  ·exact ⟨by rw [List.all_cons, char_print _ h]; rfl, by simp⟩
  ·simp only [Bool.and_eq_true, decide_eq_true_eq] at h
   exact ⟨all_imp letter_print s h.1.1.1.1, by omega⟩
 split at h
 ·unfold Tr.isNum at h
  simp only [Bool.and_eq_true, decide_eq_true_eq, Bool.or_eq_true] at h;refine ⟨?_, by omega⟩
  rcases h.2 with h2 | h2
  ·exact all_imp digit_print s h2
  ·split at h2
   ·rename_i d b hd
    simp only [Bool.and_eq_true] at h2;refine num_print s h2.1.1.2 fun d' b' hd' => ?_
    rw [hd] at hd';cases hd';exact h2.2
   ·cases h2
 split at h
 ·simp only [Bool.and_eq_true, decide_eq_true_eq] at h
  exact ⟨by have := h.2; unfold Tr.printable at this; exact this, h.1⟩
 split at h
 ·have hm := List.contains_iff_mem.1 h
  have ha : ∀ t ∈ Tr.accents, t.all printable = true ∧ t.length ≤ 200 := by decide
  exact ha s hm
 split at h
 ·unfold Tr.fence at h
  split at h
  ·rename_i a b
   rw [Bool.and_eq_true] at h;have hd : ∀ c ∈ Tr.delims, printable c = true := by decide
   exact ⟨by rw [List.all_cons, List.all_cons, hd a (List.contains_iff_mem.1 h.1), hd b (List.contains_iff_mem.1 h.2)]; rfl, by simp⟩
  ·cases h
 ·rw [List.isEmpty_iff.1 h]; exact ⟨rfl, by simp⟩
end Go.Proofs.YtfnjcldgicohaaaGreat.El
