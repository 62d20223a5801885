/- Part 22 of 33 of a proof; its texts, joined: MkC, RegI, MkD, RegJ. No condition. -/
import Derived.Test.YtfnjcldgicohaaaGreatWa21
import Derived.Test.YtfnjcldgicohaaaGreatWa12
import Derived.Test.YtfnjcldgicohaaaGreatWa3
import Derived.Test.YtfnjcldgicohaaaGreatWa7
import Derived.Test.YtfnjcldgicohaaaGreatWa13
import Derived.Test.YtfnjcldgicohaaaGreatWa4
set_option maxRecDepth 100000
set_option maxHeartbeats 2000000
namespace Go.Proofs.YtfnjcldgicohaaaGreat
open Go.RowKit
open Tr (Nd)
open El (E elE elK mrow)
attribute [local go_sem] stillV stillUpon
def MakesE (w w' : World) (e : E) (v : Value) : Prop := ∃ va vk, v = ev e va vk ∧ Fresh w w' ∧ Stab (fun k => k < w.heap.size) w' fun W => RepV W e va vk
def ElementC (n : Nd) : Prop := ∀ (sl : Value) (w : World), Tr.count n ≤ 100000 → RepL w n.kids sl → Calls Tryz.prog 62 #[nv n sl] w fun e w' => ∃ v, e = .returned v ∧ MakesE w w' (elE n) v
def rowsE (nm : List UInt8) (ks : List Nd) : List E := ks.map fun n => mrow nm (elK n.kids)
def RowsC (ks : List Nd) : Prop := ∀ (nm : List UInt8) (sl : Value) (w : World), nm.length ≤ maxLen → Tr.countL ks ≤ 100000 → RepL w ks sl → Calls Tryz.prog 89 #[.string ⟨nm.toArray⟩, sl] w fun e w' => ∃ v, e = .returned v ∧ MakesE w w' (mrow nm (rowsE El.nMrow ks)) v
theorem rowsE_len (nm : List UInt8) (l : List Nd) : (rowsE nm l).length = l.length := List.length_map _
theorem rowsE_take (nm : List UInt8) (l : List Nd) (j : Nat) (h : j < l.length) : (rowsE nm l).take j ++ [mrow nm (elK l[j].kids)] = (rowsE nm l).take (j + 1) := by
 unfold rowsE;rw [List.take_add_one, List.getElem?_map, List.getElem?_eq_getElem h];rfl
def RowC (n : Nd) : Prop := ∀ (nm : List UInt8) (sl : Value) (w : World), nm.length ≤ maxLen → Tr.count n ≤ 100000 → RepL w n.kids sl → Calls Tryz.prog 36 #[.string ⟨nm.toArray⟩, nv n sl] w fun e w' => ∃ v, e = .returned v ∧ MakesE w w' (mrow nm (elK n.kids)) v
theorem GrowE.base {B : Nat} {w : World} {es : List E} {v : Value} (h : GrowE B w es v) : B ≤ w.heap.size := h.1
theorem elK_len (l : List Nd) : (elK l).length = l.length := by rw [El.elK_map, List.length_map]
theorem elK_take (l : List Nd) (j : Nat) (h : j < l.length) : (elK l).take j ++ [elE l[j]] = (elK l).take (j + 1) := by
 rw [El.elK_map, List.take_add_one, List.getElem?_map, List.getElem?_eq_getElem h];rfl
theorem mkrow_any (n : Nd) (ih : ∀ x ∈ n.kids, ElementC x) : RowC n := by
 intro nm sl w hnm hc hsl;have hcl : Tr.countL n.kids ≤ 100000 := by have := Tr.count_kids n; omega
 obtain ⟨A, cap, rfl⟩ := hsl.slice;have HSL := hid hsl;have HIH := hid ih;have HNM := hid hnm;have hkl := Tr.countL_len n.kids;clear hc;generalize hks : n.kids = ks at *;have HKS := hid hks;clear hsl ih hnm hks;go_enter Tryz.func36, Tryz.ntmps36;go_wp2_with fail
 refine forget_world (fun W => Fresh w W ∧ W.heap.size = w.heap.size + 3 ∧ Blk W (w.heap.size + 1) 25 #[.string ⟨#[]⟩, .slice none 0 0, .slice none 0 0, .string ⟨#[]⟩] ∧ Blk W (w.heap.size + 1 + 1) 25 #[.string ⟨nm.toArray⟩, .slice none 0 0, .slice none 0 0, .string ⟨#[]⟩]) ⟨(((Touch.refl _ _).alloc _).alloc _).alloc _, by simp, (Blk.new2 w _ 25 _).alloc _, Blk.new3' _ _ _ _ _⟩ ?_;rintro W1 ⟨hf1, hs1, hbr1, hbe1⟩;have HF1 := hid hf1;have HBR1 := hid hbr1;have HBE1 := hid hbe1;have HS1 := hid hs1;have HG1 := hid (show GrowE (w.heap.size + 3) W1 ((elK ks).take 0) (.slice none 0 0) by rw [List.take_zero]; exact GrowE.nil (by omega));clear hf1 hbr1 hbe1 hs1
 go_loopw [13] (fun i wr => ∃ (j : Nat) (Ae : Option Addr) (ce : Nat), i = .int .i64 j ∧ j ≤ ks.length ∧ Hid (Blk wr (w.heap.size + 1) 25 #[.string ⟨#[]⟩, .slice none 0 0, .slice none 0 0, .string ⟨#[]⟩]) ∧ Hid (Blk wr (w.heap.size + 1 + 1) 25 #[.string ⟨nm.toArray⟩, .slice none 0 0, .slice Ae j ce, .string ⟨#[]⟩]) ∧ Hid (GrowE (w.heap.size + 3) wr ((elK ks).take j) (.slice Ae j ce)) ∧ Hid (Fresh w wr)) (fun i _ => ks.length - (intOf i).toNat)
 case atStart => exact ⟨0, none, 0, rfl, Nat.zero_le _, HBR1, HBE1, HG1, HF1⟩
 case round =>
  obtain ⟨j, Ae, ce, rfl, hj, HBR, HBE, HG, HF⟩ := hrel;rename_i wr _
  by_cases c1 : j < ks.length
  ·have d1 : decide ((j : Int) < (ks.length : Int)) = true := dT (by omega)
   have d1n : decide (j < ks.length) = true := dT c1;have d1' : (j : Int) < (ks.length : Int) := by omega
   obtain ⟨g, o, sx, hA, hg, m0, m1, m2, m3, hrx⟩ := HSL.out.get j c1;cases hA;obtain ⟨Ax, cx, rfl⟩ := hrx.slice;have e0 := HF.out.cell m0 (fun h => h);have e1 := HF.out.cell m1 (fun h => h);have e2 := HF.out.cell m2 (fun h => h);have e3 := HF.out.cell m3 (fun h => h);have hgl : g < wr.heap.size := Nat.lt_of_lt_of_le hg HF.out.size;have HRX := hid (hrx.fresh HF.out);have HMEM := hid (List.getElem_mem c1);have HLN := hid (show ((elK ks).take j).length = j by rw [List.length_take, elK_len]; omega);clear m0 m1 m2 m3 hg hrx;go_wp2_with fail
   have k0 := cR ((HBE.out.alloc (.cells #[.int .i64 ks[j].kind, .string ⟨ks[j].text.toArray⟩, .int .i64 ks[j].cols, .slice Ax ks[j].kids.length cx] 30)).cell 2 |>.trans rfl);have j0 := cR ((Blk.new wr 30 #[.int .i64 ks[j].kind, .string ⟨ks[j].text.toArray⟩, .int .i64 ks[j].cols, .slice Ax ks[j].kids.length cx]).cell 0 |>.trans rfl);have j1 := cR ((Blk.new wr 30 #[.int .i64 ks[j].kind, .string ⟨ks[j].text.toArray⟩, .int .i64 ks[j].cols, .slice Ax ks[j].kids.length cx]).cell 1 |>.trans rfl);have j2 := cR ((Blk.new wr 30 #[.int .i64 ks[j].kind, .string ⟨ks[j].text.toArray⟩, .int .i64 ks[j].cols, .slice Ax ks[j].kids.length cx]).cell 2 |>.trans rfl);have j3 := cR ((Blk.new wr 30 #[.int .i64 ks[j].kind, .string ⟨ks[j].text.toArray⟩, .int .i64 ks[j].cols, .slice Ax ks[j].kids.length cx]).cell 3 |>.trans rfl);have HG5 := hid (HG.out.fresh ((Touch.refl _ wr).alloc (.cells #[.int .i64 ks[j].kind, .string ⟨ks[j].text.toArray⟩, .int .i64 ks[j].cols, .slice Ax ks[j].kids.length cx] 30)));have HBE5 := hid (HBE.out.alloc (.cells #[.int .i64 ks[j].kind, .string ⟨ks[j].text.toArray⟩, .int .i64 ks[j].cols, .slice Ax ks[j].kids.length cx] 30));have HBR5 := hid (HBR.out.alloc (.cells #[.int .i64 ks[j].kind, .string ⟨ks[j].text.toArray⟩, .int .i64 ks[j].cols, .slice Ax ks[j].kids.length cx] 30));have HF5 := hid (HF.out.alloc (.cells #[.int .i64 ks[j].kind, .string ⟨ks[j].text.toArray⟩, .int .i64 ks[j].cols, .slice Ax ks[j].kids.length cx] 30));have HRX5 := hid (HRX.out.fresh ((Touch.refl _ wr).alloc (.cells #[.int .i64 ks[j].kind, .string ⟨ks[j].text.toArray⟩, .int .i64 ks[j].cols, .slice Ax ks[j].kids.length cx] 30)));generalize (wr.alloc (.cells #[.int .i64 ks[j].kind, .string ⟨ks[j].text.toArray⟩, .int .i64 ks[j].cols, .slice Ax ks[j].kids.length cx] 30)) = W5 at k0 j0 j1 j2 j3 HG5 HBE5 HBR5 HF5 HRX5 ⊢;obtain ⟨bx, hbx⟩ : ∃ b, b = wr.heap.size := ⟨_, rfl⟩;rw [← hbx] at j0 j1 j2 j3 ⊢;clear e0 e1 e2 e3 hgl hbx;refine wp_region_mix [([(0, true), (1, true), (2, true), (3, false), (4, false)], 5), ([(6, true)], 7)] [] (by kernel_rfl) (fun _ _ d _ _ h => by cases d <;> exact h) (by kernel_rfl) ?_;refine wpMix_seg ?_
   repeat (refine wpSeq_plain rfl (fun K hK => ?_); go_simp; refine hK _ ?_; clear hK K)
   clear k0 j0 j1 j2 j3;refine wpSeq_lone rfl (fun K hK => ?_);go_wp2_with fail
   refine (HIH.out ks[j] HMEM.out _ _ (by have := Tr.count_mem HMEM.out; omega) (HRX5.out.fresh ((Touch.refl _ _).drewN 1))).mono ?_;rintro _ w6 ⟨v6, rfl, va, vk, rfl, hf6, hst6⟩;have HF6 := hid (show Fresh W5 w6 from ((Touch.refl _ W5).drewN 1).trans hf6);have HST6 := hid (show Stab (fun k => k < W5.heap.size) w6 fun W => RepV W (elE ks[j]) va vk from hst6);obtain ⟨Aa, ca, rfl⟩ := hst6.now.1.slice;obtain ⟨Ak, ck, rfl⟩ := hst6.now.2.1.slice;clear hf6 hst6;go_wp2_with fail
   refine hK _ _ (growing_fresh HF6.out) ?_;clear hK K;refine wpSeq_lone rfl (fun K hK => ?_);go_wp2_with fail
   refine hK _ _ (growing_fresh (HF6.out.alloc _)) ?_;clear hK K;have HBV := hid (Blk.new w6 25 #[.string ⟨(elE ks[j]).name.toArray⟩, .slice Aa (elE ks[j]).attrs.length ca, .slice Ak (elE ks[j]).kids.length ck, .string ⟨(elE ks[j]).text.toArray⟩]);have HF7 := hid (HF6.out.alloc (.cells #[.string ⟨(elE ks[j]).name.toArray⟩, .slice Aa (elE ks[j]).attrs.length ca, .slice Ak (elE ks[j]).kids.length ck, .string ⟨(elE ks[j]).text.toArray⟩] 25));have HST7 := hid (HST6.out.fresh ((Touch.refl _ w6).alloc (.cells #[.string ⟨(elE ks[j]).name.toArray⟩, .slice Aa (elE ks[j]).attrs.length ca, .slice Ak (elE ks[j]).kids.length ck, .string ⟨(elE ks[j]).text.toArray⟩] 25)));generalize (w6.alloc (.cells #[.string ⟨(elE ks[j]).name.toArray⟩, .slice Aa (elE ks[j]).attrs.length ca, .slice Ak (elE ks[j]).kids.length ck, .string ⟨(elE ks[j]).text.toArray⟩] 25)) = w7 at HBV HF7 HST7 ⊢;have HG7 := hid (HG5.out.fresh HF7.out);have HOW := hid HG5.out.own_lt;have HBE7 := hid (HF7.out.blk HBE5.out fun h => h);have HBR7 := hid (HF7.out.blk HBR5.out fun h => h);have HB5 := hid HG5.out.base;refine wpSeq_shut rfl (fun K hK => ?_)
   go_wp2_with (at_builtin; go_loud (refine wpList_append_elem rfl (.tmp 18) (.tmp 21) rfl HG7.out HLN.out (by simp [Act.eval]) (elE ks[j]) HBV.out (by simp [Act.eval]) W5.heap.size HB5.out (fun k hk => (HOW.out k hk).2) HST7.out (by omega) ?_); intro A8 c8 w8 hg8 ht8 _; refine Stay.mk ?_)
   have HG8 := hid hg8;have HBE8 := hid (ht8.blk HBE7.out fun h => by have := (HOW.out _ h).1; omega);have HBR8 := hid (ht8.blk HBR7.out fun h => by have := (HOW.out _ h).1; omega);have HF8 := hid (show Fresh w w8 from (HF5.out.trans HF7.out).trans' ht8 fun k hk => .inr (by have := (HOW.out _ hk).1; omega));clear hg8 ht8;obtain ⟨q0, q1, q2, q3, z0, z1, z2, z3, hlt⟩ := Blk.four HBE8.out;refine Stay.go ?_;go_wp2_with fail
   refine wpMix_seg ?_
   repeat (refine wpSeq_plain rfl (fun K hK => ?_); go_simp; refine hK _ ?_; clear hK K)
   refine wpSeq_shut rfl (fun K hK => ?_);go_wp2_with fail
   refine wpMix_end ?_;go_wp2_with fail
   have hg9 := HG8.out.mv ((Touch.refl (fun k => k = (w.heap.size + 1 + 1)) w8).setCell (p := ⟨(w.heap.size + 1 + 1), 2, none⟩) (.inl rfl) (.slice A8 (j + 1) c8)) (fun k hk _ => by omega);rw [elK_take ks j c1] at hg9;exact ⟨⟨j + 1, A8, c8, by simp, by omega, HBR8.out.far (p := ⟨(w.heap.size + 1 + 1), 2, none⟩) (by simp) _, HBE8.out.put 2 _, hg9, HF8.out.setCell (p := ⟨(w.heap.size + 1 + 1), 2, none⟩) (.inr (by show w.heap.size ≤ (w.heap.size + 1 + 1); omega)) _⟩, by simp [intOf]; omega⟩
  ·have d1 : decide ((j : Int) < (ks.length : Int)) = false := dF (by omega)
   have d1n : decide (j < ks.length) = false := dF c1;obtain rfl : j = ks.length := by omega
   obtain ⟨q0, q1, q2, q3, _, _, _, _, hlt⟩ := Blk.four HBE.out;obtain ⟨p0, p1, p2, p3, y0, y1, y2, y3, hlp⟩ := Blk.four HBR.out;have hg9 := HG.out.mv ((Touch.refl (fun k => k = (w.heap.size + 1)) wr).put4 (.inl rfl) (.string ⟨nm.toArray⟩) (.slice none 0 0) (.slice Ae ks.length ce) (.string ⟨#[]⟩)) (fun k hk _ => by omega);rw [List.take_of_length_le (by rw [elK_len]; exact Nat.le_refl _)] at hg9;have HG9 := hid hg9;obtain ⟨r0, r1, r2, r3, _, _, _, _, _⟩ := Blk.four (HBR.out.self4 (.string ⟨nm.toArray⟩) (.slice none 0 0) (.slice Ae ks.length ce) (.string ⟨#[]⟩));simp only [put4] at r0 r1 r2 r3;clear hg9;go_wp2_with fail
   refine bodyPost_ret (v := .agg #[.string ⟨nm.toArray⟩, .slice none 0 0, .slice Ae ks.length ce, .string ⟨#[]⟩]) (by simp [results, Tryz.results36, go_sem, r0, r1, r2, r3]) rfl ?_;refine ⟨_, rfl, .slice none 0 0, .slice Ae ks.length ce, rfl, Touch.put4 HF.out (.inr (by omega)) _ _ _ _, ?_⟩;exact (HG9.out.done.mono fun i _ hi => by omega).imp fun W hW => ⟨RepA.nil _ _ _, hW, HNM.out, Nat.zero_le _⟩
theorem mkrows_any (ks0 : List Nd) (ih : ∀ x ∈ ks0, RowC x) : RowsC ks0 := by
 intro nm sl w hnm hcl hsl;obtain ⟨A, cap, rfl⟩ := hsl.slice;have HSL := hid hsl;have HIH := hid ih;have HNM := hid hnm;have hkl := Tr.countL_len ks0;generalize hks : ks0 = ks at *;have HKS := hid hks;clear hsl ih hnm hks;go_enter Tryz.func89, Tryz.ntmps89;go_wp2_with fail
 refine forget_world (fun W => Fresh w W ∧ W.heap.size = w.heap.size + 2 ∧ Blk W w.heap.size 25 #[.string ⟨#[]⟩, .slice none 0 0, .slice none 0 0, .string ⟨#[]⟩] ∧ Blk W (w.heap.size + 1) 25 #[.string ⟨nm.toArray⟩, .slice none 0 0, .slice none 0 0, .string ⟨#[]⟩]) ⟨((Touch.refl _ _).alloc _).alloc _, by simp, (Blk.new w 25 _).alloc _, Blk.new2 w _ 25 _⟩ ?_;rintro W1 ⟨hf1, hs1, hbr1, hbe1⟩;have HF1 := hid hf1;have HBR1 := hid hbr1;have HBE1 := hid hbe1;have HS1 := hid hs1;have HG1 := hid (show GrowE (w.heap.size + 2) W1 ((rowsE El.nMrow ks).take 0) (.slice none 0 0) by rw [List.take_zero]; exact GrowE.nil (by omega));clear hf1 hbr1 hbe1 hs1
 go_loopw [12] (fun i wr => ∃ (j : Nat) (Ae : Option Addr) (ce : Nat), i = .int .i64 j ∧ j ≤ ks.length ∧ Hid (Blk wr w.heap.size 25 #[.string ⟨#[]⟩, .slice none 0 0, .slice none 0 0, .string ⟨#[]⟩]) ∧ Hid (Blk wr (w.heap.size + 1) 25 #[.string ⟨nm.toArray⟩, .slice none 0 0, .slice Ae j ce, .string ⟨#[]⟩]) ∧ Hid (GrowE (w.heap.size + 2) wr ((rowsE El.nMrow ks).take j) (.slice Ae j ce)) ∧ Hid (Fresh w wr)) (fun i _ => ks.length - (intOf i).toNat)
 case atStart => exact ⟨0, none, 0, rfl, Nat.zero_le _, HBR1, HBE1, HG1, HF1⟩
 case round =>
  obtain ⟨j, Ae, ce, rfl, hj, HBR, HBE, HG, HF⟩ := hrel;rename_i wr _
  by_cases c1 : j < ks.length
  ·have d1 : decide ((j : Int) < (ks.length : Int)) = true := dT (by omega)
   have d1n : decide (j < ks.length) = true := dT c1;have d1' : (j : Int) < (ks.length : Int) := by omega
   obtain ⟨g, o, sx, hA, hg, m0, m1, m2, m3, hrx⟩ := HSL.out.get j c1;cases hA;obtain ⟨Ax, cx, rfl⟩ := hrx.slice;have e0 := HF.out.cell m0 (fun h => h);have e1 := HF.out.cell m1 (fun h => h);have e2 := HF.out.cell m2 (fun h => h);have e3 := HF.out.cell m3 (fun h => h);have hgl : g < wr.heap.size := Nat.lt_of_lt_of_le hg HF.out.size;have HRX := hid (hrx.fresh HF.out);have HMEM := hid (List.getElem_mem c1);have HLN := hid (show ((rowsE El.nMrow ks).take j).length = j by rw [List.length_take, rowsE_len]; omega);clear m0 m1 m2 m3 hg hrx;go_wp2_with fail
   have k0 := cR ((HBE.out.alloc (.cells #[.int .i64 ks[j].kind, .string ⟨ks[j].text.toArray⟩, .int .i64 ks[j].cols, .slice Ax ks[j].kids.length cx] 30)).cell 2 |>.trans rfl);have j0 := cR ((Blk.new wr 30 #[.int .i64 ks[j].kind, .string ⟨ks[j].text.toArray⟩, .int .i64 ks[j].cols, .slice Ax ks[j].kids.length cx]).cell 0 |>.trans rfl);have j1 := cR ((Blk.new wr 30 #[.int .i64 ks[j].kind, .string ⟨ks[j].text.toArray⟩, .int .i64 ks[j].cols, .slice Ax ks[j].kids.length cx]).cell 1 |>.trans rfl);have j2 := cR ((Blk.new wr 30 #[.int .i64 ks[j].kind, .string ⟨ks[j].text.toArray⟩, .int .i64 ks[j].cols, .slice Ax ks[j].kids.length cx]).cell 2 |>.trans rfl);have j3 := cR ((Blk.new wr 30 #[.int .i64 ks[j].kind, .string ⟨ks[j].text.toArray⟩, .int .i64 ks[j].cols, .slice Ax ks[j].kids.length cx]).cell 3 |>.trans rfl);have HG5 := hid (HG.out.fresh ((Touch.refl _ wr).alloc (.cells #[.int .i64 ks[j].kind, .string ⟨ks[j].text.toArray⟩, .int .i64 ks[j].cols, .slice Ax ks[j].kids.length cx] 30)));have HBE5 := hid (HBE.out.alloc (.cells #[.int .i64 ks[j].kind, .string ⟨ks[j].text.toArray⟩, .int .i64 ks[j].cols, .slice Ax ks[j].kids.length cx] 30));have HBR5 := hid (HBR.out.alloc (.cells #[.int .i64 ks[j].kind, .string ⟨ks[j].text.toArray⟩, .int .i64 ks[j].cols, .slice Ax ks[j].kids.length cx] 30));have HF5 := hid (HF.out.alloc (.cells #[.int .i64 ks[j].kind, .string ⟨ks[j].text.toArray⟩, .int .i64 ks[j].cols, .slice Ax ks[j].kids.length cx] 30));have HRX5 := hid (HRX.out.fresh ((Touch.refl _ wr).alloc (.cells #[.int .i64 ks[j].kind, .string ⟨ks[j].text.toArray⟩, .int .i64 ks[j].cols, .slice Ax ks[j].kids.length cx] 30)));generalize (wr.alloc (.cells #[.int .i64 ks[j].kind, .string ⟨ks[j].text.toArray⟩, .int .i64 ks[j].cols, .slice Ax ks[j].kids.length cx] 30)) = W5 at k0 j0 j1 j2 j3 HG5 HBE5 HBR5 HF5 HRX5 ⊢;obtain ⟨bx, hbx⟩ : ∃ b, b = wr.heap.size := ⟨_, rfl⟩;rw [← hbx] at j0 j1 j2 j3 ⊢;clear e0 e1 e2 e3 hgl hbx;refine wp_region_mix [([(0, true), (1, true), (2, true), (3, false), (4, false)], 5), ([(6, true)], 7)] [] (by kernel_rfl) (fun _ _ d _ _ h => by cases d <;> exact h) (by kernel_rfl) ?_;refine wpMix_seg ?_
   repeat (refine wpSeq_plain rfl (fun K hK => ?_); go_simp; refine hK _ ?_; clear hK K)
   clear k0 j0 j1 j2 j3;refine wpSeq_lone rfl (fun K hK => ?_);go_wp2_with fail
   refine (HIH.out ks[j] HMEM.out El.nMrow _ _ (by decide) (by have := Tr.count_mem HMEM.out; omega) (HRX5.out.fresh ((Touch.refl _ _).drewN 1))).mono ?_;rintro _ w6 ⟨v6, rfl, va, vk, rfl, hf6, hst6⟩;have HF6 := hid (show Fresh W5 w6 from ((Touch.refl _ W5).drewN 1).trans hf6);have HST6 := hid (show Stab (fun k => k < W5.heap.size) w6 fun W => RepV W (mrow El.nMrow (elK ks[j].kids)) va vk from hst6);obtain ⟨Aa, ca, rfl⟩ := hst6.now.1.slice;obtain ⟨Ak, ck, rfl⟩ := hst6.now.2.1.slice;clear hf6 hst6;go_wp2_with fail
   refine hK _ _ (growing_fresh HF6.out) ?_;clear hK K;refine wpSeq_lone rfl (fun K hK => ?_);go_wp2_with fail
   refine hK _ _ (growing_fresh (HF6.out.alloc _)) ?_;clear hK K;have HBV := hid (Blk.new w6 25 #[.string ⟨(mrow El.nMrow (elK ks[j].kids)).name.toArray⟩, .slice Aa (mrow El.nMrow (elK ks[j].kids)).attrs.length ca, .slice Ak (mrow El.nMrow (elK ks[j].kids)).kids.length ck, .string ⟨(mrow El.nMrow (elK ks[j].kids)).text.toArray⟩]);have HF7 := hid (HF6.out.alloc (.cells #[.string ⟨(mrow El.nMrow (elK ks[j].kids)).name.toArray⟩, .slice Aa (mrow El.nMrow (elK ks[j].kids)).attrs.length ca, .slice Ak (mrow El.nMrow (elK ks[j].kids)).kids.length ck, .string ⟨(mrow El.nMrow (elK ks[j].kids)).text.toArray⟩] 25));have HST7 := hid (HST6.out.fresh ((Touch.refl _ w6).alloc (.cells #[.string ⟨(mrow El.nMrow (elK ks[j].kids)).name.toArray⟩, .slice Aa (mrow El.nMrow (elK ks[j].kids)).attrs.length ca, .slice Ak (mrow El.nMrow (elK ks[j].kids)).kids.length ck, .string ⟨(mrow El.nMrow (elK ks[j].kids)).text.toArray⟩] 25)));generalize (w6.alloc (.cells #[.string ⟨(mrow El.nMrow (elK ks[j].kids)).name.toArray⟩, .slice Aa (mrow El.nMrow (elK ks[j].kids)).attrs.length ca, .slice Ak (mrow El.nMrow (elK ks[j].kids)).kids.length ck, .string ⟨(mrow El.nMrow (elK ks[j].kids)).text.toArray⟩] 25)) = w7 at HBV HF7 HST7 ⊢;have HG7 := hid (HG5.out.fresh HF7.out);have HOW := hid HG5.out.own_lt;have HBE7 := hid (HF7.out.blk HBE5.out fun h => h);have HBR7 := hid (HF7.out.blk HBR5.out fun h => h);have HB5 := hid HG5.out.base;refine wpSeq_shut rfl (fun K hK => ?_)
   go_wp2_with (at_builtin; go_loud (refine wpList_append_elem rfl (.tmp 17) (.tmp 20) rfl HG7.out HLN.out (by simp [Act.eval]) (mrow El.nMrow (elK ks[j].kids)) HBV.out (by simp [Act.eval]) W5.heap.size HB5.out (fun k hk => (HOW.out k hk).2) HST7.out (by omega) ?_); intro A8 c8 w8 hg8 ht8 _; refine Stay.mk ?_)
   have HG8 := hid hg8;have HBE8 := hid (ht8.blk HBE7.out fun h => by have := (HOW.out _ h).1; omega);have HBR8 := hid (ht8.blk HBR7.out fun h => by have := (HOW.out _ h).1; omega);have HF8 := hid (show Fresh w w8 from (HF5.out.trans HF7.out).trans' ht8 fun k hk => .inr (by have := (HOW.out _ hk).1; omega));clear hg8 ht8;obtain ⟨q0, q1, q2, q3, z0, z1, z2, z3, hlt⟩ := Blk.four HBE8.out;refine Stay.go ?_;go_wp2_with fail
   refine wpMix_seg ?_
   repeat (refine wpSeq_plain rfl (fun K hK => ?_); go_simp; refine hK _ ?_; clear hK K)
   refine wpSeq_shut rfl (fun K hK => ?_);go_wp2_with fail
   refine wpMix_end ?_;go_wp2_with fail
   have hg9 := HG8.out.mv ((Touch.refl (fun k => k = (w.heap.size + 1)) w8).setCell (p := ⟨(w.heap.size + 1), 2, none⟩) (.inl rfl) (.slice A8 (j + 1) c8)) (fun k hk _ => by omega);rw [rowsE_take El.nMrow ks j c1] at hg9;exact ⟨⟨j + 1, A8, c8, by simp, by omega, HBR8.out.far (p := ⟨(w.heap.size + 1), 2, none⟩) (by simp) _, HBE8.out.put 2 _, hg9, HF8.out.setCell (p := ⟨(w.heap.size + 1), 2, none⟩) (.inr (by show w.heap.size ≤ (w.heap.size + 1); omega)) _⟩, by simp [intOf]; omega⟩
  ·have d1 : decide ((j : Int) < (ks.length : Int)) = false := dF (by omega)
   have d1n : decide (j < ks.length) = false := dF c1;obtain rfl : j = ks.length := by omega
   obtain ⟨q0, q1, q2, q3, _, _, _, _, hlt⟩ := Blk.four HBE.out;obtain ⟨p0, p1, p2, p3, y0, y1, y2, y3, hlp⟩ := Blk.four HBR.out;have hg9 := HG.out.mv ((Touch.refl (fun k => k = w.heap.size) wr).put4 (.inl rfl) (.string ⟨nm.toArray⟩) (.slice none 0 0) (.slice Ae ks.length ce) (.string ⟨#[]⟩)) (fun k hk _ => by omega);rw [List.take_of_length_le (by rw [rowsE_len]; exact Nat.le_refl _)] at hg9;have HG9 := hid hg9;obtain ⟨r0, r1, r2, r3, _, _, _, _, _⟩ := Blk.four (HBR.out.self4 (.string ⟨nm.toArray⟩) (.slice none 0 0) (.slice Ae ks.length ce) (.string ⟨#[]⟩));simp only [put4] at r0 r1 r2 r3;clear hg9;go_wp2_with fail
   refine bodyPost_ret (v := .agg #[.string ⟨nm.toArray⟩, .slice none 0 0, .slice Ae ks.length ce, .string ⟨#[]⟩]) (by simp [results, Tryz.results89, go_sem, r0, r1, r2, r3]) rfl ?_;refine ⟨_, rfl, .slice none 0 0, .slice Ae ks.length ce, rfl, Touch.put4 HF.out (.inr (by omega)) _ _ _ _, ?_⟩;exact (HG9.out.done.mono fun i _ hi => by omega).imp fun W hW => ⟨RepA.nil _ _ _, hW, HNM.out, Nat.zero_le _⟩
end Go.Proofs.YtfnjcldgicohaaaGreat
namespace Go.Proofs.YtfnjcldgicohaaaGreat
open Go.RowKit
theorem wp_region_plan2 {P : Program} {Q : Exit → Act → World → Prop} {id : Nat} {a : Act} {w : World} {l : List Oper} (p : Plan) (ns : List Nat) (t : Nat) (fin : Array Bool) (C2 : World → Prop) (p2 : Plan) (ns2 : List Nat) (fin2 : Array Bool) (hm : P.follows .mixedOrders = true) (hQ : ∀ c a d v w, Q (.panic c) (Act.put a d v) w → Q (.panic c) a w)
  (hB : (Region.noSelect l.toArray && decide (p.len + (p2.len + 1) = l.toArray.size) && p.within ns && planB .any l.toArray fin p (Array.replicate l.toArray.size false) && shutB .any l.toArray ns (some t) (Array.replicate l.toArray.size false) &&
   decide (Region.ready .any l.toArray fin = [t]) && !ns.contains t && p2.within ns2 && planB .any l.toArray fin2 p2 (fin.setIfInBounds t true) && shutB .any l.toArray ns2 none (fin.setIfInBounds t true) && (Region.ready .any l.toArray fin2).isEmpty) = true)
  (h : wpPlan P l Q (fun w' => ∃ p : Regrown, w' = Go.Sort.grow (redrawn w p.d) p.os) (fun a' w' => wpList P l.toArray (Exit.then (fun a'' w'' => C2 w'' ∧ wpPlan P l Q C2 (fun a3 w3 => Q .normal a3 w3) p2 a'' w'') Q) (pick l [t]) a' w') p a (w.drewN 1)) : (Code.region id l.toArray true).wp P Q a w := by
 simp only [Bool.and_eq_true, decide_eq_true_eq, Bool.not_eq_true', List.isEmpty_iff] at hB;obtain ⟨⟨⟨⟨⟨⟨⟨⟨⟨⟨hsel, hn⟩, hin⟩, hp⟩, hs⟩, hr⟩, ht⟩, hin2⟩, hp2⟩, hs2⟩, hr2⟩ := hB;refine wp_region_any hm ?_;rw [← hn];rw [← hn] at hp hs
 have hz : ZInv .any l.toArray ns (Array.replicate (p.len + (p2.len + 1)) false) (Array.replicate (p.len + (p2.len + 1)) false) :=
  ⟨⟨by simp [hn], fun j oj _ hl => by rw [getD_repl] at hl; cases hl⟩, fun _ h => h, fun _ h => .inl h⟩
 have hz' := plan_inv p _ hin hz hp;have htr : t ∈ Region.ready .any l.toArray fin := by rw [hr]; simp
 have htn : t ∉ ns := by
  intro hx;rw [List.contains_iff_mem.2 hx] at ht;cases ht
 obtain ⟨_, ot, hot, _⟩ := mem_ready.1 htr;have := wpAnyU_plan (P := P) (Q := Q) (fin := fin) hsel hQ hs (by rw [hr]; intro j hj; rw [List.mem_singleton.1 hj]; exact htn) p _ a (w.drewN 1) hin hz hp (Growing.drew w) h;refine wpAny_of_U (g := p2.len + 1) (fun listed' a' w' _ hL => ?_) p.len _ a _ (Growing.drew w) this;refine wpAny_all (rs := [t]) (by rw [hL.1]; exact hr) (by simp) (fun i hi => ?_);rw [List.mem_singleton.1 hi, hL.1];refine wpOp_mono (fun a'' w'' h'' => ?_) (wpOp_of_single hot hL.2);have hz2 : ZInv .any l.toArray ns2 (fin.setIfInBounds t true) (fin.setIfInBounds t true) := ⟨hz'.closed.put htr, fun _ h => h, fun _ h => .inl h⟩;have h2 := wpAnyU_plan (P := P) (Q := Q) (fin := fin2) hsel hQ hs2 (by rw [hr2]; simp) p2 _ a'' w'' hin2 hz2 hp2 h''.1 h''.2;exact wpAny_of_U (g := 0) (fun listed' a' w' _ hL => wpAny_done (by rw [hL.1]; exact hr2) hL.2 0) p2.len _ a'' _ h''.1 h2
theorem wpPlan_shut2 {P : Program} {Q : Exit → Act → World → Prop} {C C2 : World → Prop} {L2 : Act → World → Prop} {p2 : Plan} {l : List Oper} {t : Nat} {o : Oper} {a : Act} {w : World} (ho : l[t]? = some o)
  (h : ∀ K : Act → World → Prop, (∀ a w, C2 w → wpPlan P l Q C2 L2 p2 a w → K a w) → wpList P l.toArray (Exit.then K Q) [o] a w) : wpPlan P l Q C (fun a' w' => wpList P l.toArray (Exit.then (fun a'' w'' => C2 w'' ∧ wpPlan P l Q C2 L2 p2 a'' w'') Q) (pick l [t]) a' w') .nil a w := by
 unfold wpPlan;have hp : pick l [t] = [o] := by simp [pick, ho]
 rw [hp];exact h _ (fun _ _ h1 h2 => ⟨h1, h2⟩)
end Go.Proofs.YtfnjcldgicohaaaGreat
namespace Go.Proofs.YtfnjcldgicohaaaGreat
open Go.RowKit
open Tr (Nd)
open El (E mrow nMtr)
def TabSt (B : Nat) (w : World) (vo : Value) (L r : List E) (B2 : Nat) (v2 : Value) (cs0 : List Value) : Prop := B ≤ B2 ∧ (∀ k, vo.ownBlock = some k → k < B2) ∧
 w.ownsRow B 25 4 vo (L.length + 1) (cs0 ++ [.string ⟨nMtr.toArray⟩, .slice none 0 0, v2, .string ⟨#[]⟩]) ∧ Stab (fun k => vo.ownBlock = some k ∨ k < B ∨ B2 ≤ k) w (fun W => ElsAt W L cs0) ∧ GrowE B2 w r v2
theorem TabSt.grow {B : Nat} {w : World} {vo : Value} {L r : List E} {B2 : Nat} {v2 : Value} {cs0 : List Value} (h : TabSt B w vo L r B2 v2 cs0) : GrowE B w (L ++ [mrow nMtr r]) vo := by
 obtain ⟨h1, h2, h3, h4, h5⟩ := h;refine ⟨Nat.le_trans h1 h5.base, _, by rw [List.length_append]; exact h3, ?_⟩;refine ((h4.mono fun i _ hi => hi.imp id .inl).and (h5.done.mono fun i _ hi => ?_)).imp fun W ⟨g1, g2⟩ => g1.append (ElsAt.one (e := mrow nMtr r) ⟨RepA.nil _ _ _, g2, show nMtr.length ≤ maxLen by decide, Nat.zero_le _⟩)
 rcases hi with hi | hi
 ·exact h2 i hi
 ·omega
theorem TabSt.mv {B : Nat} {w w1 : World} {vo : Value} {L r : List E} {B2 : Nat} {v2 : Value} {cs0 : List Value} {S : Nat → Prop} (h : TabSt B w vo L r B2 v2 cs0) (ht : Touch S w w1) (hS : ∀ k, S k → k < w.heap.size → k < B) : TabSt B w1 vo L r B2 v2 cs0 := by
 obtain ⟨h1, h2, h3, h4, h5⟩ := h;refine ⟨h1, h2, ownsRow_touch h3 ht fun k hk hs => ?_, h4.step ht (fun i hi hs => .inr (.inl (hS i hs hi))) (fun _ _ h => h), h5.mv ht fun k hk hl => Nat.lt_of_lt_of_le (hS k hk hl) h1⟩;have h6 := h3.lt k hk;have := hS k hs h6.2;omega
theorem TabSt.fresh {B : Nat} {w w1 : World} {vo : Value} {L r : List E} {B2 : Nat} {v2 : Value} {cs0 : List Value} (h : TabSt B w vo L r B2 v2 cs0) (ht : Fresh w w1) : TabSt B w1 vo L r B2 v2 cs0 := h.mv ht fun _ h => h.elim
theorem TabSt.len {B : Nat} {w : World} {vo : Value} {L r : List E} {B2 : Nat} {v2 : Value} {cs0 : List Value} (h : TabSt B w vo L r B2 v2 cs0) : cs0.length = L.length * 4 := by
 have := h.2.2.1.1;rw [List.length_append] at this;simp only [List.length_cons, List.length_nil] at this;omega
theorem TabSt.last {B n : Nat} {w : World} {vo : Value} {L r : List E} {B2 : Nat} {v2 : Value} {cs0 : List Value} (h : TabSt B w vo L r B2 v2 cs0) (hn : L.length = n) : ∃ g cap, vo = .slice (some ⟨g, 0, none⟩) (n + 1) cap ∧ B ≤ g ∧ g < w.heap.size ∧ w.cell? ⟨g, n * 4 + 2, none⟩ = some v2 ∧ w.frozen? ⟨g, n * 4 + 2, none⟩ = false := by
 subst hn;have hl := h.len;obtain ⟨_, _, h3, _⟩ := h
 obtain ⟨g, cap, rfl, hb⟩ : ∃ g cap, vo = .slice (some ⟨g, 0, none⟩) (L.length + 1) cap ∧ B ≤ g := by
  rcases h3.2 with ⟨_, h0⟩ | ⟨g, cap, cur, e, hb, _⟩
  ·omega
  ·exact ⟨g, cap, e, hb⟩
 have h4 := h3.cellAt (L.length * 4 + 2) (by omega);refine ⟨g, cap, rfl, hb, (h3.lt g rfl).2, ?_, h3.frozenAt _⟩;rw [h4, List.getElem?_append_right (by omega), show L.length * 4 + 2 - cs0.length = 2 by omega];rfl
theorem TabSt.push {B : Nat} {w5 w7 w8 W : World} {vo : Value} {L r : List E} {B2 : Nat} {v2 v2' va vk : Value} {cs0 cs2 : List Value} {e : E} {g g2 : Nat} (h : TabSt B w5 vo L r B2 v2 cs0) (hi : w5.ownsRow B2 25 4 v2 r.length cs2) (hsi : Stab (fun k => v2.ownBlock = some k ∨ k < B2) w5 fun W => ElsAt W r cs2)
  (h57 : Fresh w5 w7) (hrv : Stab (fun k => k < w5.heap.size) w7 fun W => RepV W e va vk) (ht : Touch (fun k => v2.ownBlock = some k) w7 w8) (hv : v2'.ownBlock = v2.ownBlock ∨ v2'.ownBlock = some w7.heap.size)
  (hvo : vo.ownBlock = some g) (hv2 : v2'.ownBlock = some g2) (hW : Touch (fun k => k = g2 ∨ k = g) w8 W) (h9 : W.ownsRow B2 25 4 v2' (r.length + 1) (cs2 ++ [.string ⟨e.name.toArray⟩, va, vk, .string ⟨e.text.toArray⟩]))
  (h10 : W.ownsRow B 25 4 vo (L.length + 1) (cs0 ++ [.string ⟨nMtr.toArray⟩, .slice none 0 0, v2', .string ⟨#[]⟩])) : TabSt B W vo L (r ++ [e]) B2 v2' cs0 := by
 obtain ⟨h1, h2, h3, h4, h5⟩ := h;have hg := h2 g hvo;have hB5 := h5.base;have hl2 : ∀ k, v2.ownBlock = some k → B2 ≤ k ∧ k < w5.heap.size := fun k hk => hi.lt k hk
 have hg2 : ∀ i, i < w7.heap.size → i = g2 → v2.ownBlock = some i := fun i hi he => by
  subst he
  rcases hv with hv | hv <;> rw [hv2] at hv
  ·exact hv.symm
  ·cases hv; omega
 have hsz := h57.size;refine ⟨h1, h2, h10, ?_, ?_⟩
 ·refine (((h4.fresh h57).step (S2 := fun k => vo.ownBlock = some k ∨ k < B ∨ B2 ≤ k) ht (fun i hi hs => .inr (.inr (hl2 i hs).1)) (fun _ _ h => h)).step hW (fun i hi hs => ?_) (fun _ _ h => h))
  rcases hs with hs | hs
  ·rcases Nat.lt_or_ge i w7.heap.size with h6 | h6
   ·exact .inr (.inr (hl2 i (hg2 i h6 hs)).1)
   ·exact .inr (.inr (by omega))
  ·subst hs; exact .inl hvo
 ·refine ⟨Nat.le_trans (Nat.le_trans hB5 hsz) (Nat.le_trans ht.size hW.size), _, by rw [List.length_append]; exact h9, ?_⟩
  have e1 : ∀ i, i < w7.heap.size → (v2'.ownBlock = some i ∨ i < B2) → (v2.ownBlock = some i ∨ i < B2) := fun i hi hs => by
   rcases hs with hs | hs
   ·rcases hv with h6 | h6 <;> rw [h6] at hs
    ·exact .inl hs
    ·cases hs; omega
   ·exact .inr hs
  have hT : ∀ W', Touch (fun k => v2'.ownBlock = some k ∨ k < B2) W W' → Touch (fun k => v2.ownBlock = some k ∨ k < B2) w7 W' := fun W' hW' => by
   have a1 : Touch (fun k => v2.ownBlock = some k ∨ k < B2) w7 W := ht.join hW (fun i _ hs => .inl hs) fun i hi hs => by
    rcases hs with hs | hs
    ·exact .inl (hg2 i hi hs)
    ·subst hs; exact .inr hg
   exact a1.join hW' (fun _ _ h => h) e1
  intro W' hW';have a2 := hT W' hW';refine ElsAt.append ((hsi.fresh h57) W' a2) (ElsAt.one (hrv W' (a2.mono fun i hs => ?_)))
  rcases hs with hs | hs
  ·exact (hl2 i hs).2
  ·omega
theorem own_put4 {w : World} {B t g n cap : Nat} {xs : List Value} {z0 z1 z2 z3 : Value} (h : w.ownsRow B t 4 (.slice (some ⟨g, 0, none⟩) (n + 1) cap) (n + 1) (xs ++ [z0, z1, z2, z3])) (y0 y1 y2 y3 : Value) :
  ((((w.setCell ⟨g, n * 4, none⟩ y0).setCell ⟨g, n * 4 + 1, none⟩ y1).setCell ⟨g, n * 4 + 2, none⟩ y2).setCell ⟨g, n * 4 + 3, none⟩ y3).ownsRow B t 4 (.slice (some ⟨g, 0, none⟩) (n + 1) cap) (n + 1) (xs ++ [y0, y1, y2, y3]) := by
 have hl : xs.length = n * 4 := by have := h.1; rw [List.length_append] at this; simp only [List.length_cons, List.length_nil] at this; omega
 have h1 := (((((h.stored (n * 4) y0).1.stored (n * 4 + 1) y1).1).stored (n * 4 + 2) y2).1.stored (n * 4 + 3) y3).1
 have e : ((((xs ++ [z0, z1, z2, z3]).set (n * 4) y0).set (n * 4 + 1) y1).set (n * 4 + 2) y2).set (n * 4 + 3) y3 = xs ++ [y0, y1, y2, y3] := by
  rw [List.set_append_right _ _ (by omega), List.set_append_right _ _ (by omega), List.set_append_right _ _ (by omega), List.set_append_right _ _ (by omega), show n * 4 - xs.length = 0 by omega, show n * 4 + 1 - xs.length = 1 by omega, show n * 4 + 2 - xs.length = 2 by omega, show n * 4 + 3 - xs.length = 3 by omega];rfl
 rw [e] at h1;exact h1
theorem own_put_kids {w : World} {B t g n cap : Nat} {xs : List Value} {z0 z1 z2 z3 : Value} (h : w.ownsRow B t 4 (.slice (some ⟨g, 0, none⟩) (n + 1) cap) (n + 1) (xs ++ [z0, z1, z2, z3])) (y : Value) :
  (w.setCell ⟨g, n * 4 + 2, none⟩ y).ownsRow B t 4 (.slice (some ⟨g, 0, none⟩) (n + 1) cap) (n + 1) (xs ++ [z0, z1, y, z3]) := by
 have hl : xs.length = n * 4 := by have := h.1; rw [List.length_append] at this; simp only [List.length_cons, List.length_nil] at this; omega
 have h1 := (h.stored (n * 4 + 2) y).1
 have e : (xs ++ [z0, z1, z2, z3]).set (n * 4 + 2) y = xs ++ [z0, z1, y, z3] := by
  rw [List.set_append_right _ _ (by omega), show n * 4 + 2 - xs.length = 2 by omega];rfl
 rw [e] at h1;exact h1
def putAt4 (w : World) (g o : Nat) (x0 x1 x2 x3 : Value) : World := (((w.setCell ⟨g, o, none⟩ x0).setCell ⟨g, o + 1, none⟩ x1).setCell ⟨g, o + 2, none⟩ x2).setCell ⟨g, o + 3, none⟩ x3
theorem touchAt4 (w : World) (g o : Nat) (x0 x1 x2 x3 : Value) : Touch (fun k => k = g) w (putAt4 w g o x0 x1 x2 x3) :=
 ((((Touch.refl (fun k => k = g) w).setCell (p := ⟨g, o, none⟩) (.inl rfl) _).setCell (p := ⟨g, o + 1, none⟩) (.inl rfl) _).setCell (p := ⟨g, o + 2, none⟩) (.inl rfl) _).setCell (p := ⟨g, o + 3, none⟩) (.inl rfl) _
theorem touch1 (w : World) (g o : Nat) (x : Value) : Touch (fun k => k = g) w (w.setCell ⟨g, o, none⟩ x) := (Touch.refl (fun k => k = g) w).setCell (p := ⟨g, o, none⟩) (.inl rfl) _
theorem TabSt.stores {B n : Nat} {w5 w7 w8 : World} {L r : List E} {B2 : Nat} {v2 va vk z0 z1 z2 z3 : Value} {cs0 cs2 : List Value} {e : E} {g c g2 c2 : Nat} (h : TabSt B w5 (.slice (some ⟨g, 0, none⟩) (n + 1) c) L r B2 v2 cs0) (hn : L.length = n) (hi : w5.ownsRow B2 25 4 v2 r.length cs2) (hsi : Stab (fun k => v2.ownBlock = some k ∨ k < B2) w5 fun W => ElsAt W r cs2)
  (h57 : Fresh w5 w7) (hrv : Stab (fun k => k < w5.heap.size) w7 fun W => RepV W e va vk) (h8 : w8.ownsRow B2 25 4 (.slice (some ⟨g2, 0, none⟩) (r.length + 1) c2) (r.length + 1) (cs2 ++ [z0, z1, z2, z3])) (ht : Touch (fun k => v2.ownBlock = some k) w7 w8) (hv : (Value.slice (some ⟨g2, 0, none⟩) (r.length + 1) c2).ownBlock = v2.ownBlock ∨ (Value.slice (some ⟨g2, 0, none⟩) (r.length + 1) c2).ownBlock = some w7.heap.size) :
  TabSt B ((putAt4 w8 g2 (r.length * 4) (.string ⟨e.name.toArray⟩) va vk (.string ⟨e.text.toArray⟩)).setCell ⟨g, n * 4 + 2, none⟩ (.slice (some ⟨g2, 0, none⟩) (r.length + 1) c2)) (.slice (some ⟨g, 0, none⟩) (n + 1) c) L (r ++ [e]) B2 (.slice (some ⟨g2, 0, none⟩) (r.length + 1) c2) cs0 ∧
  TabSt B (putAt4 (w8.setCell ⟨g, n * 4 + 2, none⟩ (.slice (some ⟨g2, 0, none⟩) (r.length + 1) c2)) g2 (r.length * 4) (.string ⟨e.name.toArray⟩) va vk (.string ⟨e.text.toArray⟩)) (.slice (some ⟨g, 0, none⟩) (n + 1) c) L (r ++ [e]) B2 (.slice (some ⟨g2, 0, none⟩) (r.length + 1) c2) cs0 := by
 subst hn;have hg : g < B2 := h.2.1 g rfl;have hg2 : B2 ≤ g2 := (h8.lt g2 rfl).1
 have ho : w8.ownsRow B 25 4 (.slice (some ⟨g, 0, none⟩) (L.length + 1) c) (L.length + 1) (cs0 ++ [.string ⟨nMtr.toArray⟩, .slice none 0 0, v2, .string ⟨#[]⟩]) :=
  ownsRow_touch (ownsRow_touch h.2.2.1 h57 fun k _ hs => hs) ht fun k hk hs => by cases hk; have := (hi.lt g hs).1; omega
 constructor
 ·refine h.push hi hsi h57 hrv ht hv rfl rfl ((touchAt4 w8 g2 _ _ _ _ _ |>.mono fun i hi => .inl hi).trans (touch1 _ g _ _ |>.mono fun i hi => .inr hi)) ?_ ?_
  ·exact ownsRow_touch (own_put4 h8 _ _ _ _) (touch1 _ g _ _) fun k hk hs => by cases hk; have hs : g2 = g := hs; omega
  ·exact own_put_kids (ownsRow_touch ho (touchAt4 w8 g2 _ _ _ _ _) fun k hk hs => by cases hk; have hs : g = g2 := hs; omega) _
 ·refine h.push hi hsi h57 hrv ht hv rfl rfl ((touch1 w8 g _ _ |>.mono fun i hi => .inr hi).trans (touchAt4 _ g2 _ _ _ _ _ |>.mono fun i hi => .inl hi)) ?_ ?_
  ·exact own_put4 (ownsRow_touch h8 (touch1 _ g _ _) fun k hk hs => by cases hk; have hs : g2 = g := hs; omega) _ _ _ _
  ·exact ownsRow_touch (own_put_kids ho _) (touchAt4 _ g2 _ _ _ _ _) fun k hk hs => by cases hk; have hs : g = g2 := hs; omega
section
variable {w : World} {ops : Array Oper} {rest : List Oper} {o : Oper} {a : Act} {Q : Exit → Act → World → Prop}
theorem wpList_append_line (hgd : o.guard = none) (s x : Operand)
  (ho : o.op = .call { callee := .builtin .append, args := #[s, x], argTypes := #[23, 23] })
  {B n g : Nat} {es : List E} {v : Value} (h : GrowE B w es v) (hn : es.length = n) (hs : a.eval s = v) (hb : Blk w g 25 #[.string ⟨nMtr.toArray⟩, .slice none 0 0, .slice none 0 0, .string ⟨#[]⟩]) (hx : a.eval x = .slice (some ⟨g, 0, none⟩) 1 1) (hlen : n < 2 ^ 40)
  (hK : ∀ A cp w' cs0, TabSt B w' (.slice A (n + 1) cp) es [] w'.heap.size (.slice none 0 0) cs0 → Touch (fun k => v.ownBlock = some k) w w' → wpList Tryz.prog ops Q rest (a.put o.dst (.slice A (n + 1) cp)) w') : wpList Tryz.prog ops Q (o :: rest) a w := by
 subst hn;obtain ⟨hBw, cs, h1, h2⟩ := h;obtain ⟨i, hi, hz0, hz1, hz2⟩ := info_parts infoElem;have h3 : ∀ u ∈ [Value.string ⟨nMtr.toArray⟩, .slice none 0 0, .slice none 0 0, .string ⟨#[]⟩], u.oneCell' = true := by simp [Value.oneCell']
 refine wpList_append_src _ hgd s x 23 ho B 25 i _ 4 80 Tryz.underlying23 hi hz0 hz1 hz2 rfl (by decide) v es.length cs hs h1 _ 1 _ hx (Src.of_blk hb rfl) h3 (by simp only [maxLen]; omega) (by omega) hBw fun v' w' ho' hgr hv' => ?_
 obtain ⟨A, cp, rfl⟩ := own_slc ho';have ht : Touch (fun k => v.ownBlock = some k) w w' := Touch.grown (Touch.refl _ _) hgr fun k hk => .inl hk
 refine hK A cp w' cs ⟨Nat.le_trans hBw hgr.size, fun k hk => (ho'.lt k hk).2, ho', ?_, GrowE.nil (Nat.le_refl _)⟩ ht;refine h2.step ht (fun i _ hs => .inl hs) fun i hi hs => ?_
 rcases hs with hs | hs | hs
 ·rcases hv' with h6 | h6 <;> rw [h6] at hs
  ·exact .inl hs
  ·cases hs; omega
 ·exact .inr hs
 ·have := hgr.size; omega
end
end Go.Proofs.YtfnjcldgicohaaaGreat
namespace Go.Proofs.YtfnjcldgicohaaaGreat
open Go.RowKit
theorem wp_region_planC {P : Program} {Q : Exit → Act → World → Prop} {id : Nat} {a : Act} {w : World} {l : List Oper} (C : World → Prop) (p : Plan) (ns : List Nat) (t : Nat) (fin : Array Bool) (C2 : World → Prop) (p2 : Plan) (ns2 : List Nat) (fin2 : Array Bool) (hm : P.follows .mixedOrders = true) (hQ : ∀ c a d v w, Q (.panic c) (Act.put a d v) w → Q (.panic c) a w)
  (hB : (Region.noSelect l.toArray && decide (p.len + (p2.len + 1) = l.toArray.size) && p.within ns && planB .any l.toArray fin p (Array.replicate l.toArray.size false) && shutB .any l.toArray ns (some t) (Array.replicate l.toArray.size false) &&
   decide (Region.ready .any l.toArray fin = [t]) && !ns.contains t && p2.within ns2 && planB .any l.toArray fin2 p2 (fin.setIfInBounds t true) && shutB .any l.toArray ns2 none (fin.setIfInBounds t true) && (Region.ready .any l.toArray fin2).isEmpty) = true)
  (hC : C (w.drewN 1)) (h : wpPlan P l Q C (fun a' w' => wpList P l.toArray (Exit.then (fun a'' w'' => C2 w'' ∧ wpPlan P l Q C2 (fun a3 w3 => Q .normal a3 w3) p2 a'' w'') Q) (pick l [t]) a' w') p a (w.drewN 1)) : (Code.region id l.toArray true).wp P Q a w := by
 simp only [Bool.and_eq_true, decide_eq_true_eq, Bool.not_eq_true', List.isEmpty_iff] at hB;obtain ⟨⟨⟨⟨⟨⟨⟨⟨⟨⟨hsel, hn⟩, hin⟩, hp⟩, hs⟩, hr⟩, ht⟩, hin2⟩, hp2⟩, hs2⟩, hr2⟩ := hB;refine wp_region_any hm ?_;rw [← hn];rw [← hn] at hp hs
 have hz : ZInv .any l.toArray ns (Array.replicate (p.len + (p2.len + 1)) false) (Array.replicate (p.len + (p2.len + 1)) false) :=
  ⟨⟨by simp [hn], fun j oj _ hl => by rw [getD_repl] at hl; cases hl⟩, fun _ h => h, fun _ h => .inl h⟩
 have hz' := plan_inv p _ hin hz hp;have htr : t ∈ Region.ready .any l.toArray fin := by rw [hr]; simp
 have htn : t ∉ ns := by
  intro hx;rw [List.contains_iff_mem.2 hx] at ht;cases ht
 obtain ⟨_, ot, hot, _⟩ := mem_ready.1 htr;have := wpAnyU_plan (P := P) (Q := Q) (fin := fin) hsel hQ hs (by rw [hr]; intro j hj; rw [List.mem_singleton.1 hj]; exact htn) p _ a (w.drewN 1) hin hz hp hC h;refine wpAny_of_U (g := p2.len + 1) (fun listed' a' w' _ hL => ?_) p.len _ a _ hC this;refine wpAny_all (rs := [t]) (by rw [hL.1]; exact hr) (by simp) (fun i hi => ?_);rw [List.mem_singleton.1 hi, hL.1];refine wpOp_mono (fun a'' w'' h'' => ?_) (wpOp_of_single hot hL.2);have hz2 : ZInv .any l.toArray ns2 (fin.setIfInBounds t true) (fin.setIfInBounds t true) := ⟨hz'.closed.put htr, fun _ h => h, fun _ h => .inl h⟩;have h2 := wpAnyU_plan (P := P) (Q := Q) (fin := fin2) hsel hQ hs2 (by rw [hr2]; simp) p2 _ a'' w'' hin2 hz2 hp2 h''.1 h''.2;exact wpAny_of_U (g := 0) (fun listed' a' w' _ hL => wpAny_done (by rw [hL.1]; exact hr2) hL.2 0) p2.len _ a'' _ h''.1 h2
structure Turned (S : Nat → Prop) (w0 : World) where
 W : World
 ht : Touch S w0 W
instance {S : Nat → Prop} {w0 : World} : Nonempty (Turned S w0) := ⟨⟨w0, Touch.refl _ _⟩⟩
theorem cT {S : Nat → Prop} {w0 : World} {b i : Nat} {v : Value} (h : w0.cell? ⟨b, i, none⟩ = some v) (hS : ¬ S b) (x : Turned S w0) : x.W.cell? ⟨b, i, none⟩ = some v := x.ht.cell h hS
end Go.Proofs.YtfnjcldgicohaaaGreat
