/- Part 42 of 42 of a proof; its texts, joined: SxF. No condition. -/
import Derived.Test.YtncnoeoicaglaaaGreatVs40
import Derived.Test.YtncnoeoicaglaaaGreatVs41
import Derived.Test.YtncnoeoicaglaaaGreatVs8
import Derived.Test.YtncnoeoicaglaaaGreatVs6
set_option maxRecDepth 100000
set_option maxHeartbeats 8000000
namespace Go.Proofs.YtncnoeoicaglaaaGreat
open Go.ChangeShapes Go.WideShapes Go.ChangeAt Go.RowKit
open Go.ChangeMaps (open_string shut_string)
open Tr (Nd)
attribute [local go_sem] stillV stillUpon
theorem infoNodeS : (Tryz.prog.info? 26).map (fun i => (i.zero, i.size, i.bytes)) = some (some (.agg #[.int .i64 0, .string ⟨#[]⟩, .int .i64 0, .slice none 0 0]), 4, 56) := by kernel_rfl
theorem rowAt_len : ∀ (q : List Nat) (n r : Nd), rowAt n q = some r → q.length + Tr.count r ≤ Tr.count n
 | [], n, r, h => by rw [rowAt] at h; cases h; simp
 | [_], n, r, h => by rw [rowAt] at h; cases h
 | i :: j :: q, n, r, h => by
  rw [rowAt] at h;cases hi : n.kids[i]? with
  | none => rw [hi] at h; cases h
  | some m =>
   rw [hi] at h;simp only at h;cases hj : m.kids[j]? with
   | none => rw [hj] at h; cases h
   | some a =>
    rw [hj] at h;simp only at h;have h1 := rowAt_len q a r h;have h2 := Tr.count_mem (List.mem_of_getElem? hi);have h3 := Tr.count_mem (List.mem_of_getElem? hj);have h4 := Tr.count_kids n;have h5 := Tr.count_kids m;simp only [List.length_cons];omega
theorem Ints.init {w : World} {A : Option Addr} {n cap : Nat} {p : List Nat} {i : Nat} (h : Ints w (.slice A n cap) (up (p ++ [i]))) (c : Nat) : Ints w (.slice A p.length c) (up p) := by
 obtain ⟨A', cap', hv, h⟩ := h;cases hv;refine ⟨A, c, by rw [List.length_map], ?_⟩
 rcases h with h | ⟨g, o, h1, h2, h3⟩
 ·exact absurd (congrArg List.length h) (by simp)
 ·refine .inr ⟨g, o, h1, h2, fun k hk => ?_⟩
  have := h3 k (by simp at hk ⊢; omega);rw [this]
  congr 2
  simp only [List.map_append];rw [List.getElem_append_left hk]
theorem Ints.last {w : World} {A : Option Addr} {n cap : Nat} {p : List Nat} {i : Nat} (h : Ints w (.slice A n cap) (up (p ++ [i]))) : ∃ g o, A = some ⟨g, o, none⟩ ∧ g < w.heap.size ∧ w.cell? ⟨g, o + p.length, none⟩ = some (.int .i64 (i : Int)) := by
 obtain ⟨g, o, h1, h2, h3⟩ := h.get p.length (by simp);refine ⟨g, o, h1, h2, h3.trans ?_⟩
 congr 2
 simp
theorem toRow22_any (A : Option Addr) (n cap : Nat) (w : World) : Calls Tryz.prog 16 #[.slice A n cap] w fun e w' => e = .returned (.agg #[.int .i64 1, .string ⟨#[]⟩, .int .i64 0, .slice A n cap]) ∧ Fresh w w' := by
 go_enter Tryz.func16, Tryz.ntmps16;go_wp2_with fail
 exact bodyPost_ret (v := .agg #[.int .i64 1, .string ⟨#[]⟩, .int .i64 0, .slice A n cap]) (by simp [results, Tryz.results16, go_sem]) rfl ⟨rfl, (Touch.refl _ _).alloc _⟩
theorem parse_item (y : Nd) (w : World) (hv : Tr.valid (alone y) = true) : Calls Tryz.prog 6 #[.string ⟨(printS (alone y)).toArray⟩, .pointer none] w fun e w' =>
  ∃ A cap, e = .returned (.tuple #[.agg #[.int .i64 1, .string ⟨#[]⟩, .int .i64 0, .slice A 1 cap], .int .i64 0, .int .i64 0]) ∧ RepL w' [y] (.slice A 1 cap) ∧ Fresh w w' := by
 have hc : Tr.count (alone y) ≤ 1000 := valid_count hv;exact parse_of_print (alone y) w hv hc
theorem span_cut (n y : Nd) (f t : Nat) (hv : Tr.valid (alone y) = true) (h : ((printS n).take t).drop f = Tr.wtext (Tr.itemT y)) : (⟨(printS n).toArray⟩ : ByteArray).extract f t = ⟨(printS (alone y)).toArray⟩ := by
 have hp : printS (alone y) = Tr.wtext (Tr.itemT y) := by
  unfold printS;rw [if_pos hv]
  congr 1
  show Tr.rowT [y] = _;rw [Tr.rowT_cons, Tr.rowT_nil, List.append_nil]
 rw [hp, ← h];apply ByteArray.ext
 apply Array.ext'
 simp only [ByteArray.data_extract, Array.toList_extract, List.extract_eq_take_drop];rw [List.drop_take]
theorem spans_facts (n : Nd) (hv : Tr.valid n = true) (x : Spn) (hx : x ∈ spansOf n) : ∃ p i r y, x.1 = p ++ [i] ∧ rowAt n p = some r ∧ r.kids[i]? = some y ∧ Tr.valid (alone y) = true ∧ x.2.1 ≤ x.2.2 ∧ x.2.2 ≤ (printS n).length ∧ (⟨(printS n).toArray⟩ : ByteArray).extract x.2.1 x.2.2 = ⟨(printS (alone y)).toArray⟩ ∧ p.length + 1 ≤ Tr.count n := by
 obtain ⟨j, q, y, h1, h2, h3, h4, h5, h6, _⟩ := spans_law n hv x hx;obtain ⟨p, i, r, e1, e2, e3⟩ := itemAt_row _ n y h2;refine ⟨p, i, r, y, by rw [h1, e1], e2, e3, h3, h4, h5, span_cut n y _ _ h3 h6, ?_⟩;have := rowAt_len p n r e2;have := Tr.count_pos r;omega
theorem stext_any (n : Nd) (sl : Value) (w : World) (hsl : RepL w n.kids sl) (ht : n.text.length ≤ maxLen) :
  Calls Tryz.prog 4 #[nv n sl] w fun e w' => e = .returned (.bool true) ∧ Fresh w w' := by
 obtain ⟨A, cap, rfl⟩ := hsl.slice;have HSL := hid hsl;clear hsl;obtain ⟨i0, hi, hz0, hz1, hz2⟩ := info_parts infoNodeS;go_enter Tryz.func4, Tryz.ntmps4;go_wp2_with fail
 refine (awake22_any _).mono ?_;rintro _ w1 ⟨rfl, hf1⟩;have HF1 := hid (show Fresh w w1 from Touch.pre hf1);have HB1 := hid (hf1.blk (Blk.new w 26 #[.int .i64 n.kind, .string (⟨n.text.toArray⟩ : ByteArray), .int .i64 n.cols, .slice A n.kids.length cap]) (fun h => h));clear hf1;obtain ⟨q0, q1, q2, q3, _, _, _, _, hlt⟩ := Blk.four HB1.out;go_wp2_with fail
 refine (few22_any n _ _ (HSL.out.fresh HF1.out)).mono ?_;rintro _ w2 ⟨rfl, hf2⟩;have HF2 := hid (HF1.out.trans hf2);have HB2 := hid (hf2.blk HB1.out fun h => h);clear hf2 q0 q1 q2 q3 hlt HB1 HF1;obtain ⟨q0, q1, q2, q3, _, _, _, _, hlt⟩ := Blk.four HB2.out;cases hcc : decide ((Tr.count n : Int) ≤ 60) with
 | false =>
  go_wp2_with fail
  refine (awake22_any _).mono ?_;rintro _ w3 ⟨rfl, hf3⟩;have HF3 := hid (HF2.out.trans hf3);clear hf3 q0 q1 q2 q3;go_wp2_with fail
  go_ret;exact ⟨rfl, HF3.out⟩
 | true =>
  have hcn : Tr.count n ≤ 60 := by have := of_decide_eq_true hcc; omega
  have HC := hid hcn;go_wp2_with fail
  refine (items_any n _ _ (HSL.out.fresh HF2.out) ht (by omega)).mono ?_;rintro _ w3 ⟨v, cs, rfl, ho, hcs, hf3⟩;have HF3 := hid (HF2.out.trans hf3);have HB3 := hid (hf3.blk HB2.out fun h => h);have HO := hid ho;have HCS := hid hcs;obtain ⟨Ar, capr, rfl⟩ := owns_slice ho;clear ho hcs hf3 q0 q1 q2 q3 hlt HB2 HF2;obtain ⟨q0, q1, q2, q3, _, _, _, _, hlt⟩ := Blk.four HB3.out;go_wp2_with fail
  refine (print_any n _ _ (HSL.out.fresh HF3.out) ht (by omega)).mono ?_;rintro _ w4 ⟨rfl, hf4⟩;have HF4 := hid (HF3.out.trans hf4);have HF34 := hid hf4;have HB4 := hid (hf4.blk HB3.out fun h => h);clear hf4 q0 q1 q2 q3 hlt HB3;cases hv : Tr.valid n with
  | false =>
   have he : printE n = 1 := by unfold printE; rw [hv]; rfl
   have hs : spansOf n = [] := by unfold spansOf; rw [hv]; rfl
   rw [he, hs];go_wp2_with fail
   go_ret;exact ⟨rfl, HF4.out⟩
  | true =>
   have he : printE n = 0 := by unfold printE; rw [hv]; rfl
   have HV := hid hv;have HLAW := hid (spans_facts n hv);have HNUM := hid (spans_number n hv);have hs8 := spans_few n (by omega)
   have hpl : (printS n).length ≤ 1000000 := by
    have h1 := printed_len n (Tr.valid_row n hv);have hp : printS n = Tr.wtext (Tr.rowT n.kids) := by unfold printS; rw [if_pos hv]
    rw [hp]; omega
   rw [he];clear he hv;generalize spansOf n = s at *;go_wp2_with fail
   go_loopw [49] (fun i wr => ∃ j : Nat, i = .int .i64 j ∧ j ≤ s.length ∧ Hid (Fresh w4 wr)) (fun i _ => s.length - (intOf i).toNat)
   case atStart => exact ⟨0, rfl, Nat.zero_le _, Touch.refl _ _⟩
   case round =>
    obtain ⟨j, rfl, hj, HFR⟩ := hrel;rename_i wr _;have HBR := hid (HFR.out.blk HB4.out fun h => h);have HFW := hid (HF4.out.trans HFR.out)
    by_cases c1 : j < s.length
    ·have d1 : decide ((j : Int) < (s.length : Int)) = true := dT (by omega)
     have d1n : decide (j < s.length) = true := dT (by omega);have d1' : (j : Int) < (s.length : Int) := by omega
     obtain ⟨g, cap', hv⟩ : ∃ g cap', Value.slice Ar s.length capr = .slice (some ⟨g, 0, none⟩) s.length cap' := by
      rcases HO.out.2 with ⟨_, h2⟩ | ⟨g', cap, cur, h1, h2, _⟩
      ·omega
      ·exact ⟨g', cap, h1⟩
     cases hv;obtain ⟨vx, x0, x1, x2, hx⟩ := HCS.out.get j c1;obtain ⟨p, i, r, y, y1, y2, y3, y4, y5, y6, y7, y8⟩ := HLAW.out s[j] (List.getElem_mem c1);generalize s[j] = X at x1 x2 hx y1 y5 y6 y7;obtain ⟨px, fx, tx⟩ := X;simp only at x1 x2 hx y1 y5 y6 y7;subst y1;have e0 := (HF34.out.trans HFR.out).cell ((HO.out.cellAt (j * 3) (by omega)).trans x0) (fun h => h);have e1 := (HF34.out.trans HFR.out).cell ((HO.out.cellAt (j * 3 + 1) (by omega)).trans x1) (fun h => h);have e2 := (HF34.out.trans HFR.out).cell ((HO.out.cellAt (j * 3 + 2) (by omega)).trans x2) (fun h => h);obtain ⟨Ax, cax, rfl, hax1, hax2⟩ : Roomy vx (p ++ [i]).length := by have := hx.room; rw [List.length_map] at this; exact this
     have hxi := hx.ints.fresh (HF34.out.trans HFR.out);have hin := hxi.init cax;obtain ⟨gp, op, rfl, hgp, hpi⟩ := hxi.last;have HIN := hid hin;have HPI := hid hpi;have hlen : (p ++ [i]).length = p.length + 1 := by simp
     rw [hlen] at e0 hax1;unfold maxLen at hax2;have HY2 := hid y2;have HY3 := hid y3;have HY4 := hid y4;have HY7 := hid y7;clear x0 x1 x2 hx hxi hin hpi y2 y3 y4 y7 hlen;have cf : decide ((fx : Int) < 0) = false := dF (by omega);have cft : decide ((tx : Int) < (fx : Int)) = false := dF (by omega);have cftn : decide (tx < fx) = false := dF (by omega);have hsz : (⟨(printS n).toArray⟩ : ByteArray).size = (printS n).length := by show (printS n).toArray.size = _; rw [List.size_toArray]
     have cts : decide (((printS n).length : Int) < (tx : Int)) = false := dF (by omega);have ctsn : decide ((printS n).length < tx) = false := dF (by omega);have clz : (((p.length + 1 : Nat) : Int) == 0) = false := by rw [beq_eq_false_iff_ne]; omega
     have clz2 : (((p.length : Int) + 1) == 0) = false := by rw [beq_eq_false_iff_ne]; omega
     go_wp2_with fail
     have HB8 := hid (Blk.new wr 48 #[.slice (some ⟨gp, op, none⟩) (p.length + 1) cax, .int .i64 (fx : Int), .int .i64 (tx : Int)]);have HBn := hid (HBR.out.alloc (.cells #[.slice (some ⟨gp, op, none⟩) (p.length + 1) cax, .int .i64 (fx : Int), .int .i64 (tx : Int)] 48));have HFa := hid (show Fresh wr (wr.alloc (.cells #[.slice (some ⟨gp, op, none⟩) (p.length + 1) cax, .int .i64 (fx : Int), .int .i64 (tx : Int)] 48)) from (Touch.refl _ _).alloc _);have hpi8 := (HFa.out.cell HPI.out (fun h => h));have HIN8 := hid (HIN.out.fresh HFa.out);have HSL8 := hid (HSL.out.fresh (HFW.out.trans HFa.out));have HF8 := hid (HFW.out.trans HFa.out);generalize (wr.alloc (.cells #[.slice (some ⟨gp, op, none⟩) (p.length + 1) cax, .int .i64 (fx : Int), .int .i64 (tx : Int)] 48)) = W8 at HB8 HBn HFa hpi8 HIN8 HSL8 HF8 ⊢;have k0 := cR (HBn.out.cell 0 |>.trans rfl);have k1 := cR (HBn.out.cell 1 |>.trans rfl);have k2 := cR (HBn.out.cell 2 |>.trans rfl);have k3 := cR (HBn.out.cell 3 |>.trans rfl);have k4 := cR (HB8.out.cell 0 |>.trans rfl);have k5 := cR hpi8;have hpl1 : (p.length : Int) < ((p.length : Int) + 1) := by omega
     have hpc : decide (p.length ≤ cax) = true := dT (by omega);have hpc' : (p.length : Int) ≤ (cax : Int) := by omega
     clear e0 e1 e2 hpi8
     refine wp_region_plan (Plan.of [(0, true), (1, true), (2, true), (3, true), (4, true), (5, true), (6, true), (7, true), (8, true), (9, true)] (.fork 10 (Plan.of [(11, true), (12, true), (13, true), (14, false), (15, false)] .nil) 14 (.lone 10 (Plan.of [(11, true), (12, true), (13, true), (15, false)] .nil))))
      [0, 1, 2, 3, 4, 5, 6, 7, 8, 9, 10, 11, 12, 13, 14, 15] 16 (Array.replicate 16 true ++ #[false]) [] [] (by kernel_rfl) (fun _ _ d _ _ h => by cases d <;> exact h) (by kernel_rfl) ?_
     unfold Plan.of
     repeat (refine wpPlan_plain rfl (fun K hK => ?_); go_simp; refine hK _ ?_; clear hK K; first | done | unfold Plan.of)
     clear k0 k1 k2 k3 k4 k5;refine wpPlan_fork ?_ ?_
     focus
      refine wpPlan_lone rfl (fun K hK => ?_);go_wp2_with fail
      refine (item09_any p i n r y _ _ W8 _ ((Touch.refl _ _).drewN 1) HV.out (by omega) ht HY2.out HY3.out HSL8.out (HIN8.out.fresh ((Touch.refl _ _).drewN 1)) ⟨_, _, rfl, by omega, by unfold maxLen; omega⟩ (by omega)).mono ?_;rintro _ W10 ⟨Ay, cy, rfl, hry, hf10⟩;have HF9 := hid (show Fresh W8 W10 from ((Touch.refl _ W8).drewN 1).trans hf10);have HRY9 := hid hry;clear hf10 hry;go_wp2_with fail
      refine hK _ _ (growing_fresh HF9.out) ?_;clear hK K
      repeat (refine wpPlan_plain rfl (fun K hK => ?_); go_simp; refine hK _ ?_; clear hK K; first | done | unfold Plan.of)
      refine wpPlan_lone rfl (fun K hK => ?_);go_wp2_with fail
      have hs9 := HF9.out.size;refine hK _ _ (growing_fresh (HF9.out.alloc _)) ?_;clear hK K;have HF10 := hid (show Fresh W8 (W10.alloc (.cells #[.int .i64 0, .string ⟨#[]⟩, .int .i64 0, .slice none 0 0] 26)) from HF9.out.alloc _);have HZ := hid (Blk.new W10 26 #[.int .i64 0, .string ⟨#[]⟩, .int .i64 0, .slice none 0 0]);have HS0 := hid HRY9.out;have hgI : W8.heap.size ≤ W10.heap.size := hs9;obtain ⟨gI, hg⟩ : ∃ g, g = W10.heap.size := ⟨_, rfl⟩;generalize (W10.alloc (.cells #[.int .i64 0, .string ⟨#[]⟩, .int .i64 0, .slice none 0 0] 26)) = W11 at HF10 HZ ⊢;rw [← hg] at HZ hgI ⊢;clear hg
     rotate_left
     focus
      refine wpPlan_lone rfl (fun K hK => ?_);go_wp2_with fail
      have HF9 := hid (show Fresh W8 ((W8.drewN 1).alloc (.cells #[.int .i64 0, .string ⟨#[]⟩, .int .i64 0, .slice none 0 0] 26)) from ((Touch.refl _ W8).drewN 1).alloc _);refine hK _ _ (growing_fresh HF9.out) ?_;clear hK K;have HZ9 := hid (show Blk ((W8.drewN 1).alloc (.cells #[.int .i64 0, .string ⟨#[]⟩, .int .i64 0, .slice none 0 0] 26)) W8.heap.size 26 #[.int .i64 0, .string ⟨#[]⟩, .int .i64 0, .slice none 0 0] from Blk.new (W8.drewN 1) 26 #[.int .i64 0, .string ⟨#[]⟩, .int .i64 0, .slice none 0 0]);generalize ((W8.drewN 1).alloc (.cells #[.int .i64 0, .string ⟨#[]⟩, .int .i64 0, .slice none 0 0] 26)) = W9 at HF9 HZ9 ⊢;refine wpPlan_lone rfl (fun K hK => ?_);go_wp2_with fail
      refine (item09_any p i n r y _ _ W8 _ HF9.out HV.out (by omega) ht HY2.out HY3.out HSL8.out (HIN8.out.fresh HF9.out) ⟨_, _, rfl, by omega, by unfold maxLen; omega⟩ (by omega)).mono ?_;rintro _ W10 ⟨Ay, cy, rfl, hry, hf10⟩;have HF10 := hid (show Fresh W8 W10 from HF9.out.trans hf10);have HZ := hid (hf10.blk HZ9.out fun h => h);have HS0 := hid hry;clear hf10 hry;go_wp2_with fail
      refine hK _ _ (growing_fresh HF10.out) ?_;clear hK K
      repeat (refine wpPlan_plain rfl (fun K hK => ?_); go_simp; refine hK _ ?_; clear hK K; first | done | unfold Plan.of)
      obtain ⟨gI, hg⟩ : ∃ g, g = W8.heap.size := ⟨_, rfl⟩;have hgI : W8.heap.size ≤ gI := by omega
      rw [← hg] at HZ ⊢;clear hg;obtain ⟨W11, hw11⟩ : ∃ W, W = W10 := ⟨_, rfl⟩;rw [← hw11] at HF10 HZ ⊢;clear hw11
     all_goals
      refine wpPlan_lone rfl (fun K hK => ?_);obtain ⟨z0, z1, z2, z3, y0, y1, y2, y3, hlz⟩ := Blk.four HZ.out;go_wp2_with fail
      have HF11 := hid (show Fresh W8 (put4 W11 gI (.int .i64 y.kind) (.string ⟨y.text.toArray⟩) (.int .i64 y.cols) (.slice Ay y.kids.length cy)) from Touch.put4 HF10.out (.inr hgI) _ _ _ _);have HBI := hid (HZ.out.self4 (.int .i64 y.kind) (.string ⟨y.text.toArray⟩) (.int .i64 y.cols) (.slice Ay y.kids.length cy));refine hK _ _ (growing_fresh HF11.out) ?_;clear hK K z0 z1 z2 z3 y0 y1 y2 y3 hlz HZ;show wpPlan _ _ _ _ _ _ _ (put4 W11 gI (.int .i64 y.kind) (.string ⟨y.text.toArray⟩) (.int .i64 y.cols) (.slice Ay y.kids.length cy));generalize (put4 W11 gI (.int .i64 y.kind) (.string ⟨y.text.toArray⟩) (.int .i64 y.cols) (.slice Ay y.kids.length cy)) = W12 at HF11 HBI ⊢;clear HF10 hgI;unfold Plan.of;refine wpPlan_shut rfl (fun K hK => ?_);go_wp2_with fail
      refine wpMix_end ?_;have HB12 := hid (HF11.out.blk HB8.out fun h => h);have HRY := hid (HS0.out.fresh HF11.out);have HF12 := hid (HFa.out.trans HF11.out);obtain ⟨x0, x1, x2, hlx⟩ : _ ∧ _ ∧ _ ∧ _ := ⟨HB12.out.cell 0 |>.trans rfl, HB12.out.cell 1 |>.trans rfl, HB12.out.cell 2 |>.trans rfl, HB12.out.lt⟩;clear HF11 HS0 HF8 HSL8 HIN8 HFa HBn HB8;go_wp2_with fail
      rw [HY7.out];refine (parse_item y _ HY4.out).mono ?_;rintro _ w15 ⟨Am, cm, rfl, hrm, hf15⟩;have HF15 := hid (HF12.out.trans hf15);have HBI15 := hid (hf15.blk HBI.out fun h => h);have HRY15 := hid (HRY.out.fresh hf15);have HRM15 := hid hrm;have HTY := hid (hrm.texts 0 (by simp));clear hf15 hrm x0 x1 x2 hlx HF12 HBI HRY;go_wp2_with fail
      have HBM := hid (Blk.new w15 26 #[.int .i64 1, .string ⟨#[]⟩, .int .i64 0, .slice Am 1 cm]);have HF16 := hid (HF15.out.alloc (.cells #[.int .i64 1, .string ⟨#[]⟩, .int .i64 0, .slice Am 1 cm] 26));have HBI16 := hid (HBI15.out.alloc (.cells #[.int .i64 1, .string ⟨#[]⟩, .int .i64 0, .slice Am 1 cm] 26));have HRY16 := hid (HRY15.out.fresh ((Touch.refl _ w15).alloc (.cells #[.int .i64 1, .string ⟨#[]⟩, .int .i64 0, .slice Am 1 cm] 26)));have HRM16 := hid (HRM15.out.fresh ((Touch.refl _ w15).alloc (.cells #[.int .i64 1, .string ⟨#[]⟩, .int .i64 0, .slice Am 1 cm] 26)));generalize (w15.alloc (.cells #[.int .i64 1, .string ⟨#[]⟩, .int .i64 0, .slice Am 1 cm] 26)) = W16 at HBM HF16 HBI16 HRY16 HRM16 ⊢;obtain ⟨gM, hgM⟩ : ∃ g, g = w15.heap.size := ⟨_, rfl⟩;rw [← hgM] at HBM ⊢;clear hgM HF15 HBI15 HRY15 HRM15;have k0 := cR (HBM.out.cell 0 |>.trans rfl);have k1 := cR (HBM.out.cell 1 |>.trans rfl);have k2 := cR (HBM.out.cell 2 |>.trans rfl);have k3 := cR (HBM.out.cell 3 |>.trans rfl);have k4 := cR (HBI16.out.cell 0 |>.trans rfl);have k5 := cR (HBI16.out.cell 1 |>.trans rfl);have k6 := cR (HBI16.out.cell 2 |>.trans rfl);have k7 := cR (HBI16.out.cell 3 |>.trans rfl);refine wp_region_mix [] [(0, true), (1, true), (2, true), (3, true), (4, true), (5, true), (6, true), (7, true), (8, true), (9, false), (10, false), (11, false), (12, true), (13, true)] (by kernel_rfl) (fun _ _ d _ _ h => by cases d <;> exact h) (by kernel_rfl) ?_;refine wpMix_last ?_
      repeat (refine wpSeq_plain rfl (fun K hK => ?_); go_simp; refine hK _ ?_; clear hK K)
      clear k0 k1 k2 k3 k4 k5 k6 k7;refine wpSeq_lone rfl (fun K hK => ?_);go_wp2_with fail
      have HF17 := hid (show Fresh W16 ((W16.drewN 1).alloc (.cells #[.int .i64 y.kind, .string ⟨y.text.toArray⟩, .int .i64 y.cols, .slice Ay y.kids.length cy] 26)) from ((Touch.refl _ W16).drewN 1).alloc _);have HBY := hid (show Blk ((W16.drewN 1).alloc (.cells #[.int .i64 y.kind, .string ⟨y.text.toArray⟩, .int .i64 y.cols, .slice Ay y.kids.length cy] 26)) W16.heap.size 26 #[.int .i64 y.kind, .string ⟨y.text.toArray⟩, .int .i64 y.cols, .slice Ay y.kids.length cy] from Blk.new (W16.drewN 1) 26 #[.int .i64 y.kind, .string ⟨y.text.toArray⟩, .int .i64 y.cols, .slice Ay y.kids.length cy]);refine hK _ _ (growing_fresh HF17.out) ?_;clear hK K;generalize ((W16.drewN 1).alloc (.cells #[.int .i64 y.kind, .string ⟨y.text.toArray⟩, .int .i64 y.cols, .slice Ay y.kids.length cy] 26)) = W17 at HF17 HBY ⊢;refine wpSeq_lone rfl (fun K hK => ?_);go_wp2_with fail
      refine (toRow22_any _ _ _ _).mono ?_;rintro _ w18 ⟨rfl, hf18⟩;have HF18 := hid (HF17.out.trans hf18)
      have HR18 := hid (show RepL w18 [y] (.slice (some ⟨W16.heap.size, 0, none⟩) 1 1) from by
       have h := RepL.kid1 (hf18.blk HBY.out fun h => h) HTY.out (HRY16.out.fresh HF18.out);rw [← Tr.Nd.eta] at h;exact h)
      have HRM18 := hid (HRM16.out.fresh HF18.out);clear hf18 HF17 HBY;go_wp2_with fail
      refine hK _ _ (growing_fresh HF18.out) ?_;clear hK K;refine wpSeq_lone rfl (fun K hK => ?_);go_wp2_with fail
      have hq : Calls Tryz.prog 10 #[.agg #[.int .i64 1, .string ⟨#[]⟩, .int .i64 0, .slice Am 1 cm], .agg #[.int .i64 1, .string ⟨#[]⟩, .int .i64 0, .slice (some ⟨W16.heap.size, 0, none⟩) 1 1]] w18 fun e w' => e = .returned (.bool (Tr.eqN (alone y) (alone y))) ∧ Fresh w18 w' := equal_any _ (alone y) (alone y) _ _ w18 (Nat.le_refl _) HRM18.out HR18.out
      refine hq.mono ?_;clear hq;rintro _ w19 ⟨rfl, hf19⟩;rw [count_rep];have HF19 := hid (HF18.out.trans hf19);clear hf19 HR18 HRM18 HF18;go_wp2_with fail
      refine hK _ _ (growing_fresh HF19.out) ?_;clear hK K
      repeat (refine wpSeq_plain rfl (fun K hK => ?_); go_simp; refine hK _ ?_; clear hK K)
      refine wpSeq_end ?_;have HF20 := hid (HFR.out.trans (HF16.out.trans HF19.out));clear HF19 HF16;go_wp2_with fail
      go_roundw
      case rel => exact ⟨j + 1, by simp, by omega, HF20⟩
      case measure => simp [intOf]; omega
    ·have d1 : decide ((j : Int) < (s.length : Int)) = false := dF (by omega)
     have d1n : decide (j < s.length) = false := dF (by omega);obtain rfl : j = s.length := by omega
     obtain ⟨q0, q1, q2, q3, _, _, _, _, hlt⟩ := Blk.four HBR.out;go_wp2_with fail
     refine (items22_any _ n _ _ (Nat.le_refl _) (by omega) (HSL.out.fresh HFW.out)).mono ?_;rintro _ w9 ⟨rfl, hf9⟩;have HF9 := hid (HFW.out.trans hf9);rw [← HNUM.out];clear hf9 q0 q1 q2 q3 hlt;go_wp2_with fail
     go_ret;exact ⟨rfl, HF9.out⟩
theorem spanText_lifted (os : Os) (started : os.Started) (H : Type) (enc : TypeId × Value → H) :
  ReturnsInHanded {} Tryz.checked os 4 .any (Rows.spanTextSpec.pre6 enc Tryz.prog Tryz.f4 Rows.spanTextRow.domain false) (Rows.spanTextSpec.post enc Tryz.prog Tryz.f4 false true false false) := by
 refine returnsInHanded_of_change (C := Tryz.checked) Tryz.ownKnob started (by kernel_rfl) Tryz.func4
  (ChangeSpec.witness6 (enc := enc) (C := Tryz.checked) false ⟨#[], #[.agg #[.int .i64 0, .string ⟨#[]⟩, .int .i64 0, .slice none 0 0]], []⟩ 8 (by kernel_rfl) (by kernel_rfl) (by kernel_rfl) (by kernel_rfl)) ?_
 intro W base args ds gs before hval0 hW hcnd _;have hval : ∀ (j : Nat) t v, Tryz.f4.params[j]? = some t → args[j]? = some v → Value.okWide Tryz.prog W .any base t v := hval0;have hW' := hW;obtain ⟨p, q, hA0, hV, rfl, hfz, hnd⟩ := hW;have hA : DataW.TrodAll enc Tryz.prog W 0 (fun _ => true) true Tryz.f4.params.toList args.toList ds p := hA0;rw [Tryz.params4] at hA hval;obtain ⟨v0, d0, rfl, rfl, h0⟩ := trodAll_one hA;obtain ⟨rfl, rfl⟩ := trodVars_none hV;obtain ⟨n0, ⟨s0, rfl, r0⟩, t0⟩ := open_node (hval 0 26 v0 rfl rfl) h0;refine (stext_any n0 s0 W r0 t0).mono fun e W' ⟨he, hw⟩ => ?_
 exact ⟨_, he, post_true Tryz.laidOut Tryz.underlying4 (by kernel_rfl) (by kernel_rfl) rfl rfl hW' hw⟩
theorem SpanText_holds : Rows.SpanTextSaid :=
 OpenClaim.holds_of_wide 4 Tryz.f4 rfl rfl rfl rfl rfl rfl rfl ⟨rfl, rfl, rfl, rfl, rfl⟩ rfl rfl rfl rfl rfl (by kernel_rfl) Tryz.func4 (by kernel_rfl)
  (of_decide_eq_true (by kernel_rfl)) (by unfold Func.isWrapper; first | (rw [if_pos (by decide +kernel)]; kernel_rfl) | (rw [if_neg (by decide +kernel)]; exact ⟨rfl, rfl⟩))
  (fun os started H enc _ => spanText_lifted os started H enc)
end Go.Proofs.YtncnoeoicaglaaaGreat
