/- Part 27 of 42 of a proof; its texts, joined: SnX, SnR, SnQ. No condition. -/
import Derived.Test.YtncnoeoicaglaaaGreatVs26
import Derived.Test.YtncnoeoicaglaaaGreatVs2
set_option maxRecDepth 100000
set_option maxHeartbeats 12000000
namespace Go.Proofs.YtncnoeoicaglaaaGreat
open Go.RowKit
open Tr (Nd Clo runRow runSegs rowT itemT segs segsLen segLen)
attribute [local go_sem] stillV stillUpon
variable {σ κ : Type}
theorem bgrp_len (a : Nd) (h : a.kids.length ≠ 1) : Tr.bgrp a = true := by
 unfold Tr.bgrp;split
 ·rename_i x hx; rw [hx] at h; simp at h
 ·rfl
theorem bgrp_one (a x : Nd) (h : a.kids = [x]) : Tr.bgrp a = Tr.scripted x := by unfold Tr.bgrp; rw [h]
theorem tree_scripts_more {k : Wk σ κ} (hk : k.Good) (n : Nd) (h789 : n.kind = 7 ∨ n.kind = 8 ∨ n.kind = 9) (c1 : 0 < n.kids.length) (hx : n.kids[0].kids.length ≠ 1) (hrows : ∀ a ∈ n.kids, k.RowS a) :
  k.TreeAs n 0 (LI scriptK scriptB n.kids) 0 := by
 have hk3 : (n.kind == 7) = true ∨ ((n.kind == 7) = false ∧ (n.kind == 8) = true) ∨ ((n.kind == 7) = false ∧ (n.kind == 8) = false ∧ (n.kind == 9) = true) := by rcases h789 with h | h | h <;> rw [h] <;> decide
 rcases hk3 with h7 | ⟨h7, h8⟩ | ⟨h7, h8, h9⟩
 all_goals
  clear h789;intro S f s w p v sl h hsl hp hd hf hlim;have HLIM := hid hlim;clear hlim;have hlen := hsl.len;unfold maxLen at hlen;obtain ⟨A, cap, rfl⟩ := hsl.slice;obtain ⟨Ap, capp, rfl⟩ := hp.slice;have HK := hid hk;have HAT0 := hid h;have HP0 := hid hp;have HSL := hid hsl;have HI := hid hrows;have HD := hid hd;have HF := hid hf;have HDN := hid (Tr.depth_kids n);have hnS : ¬ S w.heap.size := fun e => absurd (h.slt hk _ e) (Nat.lt_irrefl _)
  have hng : w.heap.size ≠ k.g := by have := h.glt; omega
  obtain ⟨g, o, sa, rfl, hg, m0, m1, m2, m3, hrk⟩ := hsl.get 0 c1;simp only [Nat.zero_mul, Nat.add_zero] at m0 m1 m2 m3;have HBG := hid (bgrp_len _ hx);have hal := hrk.len;unfold maxLen at hal;obtain ⟨Ay, capy, rfl⟩ := hrk.slice;have z1 : ((n.kids[0].kids.length : Int) == (1 : Int)) = false := by rw [beq_eq_false_iff_ne]; omega
  have z1' : ((n.kids[0].kids.length : Int) != (1 : Int)) = true := by rw [bne, z1]; rfl
  have z1n : (n.kids[0].kids.length == 1) = false := by simpa using hx
  have w0 := Low.cell h.low m0;have w1 := Low.cell h.low m1;have w2 := Low.cell h.low m2;have w3 := Low.cell h.low m3;have hgw0 : g < w.heap.size := bL w0;have HX := hid hx;have HDX0 := hid (depth_mem (List.getElem_mem (l := n.kids) (n := 0) c1));have c1' : (0 : Int) < (n.kids.length : Int) := by omega
  have HL0 := hid (show LI scriptK scriptB n.kids = (0, true, n.kids[0]) :: (LI scriptK scriptB n.kids).drop 1 by
   have := LI_drop scriptK scriptB n.kids 0 c1;rw [List.drop_zero] at this;rw [← HBG.out];exact this)
  clear m0 m1 m2 m3 hrk hg hx;go_enter Tryz.func88, Tryz.ntmps88;go_wp2_with fail
  refine forget_world (fun W => Fresh w W ∧ Blk W w.heap.size 26 #[.int .i64 n.kind, .string ⟨n.text.toArray⟩, .int .i64 n.cols, .slice (some ⟨g, o, none⟩) n.kids.length cap] ∧ Blk W (w.heap.size + 1) 26 #[.int .i64 n.kids[0].kind, .string ⟨n.kids[0].text.toArray⟩, .int .i64 n.kids[0].cols, .slice Ay n.kids[0].kids.length capy]) ⟨((Touch.refl _ _).alloc _).alloc _, (Blk.new _ _ _).alloc _, Blk.new2 _ _ _ _⟩ ?_;rintro W1 ⟨hf1, hb1', hb2'⟩;have HF1 := hid hf1;have HAT1 := hid (HAT0.out.fresh HK.out hf1);have HMV1 := hid (Mv.fresh (g := k.g) (S := S) hf1);have HB1 := hid hb1';have HP1 := hid (HP0.out.mv HMV1.out);obtain ⟨q0, q1, q2, q3, _, _, _, _, hg4⟩ := Blk.four hb1';obtain ⟨r0, r1, r2, r3, _, _, _, _, hg5⟩ := Blk.four hb2';clear hf1 hb1' hb2' h hp hsl hd hf w0 w1 w2 w3;have Gq0 := cR q0;have Gq1 := cR q1;have Gq2 := cR q2;have Gq3 := cR q3;have Gr0 := cR r0;have Gr1 := cR r1;have Gr2 := cR r2;have Gr3 := cR r3;refine wp_region_mix [([(0, true), (1, true), (2, true), (3, true), (4, true), (5, true), (6, true), (7, true), (8, true), (9, true), (10, true), (11, true), (12, false), (13, true)], 14)] [] (by kernel_rfl) (fun _ _ d _ _ h => by cases d <;> exact h) (by kernel_rfl) ?_;refine wpMix_seg ?_
  repeat (refine wpSeq_plain rfl (fun K hK => ?_); go_simp; refine hK _ ?_; clear hK K)
  refine wpSeq_lone rfl (fun K hK => ?_);go_wp2_with fail
  refine hK _ _ (growing_fresh ((Touch.refl _ _).drewN _)) ?_;clear hK K
  repeat (refine wpSeq_plain rfl (fun K hK => ?_); go_simp; refine hK _ ?_; clear hK K)
  refine wpSeq_shut rfl (fun K hK => ?_);go_wp2_with fail
  have HFL := hid (show f + (0 + 2 * true.toNat + (rowT n.kids[0].kids).length) + segsLen ((LI scriptK scriptB n.kids).drop 1) ≤ k.T.length by
   have h1 := HF.out;rw [HL0.out, segsLen, Tr.segLen_eq] at h1;omega)
  refine (slot_any HK.out n 0 c1 (HI.out n.kids[0] (List.getElem_mem c1)) (HAT1.out.fresh HK.out (show Fresh W1 _ from (Touch.refl _ _).drewN _)) HSL.out (HP1.out.mv (Mv.fresh (show Fresh W1 _ from (Touch.refl _ _).drewN _))) (by have := HD.out; have := HDX0.out; have := HDN.out; omega) true (by have := HFL.out; omega) (by have h1 := HLIM.out; rw [HL0.out, run_cons] at h1; exact HK.out.lim.2 _ _ _ _ _ h1)).mono ?_;rintro _ W7 ⟨rfl, S7, hat, hmv⟩;have HAT7 := hid hat;have HMV7 := hid ((Mv.fresh (g := k.g) (S := S) (show Fresh W1 _ from (Touch.refl _ _).drewN _)).trans hmv);clear hat hmv q0 q1 q2 q3 r0 r1 r2 r3 Gq0 Gq1 Gq2 Gq3 Gr0 Gr1 Gr2 Gr3 z1 z1' z1n;have HB7 := hid (HMV7.out.blk HB1.out hnS hng);obtain ⟨q0, q1, q2, q3, _, _, _, _, hg7⟩ := Blk.four HB7.out.1;go_wp2_with fail
  refine wpMix_end ?_;go_wp2_with fail
  go_loopw [7] (fun i wr => ∃ (j : Nat) (S1 : Nat → Prop) (f1 : Nat) (s1 : σ), i = .int .i64 j ∧ 1 ≤ j ∧ j ≤ n.kids.length ∧ Hid (k.At S1 f1 s1 wr) ∧ Hid (Mv k.g S S1 W1 wr) ∧ Hid (runSegs k.C k.T ((LI scriptK scriptB n.kids).drop j) p j f1 s1 = runSegs k.C k.T (LI scriptK scriptB n.kids) p 0 (f + 0) s) ∧ Hid (f1 + segsLen ((LI scriptK scriptB n.kids).drop j) = f + 0 + segsLen (LI scriptK scriptB n.kids))) (fun i _ => n.kids.length - (intOf i).toNat)
  case atStart => exact ⟨1, S7, f + 2 * true.toNat + (rowT n.kids[0].kids).length, _, rfl, Nat.le_refl _, c1, HAT7, HMV7, by rw [Hid, HL0.out, run_cons, Tr.segLen_eq]; simp only [Nat.zero_add, Nat.add_zero, ← Nat.add_assoc]; rfl, by rw [Hid, HL0.out, segsLen, Tr.segLen_eq]; simp only [List.drop_succ_cons, List.drop_zero]; omega⟩
  case round =>
   clear q0 q1 q2 q3;obtain ⟨j, S1, f1, s1, rfl, hlow, hj, HAT, HMV, HRUN, HLEN⟩ := hrel;have HB := hid (HMV.out.blk HB1.out hnS hng);obtain ⟨q0, q1, q2, q3, _, _, _, _, hg4⟩ := Blk.four HB.out.1
   by_cases c1 : j < n.kids.length
   ·have d1 : decide ((j : Int) < (n.kids.length : Int)) = true := dT (by omega)
    have d1n : decide (j < n.kids.length) = true := dT (by omega);have d1' : (j : Int) < (n.kids.length : Int) := by omega
    obtain ⟨g', o', sx, heq, hg, m0, m1, m2, m3, hrk⟩ := HSL.out.get j c1;cases heq;obtain ⟨Ax, capx', rfl⟩ := hrk.slice;have M0 := hid m0;have M1 := hid m1;have M2 := hid m2;have M3 := hid m3;have HRK0 := hid hrk;have HRK := hid (hrk.low HAT.out.low);have HDX := hid (depth_mem (List.getElem_mem (l := n.kids) (n := j) c1));have HP2 := hid (HP1.out.mv HMV.out);have a0 := Low.cell HAT.out.low m0;have a1 := Low.cell HAT.out.low m1;have a2 := Low.cell HAT.out.low m2;have a3 := Low.cell HAT.out.low m3;have hgw : g < wr.heap.size := bL a0;clear m0 m1 m2 m3 hrk hg;have j0 : ¬ j = 0 := by omega
    have hK1 : scriptK j = 1 := by unfold scriptK; rw [if_neg j0]
    have hB1 : scriptB j n.kids[j] = Tr.grp n.kids[j] := by unfold scriptB; rw [if_neg j0]
    clear j0;have HR2 := hid (show runSegs k.C k.T ((LI scriptK scriptB n.kids).drop (j + 1)) p (j + 1) (f1 + segLen (1, Tr.grp n.kids[j], n.kids[j])) (runRow k.C k.T n.kids[j].kids (p ++ [j]) 0 (f1 + 1 + (Tr.grp n.kids[j]).toNat) s1) = runSegs k.C k.T (LI scriptK scriptB n.kids) p 0 (f + 0) s by rw [← HRUN.out, LI_drop _ _ _ _ c1, hK1, hB1, run_cons]);have HLX := hid (show f1 + ((1 + 2 * (Tr.grp n.kids[j]).toNat + (rowT n.kids[j].kids).length) + segsLen ((LI scriptK scriptB n.kids).drop (j + 1))) = f + 0 + segsLen (LI scriptK scriptB n.kids) by rw [← HLEN.out, LI_drop _ _ _ _ c1, hK1, hB1, segsLen, Tr.segLen_eq]);clear hK1 hB1;obtain ⟨_, b1, _, _, bf⟩ := HAT.out.cells;have hglt := HAT.out.glt;have hb0 : (f1 : Int) ≤ 100000 := by have := HLEN.out; have := HF.out; have := HK.out.len; omega
    have hb1 : 0 ≤ (f1 : Int) := by omega
    have HNX := hid (HAT.out.next HK.out (f' := f1 + 1) ((f1 : Int) + 1) (by omega));have HR3 := hid HRK.out;go_wp2_with fail
    refine forget_world (fun W => k.At S1 (f1 + 1) s1 W ∧ Mv k.g S1 S1 wr W) ⟨HNX.out.1, HNX.out.2⟩ ?_;rintro W2 ⟨hat2, hmv2⟩;have HAT2 := hid hat2;have HMV2 := hid (HMV.out.trans hmv2);have HP3 := hid (HP1.out.mv HMV2.out);have HB2 := hid (HMV2.out.blk HB1.out hnS hng);have HRK2 := hid (HRK0.out.low hat2.low);clear b1 bf hglt hb0 hb1 hat2 hmv2 q0 q1 q2 q3;obtain ⟨q0, q1, q2, q3, _, _, _, _, hg6⟩ := Blk.four HB2.out.1;have a0' := Low.cell HAT2.out.low M0.out;have a1' := Low.cell HAT2.out.low M1.out;have a2' := Low.cell HAT2.out.low M2.out;have a3' := Low.cell HAT2.out.low M3.out;clear a0 a1 a2 a3;have a0 := a0';have a1 := a1';have a2 := a2';have a3 := a3';have hgw2 : g < W2.heap.size := bL a0;clear a0' a1' a2' a3';have g0 := cR q0;have g1 := cR q1;have g2 := cR q2;have g3 := cR q3;have h0 := cR a0;have h1 := cR a1;have h2 := cR a2;have h3 := cR a3;refine wp_region_mix [([(0, true), (1, true), (2, true), (3, true), (4, true), (5, true), (6, true), (7, true), (8, true), (9, false)], 10)] [] (by kernel_rfl) (fun _ _ d _ _ h => by cases d <;> exact h) (by kernel_rfl) ?_;refine wpMix_seg ?_
    repeat (refine wpSeq_plain rfl (fun K hK => ?_); go_simp; refine hK _ ?_; clear hK K)
    refine wpSeq_lone rfl (fun K hK => ?_);go_wp2_with fail
    refine (wgroup_any n.kids[j] _ _ (HRK2.out.fresh (show Fresh W2 _ from (Touch.refl _ _).drewN _))).mono ?_;rintro _ W5 ⟨rfl, hf5⟩;have HF5 := hid (show Fresh W2 W5 from Touch.ofN hf5);clear hf5;go_wp2_with fail
    refine hK _ _ (growing_fresh HF5.out) ?_;clear hK K;refine wpSeq_shut rfl (fun K hK => ?_);go_wp2_with fail
    refine (slot_any HK.out n j c1 (HI.out n.kids[j] (List.getElem_mem c1)) (HAT2.out.fresh HK.out HF5.out) HSL.out (HP3.out.mv (Mv.fresh HF5.out)) (by have := HD.out; have := HDX.out; have := HDN.out; omega) (Tr.grp n.kids[j]) (by have := HLX.out; have := HF.out; omega) (by have h1 := HLIM.out; rw [← HR2.out] at h1; exact HK.out.lim.2 _ _ _ _ _ h1)).mono ?_;rintro _ W8 ⟨rfl, S8, hat, hmv⟩;have HAT8 := hid hat;have HMV8 := hid ((HMV2.out.trans (Mv.fresh HF5.out)).trans hmv);clear hat hmv;clear q0 q1 q2 q3 a0 a1 a2 a3 g0 g1 g2 g3 h0 h1 h2 h3;go_wp2_with fail
    refine wpMix_end ?_;go_wp2_with fail
    go_roundw
    case rel => exact ⟨j + 1, S8, f1 + segLen (1, Tr.grp n.kids[j], n.kids[j]), _, by go_num, by omega, c1, by have := HAT8.out; rw [Tr.segLen_eq, ← Nat.add_assoc, ← Nat.add_assoc]; exact this, HMV8, HR2.out, by rw [Hid, ← HLX.out, Tr.segLen_eq]; omega⟩
    case measure => simp [intOf]; omega
   ·have d1 : decide ((j : Int) < (n.kids.length : Int)) = false := dF (by omega)
    have d1n : decide (j < n.kids.length) = false := dF (by omega);obtain rfl : j = n.kids.length := by omega
    go_wp2_with fail
    first | go_end0 | refine bodyPost_ret (v := .tuple #[]) (results_none rfl _ _ _) rfl ?_
    exact ⟨rfl, S1, by have := HAT.out; have h1 := HLEN.out; have h2 := HRUN.out; rw [LI_end] at h1 h2; rw [run_nil] at h2; rw [segsLen, Nat.add_zero] at h1; rw [h1, h2] at this; exact this, HMV1.out.trans HMV.out⟩
theorem tree_scripts_one {k : Wk σ κ} (hk : k.Good) (n : Nd) (h789 : n.kind = 7 ∨ n.kind = 8 ∨ n.kind = 9) (c1 : 0 < n.kids.length) (x : Nd) (hx : n.kids[0].kids = [x]) (hrows : ∀ a ∈ n.kids, k.RowS a) :
  k.TreeAs n 0 (LI scriptK scriptB n.kids) 0 := by
 have hk3 : (n.kind == 7) = true ∨ ((n.kind == 7) = false ∧ (n.kind == 8) = true) ∨ ((n.kind == 7) = false ∧ (n.kind == 8) = false ∧ (n.kind == 9) = true) := by rcases h789 with h | h | h <;> rw [h] <;> decide
 rcases hk3 with h7 | ⟨h7, h8⟩ | ⟨h7, h8, h9⟩
 all_goals
  clear h789;intro S f s w p v sl h hsl hp hd hf hlim;have HLIM := hid hlim;clear hlim;have hlen := hsl.len;unfold maxLen at hlen;obtain ⟨A, cap, rfl⟩ := hsl.slice;obtain ⟨Ap, capp, rfl⟩ := hp.slice;have HK := hid hk;have HAT0 := hid h;have HP0 := hid hp;have HSL := hid hsl;have HI := hid hrows;have HD := hid hd;have HF := hid hf;have HDN := hid (Tr.depth_kids n);have hnS : ¬ S w.heap.size := fun e => absurd (h.slt hk _ e) (Nat.lt_irrefl _)
  have hng : w.heap.size ≠ k.g := by have := h.glt; omega
  obtain ⟨g, o, sa, rfl, hg, m0, m1, m2, m3, hrk⟩ := hsl.get 0 c1;simp only [Nat.zero_mul, Nat.add_zero] at m0 m1 m2 m3;have HBG := hid (bgrp_one _ x hx);obtain ⟨gx, ox, capx, sx, rfl, x0, x1, x2, x3, hrx⟩ := (show RepL k.W0 [x] sa by rw [← hx]; exact hrk).one;obtain ⟨Ay, capy, rfl⟩ := hrx.slice;have xw0 := Low.cell h.low x0;have xw1 := Low.cell h.low x1;have xw2 := Low.cell h.low x2;have xw3 := Low.cell h.low x3;have hgx : gx < w.heap.size := bL xw0;clear x0 x1 x2 x3 hrx;have w0 := Low.cell h.low m0;have w1 := Low.cell h.low m1;have w2 := Low.cell h.low m2;have w3 := Low.cell h.low m3;have hgw0 : g < w.heap.size := bL w0;have HX := hid hx;have HDX0 := hid (depth_mem (List.getElem_mem (l := n.kids) (n := 0) c1));have c1' : (0 : Int) < (n.kids.length : Int) := by omega
  have HL0 := hid (show LI scriptK scriptB n.kids = (0, (Tr.scripted x), n.kids[0]) :: (LI scriptK scriptB n.kids).drop 1 by
   have := LI_drop scriptK scriptB n.kids 0 c1;rw [List.drop_zero] at this;rw [← HBG.out];exact this)
  clear m0 m1 m2 m3 hrk hg hx;go_enter Tryz.func88, Tryz.ntmps88;go_wp2_with fail
  refine forget_world (fun W => Fresh w W ∧ Blk W w.heap.size 26 #[.int .i64 n.kind, .string ⟨n.text.toArray⟩, .int .i64 n.cols, .slice (some ⟨g, o, none⟩) n.kids.length cap] ∧ Blk W (w.heap.size + 1) 26 #[.int .i64 n.kids[0].kind, .string ⟨n.kids[0].text.toArray⟩, .int .i64 n.kids[0].cols, .slice (some ⟨gx, ox, none⟩) 1 capx]) ⟨((Touch.refl _ _).alloc _).alloc _, (Blk.new _ _ _).alloc _, Blk.new2 _ _ _ _⟩ ?_;rintro W1 ⟨hf1, hb1', hb2'⟩;have HF1 := hid hf1;have HAT1 := hid (HAT0.out.fresh HK.out hf1);have HMV1 := hid (Mv.fresh (g := k.g) (S := S) hf1);have HB1 := hid hb1';have HP1 := hid (HP0.out.mv HMV1.out);obtain ⟨q0, q1, q2, q3, _, _, _, _, hg4⟩ := Blk.four hb1';obtain ⟨r0, r1, r2, r3, _, _, _, _, hg5⟩ := Blk.four hb2';have y0 := hf1.cell xw0 (fun h => h);have y1 := hf1.cell xw1 (fun h => h);have y2 := hf1.cell xw2 (fun h => h);have y3 := hf1.cell xw3 (fun h => h);clear xw0 xw1 xw2 xw3;clear hf1 hb1' hb2' h hp hsl hd hf w0 w1 w2 w3;have Gq0 := cR q0;have Gq1 := cR q1;have Gq2 := cR q2;have Gq3 := cR q3;have Gr0 := cR r0;have Gr1 := cR r1;have Gr2 := cR r2;have Gr3 := cR r3;have Gy0 := cR y0;have Gy1 := cR y1;have Gy2 := cR y2;have Gy3 := cR y3;refine wp_region_mix [([(0, true), (1, true), (2, true), (3, true), (4, true), (5, true), (6, true), (7, true), (8, true), (9, true), (10, true), (11, true), (12, false), (13, true)], 14)] [] (by kernel_rfl) (fun _ _ d _ _ h => by cases d <;> exact h) (by kernel_rfl) ?_;refine wpMix_seg ?_
  repeat (refine wpSeq_plain rfl (fun K hK => ?_); go_simp; refine hK _ ?_; clear hK K)
  refine wpSeq_lone rfl (fun K hK => ?_);go_wp2_with fail
  refine (wscripted_any x _ _).mono ?_;rintro _ W5 ⟨rfl, hf5⟩;have HF5 := hid (show Fresh W1 W5 from Touch.ofN hf5);clear hf5;go_wp2_with fail
  refine hK _ _ (growing_fresh HF5.out) ?_;clear hK K
  repeat (refine wpSeq_plain rfl (fun K hK => ?_); go_simp; refine hK _ ?_; clear hK K)
  refine wpSeq_shut rfl (fun K hK => ?_);go_wp2_with fail
  have HFL := hid (show f + (0 + 2 * (Tr.scripted x).toNat + (rowT n.kids[0].kids).length) + segsLen ((LI scriptK scriptB n.kids).drop 1) ≤ k.T.length by
   have h1 := HF.out;rw [HL0.out, segsLen, Tr.segLen_eq] at h1;omega)
  refine (slot_any HK.out n 0 c1 (HI.out n.kids[0] (List.getElem_mem c1)) (HAT1.out.fresh HK.out HF5.out) HSL.out (HP1.out.mv (Mv.fresh HF5.out)) (by have := HD.out; have := HDX0.out; have := HDN.out; omega) (Tr.scripted x) (by have := HFL.out; omega) (by have h1 := HLIM.out; rw [HL0.out, run_cons] at h1; exact HK.out.lim.2 _ _ _ _ _ h1)).mono ?_;rintro _ W7 ⟨rfl, S7, hat, hmv⟩;have HAT7 := hid hat;have HMV7 := hid ((Mv.fresh (g := k.g) (S := S) HF5.out).trans hmv);clear hat hmv q0 q1 q2 q3 r0 r1 r2 r3 y0 y1 y2 y3 Gq0 Gq1 Gq2 Gq3 Gr0 Gr1 Gr2 Gr3 Gy0 Gy1 Gy2 Gy3;have HB7 := hid (HMV7.out.blk HB1.out hnS hng);obtain ⟨q0, q1, q2, q3, _, _, _, _, hg7⟩ := Blk.four HB7.out.1;go_wp2_with fail
  refine wpMix_end ?_;go_wp2_with fail
  go_loopw [7] (fun i wr => ∃ (j : Nat) (S1 : Nat → Prop) (f1 : Nat) (s1 : σ), i = .int .i64 j ∧ 1 ≤ j ∧ j ≤ n.kids.length ∧ Hid (k.At S1 f1 s1 wr) ∧ Hid (Mv k.g S S1 W1 wr) ∧ Hid (runSegs k.C k.T ((LI scriptK scriptB n.kids).drop j) p j f1 s1 = runSegs k.C k.T (LI scriptK scriptB n.kids) p 0 (f + 0) s) ∧ Hid (f1 + segsLen ((LI scriptK scriptB n.kids).drop j) = f + 0 + segsLen (LI scriptK scriptB n.kids))) (fun i _ => n.kids.length - (intOf i).toNat)
  case atStart => exact ⟨1, S7, f + 2 * (Tr.scripted x).toNat + (rowT n.kids[0].kids).length, _, rfl, Nat.le_refl _, c1, HAT7, HMV7, by rw [Hid, HL0.out, run_cons, Tr.segLen_eq]; simp only [Nat.zero_add, Nat.add_zero, ← Nat.add_assoc]; rfl, by rw [Hid, HL0.out, segsLen, Tr.segLen_eq]; simp only [List.drop_succ_cons, List.drop_zero]; omega⟩
  case round =>
   clear q0 q1 q2 q3;obtain ⟨j, S1, f1, s1, rfl, hlow, hj, HAT, HMV, HRUN, HLEN⟩ := hrel;have HB := hid (HMV.out.blk HB1.out hnS hng);obtain ⟨q0, q1, q2, q3, _, _, _, _, hg4⟩ := Blk.four HB.out.1
   by_cases c1 : j < n.kids.length
   ·have d1 : decide ((j : Int) < (n.kids.length : Int)) = true := dT (by omega)
    have d1n : decide (j < n.kids.length) = true := dT (by omega);have d1' : (j : Int) < (n.kids.length : Int) := by omega
    obtain ⟨g', o', sx, heq, hg, m0, m1, m2, m3, hrk⟩ := HSL.out.get j c1;cases heq;obtain ⟨Ax, capx', rfl⟩ := hrk.slice;have M0 := hid m0;have M1 := hid m1;have M2 := hid m2;have M3 := hid m3;have HRK0 := hid hrk;have HRK := hid (hrk.low HAT.out.low);have HDX := hid (depth_mem (List.getElem_mem (l := n.kids) (n := j) c1));have HP2 := hid (HP1.out.mv HMV.out);have a0 := Low.cell HAT.out.low m0;have a1 := Low.cell HAT.out.low m1;have a2 := Low.cell HAT.out.low m2;have a3 := Low.cell HAT.out.low m3;have hgw : g < wr.heap.size := bL a0;clear m0 m1 m2 m3 hrk hg;have j0 : ¬ j = 0 := by omega
    have hK1 : scriptK j = 1 := by unfold scriptK; rw [if_neg j0]
    have hB1 : scriptB j n.kids[j] = Tr.grp n.kids[j] := by unfold scriptB; rw [if_neg j0]
    clear j0;have HR2 := hid (show runSegs k.C k.T ((LI scriptK scriptB n.kids).drop (j + 1)) p (j + 1) (f1 + segLen (1, Tr.grp n.kids[j], n.kids[j])) (runRow k.C k.T n.kids[j].kids (p ++ [j]) 0 (f1 + 1 + (Tr.grp n.kids[j]).toNat) s1) = runSegs k.C k.T (LI scriptK scriptB n.kids) p 0 (f + 0) s by rw [← HRUN.out, LI_drop _ _ _ _ c1, hK1, hB1, run_cons]);have HLX := hid (show f1 + ((1 + 2 * (Tr.grp n.kids[j]).toNat + (rowT n.kids[j].kids).length) + segsLen ((LI scriptK scriptB n.kids).drop (j + 1))) = f + 0 + segsLen (LI scriptK scriptB n.kids) by rw [← HLEN.out, LI_drop _ _ _ _ c1, hK1, hB1, segsLen, Tr.segLen_eq]);clear hK1 hB1;obtain ⟨_, b1, _, _, bf⟩ := HAT.out.cells;have hglt := HAT.out.glt;have hb0 : (f1 : Int) ≤ 100000 := by have := HLEN.out; have := HF.out; have := HK.out.len; omega
    have hb1 : 0 ≤ (f1 : Int) := by omega
    have HNX := hid (HAT.out.next HK.out (f' := f1 + 1) ((f1 : Int) + 1) (by omega));have HR3 := hid HRK.out;go_wp2_with fail
    refine forget_world (fun W => k.At S1 (f1 + 1) s1 W ∧ Mv k.g S1 S1 wr W) ⟨HNX.out.1, HNX.out.2⟩ ?_;rintro W2 ⟨hat2, hmv2⟩;have HAT2 := hid hat2;have HMV2 := hid (HMV.out.trans hmv2);have HP3 := hid (HP1.out.mv HMV2.out);have HB2 := hid (HMV2.out.blk HB1.out hnS hng);have HRK2 := hid (HRK0.out.low hat2.low);clear b1 bf hglt hb0 hb1 hat2 hmv2 q0 q1 q2 q3;obtain ⟨q0, q1, q2, q3, _, _, _, _, hg6⟩ := Blk.four HB2.out.1;have a0' := Low.cell HAT2.out.low M0.out;have a1' := Low.cell HAT2.out.low M1.out;have a2' := Low.cell HAT2.out.low M2.out;have a3' := Low.cell HAT2.out.low M3.out;clear a0 a1 a2 a3;have a0 := a0';have a1 := a1';have a2 := a2';have a3 := a3';have hgw2 : g < W2.heap.size := bL a0;clear a0' a1' a2' a3';have g0 := cR q0;have g1 := cR q1;have g2 := cR q2;have g3 := cR q3;have h0 := cR a0;have h1 := cR a1;have h2 := cR a2;have h3 := cR a3;refine wp_region_mix [([(0, true), (1, true), (2, true), (3, true), (4, true), (5, true), (6, true), (7, true), (8, true), (9, false)], 10)] [] (by kernel_rfl) (fun _ _ d _ _ h => by cases d <;> exact h) (by kernel_rfl) ?_;refine wpMix_seg ?_
    repeat (refine wpSeq_plain rfl (fun K hK => ?_); go_simp; refine hK _ ?_; clear hK K)
    refine wpSeq_lone rfl (fun K hK => ?_);go_wp2_with fail
    refine (wgroup_any n.kids[j] _ _ (HRK2.out.fresh (show Fresh W2 _ from (Touch.refl _ _).drewN _))).mono ?_;rintro _ W5 ⟨rfl, hf5⟩;have HF5 := hid (show Fresh W2 W5 from Touch.ofN hf5);clear hf5;go_wp2_with fail
    refine hK _ _ (growing_fresh HF5.out) ?_;clear hK K;refine wpSeq_shut rfl (fun K hK => ?_);go_wp2_with fail
    refine (slot_any HK.out n j c1 (HI.out n.kids[j] (List.getElem_mem c1)) (HAT2.out.fresh HK.out HF5.out) HSL.out (HP3.out.mv (Mv.fresh HF5.out)) (by have := HD.out; have := HDX.out; have := HDN.out; omega) (Tr.grp n.kids[j]) (by have := HLX.out; have := HF.out; omega) (by have h1 := HLIM.out; rw [← HR2.out] at h1; exact HK.out.lim.2 _ _ _ _ _ h1)).mono ?_;rintro _ W8 ⟨rfl, S8, hat, hmv⟩;have HAT8 := hid hat;have HMV8 := hid ((HMV2.out.trans (Mv.fresh HF5.out)).trans hmv);clear hat hmv;clear q0 q1 q2 q3 a0 a1 a2 a3 g0 g1 g2 g3 h0 h1 h2 h3;go_wp2_with fail
    refine wpMix_end ?_;go_wp2_with fail
    go_roundw
    case rel => exact ⟨j + 1, S8, f1 + segLen (1, Tr.grp n.kids[j], n.kids[j]), _, by go_num, by omega, c1, by have := HAT8.out; rw [Tr.segLen_eq, ← Nat.add_assoc, ← Nat.add_assoc]; exact this, HMV8, HR2.out, by rw [Hid, ← HLX.out, Tr.segLen_eq]; omega⟩
    case measure => simp [intOf]; omega
   ·have d1 : decide ((j : Int) < (n.kids.length : Int)) = false := dF (by omega)
    have d1n : decide (j < n.kids.length) = false := dF (by omega);obtain rfl : j = n.kids.length := by omega
    go_wp2_with fail
    first | go_end0 | refine bodyPost_ret (v := .tuple #[]) (results_none rfl _ _ _) rfl ?_
    exact ⟨rfl, S1, by have := HAT.out; have h1 := HLEN.out; have h2 := HRUN.out; rw [LI_end] at h1 h2; rw [run_nil] at h2; rw [segsLen, Nat.add_zero] at h1; rw [h1, h2] at this; exact this, HMV1.out.trans HMV.out⟩
variable {σ κ : Type}
theorem Mc.tok {S S' : Nat → Prop} {w w' : World} (h : Mc S S' w w') {p : Addr} {v : Value} (hc : w.cell? p = some v) (hn : ¬ S p.block) : w'.cell? p = some v := h.touch.cell hc hn
theorem runRow_nil (C : Clo σ κ) (T : List Lx.PTok) (p : List Nat) (i f : Nat) (s : σ) : runRow C T [] p i f s = C.off s (p ++ [i]) (Tr.endAt T f) := by rw [runRow]
theorem runRow_cons (C : Clo σ κ) (T : List Lx.PTok) (n : Nd) (ns : List Nd) (p : List Nat) (i f : Nat) (s : σ) :
  runRow C T (n :: ns) p i f s = runRow C T ns p (i + 1) (f + (itemT n).length) (C.done (runSegs C T (segs n) (p ++ [i]) 0 f (C.item (C.off s (p ++ [i]) (Tr.fromAt T f)) (p ++ [i]) (Tr.fromAt T f))) (C.key (C.off s (p ++ [i]) (Tr.fromAt T f))) (Tr.endAt T (f + (itemT n).length))) := by rw [runRow]
theorem row_drop (ks : List Nd) (j : Nat) (h : j < ks.length) : (rowT (ks.drop j)).length = (itemT ks[j]).length + (rowT (ks.drop (j + 1))).length := by
 rw [List.drop_eq_getElem_cons h, Tr.rowT_cons, List.length_append]
theorem path_cat0 {g : Nat} {S : Nat → Prop} {W : World} {A : Option Addr} {cap : Nat} {p : List Nat} (hp : PathIn g S W (.slice A p.length cap) p) (hS : ∀ b, S b → b < W.heap.size) (hg : g < W.heap.size) (hl : p.length ≤ 1000) (i : Nat) :
  Calls Tryz.prog 87 #[.slice (some ⟨W.heap.size + 1, 0, none⟩) 2 2] ((W.alloc (.cells #[.int .i64 (i : Int)] 3)).alloc (.cells #[.slice A p.length cap, .slice (some ⟨W.heap.size, 0, none⟩) 1 1] 46))
   fun e w' => ∃ A' cap', e = .returned (.slice A' (p.length + 1) cap') ∧ PathIn g S w' (.slice A' (p.length + 1) cap') (p ++ [i]) ∧ Fresh W w' := path_cat hp hS hg hl i 0
theorem place_le {k : Wk σ κ} (hk : k.Good) (f : Nat) : Tr.fromAt k.T f ≤ 2000000 ∧ Tr.endAt k.T f ≤ 2000000 := by
 refine ⟨?_, ?_⟩
 ·unfold Tr.fromAt
  cases h : k.T[f]? with
  | none => simp
  | some t => exact (hk.place t (List.mem_of_getElem? h)).1
 ·unfold Tr.endAt
  split
  ·exact Nat.zero_le _
  ·cases h : k.T[f - 1]? with
   | none => simp
   | some t => exact (hk.place t (List.mem_of_getElem? h)).2
theorem row_any {k : Wk σ κ} (hk : k.Good) (a : Nd) (hv : ∀ x ∈ a.kids, 1 ≤ (itemT x).length) (htree : ∀ x ∈ a.kids, k.TreeS x) : k.RowS a := by
 intro S f s w p v sl kd tx cl h hsl hp hd hf hlim;have HLIM := hid hlim;clear hlim;have hdep := Tr.depth_kids a;have hlen := hsl.len;unfold maxLen at hlen;obtain ⟨A, cap, rfl⟩ := hsl.slice;obtain ⟨Ap, capp, rfl⟩ := hp.slice;have HK := hid hk;have HAT0 := hid h;have HP0 := hid hp;have HSL := hid hsl;have HI := hid htree;have HV := hid hv;have HD := hid (show p.length + 2 * Tr.depthL a.kids + 2 ≤ 500 by omega);have HF := hid hf;have hnS : ¬ S w.heap.size := fun e => absurd (h.slt hk _ e) (Nat.lt_irrefl _)
 have hng : w.heap.size ≠ k.g := by have := h.glt; omega
 clear h hp hsl hd hf hdep hv htree;generalize a.kids = ks at *;go_enter Tryz.func63, Tryz.ntmps63;go_wp2_with fail
 refine forget_world (fun W => Fresh w W ∧ Blk W w.heap.size 26 #[kd, tx, cl, .slice A ks.length cap]) ⟨(Touch.refl _ _).alloc _, Blk.new _ _ _⟩ ?_;rintro W1 ⟨hf1, hb1'⟩;have HAT1 := hid (HAT0.out.fresh HK.out hf1);have HMV1 := hid (Mv.fresh (g := k.g) (S := S) hf1);have HB1 := hid hb1';have HP1 := hid (HP0.out.mv HMV1.out);have q3 : W1.cell? ⟨w.heap.size, 3, none⟩ = some (.slice A ks.length cap) := hb1'.cell 3;clear hf1 hb1';go_wp2_with fail
 go_loopw [14] (fun i wr => ∃ (j : Nat) (S1 : Nat → Prop) (f1 : Nat) (s1 : σ), i = .int .i64 j ∧ j ≤ ks.length ∧ Hid (k.At S1 f1 s1 wr) ∧ Hid (Mv k.g S S1 W1 wr) ∧ Hid (runRow k.C k.T (ks.drop j) p j f1 s1 = runRow k.C k.T ks p 0 f s) ∧ Hid (f1 + (rowT (ks.drop j)).length = f + (rowT ks).length)) (fun i _ => ks.length - (intOf i).toNat)
 case atStart => exact ⟨0, S, f, s, rfl, Nat.zero_le _, HAT1, Mv.refl _ _ _, rfl, rfl⟩
 case round =>
  clear q3;obtain ⟨j, S1, f1, s1, rfl, hj, HAT, HMV, HRUN, HLEN⟩ := hrel;have HB := hid (HMV.out.blk HB1.out hnS hng);have q3 : wr.cell? ⟨w.heap.size, 3, none⟩ = some (.slice A ks.length cap) := HB.out.1.cell 3;have hg4 := HB.out.1.lt
  by_cases c1 : j < ks.length
  ·have d1 : decide ((j : Int) < (ks.length : Int)) = true := dT (by omega)
   have d1n : decide (j < ks.length) = true := dT (by omega);have d1' : (j : Int) < (ks.length : Int) := by omega
   obtain ⟨g, o, sx, rfl, hg, m0, m1, m2, m3, hrk⟩ := HSL.out.get j c1;obtain ⟨Ax, capx, rfl⟩ := hrk.slice;have HRK := hid hrk;have HDX := hid (depth_mem (List.getElem_mem (l := ks) (n := j) c1));have a0 := Low.cell HAT.out.low m0;have a1 := Low.cell HAT.out.low m1;have a2 := Low.cell HAT.out.low m2;have a3 := Low.cell HAT.out.low m3;have hgw : g < wr.heap.size := bL a0;have HT := hid (HI.out ks[j] (List.getElem_mem c1));have HPOS := hid (HV.out ks[j] (List.getElem_mem c1))
   have HR2 := hid (show runRow k.C k.T (ks.drop (j + 1)) p (j + 1) (f1 + (itemT ks[j]).length) (k.C.done (runSegs k.C k.T (segs ks[j]) (p ++ [j]) 0 f1 (k.C.item (k.C.off s1 (p ++ [j]) (Tr.fromAt k.T f1)) (p ++ [j]) (Tr.fromAt k.T f1))) (k.C.key (k.C.off s1 (p ++ [j]) (Tr.fromAt k.T f1))) (Tr.endAt k.T (f1 + (itemT ks[j]).length))) = runRow k.C k.T ks p 0 f s by
    rw [← HRUN.out, List.drop_eq_getElem_cons c1, runRow_cons])
   have HL4 := hid (HK.out.lim.1 _ _ _ _ _ (by have h1 := HLIM.out; rw [← HR2.out] at h1; exact h1));have HL3 := hid (HK.out.limd _ _ _ HL4.out);have HL2 := hid (HK.out.lim.2 _ _ _ _ _ HL3.out);have HL1 := hid (HK.out.limi _ _ _ HL2.out);have HLX := hid (show f1 + ((itemT ks[j]).length + (rowT (ks.drop (j + 1))).length) = f + (rowT ks).length by rw [← HLEN.out, row_drop _ _ c1]);have hfl : f1 < k.T.length := by have := HLX.out; have := HF.out; have := HPOS.out; omega
   have HFR := hid (fromAt_eq k.T f1 hfl);obtain ⟨b0, b1, b2, b3, _⟩ := HAT.out.cells;have HGL := hid HAT.out.glt;have hglt := HAT.out.glt;obtain ⟨At, capt, hv, ht⟩ := HAT.out.tok;obtain ⟨rfl, hlt, _, t2, t3⟩ := ht f1 hfl;rw [hv] at b0;rw [← HFR.out] at t2;have hpl := (place_le HK.out f1).1;have hfi : (f1 : Int) < (k.T.length : Int) := by omega
   clear m0 m1 m2 m3 hrk hg HFR t3 ht hv;generalize hpf : Tr.fromAt k.T f1 = pf at *;clear hpf;go_wp2_with fail
   go_quiet (fail)
   refine forget_world (fun W => Fresh wr W ∧ Blk W wr.heap.size 26 #[.int .i64 ks[j].kind, .string ⟨ks[j].text.toArray⟩, .int .i64 ks[j].cols, .slice Ax ks[j].kids.length capx]) ⟨((Touch.refl _ _).alloc _).drewN _, (Blk.new _ _ _).drewN _⟩ ?_;rintro W3 ⟨hf3, hb3⟩;have HAT3 := hid (HAT.out.fresh HK.out hf3);have HP3 := hid ((HP1.out.mv HMV.out).mv (Mv.fresh hf3));have HMV3 := hid (HMV.out.trans (Mv.fresh hf3));have HB3 := hid hb3;have hnS3 : ¬ S1 wr.heap.size := fun e => absurd (HAT.out.slt HK.out _ e) (Nat.lt_irrefl _)
   have hng3 : wr.heap.size ≠ k.g := by omega
   clear hf3 hb3 a0 a1 a2 a3 b0 b1 b2 b3 t2 q3 hglt hlt;go_wp2_with fail
   refine (path_cat0 HP3.out (HAT3.out.slt HK.out) HAT3.out.glt (by have := HD.out; omega) j).mono ?_;rintro _ W4 ⟨A4, cap4, rfl, hp4, hf4⟩;have HAT4 := hid (HAT3.out.fresh HK.out hf4);have HP4 := hid hp4;have HMV4 := hid (HMV3.out.trans (Mv.fresh hf4));have HB4 := hid (HB3.out);have HMVB4 := hid (Mv.fresh (g := k.g) (S := S1) hf4);clear hp4 hf4;obtain ⟨b0, b1, b2, b3, _⟩ := HAT4.out.cells;have hcf := HK.out.callo;go_wp2_with fail
   refine (HK.out.off _ _ _ (p ++ [j]) _ pf HAT4.out.st HP4.out (by have := HD.out; simp only [List.length_append, List.length_singleton]; omega) (by omega) HL1.out).mono ?_;rintro _ W5 ⟨rfl, S5, hst, hmc⟩;have HAT5 := hid (HAT4.out.mc HK.out hmc hst);have HP5 := hid (HP4.out.mv hmc.mv);have HMV5 := hid (HMV4.out.trans hmc.mv);have HMVB5 := hid (HMVB4.out.trans hmc.mv);clear hst hmc b0 b1 b2 b3 hcf;obtain ⟨b0, b1, b2, b3, _⟩ := HAT5.out.cells;have hcf := HK.out.calli;go_wp2_with fail
   refine (HK.out.item _ _ _ (p ++ [j]) _ pf HAT5.out.st HP5.out (by have := HD.out; simp only [List.length_append, List.length_singleton]; omega) (by omega) HL2.out).mono ?_;rintro _ W6 ⟨d, cd, S6, rfl, hst, hmc, hdn⟩;have HAT6 := hid (HAT5.out.mc HK.out hmc hst);have HP6 := hid (HP5.out.mv hmc.mv);have HMV6 := hid (HMV5.out.trans hmc.mv);have HMVB6 := hid (HMVB5.out.trans hmc.mv);have HDN6 := hid hdn;clear hst hmc hdn b0 b1 b2 b3 hcf;obtain ⟨r0, r1, r2, r3, _, _, _, _, hgr⟩ := Blk.four (HMVB6.out.blk HB3.out hnS3 hng3).1;go_wp2_with fail
   refine (HT.out _ _ _ _ (p ++ [j]) _ _ HAT6.out HRK.out HP6.out (by have := HD.out; have := HDX.out; simp only [List.length_append, List.length_singleton]; omega) (by have := HLX.out; have := HF.out; omega) HL3.out).mono ?_;rintro _ W7 ⟨rfl, S7, hat, hmv⟩;have HAT7 := hid hat;have HMV7 := hid (HMV6.out.trans hmv);have HDN7 := hid (HK.out.dnmv _ _ _ _ _ _ _ HDN6.out hmv);clear hat hmv r0 r1 r2 r3 hgr;go_wp2_with fail
   refine (end_any HK.out HAT7.out (by have := HLX.out; have := HF.out; omega)).mono ?_;rintro _ W8 ⟨rfl, hf8⟩;have HAT8 := hid (HAT7.out.fresh HK.out hf8);have HMV8 := hid (HMV7.out.trans (Mv.fresh hf8));have HDN8 := hid (HK.out.dnmv _ _ _ _ _ _ _ HDN7.out (Mv.fresh hf8));have HE8 := hid (place_le HK.out (f1 + (itemT ks[j]).length)).2;clear hf8;have hcf := HK.out.calld _ _ _ _ _ HDN8.out;go_wp2_with fail
   refine (HK.out.done _ _ _ _ _ _ (Tr.endAt k.T (f1 + (itemT ks[j]).length)) HAT8.out.st HDN8.out ((HK.out.kp _).2 _ _ _ _ _ (HK.out.kp0 _ _ _)) HE8.out HL4.out).mono ?_;rintro _ W9 ⟨rfl, S9, hst, hmc⟩;have HAT9 := hid (HAT8.out.mc HK.out hmc hst);have HMV9 := hid (HMV8.out.trans hmc.mv);clear hst hmc hcf;go_wp2_with fail
   go_roundw
   case rel => exact ⟨j + 1, S9, f1 + (itemT ks[j]).length, _, by go_num, c1, HAT9, HMV9, HR2.out, by rw [Hid, ← HLX.out]; omega⟩
   case measure => simp [intOf]; omega
  ·have d1 : decide ((j : Int) < (ks.length : Int)) = false := dF (by omega)
   have d1n : decide (j < ks.length) = false := dF (by omega);obtain rfl : j = ks.length := by omega
   have HR2 := hid (show k.C.off s1 (p ++ [ks.length]) (Tr.endAt k.T f1) = runRow k.C k.T ks p 0 f s by rw [← HRUN.out, List.drop_length, runRow_nil]);have HF1 := hid (show f1 = f + (rowT ks).length by rw [← HLEN.out, List.drop_length, Tr.rowT_nil]; rfl);have HP2 := hid (HP1.out.mv HMV.out);obtain ⟨b0, b1, b2, b3, _⟩ := HAT.out.cells;have hglt := HAT.out.glt;have g3 := cR q3;have h0 := cR b0;have h1 := cR b1;have h2 := cR b2;have h3 := cR b3;have hcf := HK.out.callo;go_wp2_with fail
   refine wp_region_mix [([(0, true), (1, true), (2, true), (3, true), (4, true), (5, true), (6, true), (7, true), (11, true), (8, false), (9, false), (10, false), (12, false)], 13)] [] (by kernel_rfl) (fun _ _ d _ _ h => by cases d <;> exact h) (by kernel_rfl) ?_;refine wpMix_seg ?_
   repeat (refine wpSeq_plain rfl (fun K hK => ?_); go_simp; refine hK _ ?_; clear hK K)
   refine wpSeq_lone rfl (fun K hK => ?_);go_wp2_with fail
   refine hK _ _ (growing_fresh (((Touch.refl _ _).drewN _).alloc _)) ?_;clear hK K;refine wpSeq_lone rfl (fun K hK => ?_);go_wp2_with fail
   refine hK _ _ (growing_fresh ((((Touch.refl _ _).drewN _).alloc _).alloc _)) ?_;clear hK K;refine wpSeq_lone rfl (fun K hK => ?_);go_wp2_with fail
   refine (path_cat HP2.out (HAT.out.slt HK.out) HAT.out.glt (by have := HD.out; omega) ks.length 1).mono ?_;rintro _ W6 ⟨A6, cap6, rfl, hp6, hf6⟩;have HP6 := hid hp6;have HF6 := hid hf6;have HAT6 := hid (HAT.out.fresh HK.out hf6);clear hp6 hf6;go_wp2_with fail
   refine hK _ _ (growing_fresh HF6.out) ?_;clear hK K;refine wpSeq_lone rfl (fun K hK => ?_);go_wp2_with fail
   refine (end_any HK.out HAT6.out (by have := HF.out; have := HF1.out; omega)).mono ?_;rintro _ W7 ⟨rfl, hf7⟩;have HAT7 := hid (HAT6.out.fresh HK.out hf7);have HP7 := hid (HP6.out.mv (Mv.fresh hf7));have HF7 := hid (HF6.out.trans hf7);clear hf7;go_wp2_with fail
   refine hK _ _ (growing_fresh HF7.out) ?_;clear hK K;refine wpSeq_shut rfl (fun K hK => ?_);go_wp2_with fail
   refine (HK.out.off _ _ _ (p ++ [ks.length]) _ (Tr.endAt k.T f1) HAT7.out.st HP7.out (by have := HD.out; simp only [List.length_append, List.length_singleton]; omega) (place_le HK.out f1).2 (by have h1 := HLIM.out; rw [← HR2.out] at h1; exact h1)).mono ?_;rintro _ W8 ⟨rfl, S8, hst, hmc⟩;have HAT8 := hid (HAT7.out.mc HK.out hmc hst);have HMV8 := hid ((HMV.out.trans (Mv.fresh HF7.out)).trans hmc.mv);clear hst hmc;go_wp2_with fail
   refine wpMix_end ?_;go_wp2_with fail
   first | go_end0 | refine bodyPost_ret (v := .tuple #[]) (results_none rfl _ _ _) rfl ?_
   exact ⟨rfl, S8, by have := HAT8.out; rw [HR2.out, HF1.out] at this; exact this, HMV1.out.trans HMV8.out⟩
end Go.Proofs.YtncnoeoicaglaaaGreat
namespace Go.Proofs.YtncnoeoicaglaaaGreat
open Go.RowKit
open Tr (Nd Clo runRow runSegs rowT itemT segs segsLen segLen IsRow View)
variable {σ κ : Type}
theorem placed_from (a : Nat) : ∀ W : List (Lx.Bytes × Lx.Tok), ∀ t ∈ Lx.placed a W, a ≤ t.from_ ∧ t.from_ ≤ t.to_ ∧ t.to_ ≤ a + (Lx.flat W).length := by
 intro W
 induction W generalizing a with
 | nil => intro t ht; cases ht
 | cons x W ih =>
  obtain ⟨g, x⟩ := x;intro t ht;simp only [Lx.placed, Lx.flat, List.length_append] at ht ⊢
  rcases List.mem_cons.1 ht with rfl | ht
  ·simp only; omega
  ·have := ih _ t ht
   omega
theorem placed_len (a : Nat) : ∀ W : List (Lx.Bytes × Lx.Tok), (Lx.placed a W).length = W.length := by
 intro W;have := congrArg List.length (Lx.placed_toks W a);simpa using this
theorem sepd_len (l : List Lx.Tok) (o : Option Lx.Tok) : (Tr.sepd o l).length = l.length := by
 have := congrArg List.length (Tr.sepd_toks l o);simpa using this
theorem printT_len (n : Nd) (h : Tr.valid n = true) : (printT n).length = (rowT n.kids).length := by
 unfold printT;rw [if_pos h, placed_len, sepd_len]
theorem printT_place (n : Nd) (hc : Tr.count n ≤ 1000) : ∀ t ∈ printT n, t.from_ ≤ 2000000 ∧ t.to_ ≤ 2000000 := by
 intro t ht;unfold printT at ht;split at ht
 ·rename_i h
  obtain ⟨h1, h2, h3⟩ := placed_from _ _ t ht;have hf := (row_fits n (Tr.valid_row n h) (by omega)).2;rw [adds_wtext] at hf;have hf' : (Lx.flat (Tr.sepd none (rowT n.kids))).length ≤ 2000000 := hf;omega
 ·cases ht
theorem treeAs_of {k : Wk σ κ} {n : Nd} {m e : Nat} {L : List (Nat × Bool × Nd)} (h : k.TreeAs n m L e) (hl : (itemT n).length = m + segsLen L + e) (hr : ∀ p f s, runSegs k.C k.T (segs n) p 0 f s = runSegs k.C k.T L p 0 (f + m) s) : k.TreeS n := by
 intro S f s w p v sl h1 h2 h3 h4 h5 h6;rw [hr] at h6;have := h S f s w p v sl h1 h2 h3 h4 (by omega) h6;rw [hr, show f + (itemT n).length = f + m + segsLen L + e by omega];exact this
theorem run_head (C : Clo σ κ) (T : List Lx.PTok) (k : Nat) (b : Bool) (a : Nd) (r : List (Nat × Bool × Nd)) : ∀ p f s, runSegs C T ((k + 1, b, a) :: r) p 0 f s = runSegs C T ((k, b, a) :: r) p 0 (f + 1) s := fun p f s => run_shift C T k b a r p 0 f s
theorem tree_any {k : Wk σ κ} (hk : k.Good) (n : Nd) (v : View n) (hrows : ∀ a ∈ n.kids, k.RowS a) : k.TreeS n := by
 have hi := Tr.item_segs n v;cases v with
 | sym t ht => exact treeAs_of (tree_gen hk _ rfl rfl rfl rfl rfl rfl hrows) (by rw [Tr.itemT_sym]; rfl) (fun p f s => by rw [show segs (.mk 2 t 0 []) = [] from rfl, show L0 Tr.grp (Nd.kids (.mk 2 t 0 [])) = [] from rfl, run_nil, run_nil])
 | num t ht => exact treeAs_of (tree_gen hk _ rfl rfl rfl rfl rfl rfl hrows) (by rw [Tr.itemT_num]; rfl) (fun p f s => by rw [show segs (.mk 3 t 0 []) = [] from rfl, show L0 Tr.grp (Nd.kids (.mk 3 t 0 [])) = [] from rfl, run_nil, run_nil])
 | text t ht => exact treeAs_of (tree_gen hk _ rfl rfl rfl rfl rfl rfl hrows) (by rw [Tr.itemT_text]; rfl) (fun p f s => by rw [show segs (.mk 4 t 0 []) = [] from rfl, show L0 Tr.grp (Nd.kids (.mk 4 t 0 [])) = [] from rfl, run_nil, run_nil])
 | frac a b ha hb =>
  have hs : segs (.mk 5 [] 0 [a, b]) = (1, Tr.grp a, a) :: [(0, Tr.grp b, b)] := rfl;have hL : L0 Tr.grp (Nd.kids (.mk 5 [] 0 [a, b])) = (0, Tr.grp a, a) :: [(0, Tr.grp b, b)] := rfl;refine treeAs_of (tree_gen hk _ rfl rfl rfl rfl rfl rfl hrows) ?_ ?_
  ·rw [hi, hs, hL]; simp only [segsLen, segLen, Tr.tailN, Nd.kind, Nd.kids]; simp; omega
  ·rw [hs, hL]; exact run_head _ _ _ _ _ _
 | accent t a ht ha =>
  have hs : segs (.mk 10 t 0 [a]) = (1, Tr.grp a, a) :: [] := rfl;have hL : L0 Tr.grp (Nd.kids (.mk 10 t 0 [a])) = (0, Tr.grp a, a) :: [] := rfl;refine treeAs_of (tree_gen hk _ rfl rfl rfl rfl rfl rfl hrows) ?_ ?_
  ·rw [hi, hs, hL]; simp only [segsLen, segLen, Tr.tailN, Nd.kind, Nd.kids]; simp; omega
  ·rw [hs, hL]; exact run_head _ _ _ _ _ _
 | root a b ha hb =>
  have hs : segs (.mk 6 [] 0 [a, b]) = (1, !a.kids.isEmpty, a) :: [(0, Tr.grp b, b)] := rfl;have hL : LI (fun _ => 0) rootB (Nd.kids (.mk 6 [] 0 [a, b])) = (0, !a.kids.isEmpty, a) :: [(0, Tr.grp b, b)] := rfl;refine treeAs_of (tree_root hk _ rfl hrows) ?_ ?_
  ·rw [hi, hs, hL]; simp only [segsLen, segLen, Tr.tailN, Nd.kind, Nd.kids]; simp; omega
  ·rw [hs, hL]; exact run_head _ _ _ _ _ _
 | sub a b ha hb =>
  have hs : segs (.mk 7 [] 0 [a, b]) = LI scriptK scriptB (Nd.kids (.mk 7 [] 0 [a, b])) := rfl
  have h : k.TreeAs (.mk 7 [] 0 [a, b]) 0 (LI scriptK scriptB (Nd.kids (.mk 7 [] 0 [a, b]))) 0 := by
   by_cases h1 : a.kids.length = 1
   ·obtain ⟨x, hx⟩ := List.length_eq_one_iff.1 h1
    exact tree_scripts_one hk _ (.inl rfl) (by simp [Nd.kids]) x hx hrows
   ·exact tree_scripts_more hk _ (.inl rfl) (by simp [Nd.kids]) h1 hrows
  exact treeAs_of h (by rw [hi, hs]; simp [Tr.tailN, Nd.kind, Nd.kids]) (fun p f s => by rw [hs]; rfl)
 | sup a b ha hb =>
  have hs : segs (.mk 8 [] 0 [a, b]) = LI scriptK scriptB (Nd.kids (.mk 8 [] 0 [a, b])) := rfl
  have h : k.TreeAs (.mk 8 [] 0 [a, b]) 0 (LI scriptK scriptB (Nd.kids (.mk 8 [] 0 [a, b]))) 0 := by
   by_cases h1 : a.kids.length = 1
   ·obtain ⟨x, hx⟩ := List.length_eq_one_iff.1 h1
    exact tree_scripts_one hk _ (.inr (.inl rfl)) (by simp [Nd.kids]) x hx hrows
   ·exact tree_scripts_more hk _ (.inr (.inl rfl)) (by simp [Nd.kids]) h1 hrows
  exact treeAs_of h (by rw [hi, hs]; simp [Tr.tailN, Nd.kind, Nd.kids]) (fun p f s => by rw [hs]; rfl)
 | both a b d ha hb hd =>
  have hs : segs (.mk 9 [] 0 [a, b, d]) = LI scriptK scriptB (Nd.kids (.mk 9 [] 0 [a, b, d])) := rfl
  have h : k.TreeAs (.mk 9 [] 0 [a, b, d]) 0 (LI scriptK scriptB (Nd.kids (.mk 9 [] 0 [a, b, d]))) 0 := by
   by_cases h1 : a.kids.length = 1
   ·obtain ⟨x, hx⟩ := List.length_eq_one_iff.1 h1
    exact tree_scripts_one hk _ (.inr (.inr rfl)) (by simp [Nd.kids]) x hx hrows
   ·exact tree_scripts_more hk _ (.inr (.inr rfl)) (by simp [Nd.kids]) h1 hrows
  exact treeAs_of h (by rw [hi, hs]; simp [Tr.tailN, Nd.kind, Nd.kids]) (fun p f s => by rw [hs]; rfl)
 | fence t a ht ha =>
  by_cases hr : Tr.round 11 t = true
  ·have hs : segs (.mk 11 t 0 [a]) = [(0, true, a)] := by simp [segs, hr]
   have hL : LI (fun _ => 0) (fun _ _ => true) (Nd.kids (.mk 11 t 0 [a])) = [(0, true, a)] := rfl
   have h : k.TreeAs (.mk 11 t 0 [a]) 0 (LI (fun _ => 0) (fun _ _ => true) (Nd.kids (.mk 11 t 0 [a]))) 0 := by
    cases h1 : (t == [40, 41]) with
    | true => exact tree_round hk _ rfl rfl rfl rfl h1 rfl hrows
    | false =>
     refine tree_square hk _ rfl rfl rfl rfl h1 ?_ rfl hrows;unfold Tr.round at hr;rw [h1] at hr;exact hr
   exact treeAs_of h (by rw [hi, hs, hL]; simp [Tr.tailN, Nd.kind, Nd.kids]) (fun p f s => by rw [hs, hL]; rfl)
  ·have hr' : Tr.round 11 t = false := by simpa using hr
   have hs : segs (.mk 11 t 0 [a]) = (1, Tr.grp a, a) :: [] := by simp [segs, hr']
   have hL : L0 Tr.grp (Nd.kids (.mk 11 t 0 [a])) = (0, Tr.grp a, a) :: [] := rfl
   have h12 : (t == [40, 41]) = false ∧ (t == [91, 93]) = false := by
    unfold Tr.round at hr';simpa using hr'
   refine treeAs_of (tree_fence hk _ rfl rfl rfl rfl rfl rfl h12.1 h12.2 hrows) ?_ ?_
   ·rw [hi, hs, hL]; simp only [segsLen, segLen, Tr.tailN, Nd.kind, Nd.kids]; simp; omega
   ·rw [hs, hL]; exact run_head _ _ _ _ _ _
 | matrix c ks hc hn hm h =>
  match ks, hn, h with
  | a :: l, _, _ =>
   have hL : LI (fun _ => 1) (fun _ _ => false) (Nd.kids (.mk 12 [] c (a :: l))) = (1, false, a) :: l.map fun b => (1, false, b) := by
    show LI (fun _ => 1) (fun _ _ => false) (a :: l) = _;unfold LI;exact List.ext_getElem (by simp) (by intro i h1 h2; cases i <;> simp)
   have hs : segs (.mk 12 [] c (a :: l)) = (2, false, a) :: l.map fun b => (1, false, b) := by simp [segs]
   refine treeAs_of (tree_matrix hk _ rfl hrows) ?_ ?_
   ·rw [hi, hs, hL]; simp only [segsLen, segLen, Tr.tailN, Nd.kind]; simp; omega
   ·rw [hs, hL]; exact run_head _ _ _ _ _ _
theorem rows_any {k : Wk σ κ} (hk : k.Good) (m : Nat) : ∀ a : Nd, Tr.count a ≤ m → IsRow a → k.RowS a := by
 induction m with
 | zero => intro a h; have := Tr.count_pos a; omega
 | succ m ih =>
  intro a hc ha;have h1 := Tr.count_kids a;refine row_any hk a (fun x hx => Tr.item_pos x (ha.views x hx)) fun x hx => tree_any hk x (ha.views x hx) fun b hb => ih b ?_ ((ha.views x hx).rows b hb)
  have h2 := Tr.count_mem hx;have h3 := Tr.count_kids x;have h4 := Tr.count_mem hb;omega
end Go.Proofs.YtncnoeoicaglaaaGreat
