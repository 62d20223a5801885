/- Part 8 of 11 of a proof; its texts, joined: SnX, SnR, SnO, SnQ, SnY. No condition. -/
import Derived.Test.YtdacpbdamliafaaJo7
import Derived.Test.YtdacpbdamliafaaJo2

/- The walker's tree at scripts. -/
namespace Go.Proofs.Ytdacpbdamliafaa
open Go.RowKit
open Tr (Nd Clo runRow runSegs rowT itemT segs segsLen segLen)
attribute [local go_sem] stillV stillUpon

variable {σ κ : Type}
theorem bgrp_len (a : Nd) (h : a.kids.length ≠ 1) : Tr.bgrp a = true := by
  unfold Tr.bgrp
  split
  · rename_i x hx; rw [hx] at h; simp at h
  · rfl
theorem bgrp_one (a x : Nd) (h : a.kids = [x]) : Tr.bgrp a = Tr.scripted x := by unfold Tr.bgrp; rw [h]
set_option maxRecDepth 100000 in
set_option maxHeartbeats 4000000 in
theorem tree_scripts7_more {k : Wk σ κ} (hk : k.Good) (n : Nd) (h7 : (n.kind == 7) = true) (c1 : 0 < n.kids.length) (hx : n.kids[0].kids.length ≠ 1) (hrows : ∀ a ∈ n.kids, k.RowS a) :
    k.TreeAs n 0 (LI scriptK scriptB n.kids) 0 := by
  intro S f s w p v sl h hsl hp hd hf hlim
  have HLIM := hid hlim
  clear hlim
  have hlen := hsl.len
  unfold maxLen at hlen
  obtain ⟨A, cap, rfl⟩ := hsl.slice
  obtain ⟨Ap, capp, rfl⟩ := hp.slice
  have HK := hid hk
  have HAT0 := hid h
  have HP0 := hid hp
  have HSL := hid hsl
  have HI := hid hrows
  have HD := hid hd
  have HF := hid hf
  have HDN := hid (Tr.depth_kids n)
  have hnS : ¬ S w.heap.size := fun e => absurd (h.slt hk _ e) (Nat.lt_irrefl _)
  have hng : w.heap.size ≠ k.g := by have := h.glt; omega
  obtain ⟨g, o, sa, rfl, hg, m0, m1, m2, m3, hrk⟩ := hsl.get 0 c1
  simp only [Nat.zero_mul, Nat.add_zero] at m0 m1 m2 m3
  have HBG := hid (bgrp_len _ hx)
  have hal := hrk.len
  unfold maxLen at hal
  obtain ⟨Ay, capy, rfl⟩ := hrk.slice
  have z1 : ((n.kids[0].kids.length : Int) == (1 : Int)) = false := by rw [beq_eq_false_iff_ne]; omega
  have z1' : ((n.kids[0].kids.length : Int) != (1 : Int)) = true := by rw [bne, z1]; rfl
  have z1n : (n.kids[0].kids.length == 1) = false := by simpa using hx
  have w0 := Low.cell h.low m0
  have w1 := Low.cell h.low m1
  have w2 := Low.cell h.low m2
  have w3 := Low.cell h.low m3
  have hgw0 : g < w.heap.size := block_lt_of_cell w0
  have HX := hid hx
  have HDX0 := hid (depth_mem (List.getElem_mem (l := n.kids) (n := 0) c1))
  have c1' : (0 : Int) < (n.kids.length : Int) := by omega
  have HL0 := hid (show LI scriptK scriptB n.kids = (0, true, n.kids[0]) :: (LI scriptK scriptB n.kids).drop 1 by
    have := LI_drop scriptK scriptB n.kids 0 c1
    rw [List.drop_zero] at this
    rw [← HBG.out]
    exact this)
  clear m0 m1 m2 m3 hrk hg hx
  go_enter Try.func47, Try.ntmps47
  go_wp2_with fail
  refine forget_world (fun W => Fresh w W ∧ Blk W w.heap.size 24 #[.int .i64 n.kind, .string ⟨n.text.toArray⟩, .int .i64 n.cols, .slice (some ⟨g, o, none⟩) n.kids.length cap] ∧ Blk W (w.heap.size + 1) 24 #[.int .i64 n.kids[0].kind, .string ⟨n.kids[0].text.toArray⟩, .int .i64 n.kids[0].cols, .slice Ay n.kids[0].kids.length capy]) ⟨((Touch.refl _ _).alloc _).alloc _, (Blk.new _ _ _).alloc _, Blk.new2 _ _ _ _⟩ ?_
  rintro W1 ⟨hf1, hb1', hb2'⟩
  have HF1 := hid hf1
  have HAT1 := hid (HAT0.out.fresh HK.out hf1)
  have HMV1 := hid (Mv.fresh (g := k.g) (S := S) hf1)
  have HB1 := hid hb1'
  have HP1 := hid (HP0.out.mv HMV1.out)
  obtain ⟨q0, q1, q2, q3, _, _, _, _, hg4⟩ := Blk.four hb1'
  obtain ⟨r0, r1, r2, r3, _, _, _, _, hg5⟩ := Blk.four hb2'
  clear hf1 hb1' hb2' h hp hsl hd hf w0 w1 w2 w3
  have Gq0 := cell_regrown q0
  have Gq1 := cell_regrown q1
  have Gq2 := cell_regrown q2
  have Gq3 := cell_regrown q3
  have Gr0 := cell_regrown r0
  have Gr1 := cell_regrown r1
  have Gr2 := cell_regrown r2
  have Gr3 := cell_regrown r3
  refine wp_region_mix [([(0, true), (1, true), (2, true), (3, true), (4, true), (5, true), (6, true), (7, true), (8, true), (9, true), (10, true), (11, true), (12, false), (13, true)], 14)] [] (by kernel_rfl) (fun _ _ d _ _ h => by cases d <;> exact h) (by kernel_rfl) ?_
  refine wpMix_seg ?_
  repeat (refine wpSeq_plain rfl (fun K hK => ?_); go_simp; refine hK _ ?_; clear hK K)
  refine wpSeq_lone rfl (fun K hK => ?_)
  go_wp2_with fail
  refine hK _ _ (growing_fresh ((Touch.refl _ _).drewN _)) ?_
  clear hK K
  repeat (refine wpSeq_plain rfl (fun K hK => ?_); go_simp; refine hK _ ?_; clear hK K)
  refine wpSeq_shut rfl (fun K hK => ?_)
  go_wp2_with fail
  have HFL := hid (show f + (0 + 2 * true.toNat + (rowT n.kids[0].kids).length) + segsLen ((LI scriptK scriptB n.kids).drop 1) ≤ k.T.length by
    have h1 := HF.out
    rw [HL0.out, segsLen, Tr.segLen_eq] at h1
    omega)
  refine (slot_any HK.out n 0 c1 (HI.out n.kids[0] (List.getElem_mem c1)) (HAT1.out.fresh HK.out (show Fresh W1 _ from (Touch.refl _ _).drewN _)) HSL.out (HP1.out.mv (Mv.fresh (show Fresh W1 _ from (Touch.refl _ _).drewN _))) (by have := HD.out; have := HDX0.out; have := HDN.out; omega) true (by have := HFL.out; omega) (by have h1 := HLIM.out; rw [HL0.out, run_cons] at h1; exact HK.out.lim.2 _ _ _ _ _ h1)).mono ?_
  rintro _ W7 ⟨rfl, S7, hat, hmv⟩
  have HAT7 := hid hat
  have HMV7 := hid ((Mv.fresh (g := k.g) (S := S) (show Fresh W1 _ from (Touch.refl _ _).drewN _)).trans hmv)
  clear hat hmv q0 q1 q2 q3 r0 r1 r2 r3 Gq0 Gq1 Gq2 Gq3 Gr0 Gr1 Gr2 Gr3 z1 z1' z1n
  have HB7 := hid (HMV7.out.blk HB1.out hnS hng)
  obtain ⟨q0, q1, q2, q3, _, _, _, _, hg7⟩ := Blk.four HB7.out.1
  go_wp2_with fail
  refine wpMix_end ?_
  go_wp2_with fail
  go_loopw [7] (fun i wr => ∃ (j : Nat) (S1 : Nat → Prop) (f1 : Nat) (s1 : σ), i = .int .i64 j ∧ 1 ≤ j ∧ j ≤ n.kids.length ∧ Hid (k.At S1 f1 s1 wr) ∧ Hid (Mv k.g S S1 W1 wr) ∧ Hid (runSegs k.C k.T ((LI scriptK scriptB n.kids).drop j) p j f1 s1 = runSegs k.C k.T (LI scriptK scriptB n.kids) p 0 (f + 0) s) ∧ Hid (f1 + segsLen ((LI scriptK scriptB n.kids).drop j) = f + 0 + segsLen (LI scriptK scriptB n.kids))) (fun i _ => n.kids.length - (intOf i).toNat)
  case atStart => exact ⟨1, S7, f + 2 * true.toNat + (rowT n.kids[0].kids).length, _, rfl, Nat.le_refl _, c1, HAT7, HMV7, by rw [Hid, HL0.out, run_cons, Tr.segLen_eq]; simp only [Nat.zero_add, Nat.add_zero, ← Nat.add_assoc]; rfl, by rw [Hid, HL0.out, segsLen, Tr.segLen_eq]; simp only [List.drop_succ_cons, List.drop_zero]; omega⟩
  case round =>
    clear q0 q1 q2 q3
    obtain ⟨j, S1, f1, s1, rfl, hlow, hj, HAT, HMV, HRUN, HLEN⟩ := hrel
    have HB := hid (HMV.out.blk HB1.out hnS hng)
    obtain ⟨q0, q1, q2, q3, _, _, _, _, hg4⟩ := Blk.four HB.out.1
    by_cases c1 : j < n.kids.length
    · have d1 : decide ((j : Int) < (n.kids.length : Int)) = true := by simp only [decide_eq_true_eq]; omega
      have d1n : decide (j < n.kids.length) = true := by simp only [decide_eq_true_eq]; omega
      have d1' : (j : Int) < (n.kids.length : Int) := by omega
      obtain ⟨g', o', sx, heq, hg, m0, m1, m2, m3, hrk⟩ := HSL.out.get j c1
      cases heq
      obtain ⟨Ax, capx', rfl⟩ := hrk.slice
      have M0 := hid m0
      have M1 := hid m1
      have M2 := hid m2
      have M3 := hid m3
      have HRK0 := hid hrk
      have HRK := hid (hrk.low HAT.out.low)
      have HDX := hid (depth_mem (List.getElem_mem (l := n.kids) (n := j) c1))
      have HP2 := hid (HP1.out.mv HMV.out)
      have a0 := Low.cell HAT.out.low m0
      have a1 := Low.cell HAT.out.low m1
      have a2 := Low.cell HAT.out.low m2
      have a3 := Low.cell HAT.out.low m3
      have hgw : g < wr.heap.size := block_lt_of_cell a0
      clear m0 m1 m2 m3 hrk hg
      have j0 : ¬ j = 0 := by omega
      have hK1 : scriptK j = 1 := by unfold scriptK; rw [if_neg j0]
      have hB1 : scriptB j n.kids[j] = Tr.grp n.kids[j] := by unfold scriptB; rw [if_neg j0]
      clear j0
      have HR2 := hid (show runSegs k.C k.T ((LI scriptK scriptB n.kids).drop (j + 1)) p (j + 1) (f1 + segLen (1, Tr.grp n.kids[j], n.kids[j])) (runRow k.C k.T n.kids[j].kids (p ++ [j]) 0 (f1 + 1 + (Tr.grp n.kids[j]).toNat) s1) = runSegs k.C k.T (LI scriptK scriptB n.kids) p 0 (f + 0) s by rw [← HRUN.out, LI_drop _ _ _ _ c1, hK1, hB1, run_cons])
      have HLX := hid (show f1 + ((1 + 2 * (Tr.grp n.kids[j]).toNat + (rowT n.kids[j].kids).length) + segsLen ((LI scriptK scriptB n.kids).drop (j + 1))) = f + 0 + segsLen (LI scriptK scriptB n.kids) by rw [← HLEN.out, LI_drop _ _ _ _ c1, hK1, hB1, segsLen, Tr.segLen_eq])
      clear hK1 hB1
      obtain ⟨_, b1, _, _, bf⟩ := HAT.out.cells
      have hglt := HAT.out.glt
      have hb0 : (f1 : Int) ≤ 100000 := by have := HLEN.out; have := HF.out; have := HK.out.len; omega
      have hb1 : 0 ≤ (f1 : Int) := by omega
      have HNX := hid (HAT.out.next HK.out (f' := f1 + 1) ((f1 : Int) + 1) (by omega))
      have HR3 := hid HRK.out
      go_wp2_with fail
      refine forget_world (fun W => k.At S1 (f1 + 1) s1 W ∧ Mv k.g S1 S1 wr W) ⟨HNX.out.1, HNX.out.2⟩ ?_
      rintro W2 ⟨hat2, hmv2⟩
      have HAT2 := hid hat2
      have HMV2 := hid (HMV.out.trans hmv2)
      have HP3 := hid (HP1.out.mv HMV2.out)
      have HB2 := hid (HMV2.out.blk HB1.out hnS hng)
      have HRK2 := hid (HRK0.out.low hat2.low)
      clear b1 bf hglt hb0 hb1 hat2 hmv2 q0 q1 q2 q3
      obtain ⟨q0, q1, q2, q3, _, _, _, _, hg6⟩ := Blk.four HB2.out.1
      have a0' := Low.cell HAT2.out.low M0.out
      have a1' := Low.cell HAT2.out.low M1.out
      have a2' := Low.cell HAT2.out.low M2.out
      have a3' := Low.cell HAT2.out.low M3.out
      clear a0 a1 a2 a3
      have a0 := a0'
      have a1 := a1'
      have a2 := a2'
      have a3 := a3'
      have hgw2 : g < W2.heap.size := block_lt_of_cell a0
      clear a0' a1' a2' a3'
      have g0 := cell_regrown q0
      have g1 := cell_regrown q1
      have g2 := cell_regrown q2
      have g3 := cell_regrown q3
      have h0 := cell_regrown a0
      have h1 := cell_regrown a1
      have h2 := cell_regrown a2
      have h3 := cell_regrown a3
      refine wp_region_mix [([(0, true), (1, true), (2, true), (3, true), (4, true), (5, true), (6, true), (7, true), (8, true), (9, false)], 10)] [] (by kernel_rfl) (fun _ _ d _ _ h => by cases d <;> exact h) (by kernel_rfl) ?_
      refine wpMix_seg ?_
      repeat (refine wpSeq_plain rfl (fun K hK => ?_); go_simp; refine hK _ ?_; clear hK K)
      refine wpSeq_lone rfl (fun K hK => ?_)
      go_wp2_with fail
      refine (wgroup_any n.kids[j] _ _ (HRK2.out.fresh (show Fresh W2 _ from (Touch.refl _ _).drewN _))).mono ?_
      rintro _ W5 ⟨rfl, hf5⟩
      have HF5 := hid (show Fresh W2 W5 from Touch.ofN hf5)
      clear hf5
      go_wp2_with fail
      refine hK _ _ (growing_fresh HF5.out) ?_
      clear hK K
      refine wpSeq_shut rfl (fun K hK => ?_)
      go_wp2_with fail
      refine (slot_any HK.out n j c1 (HI.out n.kids[j] (List.getElem_mem c1)) (HAT2.out.fresh HK.out HF5.out) HSL.out (HP3.out.mv (Mv.fresh HF5.out)) (by have := HD.out; have := HDX.out; have := HDN.out; omega) (Tr.grp n.kids[j]) (by have := HLX.out; have := HF.out; omega) (by have h1 := HLIM.out; rw [← HR2.out] at h1; exact HK.out.lim.2 _ _ _ _ _ h1)).mono ?_
      rintro _ W8 ⟨rfl, S8, hat, hmv⟩
      have HAT8 := hid hat
      have HMV8 := hid ((HMV2.out.trans (Mv.fresh HF5.out)).trans hmv)
      clear hat hmv
      clear q0 q1 q2 q3 a0 a1 a2 a3 g0 g1 g2 g3 h0 h1 h2 h3
      go_wp2_with fail
      refine wpMix_end ?_
      go_wp2_with fail
      go_roundw
      case rel => exact ⟨j + 1, S8, f1 + segLen (1, Tr.grp n.kids[j], n.kids[j]), _, by go_num, by omega, c1, by have := HAT8.out; rw [Tr.segLen_eq, ← Nat.add_assoc, ← Nat.add_assoc]; exact this, HMV8, HR2.out, by rw [Hid, ← HLX.out, Tr.segLen_eq]; omega⟩
      case measure => simp [intOf]; omega
    · have d1 : decide ((j : Int) < (n.kids.length : Int)) = false := by simp only [decide_eq_false_iff_not]; omega
      have d1n : decide (j < n.kids.length) = false := by simp only [decide_eq_false_iff_not]; omega
      obtain rfl : j = n.kids.length := by omega
      go_wp2_with fail
      first | go_end0 | refine bodyPost_ret (v := .tuple #[]) (results_none rfl _ _ _) rfl ?_
      exact ⟨rfl, S1, by have := HAT.out; have h1 := HLEN.out; have h2 := HRUN.out; rw [LI_end] at h1 h2; rw [run_nil] at h2; rw [segsLen, Nat.add_zero] at h1; rw [h1, h2] at this; exact this, HMV1.out.trans HMV.out⟩
set_option maxRecDepth 100000 in
set_option maxHeartbeats 4000000 in
theorem tree_scripts7_one {k : Wk σ κ} (hk : k.Good) (n : Nd) (h7 : (n.kind == 7) = true) (c1 : 0 < n.kids.length) (x : Nd) (hx : n.kids[0].kids = [x]) (hrows : ∀ a ∈ n.kids, k.RowS a) :
    k.TreeAs n 0 (LI scriptK scriptB n.kids) 0 := by
  intro S f s w p v sl h hsl hp hd hf hlim
  have HLIM := hid hlim
  clear hlim
  have hlen := hsl.len
  unfold maxLen at hlen
  obtain ⟨A, cap, rfl⟩ := hsl.slice
  obtain ⟨Ap, capp, rfl⟩ := hp.slice
  have HK := hid hk
  have HAT0 := hid h
  have HP0 := hid hp
  have HSL := hid hsl
  have HI := hid hrows
  have HD := hid hd
  have HF := hid hf
  have HDN := hid (Tr.depth_kids n)
  have hnS : ¬ S w.heap.size := fun e => absurd (h.slt hk _ e) (Nat.lt_irrefl _)
  have hng : w.heap.size ≠ k.g := by have := h.glt; omega
  obtain ⟨g, o, sa, rfl, hg, m0, m1, m2, m3, hrk⟩ := hsl.get 0 c1
  simp only [Nat.zero_mul, Nat.add_zero] at m0 m1 m2 m3
  have HBG := hid (bgrp_one _ x hx)
  obtain ⟨gx, ox, capx, sx, rfl, x0, x1, x2, x3, hrx⟩ := (show RepL k.W0 [x] sa by rw [← hx]; exact hrk).one
  obtain ⟨Ay, capy, rfl⟩ := hrx.slice
  have xw0 := Low.cell h.low x0
  have xw1 := Low.cell h.low x1
  have xw2 := Low.cell h.low x2
  have xw3 := Low.cell h.low x3
  have hgx : gx < w.heap.size := block_lt_of_cell xw0
  clear x0 x1 x2 x3 hrx
  have w0 := Low.cell h.low m0
  have w1 := Low.cell h.low m1
  have w2 := Low.cell h.low m2
  have w3 := Low.cell h.low m3
  have hgw0 : g < w.heap.size := block_lt_of_cell w0
  have HX := hid hx
  have HDX0 := hid (depth_mem (List.getElem_mem (l := n.kids) (n := 0) c1))
  have c1' : (0 : Int) < (n.kids.length : Int) := by omega
  have HL0 := hid (show LI scriptK scriptB n.kids = (0, (Tr.scripted x), n.kids[0]) :: (LI scriptK scriptB n.kids).drop 1 by
    have := LI_drop scriptK scriptB n.kids 0 c1
    rw [List.drop_zero] at this
    rw [← HBG.out]
    exact this)
  clear m0 m1 m2 m3 hrk hg hx
  go_enter Try.func47, Try.ntmps47
  go_wp2_with fail
  refine forget_world (fun W => Fresh w W ∧ Blk W w.heap.size 24 #[.int .i64 n.kind, .string ⟨n.text.toArray⟩, .int .i64 n.cols, .slice (some ⟨g, o, none⟩) n.kids.length cap] ∧ Blk W (w.heap.size + 1) 24 #[.int .i64 n.kids[0].kind, .string ⟨n.kids[0].text.toArray⟩, .int .i64 n.kids[0].cols, .slice (some ⟨gx, ox, none⟩) 1 capx]) ⟨((Touch.refl _ _).alloc _).alloc _, (Blk.new _ _ _).alloc _, Blk.new2 _ _ _ _⟩ ?_
  rintro W1 ⟨hf1, hb1', hb2'⟩
  have HF1 := hid hf1
  have HAT1 := hid (HAT0.out.fresh HK.out hf1)
  have HMV1 := hid (Mv.fresh (g := k.g) (S := S) hf1)
  have HB1 := hid hb1'
  have HP1 := hid (HP0.out.mv HMV1.out)
  obtain ⟨q0, q1, q2, q3, _, _, _, _, hg4⟩ := Blk.four hb1'
  obtain ⟨r0, r1, r2, r3, _, _, _, _, hg5⟩ := Blk.four hb2'
  have y0 := hf1.cell xw0 (fun h => h)
  have y1 := hf1.cell xw1 (fun h => h)
  have y2 := hf1.cell xw2 (fun h => h)
  have y3 := hf1.cell xw3 (fun h => h)
  clear xw0 xw1 xw2 xw3
  clear hf1 hb1' hb2' h hp hsl hd hf w0 w1 w2 w3
  have Gq0 := cell_regrown q0
  have Gq1 := cell_regrown q1
  have Gq2 := cell_regrown q2
  have Gq3 := cell_regrown q3
  have Gr0 := cell_regrown r0
  have Gr1 := cell_regrown r1
  have Gr2 := cell_regrown r2
  have Gr3 := cell_regrown r3
  have Gy0 := cell_regrown y0
  have Gy1 := cell_regrown y1
  have Gy2 := cell_regrown y2
  have Gy3 := cell_regrown y3
  refine wp_region_mix [([(0, true), (1, true), (2, true), (3, true), (4, true), (5, true), (6, true), (7, true), (8, true), (9, true), (10, true), (11, true), (12, false), (13, true)], 14)] [] (by kernel_rfl) (fun _ _ d _ _ h => by cases d <;> exact h) (by kernel_rfl) ?_
  refine wpMix_seg ?_
  repeat (refine wpSeq_plain rfl (fun K hK => ?_); go_simp; refine hK _ ?_; clear hK K)
  refine wpSeq_lone rfl (fun K hK => ?_)
  go_wp2_with fail
  refine (wscripted_any x _ _).mono ?_
  rintro _ W5 ⟨rfl, hf5⟩
  have HF5 := hid (show Fresh W1 W5 from Touch.ofN hf5)
  clear hf5
  go_wp2_with fail
  refine hK _ _ (growing_fresh HF5.out) ?_
  clear hK K
  repeat (refine wpSeq_plain rfl (fun K hK => ?_); go_simp; refine hK _ ?_; clear hK K)
  refine wpSeq_shut rfl (fun K hK => ?_)
  go_wp2_with fail
  have HFL := hid (show f + (0 + 2 * (Tr.scripted x).toNat + (rowT n.kids[0].kids).length) + segsLen ((LI scriptK scriptB n.kids).drop 1) ≤ k.T.length by
    have h1 := HF.out
    rw [HL0.out, segsLen, Tr.segLen_eq] at h1
    omega)
  refine (slot_any HK.out n 0 c1 (HI.out n.kids[0] (List.getElem_mem c1)) (HAT1.out.fresh HK.out HF5.out) HSL.out (HP1.out.mv (Mv.fresh HF5.out)) (by have := HD.out; have := HDX0.out; have := HDN.out; omega) (Tr.scripted x) (by have := HFL.out; omega) (by have h1 := HLIM.out; rw [HL0.out, run_cons] at h1; exact HK.out.lim.2 _ _ _ _ _ h1)).mono ?_
  rintro _ W7 ⟨rfl, S7, hat, hmv⟩
  have HAT7 := hid hat
  have HMV7 := hid ((Mv.fresh (g := k.g) (S := S) HF5.out).trans hmv)
  clear hat hmv q0 q1 q2 q3 r0 r1 r2 r3 y0 y1 y2 y3 Gq0 Gq1 Gq2 Gq3 Gr0 Gr1 Gr2 Gr3 Gy0 Gy1 Gy2 Gy3
  have HB7 := hid (HMV7.out.blk HB1.out hnS hng)
  obtain ⟨q0, q1, q2, q3, _, _, _, _, hg7⟩ := Blk.four HB7.out.1
  go_wp2_with fail
  refine wpMix_end ?_
  go_wp2_with fail
  go_loopw [7] (fun i wr => ∃ (j : Nat) (S1 : Nat → Prop) (f1 : Nat) (s1 : σ), i = .int .i64 j ∧ 1 ≤ j ∧ j ≤ n.kids.length ∧ Hid (k.At S1 f1 s1 wr) ∧ Hid (Mv k.g S S1 W1 wr) ∧ Hid (runSegs k.C k.T ((LI scriptK scriptB n.kids).drop j) p j f1 s1 = runSegs k.C k.T (LI scriptK scriptB n.kids) p 0 (f + 0) s) ∧ Hid (f1 + segsLen ((LI scriptK scriptB n.kids).drop j) = f + 0 + segsLen (LI scriptK scriptB n.kids))) (fun i _ => n.kids.length - (intOf i).toNat)
  case atStart => exact ⟨1, S7, f + 2 * (Tr.scripted x).toNat + (rowT n.kids[0].kids).length, _, rfl, Nat.le_refl _, c1, HAT7, HMV7, by rw [Hid, HL0.out, run_cons, Tr.segLen_eq]; simp only [Nat.zero_add, Nat.add_zero, ← Nat.add_assoc]; rfl, by rw [Hid, HL0.out, segsLen, Tr.segLen_eq]; simp only [List.drop_succ_cons, List.drop_zero]; omega⟩
  case round =>
    clear q0 q1 q2 q3
    obtain ⟨j, S1, f1, s1, rfl, hlow, hj, HAT, HMV, HRUN, HLEN⟩ := hrel
    have HB := hid (HMV.out.blk HB1.out hnS hng)
    obtain ⟨q0, q1, q2, q3, _, _, _, _, hg4⟩ := Blk.four HB.out.1
    by_cases c1 : j < n.kids.length
    · have d1 : decide ((j : Int) < (n.kids.length : Int)) = true := by simp only [decide_eq_true_eq]; omega
      have d1n : decide (j < n.kids.length) = true := by simp only [decide_eq_true_eq]; omega
      have d1' : (j : Int) < (n.kids.length : Int) := by omega
      obtain ⟨g', o', sx, heq, hg, m0, m1, m2, m3, hrk⟩ := HSL.out.get j c1
      cases heq
      obtain ⟨Ax, capx', rfl⟩ := hrk.slice
      have M0 := hid m0
      have M1 := hid m1
      have M2 := hid m2
      have M3 := hid m3
      have HRK0 := hid hrk
      have HRK := hid (hrk.low HAT.out.low)
      have HDX := hid (depth_mem (List.getElem_mem (l := n.kids) (n := j) c1))
      have HP2 := hid (HP1.out.mv HMV.out)
      have a0 := Low.cell HAT.out.low m0
      have a1 := Low.cell HAT.out.low m1
      have a2 := Low.cell HAT.out.low m2
      have a3 := Low.cell HAT.out.low m3
      have hgw : g < wr.heap.size := block_lt_of_cell a0
      clear m0 m1 m2 m3 hrk hg
      have j0 : ¬ j = 0 := by omega
      have hK1 : scriptK j = 1 := by unfold scriptK; rw [if_neg j0]
      have hB1 : scriptB j n.kids[j] = Tr.grp n.kids[j] := by unfold scriptB; rw [if_neg j0]
      clear j0
      have HR2 := hid (show runSegs k.C k.T ((LI scriptK scriptB n.kids).drop (j + 1)) p (j + 1) (f1 + segLen (1, Tr.grp n.kids[j], n.kids[j])) (runRow k.C k.T n.kids[j].kids (p ++ [j]) 0 (f1 + 1 + (Tr.grp n.kids[j]).toNat) s1) = runSegs k.C k.T (LI scriptK scriptB n.kids) p 0 (f + 0) s by rw [← HRUN.out, LI_drop _ _ _ _ c1, hK1, hB1, run_cons])
      have HLX := hid (show f1 + ((1 + 2 * (Tr.grp n.kids[j]).toNat + (rowT n.kids[j].kids).length) + segsLen ((LI scriptK scriptB n.kids).drop (j + 1))) = f + 0 + segsLen (LI scriptK scriptB n.kids) by rw [← HLEN.out, LI_drop _ _ _ _ c1, hK1, hB1, segsLen, Tr.segLen_eq])
      clear hK1 hB1
      obtain ⟨_, b1, _, _, bf⟩ := HAT.out.cells
      have hglt := HAT.out.glt
      have hb0 : (f1 : Int) ≤ 100000 := by have := HLEN.out; have := HF.out; have := HK.out.len; omega
      have hb1 : 0 ≤ (f1 : Int) := by omega
      have HNX := hid (HAT.out.next HK.out (f' := f1 + 1) ((f1 : Int) + 1) (by omega))
      have HR3 := hid HRK.out
      go_wp2_with fail
      refine forget_world (fun W => k.At S1 (f1 + 1) s1 W ∧ Mv k.g S1 S1 wr W) ⟨HNX.out.1, HNX.out.2⟩ ?_
      rintro W2 ⟨hat2, hmv2⟩
      have HAT2 := hid hat2
      have HMV2 := hid (HMV.out.trans hmv2)
      have HP3 := hid (HP1.out.mv HMV2.out)
      have HB2 := hid (HMV2.out.blk HB1.out hnS hng)
      have HRK2 := hid (HRK0.out.low hat2.low)
      clear b1 bf hglt hb0 hb1 hat2 hmv2 q0 q1 q2 q3
      obtain ⟨q0, q1, q2, q3, _, _, _, _, hg6⟩ := Blk.four HB2.out.1
      have a0' := Low.cell HAT2.out.low M0.out
      have a1' := Low.cell HAT2.out.low M1.out
      have a2' := Low.cell HAT2.out.low M2.out
      have a3' := Low.cell HAT2.out.low M3.out
      clear a0 a1 a2 a3
      have a0 := a0'
      have a1 := a1'
      have a2 := a2'
      have a3 := a3'
      have hgw2 : g < W2.heap.size := block_lt_of_cell a0
      clear a0' a1' a2' a3'
      have g0 := cell_regrown q0
      have g1 := cell_regrown q1
      have g2 := cell_regrown q2
      have g3 := cell_regrown q3
      have h0 := cell_regrown a0
      have h1 := cell_regrown a1
      have h2 := cell_regrown a2
      have h3 := cell_regrown a3
      refine wp_region_mix [([(0, true), (1, true), (2, true), (3, true), (4, true), (5, true), (6, true), (7, true), (8, true), (9, false)], 10)] [] (by kernel_rfl) (fun _ _ d _ _ h => by cases d <;> exact h) (by kernel_rfl) ?_
      refine wpMix_seg ?_
      repeat (refine wpSeq_plain rfl (fun K hK => ?_); go_simp; refine hK _ ?_; clear hK K)
      refine wpSeq_lone rfl (fun K hK => ?_)
      go_wp2_with fail
      refine (wgroup_any n.kids[j] _ _ (HRK2.out.fresh (show Fresh W2 _ from (Touch.refl _ _).drewN _))).mono ?_
      rintro _ W5 ⟨rfl, hf5⟩
      have HF5 := hid (show Fresh W2 W5 from Touch.ofN hf5)
      clear hf5
      go_wp2_with fail
      refine hK _ _ (growing_fresh HF5.out) ?_
      clear hK K
      refine wpSeq_shut rfl (fun K hK => ?_)
      go_wp2_with fail
      refine (slot_any HK.out n j c1 (HI.out n.kids[j] (List.getElem_mem c1)) (HAT2.out.fresh HK.out HF5.out) HSL.out (HP3.out.mv (Mv.fresh HF5.out)) (by have := HD.out; have := HDX.out; have := HDN.out; omega) (Tr.grp n.kids[j]) (by have := HLX.out; have := HF.out; omega) (by have h1 := HLIM.out; rw [← HR2.out] at h1; exact HK.out.lim.2 _ _ _ _ _ h1)).mono ?_
      rintro _ W8 ⟨rfl, S8, hat, hmv⟩
      have HAT8 := hid hat
      have HMV8 := hid ((HMV2.out.trans (Mv.fresh HF5.out)).trans hmv)
      clear hat hmv
      clear q0 q1 q2 q3 a0 a1 a2 a3 g0 g1 g2 g3 h0 h1 h2 h3
      go_wp2_with fail
      refine wpMix_end ?_
      go_wp2_with fail
      go_roundw
      case rel => exact ⟨j + 1, S8, f1 + segLen (1, Tr.grp n.kids[j], n.kids[j]), _, by go_num, by omega, c1, by have := HAT8.out; rw [Tr.segLen_eq, ← Nat.add_assoc, ← Nat.add_assoc]; exact this, HMV8, HR2.out, by rw [Hid, ← HLX.out, Tr.segLen_eq]; omega⟩
      case measure => simp [intOf]; omega
    · have d1 : decide ((j : Int) < (n.kids.length : Int)) = false := by simp only [decide_eq_false_iff_not]; omega
      have d1n : decide (j < n.kids.length) = false := by simp only [decide_eq_false_iff_not]; omega
      obtain rfl : j = n.kids.length := by omega
      go_wp2_with fail
      first | go_end0 | refine bodyPost_ret (v := .tuple #[]) (results_none rfl _ _ _) rfl ?_
      exact ⟨rfl, S1, by have := HAT.out; have h1 := HLEN.out; have h2 := HRUN.out; rw [LI_end] at h1 h2; rw [run_nil] at h2; rw [segsLen, Nat.add_zero] at h1; rw [h1, h2] at this; exact this, HMV1.out.trans HMV.out⟩
set_option maxRecDepth 100000 in
set_option maxHeartbeats 4000000 in
theorem tree_scripts8_more {k : Wk σ κ} (hk : k.Good) (n : Nd) (h7 : (n.kind == 7) = false) (h8 : (n.kind == 8) = true) (c1 : 0 < n.kids.length) (hx : n.kids[0].kids.length ≠ 1) (hrows : ∀ a ∈ n.kids, k.RowS a) :
    k.TreeAs n 0 (LI scriptK scriptB n.kids) 0 := by
  intro S f s w p v sl h hsl hp hd hf hlim
  have HLIM := hid hlim
  clear hlim
  have hlen := hsl.len
  unfold maxLen at hlen
  obtain ⟨A, cap, rfl⟩ := hsl.slice
  obtain ⟨Ap, capp, rfl⟩ := hp.slice
  have HK := hid hk
  have HAT0 := hid h
  have HP0 := hid hp
  have HSL := hid hsl
  have HI := hid hrows
  have HD := hid hd
  have HF := hid hf
  have HDN := hid (Tr.depth_kids n)
  have hnS : ¬ S w.heap.size := fun e => absurd (h.slt hk _ e) (Nat.lt_irrefl _)
  have hng : w.heap.size ≠ k.g := by have := h.glt; omega
  obtain ⟨g, o, sa, rfl, hg, m0, m1, m2, m3, hrk⟩ := hsl.get 0 c1
  simp only [Nat.zero_mul, Nat.add_zero] at m0 m1 m2 m3
  have HBG := hid (bgrp_len _ hx)
  have hal := hrk.len
  unfold maxLen at hal
  obtain ⟨Ay, capy, rfl⟩ := hrk.slice
  have z1 : ((n.kids[0].kids.length : Int) == (1 : Int)) = false := by rw [beq_eq_false_iff_ne]; omega
  have z1' : ((n.kids[0].kids.length : Int) != (1 : Int)) = true := by rw [bne, z1]; rfl
  have z1n : (n.kids[0].kids.length == 1) = false := by simpa using hx
  have w0 := Low.cell h.low m0
  have w1 := Low.cell h.low m1
  have w2 := Low.cell h.low m2
  have w3 := Low.cell h.low m3
  have hgw0 : g < w.heap.size := block_lt_of_cell w0
  have HX := hid hx
  have HDX0 := hid (depth_mem (List.getElem_mem (l := n.kids) (n := 0) c1))
  have c1' : (0 : Int) < (n.kids.length : Int) := by omega
  have HL0 := hid (show LI scriptK scriptB n.kids = (0, true, n.kids[0]) :: (LI scriptK scriptB n.kids).drop 1 by
    have := LI_drop scriptK scriptB n.kids 0 c1
    rw [List.drop_zero] at this
    rw [← HBG.out]
    exact this)
  clear m0 m1 m2 m3 hrk hg hx
  go_enter Try.func47, Try.ntmps47
  go_wp2_with fail
  refine forget_world (fun W => Fresh w W ∧ Blk W w.heap.size 24 #[.int .i64 n.kind, .string ⟨n.text.toArray⟩, .int .i64 n.cols, .slice (some ⟨g, o, none⟩) n.kids.length cap] ∧ Blk W (w.heap.size + 1) 24 #[.int .i64 n.kids[0].kind, .string ⟨n.kids[0].text.toArray⟩, .int .i64 n.kids[0].cols, .slice Ay n.kids[0].kids.length capy]) ⟨((Touch.refl _ _).alloc _).alloc _, (Blk.new _ _ _).alloc _, Blk.new2 _ _ _ _⟩ ?_
  rintro W1 ⟨hf1, hb1', hb2'⟩
  have HF1 := hid hf1
  have HAT1 := hid (HAT0.out.fresh HK.out hf1)
  have HMV1 := hid (Mv.fresh (g := k.g) (S := S) hf1)
  have HB1 := hid hb1'
  have HP1 := hid (HP0.out.mv HMV1.out)
  obtain ⟨q0, q1, q2, q3, _, _, _, _, hg4⟩ := Blk.four hb1'
  obtain ⟨r0, r1, r2, r3, _, _, _, _, hg5⟩ := Blk.four hb2'
  clear hf1 hb1' hb2' h hp hsl hd hf w0 w1 w2 w3
  have Gq0 := cell_regrown q0
  have Gq1 := cell_regrown q1
  have Gq2 := cell_regrown q2
  have Gq3 := cell_regrown q3
  have Gr0 := cell_regrown r0
  have Gr1 := cell_regrown r1
  have Gr2 := cell_regrown r2
  have Gr3 := cell_regrown r3
  refine wp_region_mix [([(0, true), (1, true), (2, true), (3, true), (4, true), (5, true), (6, true), (7, true), (8, true), (9, true), (10, true), (11, true), (12, false), (13, true)], 14)] [] (by kernel_rfl) (fun _ _ d _ _ h => by cases d <;> exact h) (by kernel_rfl) ?_
  refine wpMix_seg ?_
  repeat (refine wpSeq_plain rfl (fun K hK => ?_); go_simp; refine hK _ ?_; clear hK K)
  refine wpSeq_lone rfl (fun K hK => ?_)
  go_wp2_with fail
  refine hK _ _ (growing_fresh ((Touch.refl _ _).drewN _)) ?_
  clear hK K
  repeat (refine wpSeq_plain rfl (fun K hK => ?_); go_simp; refine hK _ ?_; clear hK K)
  refine wpSeq_shut rfl (fun K hK => ?_)
  go_wp2_with fail
  have HFL := hid (show f + (0 + 2 * true.toNat + (rowT n.kids[0].kids).length) + segsLen ((LI scriptK scriptB n.kids).drop 1) ≤ k.T.length by
    have h1 := HF.out
    rw [HL0.out, segsLen, Tr.segLen_eq] at h1
    omega)
  refine (slot_any HK.out n 0 c1 (HI.out n.kids[0] (List.getElem_mem c1)) (HAT1.out.fresh HK.out (show Fresh W1 _ from (Touch.refl _ _).drewN _)) HSL.out (HP1.out.mv (Mv.fresh (show Fresh W1 _ from (Touch.refl _ _).drewN _))) (by have := HD.out; have := HDX0.out; have := HDN.out; omega) true (by have := HFL.out; omega) (by have h1 := HLIM.out; rw [HL0.out, run_cons] at h1; exact HK.out.lim.2 _ _ _ _ _ h1)).mono ?_
  rintro _ W7 ⟨rfl, S7, hat, hmv⟩
  have HAT7 := hid hat
  have HMV7 := hid ((Mv.fresh (g := k.g) (S := S) (show Fresh W1 _ from (Touch.refl _ _).drewN _)).trans hmv)
  clear hat hmv q0 q1 q2 q3 r0 r1 r2 r3 Gq0 Gq1 Gq2 Gq3 Gr0 Gr1 Gr2 Gr3 z1 z1' z1n
  have HB7 := hid (HMV7.out.blk HB1.out hnS hng)
  obtain ⟨q0, q1, q2, q3, _, _, _, _, hg7⟩ := Blk.four HB7.out.1
  go_wp2_with fail
  refine wpMix_end ?_
  go_wp2_with fail
  go_loopw [7] (fun i wr => ∃ (j : Nat) (S1 : Nat → Prop) (f1 : Nat) (s1 : σ), i = .int .i64 j ∧ 1 ≤ j ∧ j ≤ n.kids.length ∧ Hid (k.At S1 f1 s1 wr) ∧ Hid (Mv k.g S S1 W1 wr) ∧ Hid (runSegs k.C k.T ((LI scriptK scriptB n.kids).drop j) p j f1 s1 = runSegs k.C k.T (LI scriptK scriptB n.kids) p 0 (f + 0) s) ∧ Hid (f1 + segsLen ((LI scriptK scriptB n.kids).drop j) = f + 0 + segsLen (LI scriptK scriptB n.kids))) (fun i _ => n.kids.length - (intOf i).toNat)
  case atStart => exact ⟨1, S7, f + 2 * true.toNat + (rowT n.kids[0].kids).length, _, rfl, Nat.le_refl _, c1, HAT7, HMV7, by rw [Hid, HL0.out, run_cons, Tr.segLen_eq]; simp only [Nat.zero_add, Nat.add_zero, ← Nat.add_assoc]; rfl, by rw [Hid, HL0.out, segsLen, Tr.segLen_eq]; simp only [List.drop_succ_cons, List.drop_zero]; omega⟩
  case round =>
    clear q0 q1 q2 q3
    obtain ⟨j, S1, f1, s1, rfl, hlow, hj, HAT, HMV, HRUN, HLEN⟩ := hrel
    have HB := hid (HMV.out.blk HB1.out hnS hng)
    obtain ⟨q0, q1, q2, q3, _, _, _, _, hg4⟩ := Blk.four HB.out.1
    by_cases c1 : j < n.kids.length
    · have d1 : decide ((j : Int) < (n.kids.length : Int)) = true := by simp only [decide_eq_true_eq]; omega
      have d1n : decide (j < n.kids.length) = true := by simp only [decide_eq_true_eq]; omega
      have d1' : (j : Int) < (n.kids.length : Int) := by omega
      obtain ⟨g', o', sx, heq, hg, m0, m1, m2, m3, hrk⟩ := HSL.out.get j c1
      cases heq
      obtain ⟨Ax, capx', rfl⟩ := hrk.slice
      have M0 := hid m0
      have M1 := hid m1
      have M2 := hid m2
      have M3 := hid m3
      have HRK0 := hid hrk
      have HRK := hid (hrk.low HAT.out.low)
      have HDX := hid (depth_mem (List.getElem_mem (l := n.kids) (n := j) c1))
      have HP2 := hid (HP1.out.mv HMV.out)
      have a0 := Low.cell HAT.out.low m0
      have a1 := Low.cell HAT.out.low m1
      have a2 := Low.cell HAT.out.low m2
      have a3 := Low.cell HAT.out.low m3
      have hgw : g < wr.heap.size := block_lt_of_cell a0
      clear m0 m1 m2 m3 hrk hg
      have j0 : ¬ j = 0 := by omega
      have hK1 : scriptK j = 1 := by unfold scriptK; rw [if_neg j0]
      have hB1 : scriptB j n.kids[j] = Tr.grp n.kids[j] := by unfold scriptB; rw [if_neg j0]
      clear j0
      have HR2 := hid (show runSegs k.C k.T ((LI scriptK scriptB n.kids).drop (j + 1)) p (j + 1) (f1 + segLen (1, Tr.grp n.kids[j], n.kids[j])) (runRow k.C k.T n.kids[j].kids (p ++ [j]) 0 (f1 + 1 + (Tr.grp n.kids[j]).toNat) s1) = runSegs k.C k.T (LI scriptK scriptB n.kids) p 0 (f + 0) s by rw [← HRUN.out, LI_drop _ _ _ _ c1, hK1, hB1, run_cons])
      have HLX := hid (show f1 + ((1 + 2 * (Tr.grp n.kids[j]).toNat + (rowT n.kids[j].kids).length) + segsLen ((LI scriptK scriptB n.kids).drop (j + 1))) = f + 0 + segsLen (LI scriptK scriptB n.kids) by rw [← HLEN.out, LI_drop _ _ _ _ c1, hK1, hB1, segsLen, Tr.segLen_eq])
      clear hK1 hB1
      obtain ⟨_, b1, _, _, bf⟩ := HAT.out.cells
      have hglt := HAT.out.glt
      have hb0 : (f1 : Int) ≤ 100000 := by have := HLEN.out; have := HF.out; have := HK.out.len; omega
      have hb1 : 0 ≤ (f1 : Int) := by omega
      have HNX := hid (HAT.out.next HK.out (f' := f1 + 1) ((f1 : Int) + 1) (by omega))
      have HR3 := hid HRK.out
      go_wp2_with fail
      refine forget_world (fun W => k.At S1 (f1 + 1) s1 W ∧ Mv k.g S1 S1 wr W) ⟨HNX.out.1, HNX.out.2⟩ ?_
      rintro W2 ⟨hat2, hmv2⟩
      have HAT2 := hid hat2
      have HMV2 := hid (HMV.out.trans hmv2)
      have HP3 := hid (HP1.out.mv HMV2.out)
      have HB2 := hid (HMV2.out.blk HB1.out hnS hng)
      have HRK2 := hid (HRK0.out.low hat2.low)
      clear b1 bf hglt hb0 hb1 hat2 hmv2 q0 q1 q2 q3
      obtain ⟨q0, q1, q2, q3, _, _, _, _, hg6⟩ := Blk.four HB2.out.1
      have a0' := Low.cell HAT2.out.low M0.out
      have a1' := Low.cell HAT2.out.low M1.out
      have a2' := Low.cell HAT2.out.low M2.out
      have a3' := Low.cell HAT2.out.low M3.out
      clear a0 a1 a2 a3
      have a0 := a0'
      have a1 := a1'
      have a2 := a2'
      have a3 := a3'
      have hgw2 : g < W2.heap.size := block_lt_of_cell a0
      clear a0' a1' a2' a3'
      have g0 := cell_regrown q0
      have g1 := cell_regrown q1
      have g2 := cell_regrown q2
      have g3 := cell_regrown q3
      have h0 := cell_regrown a0
      have h1 := cell_regrown a1
      have h2 := cell_regrown a2
      have h3 := cell_regrown a3
      refine wp_region_mix [([(0, true), (1, true), (2, true), (3, true), (4, true), (5, true), (6, true), (7, true), (8, true), (9, false)], 10)] [] (by kernel_rfl) (fun _ _ d _ _ h => by cases d <;> exact h) (by kernel_rfl) ?_
      refine wpMix_seg ?_
      repeat (refine wpSeq_plain rfl (fun K hK => ?_); go_simp; refine hK _ ?_; clear hK K)
      refine wpSeq_lone rfl (fun K hK => ?_)
      go_wp2_with fail
      refine (wgroup_any n.kids[j] _ _ (HRK2.out.fresh (show Fresh W2 _ from (Touch.refl _ _).drewN _))).mono ?_
      rintro _ W5 ⟨rfl, hf5⟩
      have HF5 := hid (show Fresh W2 W5 from Touch.ofN hf5)
      clear hf5
      go_wp2_with fail
      refine hK _ _ (growing_fresh HF5.out) ?_
      clear hK K
      refine wpSeq_shut rfl (fun K hK => ?_)
      go_wp2_with fail
      refine (slot_any HK.out n j c1 (HI.out n.kids[j] (List.getElem_mem c1)) (HAT2.out.fresh HK.out HF5.out) HSL.out (HP3.out.mv (Mv.fresh HF5.out)) (by have := HD.out; have := HDX.out; have := HDN.out; omega) (Tr.grp n.kids[j]) (by have := HLX.out; have := HF.out; omega) (by have h1 := HLIM.out; rw [← HR2.out] at h1; exact HK.out.lim.2 _ _ _ _ _ h1)).mono ?_
      rintro _ W8 ⟨rfl, S8, hat, hmv⟩
      have HAT8 := hid hat
      have HMV8 := hid ((HMV2.out.trans (Mv.fresh HF5.out)).trans hmv)
      clear hat hmv
      clear q0 q1 q2 q3 a0 a1 a2 a3 g0 g1 g2 g3 h0 h1 h2 h3
      go_wp2_with fail
      refine wpMix_end ?_
      go_wp2_with fail
      go_roundw
      case rel => exact ⟨j + 1, S8, f1 + segLen (1, Tr.grp n.kids[j], n.kids[j]), _, by go_num, by omega, c1, by have := HAT8.out; rw [Tr.segLen_eq, ← Nat.add_assoc, ← Nat.add_assoc]; exact this, HMV8, HR2.out, by rw [Hid, ← HLX.out, Tr.segLen_eq]; omega⟩
      case measure => simp [intOf]; omega
    · have d1 : decide ((j : Int) < (n.kids.length : Int)) = false := by simp only [decide_eq_false_iff_not]; omega
      have d1n : decide (j < n.kids.length) = false := by simp only [decide_eq_false_iff_not]; omega
      obtain rfl : j = n.kids.length := by omega
      go_wp2_with fail
      first | go_end0 | refine bodyPost_ret (v := .tuple #[]) (results_none rfl _ _ _) rfl ?_
      exact ⟨rfl, S1, by have := HAT.out; have h1 := HLEN.out; have h2 := HRUN.out; rw [LI_end] at h1 h2; rw [run_nil] at h2; rw [segsLen, Nat.add_zero] at h1; rw [h1, h2] at this; exact this, HMV1.out.trans HMV.out⟩
set_option maxRecDepth 100000 in
set_option maxHeartbeats 4000000 in
theorem tree_scripts8_one {k : Wk σ κ} (hk : k.Good) (n : Nd) (h7 : (n.kind == 7) = false) (h8 : (n.kind == 8) = true) (c1 : 0 < n.kids.length) (x : Nd) (hx : n.kids[0].kids = [x]) (hrows : ∀ a ∈ n.kids, k.RowS a) :
    k.TreeAs n 0 (LI scriptK scriptB n.kids) 0 := by
  intro S f s w p v sl h hsl hp hd hf hlim
  have HLIM := hid hlim
  clear hlim
  have hlen := hsl.len
  unfold maxLen at hlen
  obtain ⟨A, cap, rfl⟩ := hsl.slice
  obtain ⟨Ap, capp, rfl⟩ := hp.slice
  have HK := hid hk
  have HAT0 := hid h
  have HP0 := hid hp
  have HSL := hid hsl
  have HI := hid hrows
  have HD := hid hd
  have HF := hid hf
  have HDN := hid (Tr.depth_kids n)
  have hnS : ¬ S w.heap.size := fun e => absurd (h.slt hk _ e) (Nat.lt_irrefl _)
  have hng : w.heap.size ≠ k.g := by have := h.glt; omega
  obtain ⟨g, o, sa, rfl, hg, m0, m1, m2, m3, hrk⟩ := hsl.get 0 c1
  simp only [Nat.zero_mul, Nat.add_zero] at m0 m1 m2 m3
  have HBG := hid (bgrp_one _ x hx)
  obtain ⟨gx, ox, capx, sx, rfl, x0, x1, x2, x3, hrx⟩ := (show RepL k.W0 [x] sa by rw [← hx]; exact hrk).one
  obtain ⟨Ay, capy, rfl⟩ := hrx.slice
  have xw0 := Low.cell h.low x0
  have xw1 := Low.cell h.low x1
  have xw2 := Low.cell h.low x2
  have xw3 := Low.cell h.low x3
  have hgx : gx < w.heap.size := block_lt_of_cell xw0
  clear x0 x1 x2 x3 hrx
  have w0 := Low.cell h.low m0
  have w1 := Low.cell h.low m1
  have w2 := Low.cell h.low m2
  have w3 := Low.cell h.low m3
  have hgw0 : g < w.heap.size := block_lt_of_cell w0
  have HX := hid hx
  have HDX0 := hid (depth_mem (List.getElem_mem (l := n.kids) (n := 0) c1))
  have c1' : (0 : Int) < (n.kids.length : Int) := by omega
  have HL0 := hid (show LI scriptK scriptB n.kids = (0, (Tr.scripted x), n.kids[0]) :: (LI scriptK scriptB n.kids).drop 1 by
    have := LI_drop scriptK scriptB n.kids 0 c1
    rw [List.drop_zero] at this
    rw [← HBG.out]
    exact this)
  clear m0 m1 m2 m3 hrk hg hx
  go_enter Try.func47, Try.ntmps47
  go_wp2_with fail
  refine forget_world (fun W => Fresh w W ∧ Blk W w.heap.size 24 #[.int .i64 n.kind, .string ⟨n.text.toArray⟩, .int .i64 n.cols, .slice (some ⟨g, o, none⟩) n.kids.length cap] ∧ Blk W (w.heap.size + 1) 24 #[.int .i64 n.kids[0].kind, .string ⟨n.kids[0].text.toArray⟩, .int .i64 n.kids[0].cols, .slice (some ⟨gx, ox, none⟩) 1 capx]) ⟨((Touch.refl _ _).alloc _).alloc _, (Blk.new _ _ _).alloc _, Blk.new2 _ _ _ _⟩ ?_
  rintro W1 ⟨hf1, hb1', hb2'⟩
  have HF1 := hid hf1
  have HAT1 := hid (HAT0.out.fresh HK.out hf1)
  have HMV1 := hid (Mv.fresh (g := k.g) (S := S) hf1)
  have HB1 := hid hb1'
  have HP1 := hid (HP0.out.mv HMV1.out)
  obtain ⟨q0, q1, q2, q3, _, _, _, _, hg4⟩ := Blk.four hb1'
  obtain ⟨r0, r1, r2, r3, _, _, _, _, hg5⟩ := Blk.four hb2'
  have y0 := hf1.cell xw0 (fun h => h)
  have y1 := hf1.cell xw1 (fun h => h)
  have y2 := hf1.cell xw2 (fun h => h)
  have y3 := hf1.cell xw3 (fun h => h)
  clear xw0 xw1 xw2 xw3
  clear hf1 hb1' hb2' h hp hsl hd hf w0 w1 w2 w3
  have Gq0 := cell_regrown q0
  have Gq1 := cell_regrown q1
  have Gq2 := cell_regrown q2
  have Gq3 := cell_regrown q3
  have Gr0 := cell_regrown r0
  have Gr1 := cell_regrown r1
  have Gr2 := cell_regrown r2
  have Gr3 := cell_regrown r3
  have Gy0 := cell_regrown y0
  have Gy1 := cell_regrown y1
  have Gy2 := cell_regrown y2
  have Gy3 := cell_regrown y3
  refine wp_region_mix [([(0, true), (1, true), (2, true), (3, true), (4, true), (5, true), (6, true), (7, true), (8, true), (9, true), (10, true), (11, true), (12, false), (13, true)], 14)] [] (by kernel_rfl) (fun _ _ d _ _ h => by cases d <;> exact h) (by kernel_rfl) ?_
  refine wpMix_seg ?_
  repeat (refine wpSeq_plain rfl (fun K hK => ?_); go_simp; refine hK _ ?_; clear hK K)
  refine wpSeq_lone rfl (fun K hK => ?_)
  go_wp2_with fail
  refine (wscripted_any x _ _).mono ?_
  rintro _ W5 ⟨rfl, hf5⟩
  have HF5 := hid (show Fresh W1 W5 from Touch.ofN hf5)
  clear hf5
  go_wp2_with fail
  refine hK _ _ (growing_fresh HF5.out) ?_
  clear hK K
  repeat (refine wpSeq_plain rfl (fun K hK => ?_); go_simp; refine hK _ ?_; clear hK K)
  refine wpSeq_shut rfl (fun K hK => ?_)
  go_wp2_with fail
  have HFL := hid (show f + (0 + 2 * (Tr.scripted x).toNat + (rowT n.kids[0].kids).length) + segsLen ((LI scriptK scriptB n.kids).drop 1) ≤ k.T.length by
    have h1 := HF.out
    rw [HL0.out, segsLen, Tr.segLen_eq] at h1
    omega)
  refine (slot_any HK.out n 0 c1 (HI.out n.kids[0] (List.getElem_mem c1)) (HAT1.out.fresh HK.out HF5.out) HSL.out (HP1.out.mv (Mv.fresh HF5.out)) (by have := HD.out; have := HDX0.out; have := HDN.out; omega) (Tr.scripted x) (by have := HFL.out; omega) (by have h1 := HLIM.out; rw [HL0.out, run_cons] at h1; exact HK.out.lim.2 _ _ _ _ _ h1)).mono ?_
  rintro _ W7 ⟨rfl, S7, hat, hmv⟩
  have HAT7 := hid hat
  have HMV7 := hid ((Mv.fresh (g := k.g) (S := S) HF5.out).trans hmv)
  clear hat hmv q0 q1 q2 q3 r0 r1 r2 r3 y0 y1 y2 y3 Gq0 Gq1 Gq2 Gq3 Gr0 Gr1 Gr2 Gr3 Gy0 Gy1 Gy2 Gy3
  have HB7 := hid (HMV7.out.blk HB1.out hnS hng)
  obtain ⟨q0, q1, q2, q3, _, _, _, _, hg7⟩ := Blk.four HB7.out.1
  go_wp2_with fail
  refine wpMix_end ?_
  go_wp2_with fail
  go_loopw [7] (fun i wr => ∃ (j : Nat) (S1 : Nat → Prop) (f1 : Nat) (s1 : σ), i = .int .i64 j ∧ 1 ≤ j ∧ j ≤ n.kids.length ∧ Hid (k.At S1 f1 s1 wr) ∧ Hid (Mv k.g S S1 W1 wr) ∧ Hid (runSegs k.C k.T ((LI scriptK scriptB n.kids).drop j) p j f1 s1 = runSegs k.C k.T (LI scriptK scriptB n.kids) p 0 (f + 0) s) ∧ Hid (f1 + segsLen ((LI scriptK scriptB n.kids).drop j) = f + 0 + segsLen (LI scriptK scriptB n.kids))) (fun i _ => n.kids.length - (intOf i).toNat)
  case atStart => exact ⟨1, S7, f + 2 * (Tr.scripted x).toNat + (rowT n.kids[0].kids).length, _, rfl, Nat.le_refl _, c1, HAT7, HMV7, by rw [Hid, HL0.out, run_cons, Tr.segLen_eq]; simp only [Nat.zero_add, Nat.add_zero, ← Nat.add_assoc]; rfl, by rw [Hid, HL0.out, segsLen, Tr.segLen_eq]; simp only [List.drop_succ_cons, List.drop_zero]; omega⟩
  case round =>
    clear q0 q1 q2 q3
    obtain ⟨j, S1, f1, s1, rfl, hlow, hj, HAT, HMV, HRUN, HLEN⟩ := hrel
    have HB := hid (HMV.out.blk HB1.out hnS hng)
    obtain ⟨q0, q1, q2, q3, _, _, _, _, hg4⟩ := Blk.four HB.out.1
    by_cases c1 : j < n.kids.length
    · have d1 : decide ((j : Int) < (n.kids.length : Int)) = true := by simp only [decide_eq_true_eq]; omega
      have d1n : decide (j < n.kids.length) = true := by simp only [decide_eq_true_eq]; omega
      have d1' : (j : Int) < (n.kids.length : Int) := by omega
      obtain ⟨g', o', sx, heq, hg, m0, m1, m2, m3, hrk⟩ := HSL.out.get j c1
      cases heq
      obtain ⟨Ax, capx', rfl⟩ := hrk.slice
      have M0 := hid m0
      have M1 := hid m1
      have M2 := hid m2
      have M3 := hid m3
      have HRK0 := hid hrk
      have HRK := hid (hrk.low HAT.out.low)
      have HDX := hid (depth_mem (List.getElem_mem (l := n.kids) (n := j) c1))
      have HP2 := hid (HP1.out.mv HMV.out)
      have a0 := Low.cell HAT.out.low m0
      have a1 := Low.cell HAT.out.low m1
      have a2 := Low.cell HAT.out.low m2
      have a3 := Low.cell HAT.out.low m3
      have hgw : g < wr.heap.size := block_lt_of_cell a0
      clear m0 m1 m2 m3 hrk hg
      have j0 : ¬ j = 0 := by omega
      have hK1 : scriptK j = 1 := by unfold scriptK; rw [if_neg j0]
      have hB1 : scriptB j n.kids[j] = Tr.grp n.kids[j] := by unfold scriptB; rw [if_neg j0]
      clear j0
      have HR2 := hid (show runSegs k.C k.T ((LI scriptK scriptB n.kids).drop (j + 1)) p (j + 1) (f1 + segLen (1, Tr.grp n.kids[j], n.kids[j])) (runRow k.C k.T n.kids[j].kids (p ++ [j]) 0 (f1 + 1 + (Tr.grp n.kids[j]).toNat) s1) = runSegs k.C k.T (LI scriptK scriptB n.kids) p 0 (f + 0) s by rw [← HRUN.out, LI_drop _ _ _ _ c1, hK1, hB1, run_cons])
      have HLX := hid (show f1 + ((1 + 2 * (Tr.grp n.kids[j]).toNat + (rowT n.kids[j].kids).length) + segsLen ((LI scriptK scriptB n.kids).drop (j + 1))) = f + 0 + segsLen (LI scriptK scriptB n.kids) by rw [← HLEN.out, LI_drop _ _ _ _ c1, hK1, hB1, segsLen, Tr.segLen_eq])
      clear hK1 hB1
      obtain ⟨_, b1, _, _, bf⟩ := HAT.out.cells
      have hglt := HAT.out.glt
      have hb0 : (f1 : Int) ≤ 100000 := by have := HLEN.out; have := HF.out; have := HK.out.len; omega
      have hb1 : 0 ≤ (f1 : Int) := by omega
      have HNX := hid (HAT.out.next HK.out (f' := f1 + 1) ((f1 : Int) + 1) (by omega))
      have HR3 := hid HRK.out
      go_wp2_with fail
      refine forget_world (fun W => k.At S1 (f1 + 1) s1 W ∧ Mv k.g S1 S1 wr W) ⟨HNX.out.1, HNX.out.2⟩ ?_
      rintro W2 ⟨hat2, hmv2⟩
      have HAT2 := hid hat2
      have HMV2 := hid (HMV.out.trans hmv2)
      have HP3 := hid (HP1.out.mv HMV2.out)
      have HB2 := hid (HMV2.out.blk HB1.out hnS hng)
      have HRK2 := hid (HRK0.out.low hat2.low)
      clear b1 bf hglt hb0 hb1 hat2 hmv2 q0 q1 q2 q3
      obtain ⟨q0, q1, q2, q3, _, _, _, _, hg6⟩ := Blk.four HB2.out.1
      have a0' := Low.cell HAT2.out.low M0.out
      have a1' := Low.cell HAT2.out.low M1.out
      have a2' := Low.cell HAT2.out.low M2.out
      have a3' := Low.cell HAT2.out.low M3.out
      clear a0 a1 a2 a3
      have a0 := a0'
      have a1 := a1'
      have a2 := a2'
      have a3 := a3'
      have hgw2 : g < W2.heap.size := block_lt_of_cell a0
      clear a0' a1' a2' a3'
      have g0 := cell_regrown q0
      have g1 := cell_regrown q1
      have g2 := cell_regrown q2
      have g3 := cell_regrown q3
      have h0 := cell_regrown a0
      have h1 := cell_regrown a1
      have h2 := cell_regrown a2
      have h3 := cell_regrown a3
      refine wp_region_mix [([(0, true), (1, true), (2, true), (3, true), (4, true), (5, true), (6, true), (7, true), (8, true), (9, false)], 10)] [] (by kernel_rfl) (fun _ _ d _ _ h => by cases d <;> exact h) (by kernel_rfl) ?_
      refine wpMix_seg ?_
      repeat (refine wpSeq_plain rfl (fun K hK => ?_); go_simp; refine hK _ ?_; clear hK K)
      refine wpSeq_lone rfl (fun K hK => ?_)
      go_wp2_with fail
      refine (wgroup_any n.kids[j] _ _ (HRK2.out.fresh (show Fresh W2 _ from (Touch.refl _ _).drewN _))).mono ?_
      rintro _ W5 ⟨rfl, hf5⟩
      have HF5 := hid (show Fresh W2 W5 from Touch.ofN hf5)
      clear hf5
      go_wp2_with fail
      refine hK _ _ (growing_fresh HF5.out) ?_
      clear hK K
      refine wpSeq_shut rfl (fun K hK => ?_)
      go_wp2_with fail
      refine (slot_any HK.out n j c1 (HI.out n.kids[j] (List.getElem_mem c1)) (HAT2.out.fresh HK.out HF5.out) HSL.out (HP3.out.mv (Mv.fresh HF5.out)) (by have := HD.out; have := HDX.out; have := HDN.out; omega) (Tr.grp n.kids[j]) (by have := HLX.out; have := HF.out; omega) (by have h1 := HLIM.out; rw [← HR2.out] at h1; exact HK.out.lim.2 _ _ _ _ _ h1)).mono ?_
      rintro _ W8 ⟨rfl, S8, hat, hmv⟩
      have HAT8 := hid hat
      have HMV8 := hid ((HMV2.out.trans (Mv.fresh HF5.out)).trans hmv)
      clear hat hmv
      clear q0 q1 q2 q3 a0 a1 a2 a3 g0 g1 g2 g3 h0 h1 h2 h3
      go_wp2_with fail
      refine wpMix_end ?_
      go_wp2_with fail
      go_roundw
      case rel => exact ⟨j + 1, S8, f1 + segLen (1, Tr.grp n.kids[j], n.kids[j]), _, by go_num, by omega, c1, by have := HAT8.out; rw [Tr.segLen_eq, ← Nat.add_assoc, ← Nat.add_assoc]; exact this, HMV8, HR2.out, by rw [Hid, ← HLX.out, Tr.segLen_eq]; omega⟩
      case measure => simp [intOf]; omega
    · have d1 : decide ((j : Int) < (n.kids.length : Int)) = false := by simp only [decide_eq_false_iff_not]; omega
      have d1n : decide (j < n.kids.length) = false := by simp only [decide_eq_false_iff_not]; omega
      obtain rfl : j = n.kids.length := by omega
      go_wp2_with fail
      first | go_end0 | refine bodyPost_ret (v := .tuple #[]) (results_none rfl _ _ _) rfl ?_
      exact ⟨rfl, S1, by have := HAT.out; have h1 := HLEN.out; have h2 := HRUN.out; rw [LI_end] at h1 h2; rw [run_nil] at h2; rw [segsLen, Nat.add_zero] at h1; rw [h1, h2] at this; exact this, HMV1.out.trans HMV.out⟩
set_option maxRecDepth 100000 in
set_option maxHeartbeats 4000000 in
theorem tree_scripts9_more {k : Wk σ κ} (hk : k.Good) (n : Nd) (h7 : (n.kind == 7) = false) (h8 : (n.kind == 8) = false) (h9 : (n.kind == 9) = true) (c1 : 0 < n.kids.length) (hx : n.kids[0].kids.length ≠ 1) (hrows : ∀ a ∈ n.kids, k.RowS a) :
    k.TreeAs n 0 (LI scriptK scriptB n.kids) 0 := by
  intro S f s w p v sl h hsl hp hd hf hlim
  have HLIM := hid hlim
  clear hlim
  have hlen := hsl.len
  unfold maxLen at hlen
  obtain ⟨A, cap, rfl⟩ := hsl.slice
  obtain ⟨Ap, capp, rfl⟩ := hp.slice
  have HK := hid hk
  have HAT0 := hid h
  have HP0 := hid hp
  have HSL := hid hsl
  have HI := hid hrows
  have HD := hid hd
  have HF := hid hf
  have HDN := hid (Tr.depth_kids n)
  have hnS : ¬ S w.heap.size := fun e => absurd (h.slt hk _ e) (Nat.lt_irrefl _)
  have hng : w.heap.size ≠ k.g := by have := h.glt; omega
  obtain ⟨g, o, sa, rfl, hg, m0, m1, m2, m3, hrk⟩ := hsl.get 0 c1
  simp only [Nat.zero_mul, Nat.add_zero] at m0 m1 m2 m3
  have HBG := hid (bgrp_len _ hx)
  have hal := hrk.len
  unfold maxLen at hal
  obtain ⟨Ay, capy, rfl⟩ := hrk.slice
  have z1 : ((n.kids[0].kids.length : Int) == (1 : Int)) = false := by rw [beq_eq_false_iff_ne]; omega
  have z1' : ((n.kids[0].kids.length : Int) != (1 : Int)) = true := by rw [bne, z1]; rfl
  have z1n : (n.kids[0].kids.length == 1) = false := by simpa using hx
  have w0 := Low.cell h.low m0
  have w1 := Low.cell h.low m1
  have w2 := Low.cell h.low m2
  have w3 := Low.cell h.low m3
  have hgw0 : g < w.heap.size := block_lt_of_cell w0
  have HX := hid hx
  have HDX0 := hid (depth_mem (List.getElem_mem (l := n.kids) (n := 0) c1))
  have c1' : (0 : Int) < (n.kids.length : Int) := by omega
  have HL0 := hid (show LI scriptK scriptB n.kids = (0, true, n.kids[0]) :: (LI scriptK scriptB n.kids).drop 1 by
    have := LI_drop scriptK scriptB n.kids 0 c1
    rw [List.drop_zero] at this
    rw [← HBG.out]
    exact this)
  clear m0 m1 m2 m3 hrk hg hx
  go_enter Try.func47, Try.ntmps47
  go_wp2_with fail
  refine forget_world (fun W => Fresh w W ∧ Blk W w.heap.size 24 #[.int .i64 n.kind, .string ⟨n.text.toArray⟩, .int .i64 n.cols, .slice (some ⟨g, o, none⟩) n.kids.length cap] ∧ Blk W (w.heap.size + 1) 24 #[.int .i64 n.kids[0].kind, .string ⟨n.kids[0].text.toArray⟩, .int .i64 n.kids[0].cols, .slice Ay n.kids[0].kids.length capy]) ⟨((Touch.refl _ _).alloc _).alloc _, (Blk.new _ _ _).alloc _, Blk.new2 _ _ _ _⟩ ?_
  rintro W1 ⟨hf1, hb1', hb2'⟩
  have HF1 := hid hf1
  have HAT1 := hid (HAT0.out.fresh HK.out hf1)
  have HMV1 := hid (Mv.fresh (g := k.g) (S := S) hf1)
  have HB1 := hid hb1'
  have HP1 := hid (HP0.out.mv HMV1.out)
  obtain ⟨q0, q1, q2, q3, _, _, _, _, hg4⟩ := Blk.four hb1'
  obtain ⟨r0, r1, r2, r3, _, _, _, _, hg5⟩ := Blk.four hb2'
  clear hf1 hb1' hb2' h hp hsl hd hf w0 w1 w2 w3
  have Gq0 := cell_regrown q0
  have Gq1 := cell_regrown q1
  have Gq2 := cell_regrown q2
  have Gq3 := cell_regrown q3
  have Gr0 := cell_regrown r0
  have Gr1 := cell_regrown r1
  have Gr2 := cell_regrown r2
  have Gr3 := cell_regrown r3
  refine wp_region_mix [([(0, true), (1, true), (2, true), (3, true), (4, true), (5, true), (6, true), (7, true), (8, true), (9, true), (10, true), (11, true), (12, false), (13, true)], 14)] [] (by kernel_rfl) (fun _ _ d _ _ h => by cases d <;> exact h) (by kernel_rfl) ?_
  refine wpMix_seg ?_
  repeat (refine wpSeq_plain rfl (fun K hK => ?_); go_simp; refine hK _ ?_; clear hK K)
  refine wpSeq_lone rfl (fun K hK => ?_)
  go_wp2_with fail
  refine hK _ _ (growing_fresh ((Touch.refl _ _).drewN _)) ?_
  clear hK K
  repeat (refine wpSeq_plain rfl (fun K hK => ?_); go_simp; refine hK _ ?_; clear hK K)
  refine wpSeq_shut rfl (fun K hK => ?_)
  go_wp2_with fail
  have HFL := hid (show f + (0 + 2 * true.toNat + (rowT n.kids[0].kids).length) + segsLen ((LI scriptK scriptB n.kids).drop 1) ≤ k.T.length by
    have h1 := HF.out
    rw [HL0.out, segsLen, Tr.segLen_eq] at h1
    omega)
  refine (slot_any HK.out n 0 c1 (HI.out n.kids[0] (List.getElem_mem c1)) (HAT1.out.fresh HK.out (show Fresh W1 _ from (Touch.refl _ _).drewN _)) HSL.out (HP1.out.mv (Mv.fresh (show Fresh W1 _ from (Touch.refl _ _).drewN _))) (by have := HD.out; have := HDX0.out; have := HDN.out; omega) true (by have := HFL.out; omega) (by have h1 := HLIM.out; rw [HL0.out, run_cons] at h1; exact HK.out.lim.2 _ _ _ _ _ h1)).mono ?_
  rintro _ W7 ⟨rfl, S7, hat, hmv⟩
  have HAT7 := hid hat
  have HMV7 := hid ((Mv.fresh (g := k.g) (S := S) (show Fresh W1 _ from (Touch.refl _ _).drewN _)).trans hmv)
  clear hat hmv q0 q1 q2 q3 r0 r1 r2 r3 Gq0 Gq1 Gq2 Gq3 Gr0 Gr1 Gr2 Gr3 z1 z1' z1n
  have HB7 := hid (HMV7.out.blk HB1.out hnS hng)
  obtain ⟨q0, q1, q2, q3, _, _, _, _, hg7⟩ := Blk.four HB7.out.1
  go_wp2_with fail
  refine wpMix_end ?_
  go_wp2_with fail
  go_loopw [7] (fun i wr => ∃ (j : Nat) (S1 : Nat → Prop) (f1 : Nat) (s1 : σ), i = .int .i64 j ∧ 1 ≤ j ∧ j ≤ n.kids.length ∧ Hid (k.At S1 f1 s1 wr) ∧ Hid (Mv k.g S S1 W1 wr) ∧ Hid (runSegs k.C k.T ((LI scriptK scriptB n.kids).drop j) p j f1 s1 = runSegs k.C k.T (LI scriptK scriptB n.kids) p 0 (f + 0) s) ∧ Hid (f1 + segsLen ((LI scriptK scriptB n.kids).drop j) = f + 0 + segsLen (LI scriptK scriptB n.kids))) (fun i _ => n.kids.length - (intOf i).toNat)
  case atStart => exact ⟨1, S7, f + 2 * true.toNat + (rowT n.kids[0].kids).length, _, rfl, Nat.le_refl _, c1, HAT7, HMV7, by rw [Hid, HL0.out, run_cons, Tr.segLen_eq]; simp only [Nat.zero_add, Nat.add_zero, ← Nat.add_assoc]; rfl, by rw [Hid, HL0.out, segsLen, Tr.segLen_eq]; simp only [List.drop_succ_cons, List.drop_zero]; omega⟩
  case round =>
    clear q0 q1 q2 q3
    obtain ⟨j, S1, f1, s1, rfl, hlow, hj, HAT, HMV, HRUN, HLEN⟩ := hrel
    have HB := hid (HMV.out.blk HB1.out hnS hng)
    obtain ⟨q0, q1, q2, q3, _, _, _, _, hg4⟩ := Blk.four HB.out.1
    by_cases c1 : j < n.kids.length
    · have d1 : decide ((j : Int) < (n.kids.length : Int)) = true := by simp only [decide_eq_true_eq]; omega
      have d1n : decide (j < n.kids.length) = true := by simp only [decide_eq_true_eq]; omega
      have d1' : (j : Int) < (n.kids.length : Int) := by omega
      obtain ⟨g', o', sx, heq, hg, m0, m1, m2, m3, hrk⟩ := HSL.out.get j c1
      cases heq
      obtain ⟨Ax, capx', rfl⟩ := hrk.slice
      have M0 := hid m0
      have M1 := hid m1
      have M2 := hid m2
      have M3 := hid m3
      have HRK0 := hid hrk
      have HRK := hid (hrk.low HAT.out.low)
      have HDX := hid (depth_mem (List.getElem_mem (l := n.kids) (n := j) c1))
      have HP2 := hid (HP1.out.mv HMV.out)
      have a0 := Low.cell HAT.out.low m0
      have a1 := Low.cell HAT.out.low m1
      have a2 := Low.cell HAT.out.low m2
      have a3 := Low.cell HAT.out.low m3
      have hgw : g < wr.heap.size := block_lt_of_cell a0
      clear m0 m1 m2 m3 hrk hg
      have j0 : ¬ j = 0 := by omega
      have hK1 : scriptK j = 1 := by unfold scriptK; rw [if_neg j0]
      have hB1 : scriptB j n.kids[j] = Tr.grp n.kids[j] := by unfold scriptB; rw [if_neg j0]
      clear j0
      have HR2 := hid (show runSegs k.C k.T ((LI scriptK scriptB n.kids).drop (j + 1)) p (j + 1) (f1 + segLen (1, Tr.grp n.kids[j], n.kids[j])) (runRow k.C k.T n.kids[j].kids (p ++ [j]) 0 (f1 + 1 + (Tr.grp n.kids[j]).toNat) s1) = runSegs k.C k.T (LI scriptK scriptB n.kids) p 0 (f + 0) s by rw [← HRUN.out, LI_drop _ _ _ _ c1, hK1, hB1, run_cons])
      have HLX := hid (show f1 + ((1 + 2 * (Tr.grp n.kids[j]).toNat + (rowT n.kids[j].kids).length) + segsLen ((LI scriptK scriptB n.kids).drop (j + 1))) = f + 0 + segsLen (LI scriptK scriptB n.kids) by rw [← HLEN.out, LI_drop _ _ _ _ c1, hK1, hB1, segsLen, Tr.segLen_eq])
      clear hK1 hB1
      obtain ⟨_, b1, _, _, bf⟩ := HAT.out.cells
      have hglt := HAT.out.glt
      have hb0 : (f1 : Int) ≤ 100000 := by have := HLEN.out; have := HF.out; have := HK.out.len; omega
      have hb1 : 0 ≤ (f1 : Int) := by omega
      have HNX := hid (HAT.out.next HK.out (f' := f1 + 1) ((f1 : Int) + 1) (by omega))
      have HR3 := hid HRK.out
      go_wp2_with fail
      refine forget_world (fun W => k.At S1 (f1 + 1) s1 W ∧ Mv k.g S1 S1 wr W) ⟨HNX.out.1, HNX.out.2⟩ ?_
      rintro W2 ⟨hat2, hmv2⟩
      have HAT2 := hid hat2
      have HMV2 := hid (HMV.out.trans hmv2)
      have HP3 := hid (HP1.out.mv HMV2.out)
      have HB2 := hid (HMV2.out.blk HB1.out hnS hng)
      have HRK2 := hid (HRK0.out.low hat2.low)
      clear b1 bf hglt hb0 hb1 hat2 hmv2 q0 q1 q2 q3
      obtain ⟨q0, q1, q2, q3, _, _, _, _, hg6⟩ := Blk.four HB2.out.1
      have a0' := Low.cell HAT2.out.low M0.out
      have a1' := Low.cell HAT2.out.low M1.out
      have a2' := Low.cell HAT2.out.low M2.out
      have a3' := Low.cell HAT2.out.low M3.out
      clear a0 a1 a2 a3
      have a0 := a0'
      have a1 := a1'
      have a2 := a2'
      have a3 := a3'
      have hgw2 : g < W2.heap.size := block_lt_of_cell a0
      clear a0' a1' a2' a3'
      have g0 := cell_regrown q0
      have g1 := cell_regrown q1
      have g2 := cell_regrown q2
      have g3 := cell_regrown q3
      have h0 := cell_regrown a0
      have h1 := cell_regrown a1
      have h2 := cell_regrown a2
      have h3 := cell_regrown a3
      refine wp_region_mix [([(0, true), (1, true), (2, true), (3, true), (4, true), (5, true), (6, true), (7, true), (8, true), (9, false)], 10)] [] (by kernel_rfl) (fun _ _ d _ _ h => by cases d <;> exact h) (by kernel_rfl) ?_
      refine wpMix_seg ?_
      repeat (refine wpSeq_plain rfl (fun K hK => ?_); go_simp; refine hK _ ?_; clear hK K)
      refine wpSeq_lone rfl (fun K hK => ?_)
      go_wp2_with fail
      refine (wgroup_any n.kids[j] _ _ (HRK2.out.fresh (show Fresh W2 _ from (Touch.refl _ _).drewN _))).mono ?_
      rintro _ W5 ⟨rfl, hf5⟩
      have HF5 := hid (show Fresh W2 W5 from Touch.ofN hf5)
      clear hf5
      go_wp2_with fail
      refine hK _ _ (growing_fresh HF5.out) ?_
      clear hK K
      refine wpSeq_shut rfl (fun K hK => ?_)
      go_wp2_with fail
      refine (slot_any HK.out n j c1 (HI.out n.kids[j] (List.getElem_mem c1)) (HAT2.out.fresh HK.out HF5.out) HSL.out (HP3.out.mv (Mv.fresh HF5.out)) (by have := HD.out; have := HDX.out; have := HDN.out; omega) (Tr.grp n.kids[j]) (by have := HLX.out; have := HF.out; omega) (by have h1 := HLIM.out; rw [← HR2.out] at h1; exact HK.out.lim.2 _ _ _ _ _ h1)).mono ?_
      rintro _ W8 ⟨rfl, S8, hat, hmv⟩
      have HAT8 := hid hat
      have HMV8 := hid ((HMV2.out.trans (Mv.fresh HF5.out)).trans hmv)
      clear hat hmv
      clear q0 q1 q2 q3 a0 a1 a2 a3 g0 g1 g2 g3 h0 h1 h2 h3
      go_wp2_with fail
      refine wpMix_end ?_
      go_wp2_with fail
      go_roundw
      case rel => exact ⟨j + 1, S8, f1 + segLen (1, Tr.grp n.kids[j], n.kids[j]), _, by go_num, by omega, c1, by have := HAT8.out; rw [Tr.segLen_eq, ← Nat.add_assoc, ← Nat.add_assoc]; exact this, HMV8, HR2.out, by rw [Hid, ← HLX.out, Tr.segLen_eq]; omega⟩
      case measure => simp [intOf]; omega
    · have d1 : decide ((j : Int) < (n.kids.length : Int)) = false := by simp only [decide_eq_false_iff_not]; omega
      have d1n : decide (j < n.kids.length) = false := by simp only [decide_eq_false_iff_not]; omega
      obtain rfl : j = n.kids.length := by omega
      go_wp2_with fail
      first | go_end0 | refine bodyPost_ret (v := .tuple #[]) (results_none rfl _ _ _) rfl ?_
      exact ⟨rfl, S1, by have := HAT.out; have h1 := HLEN.out; have h2 := HRUN.out; rw [LI_end] at h1 h2; rw [run_nil] at h2; rw [segsLen, Nat.add_zero] at h1; rw [h1, h2] at this; exact this, HMV1.out.trans HMV.out⟩
set_option maxRecDepth 100000 in
set_option maxHeartbeats 4000000 in
theorem tree_scripts9_one {k : Wk σ κ} (hk : k.Good) (n : Nd) (h7 : (n.kind == 7) = false) (h8 : (n.kind == 8) = false) (h9 : (n.kind == 9) = true) (c1 : 0 < n.kids.length) (x : Nd) (hx : n.kids[0].kids = [x]) (hrows : ∀ a ∈ n.kids, k.RowS a) :
    k.TreeAs n 0 (LI scriptK scriptB n.kids) 0 := by
  intro S f s w p v sl h hsl hp hd hf hlim
  have HLIM := hid hlim
  clear hlim
  have hlen := hsl.len
  unfold maxLen at hlen
  obtain ⟨A, cap, rfl⟩ := hsl.slice
  obtain ⟨Ap, capp, rfl⟩ := hp.slice
  have HK := hid hk
  have HAT0 := hid h
  have HP0 := hid hp
  have HSL := hid hsl
  have HI := hid hrows
  have HD := hid hd
  have HF := hid hf
  have HDN := hid (Tr.depth_kids n)
  have hnS : ¬ S w.heap.size := fun e => absurd (h.slt hk _ e) (Nat.lt_irrefl _)
  have hng : w.heap.size ≠ k.g := by have := h.glt; omega
  obtain ⟨g, o, sa, rfl, hg, m0, m1, m2, m3, hrk⟩ := hsl.get 0 c1
  simp only [Nat.zero_mul, Nat.add_zero] at m0 m1 m2 m3
  have HBG := hid (bgrp_one _ x hx)
  obtain ⟨gx, ox, capx, sx, rfl, x0, x1, x2, x3, hrx⟩ := (show RepL k.W0 [x] sa by rw [← hx]; exact hrk).one
  obtain ⟨Ay, capy, rfl⟩ := hrx.slice
  have xw0 := Low.cell h.low x0
  have xw1 := Low.cell h.low x1
  have xw2 := Low.cell h.low x2
  have xw3 := Low.cell h.low x3
  have hgx : gx < w.heap.size := block_lt_of_cell xw0
  clear x0 x1 x2 x3 hrx
  have w0 := Low.cell h.low m0
  have w1 := Low.cell h.low m1
  have w2 := Low.cell h.low m2
  have w3 := Low.cell h.low m3
  have hgw0 : g < w.heap.size := block_lt_of_cell w0
  have HX := hid hx
  have HDX0 := hid (depth_mem (List.getElem_mem (l := n.kids) (n := 0) c1))
  have c1' : (0 : Int) < (n.kids.length : Int) := by omega
  have HL0 := hid (show LI scriptK scriptB n.kids = (0, (Tr.scripted x), n.kids[0]) :: (LI scriptK scriptB n.kids).drop 1 by
    have := LI_drop scriptK scriptB n.kids 0 c1
    rw [List.drop_zero] at this
    rw [← HBG.out]
    exact this)
  clear m0 m1 m2 m3 hrk hg hx
  go_enter Try.func47, Try.ntmps47
  go_wp2_with fail
  refine forget_world (fun W => Fresh w W ∧ Blk W w.heap.size 24 #[.int .i64 n.kind, .string ⟨n.text.toArray⟩, .int .i64 n.cols, .slice (some ⟨g, o, none⟩) n.kids.length cap] ∧ Blk W (w.heap.size + 1) 24 #[.int .i64 n.kids[0].kind, .string ⟨n.kids[0].text.toArray⟩, .int .i64 n.kids[0].cols, .slice (some ⟨gx, ox, none⟩) 1 capx]) ⟨((Touch.refl _ _).alloc _).alloc _, (Blk.new _ _ _).alloc _, Blk.new2 _ _ _ _⟩ ?_
  rintro W1 ⟨hf1, hb1', hb2'⟩
  have HF1 := hid hf1
  have HAT1 := hid (HAT0.out.fresh HK.out hf1)
  have HMV1 := hid (Mv.fresh (g := k.g) (S := S) hf1)
  have HB1 := hid hb1'
  have HP1 := hid (HP0.out.mv HMV1.out)
  obtain ⟨q0, q1, q2, q3, _, _, _, _, hg4⟩ := Blk.four hb1'
  obtain ⟨r0, r1, r2, r3, _, _, _, _, hg5⟩ := Blk.four hb2'
  have y0 := hf1.cell xw0 (fun h => h)
  have y1 := hf1.cell xw1 (fun h => h)
  have y2 := hf1.cell xw2 (fun h => h)
  have y3 := hf1.cell xw3 (fun h => h)
  clear xw0 xw1 xw2 xw3
  clear hf1 hb1' hb2' h hp hsl hd hf w0 w1 w2 w3
  have Gq0 := cell_regrown q0
  have Gq1 := cell_regrown q1
  have Gq2 := cell_regrown q2
  have Gq3 := cell_regrown q3
  have Gr0 := cell_regrown r0
  have Gr1 := cell_regrown r1
  have Gr2 := cell_regrown r2
  have Gr3 := cell_regrown r3
  have Gy0 := cell_regrown y0
  have Gy1 := cell_regrown y1
  have Gy2 := cell_regrown y2
  have Gy3 := cell_regrown y3
  refine wp_region_mix [([(0, true), (1, true), (2, true), (3, true), (4, true), (5, true), (6, true), (7, true), (8, true), (9, true), (10, true), (11, true), (12, false), (13, true)], 14)] [] (by kernel_rfl) (fun _ _ d _ _ h => by cases d <;> exact h) (by kernel_rfl) ?_
  refine wpMix_seg ?_
  repeat (refine wpSeq_plain rfl (fun K hK => ?_); go_simp; refine hK _ ?_; clear hK K)
  refine wpSeq_lone rfl (fun K hK => ?_)
  go_wp2_with fail
  refine (wscripted_any x _ _).mono ?_
  rintro _ W5 ⟨rfl, hf5⟩
  have HF5 := hid (show Fresh W1 W5 from Touch.ofN hf5)
  clear hf5
  go_wp2_with fail
  refine hK _ _ (growing_fresh HF5.out) ?_
  clear hK K
  repeat (refine wpSeq_plain rfl (fun K hK => ?_); go_simp; refine hK _ ?_; clear hK K)
  refine wpSeq_shut rfl (fun K hK => ?_)
  go_wp2_with fail
  have HFL := hid (show f + (0 + 2 * (Tr.scripted x).toNat + (rowT n.kids[0].kids).length) + segsLen ((LI scriptK scriptB n.kids).drop 1) ≤ k.T.length by
    have h1 := HF.out
    rw [HL0.out, segsLen, Tr.segLen_eq] at h1
    omega)
  refine (slot_any HK.out n 0 c1 (HI.out n.kids[0] (List.getElem_mem c1)) (HAT1.out.fresh HK.out HF5.out) HSL.out (HP1.out.mv (Mv.fresh HF5.out)) (by have := HD.out; have := HDX0.out; have := HDN.out; omega) (Tr.scripted x) (by have := HFL.out; omega) (by have h1 := HLIM.out; rw [HL0.out, run_cons] at h1; exact HK.out.lim.2 _ _ _ _ _ h1)).mono ?_
  rintro _ W7 ⟨rfl, S7, hat, hmv⟩
  have HAT7 := hid hat
  have HMV7 := hid ((Mv.fresh (g := k.g) (S := S) HF5.out).trans hmv)
  clear hat hmv q0 q1 q2 q3 r0 r1 r2 r3 y0 y1 y2 y3 Gq0 Gq1 Gq2 Gq3 Gr0 Gr1 Gr2 Gr3 Gy0 Gy1 Gy2 Gy3
  have HB7 := hid (HMV7.out.blk HB1.out hnS hng)
  obtain ⟨q0, q1, q2, q3, _, _, _, _, hg7⟩ := Blk.four HB7.out.1
  go_wp2_with fail
  refine wpMix_end ?_
  go_wp2_with fail
  go_loopw [7] (fun i wr => ∃ (j : Nat) (S1 : Nat → Prop) (f1 : Nat) (s1 : σ), i = .int .i64 j ∧ 1 ≤ j ∧ j ≤ n.kids.length ∧ Hid (k.At S1 f1 s1 wr) ∧ Hid (Mv k.g S S1 W1 wr) ∧ Hid (runSegs k.C k.T ((LI scriptK scriptB n.kids).drop j) p j f1 s1 = runSegs k.C k.T (LI scriptK scriptB n.kids) p 0 (f + 0) s) ∧ Hid (f1 + segsLen ((LI scriptK scriptB n.kids).drop j) = f + 0 + segsLen (LI scriptK scriptB n.kids))) (fun i _ => n.kids.length - (intOf i).toNat)
  case atStart => exact ⟨1, S7, f + 2 * (Tr.scripted x).toNat + (rowT n.kids[0].kids).length, _, rfl, Nat.le_refl _, c1, HAT7, HMV7, by rw [Hid, HL0.out, run_cons, Tr.segLen_eq]; simp only [Nat.zero_add, Nat.add_zero, ← Nat.add_assoc]; rfl, by rw [Hid, HL0.out, segsLen, Tr.segLen_eq]; simp only [List.drop_succ_cons, List.drop_zero]; omega⟩
  case round =>
    clear q0 q1 q2 q3
    obtain ⟨j, S1, f1, s1, rfl, hlow, hj, HAT, HMV, HRUN, HLEN⟩ := hrel
    have HB := hid (HMV.out.blk HB1.out hnS hng)
    obtain ⟨q0, q1, q2, q3, _, _, _, _, hg4⟩ := Blk.four HB.out.1
    by_cases c1 : j < n.kids.length
    · have d1 : decide ((j : Int) < (n.kids.length : Int)) = true := by simp only [decide_eq_true_eq]; omega
      have d1n : decide (j < n.kids.length) = true := by simp only [decide_eq_true_eq]; omega
      have d1' : (j : Int) < (n.kids.length : Int) := by omega
      obtain ⟨g', o', sx, heq, hg, m0, m1, m2, m3, hrk⟩ := HSL.out.get j c1
      cases heq
      obtain ⟨Ax, capx', rfl⟩ := hrk.slice
      have M0 := hid m0
      have M1 := hid m1
      have M2 := hid m2
      have M3 := hid m3
      have HRK0 := hid hrk
      have HRK := hid (hrk.low HAT.out.low)
      have HDX := hid (depth_mem (List.getElem_mem (l := n.kids) (n := j) c1))
      have HP2 := hid (HP1.out.mv HMV.out)
      have a0 := Low.cell HAT.out.low m0
      have a1 := Low.cell HAT.out.low m1
      have a2 := Low.cell HAT.out.low m2
      have a3 := Low.cell HAT.out.low m3
      have hgw : g < wr.heap.size := block_lt_of_cell a0
      clear m0 m1 m2 m3 hrk hg
      have j0 : ¬ j = 0 := by omega
      have hK1 : scriptK j = 1 := by unfold scriptK; rw [if_neg j0]
      have hB1 : scriptB j n.kids[j] = Tr.grp n.kids[j] := by unfold scriptB; rw [if_neg j0]
      clear j0
      have HR2 := hid (show runSegs k.C k.T ((LI scriptK scriptB n.kids).drop (j + 1)) p (j + 1) (f1 + segLen (1, Tr.grp n.kids[j], n.kids[j])) (runRow k.C k.T n.kids[j].kids (p ++ [j]) 0 (f1 + 1 + (Tr.grp n.kids[j]).toNat) s1) = runSegs k.C k.T (LI scriptK scriptB n.kids) p 0 (f + 0) s by rw [← HRUN.out, LI_drop _ _ _ _ c1, hK1, hB1, run_cons])
      have HLX := hid (show f1 + ((1 + 2 * (Tr.grp n.kids[j]).toNat + (rowT n.kids[j].kids).length) + segsLen ((LI scriptK scriptB n.kids).drop (j + 1))) = f + 0 + segsLen (LI scriptK scriptB n.kids) by rw [← HLEN.out, LI_drop _ _ _ _ c1, hK1, hB1, segsLen, Tr.segLen_eq])
      clear hK1 hB1
      obtain ⟨_, b1, _, _, bf⟩ := HAT.out.cells
      have hglt := HAT.out.glt
      have hb0 : (f1 : Int) ≤ 100000 := by have := HLEN.out; have := HF.out; have := HK.out.len; omega
      have hb1 : 0 ≤ (f1 : Int) := by omega
      have HNX := hid (HAT.out.next HK.out (f' := f1 + 1) ((f1 : Int) + 1) (by omega))
      have HR3 := hid HRK.out
      go_wp2_with fail
      refine forget_world (fun W => k.At S1 (f1 + 1) s1 W ∧ Mv k.g S1 S1 wr W) ⟨HNX.out.1, HNX.out.2⟩ ?_
      rintro W2 ⟨hat2, hmv2⟩
      have HAT2 := hid hat2
      have HMV2 := hid (HMV.out.trans hmv2)
      have HP3 := hid (HP1.out.mv HMV2.out)
      have HB2 := hid (HMV2.out.blk HB1.out hnS hng)
      have HRK2 := hid (HRK0.out.low hat2.low)
      clear b1 bf hglt hb0 hb1 hat2 hmv2 q0 q1 q2 q3
      obtain ⟨q0, q1, q2, q3, _, _, _, _, hg6⟩ := Blk.four HB2.out.1
      have a0' := Low.cell HAT2.out.low M0.out
      have a1' := Low.cell HAT2.out.low M1.out
      have a2' := Low.cell HAT2.out.low M2.out
      have a3' := Low.cell HAT2.out.low M3.out
      clear a0 a1 a2 a3
      have a0 := a0'
      have a1 := a1'
      have a2 := a2'
      have a3 := a3'
      have hgw2 : g < W2.heap.size := block_lt_of_cell a0
      clear a0' a1' a2' a3'
      have g0 := cell_regrown q0
      have g1 := cell_regrown q1
      have g2 := cell_regrown q2
      have g3 := cell_regrown q3
      have h0 := cell_regrown a0
      have h1 := cell_regrown a1
      have h2 := cell_regrown a2
      have h3 := cell_regrown a3
      refine wp_region_mix [([(0, true), (1, true), (2, true), (3, true), (4, true), (5, true), (6, true), (7, true), (8, true), (9, false)], 10)] [] (by kernel_rfl) (fun _ _ d _ _ h => by cases d <;> exact h) (by kernel_rfl) ?_
      refine wpMix_seg ?_
      repeat (refine wpSeq_plain rfl (fun K hK => ?_); go_simp; refine hK _ ?_; clear hK K)
      refine wpSeq_lone rfl (fun K hK => ?_)
      go_wp2_with fail
      refine (wgroup_any n.kids[j] _ _ (HRK2.out.fresh (show Fresh W2 _ from (Touch.refl _ _).drewN _))).mono ?_
      rintro _ W5 ⟨rfl, hf5⟩
      have HF5 := hid (show Fresh W2 W5 from Touch.ofN hf5)
      clear hf5
      go_wp2_with fail
      refine hK _ _ (growing_fresh HF5.out) ?_
      clear hK K
      refine wpSeq_shut rfl (fun K hK => ?_)
      go_wp2_with fail
      refine (slot_any HK.out n j c1 (HI.out n.kids[j] (List.getElem_mem c1)) (HAT2.out.fresh HK.out HF5.out) HSL.out (HP3.out.mv (Mv.fresh HF5.out)) (by have := HD.out; have := HDX.out; have := HDN.out; omega) (Tr.grp n.kids[j]) (by have := HLX.out; have := HF.out; omega) (by have h1 := HLIM.out; rw [← HR2.out] at h1; exact HK.out.lim.2 _ _ _ _ _ h1)).mono ?_
      rintro _ W8 ⟨rfl, S8, hat, hmv⟩
      have HAT8 := hid hat
      have HMV8 := hid ((HMV2.out.trans (Mv.fresh HF5.out)).trans hmv)
      clear hat hmv
      clear q0 q1 q2 q3 a0 a1 a2 a3 g0 g1 g2 g3 h0 h1 h2 h3
      go_wp2_with fail
      refine wpMix_end ?_
      go_wp2_with fail
      go_roundw
      case rel => exact ⟨j + 1, S8, f1 + segLen (1, Tr.grp n.kids[j], n.kids[j]), _, by go_num, by omega, c1, by have := HAT8.out; rw [Tr.segLen_eq, ← Nat.add_assoc, ← Nat.add_assoc]; exact this, HMV8, HR2.out, by rw [Hid, ← HLX.out, Tr.segLen_eq]; omega⟩
      case measure => simp [intOf]; omega
    · have d1 : decide ((j : Int) < (n.kids.length : Int)) = false := by simp only [decide_eq_false_iff_not]; omega
      have d1n : decide (j < n.kids.length) = false := by simp only [decide_eq_false_iff_not]; omega
      obtain rfl : j = n.kids.length := by omega
      go_wp2_with fail
      first | go_end0 | refine bodyPost_ret (v := .tuple #[]) (results_none rfl _ _ _) rfl ?_
      exact ⟨rfl, S1, by have := HAT.out; have h1 := HLEN.out; have h2 := HRUN.out; rw [LI_end] at h1 h2; rw [run_nil] at h2; rw [segsLen, Nat.add_zero] at h1; rw [h1, h2] at this; exact this, HMV1.out.trans HMV.out⟩
end Go.Proofs.Ytdacpbdamliafaa

/- The walker's row: the walk over a row, with all that it calls. -/
namespace Go.Proofs.Ytdacpbdamliafaa
open Go.RowKit
open Tr (Nd Clo runRow runSegs rowT itemT segs segsLen segLen)
attribute [local go_sem] stillV stillUpon

variable {σ κ : Type}
theorem Mc.tok {S S' : Nat → Prop} {w w' : World} (h : Mc S S' w w') {p : Addr} {v : Value} (hc : w.cell? p = some v) (hn : ¬ S p.block) : w'.cell? p = some v := h.touch.cell hc hn
theorem runRow_nil (C : Clo σ κ) (T : List Lx.PTok) (p : List Nat) (i f : Nat) (s : σ) : runRow C T [] p i f s = C.off s (p ++ [i]) (Tr.endAt T f) := by rw [runRow]
theorem runRow_cons (C : Clo σ κ) (T : List Lx.PTok) (n : Nd) (ns : List Nd) (p : List Nat) (i f : Nat) (s : σ) :
    runRow C T (n :: ns) p i f s = runRow C T ns p (i + 1) (f + (itemT n).length) (C.done (runSegs C T (segs n) (p ++ [i]) 0 f (C.item (C.off s (p ++ [i]) (Tr.fromAt T f)) (p ++ [i]) (Tr.fromAt T f))) (C.key (C.off s (p ++ [i]) (Tr.fromAt T f))) (Tr.endAt T (f + (itemT n).length))) := by rw [runRow]
theorem row_drop (ks : List Nd) (j : Nat) (h : j < ks.length) : (rowT (ks.drop j)).length = (itemT ks[j]).length + (rowT (ks.drop (j + 1))).length := by
  rw [List.drop_eq_getElem_cons h, Tr.rowT_cons, List.length_append]
theorem path_cat0 {g : Nat} {S : Nat → Prop} {W : World} {A : Option Addr} {cap : Nat} {p : List Nat} (hp : PathIn g S W (.slice A p.length cap) p) (hS : ∀ b, S b → b < W.heap.size) (hg : g < W.heap.size) (hl : p.length ≤ 1000) (i : Nat) :
    Calls Try.prog 46 #[.slice (some ⟨W.heap.size + 1, 0, none⟩) 2 2] ((W.alloc (.cells #[.int .i64 (i : Int)] 3)).alloc (.cells #[.slice A p.length cap, .slice (some ⟨W.heap.size, 0, none⟩) 1 1] 31))
      fun e w' => ∃ A' cap', e = .returned (.slice A' (p.length + 1) cap') ∧ PathIn g S w' (.slice A' (p.length + 1) cap') (p ++ [i]) ∧ Fresh W w' := path_cat hp hS hg hl i 0
theorem place_le {k : Wk σ κ} (hk : k.Good) (f : Nat) : Tr.fromAt k.T f ≤ 1000000 ∧ Tr.endAt k.T f ≤ 1000000 := by
  refine ⟨?_, ?_⟩
  · unfold Tr.fromAt
    cases h : k.T[f]? with
    | none => simp
    | some t => exact (hk.place t (List.mem_of_getElem? h)).1
  · unfold Tr.endAt
    split
    · exact Nat.zero_le _
    · cases h : k.T[f - 1]? with
      | none => simp
      | some t => exact (hk.place t (List.mem_of_getElem? h)).2

set_option maxRecDepth 100000 in
set_option maxHeartbeats 4000000 in
theorem row_any {k : Wk σ κ} (hk : k.Good) (a : Nd) (hv : ∀ x ∈ a.kids, 1 ≤ (itemT x).length) (htree : ∀ x ∈ a.kids, k.TreeS x) : k.RowS a := by
  intro S f s w p v sl kd tx cl h hsl hp hd hf hlim
  have HLIM := hid hlim
  clear hlim
  have hdep := Tr.depth_kids a
  have hlen := hsl.len
  unfold maxLen at hlen
  obtain ⟨A, cap, rfl⟩ := hsl.slice
  obtain ⟨Ap, capp, rfl⟩ := hp.slice
  have HK := hid hk
  have HAT0 := hid h
  have HP0 := hid hp
  have HSL := hid hsl
  have HI := hid htree
  have HV := hid hv
  have HD := hid (show p.length + 2 * Tr.depthL a.kids + 2 ≤ 500 by omega)
  have HF := hid hf
  have hnS : ¬ S w.heap.size := fun e => absurd (h.slt hk _ e) (Nat.lt_irrefl _)
  have hng : w.heap.size ≠ k.g := by have := h.glt; omega
  clear h hp hsl hd hf hdep hv htree
  generalize a.kids = ks at *
  go_enter Try.func37, Try.ntmps37
  go_wp2_with fail
  refine forget_world (fun W => Fresh w W ∧ Blk W w.heap.size 24 #[kd, tx, cl, .slice A ks.length cap]) ⟨(Touch.refl _ _).alloc _, Blk.new _ _ _⟩ ?_
  rintro W1 ⟨hf1, hb1'⟩
  have HAT1 := hid (HAT0.out.fresh HK.out hf1)
  have HMV1 := hid (Mv.fresh (g := k.g) (S := S) hf1)
  have HB1 := hid hb1'
  have HP1 := hid (HP0.out.mv HMV1.out)
  have q3 : W1.cell? ⟨w.heap.size, 3, none⟩ = some (.slice A ks.length cap) := hb1'.cell 3
  clear hf1 hb1'
  go_wp2_with fail
  go_loopw [14] (fun i wr => ∃ (j : Nat) (S1 : Nat → Prop) (f1 : Nat) (s1 : σ), i = .int .i64 j ∧ j ≤ ks.length ∧ Hid (k.At S1 f1 s1 wr) ∧ Hid (Mv k.g S S1 W1 wr) ∧ Hid (runRow k.C k.T (ks.drop j) p j f1 s1 = runRow k.C k.T ks p 0 f s) ∧ Hid (f1 + (rowT (ks.drop j)).length = f + (rowT ks).length)) (fun i _ => ks.length - (intOf i).toNat)
  case atStart => exact ⟨0, S, f, s, rfl, Nat.zero_le _, HAT1, Mv.refl _ _ _, rfl, rfl⟩
  case round =>
    clear q3
    obtain ⟨j, S1, f1, s1, rfl, hj, HAT, HMV, HRUN, HLEN⟩ := hrel
    have HB := hid (HMV.out.blk HB1.out hnS hng)
    have q3 : wr.cell? ⟨w.heap.size, 3, none⟩ = some (.slice A ks.length cap) := HB.out.1.cell 3
    have hg4 := HB.out.1.lt
    by_cases c1 : j < ks.length
    · have d1 : decide ((j : Int) < (ks.length : Int)) = true := by simp only [decide_eq_true_eq]; omega
      have d1n : decide (j < ks.length) = true := by simp only [decide_eq_true_eq]; omega
      have d1' : (j : Int) < (ks.length : Int) := by omega
      obtain ⟨g, o, sx, rfl, hg, m0, m1, m2, m3, hrk⟩ := HSL.out.get j c1
      obtain ⟨Ax, capx, rfl⟩ := hrk.slice
      have HRK := hid hrk
      have HDX := hid (depth_mem (List.getElem_mem (l := ks) (n := j) c1))
      have a0 := Low.cell HAT.out.low m0
      have a1 := Low.cell HAT.out.low m1
      have a2 := Low.cell HAT.out.low m2
      have a3 := Low.cell HAT.out.low m3
      have hgw : g < wr.heap.size := block_lt_of_cell a0
      have HT := hid (HI.out ks[j] (List.getElem_mem c1))
      have HPOS := hid (HV.out ks[j] (List.getElem_mem c1))
      have HR2 := hid (show runRow k.C k.T (ks.drop (j + 1)) p (j + 1) (f1 + (itemT ks[j]).length) (k.C.done (runSegs k.C k.T (segs ks[j]) (p ++ [j]) 0 f1 (k.C.item (k.C.off s1 (p ++ [j]) (Tr.fromAt k.T f1)) (p ++ [j]) (Tr.fromAt k.T f1))) (k.C.key (k.C.off s1 (p ++ [j]) (Tr.fromAt k.T f1))) (Tr.endAt k.T (f1 + (itemT ks[j]).length))) = runRow k.C k.T ks p 0 f s by
        rw [← HRUN.out, List.drop_eq_getElem_cons c1, runRow_cons])
      have HL4 := hid (HK.out.lim.1 _ _ _ _ _ (by have h1 := HLIM.out; rw [← HR2.out] at h1; exact h1))
      have HL3 := hid (HK.out.limd _ _ _ HL4.out)
      have HL2 := hid (HK.out.lim.2 _ _ _ _ _ HL3.out)
      have HL1 := hid (HK.out.limi _ _ _ HL2.out)
      have HLX := hid (show f1 + ((itemT ks[j]).length + (rowT (ks.drop (j + 1))).length) = f + (rowT ks).length by rw [← HLEN.out, row_drop _ _ c1])
      have hfl : f1 < k.T.length := by have := HLX.out; have := HF.out; have := HPOS.out; omega
      have HFR := hid (fromAt_eq k.T f1 hfl)
      obtain ⟨b0, b1, b2, b3, _⟩ := HAT.out.cells
      have HGL := hid HAT.out.glt
      have hglt := HAT.out.glt
      obtain ⟨At, capt, hv, ht⟩ := HAT.out.tok
      obtain ⟨rfl, hlt, _, t2, t3⟩ := ht f1 hfl
      rw [hv] at b0
      rw [← HFR.out] at t2
      have hpl := (place_le HK.out f1).1
      have hfi : (f1 : Int) < (k.T.length : Int) := by omega
      clear m0 m1 m2 m3 hrk hg HFR t3 ht hv
      generalize hpf : Tr.fromAt k.T f1 = pf at *
      clear hpf
      go_wp2_with fail
      go_quiet (fail)
      refine forget_world (fun W => Fresh wr W ∧ Blk W wr.heap.size 24 #[.int .i64 ks[j].kind, .string ⟨ks[j].text.toArray⟩, .int .i64 ks[j].cols, .slice Ax ks[j].kids.length capx]) ⟨((Touch.refl _ _).alloc _).drewN _, (Blk.new _ _ _).drewN _⟩ ?_
      rintro W3 ⟨hf3, hb3⟩
      have HAT3 := hid (HAT.out.fresh HK.out hf3)
      have HP3 := hid ((HP1.out.mv HMV.out).mv (Mv.fresh hf3))
      have HMV3 := hid (HMV.out.trans (Mv.fresh hf3))
      have HB3 := hid hb3
      have hnS3 : ¬ S1 wr.heap.size := fun e => absurd (HAT.out.slt HK.out _ e) (Nat.lt_irrefl _)
      have hng3 : wr.heap.size ≠ k.g := by omega
      clear hf3 hb3 a0 a1 a2 a3 b0 b1 b2 b3 t2 q3 hglt hlt
      go_wp2_with fail
      refine (path_cat0 HP3.out (HAT3.out.slt HK.out) HAT3.out.glt (by have := HD.out; omega) j).mono ?_
      rintro _ W4 ⟨A4, cap4, rfl, hp4, hf4⟩
      have HAT4 := hid (HAT3.out.fresh HK.out hf4)
      have HP4 := hid hp4
      have HMV4 := hid (HMV3.out.trans (Mv.fresh hf4))
      have HB4 := hid (HB3.out)
      have HMVB4 := hid (Mv.fresh (g := k.g) (S := S1) hf4)
      clear hp4 hf4
      obtain ⟨b0, b1, b2, b3, _⟩ := HAT4.out.cells
      have hcf := HK.out.callo
      go_wp2_with fail
      refine (HK.out.off _ _ _ (p ++ [j]) _ pf HAT4.out.st HP4.out (by have := HD.out; simp only [List.length_append, List.length_singleton]; omega) (by omega) HL1.out).mono ?_
      rintro _ W5 ⟨rfl, S5, hst, hmc⟩
      have HAT5 := hid (HAT4.out.mc HK.out hmc hst)
      have HP5 := hid (HP4.out.mv hmc.mv)
      have HMV5 := hid (HMV4.out.trans hmc.mv)
      have HMVB5 := hid (HMVB4.out.trans hmc.mv)
      clear hst hmc b0 b1 b2 b3 hcf
      obtain ⟨b0, b1, b2, b3, _⟩ := HAT5.out.cells
      have hcf := HK.out.calli
      go_wp2_with fail
      refine (HK.out.item _ _ _ (p ++ [j]) _ pf HAT5.out.st HP5.out (by have := HD.out; simp only [List.length_append, List.length_singleton]; omega) (by omega) HL2.out).mono ?_
      rintro _ W6 ⟨d, cd, S6, rfl, hst, hmc, hdn⟩
      have HAT6 := hid (HAT5.out.mc HK.out hmc hst)
      have HP6 := hid (HP5.out.mv hmc.mv)
      have HMV6 := hid (HMV5.out.trans hmc.mv)
      have HMVB6 := hid (HMVB5.out.trans hmc.mv)
      have HDN6 := hid hdn
      clear hst hmc hdn b0 b1 b2 b3 hcf
      obtain ⟨r0, r1, r2, r3, _, _, _, _, hgr⟩ := Blk.four (HMVB6.out.blk HB3.out hnS3 hng3).1
      go_wp2_with fail
      refine (HT.out _ _ _ _ (p ++ [j]) _ _ HAT6.out HRK.out HP6.out (by have := HD.out; have := HDX.out; simp only [List.length_append, List.length_singleton]; omega) (by have := HLX.out; have := HF.out; omega) HL3.out).mono ?_
      rintro _ W7 ⟨rfl, S7, hat, hmv⟩
      have HAT7 := hid hat
      have HMV7 := hid (HMV6.out.trans hmv)
      have HDN7 := hid (HK.out.dnmv _ _ _ _ _ _ _ HDN6.out hmv)
      clear hat hmv r0 r1 r2 r3 hgr
      go_wp2_with fail
      refine (end_any HK.out HAT7.out (by have := HLX.out; have := HF.out; omega)).mono ?_
      rintro _ W8 ⟨rfl, hf8⟩
      have HAT8 := hid (HAT7.out.fresh HK.out hf8)
      have HMV8 := hid (HMV7.out.trans (Mv.fresh hf8))
      have HDN8 := hid (HK.out.dnmv _ _ _ _ _ _ _ HDN7.out (Mv.fresh hf8))
      have HE8 := hid (place_le HK.out (f1 + (itemT ks[j]).length)).2
      clear hf8
      have hcf := HK.out.calld _ _ _ _ _ HDN8.out
      go_wp2_with fail
      refine (HK.out.done _ _ _ _ _ _ (Tr.endAt k.T (f1 + (itemT ks[j]).length)) HAT8.out.st HDN8.out ((HK.out.kp _).2 _ _ _ _ _ (HK.out.kp0 _ _ _)) HE8.out HL4.out).mono ?_
      rintro _ W9 ⟨rfl, S9, hst, hmc⟩
      have HAT9 := hid (HAT8.out.mc HK.out hmc hst)
      have HMV9 := hid (HMV8.out.trans hmc.mv)
      clear hst hmc hcf
      go_wp2_with fail
      go_roundw
      case rel => exact ⟨j + 1, S9, f1 + (itemT ks[j]).length, _, by go_num, c1, HAT9, HMV9, HR2.out, by rw [Hid, ← HLX.out]; omega⟩
      case measure => simp [intOf]; omega
    · have d1 : decide ((j : Int) < (ks.length : Int)) = false := by simp only [decide_eq_false_iff_not]; omega
      have d1n : decide (j < ks.length) = false := by simp only [decide_eq_false_iff_not]; omega
      obtain rfl : j = ks.length := by omega
      have HR2 := hid (show k.C.off s1 (p ++ [ks.length]) (Tr.endAt k.T f1) = runRow k.C k.T ks p 0 f s by rw [← HRUN.out, List.drop_length, runRow_nil])
      have HF1 := hid (show f1 = f + (rowT ks).length by rw [← HLEN.out, List.drop_length, Tr.rowT_nil]; rfl)
      have HP2 := hid (HP1.out.mv HMV.out)
      obtain ⟨b0, b1, b2, b3, _⟩ := HAT.out.cells
      have hglt := HAT.out.glt
      have g3 := cell_regrown q3
      have h0 := cell_regrown b0
      have h1 := cell_regrown b1
      have h2 := cell_regrown b2
      have h3 := cell_regrown b3
      have hcf := HK.out.callo
      go_wp2_with fail
      refine wp_region_mix [([(0, true), (1, true), (2, true), (3, true), (4, true), (5, true), (6, true), (7, true), (11, true), (8, false), (9, false), (10, false), (12, false)], 13)] [] (by kernel_rfl) (fun _ _ d _ _ h => by cases d <;> exact h) (by kernel_rfl) ?_
      refine wpMix_seg ?_
      repeat (refine wpSeq_plain rfl (fun K hK => ?_); go_simp; refine hK _ ?_; clear hK K)
      refine wpSeq_lone rfl (fun K hK => ?_)
      go_wp2_with fail
      refine hK _ _ (growing_fresh (((Touch.refl _ _).drewN _).alloc _)) ?_
      clear hK K
      refine wpSeq_lone rfl (fun K hK => ?_)
      go_wp2_with fail
      refine hK _ _ (growing_fresh ((((Touch.refl _ _).drewN _).alloc _).alloc _)) ?_
      clear hK K
      refine wpSeq_lone rfl (fun K hK => ?_)
      go_wp2_with fail
      refine (path_cat HP2.out (HAT.out.slt HK.out) HAT.out.glt (by have := HD.out; omega) ks.length 1).mono ?_
      rintro _ W6 ⟨A6, cap6, rfl, hp6, hf6⟩
      have HP6 := hid hp6
      have HF6 := hid hf6
      have HAT6 := hid (HAT.out.fresh HK.out hf6)
      clear hp6 hf6
      go_wp2_with fail
      refine hK _ _ (growing_fresh HF6.out) ?_
      clear hK K
      refine wpSeq_lone rfl (fun K hK => ?_)
      go_wp2_with fail
      refine (end_any HK.out HAT6.out (by have := HF.out; have := HF1.out; omega)).mono ?_
      rintro _ W7 ⟨rfl, hf7⟩
      have HAT7 := hid (HAT6.out.fresh HK.out hf7)
      have HP7 := hid (HP6.out.mv (Mv.fresh hf7))
      have HF7 := hid (HF6.out.trans hf7)
      clear hf7
      go_wp2_with fail
      refine hK _ _ (growing_fresh HF7.out) ?_
      clear hK K
      refine wpSeq_shut rfl (fun K hK => ?_)
      go_wp2_with fail
      refine (HK.out.off _ _ _ (p ++ [ks.length]) _ (Tr.endAt k.T f1) HAT7.out.st HP7.out (by have := HD.out; simp only [List.length_append, List.length_singleton]; omega) (place_le HK.out f1).2 (by have h1 := HLIM.out; rw [← HR2.out] at h1; exact h1)).mono ?_
      rintro _ W8 ⟨rfl, S8, hst, hmc⟩
      have HAT8 := hid (HAT7.out.mc HK.out hmc hst)
      have HMV8 := hid ((HMV.out.trans (Mv.fresh HF7.out)).trans hmc.mv)
      clear hst hmc
      go_wp2_with fail
      refine wpMix_end ?_
      go_wp2_with fail
      first | go_end0 | refine bodyPost_ret (v := .tuple #[]) (results_none rfl _ _ _) rfl ?_
      exact ⟨rfl, S8, by have := HAT8.out; rw [HR2.out, HF1.out] at this; exact this, HMV1.out.trans HMV8.out⟩
end Go.Proofs.Ytdacpbdamliafaa

/- Where the positions and the spans of a valid tree lie: bounds, order, nesting. No program in sight. -/
namespace Go.Proofs.Ytdacpbdamliafaa.Tr
open Lx (Tok PTok)

theorem View.rows {n : Nd} (v : View n) : ∀ a ∈ n.kids, IsRow a := by
  cases v with
  | sym t h => intro a ha; cases ha
  | num t h => intro a ha; cases ha
  | text t h => intro a ha; cases ha
  | frac a b ha hb => intro x hx; simp [Nd.kids] at hx; rcases hx with rfl | rfl <;> assumption
  | root a b ha hb => intro x hx; simp [Nd.kids] at hx; rcases hx with rfl | rfl <;> assumption
  | sub a b ha hb => intro x hx; simp [Nd.kids] at hx; rcases hx with rfl | rfl <;> assumption
  | sup a b ha hb => intro x hx; simp [Nd.kids] at hx; rcases hx with rfl | rfl <;> assumption
  | both a b d ha hb hd => intro x hx; simp [Nd.kids] at hx; rcases hx with rfl | rfl | rfl <;> assumption
  | accent t a h ha => intro x hx; simp [Nd.kids] at hx; rcases hx with rfl; assumption
  | fence t a h ha => intro x hx; simp [Nd.kids] at hx; rcases hx with rfl; assumption
  | matrix c ks hc hn hm h => exact h
theorem View.segRows {n : Nd} (v : View n) : ∀ x ∈ segs n, IsRow x.2.2 := by
  intro x hx
  refine v.rows _ ?_
  rw [← segs_rows]
  exact List.mem_map.2 ⟨x, hx, rfl⟩

/-- Tokens one behind the other. -/
structure Mono (T : List PTok) : Prop where
  own : ∀ i (h : i < T.length), T[i].from_ ≤ T[i].to_
  next : ∀ i (h : i + 1 < T.length), T[i].to_ ≤ T[i + 1].from_

namespace Mono
variable {T : List PTok} (hm : Mono T)
include hm
theorem ends (f : Nat) (h : f < T.length) : endAt T f ≤ fromAt T f := by
  unfold endAt fromAt
  rw [List.getElem?_eq_getElem h]
  split
  · exact Nat.zero_le _
  · rename_i h0
    obtain ⟨f, rfl⟩ : ∃ g, f = g + 1 := ⟨f - 1, by omega⟩
    rw [Nat.add_sub_cancel, List.getElem?_eq_getElem (by omega)]
    exact hm.next f h
theorem one (f : Nat) (h : f < T.length) : fromAt T f ≤ endAt T (f + 1) := by
  unfold endAt fromAt
  rw [if_neg (by omega), Nat.add_sub_cancel, List.getElem?_eq_getElem h]
  exact hm.own f h
theorem end_mono : ∀ (d f : Nat), f + d ≤ T.length → endAt T f ≤ endAt T (f + d)
  | 0, f, _ => Nat.le_refl _
  | d + 1, f, h => by
    have h1 := end_mono d f (by omega)
    have h2 := hm.ends (f + d) (by omega)
    have h3 := hm.one (f + d) (by omega)
    rw [show f + (d + 1) = f + d + 1 by omega]
    omega
theorem endLe {f g : Nat} (h : f ≤ g) (hg : g ≤ T.length) : endAt T f ≤ endAt T g := by
  have := hm.end_mono (g - f) f (by omega)
  rwa [show f + (g - f) = g by omega] at this
theorem fromEnd {f g : Nat} (h : f < g) (hg : g ≤ T.length) : fromAt T f ≤ endAt T g := Nat.le_trans (hm.one f (by omega)) (hm.endLe (by omega) hg)
theorem endFrom {f g : Nat} (h : f ≤ g) (hg : g < T.length) : endAt T f ≤ fromAt T g := Nat.le_trans (hm.endLe h (by omega)) (hm.ends g hg)
theorem fromLe {f g : Nat} (h : f ≤ g) (hg : g < T.length) : fromAt T f ≤ fromAt T g := by
  rcases Nat.lt_or_ge f g with h1 | h1
  · exact Nat.le_trans (hm.fromEnd h1 (by omega)) (hm.ends g hg)
  · rw [show f = g by omega]; exact Nat.le_refl _
end Mono

/-- The first place of a row. -/
def lowR (T : List PTok) (ks : List Nd) (f : Nat) : Nat := if ks = [] then endAt T f else fromAt T f
theorem lowR_ge {T : List PTok} (hm : Mono T) (ks : List Nd) (hv : ∀ x ∈ ks, View x) (f : Nat) (h : f + (rowT ks).length ≤ T.length) : endAt T f ≤ lowR T ks f := by
  unfold lowR
  split
  · exact Nat.le_refl _
  · cases ks with
    | nil => contradiction
    | cons n ns =>
      rw [rowT_cons, List.length_append] at h
      have := item_pos n (hv n (by simp))
      exact hm.ends f (by omega)
def firsts (l : List (Nat × Bool × Nd)) : Prop := ∀ x ∈ l, x.1 = 0 → x.2.1 = false → x.2.2.kids ≠ []
def segsOK (l : List (Nat × Bool × Nd)) : Prop := (∀ x ∈ l, IsRow x.2.2) ∧ firsts l
theorem View.segsOK {n : Nd} (v : View n) : segsOK (segs n) := ⟨v.segRows, segs_first n v⟩
theorem segsOK.tail {x : Nat × Bool × Nd} {l : List (Nat × Bool × Nd)} (h : Tr.segsOK (x :: l)) : Tr.segsOK l := ⟨fun y hy => h.1 y (by simp [hy]), fun y hy => h.2 y (by simp [hy])⟩
theorem bool_le (b : Bool) : b.toNat ≤ 1 := by cases b <;> decide

theorem pos_bounds {T : List PTok} (hm : Mono T) : (∀ ks, (∀ x ∈ ks, View x) → ∀ p i f, f + (rowT ks).length ≤ T.length → ∀ x ∈ posRow T ks p i f, lowR T ks f ≤ x.2 ∧ x.2 ≤ endAt T (f + (rowT ks).length)) ∧
    ∀ l, segsOK l → ∀ p j f f0, f0 ≤ f → f + segsLen l ≤ T.length → ∀ x ∈ posSegs T l p j f, fromAt T f0 ≤ x.2 ∧ x.2 ≤ endAt T (f + segsLen l) := by
  refine rows_ind (P := fun ks => (∀ x ∈ ks, View x) → ∀ p i f, f + (rowT ks).length ≤ T.length → ∀ x ∈ posRow T ks p i f, lowR T ks f ≤ x.2 ∧ x.2 ≤ endAt T (f + (rowT ks).length)) (Q := fun l => segsOK l → ∀ p j f f0, f0 ≤ f → f + segsLen l ≤ T.length → ∀ x ∈ posSegs T l p j f, fromAt T f0 ≤ x.2 ∧ x.2 ≤ endAt T (f + segsLen l)) ?_ ?_ ?_ ?_
  · intro _ p i f hf x hx
    rw [posRow] at hx
    rcases List.mem_singleton.1 hx with rfl
    rw [rowT_nil]
    exact ⟨Nat.le_refl _, Nat.le_refl _⟩
  · intro n ns h1 h2 hv p i f hf x hx
    have vn := hv n (by simp)
    have hi := item_segs n vn
    have hp := item_pos n vn
    rw [rowT_cons, List.length_append] at hf ⊢
    rw [posRow] at hx
    have hl : lowR T (n :: ns) f = fromAt T f := by unfold lowR; rw [if_neg (by simp)]
    rw [hl]
    rcases List.mem_cons.1 hx with rfl | hx
    · exact ⟨Nat.le_refl _, hm.fromEnd (by omega) hf⟩
    · rcases List.mem_append.1 hx with hx | hx
      · obtain ⟨a, b⟩ := h1 vn.segsOK _ _ _ f (Nat.le_refl _) (by omega) x hx
        exact ⟨a, Nat.le_trans b (hm.endLe (by omega) hf)⟩
      · have hv' : ∀ y ∈ ns, View y := fun y hy => hv y (by simp [hy])
        obtain ⟨a, b⟩ := h2 hv' _ _ _ (by omega) x hx
        have := lowR_ge hm ns hv' (f + (itemT n).length) (by omega)
        have := hm.fromEnd (f := f) (g := f + (itemT n).length) (by omega) (by omega)
        rw [Nat.add_assoc] at b
        exact ⟨by omega, b⟩
  · intro _ p j f f0 _ _ x hx; rw [posSegs] at hx; cases hx
  · intro k b a r h1 h2 hok p j f f0 h0 hf x hx
    have hr : IsRow a := hok.1 (k, b, a) (by simp)
    rw [segsLen, segLen_eq] at hf ⊢
    rw [posSegs] at hx
    rcases List.mem_append.1 hx with hx | hx
    · obtain ⟨c, d⟩ := h1 hr.views _ _ _ (by omega) x hx
      refine ⟨Nat.le_trans ?_ c, Nat.le_trans d (hm.endLe (by omega) hf)⟩
      unfold lowR
      split
      · rename_i hk
        have : 0 < k + b.toNat := by
          rcases Nat.eq_zero_or_pos (k + b.toNat) with h | h
          · have hb : b = false := by cases b with | false => rfl | true => simp at h
            exact absurd hk (hok.2 (k, b, a) (by simp) (by show k = 0; omega) hb)
          · exact h
        exact hm.fromEnd (by omega) (by omega)
      · rename_i hk
        have h3 : 0 < (rowT a.kids).length := by
          cases hks : a.kids with
          | nil => exact absurd hks hk
          | cons y ys =>
            rw [rowT_cons, List.length_append]
            have := item_pos y (hr.views y (by rw [hks]; simp))
            omega
        exact hm.fromLe (by omega) (by omega)
    · rw [segLen_eq] at hx
      obtain ⟨c, d⟩ := h2 hok.tail _ _ _ f0 (by omega) (by omega) x hx
      refine ⟨c, ?_⟩
      rw [← Nat.add_assoc]
      exact d

/-- Places do not decrease from position to position. -/
theorem pos_mono {T : List PTok} (hm : Mono T) : (∀ ks, (∀ x ∈ ks, View x) → ∀ p i f, f + (rowT ks).length ≤ T.length → (posRow T ks p i f).Pairwise fun x y => x.2 ≤ y.2) ∧
    ∀ l, segsOK l → ∀ p j f, f + segsLen l ≤ T.length → (posSegs T l p j f).Pairwise fun x y => x.2 ≤ y.2 := by
  obtain ⟨b1, b2⟩ := pos_bounds hm
  refine rows_ind (P := fun ks => (∀ x ∈ ks, View x) → ∀ p i f, f + (rowT ks).length ≤ T.length → (posRow T ks p i f).Pairwise fun x y => x.2 ≤ y.2) (Q := fun l => segsOK l → ∀ p j f, f + segsLen l ≤ T.length → (posSegs T l p j f).Pairwise fun x y => x.2 ≤ y.2) ?_ ?_ ?_ ?_
  · intro _ p i f _; rw [posRow]; simp
  · intro n ns h1 h2 hv p i f hf
    have vn := hv n (by simp)
    have hi := item_segs n vn
    have hp := item_pos n vn
    have hv' : ∀ y ∈ ns, View y := fun y hy => hv y (by simp [hy])
    rw [rowT_cons, List.length_append] at hf
    have hl := lowR_ge hm ns hv' (f + (itemT n).length) (by omega)
    rw [posRow, List.pairwise_cons, List.pairwise_append]
    refine ⟨fun y hy => ?_, h1 vn.segsOK _ _ _ (by omega), h2 hv' _ _ _ (by omega), fun x hx y hy => ?_⟩
    · rcases List.mem_append.1 hy with hy | hy
      · exact (b2 _ vn.segsOK _ _ _ f (Nat.le_refl _) (by omega) y hy).1
      · have := (b1 _ hv' _ _ _ (by omega) y hy).1
        have := hm.fromEnd (f := f) (g := f + (itemT n).length) (by omega) (by omega)
        show fromAt T f ≤ y.2
        omega
    · have := (b2 _ vn.segsOK _ _ _ f (Nat.le_refl _) (by omega) x hx).2
      have := (b1 _ hv' _ _ _ (by omega) y hy).1
      have := hm.endLe (f := f + segsLen (segs n)) (g := f + (itemT n).length) (by omega) (by omega)
      omega
  · intro _ p j f _; rw [posSegs]; exact List.Pairwise.nil
  · intro k b a r h1 h2 hok p j f hf
    have hr : IsRow a := hok.1 (k, b, a) (by simp)
    rw [segsLen, segLen_eq] at hf
    rw [posSegs, List.pairwise_append]
    refine ⟨h1 hr.views _ _ _ (by omega), h2 hok.tail _ _ _ (by rw [segLen_eq]; omega), fun x hx y hy => ?_⟩
    have hx2 := (b1 _ hr.views _ _ _ (by omega) x hx).2
    -- what is behind lies behind the row's end
    have hy1 : ∀ l, segsOK l → ∀ p j g, g + segsLen l ≤ T.length → ∀ y ∈ posSegs T l p j g, endAt T g ≤ y.2 := by
      intro l
      induction l with
      | nil => intro _ p j g _ y hy; rw [posSegs] at hy; cases hy
      | cons z l ih =>
        obtain ⟨k', b', a'⟩ := z
        intro hok p j g hg y hy
        have hr' : IsRow a' := hok.1 (k', b', a') (by simp)
        rw [segsLen, segLen_eq] at hg
        rw [posSegs] at hy
        rcases List.mem_append.1 hy with hy | hy
        · have h5 := (b1 _ hr'.views _ _ _ (by omega) y hy).1
          have h6 := lowR_ge hm a'.kids hr'.views (g + k' + b'.toNat) (by omega)
          have h7 := hm.endLe (f := g) (g := g + k' + b'.toNat) (by omega) (by omega)
          omega
        · rw [segLen_eq] at hy
          have h5 := ih hok.tail _ _ _ (by omega) y hy
          have h7 := hm.endLe (f := g) (g := g + (k' + 2 * b'.toNat + (rowT a'.kids).length)) (by omega) (by omega)
          omega
    have h8 := hy1 r hok.tail _ _ _ (by rw [segLen_eq]; omega) y hy
    rw [segLen_eq] at h8
    have h7 := hm.endLe (f := f + k + b.toNat + (rowT a.kids).length) (g := f + (k + 2 * b.toNat + (rowT a.kids).length)) (by omega) (by omega)
    omega
/-- The last position is the end of the row. -/
theorem pos_last (T : List PTok) : ∀ (ks : List Nd) (p : Path) (i f : Nat), ∃ l, posRow T ks p i f = l ++ [(p ++ [i + ks.length], endAt T (f + (rowT ks).length))]
  | [], p, i, f => ⟨[], by rw [posRow, rowT_nil]; rfl⟩
  | n :: ns, p, i, f => by
    obtain ⟨l, h⟩ := pos_last T ns p (i + 1) (f + (itemT n).length)
    rw [posRow, h, rowT_cons, List.length_append, show i + (n :: ns).length = i + 1 + ns.length by simp; omega, ← Nat.add_assoc]
    exact ⟨_ :: (_ ++ l), by rw [List.cons_append, List.append_assoc]⟩

/-! Spans. -/
theorem sp_bounds {T : List PTok} (hm : Mono T) : (∀ ks, (∀ x ∈ ks, View x) → ∀ p i f, f + (rowT ks).length ≤ T.length → ∀ x ∈ spRow T ks p i f, fromAt T f ≤ x.2.1 ∧ x.2.1 ≤ x.2.2 ∧ x.2.2 ≤ endAt T (f + (rowT ks).length)) ∧
    ∀ l, segsOK l → ∀ p j f f0, f0 ≤ f → f + segsLen l ≤ T.length → ∀ x ∈ spSegs T l p j f, fromAt T f0 ≤ x.2.1 ∧ endAt T f ≤ x.2.1 ∧ x.2.1 ≤ x.2.2 ∧ x.2.2 ≤ endAt T (f + segsLen l) := by
  refine rows_ind (P := fun ks => (∀ x ∈ ks, View x) → ∀ p i f, f + (rowT ks).length ≤ T.length → ∀ x ∈ spRow T ks p i f, fromAt T f ≤ x.2.1 ∧ x.2.1 ≤ x.2.2 ∧ x.2.2 ≤ endAt T (f + (rowT ks).length)) (Q := fun l => segsOK l → ∀ p j f f0, f0 ≤ f → f + segsLen l ≤ T.length → ∀ x ∈ spSegs T l p j f, fromAt T f0 ≤ x.2.1 ∧ endAt T f ≤ x.2.1 ∧ x.2.1 ≤ x.2.2 ∧ x.2.2 ≤ endAt T (f + segsLen l)) ?_ ?_ ?_ ?_
  · intro _ p i f hf x hx; rw [spRow] at hx; cases hx
  · intro n ns h1 h2 hv p i f hf x hx
    have vn := hv n (by simp)
    have hi := item_segs n vn
    have hp := item_pos n vn
    have hv' : ∀ y ∈ ns, View y := fun y hy => hv y (by simp [hy])
    rw [rowT_cons, List.length_append] at hf ⊢
    rw [spRow] at hx
    rcases List.mem_cons.1 hx with rfl | hx
    · exact ⟨Nat.le_refl _, hm.fromEnd (by omega) (by omega), hm.endLe (by omega) hf⟩
    · rcases List.mem_append.1 hx with hx | hx
      · obtain ⟨a, _, b, c⟩ := h1 vn.segsOK _ _ _ f (Nat.le_refl _) (by omega) x hx
        exact ⟨a, b, Nat.le_trans c (hm.endLe (by omega) hf)⟩
      · obtain ⟨a, b, c⟩ := h2 hv' _ _ _ (by omega) x hx
        rw [Nat.add_assoc] at c
        refine ⟨Nat.le_trans (hm.fromLe (by omega) ?_) a, b, c⟩
        cases ns with
        | nil => rw [spRow] at hx; cases hx
        | cons m ms =>
          have := item_pos m (hv' m (by simp))
          rw [rowT_cons, List.length_append] at hf
          omega
  · intro _ p j f f0 _ _ x hx; rw [spSegs] at hx; cases hx
  · intro k b a r h1 h2 hok p j f f0 h0 hf x hx
    have hr : IsRow a := hok.1 (k, b, a) (by simp)
    rw [segsLen, segLen_eq] at hf ⊢
    rw [spSegs] at hx
    rcases List.mem_append.1 hx with hx | hx
    · obtain ⟨c, d, e⟩ := h1 hr.views _ _ _ (by omega) x hx
      have h3 : 0 < (rowT a.kids).length := by
        cases hks : a.kids with
        | nil => rw [hks, spRow] at hx; cases hx
        | cons y ys =>
          rw [rowT_cons, List.length_append]
          have := item_pos y (hr.views y (by rw [hks]; simp))
          omega
      exact ⟨Nat.le_trans (hm.fromLe (by omega) (by omega)) c, Nat.le_trans (hm.endFrom (by omega) (by omega)) c, d, Nat.le_trans e (hm.endLe (by omega) hf)⟩
    · rw [segLen_eq] at hx
      obtain ⟨c, c', d, e⟩ := h2 hok.tail _ _ _ f0 (by omega) (by omega) x hx
      rw [← Nat.add_assoc]
      exact ⟨c, Nat.le_trans (hm.endLe (by omega) (by omega)) c', d, e⟩

/-- Of two spans, the second one is a part of the first one, or lies behind it. -/
def nested (x y : Path × Nat × Nat) : Prop := (x.1 <+: y.1 → x.2.1 ≤ y.2.1 ∧ y.2.2 ≤ x.2.2) ∧ (¬ x.1 <+: y.1 → x.2.2 ≤ y.2.1)
theorem noPrefix {i j : Nat} (h : i ≠ j) (p q r : Path) : ¬ (p ++ i :: q) <+: (p ++ j :: r) := by
  rw [List.prefix_append_right_inj, List.cons_prefix_cons]
  exact fun e => h e.1
theorem sp_nested {T : List PTok} (hm : Mono T) : (∀ ks, (∀ x ∈ ks, View x) → ∀ p i f, f + (rowT ks).length ≤ T.length → (spRow T ks p i f).Pairwise nested) ∧
    ∀ l, segsOK l → ∀ p j f, f + segsLen l ≤ T.length → (spSegs T l p j f).Pairwise nested := by
  obtain ⟨b1, b2⟩ := sp_bounds hm
  obtain ⟨u1, u2⟩ := sp_under T
  refine rows_ind (P := fun ks => (∀ x ∈ ks, View x) → ∀ p i f, f + (rowT ks).length ≤ T.length → (spRow T ks p i f).Pairwise nested) (Q := fun l => segsOK l → ∀ p j f, f + segsLen l ≤ T.length → (spSegs T l p j f).Pairwise nested) ?_ ?_ ?_ ?_
  · intro _ p i f _; rw [spRow]; exact List.Pairwise.nil
  · intro n ns h1 h2 hv p i f hf
    have vn := hv n (by simp)
    have hi := item_segs n vn
    have hp := item_pos n vn
    have hv' : ∀ y ∈ ns, View y := fun y hy => hv y (by simp [hy])
    rw [rowT_cons, List.length_append] at hf
    have hlast : ∀ y ∈ spRow T ns p (i + 1) (f + (itemT n).length), endAt T (f + (itemT n).length) ≤ y.2.1 := fun y hy => by
      have := (b1 _ hv' _ _ _ (by omega) y hy).1
      refine Nat.le_trans (hm.ends _ ?_) this
      cases ns with
      | nil => rw [spRow] at hy; cases hy
      | cons m ms =>
        have := item_pos m (hv' m (by simp))
        rw [rowT_cons, List.length_append] at hf
        omega
    rw [spRow, List.pairwise_cons, List.pairwise_append]
    refine ⟨fun y hy => ?_, h1 vn.segsOK _ _ _ (by omega), h2 hv' _ _ _ (by omega), fun x hx y hy => ?_⟩
    · rcases List.mem_append.1 hy with hy | hy
      · obtain ⟨a, _, b, c⟩ := b2 _ vn.segsOK _ _ _ f (Nat.le_refl _) (by omega) y hy
        obtain ⟨j', m', q', _, h⟩ := u2 _ _ _ _ y hy
        refine ⟨fun _ => ⟨a, Nat.le_trans c (hm.endLe (by omega) (by omega))⟩, fun hn => absurd ?_ hn⟩
        show (p ++ [i]) <+: y.1
        rw [h]
        exact List.prefix_append _ _
      · obtain ⟨j', q', h3, h⟩ := u1 _ _ _ _ y hy
        refine ⟨fun hp' => ?_, fun _ => hlast y hy⟩
        have hp'' : (p ++ i :: []) <+: y.1 := hp'
        rw [h] at hp''
        exact absurd hp'' (noPrefix (by omega) p [] q')
    · obtain ⟨j, m, q, _, h⟩ := u2 _ _ _ _ x hx
      obtain ⟨j', q', h3, h'⟩ := u1 _ _ _ _ y hy
      refine ⟨fun hp' => ?_, fun _ => ?_⟩
      · rw [h, h', List.append_assoc] at hp'
        exact absurd hp' (noPrefix (by omega) p _ q')
      · have h5 := (b2 _ vn.segsOK _ _ _ f (Nat.le_refl _) (by omega) x hx).2.2.2
        have h6 := hlast y hy
        have h7 := hm.endLe (f := f + segsLen (segs n)) (g := f + (itemT n).length) (by omega) (by omega)
        omega
  · intro _ p j f _; rw [spSegs]; exact List.Pairwise.nil
  · intro k b a r h1 h2 hok p j f hf
    have hr : IsRow a := hok.1 (k, b, a) (by simp)
    rw [segsLen, segLen_eq] at hf
    rw [spSegs, List.pairwise_append]
    refine ⟨h1 hr.views _ _ _ (by omega), h2 hok.tail _ _ _ (by rw [segLen_eq]; omega), fun x hx y hy => ?_⟩
    have hx2 := (b1 _ hr.views _ _ _ (by omega) x hx).2.2
    have hy2 := (b2 _ hok.tail _ _ _ _ (Nat.le_refl _) (by rw [segLen_eq]; omega) y hy).2.1
    obtain ⟨m, q, _, h⟩ := u1 _ _ _ _ x hx
    obtain ⟨j', m', q', h3, h'⟩ := u2 _ _ _ _ y hy
    refine ⟨fun hp' => ?_, fun _ => ?_⟩
    · rw [h, h', List.append_assoc] at hp'
      exact absurd hp' (noPrefix (by omega) p _ _)
    · rw [segLen_eq] at hy2
      have h7 := hm.endLe (f := f + k + b.toNat + (rowT a.kids).length) (g := f + (k + 2 * b.toNat + (rowT a.kids).length)) (by omega) (by omega)
      omega
end Go.Proofs.Ytdacpbdamliafaa.Tr

/- The tokens of a printed tree: their places in the text. The walks of all rows. -/
namespace Go.Proofs.Ytdacpbdamliafaa
open Go.RowKit
open Tr (Nd Clo runRow runSegs rowT itemT segs segsLen segLen IsRow View)

variable {σ κ : Type}
theorem placed_from (a : Nat) : ∀ W : List (Lx.Bytes × Lx.Tok), ∀ t ∈ Lx.placed a W, a ≤ t.from_ ∧ t.from_ ≤ t.to_ ∧ t.to_ ≤ a + (Lx.flat W).length := by
  intro W
  induction W generalizing a with
  | nil => intro t ht; cases ht
  | cons x W ih =>
    obtain ⟨g, x⟩ := x
    intro t ht
    simp only [Lx.placed, Lx.flat, List.length_append] at ht ⊢
    rcases List.mem_cons.1 ht with rfl | ht
    · simp only; omega
    · have := ih _ t ht
      omega
theorem placed_next (a : Nat) : ∀ (W : List (Lx.Bytes × Lx.Tok)) (i : Nat) (h : i + 1 < (Lx.placed a W).length), (Lx.placed a W)[i].to_ ≤ (Lx.placed a W)[i + 1].from_ := by
  intro W
  induction W generalizing a with
  | nil => intro i h; simp [Lx.placed] at h
  | cons x W ih =>
    obtain ⟨g, x⟩ := x
    intro i h
    cases i with
    | zero =>
      simp only [Lx.placed, List.getElem_cons_zero, List.getElem_cons_succ]
      exact (placed_from _ W _ (List.getElem_mem _)).1
    | succ i =>
      simp only [Lx.placed, List.getElem_cons_succ]
      exact ih _ i (by simpa [Lx.placed] using h)
theorem placed_mono (a : Nat) (W : List (Lx.Bytes × Lx.Tok)) : Tr.Mono (Lx.placed a W) :=
  ⟨fun _ h => (placed_from a W _ (List.getElem_mem h)).2.1, fun i h => placed_next a W i h⟩
theorem placed_len (a : Nat) : ∀ W : List (Lx.Bytes × Lx.Tok), (Lx.placed a W).length = W.length := by
  intro W
  have := congrArg List.length (Lx.placed_toks W a)
  simpa using this
theorem placed_last : ∀ (W : List (Lx.Bytes × Lx.Tok)) (a : Nat), W ≠ [] → Tr.endAt (Lx.placed a W) W.length = a + (Lx.flat W).length := by
  intro W
  induction W with
  | nil => intro a h; contradiction
  | cons x W ih =>
    obtain ⟨g, x⟩ := x
    intro a _
    cases W with
    | nil => simp [Tr.endAt, Lx.placed, Lx.flat]; omega
    | cons y W =>
      have := ih (a + g.length + (Lx.spell x).length) (by simp)
      unfold Tr.endAt at this ⊢
      simp only [Lx.placed, Lx.flat, List.length_append, List.length_cons] at this ⊢
      rw [if_neg (by omega)] at this ⊢
      simp only [Nat.add_sub_cancel] at this ⊢
      rw [List.getElem?_cons_succ]
      rw [this]
      omega
theorem sepd_len (l : List Lx.Tok) (o : Option Lx.Tok) : (Tr.sepd o l).length = l.length := by
  have := congrArg List.length (Tr.sepd_toks l o)
  simpa using this

theorem printT_len (n : Nd) (h : Tr.valid n = true) : (printT n).length = (rowT n.kids).length := by
  unfold printT
  rw [if_pos h, placed_len, sepd_len]
theorem printT_mono (n : Nd) : Tr.Mono (printT n) := by
  unfold printT
  split
  · exact placed_mono _ _
  · exact ⟨fun i h => by simp at h, fun i h => by simp at h⟩
theorem printT_place (n : Nd) (hc : Tr.count n ≤ 800) : ∀ t ∈ printT n, t.from_ ≤ 1000000 ∧ t.to_ ≤ 1000000 := by
  intro t ht
  unfold printT at ht
  split at ht
  · rename_i h
    obtain ⟨h1, h2, h3⟩ := placed_from _ _ t ht
    have hf := (row_fits n (Tr.valid_row n h) hc).2
    rw [adds_wtext] at hf
    have hf' : (Lx.flat (Tr.sepd none (rowT n.kids))).length ≤ 1000000 := hf
    omega
  · cases ht
theorem printS_len (n : Nd) (h : Tr.valid n = true) : Tr.endAt (printT n) (rowT n.kids).length = (printS n).length := by
  unfold printT printS
  rw [if_pos h, if_pos h]
  cases hr : rowT n.kids with
  | nil => rfl
  | cons x l =>
    rw [← hr]
    have := placed_last (Tr.sepd none (rowT n.kids)) 0 (by intro e; have := sepd_len (rowT n.kids) none; rw [e, hr] at this; simp at this)
    rw [sepd_len] at this
    rw [this, Nat.zero_add]
    rfl

/-! The walk of every row. -/
theorem treeAs_of {k : Wk σ κ} {n : Nd} {m e : Nat} {L : List (Nat × Bool × Nd)} (h : k.TreeAs n m L e) (hl : (itemT n).length = m + segsLen L + e) (hr : ∀ p f s, runSegs k.C k.T (segs n) p 0 f s = runSegs k.C k.T L p 0 (f + m) s) : k.TreeS n := by
  intro S f s w p v sl h1 h2 h3 h4 h5 h6
  rw [hr] at h6
  have := h S f s w p v sl h1 h2 h3 h4 (by omega) h6
  rw [hr, show f + (itemT n).length = f + m + segsLen L + e by omega]
  exact this
theorem run_head (C : Clo σ κ) (T : List Lx.PTok) (k : Nat) (b : Bool) (a : Nd) (r : List (Nat × Bool × Nd)) : ∀ p f s, runSegs C T ((k + 1, b, a) :: r) p 0 f s = runSegs C T ((k, b, a) :: r) p 0 (f + 1) s := fun p f s => run_shift C T k b a r p 0 f s
theorem tree_any {k : Wk σ κ} (hk : k.Good) (n : Nd) (v : View n) (hrows : ∀ a ∈ n.kids, k.RowS a) : k.TreeS n := by
  have hi := Tr.item_segs n v
  cases v with
  | sym t ht => exact treeAs_of (tree_gen hk _ rfl rfl rfl rfl rfl rfl hrows) (by rw [Tr.itemT_sym]; rfl) (fun p f s => by rw [show segs (.mk 2 t 0 []) = [] from rfl, show L0 Tr.grp (Nd.kids (.mk 2 t 0 [])) = [] from rfl, run_nil, run_nil])
  | num t ht => exact treeAs_of (tree_gen hk _ rfl rfl rfl rfl rfl rfl hrows) (by rw [Tr.itemT_num]; rfl) (fun p f s => by rw [show segs (.mk 3 t 0 []) = [] from rfl, show L0 Tr.grp (Nd.kids (.mk 3 t 0 [])) = [] from rfl, run_nil, run_nil])
  | text t ht => exact treeAs_of (tree_gen hk _ rfl rfl rfl rfl rfl rfl hrows) (by rw [Tr.itemT_text]; rfl) (fun p f s => by rw [show segs (.mk 4 t 0 []) = [] from rfl, show L0 Tr.grp (Nd.kids (.mk 4 t 0 [])) = [] from rfl, run_nil, run_nil])
  | frac a b ha hb =>
    have hs : segs (.mk 5 [] 0 [a, b]) = (1, Tr.grp a, a) :: [(0, Tr.grp b, b)] := rfl
    have hL : L0 Tr.grp (Nd.kids (.mk 5 [] 0 [a, b])) = (0, Tr.grp a, a) :: [(0, Tr.grp b, b)] := rfl
    refine treeAs_of (tree_gen hk _ rfl rfl rfl rfl rfl rfl hrows) ?_ ?_
    · rw [hi, hs, hL]; simp only [segsLen, segLen, Tr.tailN, Nd.kind, Nd.kids]; simp; omega
    · rw [hs, hL]; exact run_head _ _ _ _ _ _
  | accent t a ht ha =>
    have hs : segs (.mk 10 t 0 [a]) = (1, Tr.grp a, a) :: [] := rfl
    have hL : L0 Tr.grp (Nd.kids (.mk 10 t 0 [a])) = (0, Tr.grp a, a) :: [] := rfl
    refine treeAs_of (tree_gen hk _ rfl rfl rfl rfl rfl rfl hrows) ?_ ?_
    · rw [hi, hs, hL]; simp only [segsLen, segLen, Tr.tailN, Nd.kind, Nd.kids]; simp; omega
    · rw [hs, hL]; exact run_head _ _ _ _ _ _
  | root a b ha hb =>
    have hs : segs (.mk 6 [] 0 [a, b]) = (1, !a.kids.isEmpty, a) :: [(0, Tr.grp b, b)] := rfl
    have hL : LI (fun _ => 0) rootB (Nd.kids (.mk 6 [] 0 [a, b])) = (0, !a.kids.isEmpty, a) :: [(0, Tr.grp b, b)] := rfl
    refine treeAs_of (tree_root hk _ rfl hrows) ?_ ?_
    · rw [hi, hs, hL]; simp only [segsLen, segLen, Tr.tailN, Nd.kind, Nd.kids]; simp; omega
    · rw [hs, hL]; exact run_head _ _ _ _ _ _
  | sub a b ha hb =>
    have hs : segs (.mk 7 [] 0 [a, b]) = LI scriptK scriptB (Nd.kids (.mk 7 [] 0 [a, b])) := rfl
    have h : k.TreeAs (.mk 7 [] 0 [a, b]) 0 (LI scriptK scriptB (Nd.kids (.mk 7 [] 0 [a, b]))) 0 := by
      by_cases h1 : a.kids.length = 1
      · obtain ⟨x, hx⟩ := List.length_eq_one_iff.1 h1
        exact tree_scripts7_one hk _ rfl (by simp [Nd.kids]) x hx hrows
      · exact tree_scripts7_more hk _ rfl (by simp [Nd.kids]) h1 hrows
    exact treeAs_of h (by rw [hi, hs]; simp [Tr.tailN, Nd.kind, Nd.kids]) (fun p f s => by rw [hs]; rfl)
  | sup a b ha hb =>
    have hs : segs (.mk 8 [] 0 [a, b]) = LI scriptK scriptB (Nd.kids (.mk 8 [] 0 [a, b])) := rfl
    have h : k.TreeAs (.mk 8 [] 0 [a, b]) 0 (LI scriptK scriptB (Nd.kids (.mk 8 [] 0 [a, b]))) 0 := by
      by_cases h1 : a.kids.length = 1
      · obtain ⟨x, hx⟩ := List.length_eq_one_iff.1 h1
        exact tree_scripts8_one hk _ rfl rfl (by simp [Nd.kids]) x hx hrows
      · exact tree_scripts8_more hk _ rfl rfl (by simp [Nd.kids]) h1 hrows
    exact treeAs_of h (by rw [hi, hs]; simp [Tr.tailN, Nd.kind, Nd.kids]) (fun p f s => by rw [hs]; rfl)
  | both a b d ha hb hd =>
    have hs : segs (.mk 9 [] 0 [a, b, d]) = LI scriptK scriptB (Nd.kids (.mk 9 [] 0 [a, b, d])) := rfl
    have h : k.TreeAs (.mk 9 [] 0 [a, b, d]) 0 (LI scriptK scriptB (Nd.kids (.mk 9 [] 0 [a, b, d]))) 0 := by
      by_cases h1 : a.kids.length = 1
      · obtain ⟨x, hx⟩ := List.length_eq_one_iff.1 h1
        exact tree_scripts9_one hk _ rfl rfl rfl (by simp [Nd.kids]) x hx hrows
      · exact tree_scripts9_more hk _ rfl rfl rfl (by simp [Nd.kids]) h1 hrows
    exact treeAs_of h (by rw [hi, hs]; simp [Tr.tailN, Nd.kind, Nd.kids]) (fun p f s => by rw [hs]; rfl)
  | fence t a ht ha =>
    by_cases hr : Tr.round 11 t = true
    · have hs : segs (.mk 11 t 0 [a]) = [(0, true, a)] := by simp [segs, hr]
      have hL : LI (fun _ => 0) (fun _ _ => true) (Nd.kids (.mk 11 t 0 [a])) = [(0, true, a)] := rfl
      have h : k.TreeAs (.mk 11 t 0 [a]) 0 (LI (fun _ => 0) (fun _ _ => true) (Nd.kids (.mk 11 t 0 [a]))) 0 := by
        cases h1 : (t == [40, 41]) with
        | true => exact tree_round hk _ rfl rfl rfl rfl h1 rfl hrows
        | false =>
          refine tree_square hk _ rfl rfl rfl rfl h1 ?_ rfl hrows
          unfold Tr.round at hr
          rw [h1] at hr
          exact hr
      exact treeAs_of h (by rw [hi, hs, hL]; simp [Tr.tailN, Nd.kind, Nd.kids]) (fun p f s => by rw [hs, hL]; rfl)
    · have hr' : Tr.round 11 t = false := by simpa using hr
      have hs : segs (.mk 11 t 0 [a]) = (1, Tr.grp a, a) :: [] := by simp [segs, hr']
      have hL : L0 Tr.grp (Nd.kids (.mk 11 t 0 [a])) = (0, Tr.grp a, a) :: [] := rfl
      have h12 : (t == [40, 41]) = false ∧ (t == [91, 93]) = false := by
        unfold Tr.round at hr'
        simpa using hr'
      refine treeAs_of (tree_fence hk _ rfl rfl rfl rfl rfl rfl h12.1 h12.2 hrows) ?_ ?_
      · rw [hi, hs, hL]; simp only [segsLen, segLen, Tr.tailN, Nd.kind, Nd.kids]; simp; omega
      · rw [hs, hL]; exact run_head _ _ _ _ _ _
  | matrix c ks hc hn hm h =>
    match ks, hn, h with
    | a :: l, _, _ =>
      have hL : LI (fun _ => 1) (fun _ _ => false) (Nd.kids (.mk 12 [] c (a :: l))) = (1, false, a) :: l.map fun b => (1, false, b) := by
        show LI (fun _ => 1) (fun _ _ => false) (a :: l) = _
        unfold LI
        exact List.ext_getElem (by simp) (by intro i h1 h2; cases i <;> simp)
      have hs : segs (.mk 12 [] c (a :: l)) = (2, false, a) :: l.map fun b => (1, false, b) := by simp [segs]
      refine treeAs_of (tree_matrix hk _ rfl hrows) ?_ ?_
      · rw [hi, hs, hL]; simp only [segsLen, segLen, Tr.tailN, Nd.kind]; simp; omega
      · rw [hs, hL]; exact run_head _ _ _ _ _ _
theorem rows_any {k : Wk σ κ} (hk : k.Good) (m : Nat) : ∀ a : Nd, Tr.count a ≤ m → IsRow a → k.RowS a := by
  induction m with
  | zero => intro a h; have := Tr.count_pos a; omega
  | succ m ih =>
    intro a hc ha
    have h1 := Tr.count_kids a
    refine row_any hk a (fun x hx => Tr.item_pos x (ha.views x hx)) fun x hx => tree_any hk x (ha.views x hx) fun b hb => ih b ?_ ((ha.views x hx).rows b hb)
    have h2 := Tr.count_mem hx
    have h3 := Tr.count_kids x
    have h4 := Tr.count_mem hb
    omega
end Go.Proofs.Ytdacpbdamliafaa

/- span.walk: the walk over a tree's printed tokens. -/
namespace Go.Proofs.Ytdacpbdamliafaa
open Go.RowKit
open Tr (Nd Clo runRow rowT)

variable {σ κ : Type}
/-- Closures for a walk, wherever the walker and the tokens will lie. -/
structure Cls (σ κ : Type) where
  C : Clo σ κ
  fi : Nat
  ci : Array Value
  fo : Nat
  co : Array Value
  St : Nat → Nat → σ → (Nat → Prop) → World → Prop
  Dn : Nat → Nat → κ → (Nat → Prop) → World → Nat → Array Value → Prop
  Lim : σ → Prop
  Kp : κ → σ → Prop
def Cls.wk (c : Cls σ κ) (W0 : World) (g tg : Nat) (tv : Value) (T : List Lx.PTok) : Wk σ κ := ⟨W0, g, tg, tv, T, c.C, c.fi, c.ci, c.fo, c.co, c.St g tg, c.Dn g tg, c.Lim, c.Kp⟩

theorem built_walker (A : Option Addr) (n cap fi fo : Nat) (ci co : Array Value) : Try.prog.built 69 [(0, .slice A n cap), (2, .func (.func fi) #[] ci), (3, .func (.func fo) #[] co)] = some #[.slice A n cap, .int .i64 0, .func (.func fi) #[] ci, .func (.func fo) #[] co] := by kernel_rfl

/-- The tokens' row, cell by cell. -/
theorem own_tokens {W : World} {B : Nat} {v : Value} {ts : List Lx.PTok} (h : W.ownsRow B 86 4 v ts.length (ts.flatMap ptokCellsP)) (hB0 : B ≤ W.heap.size) : ∃ tg A cap, B ≤ tg ∧ tg ≤ W.heap.size ∧ v = .slice A ts.length cap ∧
    ∀ i (h : i < ts.length), A = some ⟨tg, 0, none⟩ ∧ tg < W.heap.size ∧ W.cell? ⟨tg, i * 4 + 2, none⟩ = some (.int .i64 (ts[i].from_ : Nat)) ∧ W.cell? ⟨tg, i * 4 + 3, none⟩ = some (.int .i64 (ts[i].to_ : Nat)) := by
  rcases h.2 with ⟨h1, h2⟩ | ⟨g, cap, cur, hv, hB, _⟩
  · exact ⟨B, none, 0, Nat.le_refl _, hB0, by rw [h1, h2], fun i hi => by omega⟩
  · refine ⟨g, _, cap, hB, Nat.le_of_lt (h.lt g (by rw [hv]; rfl)).2, hv, fun i hi => ⟨rfl, (h.lt g (by rw [hv]; rfl)).2, ?_, ?_⟩⟩
    all_goals
      have hget : ∀ (l : List Lx.PTok) (i j : Nat) (hi : i < l.length), j < 4 → (l.flatMap ptokCellsP)[i * 4 + j]? = (ptokCellsP l[i])[j]? := by
        intro l
        induction l with
        | nil => intro i j hi; simp at hi
        | cons x l ih =>
          intro i j hi hj
          cases i with
          | zero => rw [List.flatMap_cons, List.getElem?_append_left (by simp [ptokCellsP]; omega)]; simp
          | succ i =>
            rw [List.flatMap_cons, List.getElem?_append_right (by simp [ptokCellsP]; omega), List.getElem_cons_succ, ← ih i j (by simpa using hi) hj]
            congr 1
            simp [ptokCellsP]; omega
    · have := h.cells (g := g) (by rw [hv]; rfl) (i * 4 + 2) _ (by rw [hget ts i 2 hi (by decide)]; rfl)
      rw [Addr.add_mid, Nat.zero_add] at this
      exact this
    · have := h.cells (g := g) (by rw [hv]; rfl) (i * 4 + 3) _ (by rw [hget ts i 3 hi (by decide)]; rfl)
      rw [Addr.add_mid, Nat.zero_add] at this
      exact this

set_option maxRecDepth 100000 in
set_option maxHeartbeats 1000000 in
theorem walk_err (n : Nd) (sl : Value) (fi fo : Nat) (ci co : Array Value) (w : World) (hr : RepL w n.kids sl) (ht : n.text.length ≤ maxLen) (hc : Tr.count n ≤ 800) (hv : Tr.valid n = false) :
    Calls Try.prog 21 #[nv n sl, .func (.func fi) #[] ci, .func (.func fo) #[] co] w fun e w' => e = .returned (.int .i64 1) ∧ Fresh w w' := by
  have HT := hid (fun (w : World) (hr : RepL w n.kids sl) => ptokens_any n sl w hr ht hc)
  have HR := hid hr
  have HE := hid (show printE n = 1 from by unfold printE; rw [hv]; rfl)
  clear hr hc hv
  go_enter Try.func21, Try.ntmps21
  go_wp2_with fail
  refine (HT.out _ (HR.out.fresh ((Touch.refl _ _).alloc _))).mono ?_
  rintro _ w1 ⟨v, rfl, ho, hf⟩
  have HF := hid (Touch.pre hf)
  rw [HE.out]
  clear hf ho
  go_wp2_with fail
  go_ret
  exact ⟨rfl, HF.out⟩

set_option maxRecDepth 100000 in
set_option maxHeartbeats 2000000 in
theorem walk_ok (c : Cls σ κ) (W0 : World) (n : Nd) (sl : Value) (w : World) (s : σ) (S : Nat → Prop) (hv : Tr.valid n = true) (hc : Tr.count n ≤ 800) (ht : n.text.length ≤ maxLen) (hl : Low W0 w) (hsl : RepL W0 n.kids sl)
    (hG : ∀ g tg tv, W0.heap.size ≤ g → (c.wk W0 g tg tv (printT n)).Good) (hst : ∀ g tg w', w.heap.size ≤ g → w.heap.size ≤ tg → g < w'.heap.size → tg < w'.heap.size → Fresh w w' → c.St g tg s S w') (hlim : c.Lim (runRow c.C (printT n) n.kids [] 0 0 s)) :
    Calls Try.prog 21 #[nv n sl, .func (.func c.fi) #[] c.ci, .func (.func c.fo) #[] c.co] w fun e w' => e = .returned (.int .i64 0) ∧ ∃ g tg S', w.heap.size ≤ g ∧ c.St g tg (runRow c.C (printT n) n.kids [] 0 0 s) S' w' ∧ Low W0 w' ∧ Mv g S S' w w' := by
  obtain ⟨A, cap, rfl⟩ := hsl.slice
  have HT := hid (fun (w : World) (hr : RepL w n.kids (.slice A n.kids.length cap)) => ptokens_any n _ w hr ht hc)
  have HSL := hid hsl
  have HLOW := hid hl
  have HE := hid (show printE n = 0 from by unfold printE; rw [hv]; rfl)
  have HV := hid hv
  have HC := hid hc
  have HG := hid hG
  have HST := hid hst
  have HLIM := hid hlim
  clear hlim
  clear hsl hl hv hc hG hst
  go_enter Try.func21, Try.ntmps21
  go_wp2_with fail
  refine (HT.out _ ((HSL.out.low HLOW.out).fresh ((Touch.refl _ _).alloc _))).mono ?_
  rintro _ w1 ⟨v, rfl, ho, hf⟩
  have HF := hid (Touch.pre hf)
  have hb1 := hf.blk (Blk.new _ _ _) (fun h => h)
  have HB := hid hb1
  obtain ⟨q0, q1, q2, q3, _, _, _, _, hg⟩ := Blk.four hb1
  obtain ⟨tg, At, capt, hB, hB2, rfl, htok⟩ := own_tokens ho hf.size
  have HTK := hid htok
  have hB' : w.heap.size ≤ tg := by simp at hB; omega
  rw [HE.out]
  clear hf hb1 ho htok
  go_wp2_with (refine wpList_build_kind [(0, .slice At (printT n).length capt), (2, .func (.func c.fi) #[] c.ci), (3, .func (.func c.fo) #[] c.co)] (built_walker At (printT n).length capt c.fi c.fo c.ci c.co) _ rfl rfl rfl (.agg #[.slice At (printT n).length capt, .int .i64 0, .func (.func c.fi) #[] c.ci, .func (.func c.fo) #[] c.co]) rfl ?_)
  have hfa : Fresh w (w1.alloc (.cells #[.slice At (printT n).length capt, .int .i64 0, .func (.func c.fi) #[] c.ci, .func (.func c.fo) #[] c.co] 69)) := HF.out.alloc _
  have HK := hid (HG.out w1.heap.size tg (.slice At (printT n).length capt) (Nat.le_trans HLOW.out.size HF.out.size))
  have HAT := hid (show (c.wk W0 w1.heap.size tg (.slice At (printT n).length capt) (printT n)).At S 0 s (w1.alloc (.cells #[.slice At (printT n).length capt, .int .i64 0, .func (.func c.fi) #[] c.ci, .func (.func c.fo) #[] c.co] 69)) from
    ⟨HLOW.out.fresh hfa, Blk.new _ _ _, ⟨At, capt, rfl, fun i hi => by
      obtain ⟨t1, t2, t3, t4⟩ := HTK.out i hi
      have hfn : Fresh w1 (w1.alloc (.cells #[.slice At (printT n).length capt, .int .i64 0, .func (.func c.fi) #[] c.ci, .func (.func c.fo) #[] c.co] 69)) := (Touch.refl _ _).alloc _
      exact ⟨t1, Nat.lt_of_lt_of_le t2 hfn.size, Nat.ne_of_lt t2, hfn.cell t3 (fun h => h), hfn.cell t4 (fun h => h)⟩⟩, HST.out _ _ _ HF.out.size hB' (by simp) (by simp; omega) hfa⟩)
  have hdep : Tr.depth n ≤ 24 := by
    have := HV.out
    unfold Tr.valid at this
    simp only [Bool.and_eq_true, decide_eq_true_eq] at this
    exact this.2
  refine (rows_any HK.out (Tr.count n) n (Nat.le_refl _) (Tr.valid_row n HV.out) S 0 s _ [] _ _ _ _ _ HAT.out HSL.out (PathIn.nil _ _ _) (by simp; omega) (by rw [show (c.wk W0 w1.heap.size tg (.slice At (printT n).length capt) (printT n)).T = printT n from rfl, printT_len n HV.out]; omega) HLIM.out).mono ?_
  rintro _ w2 ⟨rfl, S2, hat, hmv⟩
  have HST2 := hid hat.st
  have HL2 := hid hat.low
  have HMV2 := hid ((Mv.fresh hfa).trans hmv)
  have hgw : w.heap.size ≤ w1.heap.size := HF.out.size
  clear hat hmv hfa HAT HK q0 q1 q2 q3 hB hB2
  go_wp2_with fail
  go_ret
  exact ⟨rfl, _, _, S2, hgw, HST2.out, HL2.out, HMV2.out⟩
end Go.Proofs.Ytdacpbdamliafaa
