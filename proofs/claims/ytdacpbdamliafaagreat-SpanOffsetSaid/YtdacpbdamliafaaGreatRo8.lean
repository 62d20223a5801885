/- Part 8 of 12 of a proof; its texts, joined: SnT, SnV, SnX, SnR. No condition. -/
import Derived.Test.YtdacpbdamliafaaGreatRo7

/- The walker's tree: what an item passes. -/
namespace Go.Proofs.YtdacpbdamliafaaGreat
open Go.RowKit
open Tr (Nd Clo runRow runSegs rowT itemT segs segsLen segLen)
attribute [local go_sem] stillV stillUpon
variable {σ κ : Type}
theorem slot_any {k : Wk σ κ} (hk : k.Good) (n : Nd) (j : Nat) (hj : j < n.kids.length) (hrow : k.RowS n.kids[j]) {S : Nat → Prop} {f : Nat} {s : σ} {w : World} (h : k.At S f s w) {p : List Nat} {v sl : Value}
  (hsl : RepL k.W0 n.kids sl) (hp : PathIn k.g S w v p) (hd : p.length + 1 + 2 * Tr.depth n.kids[j] ≤ 500) (b : Bool) (hf : f + 2 * b.toNat + (rowT n.kids[j].kids).length ≤ k.T.length) (hlim : k.Lim (runRow k.C k.T n.kids[j].kids (p ++ [j]) 0 (f + b.toNat) s)) :
  Calls Tryz.prog 135 #[.pointer (some ⟨k.g, 0, none⟩), nv n sl, v, .int .i64 (j : Int), .bool b] w (k.SlotEnds S f s w n.kids[j] (p ++ [j]) b) := by
 cases b with
 | false => exact slot_no hk n j hj hrow h hsl hp hd (by simpa using hf) hlim
 | true => exact slot_yes hk n j hj hrow h hsl hp hd (by simpa using hf) hlim
theorem depth_mem {l : List Nd} {a : Nd} (h : a ∈ l) : Tr.depth a ≤ Tr.depthL l := by
 induction l with
 | nil => cases h
 | cons x l ih =>
  rw [Tr.depthL]
  rcases List.mem_cons.1 h with rfl | h
  ·omega
  ·have := ih h; omega
theorem map_drop {β : Type} (f : Nd → β) (l : List Nd) (j : Nat) (h : j < l.length) : (l.map f).drop j = f l[j] :: (l.map f).drop (j + 1) := by
 rw [List.drop_eq_getElem_cons (by simpa using h), List.getElem_map]
theorem run_cons (C : Clo σ κ) (T : List Lx.PTok) (k : Nat) (b : Bool) (a : Nd) (r : List (Nat × Bool × Nd)) (p : List Nat) (j f : Nat) (s : σ) :
  runSegs C T ((k, b, a) :: r) p j f s = runSegs C T r p (j + 1) (f + segLen (k, b, a)) (runRow C T a.kids (p ++ [j]) 0 (f + k + b.toNat) s) := by rw [runSegs]
theorem run_nil (C : Clo σ κ) (T : List Lx.PTok) (p : List Nat) (j f : Nat) (s : σ) : runSegs C T [] p j f s = s := by rw [runSegs]
theorem run_shift (C : Clo σ κ) (T : List Lx.PTok) (k : Nat) (b : Bool) (a : Nd) (r : List (Nat × Bool × Nd)) (p : List Nat) (j f : Nat) (s : σ) :
  runSegs C T ((k + 1, b, a) :: r) p j f s = runSegs C T ((k, b, a) :: r) p j (f + 1) s := by
 rw [run_cons, run_cons]
 unfold segLen
 simp only
 rw [show f + (k + 1 + (if b then 2 else 0) + (rowT a.kids).length) = f + 1 + (k + (if b then 2 else 0) + (rowT a.kids).length) by omega, show f + (k + 1) + b.toNat = f + 1 + k + b.toNat by omega]
def L0 (br : Nd → Bool) (ks : List Nd) : List (Nat × Bool × Nd) := ks.map fun b => (0, br b, b)
def L1 (br : Nd → Bool) (ks : List Nd) : List (Nat × Bool × Nd) := ks.map fun b => (1, br b, b)
theorem L0_drop (br : Nd → Bool) (l : List Nd) (j : Nat) (h : j < l.length) : (L0 br l).drop j = (0, br l[j], l[j]) :: (L0 br l).drop (j + 1) := map_drop _ l j h
theorem L1_drop (br : Nd → Bool) (l : List Nd) (j : Nat) (h : j < l.length) : (L1 br l).drop j = (1, br l[j], l[j]) :: (L1 br l).drop (j + 1) := map_drop _ l j h
theorem L0_end (br : Nd → Bool) (l : List Nd) : (L0 br l).drop l.length = [] := List.drop_eq_nil_of_le (by simp [L0])
theorem L1_end (br : Nd → Bool) (l : List Nd) : (L1 br l).drop l.length = [] := List.drop_eq_nil_of_le (by simp [L1])
def Wk.TreeAs (k : Wk σ κ) (n : Nd) (m : Nat) (L : List (Nat × Bool × Nd)) (e : Nat) : Prop := ∀ (S : Nat → Prop) (f : Nat) (s : σ) (w : World) (p : List Nat) (v sl : Value), k.At S f s w → RepL k.W0 n.kids sl → PathIn k.g S w v p → p.length + 2 * Tr.depth n ≤ 500 → f + m + segsLen L + e ≤ k.T.length → k.Lim (runSegs k.C k.T L p 0 (f + m) s) →
 Calls Tryz.prog 99 #[.pointer (some ⟨k.g, 0, none⟩), nv n sl, v] w (k.Ends S (f + m + segsLen L + e) (runSegs k.C k.T L p 0 (f + m) s) w)
set_option maxRecDepth 100000 in
set_option maxHeartbeats 4000000 in
theorem tree_gen {k : Wk σ κ} (hk : k.Good) (n : Nd) (h7 : (n.kind == 7) = false) (h8 : (n.kind == 8) = false) (h9 : (n.kind == 9) = false) (h12 : (n.kind == 12) = false) (h6 : (n.kind == 6) = false) (h11 : (n.kind == 11) = false) (hrows : ∀ a ∈ n.kids, k.RowS a) :
  k.TreeAs n 1 (L0 Tr.grp n.kids) 0 := by
 intro S f s w p v sl h hsl hp hd hf hlim
 have HLIM := hid hlim
 clear hlim
 have hlen := hsl.len
 unfold maxLen at hlen
 obtain ⟨A, cap, rfl⟩ := hsl.slice
 obtain ⟨Ap, capp, rfl⟩ := hp.slice
 have HK := hid hk
 have HAT0 := hid h
 have HP0 := hid hp
 have HSL := hid hsl
 have HI := hid hrows
 have HD := hid hd
 have HF := hid hf
 have HDN := hid (Tr.depth_kids n)
 have hnS : ¬ S w.heap.size := fun e => absurd (h.slt hk _ e) (Nat.lt_irrefl _)
 have hng : w.heap.size ≠ k.g := by have := h.glt; omega
 obtain ⟨_, b1, _, _, bf⟩ := h.cells
 have hglt := h.glt
 have hb0 : (f : Int) ≤ 100000 := by have := hk.len; omega
 have hb1 : 0 ≤ (f : Int) := by omega
 go_enter Tryz.func99, Tryz.ntmps99
 go_wp2_with fail
 refine forget_world (fun W => k.At S (f + 1) s W ∧ Mv k.g S S w W ∧ Blk W w.heap.size 24 #[.int .i64 n.kind, .string ⟨n.text.toArray⟩, .int .i64 n.cols, .slice A n.kids.length cap]) ?_ ?_
 ·obtain ⟨hn1, hn2⟩ := HAT0.out.next HK.out (f' := f + 1) ((f : Int) + 1) (by omega)
  have hsz : w.heap.size = (w.setCell ⟨k.g, 1, none⟩ (.int .i64 ((f : Int) + 1))).heap.size := by simp [World.setCell]
  refine ⟨hn1.fresh HK.out ((Touch.refl _ _).alloc _), hn2.trans (Mv.fresh ((Touch.refl _ _).alloc _)), ?_⟩
  rw [hsz]
  exact Blk.new _ _ _
 rintro W1 ⟨hat1, hmv1, hb1'⟩
 have HAT1 := hid hat1
 have HMV1 := hid hmv1
 have HB1 := hid hb1'
 have HP1 := hid (HP0.out.mv hmv1)
 obtain ⟨q0, q1, q2, q3, _, _, _, _, hg4⟩ := Blk.four hb1'
 clear hat1 hmv1 hb1' h hp hsl hd hf b1 bf hglt hb0 hb1
 go_wp2_with fail
 go_loopw [119] (fun i wr => ∃ (j : Nat) (S1 : Nat → Prop) (f1 : Nat) (s1 : σ), i = .int .i64 j ∧ j ≤ n.kids.length ∧ Hid (k.At S1 f1 s1 wr) ∧ Hid (Mv k.g S S1 W1 wr) ∧ Hid (runSegs k.C k.T ((L0 Tr.grp n.kids).drop j) p j f1 s1 = runSegs k.C k.T (L0 Tr.grp n.kids) p 0 (f + 1) s) ∧ Hid (f1 + segsLen ((L0 Tr.grp n.kids).drop j) = f + 1 + segsLen (L0 Tr.grp n.kids))) (fun i _ => n.kids.length - (intOf i).toNat)
 case atStart => exact ⟨0, S, f + 1, s, rfl, Nat.zero_le _, HAT1, Mv.refl _ _ _, rfl, rfl⟩
 case round =>
  clear q0 q1 q2 q3
  obtain ⟨j, S1, f1, s1, rfl, hj, HAT, HMV, HRUN, HLEN⟩ := hrel
  have HB := hid (HMV.out.blk HB1.out hnS hng)
  obtain ⟨q0, q1, q2, q3, _, _, _, _, hg4⟩ := Blk.four HB.out.1
  by_cases c1 : j < n.kids.length
  ·have d1 : decide ((j : Int) < (n.kids.length : Int)) = true := by simp only [decide_eq_true_eq]; omega
   have d1n : decide (j < n.kids.length) = true := by simp only [decide_eq_true_eq]; omega
   have d1' : (j : Int) < (n.kids.length : Int) := by omega
   obtain ⟨g, o, sx, rfl, hg, m0, m1, m2, m3, hrk⟩ := HSL.out.get j c1
   obtain ⟨Ax, capx, rfl⟩ := hrk.slice
   have HRK := hid (hrk.low HAT.out.low)
   have HDX := hid (depth_mem (List.getElem_mem (l := n.kids) (n := j) c1))
   have HP2 := hid (HP1.out.mv HMV.out)
   have a0 := Low.cell HAT.out.low m0
   have a1 := Low.cell HAT.out.low m1
   have a2 := Low.cell HAT.out.low m2
   have a3 := Low.cell HAT.out.low m3
   have hgw : g < wr.heap.size := block_lt_of_cell a0
   clear m0 m1 m2 m3 hrk hg
   have HR2 := hid (show runSegs k.C k.T ((L0 Tr.grp n.kids).drop (j + 1)) p (j + 1) (f1 + segLen (0, Tr.grp n.kids[j], n.kids[j])) (runRow k.C k.T n.kids[j].kids (p ++ [j]) 0 (f1 + 0 + (Tr.grp n.kids[j]).toNat) s1) = runSegs k.C k.T (L0 Tr.grp n.kids) p 0 (f + 1) s by rw [← HRUN.out, L0_drop _ _ _ c1, run_cons])
   have HLX := hid (show f1 + ((0 + 2 * (Tr.grp n.kids[j]).toNat + (rowT n.kids[j].kids).length) + segsLen ((L0 Tr.grp n.kids).drop (j + 1))) = f + 1 + segsLen (L0 Tr.grp n.kids) by rw [← HLEN.out, L0_drop _ _ _ c1, segsLen, Tr.segLen_eq])
   go_wp2_with fail
   have g0 := cell_regrown q0
   have g1 := cell_regrown q1
   have g2 := cell_regrown q2
   have g3 := cell_regrown q3
   have h0 := cell_regrown a0
   have h1 := cell_regrown a1
   have h2 := cell_regrown a2
   have h3 := cell_regrown a3
   refine wp_region_mix [([(0, true), (1, true), (2, true), (3, true), (4, true), (5, true), (6, true), (7, true), (8, true), (9, false)], 10)] [] (by kernel_rfl) (fun _ _ d _ _ h => by cases d <;> exact h) (by kernel_rfl) ?_
   refine wpMix_seg ?_
   repeat (refine wpSeq_plain rfl (fun K hK => ?_); go_simp; refine hK _ ?_; clear hK K)
   refine wpSeq_lone rfl (fun K hK => ?_)
   go_wp2_with fail
   refine (wgroup_any n.kids[j] _ _ (HRK.out.fresh (show Fresh wr _ from (Touch.refl _ _).drewN _))).mono ?_
   rintro _ W5 ⟨rfl, hf5⟩
   have HF5 := hid (show Fresh wr W5 from Touch.ofN hf5)
   clear hf5
   go_wp2_with fail
   refine hK _ _ (growing_fresh HF5.out) ?_
   clear hK K
   refine wpSeq_shut rfl (fun K hK => ?_)
   go_wp2_with fail
   refine (slot_any HK.out n j c1 (HI.out n.kids[j] (List.getElem_mem c1)) (HAT.out.fresh HK.out HF5.out) HSL.out (HP2.out.mv (Mv.fresh HF5.out)) (by have := HD.out; have := HDX.out; have := HDN.out; omega) (Tr.grp n.kids[j]) (by have := HLX.out; have := HF.out; omega) (by have h1 := HLIM.out; rw [← HR2.out] at h1; exact HK.out.lim.2 _ _ _ _ _ h1)).mono ?_
   rintro _ W7 ⟨rfl, S7, hat, hmv⟩
   have HAT7 := hid hat
   have HMV7 := hid ((HMV.out.trans (Mv.fresh HF5.out)).trans hmv)
   clear hat hmv
   clear q0 q1 q2 q3 a0 a1 a2 a3 g0 g1 g2 g3 h0 h1 h2 h3
   go_wp2_with fail
   refine wpMix_end ?_
   go_wp2_with fail
   go_roundw
   case rel => exact ⟨j + 1, S7, f1 + segLen (0, Tr.grp n.kids[j], n.kids[j]), _, by go_num, c1, by have := HAT7.out; rw [Nat.add_assoc] at this; rw [Tr.segLen_eq, Nat.zero_add]; exact this, HMV7, HR2.out, by rw [Hid, ← HLX.out, Tr.segLen_eq]; omega⟩
   case measure => simp [intOf]; omega
  ·have d1 : decide ((j : Int) < (n.kids.length : Int)) = false := by simp only [decide_eq_false_iff_not]; omega
   have d1n : decide (j < n.kids.length) = false := by simp only [decide_eq_false_iff_not]; omega
   obtain rfl : j = n.kids.length := by omega
   go_wp2_with fail
   go_end0
   exact ⟨rfl, S1, by have := HAT.out; have h1 := HLEN.out; have h2 := HRUN.out; rw [L0_end] at h1 h2; rw [run_nil] at h2; rw [segsLen, Nat.add_zero] at h1; rw [h1, h2] at this; exact this, HMV1.out.trans HMV.out⟩
set_option maxRecDepth 100000 in
set_option maxHeartbeats 4000000 in
theorem tree_fence {k : Wk σ κ} (hk : k.Good) (n : Nd) (h7 : (n.kind == 7) = false) (h8 : (n.kind == 8) = false) (h9 : (n.kind == 9) = false) (_h12 : (n.kind == 12) = false) (h6 : (n.kind == 6) = false) (h11 : (n.kind == 11) = true) (t1 : (n.text == [40, 41]) = false) (t2 : (n.text == [91, 93]) = false) (hrows : ∀ a ∈ n.kids, k.RowS a) :
  k.TreeAs n 1 (L0 Tr.grp n.kids) 0 := by
 intro S f s w p v sl h hsl hp hd hf hlim
 have HLIM := hid hlim
 clear hlim
 have hlen := hsl.len
 unfold maxLen at hlen
 obtain ⟨A, cap, rfl⟩ := hsl.slice
 obtain ⟨Ap, capp, rfl⟩ := hp.slice
 have HK := hid hk
 have HAT0 := hid h
 have HP0 := hid hp
 have HSL := hid hsl
 have HI := hid hrows
 have HD := hid hd
 have HF := hid hf
 have HDN := hid (Tr.depth_kids n)
 have hnS : ¬ S w.heap.size := fun e => absurd (h.slt hk _ e) (Nat.lt_irrefl _)
 have hng : w.heap.size ≠ k.g := by have := h.glt; omega
 have t1' : ((⟨n.text.toArray⟩ : ByteArray).toList == [40, 41]) = false := by rw [ByteArray.toList_eq]; exact t1
 have t2' : ((⟨n.text.toArray⟩ : ByteArray).toList == [91, 93]) = false := by rw [ByteArray.toList_eq]; exact t2
 obtain ⟨_, b1, _, _, bf⟩ := h.cells
 have hglt := h.glt
 have hb0 : (f : Int) ≤ 100000 := by have := hk.len; omega
 have hb1 : 0 ≤ (f : Int) := by omega
 go_enter Tryz.func99, Tryz.ntmps99
 go_wp2_with fail
 refine forget_world (fun W => k.At S (f + 1) s W ∧ Mv k.g S S w W ∧ Blk W w.heap.size 24 #[.int .i64 n.kind, .string ⟨n.text.toArray⟩, .int .i64 n.cols, .slice A n.kids.length cap]) ?_ ?_
 ·obtain ⟨hn1, hn2⟩ := HAT0.out.next HK.out (f' := f + 1) ((f : Int) + 1) (by omega)
  have hsz : w.heap.size = (w.setCell ⟨k.g, 1, none⟩ (.int .i64 ((f : Int) + 1))).heap.size := by simp [World.setCell]
  refine ⟨hn1.fresh HK.out ((Touch.refl _ _).alloc _), hn2.trans (Mv.fresh ((Touch.refl _ _).alloc _)), ?_⟩
  rw [hsz]
  exact Blk.new _ _ _
 rintro W1 ⟨hat1, hmv1, hb1'⟩
 have HAT1 := hid hat1
 have HMV1 := hid hmv1
 have HB1 := hid hb1'
 have HP1 := hid (HP0.out.mv hmv1)
 obtain ⟨q0, q1, q2, q3, _, _, _, _, hg4⟩ := Blk.four hb1'
 clear hat1 hmv1 hb1' h hp hsl hd hf b1 bf hglt hb0 hb1
 go_wp2_with fail
 go_loopw [119] (fun i wr => ∃ (j : Nat) (S1 : Nat → Prop) (f1 : Nat) (s1 : σ), i = .int .i64 j ∧ j ≤ n.kids.length ∧ Hid (k.At S1 f1 s1 wr) ∧ Hid (Mv k.g S S1 W1 wr) ∧ Hid (runSegs k.C k.T ((L0 Tr.grp n.kids).drop j) p j f1 s1 = runSegs k.C k.T (L0 Tr.grp n.kids) p 0 (f + 1) s) ∧ Hid (f1 + segsLen ((L0 Tr.grp n.kids).drop j) = f + 1 + segsLen (L0 Tr.grp n.kids))) (fun i _ => n.kids.length - (intOf i).toNat)
 case atStart => exact ⟨0, S, f + 1, s, rfl, Nat.zero_le _, HAT1, Mv.refl _ _ _, rfl, rfl⟩
 case round =>
  clear q0 q1 q2 q3
  obtain ⟨j, S1, f1, s1, rfl, hj, HAT, HMV, HRUN, HLEN⟩ := hrel
  have HB := hid (HMV.out.blk HB1.out hnS hng)
  obtain ⟨q0, q1, q2, q3, _, _, _, _, hg4⟩ := Blk.four HB.out.1
  by_cases c1 : j < n.kids.length
  ·have d1 : decide ((j : Int) < (n.kids.length : Int)) = true := by simp only [decide_eq_true_eq]; omega
   have d1n : decide (j < n.kids.length) = true := by simp only [decide_eq_true_eq]; omega
   have d1' : (j : Int) < (n.kids.length : Int) := by omega
   obtain ⟨g, o, sx, rfl, hg, m0, m1, m2, m3, hrk⟩ := HSL.out.get j c1
   obtain ⟨Ax, capx, rfl⟩ := hrk.slice
   have HRK := hid (hrk.low HAT.out.low)
   have HDX := hid (depth_mem (List.getElem_mem (l := n.kids) (n := j) c1))
   have HP2 := hid (HP1.out.mv HMV.out)
   have a0 := Low.cell HAT.out.low m0
   have a1 := Low.cell HAT.out.low m1
   have a2 := Low.cell HAT.out.low m2
   have a3 := Low.cell HAT.out.low m3
   have hgw : g < wr.heap.size := block_lt_of_cell a0
   clear m0 m1 m2 m3 hrk hg
   have HR2 := hid (show runSegs k.C k.T ((L0 Tr.grp n.kids).drop (j + 1)) p (j + 1) (f1 + segLen (0, Tr.grp n.kids[j], n.kids[j])) (runRow k.C k.T n.kids[j].kids (p ++ [j]) 0 (f1 + 0 + (Tr.grp n.kids[j]).toNat) s1) = runSegs k.C k.T (L0 Tr.grp n.kids) p 0 (f + 1) s by rw [← HRUN.out, L0_drop _ _ _ c1, run_cons])
   have HLX := hid (show f1 + ((0 + 2 * (Tr.grp n.kids[j]).toNat + (rowT n.kids[j].kids).length) + segsLen ((L0 Tr.grp n.kids).drop (j + 1))) = f + 1 + segsLen (L0 Tr.grp n.kids) by rw [← HLEN.out, L0_drop _ _ _ c1, segsLen, Tr.segLen_eq])
   go_wp2_with fail
   have g0 := cell_regrown q0
   have g1 := cell_regrown q1
   have g2 := cell_regrown q2
   have g3 := cell_regrown q3
   have h0 := cell_regrown a0
   have h1 := cell_regrown a1
   have h2 := cell_regrown a2
   have h3 := cell_regrown a3
   refine wp_region_mix [([(0, true), (1, true), (2, true), (3, true), (4, true), (5, true), (6, true), (7, true), (8, true), (9, false)], 10)] [] (by kernel_rfl) (fun _ _ d _ _ h => by cases d <;> exact h) (by kernel_rfl) ?_
   refine wpMix_seg ?_
   repeat (refine wpSeq_plain rfl (fun K hK => ?_); go_simp; refine hK _ ?_; clear hK K)
   refine wpSeq_lone rfl (fun K hK => ?_)
   go_wp2_with fail
   refine (wgroup_any n.kids[j] _ _ (HRK.out.fresh (show Fresh wr _ from (Touch.refl _ _).drewN _))).mono ?_
   rintro _ W5 ⟨rfl, hf5⟩
   have HF5 := hid (show Fresh wr W5 from Touch.ofN hf5)
   clear hf5
   go_wp2_with fail
   refine hK _ _ (growing_fresh HF5.out) ?_
   clear hK K
   refine wpSeq_shut rfl (fun K hK => ?_)
   go_wp2_with fail
   refine (slot_any HK.out n j c1 (HI.out n.kids[j] (List.getElem_mem c1)) (HAT.out.fresh HK.out HF5.out) HSL.out (HP2.out.mv (Mv.fresh HF5.out)) (by have := HD.out; have := HDX.out; have := HDN.out; omega) (Tr.grp n.kids[j]) (by have := HLX.out; have := HF.out; omega) (by have h1 := HLIM.out; rw [← HR2.out] at h1; exact HK.out.lim.2 _ _ _ _ _ h1)).mono ?_
   rintro _ W7 ⟨rfl, S7, hat, hmv⟩
   have HAT7 := hid hat
   have HMV7 := hid ((HMV.out.trans (Mv.fresh HF5.out)).trans hmv)
   clear hat hmv
   clear q0 q1 q2 q3 a0 a1 a2 a3 g0 g1 g2 g3 h0 h1 h2 h3
   go_wp2_with fail
   refine wpMix_end ?_
   go_wp2_with fail
   go_roundw
   case rel => exact ⟨j + 1, S7, f1 + segLen (0, Tr.grp n.kids[j], n.kids[j]), _, by go_num, c1, by have := HAT7.out; rw [Nat.add_assoc] at this; rw [Tr.segLen_eq, Nat.zero_add]; exact this, HMV7, HR2.out, by rw [Hid, ← HLX.out, Tr.segLen_eq]; omega⟩
   case measure => simp [intOf]; omega
  ·have d1 : decide ((j : Int) < (n.kids.length : Int)) = false := by simp only [decide_eq_false_iff_not]; omega
   have d1n : decide (j < n.kids.length) = false := by simp only [decide_eq_false_iff_not]; omega
   obtain rfl : j = n.kids.length := by omega
   go_wp2_with fail
   go_end0
   exact ⟨rfl, S1, by have := HAT.out; have h1 := HLEN.out; have h2 := HRUN.out; rw [L0_end] at h1 h2; rw [run_nil] at h2; rw [segsLen, Nat.add_zero] at h1; rw [h1, h2] at this; exact this, HMV1.out.trans HMV.out⟩
def LI (kk : Nat → Nat) (br : Nat → Nd → Bool) (ks : List Nd) : List (Nat × Bool × Nd) := ks.mapIdx fun i b => (kk i, br i b, b)
theorem LI_drop (kk : Nat → Nat) (br : Nat → Nd → Bool) (l : List Nd) (j : Nat) (h : j < l.length) : (LI kk br l).drop j = (kk j, br j l[j], l[j]) :: (LI kk br l).drop (j + 1) := by
 unfold LI
 rw [List.drop_eq_getElem_cons (by simpa using h), List.getElem_mapIdx]
theorem LI_end (kk : Nat → Nat) (br : Nat → Nd → Bool) (l : List Nd) : (LI kk br l).drop l.length = [] := List.drop_eq_nil_of_le (by simp [LI])
def rootB (i : Nat) (b : Nd) : Bool := if i = 0 then !b.kids.isEmpty else Tr.grp b
def scriptB (i : Nat) (b : Nd) : Bool := if i = 0 then Tr.bgrp b else Tr.grp b
def scriptK (i : Nat) : Nat := if i = 0 then 0 else 1
set_option maxRecDepth 100000 in
set_option maxHeartbeats 4000000 in
theorem tree_root {k : Wk σ κ} (hk : k.Good) (n : Nd) (h6 : n.kind = 6) (hrows : ∀ a ∈ n.kids, k.RowS a) :
  k.TreeAs n 1 (LI (fun _ => 0) rootB n.kids) 0 := by
 have h7 : (n.kind == 7) = false := by rw [h6]; rfl
 have h8 : (n.kind == 8) = false := by rw [h6]; rfl
 have h9 : (n.kind == 9) = false := by rw [h6]; rfl
 have h11 : (n.kind == 11) = false := by rw [h6]; rfl
 have h12 : (n.kind == 12) = false := by rw [h6]; rfl
 have h6' : (n.kind == 6) = true := by rw [h6]; rfl
 clear h6
 intro S f s w p v sl h hsl hp hd hf hlim
 have HLIM := hid hlim
 clear hlim
 have hlen := hsl.len
 unfold maxLen at hlen
 obtain ⟨A, cap, rfl⟩ := hsl.slice
 obtain ⟨Ap, capp, rfl⟩ := hp.slice
 have HK := hid hk
 have HAT0 := hid h
 have HP0 := hid hp
 have HSL := hid hsl
 have HI := hid hrows
 have HD := hid hd
 have HF := hid hf
 have HDN := hid (Tr.depth_kids n)
 have hnS : ¬ S w.heap.size := fun e => absurd (h.slt hk _ e) (Nat.lt_irrefl _)
 have hng : w.heap.size ≠ k.g := by have := h.glt; omega
 obtain ⟨_, b1, _, _, bf⟩ := h.cells
 have hglt := h.glt
 have hb0 : (f : Int) ≤ 100000 := by have := hk.len; omega
 have hb1 : 0 ≤ (f : Int) := by omega
 go_enter Tryz.func99, Tryz.ntmps99
 go_wp2_with fail
 refine forget_world (fun W => k.At S (f + 1) s W ∧ Mv k.g S S w W ∧ Blk W w.heap.size 24 #[.int .i64 n.kind, .string ⟨n.text.toArray⟩, .int .i64 n.cols, .slice A n.kids.length cap]) ?_ ?_
 ·obtain ⟨hn1, hn2⟩ := HAT0.out.next HK.out (f' := f + 1) ((f : Int) + 1) (by omega)
  have hsz : w.heap.size = (w.setCell ⟨k.g, 1, none⟩ (.int .i64 ((f : Int) + 1))).heap.size := by simp [World.setCell]
  refine ⟨hn1.fresh HK.out ((Touch.refl _ _).alloc _), hn2.trans (Mv.fresh ((Touch.refl _ _).alloc _)), ?_⟩
  rw [hsz]
  exact Blk.new _ _ _
 rintro W1 ⟨hat1, hmv1, hb1'⟩
 have HAT1 := hid hat1
 have HMV1 := hid hmv1
 have HB1 := hid hb1'
 have HP1 := hid (HP0.out.mv hmv1)
 obtain ⟨q0, q1, q2, q3, _, _, _, _, hg4⟩ := Blk.four hb1'
 clear hat1 hmv1 hb1' h hp hsl hd hf b1 bf hglt hb0 hb1
 go_wp2_with fail
 go_loopw [119] (fun i wr => ∃ (j : Nat) (S1 : Nat → Prop) (f1 : Nat) (s1 : σ), i = .int .i64 j ∧ j ≤ n.kids.length ∧ Hid (k.At S1 f1 s1 wr) ∧ Hid (Mv k.g S S1 W1 wr) ∧ Hid (runSegs k.C k.T ((LI (fun _ => 0) rootB n.kids).drop j) p j f1 s1 = runSegs k.C k.T (LI (fun _ => 0) rootB n.kids) p 0 (f + 1) s) ∧ Hid (f1 + segsLen ((LI (fun _ => 0) rootB n.kids).drop j) = f + 1 + segsLen (LI (fun _ => 0) rootB n.kids))) (fun i _ => n.kids.length - (intOf i).toNat)
 case atStart => exact ⟨0, S, f + 1, s, rfl, Nat.zero_le _, HAT1, Mv.refl _ _ _, rfl, rfl⟩
 case round =>
  clear q0 q1 q2 q3
  obtain ⟨j, S1, f1, s1, rfl, hj, HAT, HMV, HRUN, HLEN⟩ := hrel
  have HB := hid (HMV.out.blk HB1.out hnS hng)
  obtain ⟨q0, q1, q2, q3, _, _, _, _, hg4⟩ := Blk.four HB.out.1
  by_cases c1 : j < n.kids.length
  ·have d1 : decide ((j : Int) < (n.kids.length : Int)) = true := by simp only [decide_eq_true_eq]; omega
   have d1n : decide (j < n.kids.length) = true := by simp only [decide_eq_true_eq]; omega
   have d1' : (j : Int) < (n.kids.length : Int) := by omega
   obtain ⟨g, o, sx, rfl, hg, m0, m1, m2, m3, hrk⟩ := HSL.out.get j c1
   obtain ⟨Ax, capx, rfl⟩ := hrk.slice
   have HRK := hid (hrk.low HAT.out.low)
   have HDX := hid (depth_mem (List.getElem_mem (l := n.kids) (n := j) c1))
   have HP2 := hid (HP1.out.mv HMV.out)
   have a0 := Low.cell HAT.out.low m0
   have a1 := Low.cell HAT.out.low m1
   have a2 := Low.cell HAT.out.low m2
   have a3 := Low.cell HAT.out.low m3
   have hgw : g < wr.heap.size := block_lt_of_cell a0
   clear m0 m1 m2 m3 hrk hg
   by_cases j0 : j = 0
   ·subst j0
    simp only [Nat.zero_mul, Nat.add_zero] at a0 a1 a2 a3
    cases he : n.kids[0].kids.isEmpty with
    | false =>
     have hB : rootB 0 n.kids[0] = true := by unfold rootB; rw [if_pos rfl, he]; rfl
     have hl0 : 0 < n.kids[0].kids.length := by have h := he; rw [List.isEmpty_eq_false_iff] at h; exact List.length_pos_iff.2 h
     have e1 : decide ((0 : Int) < (n.kids[0].kids.length : Int)) = true := by simp only [decide_eq_true_eq]; omega
     have e1n : decide (0 < n.kids[0].kids.length) = true := by simp only [decide_eq_true_eq]; omega
     clear he
     have HR2 := hid (show runSegs k.C k.T ((LI (fun _ => 0) rootB n.kids).drop (0 + 1)) p (0 + 1) (f1 + segLen (0, true, n.kids[0])) (runRow k.C k.T n.kids[0].kids (p ++ [0]) 0 (f1 + 0 + (true).toNat) s1) = runSegs k.C k.T (LI (fun _ => 0) rootB n.kids) p 0 (f + 1) s by rw [← HRUN.out, LI_drop _ _ _ _ c1, hB, run_cons])
     have HLX := hid (show f1 + ((0 + 2 * (true).toNat + (rowT n.kids[0].kids).length) + segsLen ((LI (fun _ => 0) rootB n.kids).drop (0 + 1))) = f + 1 + segsLen (LI (fun _ => 0) rootB n.kids) by rw [← HLEN.out, LI_drop _ _ _ _ c1, hB, segsLen, Tr.segLen_eq])
     clear hB
     go_wp2_with fail
     have g0 := cell_regrown q0
     have g1 := cell_regrown q1
     have g2 := cell_regrown q2
     have g3 := cell_regrown q3
     have h0 := cell_regrown a0
     have h1 := cell_regrown a1
     have h2 := cell_regrown a2
     have h3 := cell_regrown a3
     refine wp_region_mix [([(0, true), (1, true), (2, true), (3, true), (4, true), (5, true), (6, true), (7, true), (8, true), (9, true), (10, true), (11, true)], 12)] [] (by kernel_rfl) (fun _ _ d _ _ h => by cases d <;> exact h) (by kernel_rfl) ?_
     refine wpMix_seg ?_
     repeat (refine wpSeq_plain rfl (fun K hK => ?_); go_simp; refine hK _ ?_; clear hK K)
     refine wpSeq_shut rfl (fun K hK => ?_)
     go_wp2_with fail
     refine (slot_any HK.out n 0 c1 (HI.out n.kids[0] (List.getElem_mem c1)) (HAT.out.fresh HK.out (show Fresh wr _ from (Touch.refl _ _).drewN _)) HSL.out (HP2.out.mv (Mv.fresh ((Touch.refl _ _).drewN _))) (by have := HD.out; have := HDX.out; have := HDN.out; omega) true (by have := HLX.out; have := HF.out; simp only [Bool.toNat_true] at *; omega) (by have h1 := HLIM.out; rw [← HR2.out] at h1; exact HK.out.lim.2 _ _ _ _ _ h1)).mono ?_
     rintro _ W7 ⟨rfl, S7, hat, hmv⟩
     have HAT7 := hid hat
     have HMV7 := hid ((HMV.out.trans (Mv.fresh ((Touch.refl _ _).drewN _))).trans hmv)
     clear hat hmv
     clear q0 q1 q2 q3 a0 a1 a2 a3 g0 g1 g2 g3 h0 h1 h2 h3
     go_wp2_with fail
     refine wpMix_end ?_
     go_wp2_with fail
     go_roundw
     case rel => exact ⟨0 + 1, S7, f1 + segLen (0, true, n.kids[0]), _, rfl, c1, by have := HAT7.out; rw [Nat.add_assoc] at this; rw [Tr.segLen_eq, Nat.zero_add]; exact this, HMV7, HR2.out, by rw [Hid, ← HLX.out, Tr.segLen_eq]; omega⟩
     case measure => simp [intOf]; omega
    | true =>
     have hB : rootB 0 n.kids[0] = false := by unfold rootB; rw [if_pos rfl, he]; rfl
     have hl0 : n.kids[0].kids.length = 0 := by have h := he; rw [List.isEmpty_iff] at h; rw [h]; rfl
     have e1 : decide ((0 : Int) < (n.kids[0].kids.length : Int)) = false := by simp only [decide_eq_false_iff_not]; omega
     have e1n : decide (0 < n.kids[0].kids.length) = false := by simp only [decide_eq_false_iff_not]; omega
     clear he
     have HR2 := hid (show runSegs k.C k.T ((LI (fun _ => 0) rootB n.kids).drop (0 + 1)) p (0 + 1) (f1 + segLen (0, false, n.kids[0])) (runRow k.C k.T n.kids[0].kids (p ++ [0]) 0 (f1 + 0 + (false).toNat) s1) = runSegs k.C k.T (LI (fun _ => 0) rootB n.kids) p 0 (f + 1) s by rw [← HRUN.out, LI_drop _ _ _ _ c1, hB, run_cons])
     have HLX := hid (show f1 + ((0 + 2 * (false).toNat + (rowT n.kids[0].kids).length) + segsLen ((LI (fun _ => 0) rootB n.kids).drop (0 + 1))) = f + 1 + segsLen (LI (fun _ => 0) rootB n.kids) by rw [← HLEN.out, LI_drop _ _ _ _ c1, hB, segsLen, Tr.segLen_eq])
     clear hB
     go_wp2_with fail
     have g0 := cell_regrown q0
     have g1 := cell_regrown q1
     have g2 := cell_regrown q2
     have g3 := cell_regrown q3
     have h0 := cell_regrown a0
     have h1 := cell_regrown a1
     have h2 := cell_regrown a2
     have h3 := cell_regrown a3
     refine wp_region_mix [([(0, true), (1, true), (2, true), (3, true), (4, true), (5, true), (6, true), (7, true), (8, true), (9, true), (10, true), (11, true)], 12)] [] (by kernel_rfl) (fun _ _ d _ _ h => by cases d <;> exact h) (by kernel_rfl) ?_
     refine wpMix_seg ?_
     repeat (refine wpSeq_plain rfl (fun K hK => ?_); go_simp; refine hK _ ?_; clear hK K)
     refine wpSeq_shut rfl (fun K hK => ?_)
     go_wp2_with fail
     refine (slot_any HK.out n 0 c1 (HI.out n.kids[0] (List.getElem_mem c1)) (HAT.out.fresh HK.out (show Fresh wr _ from (Touch.refl _ _).drewN _)) HSL.out (HP2.out.mv (Mv.fresh ((Touch.refl _ _).drewN _))) (by have := HD.out; have := HDX.out; have := HDN.out; omega) false (by have := HLX.out; have := HF.out; simp only [Bool.toNat_false] at *; omega) (by have h1 := HLIM.out; rw [← HR2.out] at h1; exact HK.out.lim.2 _ _ _ _ _ h1)).mono ?_
     rintro _ W7 ⟨rfl, S7, hat, hmv⟩
     have HAT7 := hid hat
     have HMV7 := hid ((HMV.out.trans (Mv.fresh ((Touch.refl _ _).drewN _))).trans hmv)
     clear hat hmv
     clear q0 q1 q2 q3 a0 a1 a2 a3 g0 g1 g2 g3 h0 h1 h2 h3
     go_wp2_with fail
     refine wpMix_end ?_
     go_wp2_with fail
     go_roundw
     case rel => exact ⟨0 + 1, S7, f1 + segLen (0, false, n.kids[0]), _, rfl, c1, by have := HAT7.out; rw [Nat.add_assoc] at this; rw [Tr.segLen_eq, Nat.zero_add]; exact this, HMV7, HR2.out, by rw [Hid, ← HLX.out, Tr.segLen_eq]; omega⟩
     case measure => simp [intOf]; omega
   ·have e0 : ((j : Int) == 0) = false := by rw [beq_eq_false_iff_ne]; omega
    have e0n : (j == 0) = false := by rw [beq_eq_false_iff_ne]; exact j0
    have hB : rootB j n.kids[j] = Tr.grp n.kids[j] := by unfold rootB; rw [if_neg j0]
    have HR2 := hid (show runSegs k.C k.T ((LI (fun _ => 0) rootB n.kids).drop (j + 1)) p (j + 1) (f1 + segLen (0, Tr.grp n.kids[j], n.kids[j])) (runRow k.C k.T n.kids[j].kids (p ++ [j]) 0 (f1 + 0 + (Tr.grp n.kids[j]).toNat) s1) = runSegs k.C k.T (LI (fun _ => 0) rootB n.kids) p 0 (f + 1) s by rw [← HRUN.out, LI_drop _ _ _ _ c1, hB, run_cons])
    have HLX := hid (show f1 + ((0 + 2 * (Tr.grp n.kids[j]).toNat + (rowT n.kids[j].kids).length) + segsLen ((LI (fun _ => 0) rootB n.kids).drop (j + 1))) = f + 1 + segsLen (LI (fun _ => 0) rootB n.kids) by rw [← HLEN.out, LI_drop _ _ _ _ c1, hB, segsLen, Tr.segLen_eq])
    clear hB
    go_wp2_with fail
    have g0 := cell_regrown q0
    have g1 := cell_regrown q1
    have g2 := cell_regrown q2
    have g3 := cell_regrown q3
    have h0 := cell_regrown a0
    have h1 := cell_regrown a1
    have h2 := cell_regrown a2
    have h3 := cell_regrown a3
    refine wp_region_mix [([(0, true), (1, true), (2, true), (3, true), (4, true), (5, true), (6, true), (7, true), (8, true), (9, false)], 10)] [] (by kernel_rfl) (fun _ _ d _ _ h => by cases d <;> exact h) (by kernel_rfl) ?_
    refine wpMix_seg ?_
    repeat (refine wpSeq_plain rfl (fun K hK => ?_); go_simp; refine hK _ ?_; clear hK K)
    refine wpSeq_lone rfl (fun K hK => ?_)
    go_wp2_with fail
    refine (wgroup_any n.kids[j] _ _ (HRK.out.fresh (show Fresh wr _ from (Touch.refl _ _).drewN _))).mono ?_
    rintro _ W5 ⟨rfl, hf5⟩
    have HF5 := hid (show Fresh wr W5 from Touch.ofN hf5)
    clear hf5
    go_wp2_with fail
    refine hK _ _ (growing_fresh HF5.out) ?_
    clear hK K
    refine wpSeq_shut rfl (fun K hK => ?_)
    go_wp2_with fail
    refine (slot_any HK.out n j c1 (HI.out n.kids[j] (List.getElem_mem c1)) (HAT.out.fresh HK.out HF5.out) HSL.out (HP2.out.mv (Mv.fresh HF5.out)) (by have := HD.out; have := HDX.out; have := HDN.out; omega) (Tr.grp n.kids[j]) (by have := HLX.out; have := HF.out; omega) (by have h1 := HLIM.out; rw [← HR2.out] at h1; exact HK.out.lim.2 _ _ _ _ _ h1)).mono ?_
    rintro _ W7 ⟨rfl, S7, hat, hmv⟩
    have HAT7 := hid hat
    have HMV7 := hid ((HMV.out.trans (Mv.fresh HF5.out)).trans hmv)
    clear hat hmv
    clear q0 q1 q2 q3 a0 a1 a2 a3 g0 g1 g2 g3 h0 h1 h2 h3
    go_wp2_with fail
    refine wpMix_end ?_
    go_wp2_with fail
    go_roundw
    case rel => exact ⟨j + 1, S7, f1 + segLen (0, Tr.grp n.kids[j], n.kids[j]), _, by go_num, c1, by have := HAT7.out; rw [Nat.add_assoc] at this; rw [Tr.segLen_eq, Nat.zero_add]; exact this, HMV7, HR2.out, by rw [Hid, ← HLX.out, Tr.segLen_eq]; omega⟩
    case measure => simp [intOf]; omega
  ·have d1 : decide ((j : Int) < (n.kids.length : Int)) = false := by simp only [decide_eq_false_iff_not]; omega
   have d1n : decide (j < n.kids.length) = false := by simp only [decide_eq_false_iff_not]; omega
   obtain rfl : j = n.kids.length := by omega
   go_wp2_with fail
   go_end0
   exact ⟨rfl, S1, by have := HAT.out; have h1 := HLEN.out; have h2 := HRUN.out; rw [LI_end] at h1 h2; rw [run_nil] at h2; rw [segsLen, Nat.add_zero] at h1; rw [h1, h2] at this; exact this, HMV1.out.trans HMV.out⟩
end Go.Proofs.YtdacpbdamliafaaGreat

/- The walker's tree at brackets, scripts and matrices. -/
namespace Go.Proofs.YtdacpbdamliafaaGreat
open Go.RowKit
open Tr (Nd Clo runRow runSegs rowT itemT segs segsLen segLen)
attribute [local go_sem] stillV stillUpon
variable {σ κ : Type}
set_option maxRecDepth 100000 in
set_option maxHeartbeats 4000000 in
theorem tree_round {k : Wk σ κ} (hk : k.Good) (n : Nd) (h7 : (n.kind == 7) = false) (h8 : (n.kind == 8) = false) (h9 : (n.kind == 9) = false) (h11 : (n.kind == 11) = true) (t1 : (n.text == [40, 41]) = true) (h1 : n.kids.length = 1) (hrows : ∀ a ∈ n.kids, k.RowS a) :
  k.TreeAs n 0 (LI (fun _ => 0) (fun _ _ => true) n.kids) 0 := by
 intro S f s w p v sl h hsl hp hd hf hlim
 have HLIM := hid hlim
 clear hlim
 have hlen := hsl.len
 unfold maxLen at hlen
 obtain ⟨A, cap, rfl⟩ := hsl.slice
 obtain ⟨Ap, capp, rfl⟩ := hp.slice
 have HK := hid hk
 have HAT0 := hid h
 have HP0 := hid hp
 have HSL := hid hsl
 have HI := hid hrows
 have HD := hid hd
 have HF := hid hf
 have HDN := hid (Tr.depth_kids n)
 have hnS : ¬ S w.heap.size := fun e => absurd (h.slt hk _ e) (Nat.lt_irrefl _)
 have hng : w.heap.size ≠ k.g := by have := h.glt; omega
 have c1 : 0 < n.kids.length := by omega
 have H1 := hid h1
 have t1' : ((⟨n.text.toArray⟩ : ByteArray).toList == [40, 41]) = true := by rw [ByteArray.toList_eq]; exact t1
 clear h1
 have hd1 : (LI (fun _ => 0) (fun _ _ => true) n.kids).drop 1 = [] := by rw [← H1.out]; exact LI_end _ _ _
 have HL := hid (show LI (fun _ => 0) (fun _ _ => true) n.kids = [(0, true, n.kids[0])] by
  have := LI_drop (fun _ => 0) (fun _ _ => true) n.kids 0 c1
  rw [List.drop_zero, hd1] at this
  exact this)
 have HDX := hid (depth_mem (List.getElem_mem (l := n.kids) (n := 0) c1))
 clear hd1
 have HLIM2 := hid (by have h1 := HLIM.out; rw [HL.out, run_cons, run_nil] at h1; exact h1)
 unfold Wk.Ends
 rw [HL.out] at hf ⊢
 rw [run_cons, run_nil]
 rw [segsLen, segsLen, Tr.segLen_eq] at hf ⊢
 have HF2 := hid hf
 go_enter Tryz.func99, Tryz.ntmps99
 go_wp2_with fail
 refine (slot_any HK.out n 0 c1 (HI.out n.kids[0] (List.getElem_mem c1)) (HAT0.out.fresh HK.out ((Touch.refl _ _).alloc _)) HSL.out (HP0.out.mv (Mv.fresh ((Touch.refl _ _).alloc _))) (by have := HD.out; have := HDX.out; have := HDN.out; omega) true (by have := HF2.out; omega) HLIM2.out).mono ?_
 rintro _ W7 ⟨rfl, S7, hat, hmv⟩
 have HAT7 := hid hat
 have HMV7 := hid ((Mv.fresh (show Fresh w _ from (Touch.refl _ _).alloc _)).trans hmv)
 clear hat hmv
 go_wp2_with fail
 first | go_end0 | refine bodyPost_ret (v := .tuple #[]) (results_none rfl _ _ _) rfl ?_
 refine ⟨rfl, S7, ?_, HMV7.out⟩
 have := HAT7.out
 simp only [Nat.zero_add, Nat.add_zero, ← Nat.add_assoc] at this ⊢
 exact this
set_option maxRecDepth 100000 in
set_option maxHeartbeats 4000000 in
theorem tree_square {k : Wk σ κ} (hk : k.Good) (n : Nd) (h7 : (n.kind == 7) = false) (h8 : (n.kind == 8) = false) (h9 : (n.kind == 9) = false) (h11 : (n.kind == 11) = true) (t1 : (n.text == [40, 41]) = false) (t2 : (n.text == [91, 93]) = true) (h1 : n.kids.length = 1) (hrows : ∀ a ∈ n.kids, k.RowS a) :
  k.TreeAs n 0 (LI (fun _ => 0) (fun _ _ => true) n.kids) 0 := by
 intro S f s w p v sl h hsl hp hd hf hlim
 have HLIM := hid hlim
 clear hlim
 have hlen := hsl.len
 unfold maxLen at hlen
 obtain ⟨A, cap, rfl⟩ := hsl.slice
 obtain ⟨Ap, capp, rfl⟩ := hp.slice
 have HK := hid hk
 have HAT0 := hid h
 have HP0 := hid hp
 have HSL := hid hsl
 have HI := hid hrows
 have HD := hid hd
 have HF := hid hf
 have HDN := hid (Tr.depth_kids n)
 have hnS : ¬ S w.heap.size := fun e => absurd (h.slt hk _ e) (Nat.lt_irrefl _)
 have hng : w.heap.size ≠ k.g := by have := h.glt; omega
 have c1 : 0 < n.kids.length := by omega
 have H1 := hid h1
 have t1' : ((⟨n.text.toArray⟩ : ByteArray).toList == [40, 41]) = false := by rw [ByteArray.toList_eq]; exact t1
 have t2' : ((⟨n.text.toArray⟩ : ByteArray).toList == [91, 93]) = true := by rw [ByteArray.toList_eq]; exact t2
 clear h1
 have hd1 : (LI (fun _ => 0) (fun _ _ => true) n.kids).drop 1 = [] := by rw [← H1.out]; exact LI_end _ _ _
 have HL := hid (show LI (fun _ => 0) (fun _ _ => true) n.kids = [(0, true, n.kids[0])] by
  have := LI_drop (fun _ => 0) (fun _ _ => true) n.kids 0 c1
  rw [List.drop_zero, hd1] at this
  exact this)
 have HDX := hid (depth_mem (List.getElem_mem (l := n.kids) (n := 0) c1))
 clear hd1
 have HLIM2 := hid (by have h1 := HLIM.out; rw [HL.out, run_cons, run_nil] at h1; exact h1)
 unfold Wk.Ends
 rw [HL.out] at hf ⊢
 rw [run_cons, run_nil]
 rw [segsLen, segsLen, Tr.segLen_eq] at hf ⊢
 have HF2 := hid hf
 go_enter Tryz.func99, Tryz.ntmps99
 go_wp2_with fail
 refine (slot_any HK.out n 0 c1 (HI.out n.kids[0] (List.getElem_mem c1)) (HAT0.out.fresh HK.out ((Touch.refl _ _).alloc _)) HSL.out (HP0.out.mv (Mv.fresh ((Touch.refl _ _).alloc _))) (by have := HD.out; have := HDX.out; have := HDN.out; omega) true (by have := HF2.out; omega) HLIM2.out).mono ?_
 rintro _ W7 ⟨rfl, S7, hat, hmv⟩
 have HAT7 := hid hat
 have HMV7 := hid ((Mv.fresh (show Fresh w _ from (Touch.refl _ _).alloc _)).trans hmv)
 clear hat hmv
 go_wp2_with fail
 first | go_end0 | refine bodyPost_ret (v := .tuple #[]) (results_none rfl _ _ _) rfl ?_
 refine ⟨rfl, S7, ?_, HMV7.out⟩
 have := HAT7.out
 simp only [Nat.zero_add, Nat.add_zero, ← Nat.add_assoc] at this ⊢
 exact this
set_option maxRecDepth 100000 in
set_option maxHeartbeats 4000000 in
theorem tree_matrix {k : Wk σ κ} (hk : k.Good) (n : Nd) (h12 : n.kind = 12) (hrows : ∀ a ∈ n.kids, k.RowS a) :
  k.TreeAs n 1 (LI (fun _ => 1) (fun _ _ => false) n.kids) 1 := by
 have h7 : (n.kind == 7) = false := by rw [h12]; rfl
 have h8 : (n.kind == 8) = false := by rw [h12]; rfl
 have h9 : (n.kind == 9) = false := by rw [h12]; rfl
 have h11 : (n.kind == 11) = false := by rw [h12]; rfl
 have h12' : (n.kind == 12) = true := by rw [h12]; rfl
 clear h12
 intro S f s w p v sl h hsl hp hd hf hlim
 have HLIM := hid hlim
 clear hlim
 have hlen := hsl.len
 unfold maxLen at hlen
 obtain ⟨A, cap, rfl⟩ := hsl.slice
 obtain ⟨Ap, capp, rfl⟩ := hp.slice
 have HK := hid hk
 have HAT0 := hid h
 have HP0 := hid hp
 have HSL := hid hsl
 have HI := hid hrows
 have HD := hid hd
 have HF := hid hf
 have HDN := hid (Tr.depth_kids n)
 have hnS : ¬ S w.heap.size := fun e => absurd (h.slt hk _ e) (Nat.lt_irrefl _)
 have hng : w.heap.size ≠ k.g := by have := h.glt; omega
 obtain ⟨_, b1, _, _, bf⟩ := h.cells
 have hglt := h.glt
 have hb0 : (f : Int) ≤ 100000 := by have := hk.len; omega
 have hb1 : 0 ≤ (f : Int) := by omega
 go_enter Tryz.func99, Tryz.ntmps99
 go_wp2_with fail
 refine forget_world (fun W => k.At S (f + 1) s W ∧ Mv k.g S S w W ∧ Blk W w.heap.size 24 #[.int .i64 n.kind, .string ⟨n.text.toArray⟩, .int .i64 n.cols, .slice A n.kids.length cap]) ?_ ?_
 ·obtain ⟨hn1, hn2⟩ := HAT0.out.next HK.out (f' := f + 1) ((f : Int) + 1) (by omega)
  have hsz : w.heap.size = (w.setCell ⟨k.g, 1, none⟩ (.int .i64 ((f : Int) + 1))).heap.size := by simp [World.setCell]
  refine ⟨hn1.fresh HK.out ((Touch.refl _ _).alloc _), hn2.trans (Mv.fresh ((Touch.refl _ _).alloc _)), ?_⟩
  rw [hsz]
  exact Blk.new _ _ _
 rintro W1 ⟨hat1, hmv1, hb1'⟩
 have HAT1 := hid hat1
 have HMV1 := hid hmv1
 have HB1 := hid hb1'
 have HP1 := hid (HP0.out.mv hmv1)
 obtain ⟨q0, q1, q2, q3, _, _, _, _, hg4⟩ := Blk.four hb1'
 clear hat1 hmv1 hb1' h hp hsl hd hf b1 bf hglt hb0 hb1
 go_wp2_with fail
 go_loopw [86] (fun i wr => ∃ (j : Nat) (S1 : Nat → Prop) (f1 : Nat) (s1 : σ), i = .int .i64 j ∧ j ≤ n.kids.length ∧ Hid (k.At S1 f1 s1 wr) ∧ Hid (Mv k.g S S1 W1 wr) ∧ Hid (runSegs k.C k.T ((LI (fun _ => 1) (fun _ _ => false) n.kids).drop j) p j f1 s1 = runSegs k.C k.T (LI (fun _ => 1) (fun _ _ => false) n.kids) p 0 (f + 1) s) ∧ Hid (f1 + segsLen ((LI (fun _ => 1) (fun _ _ => false) n.kids).drop j) = f + 1 + segsLen (LI (fun _ => 1) (fun _ _ => false) n.kids))) (fun i _ => n.kids.length - (intOf i).toNat)
 case atStart => exact ⟨0, S, f + 1, s, rfl, Nat.zero_le _, HAT1, Mv.refl _ _ _, rfl, rfl⟩
 case round =>
  clear q0 q1 q2 q3
  obtain ⟨j, S1, f1, s1, rfl, hj, HAT, HMV, HRUN, HLEN⟩ := hrel
  have HB := hid (HMV.out.blk HB1.out hnS hng)
  obtain ⟨q0, q1, q2, q3, _, _, _, _, hg4⟩ := Blk.four HB.out.1
  by_cases c1 : j < n.kids.length
  ·have d1 : decide ((j : Int) < (n.kids.length : Int)) = true := by simp only [decide_eq_true_eq]; omega
   have d1n : decide (j < n.kids.length) = true := by simp only [decide_eq_true_eq]; omega
   have d1' : (j : Int) < (n.kids.length : Int) := by omega
   obtain ⟨g, o, sx, rfl, hg, m0, m1, m2, m3, hrk⟩ := HSL.out.get j c1
   obtain ⟨Ax, capx, rfl⟩ := hrk.slice
   have HRK := hid (hrk.low HAT.out.low)
   have HDX := hid (depth_mem (List.getElem_mem (l := n.kids) (n := j) c1))
   have HP2 := hid (HP1.out.mv HMV.out)
   have a0 := Low.cell HAT.out.low m0
   have a1 := Low.cell HAT.out.low m1
   have a2 := Low.cell HAT.out.low m2
   have a3 := Low.cell HAT.out.low m3
   have hgw : g < wr.heap.size := block_lt_of_cell a0
   clear m0 m1 m2 m3 hrk hg
   have HR2 := hid (show runSegs k.C k.T ((LI (fun _ => 1) (fun _ _ => false) n.kids).drop (j + 1)) p (j + 1) (f1 + segLen (1, false, n.kids[j])) (runRow k.C k.T n.kids[j].kids (p ++ [j]) 0 (f1 + 1 + (false).toNat) s1) = runSegs k.C k.T (LI (fun _ => 1) (fun _ _ => false) n.kids) p 0 (f + 1) s by rw [← HRUN.out, LI_drop _ _ _ _ c1, run_cons])
   have HLX := hid (show f1 + ((1 + 2 * (false).toNat + (rowT n.kids[j].kids).length) + segsLen ((LI (fun _ => 1) (fun _ _ => false) n.kids).drop (j + 1))) = f + 1 + segsLen (LI (fun _ => 1) (fun _ _ => false) n.kids) by rw [← HLEN.out, LI_drop _ _ _ _ c1, segsLen, Tr.segLen_eq])
   obtain ⟨_, b1, _, _, bf⟩ := HAT.out.cells
   have hglt := HAT.out.glt
   have hb0 : (f1 : Int) ≤ 100000 := by have := HLEN.out; have := HF.out; have := HK.out.len; omega
   have hb1 : 0 ≤ (f1 : Int) := by omega
   go_wp2_with fail
   have HNX := hid (HAT.out.next HK.out (f' := f1 + 1) ((f1 : Int) + 1) (by omega))
   refine (slot_any HK.out n j c1 (HI.out n.kids[j] (List.getElem_mem c1)) HNX.out.1 HSL.out (HP2.out.mv HNX.out.2) (by have := HD.out; have := HDX.out; have := HDN.out; omega) false (by have := HLX.out; have := HF.out; simp only [Bool.toNat_false] at *; omega) (by have h1 := HLIM.out; rw [← HR2.out] at h1; exact HK.out.lim.2 _ _ _ _ _ h1)).mono ?_
   rintro _ W7 ⟨rfl, S7, hat, hmv⟩
   have HAT7 := hid hat
   have HMV7 := hid ((HMV.out.trans HNX.out.2).trans hmv)
   clear hat hmv
   clear q0 q1 q2 q3 a0 a1 a2 a3 b1 bf hglt hb0 hb1
   go_wp2_with fail
   go_roundw
   case rel => exact ⟨j + 1, S7, f1 + segLen (1, false, n.kids[j]), _, by go_num, c1, by have := HAT7.out; rw [Tr.segLen_eq, ← Nat.add_assoc, ← Nat.add_assoc]; exact this, HMV7, HR2.out, by rw [Hid, ← HLX.out, Tr.segLen_eq]; omega⟩
   case measure => simp [intOf]; omega
  ·have d1 : decide ((j : Int) < (n.kids.length : Int)) = false := by simp only [decide_eq_false_iff_not]; omega
   have d1n : decide (j < n.kids.length) = false := by simp only [decide_eq_false_iff_not]; omega
   obtain rfl : j = n.kids.length := by omega
   obtain ⟨_, b1, _, _, bf⟩ := HAT.out.cells
   have hglt := HAT.out.glt
   have hb0 : (f1 : Int) ≤ 100000 := by have := HLEN.out; have := HF.out; have := HK.out.len; omega
   have hb1 : 0 ≤ (f1 : Int) := by omega
   have HNX := hid (HAT.out.next HK.out (f' := f1 + 1) ((f1 : Int) + 1) (by omega))
   go_wp2_with fail
   first | go_end0 | refine bodyPost_ret (v := .tuple #[]) (results_none rfl _ _ _) rfl ?_
   refine ⟨rfl, S1, ?_, (HMV1.out.trans HMV.out).trans HNX.out.2⟩
   have := HNX.out.1
   have h1 := HLEN.out
   have h2 := HRUN.out
   rw [LI_end] at h1 h2
   rw [run_nil] at h2
   rw [segsLen, Nat.add_zero] at h1
   rw [← h1, ← h2]
   exact this
end Go.Proofs.YtdacpbdamliafaaGreat

/- The walker's tree at scripts. -/
namespace Go.Proofs.YtdacpbdamliafaaGreat
open Go.RowKit
open Tr (Nd Clo runRow runSegs rowT itemT segs segsLen segLen)
attribute [local go_sem] stillV stillUpon
variable {σ κ : Type}
theorem bgrp_len (a : Nd) (h : a.kids.length ≠ 1) : Tr.bgrp a = true := by
 unfold Tr.bgrp
 split
 ·rename_i x hx; rw [hx] at h; simp at h
 ·rfl
theorem bgrp_one (a x : Nd) (h : a.kids = [x]) : Tr.bgrp a = Tr.scripted x := by unfold Tr.bgrp; rw [h]
set_option maxRecDepth 100000 in
set_option maxHeartbeats 4000000 in
theorem tree_scripts7_more {k : Wk σ κ} (hk : k.Good) (n : Nd) (h7 : (n.kind == 7) = true) (c1 : 0 < n.kids.length) (hx : n.kids[0].kids.length ≠ 1) (hrows : ∀ a ∈ n.kids, k.RowS a) :
  k.TreeAs n 0 (LI scriptK scriptB n.kids) 0 := by
 intro S f s w p v sl h hsl hp hd hf hlim
 have HLIM := hid hlim
 clear hlim
 have hlen := hsl.len
 unfold maxLen at hlen
 obtain ⟨A, cap, rfl⟩ := hsl.slice
 obtain ⟨Ap, capp, rfl⟩ := hp.slice
 have HK := hid hk
 have HAT0 := hid h
 have HP0 := hid hp
 have HSL := hid hsl
 have HI := hid hrows
 have HD := hid hd
 have HF := hid hf
 have HDN := hid (Tr.depth_kids n)
 have hnS : ¬ S w.heap.size := fun e => absurd (h.slt hk _ e) (Nat.lt_irrefl _)
 have hng : w.heap.size ≠ k.g := by have := h.glt; omega
 obtain ⟨g, o, sa, rfl, hg, m0, m1, m2, m3, hrk⟩ := hsl.get 0 c1
 simp only [Nat.zero_mul, Nat.add_zero] at m0 m1 m2 m3
 have HBG := hid (bgrp_len _ hx)
 have hal := hrk.len
 unfold maxLen at hal
 obtain ⟨Ay, capy, rfl⟩ := hrk.slice
 have z1 : ((n.kids[0].kids.length : Int) == (1 : Int)) = false := by rw [beq_eq_false_iff_ne]; omega
 have z1' : ((n.kids[0].kids.length : Int) != (1 : Int)) = true := by rw [bne, z1]; rfl
 have z1n : (n.kids[0].kids.length == 1) = false := by simpa using hx
 have w0 := Low.cell h.low m0
 have w1 := Low.cell h.low m1
 have w2 := Low.cell h.low m2
 have w3 := Low.cell h.low m3
 have hgw0 : g < w.heap.size := block_lt_of_cell w0
 have HX := hid hx
 have HDX0 := hid (depth_mem (List.getElem_mem (l := n.kids) (n := 0) c1))
 have c1' : (0 : Int) < (n.kids.length : Int) := by omega
 have HL0 := hid (show LI scriptK scriptB n.kids = (0, true, n.kids[0]) :: (LI scriptK scriptB n.kids).drop 1 by
  have := LI_drop scriptK scriptB n.kids 0 c1
  rw [List.drop_zero] at this
  rw [← HBG.out]
  exact this)
 clear m0 m1 m2 m3 hrk hg hx
 go_enter Tryz.func99, Tryz.ntmps99
 go_wp2_with fail
 refine forget_world (fun W => Fresh w W ∧ Blk W w.heap.size 24 #[.int .i64 n.kind, .string ⟨n.text.toArray⟩, .int .i64 n.cols, .slice (some ⟨g, o, none⟩) n.kids.length cap] ∧ Blk W (w.heap.size + 1) 24 #[.int .i64 n.kids[0].kind, .string ⟨n.kids[0].text.toArray⟩, .int .i64 n.kids[0].cols, .slice Ay n.kids[0].kids.length capy]) ⟨((Touch.refl _ _).alloc _).alloc _, (Blk.new _ _ _).alloc _, Blk.new2 _ _ _ _⟩ ?_
 rintro W1 ⟨hf1, hb1', hb2'⟩
 have HF1 := hid hf1
 have HAT1 := hid (HAT0.out.fresh HK.out hf1)
 have HMV1 := hid (Mv.fresh (g := k.g) (S := S) hf1)
 have HB1 := hid hb1'
 have HP1 := hid (HP0.out.mv HMV1.out)
 obtain ⟨q0, q1, q2, q3, _, _, _, _, hg4⟩ := Blk.four hb1'
 obtain ⟨r0, r1, r2, r3, _, _, _, _, hg5⟩ := Blk.four hb2'
 clear hf1 hb1' hb2' h hp hsl hd hf w0 w1 w2 w3
 have Gq0 := cell_regrown q0
 have Gq1 := cell_regrown q1
 have Gq2 := cell_regrown q2
 have Gq3 := cell_regrown q3
 have Gr0 := cell_regrown r0
 have Gr1 := cell_regrown r1
 have Gr2 := cell_regrown r2
 have Gr3 := cell_regrown r3
 refine wp_region_mix [([(0, true), (1, true), (2, true), (3, true), (4, true), (5, true), (6, true), (7, true), (8, true), (9, true), (10, true), (11, true), (12, false), (13, true)], 14)] [] (by kernel_rfl) (fun _ _ d _ _ h => by cases d <;> exact h) (by kernel_rfl) ?_
 refine wpMix_seg ?_
 repeat (refine wpSeq_plain rfl (fun K hK => ?_); go_simp; refine hK _ ?_; clear hK K)
 refine wpSeq_lone rfl (fun K hK => ?_)
 go_wp2_with fail
 refine hK _ _ (growing_fresh ((Touch.refl _ _).drewN _)) ?_
 clear hK K
 repeat (refine wpSeq_plain rfl (fun K hK => ?_); go_simp; refine hK _ ?_; clear hK K)
 refine wpSeq_shut rfl (fun K hK => ?_)
 go_wp2_with fail
 have HFL := hid (show f + (0 + 2 * true.toNat + (rowT n.kids[0].kids).length) + segsLen ((LI scriptK scriptB n.kids).drop 1) ≤ k.T.length by
  have h1 := HF.out
  rw [HL0.out, segsLen, Tr.segLen_eq] at h1
  omega)
 refine (slot_any HK.out n 0 c1 (HI.out n.kids[0] (List.getElem_mem c1)) (HAT1.out.fresh HK.out (show Fresh W1 _ from (Touch.refl _ _).drewN _)) HSL.out (HP1.out.mv (Mv.fresh (show Fresh W1 _ from (Touch.refl _ _).drewN _))) (by have := HD.out; have := HDX0.out; have := HDN.out; omega) true (by have := HFL.out; omega) (by have h1 := HLIM.out; rw [HL0.out, run_cons] at h1; exact HK.out.lim.2 _ _ _ _ _ h1)).mono ?_
 rintro _ W7 ⟨rfl, S7, hat, hmv⟩
 have HAT7 := hid hat
 have HMV7 := hid ((Mv.fresh (g := k.g) (S := S) (show Fresh W1 _ from (Touch.refl _ _).drewN _)).trans hmv)
 clear hat hmv q0 q1 q2 q3 r0 r1 r2 r3 Gq0 Gq1 Gq2 Gq3 Gr0 Gr1 Gr2 Gr3 z1 z1' z1n
 have HB7 := hid (HMV7.out.blk HB1.out hnS hng)
 obtain ⟨q0, q1, q2, q3, _, _, _, _, hg7⟩ := Blk.four HB7.out.1
 go_wp2_with fail
 refine wpMix_end ?_
 go_wp2_with fail
 go_loopw [7] (fun i wr => ∃ (j : Nat) (S1 : Nat → Prop) (f1 : Nat) (s1 : σ), i = .int .i64 j ∧ 1 ≤ j ∧ j ≤ n.kids.length ∧ Hid (k.At S1 f1 s1 wr) ∧ Hid (Mv k.g S S1 W1 wr) ∧ Hid (runSegs k.C k.T ((LI scriptK scriptB n.kids).drop j) p j f1 s1 = runSegs k.C k.T (LI scriptK scriptB n.kids) p 0 (f + 0) s) ∧ Hid (f1 + segsLen ((LI scriptK scriptB n.kids).drop j) = f + 0 + segsLen (LI scriptK scriptB n.kids))) (fun i _ => n.kids.length - (intOf i).toNat)
 case atStart => exact ⟨1, S7, f + 2 * true.toNat + (rowT n.kids[0].kids).length, _, rfl, Nat.le_refl _, c1, HAT7, HMV7, by rw [Hid, HL0.out, run_cons, Tr.segLen_eq]; simp only [Nat.zero_add, Nat.add_zero, ← Nat.add_assoc]; rfl, by rw [Hid, HL0.out, segsLen, Tr.segLen_eq]; simp only [List.drop_succ_cons, List.drop_zero]; omega⟩
 case round =>
  clear q0 q1 q2 q3
  obtain ⟨j, S1, f1, s1, rfl, hlow, hj, HAT, HMV, HRUN, HLEN⟩ := hrel
  have HB := hid (HMV.out.blk HB1.out hnS hng)
  obtain ⟨q0, q1, q2, q3, _, _, _, _, hg4⟩ := Blk.four HB.out.1
  by_cases c1 : j < n.kids.length
  ·have d1 : decide ((j : Int) < (n.kids.length : Int)) = true := by simp only [decide_eq_true_eq]; omega
   have d1n : decide (j < n.kids.length) = true := by simp only [decide_eq_true_eq]; omega
   have d1' : (j : Int) < (n.kids.length : Int) := by omega
   obtain ⟨g', o', sx, heq, hg, m0, m1, m2, m3, hrk⟩ := HSL.out.get j c1
   cases heq
   obtain ⟨Ax, capx', rfl⟩ := hrk.slice
   have M0 := hid m0
   have M1 := hid m1
   have M2 := hid m2
   have M3 := hid m3
   have HRK0 := hid hrk
   have HRK := hid (hrk.low HAT.out.low)
   have HDX := hid (depth_mem (List.getElem_mem (l := n.kids) (n := j) c1))
   have HP2 := hid (HP1.out.mv HMV.out)
   have a0 := Low.cell HAT.out.low m0
   have a1 := Low.cell HAT.out.low m1
   have a2 := Low.cell HAT.out.low m2
   have a3 := Low.cell HAT.out.low m3
   have hgw : g < wr.heap.size := block_lt_of_cell a0
   clear m0 m1 m2 m3 hrk hg
   have j0 : ¬ j = 0 := by omega
   have hK1 : scriptK j = 1 := by unfold scriptK; rw [if_neg j0]
   have hB1 : scriptB j n.kids[j] = Tr.grp n.kids[j] := by unfold scriptB; rw [if_neg j0]
   clear j0
   have HR2 := hid (show runSegs k.C k.T ((LI scriptK scriptB n.kids).drop (j + 1)) p (j + 1) (f1 + segLen (1, Tr.grp n.kids[j], n.kids[j])) (runRow k.C k.T n.kids[j].kids (p ++ [j]) 0 (f1 + 1 + (Tr.grp n.kids[j]).toNat) s1) = runSegs k.C k.T (LI scriptK scriptB n.kids) p 0 (f + 0) s by rw [← HRUN.out, LI_drop _ _ _ _ c1, hK1, hB1, run_cons])
   have HLX := hid (show f1 + ((1 + 2 * (Tr.grp n.kids[j]).toNat + (rowT n.kids[j].kids).length) + segsLen ((LI scriptK scriptB n.kids).drop (j + 1))) = f + 0 + segsLen (LI scriptK scriptB n.kids) by rw [← HLEN.out, LI_drop _ _ _ _ c1, hK1, hB1, segsLen, Tr.segLen_eq])
   clear hK1 hB1
   obtain ⟨_, b1, _, _, bf⟩ := HAT.out.cells
   have hglt := HAT.out.glt
   have hb0 : (f1 : Int) ≤ 100000 := by have := HLEN.out; have := HF.out; have := HK.out.len; omega
   have hb1 : 0 ≤ (f1 : Int) := by omega
   have HNX := hid (HAT.out.next HK.out (f' := f1 + 1) ((f1 : Int) + 1) (by omega))
   have HR3 := hid HRK.out
   go_wp2_with fail
   refine forget_world (fun W => k.At S1 (f1 + 1) s1 W ∧ Mv k.g S1 S1 wr W) ⟨HNX.out.1, HNX.out.2⟩ ?_
   rintro W2 ⟨hat2, hmv2⟩
   have HAT2 := hid hat2
   have HMV2 := hid (HMV.out.trans hmv2)
   have HP3 := hid (HP1.out.mv HMV2.out)
   have HB2 := hid (HMV2.out.blk HB1.out hnS hng)
   have HRK2 := hid (HRK0.out.low hat2.low)
   clear b1 bf hglt hb0 hb1 hat2 hmv2 q0 q1 q2 q3
   obtain ⟨q0, q1, q2, q3, _, _, _, _, hg6⟩ := Blk.four HB2.out.1
   have a0' := Low.cell HAT2.out.low M0.out
   have a1' := Low.cell HAT2.out.low M1.out
   have a2' := Low.cell HAT2.out.low M2.out
   have a3' := Low.cell HAT2.out.low M3.out
   clear a0 a1 a2 a3
   have a0 := a0'
   have a1 := a1'
   have a2 := a2'
   have a3 := a3'
   have hgw2 : g < W2.heap.size := block_lt_of_cell a0
   clear a0' a1' a2' a3'
   have g0 := cell_regrown q0
   have g1 := cell_regrown q1
   have g2 := cell_regrown q2
   have g3 := cell_regrown q3
   have h0 := cell_regrown a0
   have h1 := cell_regrown a1
   have h2 := cell_regrown a2
   have h3 := cell_regrown a3
   refine wp_region_mix [([(0, true), (1, true), (2, true), (3, true), (4, true), (5, true), (6, true), (7, true), (8, true), (9, false)], 10)] [] (by kernel_rfl) (fun _ _ d _ _ h => by cases d <;> exact h) (by kernel_rfl) ?_
   refine wpMix_seg ?_
   repeat (refine wpSeq_plain rfl (fun K hK => ?_); go_simp; refine hK _ ?_; clear hK K)
   refine wpSeq_lone rfl (fun K hK => ?_)
   go_wp2_with fail
   refine (wgroup_any n.kids[j] _ _ (HRK2.out.fresh (show Fresh W2 _ from (Touch.refl _ _).drewN _))).mono ?_
   rintro _ W5 ⟨rfl, hf5⟩
   have HF5 := hid (show Fresh W2 W5 from Touch.ofN hf5)
   clear hf5
   go_wp2_with fail
   refine hK _ _ (growing_fresh HF5.out) ?_
   clear hK K
   refine wpSeq_shut rfl (fun K hK => ?_)
   go_wp2_with fail
   refine (slot_any HK.out n j c1 (HI.out n.kids[j] (List.getElem_mem c1)) (HAT2.out.fresh HK.out HF5.out) HSL.out (HP3.out.mv (Mv.fresh HF5.out)) (by have := HD.out; have := HDX.out; have := HDN.out; omega) (Tr.grp n.kids[j]) (by have := HLX.out; have := HF.out; omega) (by have h1 := HLIM.out; rw [← HR2.out] at h1; exact HK.out.lim.2 _ _ _ _ _ h1)).mono ?_
   rintro _ W8 ⟨rfl, S8, hat, hmv⟩
   have HAT8 := hid hat
   have HMV8 := hid ((HMV2.out.trans (Mv.fresh HF5.out)).trans hmv)
   clear hat hmv
   clear q0 q1 q2 q3 a0 a1 a2 a3 g0 g1 g2 g3 h0 h1 h2 h3
   go_wp2_with fail
   refine wpMix_end ?_
   go_wp2_with fail
   go_roundw
   case rel => exact ⟨j + 1, S8, f1 + segLen (1, Tr.grp n.kids[j], n.kids[j]), _, by go_num, by omega, c1, by have := HAT8.out; rw [Tr.segLen_eq, ← Nat.add_assoc, ← Nat.add_assoc]; exact this, HMV8, HR2.out, by rw [Hid, ← HLX.out, Tr.segLen_eq]; omega⟩
   case measure => simp [intOf]; omega
  ·have d1 : decide ((j : Int) < (n.kids.length : Int)) = false := by simp only [decide_eq_false_iff_not]; omega
   have d1n : decide (j < n.kids.length) = false := by simp only [decide_eq_false_iff_not]; omega
   obtain rfl : j = n.kids.length := by omega
   go_wp2_with fail
   first | go_end0 | refine bodyPost_ret (v := .tuple #[]) (results_none rfl _ _ _) rfl ?_
   exact ⟨rfl, S1, by have := HAT.out; have h1 := HLEN.out; have h2 := HRUN.out; rw [LI_end] at h1 h2; rw [run_nil] at h2; rw [segsLen, Nat.add_zero] at h1; rw [h1, h2] at this; exact this, HMV1.out.trans HMV.out⟩
set_option maxRecDepth 100000 in
set_option maxHeartbeats 4000000 in
theorem tree_scripts7_one {k : Wk σ κ} (hk : k.Good) (n : Nd) (h7 : (n.kind == 7) = true) (c1 : 0 < n.kids.length) (x : Nd) (hx : n.kids[0].kids = [x]) (hrows : ∀ a ∈ n.kids, k.RowS a) :
  k.TreeAs n 0 (LI scriptK scriptB n.kids) 0 := by
 intro S f s w p v sl h hsl hp hd hf hlim
 have HLIM := hid hlim
 clear hlim
 have hlen := hsl.len
 unfold maxLen at hlen
 obtain ⟨A, cap, rfl⟩ := hsl.slice
 obtain ⟨Ap, capp, rfl⟩ := hp.slice
 have HK := hid hk
 have HAT0 := hid h
 have HP0 := hid hp
 have HSL := hid hsl
 have HI := hid hrows
 have HD := hid hd
 have HF := hid hf
 have HDN := hid (Tr.depth_kids n)
 have hnS : ¬ S w.heap.size := fun e => absurd (h.slt hk _ e) (Nat.lt_irrefl _)
 have hng : w.heap.size ≠ k.g := by have := h.glt; omega
 obtain ⟨g, o, sa, rfl, hg, m0, m1, m2, m3, hrk⟩ := hsl.get 0 c1
 simp only [Nat.zero_mul, Nat.add_zero] at m0 m1 m2 m3
 have HBG := hid (bgrp_one _ x hx)
 obtain ⟨gx, ox, capx, sx, rfl, x0, x1, x2, x3, hrx⟩ := (show RepL k.W0 [x] sa by rw [← hx]; exact hrk).one
 obtain ⟨Ay, capy, rfl⟩ := hrx.slice
 have xw0 := Low.cell h.low x0
 have xw1 := Low.cell h.low x1
 have xw2 := Low.cell h.low x2
 have xw3 := Low.cell h.low x3
 have hgx : gx < w.heap.size := block_lt_of_cell xw0
 clear x0 x1 x2 x3 hrx
 have w0 := Low.cell h.low m0
 have w1 := Low.cell h.low m1
 have w2 := Low.cell h.low m2
 have w3 := Low.cell h.low m3
 have hgw0 : g < w.heap.size := block_lt_of_cell w0
 have HX := hid hx
 have HDX0 := hid (depth_mem (List.getElem_mem (l := n.kids) (n := 0) c1))
 have c1' : (0 : Int) < (n.kids.length : Int) := by omega
 have HL0 := hid (show LI scriptK scriptB n.kids = (0, (Tr.scripted x), n.kids[0]) :: (LI scriptK scriptB n.kids).drop 1 by
  have := LI_drop scriptK scriptB n.kids 0 c1
  rw [List.drop_zero] at this
  rw [← HBG.out]
  exact this)
 clear m0 m1 m2 m3 hrk hg hx
 go_enter Tryz.func99, Tryz.ntmps99
 go_wp2_with fail
 refine forget_world (fun W => Fresh w W ∧ Blk W w.heap.size 24 #[.int .i64 n.kind, .string ⟨n.text.toArray⟩, .int .i64 n.cols, .slice (some ⟨g, o, none⟩) n.kids.length cap] ∧ Blk W (w.heap.size + 1) 24 #[.int .i64 n.kids[0].kind, .string ⟨n.kids[0].text.toArray⟩, .int .i64 n.kids[0].cols, .slice (some ⟨gx, ox, none⟩) 1 capx]) ⟨((Touch.refl _ _).alloc _).alloc _, (Blk.new _ _ _).alloc _, Blk.new2 _ _ _ _⟩ ?_
 rintro W1 ⟨hf1, hb1', hb2'⟩
 have HF1 := hid hf1
 have HAT1 := hid (HAT0.out.fresh HK.out hf1)
 have HMV1 := hid (Mv.fresh (g := k.g) (S := S) hf1)
 have HB1 := hid hb1'
 have HP1 := hid (HP0.out.mv HMV1.out)
 obtain ⟨q0, q1, q2, q3, _, _, _, _, hg4⟩ := Blk.four hb1'
 obtain ⟨r0, r1, r2, r3, _, _, _, _, hg5⟩ := Blk.four hb2'
 have y0 := hf1.cell xw0 (fun h => h)
 have y1 := hf1.cell xw1 (fun h => h)
 have y2 := hf1.cell xw2 (fun h => h)
 have y3 := hf1.cell xw3 (fun h => h)
 clear xw0 xw1 xw2 xw3
 clear hf1 hb1' hb2' h hp hsl hd hf w0 w1 w2 w3
 have Gq0 := cell_regrown q0
 have Gq1 := cell_regrown q1
 have Gq2 := cell_regrown q2
 have Gq3 := cell_regrown q3
 have Gr0 := cell_regrown r0
 have Gr1 := cell_regrown r1
 have Gr2 := cell_regrown r2
 have Gr3 := cell_regrown r3
 have Gy0 := cell_regrown y0
 have Gy1 := cell_regrown y1
 have Gy2 := cell_regrown y2
 have Gy3 := cell_regrown y3
 refine wp_region_mix [([(0, true), (1, true), (2, true), (3, true), (4, true), (5, true), (6, true), (7, true), (8, true), (9, true), (10, true), (11, true), (12, false), (13, true)], 14)] [] (by kernel_rfl) (fun _ _ d _ _ h => by cases d <;> exact h) (by kernel_rfl) ?_
 refine wpMix_seg ?_
 repeat (refine wpSeq_plain rfl (fun K hK => ?_); go_simp; refine hK _ ?_; clear hK K)
 refine wpSeq_lone rfl (fun K hK => ?_)
 go_wp2_with fail
 refine (wscripted_any x _ _).mono ?_
 rintro _ W5 ⟨rfl, hf5⟩
 have HF5 := hid (show Fresh W1 W5 from Touch.ofN hf5)
 clear hf5
 go_wp2_with fail
 refine hK _ _ (growing_fresh HF5.out) ?_
 clear hK K
 repeat (refine wpSeq_plain rfl (fun K hK => ?_); go_simp; refine hK _ ?_; clear hK K)
 refine wpSeq_shut rfl (fun K hK => ?_)
 go_wp2_with fail
 have HFL := hid (show f + (0 + 2 * (Tr.scripted x).toNat + (rowT n.kids[0].kids).length) + segsLen ((LI scriptK scriptB n.kids).drop 1) ≤ k.T.length by
  have h1 := HF.out
  rw [HL0.out, segsLen, Tr.segLen_eq] at h1
  omega)
 refine (slot_any HK.out n 0 c1 (HI.out n.kids[0] (List.getElem_mem c1)) (HAT1.out.fresh HK.out HF5.out) HSL.out (HP1.out.mv (Mv.fresh HF5.out)) (by have := HD.out; have := HDX0.out; have := HDN.out; omega) (Tr.scripted x) (by have := HFL.out; omega) (by have h1 := HLIM.out; rw [HL0.out, run_cons] at h1; exact HK.out.lim.2 _ _ _ _ _ h1)).mono ?_
 rintro _ W7 ⟨rfl, S7, hat, hmv⟩
 have HAT7 := hid hat
 have HMV7 := hid ((Mv.fresh (g := k.g) (S := S) HF5.out).trans hmv)
 clear hat hmv q0 q1 q2 q3 r0 r1 r2 r3 y0 y1 y2 y3 Gq0 Gq1 Gq2 Gq3 Gr0 Gr1 Gr2 Gr3 Gy0 Gy1 Gy2 Gy3
 have HB7 := hid (HMV7.out.blk HB1.out hnS hng)
 obtain ⟨q0, q1, q2, q3, _, _, _, _, hg7⟩ := Blk.four HB7.out.1
 go_wp2_with fail
 refine wpMix_end ?_
 go_wp2_with fail
 go_loopw [7] (fun i wr => ∃ (j : Nat) (S1 : Nat → Prop) (f1 : Nat) (s1 : σ), i = .int .i64 j ∧ 1 ≤ j ∧ j ≤ n.kids.length ∧ Hid (k.At S1 f1 s1 wr) ∧ Hid (Mv k.g S S1 W1 wr) ∧ Hid (runSegs k.C k.T ((LI scriptK scriptB n.kids).drop j) p j f1 s1 = runSegs k.C k.T (LI scriptK scriptB n.kids) p 0 (f + 0) s) ∧ Hid (f1 + segsLen ((LI scriptK scriptB n.kids).drop j) = f + 0 + segsLen (LI scriptK scriptB n.kids))) (fun i _ => n.kids.length - (intOf i).toNat)
 case atStart => exact ⟨1, S7, f + 2 * (Tr.scripted x).toNat + (rowT n.kids[0].kids).length, _, rfl, Nat.le_refl _, c1, HAT7, HMV7, by rw [Hid, HL0.out, run_cons, Tr.segLen_eq]; simp only [Nat.zero_add, Nat.add_zero, ← Nat.add_assoc]; rfl, by rw [Hid, HL0.out, segsLen, Tr.segLen_eq]; simp only [List.drop_succ_cons, List.drop_zero]; omega⟩
 case round =>
  clear q0 q1 q2 q3
  obtain ⟨j, S1, f1, s1, rfl, hlow, hj, HAT, HMV, HRUN, HLEN⟩ := hrel
  have HB := hid (HMV.out.blk HB1.out hnS hng)
  obtain ⟨q0, q1, q2, q3, _, _, _, _, hg4⟩ := Blk.four HB.out.1
  by_cases c1 : j < n.kids.length
  ·have d1 : decide ((j : Int) < (n.kids.length : Int)) = true := by simp only [decide_eq_true_eq]; omega
   have d1n : decide (j < n.kids.length) = true := by simp only [decide_eq_true_eq]; omega
   have d1' : (j : Int) < (n.kids.length : Int) := by omega
   obtain ⟨g', o', sx, heq, hg, m0, m1, m2, m3, hrk⟩ := HSL.out.get j c1
   cases heq
   obtain ⟨Ax, capx', rfl⟩ := hrk.slice
   have M0 := hid m0
   have M1 := hid m1
   have M2 := hid m2
   have M3 := hid m3
   have HRK0 := hid hrk
   have HRK := hid (hrk.low HAT.out.low)
   have HDX := hid (depth_mem (List.getElem_mem (l := n.kids) (n := j) c1))
   have HP2 := hid (HP1.out.mv HMV.out)
   have a0 := Low.cell HAT.out.low m0
   have a1 := Low.cell HAT.out.low m1
   have a2 := Low.cell HAT.out.low m2
   have a3 := Low.cell HAT.out.low m3
   have hgw : g < wr.heap.size := block_lt_of_cell a0
   clear m0 m1 m2 m3 hrk hg
   have j0 : ¬ j = 0 := by omega
   have hK1 : scriptK j = 1 := by unfold scriptK; rw [if_neg j0]
   have hB1 : scriptB j n.kids[j] = Tr.grp n.kids[j] := by unfold scriptB; rw [if_neg j0]
   clear j0
   have HR2 := hid (show runSegs k.C k.T ((LI scriptK scriptB n.kids).drop (j + 1)) p (j + 1) (f1 + segLen (1, Tr.grp n.kids[j], n.kids[j])) (runRow k.C k.T n.kids[j].kids (p ++ [j]) 0 (f1 + 1 + (Tr.grp n.kids[j]).toNat) s1) = runSegs k.C k.T (LI scriptK scriptB n.kids) p 0 (f + 0) s by rw [← HRUN.out, LI_drop _ _ _ _ c1, hK1, hB1, run_cons])
   have HLX := hid (show f1 + ((1 + 2 * (Tr.grp n.kids[j]).toNat + (rowT n.kids[j].kids).length) + segsLen ((LI scriptK scriptB n.kids).drop (j + 1))) = f + 0 + segsLen (LI scriptK scriptB n.kids) by rw [← HLEN.out, LI_drop _ _ _ _ c1, hK1, hB1, segsLen, Tr.segLen_eq])
   clear hK1 hB1
   obtain ⟨_, b1, _, _, bf⟩ := HAT.out.cells
   have hglt := HAT.out.glt
   have hb0 : (f1 : Int) ≤ 100000 := by have := HLEN.out; have := HF.out; have := HK.out.len; omega
   have hb1 : 0 ≤ (f1 : Int) := by omega
   have HNX := hid (HAT.out.next HK.out (f' := f1 + 1) ((f1 : Int) + 1) (by omega))
   have HR3 := hid HRK.out
   go_wp2_with fail
   refine forget_world (fun W => k.At S1 (f1 + 1) s1 W ∧ Mv k.g S1 S1 wr W) ⟨HNX.out.1, HNX.out.2⟩ ?_
   rintro W2 ⟨hat2, hmv2⟩
   have HAT2 := hid hat2
   have HMV2 := hid (HMV.out.trans hmv2)
   have HP3 := hid (HP1.out.mv HMV2.out)
   have HB2 := hid (HMV2.out.blk HB1.out hnS hng)
   have HRK2 := hid (HRK0.out.low hat2.low)
   clear b1 bf hglt hb0 hb1 hat2 hmv2 q0 q1 q2 q3
   obtain ⟨q0, q1, q2, q3, _, _, _, _, hg6⟩ := Blk.four HB2.out.1
   have a0' := Low.cell HAT2.out.low M0.out
   have a1' := Low.cell HAT2.out.low M1.out
   have a2' := Low.cell HAT2.out.low M2.out
   have a3' := Low.cell HAT2.out.low M3.out
   clear a0 a1 a2 a3
   have a0 := a0'
   have a1 := a1'
   have a2 := a2'
   have a3 := a3'
   have hgw2 : g < W2.heap.size := block_lt_of_cell a0
   clear a0' a1' a2' a3'
   have g0 := cell_regrown q0
   have g1 := cell_regrown q1
   have g2 := cell_regrown q2
   have g3 := cell_regrown q3
   have h0 := cell_regrown a0
   have h1 := cell_regrown a1
   have h2 := cell_regrown a2
   have h3 := cell_regrown a3
   refine wp_region_mix [([(0, true), (1, true), (2, true), (3, true), (4, true), (5, true), (6, true), (7, true), (8, true), (9, false)], 10)] [] (by kernel_rfl) (fun _ _ d _ _ h => by cases d <;> exact h) (by kernel_rfl) ?_
   refine wpMix_seg ?_
   repeat (refine wpSeq_plain rfl (fun K hK => ?_); go_simp; refine hK _ ?_; clear hK K)
   refine wpSeq_lone rfl (fun K hK => ?_)
   go_wp2_with fail
   refine (wgroup_any n.kids[j] _ _ (HRK2.out.fresh (show Fresh W2 _ from (Touch.refl _ _).drewN _))).mono ?_
   rintro _ W5 ⟨rfl, hf5⟩
   have HF5 := hid (show Fresh W2 W5 from Touch.ofN hf5)
   clear hf5
   go_wp2_with fail
   refine hK _ _ (growing_fresh HF5.out) ?_
   clear hK K
   refine wpSeq_shut rfl (fun K hK => ?_)
   go_wp2_with fail
   refine (slot_any HK.out n j c1 (HI.out n.kids[j] (List.getElem_mem c1)) (HAT2.out.fresh HK.out HF5.out) HSL.out (HP3.out.mv (Mv.fresh HF5.out)) (by have := HD.out; have := HDX.out; have := HDN.out; omega) (Tr.grp n.kids[j]) (by have := HLX.out; have := HF.out; omega) (by have h1 := HLIM.out; rw [← HR2.out] at h1; exact HK.out.lim.2 _ _ _ _ _ h1)).mono ?_
   rintro _ W8 ⟨rfl, S8, hat, hmv⟩
   have HAT8 := hid hat
   have HMV8 := hid ((HMV2.out.trans (Mv.fresh HF5.out)).trans hmv)
   clear hat hmv
   clear q0 q1 q2 q3 a0 a1 a2 a3 g0 g1 g2 g3 h0 h1 h2 h3
   go_wp2_with fail
   refine wpMix_end ?_
   go_wp2_with fail
   go_roundw
   case rel => exact ⟨j + 1, S8, f1 + segLen (1, Tr.grp n.kids[j], n.kids[j]), _, by go_num, by omega, c1, by have := HAT8.out; rw [Tr.segLen_eq, ← Nat.add_assoc, ← Nat.add_assoc]; exact this, HMV8, HR2.out, by rw [Hid, ← HLX.out, Tr.segLen_eq]; omega⟩
   case measure => simp [intOf]; omega
  ·have d1 : decide ((j : Int) < (n.kids.length : Int)) = false := by simp only [decide_eq_false_iff_not]; omega
   have d1n : decide (j < n.kids.length) = false := by simp only [decide_eq_false_iff_not]; omega
   obtain rfl : j = n.kids.length := by omega
   go_wp2_with fail
   first | go_end0 | refine bodyPost_ret (v := .tuple #[]) (results_none rfl _ _ _) rfl ?_
   exact ⟨rfl, S1, by have := HAT.out; have h1 := HLEN.out; have h2 := HRUN.out; rw [LI_end] at h1 h2; rw [run_nil] at h2; rw [segsLen, Nat.add_zero] at h1; rw [h1, h2] at this; exact this, HMV1.out.trans HMV.out⟩
set_option maxRecDepth 100000 in
set_option maxHeartbeats 4000000 in
theorem tree_scripts8_more {k : Wk σ κ} (hk : k.Good) (n : Nd) (h7 : (n.kind == 7) = false) (h8 : (n.kind == 8) = true) (c1 : 0 < n.kids.length) (hx : n.kids[0].kids.length ≠ 1) (hrows : ∀ a ∈ n.kids, k.RowS a) :
  k.TreeAs n 0 (LI scriptK scriptB n.kids) 0 := by
 intro S f s w p v sl h hsl hp hd hf hlim
 have HLIM := hid hlim
 clear hlim
 have hlen := hsl.len
 unfold maxLen at hlen
 obtain ⟨A, cap, rfl⟩ := hsl.slice
 obtain ⟨Ap, capp, rfl⟩ := hp.slice
 have HK := hid hk
 have HAT0 := hid h
 have HP0 := hid hp
 have HSL := hid hsl
 have HI := hid hrows
 have HD := hid hd
 have HF := hid hf
 have HDN := hid (Tr.depth_kids n)
 have hnS : ¬ S w.heap.size := fun e => absurd (h.slt hk _ e) (Nat.lt_irrefl _)
 have hng : w.heap.size ≠ k.g := by have := h.glt; omega
 obtain ⟨g, o, sa, rfl, hg, m0, m1, m2, m3, hrk⟩ := hsl.get 0 c1
 simp only [Nat.zero_mul, Nat.add_zero] at m0 m1 m2 m3
 have HBG := hid (bgrp_len _ hx)
 have hal := hrk.len
 unfold maxLen at hal
 obtain ⟨Ay, capy, rfl⟩ := hrk.slice
 have z1 : ((n.kids[0].kids.length : Int) == (1 : Int)) = false := by rw [beq_eq_false_iff_ne]; omega
 have z1' : ((n.kids[0].kids.length : Int) != (1 : Int)) = true := by rw [bne, z1]; rfl
 have z1n : (n.kids[0].kids.length == 1) = false := by simpa using hx
 have w0 := Low.cell h.low m0
 have w1 := Low.cell h.low m1
 have w2 := Low.cell h.low m2
 have w3 := Low.cell h.low m3
 have hgw0 : g < w.heap.size := block_lt_of_cell w0
 have HX := hid hx
 have HDX0 := hid (depth_mem (List.getElem_mem (l := n.kids) (n := 0) c1))
 have c1' : (0 : Int) < (n.kids.length : Int) := by omega
 have HL0 := hid (show LI scriptK scriptB n.kids = (0, true, n.kids[0]) :: (LI scriptK scriptB n.kids).drop 1 by
  have := LI_drop scriptK scriptB n.kids 0 c1
  rw [List.drop_zero] at this
  rw [← HBG.out]
  exact this)
 clear m0 m1 m2 m3 hrk hg hx
 go_enter Tryz.func99, Tryz.ntmps99
 go_wp2_with fail
 refine forget_world (fun W => Fresh w W ∧ Blk W w.heap.size 24 #[.int .i64 n.kind, .string ⟨n.text.toArray⟩, .int .i64 n.cols, .slice (some ⟨g, o, none⟩) n.kids.length cap] ∧ Blk W (w.heap.size + 1) 24 #[.int .i64 n.kids[0].kind, .string ⟨n.kids[0].text.toArray⟩, .int .i64 n.kids[0].cols, .slice Ay n.kids[0].kids.length capy]) ⟨((Touch.refl _ _).alloc _).alloc _, (Blk.new _ _ _).alloc _, Blk.new2 _ _ _ _⟩ ?_
 rintro W1 ⟨hf1, hb1', hb2'⟩
 have HF1 := hid hf1
 have HAT1 := hid (HAT0.out.fresh HK.out hf1)
 have HMV1 := hid (Mv.fresh (g := k.g) (S := S) hf1)
 have HB1 := hid hb1'
 have HP1 := hid (HP0.out.mv HMV1.out)
 obtain ⟨q0, q1, q2, q3, _, _, _, _, hg4⟩ := Blk.four hb1'
 obtain ⟨r0, r1, r2, r3, _, _, _, _, hg5⟩ := Blk.four hb2'
 clear hf1 hb1' hb2' h hp hsl hd hf w0 w1 w2 w3
 have Gq0 := cell_regrown q0
 have Gq1 := cell_regrown q1
 have Gq2 := cell_regrown q2
 have Gq3 := cell_regrown q3
 have Gr0 := cell_regrown r0
 have Gr1 := cell_regrown r1
 have Gr2 := cell_regrown r2
 have Gr3 := cell_regrown r3
 refine wp_region_mix [([(0, true), (1, true), (2, true), (3, true), (4, true), (5, true), (6, true), (7, true), (8, true), (9, true), (10, true), (11, true), (12, false), (13, true)], 14)] [] (by kernel_rfl) (fun _ _ d _ _ h => by cases d <;> exact h) (by kernel_rfl) ?_
 refine wpMix_seg ?_
 repeat (refine wpSeq_plain rfl (fun K hK => ?_); go_simp; refine hK _ ?_; clear hK K)
 refine wpSeq_lone rfl (fun K hK => ?_)
 go_wp2_with fail
 refine hK _ _ (growing_fresh ((Touch.refl _ _).drewN _)) ?_
 clear hK K
 repeat (refine wpSeq_plain rfl (fun K hK => ?_); go_simp; refine hK _ ?_; clear hK K)
 refine wpSeq_shut rfl (fun K hK => ?_)
 go_wp2_with fail
 have HFL := hid (show f + (0 + 2 * true.toNat + (rowT n.kids[0].kids).length) + segsLen ((LI scriptK scriptB n.kids).drop 1) ≤ k.T.length by
  have h1 := HF.out
  rw [HL0.out, segsLen, Tr.segLen_eq] at h1
  omega)
 refine (slot_any HK.out n 0 c1 (HI.out n.kids[0] (List.getElem_mem c1)) (HAT1.out.fresh HK.out (show Fresh W1 _ from (Touch.refl _ _).drewN _)) HSL.out (HP1.out.mv (Mv.fresh (show Fresh W1 _ from (Touch.refl _ _).drewN _))) (by have := HD.out; have := HDX0.out; have := HDN.out; omega) true (by have := HFL.out; omega) (by have h1 := HLIM.out; rw [HL0.out, run_cons] at h1; exact HK.out.lim.2 _ _ _ _ _ h1)).mono ?_
 rintro _ W7 ⟨rfl, S7, hat, hmv⟩
 have HAT7 := hid hat
 have HMV7 := hid ((Mv.fresh (g := k.g) (S := S) (show Fresh W1 _ from (Touch.refl _ _).drewN _)).trans hmv)
 clear hat hmv q0 q1 q2 q3 r0 r1 r2 r3 Gq0 Gq1 Gq2 Gq3 Gr0 Gr1 Gr2 Gr3 z1 z1' z1n
 have HB7 := hid (HMV7.out.blk HB1.out hnS hng)
 obtain ⟨q0, q1, q2, q3, _, _, _, _, hg7⟩ := Blk.four HB7.out.1
 go_wp2_with fail
 refine wpMix_end ?_
 go_wp2_with fail
 go_loopw [7] (fun i wr => ∃ (j : Nat) (S1 : Nat → Prop) (f1 : Nat) (s1 : σ), i = .int .i64 j ∧ 1 ≤ j ∧ j ≤ n.kids.length ∧ Hid (k.At S1 f1 s1 wr) ∧ Hid (Mv k.g S S1 W1 wr) ∧ Hid (runSegs k.C k.T ((LI scriptK scriptB n.kids).drop j) p j f1 s1 = runSegs k.C k.T (LI scriptK scriptB n.kids) p 0 (f + 0) s) ∧ Hid (f1 + segsLen ((LI scriptK scriptB n.kids).drop j) = f + 0 + segsLen (LI scriptK scriptB n.kids))) (fun i _ => n.kids.length - (intOf i).toNat)
 case atStart => exact ⟨1, S7, f + 2 * true.toNat + (rowT n.kids[0].kids).length, _, rfl, Nat.le_refl _, c1, HAT7, HMV7, by rw [Hid, HL0.out, run_cons, Tr.segLen_eq]; simp only [Nat.zero_add, Nat.add_zero, ← Nat.add_assoc]; rfl, by rw [Hid, HL0.out, segsLen, Tr.segLen_eq]; simp only [List.drop_succ_cons, List.drop_zero]; omega⟩
 case round =>
  clear q0 q1 q2 q3
  obtain ⟨j, S1, f1, s1, rfl, hlow, hj, HAT, HMV, HRUN, HLEN⟩ := hrel
  have HB := hid (HMV.out.blk HB1.out hnS hng)
  obtain ⟨q0, q1, q2, q3, _, _, _, _, hg4⟩ := Blk.four HB.out.1
  by_cases c1 : j < n.kids.length
  ·have d1 : decide ((j : Int) < (n.kids.length : Int)) = true := by simp only [decide_eq_true_eq]; omega
   have d1n : decide (j < n.kids.length) = true := by simp only [decide_eq_true_eq]; omega
   have d1' : (j : Int) < (n.kids.length : Int) := by omega
   obtain ⟨g', o', sx, heq, hg, m0, m1, m2, m3, hrk⟩ := HSL.out.get j c1
   cases heq
   obtain ⟨Ax, capx', rfl⟩ := hrk.slice
   have M0 := hid m0
   have M1 := hid m1
   have M2 := hid m2
   have M3 := hid m3
   have HRK0 := hid hrk
   have HRK := hid (hrk.low HAT.out.low)
   have HDX := hid (depth_mem (List.getElem_mem (l := n.kids) (n := j) c1))
   have HP2 := hid (HP1.out.mv HMV.out)
   have a0 := Low.cell HAT.out.low m0
   have a1 := Low.cell HAT.out.low m1
   have a2 := Low.cell HAT.out.low m2
   have a3 := Low.cell HAT.out.low m3
   have hgw : g < wr.heap.size := block_lt_of_cell a0
   clear m0 m1 m2 m3 hrk hg
   have j0 : ¬ j = 0 := by omega
   have hK1 : scriptK j = 1 := by unfold scriptK; rw [if_neg j0]
   have hB1 : scriptB j n.kids[j] = Tr.grp n.kids[j] := by unfold scriptB; rw [if_neg j0]
   clear j0
   have HR2 := hid (show runSegs k.C k.T ((LI scriptK scriptB n.kids).drop (j + 1)) p (j + 1) (f1 + segLen (1, Tr.grp n.kids[j], n.kids[j])) (runRow k.C k.T n.kids[j].kids (p ++ [j]) 0 (f1 + 1 + (Tr.grp n.kids[j]).toNat) s1) = runSegs k.C k.T (LI scriptK scriptB n.kids) p 0 (f + 0) s by rw [← HRUN.out, LI_drop _ _ _ _ c1, hK1, hB1, run_cons])
   have HLX := hid (show f1 + ((1 + 2 * (Tr.grp n.kids[j]).toNat + (rowT n.kids[j].kids).length) + segsLen ((LI scriptK scriptB n.kids).drop (j + 1))) = f + 0 + segsLen (LI scriptK scriptB n.kids) by rw [← HLEN.out, LI_drop _ _ _ _ c1, hK1, hB1, segsLen, Tr.segLen_eq])
   clear hK1 hB1
   obtain ⟨_, b1, _, _, bf⟩ := HAT.out.cells
   have hglt := HAT.out.glt
   have hb0 : (f1 : Int) ≤ 100000 := by have := HLEN.out; have := HF.out; have := HK.out.len; omega
   have hb1 : 0 ≤ (f1 : Int) := by omega
   have HNX := hid (HAT.out.next HK.out (f' := f1 + 1) ((f1 : Int) + 1) (by omega))
   have HR3 := hid HRK.out
   go_wp2_with fail
   refine forget_world (fun W => k.At S1 (f1 + 1) s1 W ∧ Mv k.g S1 S1 wr W) ⟨HNX.out.1, HNX.out.2⟩ ?_
   rintro W2 ⟨hat2, hmv2⟩
   have HAT2 := hid hat2
   have HMV2 := hid (HMV.out.trans hmv2)
   have HP3 := hid (HP1.out.mv HMV2.out)
   have HB2 := hid (HMV2.out.blk HB1.out hnS hng)
   have HRK2 := hid (HRK0.out.low hat2.low)
   clear b1 bf hglt hb0 hb1 hat2 hmv2 q0 q1 q2 q3
   obtain ⟨q0, q1, q2, q3, _, _, _, _, hg6⟩ := Blk.four HB2.out.1
   have a0' := Low.cell HAT2.out.low M0.out
   have a1' := Low.cell HAT2.out.low M1.out
   have a2' := Low.cell HAT2.out.low M2.out
   have a3' := Low.cell HAT2.out.low M3.out
   clear a0 a1 a2 a3
   have a0 := a0'
   have a1 := a1'
   have a2 := a2'
   have a3 := a3'
   have hgw2 : g < W2.heap.size := block_lt_of_cell a0
   clear a0' a1' a2' a3'
   have g0 := cell_regrown q0
   have g1 := cell_regrown q1
   have g2 := cell_regrown q2
   have g3 := cell_regrown q3
   have h0 := cell_regrown a0
   have h1 := cell_regrown a1
   have h2 := cell_regrown a2
   have h3 := cell_regrown a3
   refine wp_region_mix [([(0, true), (1, true), (2, true), (3, true), (4, true), (5, true), (6, true), (7, true), (8, true), (9, false)], 10)] [] (by kernel_rfl) (fun _ _ d _ _ h => by cases d <;> exact h) (by kernel_rfl) ?_
   refine wpMix_seg ?_
   repeat (refine wpSeq_plain rfl (fun K hK => ?_); go_simp; refine hK _ ?_; clear hK K)
   refine wpSeq_lone rfl (fun K hK => ?_)
   go_wp2_with fail
   refine (wgroup_any n.kids[j] _ _ (HRK2.out.fresh (show Fresh W2 _ from (Touch.refl _ _).drewN _))).mono ?_
   rintro _ W5 ⟨rfl, hf5⟩
   have HF5 := hid (show Fresh W2 W5 from Touch.ofN hf5)
   clear hf5
   go_wp2_with fail
   refine hK _ _ (growing_fresh HF5.out) ?_
   clear hK K
   refine wpSeq_shut rfl (fun K hK => ?_)
   go_wp2_with fail
   refine (slot_any HK.out n j c1 (HI.out n.kids[j] (List.getElem_mem c1)) (HAT2.out.fresh HK.out HF5.out) HSL.out (HP3.out.mv (Mv.fresh HF5.out)) (by have := HD.out; have := HDX.out; have := HDN.out; omega) (Tr.grp n.kids[j]) (by have := HLX.out; have := HF.out; omega) (by have h1 := HLIM.out; rw [← HR2.out] at h1; exact HK.out.lim.2 _ _ _ _ _ h1)).mono ?_
   rintro _ W8 ⟨rfl, S8, hat, hmv⟩
   have HAT8 := hid hat
   have HMV8 := hid ((HMV2.out.trans (Mv.fresh HF5.out)).trans hmv)
   clear hat hmv
   clear q0 q1 q2 q3 a0 a1 a2 a3 g0 g1 g2 g3 h0 h1 h2 h3
   go_wp2_with fail
   refine wpMix_end ?_
   go_wp2_with fail
   go_roundw
   case rel => exact ⟨j + 1, S8, f1 + segLen (1, Tr.grp n.kids[j], n.kids[j]), _, by go_num, by omega, c1, by have := HAT8.out; rw [Tr.segLen_eq, ← Nat.add_assoc, ← Nat.add_assoc]; exact this, HMV8, HR2.out, by rw [Hid, ← HLX.out, Tr.segLen_eq]; omega⟩
   case measure => simp [intOf]; omega
  ·have d1 : decide ((j : Int) < (n.kids.length : Int)) = false := by simp only [decide_eq_false_iff_not]; omega
   have d1n : decide (j < n.kids.length) = false := by simp only [decide_eq_false_iff_not]; omega
   obtain rfl : j = n.kids.length := by omega
   go_wp2_with fail
   first | go_end0 | refine bodyPost_ret (v := .tuple #[]) (results_none rfl _ _ _) rfl ?_
   exact ⟨rfl, S1, by have := HAT.out; have h1 := HLEN.out; have h2 := HRUN.out; rw [LI_end] at h1 h2; rw [run_nil] at h2; rw [segsLen, Nat.add_zero] at h1; rw [h1, h2] at this; exact this, HMV1.out.trans HMV.out⟩
set_option maxRecDepth 100000 in
set_option maxHeartbeats 4000000 in
theorem tree_scripts8_one {k : Wk σ κ} (hk : k.Good) (n : Nd) (h7 : (n.kind == 7) = false) (h8 : (n.kind == 8) = true) (c1 : 0 < n.kids.length) (x : Nd) (hx : n.kids[0].kids = [x]) (hrows : ∀ a ∈ n.kids, k.RowS a) :
  k.TreeAs n 0 (LI scriptK scriptB n.kids) 0 := by
 intro S f s w p v sl h hsl hp hd hf hlim
 have HLIM := hid hlim
 clear hlim
 have hlen := hsl.len
 unfold maxLen at hlen
 obtain ⟨A, cap, rfl⟩ := hsl.slice
 obtain ⟨Ap, capp, rfl⟩ := hp.slice
 have HK := hid hk
 have HAT0 := hid h
 have HP0 := hid hp
 have HSL := hid hsl
 have HI := hid hrows
 have HD := hid hd
 have HF := hid hf
 have HDN := hid (Tr.depth_kids n)
 have hnS : ¬ S w.heap.size := fun e => absurd (h.slt hk _ e) (Nat.lt_irrefl _)
 have hng : w.heap.size ≠ k.g := by have := h.glt; omega
 obtain ⟨g, o, sa, rfl, hg, m0, m1, m2, m3, hrk⟩ := hsl.get 0 c1
 simp only [Nat.zero_mul, Nat.add_zero] at m0 m1 m2 m3
 have HBG := hid (bgrp_one _ x hx)
 obtain ⟨gx, ox, capx, sx, rfl, x0, x1, x2, x3, hrx⟩ := (show RepL k.W0 [x] sa by rw [← hx]; exact hrk).one
 obtain ⟨Ay, capy, rfl⟩ := hrx.slice
 have xw0 := Low.cell h.low x0
 have xw1 := Low.cell h.low x1
 have xw2 := Low.cell h.low x2
 have xw3 := Low.cell h.low x3
 have hgx : gx < w.heap.size := block_lt_of_cell xw0
 clear x0 x1 x2 x3 hrx
 have w0 := Low.cell h.low m0
 have w1 := Low.cell h.low m1
 have w2 := Low.cell h.low m2
 have w3 := Low.cell h.low m3
 have hgw0 : g < w.heap.size := block_lt_of_cell w0
 have HX := hid hx
 have HDX0 := hid (depth_mem (List.getElem_mem (l := n.kids) (n := 0) c1))
 have c1' : (0 : Int) < (n.kids.length : Int) := by omega
 have HL0 := hid (show LI scriptK scriptB n.kids = (0, (Tr.scripted x), n.kids[0]) :: (LI scriptK scriptB n.kids).drop 1 by
  have := LI_drop scriptK scriptB n.kids 0 c1
  rw [List.drop_zero] at this
  rw [← HBG.out]
  exact this)
 clear m0 m1 m2 m3 hrk hg hx
 go_enter Tryz.func99, Tryz.ntmps99
 go_wp2_with fail
 refine forget_world (fun W => Fresh w W ∧ Blk W w.heap.size 24 #[.int .i64 n.kind, .string ⟨n.text.toArray⟩, .int .i64 n.cols, .slice (some ⟨g, o, none⟩) n.kids.length cap] ∧ Blk W (w.heap.size + 1) 24 #[.int .i64 n.kids[0].kind, .string ⟨n.kids[0].text.toArray⟩, .int .i64 n.kids[0].cols, .slice (some ⟨gx, ox, none⟩) 1 capx]) ⟨((Touch.refl _ _).alloc _).alloc _, (Blk.new _ _ _).alloc _, Blk.new2 _ _ _ _⟩ ?_
 rintro W1 ⟨hf1, hb1', hb2'⟩
 have HF1 := hid hf1
 have HAT1 := hid (HAT0.out.fresh HK.out hf1)
 have HMV1 := hid (Mv.fresh (g := k.g) (S := S) hf1)
 have HB1 := hid hb1'
 have HP1 := hid (HP0.out.mv HMV1.out)
 obtain ⟨q0, q1, q2, q3, _, _, _, _, hg4⟩ := Blk.four hb1'
 obtain ⟨r0, r1, r2, r3, _, _, _, _, hg5⟩ := Blk.four hb2'
 have y0 := hf1.cell xw0 (fun h => h)
 have y1 := hf1.cell xw1 (fun h => h)
 have y2 := hf1.cell xw2 (fun h => h)
 have y3 := hf1.cell xw3 (fun h => h)
 clear xw0 xw1 xw2 xw3
 clear hf1 hb1' hb2' h hp hsl hd hf w0 w1 w2 w3
 have Gq0 := cell_regrown q0
 have Gq1 := cell_regrown q1
 have Gq2 := cell_regrown q2
 have Gq3 := cell_regrown q3
 have Gr0 := cell_regrown r0
 have Gr1 := cell_regrown r1
 have Gr2 := cell_regrown r2
 have Gr3 := cell_regrown r3
 have Gy0 := cell_regrown y0
 have Gy1 := cell_regrown y1
 have Gy2 := cell_regrown y2
 have Gy3 := cell_regrown y3
 refine wp_region_mix [([(0, true), (1, true), (2, true), (3, true), (4, true), (5, true), (6, true), (7, true), (8, true), (9, true), (10, true), (11, true), (12, false), (13, true)], 14)] [] (by kernel_rfl) (fun _ _ d _ _ h => by cases d <;> exact h) (by kernel_rfl) ?_
 refine wpMix_seg ?_
 repeat (refine wpSeq_plain rfl (fun K hK => ?_); go_simp; refine hK _ ?_; clear hK K)
 refine wpSeq_lone rfl (fun K hK => ?_)
 go_wp2_with fail
 refine (wscripted_any x _ _).mono ?_
 rintro _ W5 ⟨rfl, hf5⟩
 have HF5 := hid (show Fresh W1 W5 from Touch.ofN hf5)
 clear hf5
 go_wp2_with fail
 refine hK _ _ (growing_fresh HF5.out) ?_
 clear hK K
 repeat (refine wpSeq_plain rfl (fun K hK => ?_); go_simp; refine hK _ ?_; clear hK K)
 refine wpSeq_shut rfl (fun K hK => ?_)
 go_wp2_with fail
 have HFL := hid (show f + (0 + 2 * (Tr.scripted x).toNat + (rowT n.kids[0].kids).length) + segsLen ((LI scriptK scriptB n.kids).drop 1) ≤ k.T.length by
  have h1 := HF.out
  rw [HL0.out, segsLen, Tr.segLen_eq] at h1
  omega)
 refine (slot_any HK.out n 0 c1 (HI.out n.kids[0] (List.getElem_mem c1)) (HAT1.out.fresh HK.out HF5.out) HSL.out (HP1.out.mv (Mv.fresh HF5.out)) (by have := HD.out; have := HDX0.out; have := HDN.out; omega) (Tr.scripted x) (by have := HFL.out; omega) (by have h1 := HLIM.out; rw [HL0.out, run_cons] at h1; exact HK.out.lim.2 _ _ _ _ _ h1)).mono ?_
 rintro _ W7 ⟨rfl, S7, hat, hmv⟩
 have HAT7 := hid hat
 have HMV7 := hid ((Mv.fresh (g := k.g) (S := S) HF5.out).trans hmv)
 clear hat hmv q0 q1 q2 q3 r0 r1 r2 r3 y0 y1 y2 y3 Gq0 Gq1 Gq2 Gq3 Gr0 Gr1 Gr2 Gr3 Gy0 Gy1 Gy2 Gy3
 have HB7 := hid (HMV7.out.blk HB1.out hnS hng)
 obtain ⟨q0, q1, q2, q3, _, _, _, _, hg7⟩ := Blk.four HB7.out.1
 go_wp2_with fail
 refine wpMix_end ?_
 go_wp2_with fail
 go_loopw [7] (fun i wr => ∃ (j : Nat) (S1 : Nat → Prop) (f1 : Nat) (s1 : σ), i = .int .i64 j ∧ 1 ≤ j ∧ j ≤ n.kids.length ∧ Hid (k.At S1 f1 s1 wr) ∧ Hid (Mv k.g S S1 W1 wr) ∧ Hid (runSegs k.C k.T ((LI scriptK scriptB n.kids).drop j) p j f1 s1 = runSegs k.C k.T (LI scriptK scriptB n.kids) p 0 (f + 0) s) ∧ Hid (f1 + segsLen ((LI scriptK scriptB n.kids).drop j) = f + 0 + segsLen (LI scriptK scriptB n.kids))) (fun i _ => n.kids.length - (intOf i).toNat)
 case atStart => exact ⟨1, S7, f + 2 * (Tr.scripted x).toNat + (rowT n.kids[0].kids).length, _, rfl, Nat.le_refl _, c1, HAT7, HMV7, by rw [Hid, HL0.out, run_cons, Tr.segLen_eq]; simp only [Nat.zero_add, Nat.add_zero, ← Nat.add_assoc]; rfl, by rw [Hid, HL0.out, segsLen, Tr.segLen_eq]; simp only [List.drop_succ_cons, List.drop_zero]; omega⟩
 case round =>
  clear q0 q1 q2 q3
  obtain ⟨j, S1, f1, s1, rfl, hlow, hj, HAT, HMV, HRUN, HLEN⟩ := hrel
  have HB := hid (HMV.out.blk HB1.out hnS hng)
  obtain ⟨q0, q1, q2, q3, _, _, _, _, hg4⟩ := Blk.four HB.out.1
  by_cases c1 : j < n.kids.length
  ·have d1 : decide ((j : Int) < (n.kids.length : Int)) = true := by simp only [decide_eq_true_eq]; omega
   have d1n : decide (j < n.kids.length) = true := by simp only [decide_eq_true_eq]; omega
   have d1' : (j : Int) < (n.kids.length : Int) := by omega
   obtain ⟨g', o', sx, heq, hg, m0, m1, m2, m3, hrk⟩ := HSL.out.get j c1
   cases heq
   obtain ⟨Ax, capx', rfl⟩ := hrk.slice
   have M0 := hid m0
   have M1 := hid m1
   have M2 := hid m2
   have M3 := hid m3
   have HRK0 := hid hrk
   have HRK := hid (hrk.low HAT.out.low)
   have HDX := hid (depth_mem (List.getElem_mem (l := n.kids) (n := j) c1))
   have HP2 := hid (HP1.out.mv HMV.out)
   have a0 := Low.cell HAT.out.low m0
   have a1 := Low.cell HAT.out.low m1
   have a2 := Low.cell HAT.out.low m2
   have a3 := Low.cell HAT.out.low m3
   have hgw : g < wr.heap.size := block_lt_of_cell a0
   clear m0 m1 m2 m3 hrk hg
   have j0 : ¬ j = 0 := by omega
   have hK1 : scriptK j = 1 := by unfold scriptK; rw [if_neg j0]
   have hB1 : scriptB j n.kids[j] = Tr.grp n.kids[j] := by unfold scriptB; rw [if_neg j0]
   clear j0
   have HR2 := hid (show runSegs k.C k.T ((LI scriptK scriptB n.kids).drop (j + 1)) p (j + 1) (f1 + segLen (1, Tr.grp n.kids[j], n.kids[j])) (runRow k.C k.T n.kids[j].kids (p ++ [j]) 0 (f1 + 1 + (Tr.grp n.kids[j]).toNat) s1) = runSegs k.C k.T (LI scriptK scriptB n.kids) p 0 (f + 0) s by rw [← HRUN.out, LI_drop _ _ _ _ c1, hK1, hB1, run_cons])
   have HLX := hid (show f1 + ((1 + 2 * (Tr.grp n.kids[j]).toNat + (rowT n.kids[j].kids).length) + segsLen ((LI scriptK scriptB n.kids).drop (j + 1))) = f + 0 + segsLen (LI scriptK scriptB n.kids) by rw [← HLEN.out, LI_drop _ _ _ _ c1, hK1, hB1, segsLen, Tr.segLen_eq])
   clear hK1 hB1
   obtain ⟨_, b1, _, _, bf⟩ := HAT.out.cells
   have hglt := HAT.out.glt
   have hb0 : (f1 : Int) ≤ 100000 := by have := HLEN.out; have := HF.out; have := HK.out.len; omega
   have hb1 : 0 ≤ (f1 : Int) := by omega
   have HNX := hid (HAT.out.next HK.out (f' := f1 + 1) ((f1 : Int) + 1) (by omega))
   have HR3 := hid HRK.out
   go_wp2_with fail
   refine forget_world (fun W => k.At S1 (f1 + 1) s1 W ∧ Mv k.g S1 S1 wr W) ⟨HNX.out.1, HNX.out.2⟩ ?_
   rintro W2 ⟨hat2, hmv2⟩
   have HAT2 := hid hat2
   have HMV2 := hid (HMV.out.trans hmv2)
   have HP3 := hid (HP1.out.mv HMV2.out)
   have HB2 := hid (HMV2.out.blk HB1.out hnS hng)
   have HRK2 := hid (HRK0.out.low hat2.low)
   clear b1 bf hglt hb0 hb1 hat2 hmv2 q0 q1 q2 q3
   obtain ⟨q0, q1, q2, q3, _, _, _, _, hg6⟩ := Blk.four HB2.out.1
   have a0' := Low.cell HAT2.out.low M0.out
   have a1' := Low.cell HAT2.out.low M1.out
   have a2' := Low.cell HAT2.out.low M2.out
   have a3' := Low.cell HAT2.out.low M3.out
   clear a0 a1 a2 a3
   have a0 := a0'
   have a1 := a1'
   have a2 := a2'
   have a3 := a3'
   have hgw2 : g < W2.heap.size := block_lt_of_cell a0
   clear a0' a1' a2' a3'
   have g0 := cell_regrown q0
   have g1 := cell_regrown q1
   have g2 := cell_regrown q2
   have g3 := cell_regrown q3
   have h0 := cell_regrown a0
   have h1 := cell_regrown a1
   have h2 := cell_regrown a2
   have h3 := cell_regrown a3
   refine wp_region_mix [([(0, true), (1, true), (2, true), (3, true), (4, true), (5, true), (6, true), (7, true), (8, true), (9, false)], 10)] [] (by kernel_rfl) (fun _ _ d _ _ h => by cases d <;> exact h) (by kernel_rfl) ?_
   refine wpMix_seg ?_
   repeat (refine wpSeq_plain rfl (fun K hK => ?_); go_simp; refine hK _ ?_; clear hK K)
   refine wpSeq_lone rfl (fun K hK => ?_)
   go_wp2_with fail
   refine (wgroup_any n.kids[j] _ _ (HRK2.out.fresh (show Fresh W2 _ from (Touch.refl _ _).drewN _))).mono ?_
   rintro _ W5 ⟨rfl, hf5⟩
   have HF5 := hid (show Fresh W2 W5 from Touch.ofN hf5)
   clear hf5
   go_wp2_with fail
   refine hK _ _ (growing_fresh HF5.out) ?_
   clear hK K
   refine wpSeq_shut rfl (fun K hK => ?_)
   go_wp2_with fail
   refine (slot_any HK.out n j c1 (HI.out n.kids[j] (List.getElem_mem c1)) (HAT2.out.fresh HK.out HF5.out) HSL.out (HP3.out.mv (Mv.fresh HF5.out)) (by have := HD.out; have := HDX.out; have := HDN.out; omega) (Tr.grp n.kids[j]) (by have := HLX.out; have := HF.out; omega) (by have h1 := HLIM.out; rw [← HR2.out] at h1; exact HK.out.lim.2 _ _ _ _ _ h1)).mono ?_
   rintro _ W8 ⟨rfl, S8, hat, hmv⟩
   have HAT8 := hid hat
   have HMV8 := hid ((HMV2.out.trans (Mv.fresh HF5.out)).trans hmv)
   clear hat hmv
   clear q0 q1 q2 q3 a0 a1 a2 a3 g0 g1 g2 g3 h0 h1 h2 h3
   go_wp2_with fail
   refine wpMix_end ?_
   go_wp2_with fail
   go_roundw
   case rel => exact ⟨j + 1, S8, f1 + segLen (1, Tr.grp n.kids[j], n.kids[j]), _, by go_num, by omega, c1, by have := HAT8.out; rw [Tr.segLen_eq, ← Nat.add_assoc, ← Nat.add_assoc]; exact this, HMV8, HR2.out, by rw [Hid, ← HLX.out, Tr.segLen_eq]; omega⟩
   case measure => simp [intOf]; omega
  ·have d1 : decide ((j : Int) < (n.kids.length : Int)) = false := by simp only [decide_eq_false_iff_not]; omega
   have d1n : decide (j < n.kids.length) = false := by simp only [decide_eq_false_iff_not]; omega
   obtain rfl : j = n.kids.length := by omega
   go_wp2_with fail
   first | go_end0 | refine bodyPost_ret (v := .tuple #[]) (results_none rfl _ _ _) rfl ?_
   exact ⟨rfl, S1, by have := HAT.out; have h1 := HLEN.out; have h2 := HRUN.out; rw [LI_end] at h1 h2; rw [run_nil] at h2; rw [segsLen, Nat.add_zero] at h1; rw [h1, h2] at this; exact this, HMV1.out.trans HMV.out⟩
set_option maxRecDepth 100000 in
set_option maxHeartbeats 4000000 in
theorem tree_scripts9_more {k : Wk σ κ} (hk : k.Good) (n : Nd) (h7 : (n.kind == 7) = false) (h8 : (n.kind == 8) = false) (h9 : (n.kind == 9) = true) (c1 : 0 < n.kids.length) (hx : n.kids[0].kids.length ≠ 1) (hrows : ∀ a ∈ n.kids, k.RowS a) :
  k.TreeAs n 0 (LI scriptK scriptB n.kids) 0 := by
 intro S f s w p v sl h hsl hp hd hf hlim
 have HLIM := hid hlim
 clear hlim
 have hlen := hsl.len
 unfold maxLen at hlen
 obtain ⟨A, cap, rfl⟩ := hsl.slice
 obtain ⟨Ap, capp, rfl⟩ := hp.slice
 have HK := hid hk
 have HAT0 := hid h
 have HP0 := hid hp
 have HSL := hid hsl
 have HI := hid hrows
 have HD := hid hd
 have HF := hid hf
 have HDN := hid (Tr.depth_kids n)
 have hnS : ¬ S w.heap.size := fun e => absurd (h.slt hk _ e) (Nat.lt_irrefl _)
 have hng : w.heap.size ≠ k.g := by have := h.glt; omega
 obtain ⟨g, o, sa, rfl, hg, m0, m1, m2, m3, hrk⟩ := hsl.get 0 c1
 simp only [Nat.zero_mul, Nat.add_zero] at m0 m1 m2 m3
 have HBG := hid (bgrp_len _ hx)
 have hal := hrk.len
 unfold maxLen at hal
 obtain ⟨Ay, capy, rfl⟩ := hrk.slice
 have z1 : ((n.kids[0].kids.length : Int) == (1 : Int)) = false := by rw [beq_eq_false_iff_ne]; omega
 have z1' : ((n.kids[0].kids.length : Int) != (1 : Int)) = true := by rw [bne, z1]; rfl
 have z1n : (n.kids[0].kids.length == 1) = false := by simpa using hx
 have w0 := Low.cell h.low m0
 have w1 := Low.cell h.low m1
 have w2 := Low.cell h.low m2
 have w3 := Low.cell h.low m3
 have hgw0 : g < w.heap.size := block_lt_of_cell w0
 have HX := hid hx
 have HDX0 := hid (depth_mem (List.getElem_mem (l := n.kids) (n := 0) c1))
 have c1' : (0 : Int) < (n.kids.length : Int) := by omega
 have HL0 := hid (show LI scriptK scriptB n.kids = (0, true, n.kids[0]) :: (LI scriptK scriptB n.kids).drop 1 by
  have := LI_drop scriptK scriptB n.kids 0 c1
  rw [List.drop_zero] at this
  rw [← HBG.out]
  exact this)
 clear m0 m1 m2 m3 hrk hg hx
 go_enter Tryz.func99, Tryz.ntmps99
 go_wp2_with fail
 refine forget_world (fun W => Fresh w W ∧ Blk W w.heap.size 24 #[.int .i64 n.kind, .string ⟨n.text.toArray⟩, .int .i64 n.cols, .slice (some ⟨g, o, none⟩) n.kids.length cap] ∧ Blk W (w.heap.size + 1) 24 #[.int .i64 n.kids[0].kind, .string ⟨n.kids[0].text.toArray⟩, .int .i64 n.kids[0].cols, .slice Ay n.kids[0].kids.length capy]) ⟨((Touch.refl _ _).alloc _).alloc _, (Blk.new _ _ _).alloc _, Blk.new2 _ _ _ _⟩ ?_
 rintro W1 ⟨hf1, hb1', hb2'⟩
 have HF1 := hid hf1
 have HAT1 := hid (HAT0.out.fresh HK.out hf1)
 have HMV1 := hid (Mv.fresh (g := k.g) (S := S) hf1)
 have HB1 := hid hb1'
 have HP1 := hid (HP0.out.mv HMV1.out)
 obtain ⟨q0, q1, q2, q3, _, _, _, _, hg4⟩ := Blk.four hb1'
 obtain ⟨r0, r1, r2, r3, _, _, _, _, hg5⟩ := Blk.four hb2'
 clear hf1 hb1' hb2' h hp hsl hd hf w0 w1 w2 w3
 have Gq0 := cell_regrown q0
 have Gq1 := cell_regrown q1
 have Gq2 := cell_regrown q2
 have Gq3 := cell_regrown q3
 have Gr0 := cell_regrown r0
 have Gr1 := cell_regrown r1
 have Gr2 := cell_regrown r2
 have Gr3 := cell_regrown r3
 refine wp_region_mix [([(0, true), (1, true), (2, true), (3, true), (4, true), (5, true), (6, true), (7, true), (8, true), (9, true), (10, true), (11, true), (12, false), (13, true)], 14)] [] (by kernel_rfl) (fun _ _ d _ _ h => by cases d <;> exact h) (by kernel_rfl) ?_
 refine wpMix_seg ?_
 repeat (refine wpSeq_plain rfl (fun K hK => ?_); go_simp; refine hK _ ?_; clear hK K)
 refine wpSeq_lone rfl (fun K hK => ?_)
 go_wp2_with fail
 refine hK _ _ (growing_fresh ((Touch.refl _ _).drewN _)) ?_
 clear hK K
 repeat (refine wpSeq_plain rfl (fun K hK => ?_); go_simp; refine hK _ ?_; clear hK K)
 refine wpSeq_shut rfl (fun K hK => ?_)
 go_wp2_with fail
 have HFL := hid (show f + (0 + 2 * true.toNat + (rowT n.kids[0].kids).length) + segsLen ((LI scriptK scriptB n.kids).drop 1) ≤ k.T.length by
  have h1 := HF.out
  rw [HL0.out, segsLen, Tr.segLen_eq] at h1
  omega)
 refine (slot_any HK.out n 0 c1 (HI.out n.kids[0] (List.getElem_mem c1)) (HAT1.out.fresh HK.out (show Fresh W1 _ from (Touch.refl _ _).drewN _)) HSL.out (HP1.out.mv (Mv.fresh (show Fresh W1 _ from (Touch.refl _ _).drewN _))) (by have := HD.out; have := HDX0.out; have := HDN.out; omega) true (by have := HFL.out; omega) (by have h1 := HLIM.out; rw [HL0.out, run_cons] at h1; exact HK.out.lim.2 _ _ _ _ _ h1)).mono ?_
 rintro _ W7 ⟨rfl, S7, hat, hmv⟩
 have HAT7 := hid hat
 have HMV7 := hid ((Mv.fresh (g := k.g) (S := S) (show Fresh W1 _ from (Touch.refl _ _).drewN _)).trans hmv)
 clear hat hmv q0 q1 q2 q3 r0 r1 r2 r3 Gq0 Gq1 Gq2 Gq3 Gr0 Gr1 Gr2 Gr3 z1 z1' z1n
 have HB7 := hid (HMV7.out.blk HB1.out hnS hng)
 obtain ⟨q0, q1, q2, q3, _, _, _, _, hg7⟩ := Blk.four HB7.out.1
 go_wp2_with fail
 refine wpMix_end ?_
 go_wp2_with fail
 go_loopw [7] (fun i wr => ∃ (j : Nat) (S1 : Nat → Prop) (f1 : Nat) (s1 : σ), i = .int .i64 j ∧ 1 ≤ j ∧ j ≤ n.kids.length ∧ Hid (k.At S1 f1 s1 wr) ∧ Hid (Mv k.g S S1 W1 wr) ∧ Hid (runSegs k.C k.T ((LI scriptK scriptB n.kids).drop j) p j f1 s1 = runSegs k.C k.T (LI scriptK scriptB n.kids) p 0 (f + 0) s) ∧ Hid (f1 + segsLen ((LI scriptK scriptB n.kids).drop j) = f + 0 + segsLen (LI scriptK scriptB n.kids))) (fun i _ => n.kids.length - (intOf i).toNat)
 case atStart => exact ⟨1, S7, f + 2 * true.toNat + (rowT n.kids[0].kids).length, _, rfl, Nat.le_refl _, c1, HAT7, HMV7, by rw [Hid, HL0.out, run_cons, Tr.segLen_eq]; simp only [Nat.zero_add, Nat.add_zero, ← Nat.add_assoc]; rfl, by rw [Hid, HL0.out, segsLen, Tr.segLen_eq]; simp only [List.drop_succ_cons, List.drop_zero]; omega⟩
 case round =>
  clear q0 q1 q2 q3
  obtain ⟨j, S1, f1, s1, rfl, hlow, hj, HAT, HMV, HRUN, HLEN⟩ := hrel
  have HB := hid (HMV.out.blk HB1.out hnS hng)
  obtain ⟨q0, q1, q2, q3, _, _, _, _, hg4⟩ := Blk.four HB.out.1
  by_cases c1 : j < n.kids.length
  ·have d1 : decide ((j : Int) < (n.kids.length : Int)) = true := by simp only [decide_eq_true_eq]; omega
   have d1n : decide (j < n.kids.length) = true := by simp only [decide_eq_true_eq]; omega
   have d1' : (j : Int) < (n.kids.length : Int) := by omega
   obtain ⟨g', o', sx, heq, hg, m0, m1, m2, m3, hrk⟩ := HSL.out.get j c1
   cases heq
   obtain ⟨Ax, capx', rfl⟩ := hrk.slice
   have M0 := hid m0
   have M1 := hid m1
   have M2 := hid m2
   have M3 := hid m3
   have HRK0 := hid hrk
   have HRK := hid (hrk.low HAT.out.low)
   have HDX := hid (depth_mem (List.getElem_mem (l := n.kids) (n := j) c1))
   have HP2 := hid (HP1.out.mv HMV.out)
   have a0 := Low.cell HAT.out.low m0
   have a1 := Low.cell HAT.out.low m1
   have a2 := Low.cell HAT.out.low m2
   have a3 := Low.cell HAT.out.low m3
   have hgw : g < wr.heap.size := block_lt_of_cell a0
   clear m0 m1 m2 m3 hrk hg
   have j0 : ¬ j = 0 := by omega
   have hK1 : scriptK j = 1 := by unfold scriptK; rw [if_neg j0]
   have hB1 : scriptB j n.kids[j] = Tr.grp n.kids[j] := by unfold scriptB; rw [if_neg j0]
   clear j0
   have HR2 := hid (show runSegs k.C k.T ((LI scriptK scriptB n.kids).drop (j + 1)) p (j + 1) (f1 + segLen (1, Tr.grp n.kids[j], n.kids[j])) (runRow k.C k.T n.kids[j].kids (p ++ [j]) 0 (f1 + 1 + (Tr.grp n.kids[j]).toNat) s1) = runSegs k.C k.T (LI scriptK scriptB n.kids) p 0 (f + 0) s by rw [← HRUN.out, LI_drop _ _ _ _ c1, hK1, hB1, run_cons])
   have HLX := hid (show f1 + ((1 + 2 * (Tr.grp n.kids[j]).toNat + (rowT n.kids[j].kids).length) + segsLen ((LI scriptK scriptB n.kids).drop (j + 1))) = f + 0 + segsLen (LI scriptK scriptB n.kids) by rw [← HLEN.out, LI_drop _ _ _ _ c1, hK1, hB1, segsLen, Tr.segLen_eq])
   clear hK1 hB1
   obtain ⟨_, b1, _, _, bf⟩ := HAT.out.cells
   have hglt := HAT.out.glt
   have hb0 : (f1 : Int) ≤ 100000 := by have := HLEN.out; have := HF.out; have := HK.out.len; omega
   have hb1 : 0 ≤ (f1 : Int) := by omega
   have HNX := hid (HAT.out.next HK.out (f' := f1 + 1) ((f1 : Int) + 1) (by omega))
   have HR3 := hid HRK.out
   go_wp2_with fail
   refine forget_world (fun W => k.At S1 (f1 + 1) s1 W ∧ Mv k.g S1 S1 wr W) ⟨HNX.out.1, HNX.out.2⟩ ?_
   rintro W2 ⟨hat2, hmv2⟩
   have HAT2 := hid hat2
   have HMV2 := hid (HMV.out.trans hmv2)
   have HP3 := hid (HP1.out.mv HMV2.out)
   have HB2 := hid (HMV2.out.blk HB1.out hnS hng)
   have HRK2 := hid (HRK0.out.low hat2.low)
   clear b1 bf hglt hb0 hb1 hat2 hmv2 q0 q1 q2 q3
   obtain ⟨q0, q1, q2, q3, _, _, _, _, hg6⟩ := Blk.four HB2.out.1
   have a0' := Low.cell HAT2.out.low M0.out
   have a1' := Low.cell HAT2.out.low M1.out
   have a2' := Low.cell HAT2.out.low M2.out
   have a3' := Low.cell HAT2.out.low M3.out
   clear a0 a1 a2 a3
   have a0 := a0'
   have a1 := a1'
   have a2 := a2'
   have a3 := a3'
   have hgw2 : g < W2.heap.size := block_lt_of_cell a0
   clear a0' a1' a2' a3'
   have g0 := cell_regrown q0
   have g1 := cell_regrown q1
   have g2 := cell_regrown q2
   have g3 := cell_regrown q3
   have h0 := cell_regrown a0
   have h1 := cell_regrown a1
   have h2 := cell_regrown a2
   have h3 := cell_regrown a3
   refine wp_region_mix [([(0, true), (1, true), (2, true), (3, true), (4, true), (5, true), (6, true), (7, true), (8, true), (9, false)], 10)] [] (by kernel_rfl) (fun _ _ d _ _ h => by cases d <;> exact h) (by kernel_rfl) ?_
   refine wpMix_seg ?_
   repeat (refine wpSeq_plain rfl (fun K hK => ?_); go_simp; refine hK _ ?_; clear hK K)
   refine wpSeq_lone rfl (fun K hK => ?_)
   go_wp2_with fail
   refine (wgroup_any n.kids[j] _ _ (HRK2.out.fresh (show Fresh W2 _ from (Touch.refl _ _).drewN _))).mono ?_
   rintro _ W5 ⟨rfl, hf5⟩
   have HF5 := hid (show Fresh W2 W5 from Touch.ofN hf5)
   clear hf5
   go_wp2_with fail
   refine hK _ _ (growing_fresh HF5.out) ?_
   clear hK K
   refine wpSeq_shut rfl (fun K hK => ?_)
   go_wp2_with fail
   refine (slot_any HK.out n j c1 (HI.out n.kids[j] (List.getElem_mem c1)) (HAT2.out.fresh HK.out HF5.out) HSL.out (HP3.out.mv (Mv.fresh HF5.out)) (by have := HD.out; have := HDX.out; have := HDN.out; omega) (Tr.grp n.kids[j]) (by have := HLX.out; have := HF.out; omega) (by have h1 := HLIM.out; rw [← HR2.out] at h1; exact HK.out.lim.2 _ _ _ _ _ h1)).mono ?_
   rintro _ W8 ⟨rfl, S8, hat, hmv⟩
   have HAT8 := hid hat
   have HMV8 := hid ((HMV2.out.trans (Mv.fresh HF5.out)).trans hmv)
   clear hat hmv
   clear q0 q1 q2 q3 a0 a1 a2 a3 g0 g1 g2 g3 h0 h1 h2 h3
   go_wp2_with fail
   refine wpMix_end ?_
   go_wp2_with fail
   go_roundw
   case rel => exact ⟨j + 1, S8, f1 + segLen (1, Tr.grp n.kids[j], n.kids[j]), _, by go_num, by omega, c1, by have := HAT8.out; rw [Tr.segLen_eq, ← Nat.add_assoc, ← Nat.add_assoc]; exact this, HMV8, HR2.out, by rw [Hid, ← HLX.out, Tr.segLen_eq]; omega⟩
   case measure => simp [intOf]; omega
  ·have d1 : decide ((j : Int) < (n.kids.length : Int)) = false := by simp only [decide_eq_false_iff_not]; omega
   have d1n : decide (j < n.kids.length) = false := by simp only [decide_eq_false_iff_not]; omega
   obtain rfl : j = n.kids.length := by omega
   go_wp2_with fail
   first | go_end0 | refine bodyPost_ret (v := .tuple #[]) (results_none rfl _ _ _) rfl ?_
   exact ⟨rfl, S1, by have := HAT.out; have h1 := HLEN.out; have h2 := HRUN.out; rw [LI_end] at h1 h2; rw [run_nil] at h2; rw [segsLen, Nat.add_zero] at h1; rw [h1, h2] at this; exact this, HMV1.out.trans HMV.out⟩
set_option maxRecDepth 100000 in
set_option maxHeartbeats 4000000 in
theorem tree_scripts9_one {k : Wk σ κ} (hk : k.Good) (n : Nd) (h7 : (n.kind == 7) = false) (h8 : (n.kind == 8) = false) (h9 : (n.kind == 9) = true) (c1 : 0 < n.kids.length) (x : Nd) (hx : n.kids[0].kids = [x]) (hrows : ∀ a ∈ n.kids, k.RowS a) :
  k.TreeAs n 0 (LI scriptK scriptB n.kids) 0 := by
 intro S f s w p v sl h hsl hp hd hf hlim
 have HLIM := hid hlim
 clear hlim
 have hlen := hsl.len
 unfold maxLen at hlen
 obtain ⟨A, cap, rfl⟩ := hsl.slice
 obtain ⟨Ap, capp, rfl⟩ := hp.slice
 have HK := hid hk
 have HAT0 := hid h
 have HP0 := hid hp
 have HSL := hid hsl
 have HI := hid hrows
 have HD := hid hd
 have HF := hid hf
 have HDN := hid (Tr.depth_kids n)
 have hnS : ¬ S w.heap.size := fun e => absurd (h.slt hk _ e) (Nat.lt_irrefl _)
 have hng : w.heap.size ≠ k.g := by have := h.glt; omega
 obtain ⟨g, o, sa, rfl, hg, m0, m1, m2, m3, hrk⟩ := hsl.get 0 c1
 simp only [Nat.zero_mul, Nat.add_zero] at m0 m1 m2 m3
 have HBG := hid (bgrp_one _ x hx)
 obtain ⟨gx, ox, capx, sx, rfl, x0, x1, x2, x3, hrx⟩ := (show RepL k.W0 [x] sa by rw [← hx]; exact hrk).one
 obtain ⟨Ay, capy, rfl⟩ := hrx.slice
 have xw0 := Low.cell h.low x0
 have xw1 := Low.cell h.low x1
 have xw2 := Low.cell h.low x2
 have xw3 := Low.cell h.low x3
 have hgx : gx < w.heap.size := block_lt_of_cell xw0
 clear x0 x1 x2 x3 hrx
 have w0 := Low.cell h.low m0
 have w1 := Low.cell h.low m1
 have w2 := Low.cell h.low m2
 have w3 := Low.cell h.low m3
 have hgw0 : g < w.heap.size := block_lt_of_cell w0
 have HX := hid hx
 have HDX0 := hid (depth_mem (List.getElem_mem (l := n.kids) (n := 0) c1))
 have c1' : (0 : Int) < (n.kids.length : Int) := by omega
 have HL0 := hid (show LI scriptK scriptB n.kids = (0, (Tr.scripted x), n.kids[0]) :: (LI scriptK scriptB n.kids).drop 1 by
  have := LI_drop scriptK scriptB n.kids 0 c1
  rw [List.drop_zero] at this
  rw [← HBG.out]
  exact this)
 clear m0 m1 m2 m3 hrk hg hx
 go_enter Tryz.func99, Tryz.ntmps99
 go_wp2_with fail
 refine forget_world (fun W => Fresh w W ∧ Blk W w.heap.size 24 #[.int .i64 n.kind, .string ⟨n.text.toArray⟩, .int .i64 n.cols, .slice (some ⟨g, o, none⟩) n.kids.length cap] ∧ Blk W (w.heap.size + 1) 24 #[.int .i64 n.kids[0].kind, .string ⟨n.kids[0].text.toArray⟩, .int .i64 n.kids[0].cols, .slice (some ⟨gx, ox, none⟩) 1 capx]) ⟨((Touch.refl _ _).alloc _).alloc _, (Blk.new _ _ _).alloc _, Blk.new2 _ _ _ _⟩ ?_
 rintro W1 ⟨hf1, hb1', hb2'⟩
 have HF1 := hid hf1
 have HAT1 := hid (HAT0.out.fresh HK.out hf1)
 have HMV1 := hid (Mv.fresh (g := k.g) (S := S) hf1)
 have HB1 := hid hb1'
 have HP1 := hid (HP0.out.mv HMV1.out)
 obtain ⟨q0, q1, q2, q3, _, _, _, _, hg4⟩ := Blk.four hb1'
 obtain ⟨r0, r1, r2, r3, _, _, _, _, hg5⟩ := Blk.four hb2'
 have y0 := hf1.cell xw0 (fun h => h)
 have y1 := hf1.cell xw1 (fun h => h)
 have y2 := hf1.cell xw2 (fun h => h)
 have y3 := hf1.cell xw3 (fun h => h)
 clear xw0 xw1 xw2 xw3
 clear hf1 hb1' hb2' h hp hsl hd hf w0 w1 w2 w3
 have Gq0 := cell_regrown q0
 have Gq1 := cell_regrown q1
 have Gq2 := cell_regrown q2
 have Gq3 := cell_regrown q3
 have Gr0 := cell_regrown r0
 have Gr1 := cell_regrown r1
 have Gr2 := cell_regrown r2
 have Gr3 := cell_regrown r3
 have Gy0 := cell_regrown y0
 have Gy1 := cell_regrown y1
 have Gy2 := cell_regrown y2
 have Gy3 := cell_regrown y3
 refine wp_region_mix [([(0, true), (1, true), (2, true), (3, true), (4, true), (5, true), (6, true), (7, true), (8, true), (9, true), (10, true), (11, true), (12, false), (13, true)], 14)] [] (by kernel_rfl) (fun _ _ d _ _ h => by cases d <;> exact h) (by kernel_rfl) ?_
 refine wpMix_seg ?_
 repeat (refine wpSeq_plain rfl (fun K hK => ?_); go_simp; refine hK _ ?_; clear hK K)
 refine wpSeq_lone rfl (fun K hK => ?_)
 go_wp2_with fail
 refine (wscripted_any x _ _).mono ?_
 rintro _ W5 ⟨rfl, hf5⟩
 have HF5 := hid (show Fresh W1 W5 from Touch.ofN hf5)
 clear hf5
 go_wp2_with fail
 refine hK _ _ (growing_fresh HF5.out) ?_
 clear hK K
 repeat (refine wpSeq_plain rfl (fun K hK => ?_); go_simp; refine hK _ ?_; clear hK K)
 refine wpSeq_shut rfl (fun K hK => ?_)
 go_wp2_with fail
 have HFL := hid (show f + (0 + 2 * (Tr.scripted x).toNat + (rowT n.kids[0].kids).length) + segsLen ((LI scriptK scriptB n.kids).drop 1) ≤ k.T.length by
  have h1 := HF.out
  rw [HL0.out, segsLen, Tr.segLen_eq] at h1
  omega)
 refine (slot_any HK.out n 0 c1 (HI.out n.kids[0] (List.getElem_mem c1)) (HAT1.out.fresh HK.out HF5.out) HSL.out (HP1.out.mv (Mv.fresh HF5.out)) (by have := HD.out; have := HDX0.out; have := HDN.out; omega) (Tr.scripted x) (by have := HFL.out; omega) (by have h1 := HLIM.out; rw [HL0.out, run_cons] at h1; exact HK.out.lim.2 _ _ _ _ _ h1)).mono ?_
 rintro _ W7 ⟨rfl, S7, hat, hmv⟩
 have HAT7 := hid hat
 have HMV7 := hid ((Mv.fresh (g := k.g) (S := S) HF5.out).trans hmv)
 clear hat hmv q0 q1 q2 q3 r0 r1 r2 r3 y0 y1 y2 y3 Gq0 Gq1 Gq2 Gq3 Gr0 Gr1 Gr2 Gr3 Gy0 Gy1 Gy2 Gy3
 have HB7 := hid (HMV7.out.blk HB1.out hnS hng)
 obtain ⟨q0, q1, q2, q3, _, _, _, _, hg7⟩ := Blk.four HB7.out.1
 go_wp2_with fail
 refine wpMix_end ?_
 go_wp2_with fail
 go_loopw [7] (fun i wr => ∃ (j : Nat) (S1 : Nat → Prop) (f1 : Nat) (s1 : σ), i = .int .i64 j ∧ 1 ≤ j ∧ j ≤ n.kids.length ∧ Hid (k.At S1 f1 s1 wr) ∧ Hid (Mv k.g S S1 W1 wr) ∧ Hid (runSegs k.C k.T ((LI scriptK scriptB n.kids).drop j) p j f1 s1 = runSegs k.C k.T (LI scriptK scriptB n.kids) p 0 (f + 0) s) ∧ Hid (f1 + segsLen ((LI scriptK scriptB n.kids).drop j) = f + 0 + segsLen (LI scriptK scriptB n.kids))) (fun i _ => n.kids.length - (intOf i).toNat)
 case atStart => exact ⟨1, S7, f + 2 * (Tr.scripted x).toNat + (rowT n.kids[0].kids).length, _, rfl, Nat.le_refl _, c1, HAT7, HMV7, by rw [Hid, HL0.out, run_cons, Tr.segLen_eq]; simp only [Nat.zero_add, Nat.add_zero, ← Nat.add_assoc]; rfl, by rw [Hid, HL0.out, segsLen, Tr.segLen_eq]; simp only [List.drop_succ_cons, List.drop_zero]; omega⟩
 case round =>
  clear q0 q1 q2 q3
  obtain ⟨j, S1, f1, s1, rfl, hlow, hj, HAT, HMV, HRUN, HLEN⟩ := hrel
  have HB := hid (HMV.out.blk HB1.out hnS hng)
  obtain ⟨q0, q1, q2, q3, _, _, _, _, hg4⟩ := Blk.four HB.out.1
  by_cases c1 : j < n.kids.length
  ·have d1 : decide ((j : Int) < (n.kids.length : Int)) = true := by simp only [decide_eq_true_eq]; omega
   have d1n : decide (j < n.kids.length) = true := by simp only [decide_eq_true_eq]; omega
   have d1' : (j : Int) < (n.kids.length : Int) := by omega
   obtain ⟨g', o', sx, heq, hg, m0, m1, m2, m3, hrk⟩ := HSL.out.get j c1
   cases heq
   obtain ⟨Ax, capx', rfl⟩ := hrk.slice
   have M0 := hid m0
   have M1 := hid m1
   have M2 := hid m2
   have M3 := hid m3
   have HRK0 := hid hrk
   have HRK := hid (hrk.low HAT.out.low)
   have HDX := hid (depth_mem (List.getElem_mem (l := n.kids) (n := j) c1))
   have HP2 := hid (HP1.out.mv HMV.out)
   have a0 := Low.cell HAT.out.low m0
   have a1 := Low.cell HAT.out.low m1
   have a2 := Low.cell HAT.out.low m2
   have a3 := Low.cell HAT.out.low m3
   have hgw : g < wr.heap.size := block_lt_of_cell a0
   clear m0 m1 m2 m3 hrk hg
   have j0 : ¬ j = 0 := by omega
   have hK1 : scriptK j = 1 := by unfold scriptK; rw [if_neg j0]
   have hB1 : scriptB j n.kids[j] = Tr.grp n.kids[j] := by unfold scriptB; rw [if_neg j0]
   clear j0
   have HR2 := hid (show runSegs k.C k.T ((LI scriptK scriptB n.kids).drop (j + 1)) p (j + 1) (f1 + segLen (1, Tr.grp n.kids[j], n.kids[j])) (runRow k.C k.T n.kids[j].kids (p ++ [j]) 0 (f1 + 1 + (Tr.grp n.kids[j]).toNat) s1) = runSegs k.C k.T (LI scriptK scriptB n.kids) p 0 (f + 0) s by rw [← HRUN.out, LI_drop _ _ _ _ c1, hK1, hB1, run_cons])
   have HLX := hid (show f1 + ((1 + 2 * (Tr.grp n.kids[j]).toNat + (rowT n.kids[j].kids).length) + segsLen ((LI scriptK scriptB n.kids).drop (j + 1))) = f + 0 + segsLen (LI scriptK scriptB n.kids) by rw [← HLEN.out, LI_drop _ _ _ _ c1, hK1, hB1, segsLen, Tr.segLen_eq])
   clear hK1 hB1
   obtain ⟨_, b1, _, _, bf⟩ := HAT.out.cells
   have hglt := HAT.out.glt
   have hb0 : (f1 : Int) ≤ 100000 := by have := HLEN.out; have := HF.out; have := HK.out.len; omega
   have hb1 : 0 ≤ (f1 : Int) := by omega
   have HNX := hid (HAT.out.next HK.out (f' := f1 + 1) ((f1 : Int) + 1) (by omega))
   have HR3 := hid HRK.out
   go_wp2_with fail
   refine forget_world (fun W => k.At S1 (f1 + 1) s1 W ∧ Mv k.g S1 S1 wr W) ⟨HNX.out.1, HNX.out.2⟩ ?_
   rintro W2 ⟨hat2, hmv2⟩
   have HAT2 := hid hat2
   have HMV2 := hid (HMV.out.trans hmv2)
   have HP3 := hid (HP1.out.mv HMV2.out)
   have HB2 := hid (HMV2.out.blk HB1.out hnS hng)
   have HRK2 := hid (HRK0.out.low hat2.low)
   clear b1 bf hglt hb0 hb1 hat2 hmv2 q0 q1 q2 q3
   obtain ⟨q0, q1, q2, q3, _, _, _, _, hg6⟩ := Blk.four HB2.out.1
   have a0' := Low.cell HAT2.out.low M0.out
   have a1' := Low.cell HAT2.out.low M1.out
   have a2' := Low.cell HAT2.out.low M2.out
   have a3' := Low.cell HAT2.out.low M3.out
   clear a0 a1 a2 a3
   have a0 := a0'
   have a1 := a1'
   have a2 := a2'
   have a3 := a3'
   have hgw2 : g < W2.heap.size := block_lt_of_cell a0
   clear a0' a1' a2' a3'
   have g0 := cell_regrown q0
   have g1 := cell_regrown q1
   have g2 := cell_regrown q2
   have g3 := cell_regrown q3
   have h0 := cell_regrown a0
   have h1 := cell_regrown a1
   have h2 := cell_regrown a2
   have h3 := cell_regrown a3
   refine wp_region_mix [([(0, true), (1, true), (2, true), (3, true), (4, true), (5, true), (6, true), (7, true), (8, true), (9, false)], 10)] [] (by kernel_rfl) (fun _ _ d _ _ h => by cases d <;> exact h) (by kernel_rfl) ?_
   refine wpMix_seg ?_
   repeat (refine wpSeq_plain rfl (fun K hK => ?_); go_simp; refine hK _ ?_; clear hK K)
   refine wpSeq_lone rfl (fun K hK => ?_)
   go_wp2_with fail
   refine (wgroup_any n.kids[j] _ _ (HRK2.out.fresh (show Fresh W2 _ from (Touch.refl _ _).drewN _))).mono ?_
   rintro _ W5 ⟨rfl, hf5⟩
   have HF5 := hid (show Fresh W2 W5 from Touch.ofN hf5)
   clear hf5
   go_wp2_with fail
   refine hK _ _ (growing_fresh HF5.out) ?_
   clear hK K
   refine wpSeq_shut rfl (fun K hK => ?_)
   go_wp2_with fail
   refine (slot_any HK.out n j c1 (HI.out n.kids[j] (List.getElem_mem c1)) (HAT2.out.fresh HK.out HF5.out) HSL.out (HP3.out.mv (Mv.fresh HF5.out)) (by have := HD.out; have := HDX.out; have := HDN.out; omega) (Tr.grp n.kids[j]) (by have := HLX.out; have := HF.out; omega) (by have h1 := HLIM.out; rw [← HR2.out] at h1; exact HK.out.lim.2 _ _ _ _ _ h1)).mono ?_
   rintro _ W8 ⟨rfl, S8, hat, hmv⟩
   have HAT8 := hid hat
   have HMV8 := hid ((HMV2.out.trans (Mv.fresh HF5.out)).trans hmv)
   clear hat hmv
   clear q0 q1 q2 q3 a0 a1 a2 a3 g0 g1 g2 g3 h0 h1 h2 h3
   go_wp2_with fail
   refine wpMix_end ?_
   go_wp2_with fail
   go_roundw
   case rel => exact ⟨j + 1, S8, f1 + segLen (1, Tr.grp n.kids[j], n.kids[j]), _, by go_num, by omega, c1, by have := HAT8.out; rw [Tr.segLen_eq, ← Nat.add_assoc, ← Nat.add_assoc]; exact this, HMV8, HR2.out, by rw [Hid, ← HLX.out, Tr.segLen_eq]; omega⟩
   case measure => simp [intOf]; omega
  ·have d1 : decide ((j : Int) < (n.kids.length : Int)) = false := by simp only [decide_eq_false_iff_not]; omega
   have d1n : decide (j < n.kids.length) = false := by simp only [decide_eq_false_iff_not]; omega
   obtain rfl : j = n.kids.length := by omega
   go_wp2_with fail
   first | go_end0 | refine bodyPost_ret (v := .tuple #[]) (results_none rfl _ _ _) rfl ?_
   exact ⟨rfl, S1, by have := HAT.out; have h1 := HLEN.out; have h2 := HRUN.out; rw [LI_end] at h1 h2; rw [run_nil] at h2; rw [segsLen, Nat.add_zero] at h1; rw [h1, h2] at this; exact this, HMV1.out.trans HMV.out⟩
end Go.Proofs.YtdacpbdamliafaaGreat

/- The walker's row: the walk over a row, with all that it calls. -/
namespace Go.Proofs.YtdacpbdamliafaaGreat
open Go.RowKit
open Tr (Nd Clo runRow runSegs rowT itemT segs segsLen segLen)
attribute [local go_sem] stillV stillUpon
variable {σ κ : Type}
theorem Mc.tok {S S' : Nat → Prop} {w w' : World} (h : Mc S S' w w') {p : Addr} {v : Value} (hc : w.cell? p = some v) (hn : ¬ S p.block) : w'.cell? p = some v := h.touch.cell hc hn
theorem runRow_nil (C : Clo σ κ) (T : List Lx.PTok) (p : List Nat) (i f : Nat) (s : σ) : runRow C T [] p i f s = C.off s (p ++ [i]) (Tr.endAt T f) := by rw [runRow]
theorem runRow_cons (C : Clo σ κ) (T : List Lx.PTok) (n : Nd) (ns : List Nd) (p : List Nat) (i f : Nat) (s : σ) :
  runRow C T (n :: ns) p i f s = runRow C T ns p (i + 1) (f + (itemT n).length) (C.done (runSegs C T (segs n) (p ++ [i]) 0 f (C.item (C.off s (p ++ [i]) (Tr.fromAt T f)) (p ++ [i]) (Tr.fromAt T f))) (C.key (C.off s (p ++ [i]) (Tr.fromAt T f))) (Tr.endAt T (f + (itemT n).length))) := by rw [runRow]
theorem row_drop (ks : List Nd) (j : Nat) (h : j < ks.length) : (rowT (ks.drop j)).length = (itemT ks[j]).length + (rowT (ks.drop (j + 1))).length := by
 rw [List.drop_eq_getElem_cons h, Tr.rowT_cons, List.length_append]
theorem path_cat0 {g : Nat} {S : Nat → Prop} {W : World} {A : Option Addr} {cap : Nat} {p : List Nat} (hp : PathIn g S W (.slice A p.length cap) p) (hS : ∀ b, S b → b < W.heap.size) (hg : g < W.heap.size) (hl : p.length ≤ 1000) (i : Nat) :
  Calls Tryz.prog 98 #[.slice (some ⟨W.heap.size + 1, 0, none⟩) 2 2] ((W.alloc (.cells #[.int .i64 (i : Int)] 3)).alloc (.cells #[.slice A p.length cap, .slice (some ⟨W.heap.size, 0, none⟩) 1 1] 25))
   fun e w' => ∃ A' cap', e = .returned (.slice A' (p.length + 1) cap') ∧ PathIn g S w' (.slice A' (p.length + 1) cap') (p ++ [i]) ∧ Fresh W w' := path_cat hp hS hg hl i 0
theorem place_le {k : Wk σ κ} (hk : k.Good) (f : Nat) : Tr.fromAt k.T f ≤ 1000000 ∧ Tr.endAt k.T f ≤ 1000000 := by
 refine ⟨?_, ?_⟩
 ·unfold Tr.fromAt
  cases h : k.T[f]? with
  | none => simp
  | some t => exact (hk.place t (List.mem_of_getElem? h)).1
 ·unfold Tr.endAt
  split
  ·exact Nat.zero_le _
  ·cases h : k.T[f - 1]? with
   | none => simp
   | some t => exact (hk.place t (List.mem_of_getElem? h)).2
set_option maxRecDepth 100000 in
set_option maxHeartbeats 4000000 in
theorem row_any {k : Wk σ κ} (hk : k.Good) (a : Nd) (hv : ∀ x ∈ a.kids, 1 ≤ (itemT x).length) (htree : ∀ x ∈ a.kids, k.TreeS x) : k.RowS a := by
 intro S f s w p v sl kd tx cl h hsl hp hd hf hlim
 have HLIM := hid hlim
 clear hlim
 have hdep := Tr.depth_kids a
 have hlen := hsl.len
 unfold maxLen at hlen
 obtain ⟨A, cap, rfl⟩ := hsl.slice
 obtain ⟨Ap, capp, rfl⟩ := hp.slice
 have HK := hid hk
 have HAT0 := hid h
 have HP0 := hid hp
 have HSL := hid hsl
 have HI := hid htree
 have HV := hid hv
 have HD := hid (show p.length + 2 * Tr.depthL a.kids + 2 ≤ 500 by omega)
 have HF := hid hf
 have hnS : ¬ S w.heap.size := fun e => absurd (h.slt hk _ e) (Nat.lt_irrefl _)
 have hng : w.heap.size ≠ k.g := by have := h.glt; omega
 clear h hp hsl hd hf hdep hv htree
 generalize a.kids = ks at *
 go_enter Tryz.func68, Tryz.ntmps68
 go_wp2_with fail
 refine forget_world (fun W => Fresh w W ∧ Blk W w.heap.size 24 #[kd, tx, cl, .slice A ks.length cap]) ⟨(Touch.refl _ _).alloc _, Blk.new _ _ _⟩ ?_
 rintro W1 ⟨hf1, hb1'⟩
 have HAT1 := hid (HAT0.out.fresh HK.out hf1)
 have HMV1 := hid (Mv.fresh (g := k.g) (S := S) hf1)
 have HB1 := hid hb1'
 have HP1 := hid (HP0.out.mv HMV1.out)
 have q3 : W1.cell? ⟨w.heap.size, 3, none⟩ = some (.slice A ks.length cap) := hb1'.cell 3
 clear hf1 hb1'
 go_wp2_with fail
 go_loopw [14] (fun i wr => ∃ (j : Nat) (S1 : Nat → Prop) (f1 : Nat) (s1 : σ), i = .int .i64 j ∧ j ≤ ks.length ∧ Hid (k.At S1 f1 s1 wr) ∧ Hid (Mv k.g S S1 W1 wr) ∧ Hid (runRow k.C k.T (ks.drop j) p j f1 s1 = runRow k.C k.T ks p 0 f s) ∧ Hid (f1 + (rowT (ks.drop j)).length = f + (rowT ks).length)) (fun i _ => ks.length - (intOf i).toNat)
 case atStart => exact ⟨0, S, f, s, rfl, Nat.zero_le _, HAT1, Mv.refl _ _ _, rfl, rfl⟩
 case round =>
  clear q3
  obtain ⟨j, S1, f1, s1, rfl, hj, HAT, HMV, HRUN, HLEN⟩ := hrel
  have HB := hid (HMV.out.blk HB1.out hnS hng)
  have q3 : wr.cell? ⟨w.heap.size, 3, none⟩ = some (.slice A ks.length cap) := HB.out.1.cell 3
  have hg4 := HB.out.1.lt
  by_cases c1 : j < ks.length
  ·have d1 : decide ((j : Int) < (ks.length : Int)) = true := by simp only [decide_eq_true_eq]; omega
   have d1n : decide (j < ks.length) = true := by simp only [decide_eq_true_eq]; omega
   have d1' : (j : Int) < (ks.length : Int) := by omega
   obtain ⟨g, o, sx, rfl, hg, m0, m1, m2, m3, hrk⟩ := HSL.out.get j c1
   obtain ⟨Ax, capx, rfl⟩ := hrk.slice
   have HRK := hid hrk
   have HDX := hid (depth_mem (List.getElem_mem (l := ks) (n := j) c1))
   have a0 := Low.cell HAT.out.low m0
   have a1 := Low.cell HAT.out.low m1
   have a2 := Low.cell HAT.out.low m2
   have a3 := Low.cell HAT.out.low m3
   have hgw : g < wr.heap.size := block_lt_of_cell a0
   have HT := hid (HI.out ks[j] (List.getElem_mem c1))
   have HPOS := hid (HV.out ks[j] (List.getElem_mem c1))
   have HR2 := hid (show runRow k.C k.T (ks.drop (j + 1)) p (j + 1) (f1 + (itemT ks[j]).length) (k.C.done (runSegs k.C k.T (segs ks[j]) (p ++ [j]) 0 f1 (k.C.item (k.C.off s1 (p ++ [j]) (Tr.fromAt k.T f1)) (p ++ [j]) (Tr.fromAt k.T f1))) (k.C.key (k.C.off s1 (p ++ [j]) (Tr.fromAt k.T f1))) (Tr.endAt k.T (f1 + (itemT ks[j]).length))) = runRow k.C k.T ks p 0 f s by
    rw [← HRUN.out, List.drop_eq_getElem_cons c1, runRow_cons])
   have HL4 := hid (HK.out.lim.1 _ _ _ _ _ (by have h1 := HLIM.out; rw [← HR2.out] at h1; exact h1))
   have HL3 := hid (HK.out.limd _ _ _ HL4.out)
   have HL2 := hid (HK.out.lim.2 _ _ _ _ _ HL3.out)
   have HL1 := hid (HK.out.limi _ _ _ HL2.out)
   have HLX := hid (show f1 + ((itemT ks[j]).length + (rowT (ks.drop (j + 1))).length) = f + (rowT ks).length by rw [← HLEN.out, row_drop _ _ c1])
   have hfl : f1 < k.T.length := by have := HLX.out; have := HF.out; have := HPOS.out; omega
   have HFR := hid (fromAt_eq k.T f1 hfl)
   obtain ⟨b0, b1, b2, b3, _⟩ := HAT.out.cells
   have HGL := hid HAT.out.glt
   have hglt := HAT.out.glt
   obtain ⟨At, capt, hv, ht⟩ := HAT.out.tok
   obtain ⟨rfl, hlt, _, t2, t3⟩ := ht f1 hfl
   rw [hv] at b0
   rw [← HFR.out] at t2
   have hpl := (place_le HK.out f1).1
   have hfi : (f1 : Int) < (k.T.length : Int) := by omega
   clear m0 m1 m2 m3 hrk hg HFR t3 ht hv
   generalize hpf : Tr.fromAt k.T f1 = pf at *
   clear hpf
   go_wp2_with fail
   go_quiet (fail)
   refine forget_world (fun W => Fresh wr W ∧ Blk W wr.heap.size 24 #[.int .i64 ks[j].kind, .string ⟨ks[j].text.toArray⟩, .int .i64 ks[j].cols, .slice Ax ks[j].kids.length capx]) ⟨((Touch.refl _ _).alloc _).drewN _, (Blk.new _ _ _).drewN _⟩ ?_
   rintro W3 ⟨hf3, hb3⟩
   have HAT3 := hid (HAT.out.fresh HK.out hf3)
   have HP3 := hid ((HP1.out.mv HMV.out).mv (Mv.fresh hf3))
   have HMV3 := hid (HMV.out.trans (Mv.fresh hf3))
   have HB3 := hid hb3
   have hnS3 : ¬ S1 wr.heap.size := fun e => absurd (HAT.out.slt HK.out _ e) (Nat.lt_irrefl _)
   have hng3 : wr.heap.size ≠ k.g := by omega
   clear hf3 hb3 a0 a1 a2 a3 b0 b1 b2 b3 t2 q3 hglt hlt
   go_wp2_with fail
   refine (path_cat0 HP3.out (HAT3.out.slt HK.out) HAT3.out.glt (by have := HD.out; omega) j).mono ?_
   rintro _ W4 ⟨A4, cap4, rfl, hp4, hf4⟩
   have HAT4 := hid (HAT3.out.fresh HK.out hf4)
   have HP4 := hid hp4
   have HMV4 := hid (HMV3.out.trans (Mv.fresh hf4))
   have HB4 := hid (HB3.out)
   have HMVB4 := hid (Mv.fresh (g := k.g) (S := S1) hf4)
   clear hp4 hf4
   obtain ⟨b0, b1, b2, b3, _⟩ := HAT4.out.cells
   have hcf := HK.out.callo
   go_wp2_with fail
   refine (HK.out.off _ _ _ (p ++ [j]) _ pf HAT4.out.st HP4.out (by have := HD.out; simp only [List.length_append, List.length_singleton]; omega) (by omega) HL1.out).mono ?_
   rintro _ W5 ⟨rfl, S5, hst, hmc⟩
   have HAT5 := hid (HAT4.out.mc HK.out hmc hst)
   have HP5 := hid (HP4.out.mv hmc.mv)
   have HMV5 := hid (HMV4.out.trans hmc.mv)
   have HMVB5 := hid (HMVB4.out.trans hmc.mv)
   clear hst hmc b0 b1 b2 b3 hcf
   obtain ⟨b0, b1, b2, b3, _⟩ := HAT5.out.cells
   have hcf := HK.out.calli
   go_wp2_with fail
   refine (HK.out.item _ _ _ (p ++ [j]) _ pf HAT5.out.st HP5.out (by have := HD.out; simp only [List.length_append, List.length_singleton]; omega) (by omega) HL2.out).mono ?_
   rintro _ W6 ⟨d, cd, S6, rfl, hst, hmc, hdn⟩
   have HAT6 := hid (HAT5.out.mc HK.out hmc hst)
   have HP6 := hid (HP5.out.mv hmc.mv)
   have HMV6 := hid (HMV5.out.trans hmc.mv)
   have HMVB6 := hid (HMVB5.out.trans hmc.mv)
   have HDN6 := hid hdn
   clear hst hmc hdn b0 b1 b2 b3 hcf
   obtain ⟨r0, r1, r2, r3, _, _, _, _, hgr⟩ := Blk.four (HMVB6.out.blk HB3.out hnS3 hng3).1
   go_wp2_with fail
   refine (HT.out _ _ _ _ (p ++ [j]) _ _ HAT6.out HRK.out HP6.out (by have := HD.out; have := HDX.out; simp only [List.length_append, List.length_singleton]; omega) (by have := HLX.out; have := HF.out; omega) HL3.out).mono ?_
   rintro _ W7 ⟨rfl, S7, hat, hmv⟩
   have HAT7 := hid hat
   have HMV7 := hid (HMV6.out.trans hmv)
   have HDN7 := hid (HK.out.dnmv _ _ _ _ _ _ _ HDN6.out hmv)
   clear hat hmv r0 r1 r2 r3 hgr
   go_wp2_with fail
   refine (end_any HK.out HAT7.out (by have := HLX.out; have := HF.out; omega)).mono ?_
   rintro _ W8 ⟨rfl, hf8⟩
   have HAT8 := hid (HAT7.out.fresh HK.out hf8)
   have HMV8 := hid (HMV7.out.trans (Mv.fresh hf8))
   have HDN8 := hid (HK.out.dnmv _ _ _ _ _ _ _ HDN7.out (Mv.fresh hf8))
   have HE8 := hid (place_le HK.out (f1 + (itemT ks[j]).length)).2
   clear hf8
   have hcf := HK.out.calld _ _ _ _ _ HDN8.out
   go_wp2_with fail
   refine (HK.out.done _ _ _ _ _ _ (Tr.endAt k.T (f1 + (itemT ks[j]).length)) HAT8.out.st HDN8.out ((HK.out.kp _).2 _ _ _ _ _ (HK.out.kp0 _ _ _)) HE8.out HL4.out).mono ?_
   rintro _ W9 ⟨rfl, S9, hst, hmc⟩
   have HAT9 := hid (HAT8.out.mc HK.out hmc hst)
   have HMV9 := hid (HMV8.out.trans hmc.mv)
   clear hst hmc hcf
   go_wp2_with fail
   go_roundw
   case rel => exact ⟨j + 1, S9, f1 + (itemT ks[j]).length, _, by go_num, c1, HAT9, HMV9, HR2.out, by rw [Hid, ← HLX.out]; omega⟩
   case measure => simp [intOf]; omega
  ·have d1 : decide ((j : Int) < (ks.length : Int)) = false := by simp only [decide_eq_false_iff_not]; omega
   have d1n : decide (j < ks.length) = false := by simp only [decide_eq_false_iff_not]; omega
   obtain rfl : j = ks.length := by omega
   have HR2 := hid (show k.C.off s1 (p ++ [ks.length]) (Tr.endAt k.T f1) = runRow k.C k.T ks p 0 f s by rw [← HRUN.out, List.drop_length, runRow_nil])
   have HF1 := hid (show f1 = f + (rowT ks).length by rw [← HLEN.out, List.drop_length, Tr.rowT_nil]; rfl)
   have HP2 := hid (HP1.out.mv HMV.out)
   obtain ⟨b0, b1, b2, b3, _⟩ := HAT.out.cells
   have hglt := HAT.out.glt
   have g3 := cell_regrown q3
   have h0 := cell_regrown b0
   have h1 := cell_regrown b1
   have h2 := cell_regrown b2
   have h3 := cell_regrown b3
   have hcf := HK.out.callo
   go_wp2_with fail
   refine wp_region_mix [([(0, true), (1, true), (2, true), (3, true), (4, true), (5, true), (6, true), (7, true), (11, true), (8, false), (9, false), (10, false), (12, false)], 13)] [] (by kernel_rfl) (fun _ _ d _ _ h => by cases d <;> exact h) (by kernel_rfl) ?_
   refine wpMix_seg ?_
   repeat (refine wpSeq_plain rfl (fun K hK => ?_); go_simp; refine hK _ ?_; clear hK K)
   refine wpSeq_lone rfl (fun K hK => ?_)
   go_wp2_with fail
   refine hK _ _ (growing_fresh (((Touch.refl _ _).drewN _).alloc _)) ?_
   clear hK K
   refine wpSeq_lone rfl (fun K hK => ?_)
   go_wp2_with fail
   refine hK _ _ (growing_fresh ((((Touch.refl _ _).drewN _).alloc _).alloc _)) ?_
   clear hK K
   refine wpSeq_lone rfl (fun K hK => ?_)
   go_wp2_with fail
   refine (path_cat HP2.out (HAT.out.slt HK.out) HAT.out.glt (by have := HD.out; omega) ks.length 1).mono ?_
   rintro _ W6 ⟨A6, cap6, rfl, hp6, hf6⟩
   have HP6 := hid hp6
   have HF6 := hid hf6
   have HAT6 := hid (HAT.out.fresh HK.out hf6)
   clear hp6 hf6
   go_wp2_with fail
   refine hK _ _ (growing_fresh HF6.out) ?_
   clear hK K
   refine wpSeq_lone rfl (fun K hK => ?_)
   go_wp2_with fail
   refine (end_any HK.out HAT6.out (by have := HF.out; have := HF1.out; omega)).mono ?_
   rintro _ W7 ⟨rfl, hf7⟩
   have HAT7 := hid (HAT6.out.fresh HK.out hf7)
   have HP7 := hid (HP6.out.mv (Mv.fresh hf7))
   have HF7 := hid (HF6.out.trans hf7)
   clear hf7
   go_wp2_with fail
   refine hK _ _ (growing_fresh HF7.out) ?_
   clear hK K
   refine wpSeq_shut rfl (fun K hK => ?_)
   go_wp2_with fail
   refine (HK.out.off _ _ _ (p ++ [ks.length]) _ (Tr.endAt k.T f1) HAT7.out.st HP7.out (by have := HD.out; simp only [List.length_append, List.length_singleton]; omega) (place_le HK.out f1).2 (by have h1 := HLIM.out; rw [← HR2.out] at h1; exact h1)).mono ?_
   rintro _ W8 ⟨rfl, S8, hst, hmc⟩
   have HAT8 := hid (HAT7.out.mc HK.out hmc hst)
   have HMV8 := hid ((HMV.out.trans (Mv.fresh HF7.out)).trans hmc.mv)
   clear hst hmc
   go_wp2_with fail
   refine wpMix_end ?_
   go_wp2_with fail
   first | go_end0 | refine bodyPost_ret (v := .tuple #[]) (results_none rfl _ _ _) rfl ?_
   exact ⟨rfl, S8, by have := HAT8.out; rw [HR2.out, HF1.out] at this; exact this, HMV1.out.trans HMV8.out⟩
end Go.Proofs.YtdacpbdamliafaaGreat
