/- Part 26 of 42 of a proof; its texts, joined: SnT, SnV. No condition. -/
import Derived.Test.YtncnoeoicaglaaaGreatVs25
set_option maxRecDepth 100000
set_option maxHeartbeats 4000000
namespace Go.Proofs.YtncnoeoicaglaaaGreat
open Go.RowKit
open Tr (Nd Clo runRow runSegs rowT itemT segs segsLen segLen)
attribute [local go_sem] stillV stillUpon
variable {σ κ : Type}
theorem slot_any {k : Wk σ κ} (hk : k.Good) (n : Nd) (j : Nat) (hj : j < n.kids.length) (hrow : k.RowS n.kids[j]) {S : Nat → Prop} {f : Nat} {s : σ} {w : World} (h : k.At S f s w) {p : List Nat} {v sl : Value}
  (hsl : RepL k.W0 n.kids sl) (hp : PathIn k.g S w v p) (hd : p.length + 1 + 2 * Tr.depth n.kids[j] ≤ 500) (b : Bool) (hf : f + 2 * b.toNat + (rowT n.kids[j].kids).length ≤ k.T.length) (hlim : k.Lim (runRow k.C k.T n.kids[j].kids (p ++ [j]) 0 (f + b.toNat) s)) :
  Calls Tryz.prog 120 #[.pointer (some ⟨k.g, 0, none⟩), nv n sl, v, .int .i64 (j : Int), .bool b] w (k.SlotEnds S f s w n.kids[j] (p ++ [j]) b) := by
 cases b with
 | false => exact slot_no hk n j hj hrow h hsl hp hd (by simpa using hf) hlim
 | true => exact slot_yes hk n j hj hrow h hsl hp hd (by simpa using hf) hlim
theorem depth_mem {l : List Nd} {a : Nd} (h : a ∈ l) : Tr.depth a ≤ Tr.depthL l := by
 induction l with
 | nil => cases h
 | cons x l ih =>
  rw [Tr.depthL]
  rcases List.mem_cons.1 h with rfl | h
  ·omega
  ·have := ih h; omega
theorem map_drop {β : Type} (f : Nd → β) (l : List Nd) (j : Nat) (h : j < l.length) : (l.map f).drop j = f l[j] :: (l.map f).drop (j + 1) := by
 rw [List.drop_eq_getElem_cons (by simpa using h), List.getElem_map]
theorem run_cons (C : Clo σ κ) (T : List Lx.PTok) (k : Nat) (b : Bool) (a : Nd) (r : List (Nat × Bool × Nd)) (p : List Nat) (j f : Nat) (s : σ) :
  runSegs C T ((k, b, a) :: r) p j f s = runSegs C T r p (j + 1) (f + segLen (k, b, a)) (runRow C T a.kids (p ++ [j]) 0 (f + k + b.toNat) s) := by rw [runSegs]
theorem run_nil (C : Clo σ κ) (T : List Lx.PTok) (p : List Nat) (j f : Nat) (s : σ) : runSegs C T [] p j f s = s := by rw [runSegs]
theorem run_shift (C : Clo σ κ) (T : List Lx.PTok) (k : Nat) (b : Bool) (a : Nd) (r : List (Nat × Bool × Nd)) (p : List Nat) (j f : Nat) (s : σ) :
  runSegs C T ((k + 1, b, a) :: r) p j f s = runSegs C T ((k, b, a) :: r) p j (f + 1) s := by
 rw [run_cons, run_cons];unfold segLen;simp only
 rw [show f + (k + 1 + (if b then 2 else 0) + (rowT a.kids).length) = f + 1 + (k + (if b then 2 else 0) + (rowT a.kids).length) by omega, show f + (k + 1) + b.toNat = f + 1 + k + b.toNat by omega]
def L0 (br : Nd → Bool) (ks : List Nd) : List (Nat × Bool × Nd) := ks.map fun b => (0, br b, b)
theorem L0_drop (br : Nd → Bool) (l : List Nd) (j : Nat) (h : j < l.length) : (L0 br l).drop j = (0, br l[j], l[j]) :: (L0 br l).drop (j + 1) := map_drop _ l j h
theorem L0_end (br : Nd → Bool) (l : List Nd) : (L0 br l).drop l.length = [] := List.drop_eq_nil_of_le (by simp [L0])
def Wk.TreeAs (k : Wk σ κ) (n : Nd) (m : Nat) (L : List (Nat × Bool × Nd)) (e : Nat) : Prop := ∀ (S : Nat → Prop) (f : Nat) (s : σ) (w : World) (p : List Nat) (v sl : Value), k.At S f s w → RepL k.W0 n.kids sl → PathIn k.g S w v p → p.length + 2 * Tr.depth n ≤ 500 → f + m + segsLen L + e ≤ k.T.length → k.Lim (runSegs k.C k.T L p 0 (f + m) s) →
 Calls Tryz.prog 88 #[.pointer (some ⟨k.g, 0, none⟩), nv n sl, v] w (k.Ends S (f + m + segsLen L + e) (runSegs k.C k.T L p 0 (f + m) s) w)
theorem tree_gen {k : Wk σ κ} (hk : k.Good) (n : Nd) (h7 : (n.kind == 7) = false) (h8 : (n.kind == 8) = false) (h9 : (n.kind == 9) = false) (h12 : (n.kind == 12) = false) (h6 : (n.kind == 6) = false) (h11 : (n.kind == 11) = false) (hrows : ∀ a ∈ n.kids, k.RowS a) :
  k.TreeAs n 1 (L0 Tr.grp n.kids) 0 := by
 intro S f s w p v sl h hsl hp hd hf hlim;have HLIM := hid hlim;clear hlim;have hlen := hsl.len;unfold maxLen at hlen;obtain ⟨A, cap, rfl⟩ := hsl.slice;obtain ⟨Ap, capp, rfl⟩ := hp.slice;have HK := hid hk;have HAT0 := hid h;have HP0 := hid hp;have HSL := hid hsl;have HI := hid hrows;have HD := hid hd;have HF := hid hf;have HDN := hid (Tr.depth_kids n);have hnS : ¬ S w.heap.size := fun e => absurd (h.slt hk _ e) (Nat.lt_irrefl _)
 have hng : w.heap.size ≠ k.g := by have := h.glt; omega
 obtain ⟨_, b1, _, _, bf⟩ := h.cells;have hglt := h.glt;have hb0 : (f : Int) ≤ 100000 := by have := hk.len; omega
 have hb1 : 0 ≤ (f : Int) := by omega
 go_enter Tryz.func88, Tryz.ntmps88;go_wp2_with fail
 refine forget_world (fun W => k.At S (f + 1) s W ∧ Mv k.g S S w W ∧ Blk W w.heap.size 26 #[.int .i64 n.kind, .string ⟨n.text.toArray⟩, .int .i64 n.cols, .slice A n.kids.length cap]) ?_ ?_
 ·obtain ⟨hn1, hn2⟩ := HAT0.out.next HK.out (f' := f + 1) ((f : Int) + 1) (by omega)
  have hsz : w.heap.size = (w.setCell ⟨k.g, 1, none⟩ (.int .i64 ((f : Int) + 1))).heap.size := by simp [World.setCell]
  refine ⟨hn1.fresh HK.out ((Touch.refl _ _).alloc _), hn2.trans (Mv.fresh ((Touch.refl _ _).alloc _)), ?_⟩;rw [hsz];exact Blk.new _ _ _
 rintro W1 ⟨hat1, hmv1, hb1'⟩;have HAT1 := hid hat1;have HMV1 := hid hmv1;have HB1 := hid hb1';have HP1 := hid (HP0.out.mv hmv1);obtain ⟨q0, q1, q2, q3, _, _, _, _, hg4⟩ := Blk.four hb1';clear hat1 hmv1 hb1' h hp hsl hd hf b1 bf hglt hb0 hb1;go_wp2_with fail
 go_loopw [119] (fun i wr => ∃ (j : Nat) (S1 : Nat → Prop) (f1 : Nat) (s1 : σ), i = .int .i64 j ∧ j ≤ n.kids.length ∧ Hid (k.At S1 f1 s1 wr) ∧ Hid (Mv k.g S S1 W1 wr) ∧ Hid (runSegs k.C k.T ((L0 Tr.grp n.kids).drop j) p j f1 s1 = runSegs k.C k.T (L0 Tr.grp n.kids) p 0 (f + 1) s) ∧ Hid (f1 + segsLen ((L0 Tr.grp n.kids).drop j) = f + 1 + segsLen (L0 Tr.grp n.kids))) (fun i _ => n.kids.length - (intOf i).toNat)
 case atStart => exact ⟨0, S, f + 1, s, rfl, Nat.zero_le _, HAT1, Mv.refl _ _ _, rfl, rfl⟩
 case round =>
  clear q0 q1 q2 q3;obtain ⟨j, S1, f1, s1, rfl, hj, HAT, HMV, HRUN, HLEN⟩ := hrel;have HB := hid (HMV.out.blk HB1.out hnS hng);obtain ⟨q0, q1, q2, q3, _, _, _, _, hg4⟩ := Blk.four HB.out.1
  by_cases c1 : j < n.kids.length
  ·have d1 : decide ((j : Int) < (n.kids.length : Int)) = true := dT (by omega)
   have d1n : decide (j < n.kids.length) = true := dT (by omega);have d1' : (j : Int) < (n.kids.length : Int) := by omega
   obtain ⟨g, o, sx, rfl, hg, m0, m1, m2, m3, hrk⟩ := HSL.out.get j c1;obtain ⟨Ax, capx, rfl⟩ := hrk.slice;have HRK := hid (hrk.low HAT.out.low);have HDX := hid (depth_mem (List.getElem_mem (l := n.kids) (n := j) c1));have HP2 := hid (HP1.out.mv HMV.out);have a0 := Low.cell HAT.out.low m0;have a1 := Low.cell HAT.out.low m1;have a2 := Low.cell HAT.out.low m2;have a3 := Low.cell HAT.out.low m3;have hgw : g < wr.heap.size := bL a0;clear m0 m1 m2 m3 hrk hg;have HR2 := hid (show runSegs k.C k.T ((L0 Tr.grp n.kids).drop (j + 1)) p (j + 1) (f1 + segLen (0, Tr.grp n.kids[j], n.kids[j])) (runRow k.C k.T n.kids[j].kids (p ++ [j]) 0 (f1 + 0 + (Tr.grp n.kids[j]).toNat) s1) = runSegs k.C k.T (L0 Tr.grp n.kids) p 0 (f + 1) s by rw [← HRUN.out, L0_drop _ _ _ c1, run_cons]);have HLX := hid (show f1 + ((0 + 2 * (Tr.grp n.kids[j]).toNat + (rowT n.kids[j].kids).length) + segsLen ((L0 Tr.grp n.kids).drop (j + 1))) = f + 1 + segsLen (L0 Tr.grp n.kids) by rw [← HLEN.out, L0_drop _ _ _ c1, segsLen, Tr.segLen_eq]);go_wp2_with fail
   have g0 := cR q0;have g1 := cR q1;have g2 := cR q2;have g3 := cR q3;have h0 := cR a0;have h1 := cR a1;have h2 := cR a2;have h3 := cR a3;refine wp_region_mix [([(0, true), (1, true), (2, true), (3, true), (4, true), (5, true), (6, true), (7, true), (8, true), (9, false)], 10)] [] (by kernel_rfl) (fun _ _ d _ _ h => by cases d <;> exact h) (by kernel_rfl) ?_;refine wpMix_seg ?_
   repeat (refine wpSeq_plain rfl (fun K hK => ?_); go_simp; refine hK _ ?_; clear hK K)
   refine wpSeq_lone rfl (fun K hK => ?_);go_wp2_with fail
   refine (wgroup_any n.kids[j] _ _ (HRK.out.fresh (show Fresh wr _ from (Touch.refl _ _).drewN _))).mono ?_;rintro _ W5 ⟨rfl, hf5⟩;have HF5 := hid (show Fresh wr W5 from Touch.ofN hf5);clear hf5;go_wp2_with fail
   refine hK _ _ (growing_fresh HF5.out) ?_;clear hK K;refine wpSeq_shut rfl (fun K hK => ?_);go_wp2_with fail
   refine (slot_any HK.out n j c1 (HI.out n.kids[j] (List.getElem_mem c1)) (HAT.out.fresh HK.out HF5.out) HSL.out (HP2.out.mv (Mv.fresh HF5.out)) (by have := HD.out; have := HDX.out; have := HDN.out; omega) (Tr.grp n.kids[j]) (by have := HLX.out; have := HF.out; omega) (by have h1 := HLIM.out; rw [← HR2.out] at h1; exact HK.out.lim.2 _ _ _ _ _ h1)).mono ?_;rintro _ W7 ⟨rfl, S7, hat, hmv⟩;have HAT7 := hid hat;have HMV7 := hid ((HMV.out.trans (Mv.fresh HF5.out)).trans hmv);clear hat hmv;clear q0 q1 q2 q3 a0 a1 a2 a3 g0 g1 g2 g3 h0 h1 h2 h3;go_wp2_with fail
   refine wpMix_end ?_;go_wp2_with fail
   go_roundw
   case rel => exact ⟨j + 1, S7, f1 + segLen (0, Tr.grp n.kids[j], n.kids[j]), _, by go_num, c1, by have := HAT7.out; rw [Nat.add_assoc] at this; rw [Tr.segLen_eq, Nat.zero_add]; exact this, HMV7, HR2.out, by rw [Hid, ← HLX.out, Tr.segLen_eq]; omega⟩
   case measure => simp [intOf]; omega
  ·have d1 : decide ((j : Int) < (n.kids.length : Int)) = false := dF (by omega)
   have d1n : decide (j < n.kids.length) = false := dF (by omega);obtain rfl : j = n.kids.length := by omega
   go_wp2_with fail
   go_end0
   exact ⟨rfl, S1, by have := HAT.out; have h1 := HLEN.out; have h2 := HRUN.out; rw [L0_end] at h1 h2; rw [run_nil] at h2; rw [segsLen, Nat.add_zero] at h1; rw [h1, h2] at this; exact this, HMV1.out.trans HMV.out⟩
theorem tree_fence {k : Wk σ κ} (hk : k.Good) (n : Nd) (h7 : (n.kind == 7) = false) (h8 : (n.kind == 8) = false) (h9 : (n.kind == 9) = false) (_h12 : (n.kind == 12) = false) (h6 : (n.kind == 6) = false) (h11 : (n.kind == 11) = true) (t1 : (n.text == [40, 41]) = false) (t2 : (n.text == [91, 93]) = false) (hrows : ∀ a ∈ n.kids, k.RowS a) :
  k.TreeAs n 1 (L0 Tr.grp n.kids) 0 := by
 intro S f s w p v sl h hsl hp hd hf hlim;have HLIM := hid hlim;clear hlim;have hlen := hsl.len;unfold maxLen at hlen;obtain ⟨A, cap, rfl⟩ := hsl.slice;obtain ⟨Ap, capp, rfl⟩ := hp.slice;have HK := hid hk;have HAT0 := hid h;have HP0 := hid hp;have HSL := hid hsl;have HI := hid hrows;have HD := hid hd;have HF := hid hf;have HDN := hid (Tr.depth_kids n);have hnS : ¬ S w.heap.size := fun e => absurd (h.slt hk _ e) (Nat.lt_irrefl _)
 have hng : w.heap.size ≠ k.g := by have := h.glt; omega
 have t1' : ((⟨n.text.toArray⟩ : ByteArray).toList == [40, 41]) = false := by rw [ByteArray.toList_eq]; exact t1
 have t2' : ((⟨n.text.toArray⟩ : ByteArray).toList == [91, 93]) = false := by rw [ByteArray.toList_eq]; exact t2
 obtain ⟨_, b1, _, _, bf⟩ := h.cells;have hglt := h.glt;have hb0 : (f : Int) ≤ 100000 := by have := hk.len; omega
 have hb1 : 0 ≤ (f : Int) := by omega
 go_enter Tryz.func88, Tryz.ntmps88;go_wp2_with fail
 refine forget_world (fun W => k.At S (f + 1) s W ∧ Mv k.g S S w W ∧ Blk W w.heap.size 26 #[.int .i64 n.kind, .string ⟨n.text.toArray⟩, .int .i64 n.cols, .slice A n.kids.length cap]) ?_ ?_
 ·obtain ⟨hn1, hn2⟩ := HAT0.out.next HK.out (f' := f + 1) ((f : Int) + 1) (by omega)
  have hsz : w.heap.size = (w.setCell ⟨k.g, 1, none⟩ (.int .i64 ((f : Int) + 1))).heap.size := by simp [World.setCell]
  refine ⟨hn1.fresh HK.out ((Touch.refl _ _).alloc _), hn2.trans (Mv.fresh ((Touch.refl _ _).alloc _)), ?_⟩;rw [hsz];exact Blk.new _ _ _
 rintro W1 ⟨hat1, hmv1, hb1'⟩;have HAT1 := hid hat1;have HMV1 := hid hmv1;have HB1 := hid hb1';have HP1 := hid (HP0.out.mv hmv1);obtain ⟨q0, q1, q2, q3, _, _, _, _, hg4⟩ := Blk.four hb1';clear hat1 hmv1 hb1' h hp hsl hd hf b1 bf hglt hb0 hb1;go_wp2_with fail
 go_loopw [119] (fun i wr => ∃ (j : Nat) (S1 : Nat → Prop) (f1 : Nat) (s1 : σ), i = .int .i64 j ∧ j ≤ n.kids.length ∧ Hid (k.At S1 f1 s1 wr) ∧ Hid (Mv k.g S S1 W1 wr) ∧ Hid (runSegs k.C k.T ((L0 Tr.grp n.kids).drop j) p j f1 s1 = runSegs k.C k.T (L0 Tr.grp n.kids) p 0 (f + 1) s) ∧ Hid (f1 + segsLen ((L0 Tr.grp n.kids).drop j) = f + 1 + segsLen (L0 Tr.grp n.kids))) (fun i _ => n.kids.length - (intOf i).toNat)
 case atStart => exact ⟨0, S, f + 1, s, rfl, Nat.zero_le _, HAT1, Mv.refl _ _ _, rfl, rfl⟩
 case round =>
  clear q0 q1 q2 q3;obtain ⟨j, S1, f1, s1, rfl, hj, HAT, HMV, HRUN, HLEN⟩ := hrel;have HB := hid (HMV.out.blk HB1.out hnS hng);obtain ⟨q0, q1, q2, q3, _, _, _, _, hg4⟩ := Blk.four HB.out.1
  by_cases c1 : j < n.kids.length
  ·have d1 : decide ((j : Int) < (n.kids.length : Int)) = true := dT (by omega)
   have d1n : decide (j < n.kids.length) = true := dT (by omega);have d1' : (j : Int) < (n.kids.length : Int) := by omega
   obtain ⟨g, o, sx, rfl, hg, m0, m1, m2, m3, hrk⟩ := HSL.out.get j c1;obtain ⟨Ax, capx, rfl⟩ := hrk.slice;have HRK := hid (hrk.low HAT.out.low);have HDX := hid (depth_mem (List.getElem_mem (l := n.kids) (n := j) c1));have HP2 := hid (HP1.out.mv HMV.out);have a0 := Low.cell HAT.out.low m0;have a1 := Low.cell HAT.out.low m1;have a2 := Low.cell HAT.out.low m2;have a3 := Low.cell HAT.out.low m3;have hgw : g < wr.heap.size := bL a0;clear m0 m1 m2 m3 hrk hg;have HR2 := hid (show runSegs k.C k.T ((L0 Tr.grp n.kids).drop (j + 1)) p (j + 1) (f1 + segLen (0, Tr.grp n.kids[j], n.kids[j])) (runRow k.C k.T n.kids[j].kids (p ++ [j]) 0 (f1 + 0 + (Tr.grp n.kids[j]).toNat) s1) = runSegs k.C k.T (L0 Tr.grp n.kids) p 0 (f + 1) s by rw [← HRUN.out, L0_drop _ _ _ c1, run_cons]);have HLX := hid (show f1 + ((0 + 2 * (Tr.grp n.kids[j]).toNat + (rowT n.kids[j].kids).length) + segsLen ((L0 Tr.grp n.kids).drop (j + 1))) = f + 1 + segsLen (L0 Tr.grp n.kids) by rw [← HLEN.out, L0_drop _ _ _ c1, segsLen, Tr.segLen_eq]);go_wp2_with fail
   have g0 := cR q0;have g1 := cR q1;have g2 := cR q2;have g3 := cR q3;have h0 := cR a0;have h1 := cR a1;have h2 := cR a2;have h3 := cR a3;refine wp_region_mix [([(0, true), (1, true), (2, true), (3, true), (4, true), (5, true), (6, true), (7, true), (8, true), (9, false)], 10)] [] (by kernel_rfl) (fun _ _ d _ _ h => by cases d <;> exact h) (by kernel_rfl) ?_;refine wpMix_seg ?_
   repeat (refine wpSeq_plain rfl (fun K hK => ?_); go_simp; refine hK _ ?_; clear hK K)
   refine wpSeq_lone rfl (fun K hK => ?_);go_wp2_with fail
   refine (wgroup_any n.kids[j] _ _ (HRK.out.fresh (show Fresh wr _ from (Touch.refl _ _).drewN _))).mono ?_;rintro _ W5 ⟨rfl, hf5⟩;have HF5 := hid (show Fresh wr W5 from Touch.ofN hf5);clear hf5;go_wp2_with fail
   refine hK _ _ (growing_fresh HF5.out) ?_;clear hK K;refine wpSeq_shut rfl (fun K hK => ?_);go_wp2_with fail
   refine (slot_any HK.out n j c1 (HI.out n.kids[j] (List.getElem_mem c1)) (HAT.out.fresh HK.out HF5.out) HSL.out (HP2.out.mv (Mv.fresh HF5.out)) (by have := HD.out; have := HDX.out; have := HDN.out; omega) (Tr.grp n.kids[j]) (by have := HLX.out; have := HF.out; omega) (by have h1 := HLIM.out; rw [← HR2.out] at h1; exact HK.out.lim.2 _ _ _ _ _ h1)).mono ?_;rintro _ W7 ⟨rfl, S7, hat, hmv⟩;have HAT7 := hid hat;have HMV7 := hid ((HMV.out.trans (Mv.fresh HF5.out)).trans hmv);clear hat hmv;clear q0 q1 q2 q3 a0 a1 a2 a3 g0 g1 g2 g3 h0 h1 h2 h3;go_wp2_with fail
   refine wpMix_end ?_;go_wp2_with fail
   go_roundw
   case rel => exact ⟨j + 1, S7, f1 + segLen (0, Tr.grp n.kids[j], n.kids[j]), _, by go_num, c1, by have := HAT7.out; rw [Nat.add_assoc] at this; rw [Tr.segLen_eq, Nat.zero_add]; exact this, HMV7, HR2.out, by rw [Hid, ← HLX.out, Tr.segLen_eq]; omega⟩
   case measure => simp [intOf]; omega
  ·have d1 : decide ((j : Int) < (n.kids.length : Int)) = false := dF (by omega)
   have d1n : decide (j < n.kids.length) = false := dF (by omega);obtain rfl : j = n.kids.length := by omega
   go_wp2_with fail
   go_end0
   exact ⟨rfl, S1, by have := HAT.out; have h1 := HLEN.out; have h2 := HRUN.out; rw [L0_end] at h1 h2; rw [run_nil] at h2; rw [segsLen, Nat.add_zero] at h1; rw [h1, h2] at this; exact this, HMV1.out.trans HMV.out⟩
def LI (kk : Nat → Nat) (br : Nat → Nd → Bool) (ks : List Nd) : List (Nat × Bool × Nd) := ks.mapIdx fun i b => (kk i, br i b, b)
theorem LI_drop (kk : Nat → Nat) (br : Nat → Nd → Bool) (l : List Nd) (j : Nat) (h : j < l.length) : (LI kk br l).drop j = (kk j, br j l[j], l[j]) :: (LI kk br l).drop (j + 1) := by
 unfold LI;rw [List.drop_eq_getElem_cons (by simpa using h), List.getElem_mapIdx]
theorem LI_end (kk : Nat → Nat) (br : Nat → Nd → Bool) (l : List Nd) : (LI kk br l).drop l.length = [] := List.drop_eq_nil_of_le (by simp [LI])
def rootB (i : Nat) (b : Nd) : Bool := if i = 0 then !b.kids.isEmpty else Tr.grp b
def scriptB (i : Nat) (b : Nd) : Bool := if i = 0 then Tr.bgrp b else Tr.grp b
def scriptK (i : Nat) : Nat := if i = 0 then 0 else 1
theorem tree_root {k : Wk σ κ} (hk : k.Good) (n : Nd) (h6 : n.kind = 6) (hrows : ∀ a ∈ n.kids, k.RowS a) :
  k.TreeAs n 1 (LI (fun _ => 0) rootB n.kids) 0 := by
 have h7 : (n.kind == 7) = false := by rw [h6]; rfl
 have h8 : (n.kind == 8) = false := by rw [h6]; rfl
 have h9 : (n.kind == 9) = false := by rw [h6]; rfl
 have h11 : (n.kind == 11) = false := by rw [h6]; rfl
 have h12 : (n.kind == 12) = false := by rw [h6]; rfl
 have h6' : (n.kind == 6) = true := by rw [h6]; rfl
 clear h6;intro S f s w p v sl h hsl hp hd hf hlim;have HLIM := hid hlim;clear hlim;have hlen := hsl.len;unfold maxLen at hlen;obtain ⟨A, cap, rfl⟩ := hsl.slice;obtain ⟨Ap, capp, rfl⟩ := hp.slice;have HK := hid hk;have HAT0 := hid h;have HP0 := hid hp;have HSL := hid hsl;have HI := hid hrows;have HD := hid hd;have HF := hid hf;have HDN := hid (Tr.depth_kids n);have hnS : ¬ S w.heap.size := fun e => absurd (h.slt hk _ e) (Nat.lt_irrefl _)
 have hng : w.heap.size ≠ k.g := by have := h.glt; omega
 obtain ⟨_, b1, _, _, bf⟩ := h.cells;have hglt := h.glt;have hb0 : (f : Int) ≤ 100000 := by have := hk.len; omega
 have hb1 : 0 ≤ (f : Int) := by omega
 go_enter Tryz.func88, Tryz.ntmps88;go_wp2_with fail
 refine forget_world (fun W => k.At S (f + 1) s W ∧ Mv k.g S S w W ∧ Blk W w.heap.size 26 #[.int .i64 n.kind, .string ⟨n.text.toArray⟩, .int .i64 n.cols, .slice A n.kids.length cap]) ?_ ?_
 ·obtain ⟨hn1, hn2⟩ := HAT0.out.next HK.out (f' := f + 1) ((f : Int) + 1) (by omega)
  have hsz : w.heap.size = (w.setCell ⟨k.g, 1, none⟩ (.int .i64 ((f : Int) + 1))).heap.size := by simp [World.setCell]
  refine ⟨hn1.fresh HK.out ((Touch.refl _ _).alloc _), hn2.trans (Mv.fresh ((Touch.refl _ _).alloc _)), ?_⟩;rw [hsz];exact Blk.new _ _ _
 rintro W1 ⟨hat1, hmv1, hb1'⟩;have HAT1 := hid hat1;have HMV1 := hid hmv1;have HB1 := hid hb1';have HP1 := hid (HP0.out.mv hmv1);obtain ⟨q0, q1, q2, q3, _, _, _, _, hg4⟩ := Blk.four hb1';clear hat1 hmv1 hb1' h hp hsl hd hf b1 bf hglt hb0 hb1;go_wp2_with fail
 go_loopw [119] (fun i wr => ∃ (j : Nat) (S1 : Nat → Prop) (f1 : Nat) (s1 : σ), i = .int .i64 j ∧ j ≤ n.kids.length ∧ Hid (k.At S1 f1 s1 wr) ∧ Hid (Mv k.g S S1 W1 wr) ∧ Hid (runSegs k.C k.T ((LI (fun _ => 0) rootB n.kids).drop j) p j f1 s1 = runSegs k.C k.T (LI (fun _ => 0) rootB n.kids) p 0 (f + 1) s) ∧ Hid (f1 + segsLen ((LI (fun _ => 0) rootB n.kids).drop j) = f + 1 + segsLen (LI (fun _ => 0) rootB n.kids))) (fun i _ => n.kids.length - (intOf i).toNat)
 case atStart => exact ⟨0, S, f + 1, s, rfl, Nat.zero_le _, HAT1, Mv.refl _ _ _, rfl, rfl⟩
 case round =>
  clear q0 q1 q2 q3;obtain ⟨j, S1, f1, s1, rfl, hj, HAT, HMV, HRUN, HLEN⟩ := hrel;have HB := hid (HMV.out.blk HB1.out hnS hng);obtain ⟨q0, q1, q2, q3, _, _, _, _, hg4⟩ := Blk.four HB.out.1
  by_cases c1 : j < n.kids.length
  ·have d1 : decide ((j : Int) < (n.kids.length : Int)) = true := dT (by omega)
   have d1n : decide (j < n.kids.length) = true := dT (by omega);have d1' : (j : Int) < (n.kids.length : Int) := by omega
   obtain ⟨g, o, sx, rfl, hg, m0, m1, m2, m3, hrk⟩ := HSL.out.get j c1;obtain ⟨Ax, capx, rfl⟩ := hrk.slice;have HRK := hid (hrk.low HAT.out.low);have HDX := hid (depth_mem (List.getElem_mem (l := n.kids) (n := j) c1));have HP2 := hid (HP1.out.mv HMV.out);have a0 := Low.cell HAT.out.low m0;have a1 := Low.cell HAT.out.low m1;have a2 := Low.cell HAT.out.low m2;have a3 := Low.cell HAT.out.low m3;have hgw : g < wr.heap.size := bL a0;clear m0 m1 m2 m3 hrk hg
   by_cases j0 : j = 0
   ·subst j0
    simp only [Nat.zero_mul, Nat.add_zero] at a0 a1 a2 a3;cases he : n.kids[0].kids.isEmpty with
    | false =>
     have hB : rootB 0 n.kids[0] = true := by unfold rootB; rw [if_pos rfl, he]; rfl
     have hl0 : 0 < n.kids[0].kids.length := by have h := he; rw [List.isEmpty_eq_false_iff] at h; exact List.length_pos_iff.2 h
     have e1 : decide ((0 : Int) < (n.kids[0].kids.length : Int)) = true := dT (by omega);have e1n : decide (0 < n.kids[0].kids.length) = true := dT (by omega);clear he;have HR2 := hid (show runSegs k.C k.T ((LI (fun _ => 0) rootB n.kids).drop (0 + 1)) p (0 + 1) (f1 + segLen (0, true, n.kids[0])) (runRow k.C k.T n.kids[0].kids (p ++ [0]) 0 (f1 + 0 + (true).toNat) s1) = runSegs k.C k.T (LI (fun _ => 0) rootB n.kids) p 0 (f + 1) s by rw [← HRUN.out, LI_drop _ _ _ _ c1, hB, run_cons]);have HLX := hid (show f1 + ((0 + 2 * (true).toNat + (rowT n.kids[0].kids).length) + segsLen ((LI (fun _ => 0) rootB n.kids).drop (0 + 1))) = f + 1 + segsLen (LI (fun _ => 0) rootB n.kids) by rw [← HLEN.out, LI_drop _ _ _ _ c1, hB, segsLen, Tr.segLen_eq]);clear hB;go_wp2_with fail
     have g0 := cR q0;have g1 := cR q1;have g2 := cR q2;have g3 := cR q3;have h0 := cR a0;have h1 := cR a1;have h2 := cR a2;have h3 := cR a3;refine wp_region_mix [([(0, true), (1, true), (2, true), (3, true), (4, true), (5, true), (6, true), (7, true), (8, true), (9, true), (10, true), (11, true)], 12)] [] (by kernel_rfl) (fun _ _ d _ _ h => by cases d <;> exact h) (by kernel_rfl) ?_;refine wpMix_seg ?_
     repeat (refine wpSeq_plain rfl (fun K hK => ?_); go_simp; refine hK _ ?_; clear hK K)
     refine wpSeq_shut rfl (fun K hK => ?_);go_wp2_with fail
     refine (slot_any HK.out n 0 c1 (HI.out n.kids[0] (List.getElem_mem c1)) (HAT.out.fresh HK.out (show Fresh wr _ from (Touch.refl _ _).drewN _)) HSL.out (HP2.out.mv (Mv.fresh ((Touch.refl _ _).drewN _))) (by have := HD.out; have := HDX.out; have := HDN.out; omega) true (by have := HLX.out; have := HF.out; simp only [Bool.toNat_true] at *; omega) (by have h1 := HLIM.out; rw [← HR2.out] at h1; exact HK.out.lim.2 _ _ _ _ _ h1)).mono ?_;rintro _ W7 ⟨rfl, S7, hat, hmv⟩;have HAT7 := hid hat;have HMV7 := hid ((HMV.out.trans (Mv.fresh ((Touch.refl _ _).drewN _))).trans hmv);clear hat hmv;clear q0 q1 q2 q3 a0 a1 a2 a3 g0 g1 g2 g3 h0 h1 h2 h3;go_wp2_with fail
     refine wpMix_end ?_;go_wp2_with fail
     go_roundw
     case rel => exact ⟨0 + 1, S7, f1 + segLen (0, true, n.kids[0]), _, rfl, c1, by have := HAT7.out; rw [Nat.add_assoc] at this; rw [Tr.segLen_eq, Nat.zero_add]; exact this, HMV7, HR2.out, by rw [Hid, ← HLX.out, Tr.segLen_eq]; omega⟩
     case measure => simp [intOf]; omega
    | true =>
     have hB : rootB 0 n.kids[0] = false := by unfold rootB; rw [if_pos rfl, he]; rfl
     have hl0 : n.kids[0].kids.length = 0 := by have h := he; rw [List.isEmpty_iff] at h; rw [h]; rfl
     have e1 : decide ((0 : Int) < (n.kids[0].kids.length : Int)) = false := dF (by omega);have e1n : decide (0 < n.kids[0].kids.length) = false := dF (by omega);clear he;have HR2 := hid (show runSegs k.C k.T ((LI (fun _ => 0) rootB n.kids).drop (0 + 1)) p (0 + 1) (f1 + segLen (0, false, n.kids[0])) (runRow k.C k.T n.kids[0].kids (p ++ [0]) 0 (f1 + 0 + (false).toNat) s1) = runSegs k.C k.T (LI (fun _ => 0) rootB n.kids) p 0 (f + 1) s by rw [← HRUN.out, LI_drop _ _ _ _ c1, hB, run_cons]);have HLX := hid (show f1 + ((0 + 2 * (false).toNat + (rowT n.kids[0].kids).length) + segsLen ((LI (fun _ => 0) rootB n.kids).drop (0 + 1))) = f + 1 + segsLen (LI (fun _ => 0) rootB n.kids) by rw [← HLEN.out, LI_drop _ _ _ _ c1, hB, segsLen, Tr.segLen_eq]);clear hB;go_wp2_with fail
     have g0 := cR q0;have g1 := cR q1;have g2 := cR q2;have g3 := cR q3;have h0 := cR a0;have h1 := cR a1;have h2 := cR a2;have h3 := cR a3;refine wp_region_mix [([(0, true), (1, true), (2, true), (3, true), (4, true), (5, true), (6, true), (7, true), (8, true), (9, true), (10, true), (11, true)], 12)] [] (by kernel_rfl) (fun _ _ d _ _ h => by cases d <;> exact h) (by kernel_rfl) ?_;refine wpMix_seg ?_
     repeat (refine wpSeq_plain rfl (fun K hK => ?_); go_simp; refine hK _ ?_; clear hK K)
     refine wpSeq_shut rfl (fun K hK => ?_);go_wp2_with fail
     refine (slot_any HK.out n 0 c1 (HI.out n.kids[0] (List.getElem_mem c1)) (HAT.out.fresh HK.out (show Fresh wr _ from (Touch.refl _ _).drewN _)) HSL.out (HP2.out.mv (Mv.fresh ((Touch.refl _ _).drewN _))) (by have := HD.out; have := HDX.out; have := HDN.out; omega) false (by have := HLX.out; have := HF.out; simp only [Bool.toNat_false] at *; omega) (by have h1 := HLIM.out; rw [← HR2.out] at h1; exact HK.out.lim.2 _ _ _ _ _ h1)).mono ?_;rintro _ W7 ⟨rfl, S7, hat, hmv⟩;have HAT7 := hid hat;have HMV7 := hid ((HMV.out.trans (Mv.fresh ((Touch.refl _ _).drewN _))).trans hmv);clear hat hmv;clear q0 q1 q2 q3 a0 a1 a2 a3 g0 g1 g2 g3 h0 h1 h2 h3;go_wp2_with fail
     refine wpMix_end ?_;go_wp2_with fail
     go_roundw
     case rel => exact ⟨0 + 1, S7, f1 + segLen (0, false, n.kids[0]), _, rfl, c1, by have := HAT7.out; rw [Nat.add_assoc] at this; rw [Tr.segLen_eq, Nat.zero_add]; exact this, HMV7, HR2.out, by rw [Hid, ← HLX.out, Tr.segLen_eq]; omega⟩
     case measure => simp [intOf]; omega
   ·have e0 : ((j : Int) == 0) = false := by rw [beq_eq_false_iff_ne]; omega
    have e0n : (j == 0) = false := by rw [beq_eq_false_iff_ne]; exact j0
    have hB : rootB j n.kids[j] = Tr.grp n.kids[j] := by unfold rootB; rw [if_neg j0]
    have HR2 := hid (show runSegs k.C k.T ((LI (fun _ => 0) rootB n.kids).drop (j + 1)) p (j + 1) (f1 + segLen (0, Tr.grp n.kids[j], n.kids[j])) (runRow k.C k.T n.kids[j].kids (p ++ [j]) 0 (f1 + 0 + (Tr.grp n.kids[j]).toNat) s1) = runSegs k.C k.T (LI (fun _ => 0) rootB n.kids) p 0 (f + 1) s by rw [← HRUN.out, LI_drop _ _ _ _ c1, hB, run_cons]);have HLX := hid (show f1 + ((0 + 2 * (Tr.grp n.kids[j]).toNat + (rowT n.kids[j].kids).length) + segsLen ((LI (fun _ => 0) rootB n.kids).drop (j + 1))) = f + 1 + segsLen (LI (fun _ => 0) rootB n.kids) by rw [← HLEN.out, LI_drop _ _ _ _ c1, hB, segsLen, Tr.segLen_eq]);clear hB;go_wp2_with fail
    have g0 := cR q0;have g1 := cR q1;have g2 := cR q2;have g3 := cR q3;have h0 := cR a0;have h1 := cR a1;have h2 := cR a2;have h3 := cR a3;refine wp_region_mix [([(0, true), (1, true), (2, true), (3, true), (4, true), (5, true), (6, true), (7, true), (8, true), (9, false)], 10)] [] (by kernel_rfl) (fun _ _ d _ _ h => by cases d <;> exact h) (by kernel_rfl) ?_;refine wpMix_seg ?_
    repeat (refine wpSeq_plain rfl (fun K hK => ?_); go_simp; refine hK _ ?_; clear hK K)
    refine wpSeq_lone rfl (fun K hK => ?_);go_wp2_with fail
    refine (wgroup_any n.kids[j] _ _ (HRK.out.fresh (show Fresh wr _ from (Touch.refl _ _).drewN _))).mono ?_;rintro _ W5 ⟨rfl, hf5⟩;have HF5 := hid (show Fresh wr W5 from Touch.ofN hf5);clear hf5;go_wp2_with fail
    refine hK _ _ (growing_fresh HF5.out) ?_;clear hK K;refine wpSeq_shut rfl (fun K hK => ?_);go_wp2_with fail
    refine (slot_any HK.out n j c1 (HI.out n.kids[j] (List.getElem_mem c1)) (HAT.out.fresh HK.out HF5.out) HSL.out (HP2.out.mv (Mv.fresh HF5.out)) (by have := HD.out; have := HDX.out; have := HDN.out; omega) (Tr.grp n.kids[j]) (by have := HLX.out; have := HF.out; omega) (by have h1 := HLIM.out; rw [← HR2.out] at h1; exact HK.out.lim.2 _ _ _ _ _ h1)).mono ?_;rintro _ W7 ⟨rfl, S7, hat, hmv⟩;have HAT7 := hid hat;have HMV7 := hid ((HMV.out.trans (Mv.fresh HF5.out)).trans hmv);clear hat hmv;clear q0 q1 q2 q3 a0 a1 a2 a3 g0 g1 g2 g3 h0 h1 h2 h3;go_wp2_with fail
    refine wpMix_end ?_;go_wp2_with fail
    go_roundw
    case rel => exact ⟨j + 1, S7, f1 + segLen (0, Tr.grp n.kids[j], n.kids[j]), _, by go_num, c1, by have := HAT7.out; rw [Nat.add_assoc] at this; rw [Tr.segLen_eq, Nat.zero_add]; exact this, HMV7, HR2.out, by rw [Hid, ← HLX.out, Tr.segLen_eq]; omega⟩
    case measure => simp [intOf]; omega
  ·have d1 : decide ((j : Int) < (n.kids.length : Int)) = false := dF (by omega)
   have d1n : decide (j < n.kids.length) = false := dF (by omega);obtain rfl : j = n.kids.length := by omega
   go_wp2_with fail
   go_end0
   exact ⟨rfl, S1, by have := HAT.out; have h1 := HLEN.out; have h2 := HRUN.out; rw [LI_end] at h1 h2; rw [run_nil] at h2; rw [segsLen, Nat.add_zero] at h1; rw [h1, h2] at this; exact this, HMV1.out.trans HMV.out⟩
variable {σ κ : Type}
theorem tree_round {k : Wk σ κ} (hk : k.Good) (n : Nd) (h7 : (n.kind == 7) = false) (h8 : (n.kind == 8) = false) (h9 : (n.kind == 9) = false) (h11 : (n.kind == 11) = true) (t1 : (n.text == [40, 41]) = true) (h1 : n.kids.length = 1) (hrows : ∀ a ∈ n.kids, k.RowS a) :
  k.TreeAs n 0 (LI (fun _ => 0) (fun _ _ => true) n.kids) 0 := by
 intro S f s w p v sl h hsl hp hd hf hlim;have HLIM := hid hlim;clear hlim;have hlen := hsl.len;unfold maxLen at hlen;obtain ⟨A, cap, rfl⟩ := hsl.slice;obtain ⟨Ap, capp, rfl⟩ := hp.slice;have HK := hid hk;have HAT0 := hid h;have HP0 := hid hp;have HSL := hid hsl;have HI := hid hrows;have HD := hid hd;have HF := hid hf;have HDN := hid (Tr.depth_kids n);have hnS : ¬ S w.heap.size := fun e => absurd (h.slt hk _ e) (Nat.lt_irrefl _)
 have hng : w.heap.size ≠ k.g := by have := h.glt; omega
 have c1 : 0 < n.kids.length := by omega
 have H1 := hid h1;have t1' : ((⟨n.text.toArray⟩ : ByteArray).toList == [40, 41]) = true := by rw [ByteArray.toList_eq]; exact t1
 clear h1;have hd1 : (LI (fun _ => 0) (fun _ _ => true) n.kids).drop 1 = [] := by rw [← H1.out]; exact LI_end _ _ _
 have HL := hid (show LI (fun _ => 0) (fun _ _ => true) n.kids = [(0, true, n.kids[0])] by
  have := LI_drop (fun _ => 0) (fun _ _ => true) n.kids 0 c1;rw [List.drop_zero, hd1] at this;exact this)
 have HDX := hid (depth_mem (List.getElem_mem (l := n.kids) (n := 0) c1));clear hd1;have HLIM2 := hid (by have h1 := HLIM.out; rw [HL.out, run_cons, run_nil] at h1; exact h1);unfold Wk.Ends;rw [HL.out] at hf ⊢;rw [run_cons, run_nil];rw [segsLen, segsLen, Tr.segLen_eq] at hf ⊢;have HF2 := hid hf;go_enter Tryz.func88, Tryz.ntmps88;go_wp2_with fail
 refine (slot_any HK.out n 0 c1 (HI.out n.kids[0] (List.getElem_mem c1)) (HAT0.out.fresh HK.out ((Touch.refl _ _).alloc _)) HSL.out (HP0.out.mv (Mv.fresh ((Touch.refl _ _).alloc _))) (by have := HD.out; have := HDX.out; have := HDN.out; omega) true (by have := HF2.out; omega) HLIM2.out).mono ?_;rintro _ W7 ⟨rfl, S7, hat, hmv⟩;have HAT7 := hid hat;have HMV7 := hid ((Mv.fresh (show Fresh w _ from (Touch.refl _ _).alloc _)).trans hmv);clear hat hmv;go_wp2_with fail
 first | go_end0 | refine bodyPost_ret (v := .tuple #[]) (results_none rfl _ _ _) rfl ?_
 refine ⟨rfl, S7, ?_, HMV7.out⟩;have := HAT7.out;simp only [Nat.zero_add, Nat.add_zero, ← Nat.add_assoc] at this ⊢;exact this
theorem tree_square {k : Wk σ κ} (hk : k.Good) (n : Nd) (h7 : (n.kind == 7) = false) (h8 : (n.kind == 8) = false) (h9 : (n.kind == 9) = false) (h11 : (n.kind == 11) = true) (t1 : (n.text == [40, 41]) = false) (t2 : (n.text == [91, 93]) = true) (h1 : n.kids.length = 1) (hrows : ∀ a ∈ n.kids, k.RowS a) :
  k.TreeAs n 0 (LI (fun _ => 0) (fun _ _ => true) n.kids) 0 := by
 intro S f s w p v sl h hsl hp hd hf hlim;have HLIM := hid hlim;clear hlim;have hlen := hsl.len;unfold maxLen at hlen;obtain ⟨A, cap, rfl⟩ := hsl.slice;obtain ⟨Ap, capp, rfl⟩ := hp.slice;have HK := hid hk;have HAT0 := hid h;have HP0 := hid hp;have HSL := hid hsl;have HI := hid hrows;have HD := hid hd;have HF := hid hf;have HDN := hid (Tr.depth_kids n);have hnS : ¬ S w.heap.size := fun e => absurd (h.slt hk _ e) (Nat.lt_irrefl _)
 have hng : w.heap.size ≠ k.g := by have := h.glt; omega
 have c1 : 0 < n.kids.length := by omega
 have H1 := hid h1;have t1' : ((⟨n.text.toArray⟩ : ByteArray).toList == [40, 41]) = false := by rw [ByteArray.toList_eq]; exact t1
 have t2' : ((⟨n.text.toArray⟩ : ByteArray).toList == [91, 93]) = true := by rw [ByteArray.toList_eq]; exact t2
 clear h1;have hd1 : (LI (fun _ => 0) (fun _ _ => true) n.kids).drop 1 = [] := by rw [← H1.out]; exact LI_end _ _ _
 have HL := hid (show LI (fun _ => 0) (fun _ _ => true) n.kids = [(0, true, n.kids[0])] by
  have := LI_drop (fun _ => 0) (fun _ _ => true) n.kids 0 c1;rw [List.drop_zero, hd1] at this;exact this)
 have HDX := hid (depth_mem (List.getElem_mem (l := n.kids) (n := 0) c1));clear hd1;have HLIM2 := hid (by have h1 := HLIM.out; rw [HL.out, run_cons, run_nil] at h1; exact h1);unfold Wk.Ends;rw [HL.out] at hf ⊢;rw [run_cons, run_nil];rw [segsLen, segsLen, Tr.segLen_eq] at hf ⊢;have HF2 := hid hf;go_enter Tryz.func88, Tryz.ntmps88;go_wp2_with fail
 refine (slot_any HK.out n 0 c1 (HI.out n.kids[0] (List.getElem_mem c1)) (HAT0.out.fresh HK.out ((Touch.refl _ _).alloc _)) HSL.out (HP0.out.mv (Mv.fresh ((Touch.refl _ _).alloc _))) (by have := HD.out; have := HDX.out; have := HDN.out; omega) true (by have := HF2.out; omega) HLIM2.out).mono ?_;rintro _ W7 ⟨rfl, S7, hat, hmv⟩;have HAT7 := hid hat;have HMV7 := hid ((Mv.fresh (show Fresh w _ from (Touch.refl _ _).alloc _)).trans hmv);clear hat hmv;go_wp2_with fail
 first | go_end0 | refine bodyPost_ret (v := .tuple #[]) (results_none rfl _ _ _) rfl ?_
 refine ⟨rfl, S7, ?_, HMV7.out⟩;have := HAT7.out;simp only [Nat.zero_add, Nat.add_zero, ← Nat.add_assoc] at this ⊢;exact this
theorem tree_matrix {k : Wk σ κ} (hk : k.Good) (n : Nd) (h12 : n.kind = 12) (hrows : ∀ a ∈ n.kids, k.RowS a) :
  k.TreeAs n 1 (LI (fun _ => 1) (fun _ _ => false) n.kids) 1 := by
 have h7 : (n.kind == 7) = false := by rw [h12]; rfl
 have h8 : (n.kind == 8) = false := by rw [h12]; rfl
 have h9 : (n.kind == 9) = false := by rw [h12]; rfl
 have h11 : (n.kind == 11) = false := by rw [h12]; rfl
 have h12' : (n.kind == 12) = true := by rw [h12]; rfl
 clear h12;intro S f s w p v sl h hsl hp hd hf hlim;have HLIM := hid hlim;clear hlim;have hlen := hsl.len;unfold maxLen at hlen;obtain ⟨A, cap, rfl⟩ := hsl.slice;obtain ⟨Ap, capp, rfl⟩ := hp.slice;have HK := hid hk;have HAT0 := hid h;have HP0 := hid hp;have HSL := hid hsl;have HI := hid hrows;have HD := hid hd;have HF := hid hf;have HDN := hid (Tr.depth_kids n);have hnS : ¬ S w.heap.size := fun e => absurd (h.slt hk _ e) (Nat.lt_irrefl _)
 have hng : w.heap.size ≠ k.g := by have := h.glt; omega
 obtain ⟨_, b1, _, _, bf⟩ := h.cells;have hglt := h.glt;have hb0 : (f : Int) ≤ 100000 := by have := hk.len; omega
 have hb1 : 0 ≤ (f : Int) := by omega
 go_enter Tryz.func88, Tryz.ntmps88;go_wp2_with fail
 refine forget_world (fun W => k.At S (f + 1) s W ∧ Mv k.g S S w W ∧ Blk W w.heap.size 26 #[.int .i64 n.kind, .string ⟨n.text.toArray⟩, .int .i64 n.cols, .slice A n.kids.length cap]) ?_ ?_
 ·obtain ⟨hn1, hn2⟩ := HAT0.out.next HK.out (f' := f + 1) ((f : Int) + 1) (by omega)
  have hsz : w.heap.size = (w.setCell ⟨k.g, 1, none⟩ (.int .i64 ((f : Int) + 1))).heap.size := by simp [World.setCell]
  refine ⟨hn1.fresh HK.out ((Touch.refl _ _).alloc _), hn2.trans (Mv.fresh ((Touch.refl _ _).alloc _)), ?_⟩;rw [hsz];exact Blk.new _ _ _
 rintro W1 ⟨hat1, hmv1, hb1'⟩;have HAT1 := hid hat1;have HMV1 := hid hmv1;have HB1 := hid hb1';have HP1 := hid (HP0.out.mv hmv1);obtain ⟨q0, q1, q2, q3, _, _, _, _, hg4⟩ := Blk.four hb1';clear hat1 hmv1 hb1' h hp hsl hd hf b1 bf hglt hb0 hb1;go_wp2_with fail
 go_loopw [86] (fun i wr => ∃ (j : Nat) (S1 : Nat → Prop) (f1 : Nat) (s1 : σ), i = .int .i64 j ∧ j ≤ n.kids.length ∧ Hid (k.At S1 f1 s1 wr) ∧ Hid (Mv k.g S S1 W1 wr) ∧ Hid (runSegs k.C k.T ((LI (fun _ => 1) (fun _ _ => false) n.kids).drop j) p j f1 s1 = runSegs k.C k.T (LI (fun _ => 1) (fun _ _ => false) n.kids) p 0 (f + 1) s) ∧ Hid (f1 + segsLen ((LI (fun _ => 1) (fun _ _ => false) n.kids).drop j) = f + 1 + segsLen (LI (fun _ => 1) (fun _ _ => false) n.kids))) (fun i _ => n.kids.length - (intOf i).toNat)
 case atStart => exact ⟨0, S, f + 1, s, rfl, Nat.zero_le _, HAT1, Mv.refl _ _ _, rfl, rfl⟩
 case round =>
  clear q0 q1 q2 q3;obtain ⟨j, S1, f1, s1, rfl, hj, HAT, HMV, HRUN, HLEN⟩ := hrel;have HB := hid (HMV.out.blk HB1.out hnS hng);obtain ⟨q0, q1, q2, q3, _, _, _, _, hg4⟩ := Blk.four HB.out.1
  by_cases c1 : j < n.kids.length
  ·have d1 : decide ((j : Int) < (n.kids.length : Int)) = true := dT (by omega)
   have d1n : decide (j < n.kids.length) = true := dT (by omega);have d1' : (j : Int) < (n.kids.length : Int) := by omega
   obtain ⟨g, o, sx, rfl, hg, m0, m1, m2, m3, hrk⟩ := HSL.out.get j c1;obtain ⟨Ax, capx, rfl⟩ := hrk.slice;have HRK := hid (hrk.low HAT.out.low);have HDX := hid (depth_mem (List.getElem_mem (l := n.kids) (n := j) c1));have HP2 := hid (HP1.out.mv HMV.out);have a0 := Low.cell HAT.out.low m0;have a1 := Low.cell HAT.out.low m1;have a2 := Low.cell HAT.out.low m2;have a3 := Low.cell HAT.out.low m3;have hgw : g < wr.heap.size := bL a0;clear m0 m1 m2 m3 hrk hg;have HR2 := hid (show runSegs k.C k.T ((LI (fun _ => 1) (fun _ _ => false) n.kids).drop (j + 1)) p (j + 1) (f1 + segLen (1, false, n.kids[j])) (runRow k.C k.T n.kids[j].kids (p ++ [j]) 0 (f1 + 1 + (false).toNat) s1) = runSegs k.C k.T (LI (fun _ => 1) (fun _ _ => false) n.kids) p 0 (f + 1) s by rw [← HRUN.out, LI_drop _ _ _ _ c1, run_cons]);have HLX := hid (show f1 + ((1 + 2 * (false).toNat + (rowT n.kids[j].kids).length) + segsLen ((LI (fun _ => 1) (fun _ _ => false) n.kids).drop (j + 1))) = f + 1 + segsLen (LI (fun _ => 1) (fun _ _ => false) n.kids) by rw [← HLEN.out, LI_drop _ _ _ _ c1, segsLen, Tr.segLen_eq]);obtain ⟨_, b1, _, _, bf⟩ := HAT.out.cells;have hglt := HAT.out.glt;have hb0 : (f1 : Int) ≤ 100000 := by have := HLEN.out; have := HF.out; have := HK.out.len; omega
   have hb1 : 0 ≤ (f1 : Int) := by omega
   go_wp2_with fail
   have HNX := hid (HAT.out.next HK.out (f' := f1 + 1) ((f1 : Int) + 1) (by omega));refine (slot_any HK.out n j c1 (HI.out n.kids[j] (List.getElem_mem c1)) HNX.out.1 HSL.out (HP2.out.mv HNX.out.2) (by have := HD.out; have := HDX.out; have := HDN.out; omega) false (by have := HLX.out; have := HF.out; simp only [Bool.toNat_false] at *; omega) (by have h1 := HLIM.out; rw [← HR2.out] at h1; exact HK.out.lim.2 _ _ _ _ _ h1)).mono ?_;rintro _ W7 ⟨rfl, S7, hat, hmv⟩;have HAT7 := hid hat;have HMV7 := hid ((HMV.out.trans HNX.out.2).trans hmv);clear hat hmv;clear q0 q1 q2 q3 a0 a1 a2 a3 b1 bf hglt hb0 hb1;go_wp2_with fail
   go_roundw
   case rel => exact ⟨j + 1, S7, f1 + segLen (1, false, n.kids[j]), _, by go_num, c1, by have := HAT7.out; rw [Tr.segLen_eq, ← Nat.add_assoc, ← Nat.add_assoc]; exact this, HMV7, HR2.out, by rw [Hid, ← HLX.out, Tr.segLen_eq]; omega⟩
   case measure => simp [intOf]; omega
  ·have d1 : decide ((j : Int) < (n.kids.length : Int)) = false := dF (by omega)
   have d1n : decide (j < n.kids.length) = false := dF (by omega);obtain rfl : j = n.kids.length := by omega
   obtain ⟨_, b1, _, _, bf⟩ := HAT.out.cells;have hglt := HAT.out.glt;have hb0 : (f1 : Int) ≤ 100000 := by have := HLEN.out; have := HF.out; have := HK.out.len; omega
   have hb1 : 0 ≤ (f1 : Int) := by omega
   have HNX := hid (HAT.out.next HK.out (f' := f1 + 1) ((f1 : Int) + 1) (by omega));go_wp2_with fail
   first | go_end0 | refine bodyPost_ret (v := .tuple #[]) (results_none rfl _ _ _) rfl ?_
   refine ⟨rfl, S1, ?_, (HMV1.out.trans HMV.out).trans HNX.out.2⟩;have := HNX.out.1;have h1 := HLEN.out;have h2 := HRUN.out;rw [LI_end] at h1 h2;rw [run_nil] at h2;rw [segsLen, Nat.add_zero] at h1;rw [← h1, ← h2];exact this
end Go.Proofs.YtncnoeoicaglaaaGreat
