/- Part 9 of 42 of a proof; its texts, joined: NdH, NdI, NdJ, TrS. No condition. -/
import Derived.Test.YtomibmenojdieaaGreatXx8
import Derived.Test.YtomibmenojdieaaGreatXx7
set_option maxRecDepth 100000
set_option maxHeartbeats 4000000
namespace Go.Proofs.YtomibmenojdieaaGreat
open Go.RowKit
mutual
def chkN : Nat → Tr.Nd → Bool
 | d, .mk k t c ks => decide (d ≤ 24) && (ownF (.mk k t c ks) && chkL (k == 1) (d + 1) ks)
def chkL : Bool → Nat → List Tr.Nd → Bool
 | _, _, [] => true
 | r, d, n :: ns => (!((n.kind == 1) == r)) && (chkN d n && chkL r d ns)
end
theorem chkN_eq (d : Nat) (n : Tr.Nd) : chkN d n = (decide (d ≤ 24) && (ownF n && chkL (n.kind == 1) (d + 1) n.kids)) := by cases n; rw [chkN]; rfl
theorem chkL_take (r : Bool) (d : Nat) : ∀ (l : List Tr.Nd) (i : Nat) (h : i < l.length), chkL r d (l.take (i + 1)) = (chkL r d (l.take i) && ((!((l[i].kind == 1) == r)) && chkN d l[i]))
 | [], i, h => by simp at h
 | x :: l, 0, h => by simp [chkL]
 | x :: l, i + 1, h => by
  simp only [List.take_succ_cons, chkL, List.getElem_cons_succ];rw [chkL_take r d l i (by simpa using h)];simp only [Bool.and_assoc]
theorem chkL_no (r : Bool) (d : Nat) : ∀ (l : List Tr.Nd) (i : Nat) (h : i < l.length), ((!((l[i].kind == 1) == r)) && chkN d l[i]) = false → chkL r d l = false
 | [], i, h, _ => by simp at h
 | x :: l, 0, h, hn => by
  simp only [List.getElem_cons_zero] at hn;rw [chkL, ← Bool.and_assoc, hn, Bool.false_and]
 | x :: l, i + 1, h, hn => by
  simp only [List.getElem_cons_succ] at hn;rw [chkL, chkL_no r d l i (by simpa using h) hn, Bool.and_false, Bool.and_false]
def NodeEnd (c : Nat) (d m : Nat) (n : Tr.Nd) (w : World) (e : Ending) (w' : World) : Prop :=
 ∃ m' : Nat, e = .returned (.bool (chkN d n && decide (m + Tr.count n ≤ 1000))) ∧ Blk w' c 87 (checkCells m') ∧ Touch (· = c) w w' ∧ ((chkN d n && decide (m + Tr.count n ≤ 1000)) = true → m' = m + Tr.count n)
theorem check_put (m : Nat) : (checkCells (m : Int)).setIfInBounds 39 (.int .i64 ((m : Int) + 1)) = checkCells ((m + 1 : Nat) : Int) := by rfl
theorem check_39 (m : Int) : (checkCells m)[39]? = some (.int .i64 m) := by rfl
theorem node_any (W0 : World) (c : Nat) (hcW : W0.heap.size ≤ c) (k : Nat) : ∀ (n : Tr.Nd) (A : Option Addr) (g o cap d m : Nat) (dd : Int) (w : World), dd = d → Tr.count n ≤ k →
  W0.cell? ⟨g, o, none⟩ = some (.int .i64 n.kind) → W0.cell? ⟨g, o + 1, none⟩ = some (.string ⟨n.text.toArray⟩) → W0.cell? ⟨g, o + 2, none⟩ = some (.int .i64 n.cols) → W0.cell? ⟨g, o + 3, none⟩ = some (.slice A n.kids.length cap) →
  RepL W0 n.kids (.slice A n.kids.length cap) → n.text.length ≤ maxLen → Blk w c 87 (checkCells m) → Touch (· = c) W0 w → m ≤ 1000 → d ≤ 1000 →
  Calls Tryz.prog 32 #[.pointer (some ⟨c, 0, none⟩), .pointer (some ⟨g, o, none⟩), .int .i64 dd] w (NodeEnd c d m n w) := by
 induction k with
 | zero => intro n _ _ _ _ _ _ _ _ _ h; have := Tr.count_pos n; omega
 | succ k ih =>
  intro n A g o cap d m dd w hdd hcn a0 a1 a2 a3 hrep htx hb htw hm hd;subst hdd;have hgc : g < W0.heap.size := bL a0;have hne : g ≠ c := by omega
  have hlen := hrep.len;unfold maxLen at htx hlen;have hck := Tr.count_kids n;have hnl := Tr.countL_len n.kids;have HIH := hid ih;have HREP := hid hrep;have HCE := hid (chkN_eq d n);have HTW := hid htw;have HB := hid hb;have ht1 : Touch (· = c) w (w.setCell ⟨c, 39, none⟩ (.int .i64 ((m : Int) + 1))) := Touch.setCell (S := (· = c)) (Touch.refl _ w) (p := ⟨c, 39, none⟩) (.inl rfl) _
  have hb1 : Blk (w.setCell ⟨c, 39, none⟩ (.int .i64 ((m : Int) + 1))) c 87 (checkCells ((m + 1 : Nat) : Int)) := by
   rw [← check_put]; exact hb.put 39 _
  have q39 : w.cell? ⟨c, 39, none⟩ = some (.int .i64 (m : Int)) := (hb.cell 39).trans (check_39 m);have z39 : w.frozen? ⟨c, 39, none⟩ = false := hb.frozen 39;have r39 : (w.setCell ⟨c, 39, none⟩ (.int .i64 ((m : Int) + 1))).cell? ⟨c, 39, none⟩ = some (.int .i64 ((m : Int) + 1)) := (hb1.cell 39).trans (check_39 _);have HT1 := hid ht1;have HB1 := hid hb1;clear ih hrep htw hb ht1 hb1
  by_cases hm1 : m = 1000
  ·have lim : decide ((1000 : Int) < (m : Int) + 1) = true := dT (by omega)
   have limp : (1000 : Int) < (m : Int) + 1 := by omega
   have HCH := hid (show (chkN d n && decide (m + Tr.count n ≤ 1000)) = false by
    have := Tr.count_pos n;have e : decide (m + Tr.count n ≤ 1000) = false := dF (by omega);rw [e, Bool.and_false])
   clear hm1 HCE;go_enter Tryz.func32, Tryz.ntmps32;go_wp2_with fail
   go_ret;exact ⟨m + 1, by rw [HCH.out]; rfl, HB1.out, HT1.out, fun h => by rw [HCH.out] at h; cases h⟩
  have lim : decide ((1000 : Int) < (m : Int) + 1) = false := dF (by omega)
  by_cases hd24 : 24 < d
  ·have dl : decide ((24 : Int) < (d : Int)) = true := dT (by omega)
   have dln : decide (24 < d) = true := dT (by omega)
   have hch : chkN d n = false := by
    rw [HCE.out];have : decide (d ≤ 24) = false := dF (by omega);rw [this]; rfl
   have HCH := hid (show (chkN d n && decide (m + Tr.count n ≤ 1000)) = false by rw [hch]; rfl);clear hch HCE;go_enter Tryz.func32, Tryz.ntmps32;go_wp2_with fail
   go_ret;exact ⟨m + 1, by rw [HCH.out]; rfl, HB1.out, HT1.out, fun h => by rw [HCH.out] at h; cases h⟩
  ·have dl : decide ((24 : Int) < (d : Int)) = false := dF (by omega)
   have dln : decide (24 < d) = false := dF (by omega);have b0 := (HTW.out.trans HT1.out).cell a0 hne;have b1 := (HTW.out.trans HT1.out).cell a1 hne;have b2 := (HTW.out.trans HT1.out).cell a2 hne;have b3 := (HTW.out.trans HT1.out).cell a3 hne;have HOWN := hid (own_any n A cap c g o _ _ HB1.out htx b0 b1 b2 b3);have hd24' : decide (d ≤ 24) = true := dT (by omega);have HC2 := hid (show chkN d n = (ownF n && chkL (n.kind == 1) (d + 1) n.kids) by rw [HCE.out, hd24']; rfl);clear HCE hd24' b0 b1 b2 b3;go_enter Tryz.func32, Tryz.ntmps32;go_wp2_with fail
   refine HOWN.out.mono ?_;rintro _ w2 ⟨rfl, hf2⟩;have hb2 := hf2.blk HB1.out (fun h => h);have ht2 : Touch (· = c) w w2 := HT1.out.trans (hf2.mono (fun _ h => h.elim));have HB2 := hid hb2;have HT2 := hid ht2;have b0 := (HTW.out.trans ht2).cell a0 hne;have b3 := (HTW.out.trans ht2).cell a3 hne;clear hf2 hb2 ht2 r39 q39 z39;cases how : ownF n with
   | false =>
    have HCH := hid (show (chkN d n && decide (m + Tr.count n ≤ 1000)) = false by rw [HC2.out, how]; rfl);go_wp2_with fail
    go_ret;exact ⟨m + 1, by rw [HCH.out]; rfl, HB2.out, HT2.out, fun h => by rw [HCH.out] at h; cases h⟩
   | true =>
    have HC3 := hid (show chkN d n = chkL (n.kind == 1) (d + 1) n.kids by rw [HC2.out, how]; rfl);clear HC2 how;go_wp2_with fail
    go_loopw [35] (fun i wr => ∃ (j m' : Nat), i = .int .i64 j ∧ j ≤ n.kids.length ∧ Hid (Blk wr c 87 (checkCells m')) ∧ Hid (Touch (· = c) w wr) ∧ Hid (m' = m + 1 + Tr.countL (n.kids.take j) ∧ m' ≤ 1000) ∧ Hid (chkL (n.kind == 1) (d + 1) (n.kids.take j) = true)) (fun i _ => n.kids.length - (intOf i).toNat)
    case atStart => exact ⟨0, m + 1, rfl, Nat.zero_le _, HB2.out, HT2.out, ⟨by simp [Tr.countL], by omega⟩, by simp [chkL, Hid]⟩
    case round =>
     obtain ⟨j, m', rfl, hj, HB3, HT3, HM, HL⟩ := hrel
     by_cases c1 : j < n.kids.length
     ·have d1 : decide ((j : Int) < (n.kids.length : Int)) = true := dT (by omega)
      have d1n : decide (j < n.kids.length) = true := dT (by omega);have d1' : (j : Int) < (n.kids.length : Int) := by omega
      obtain ⟨g', o', sl, rfl, hg', n0, n1, n2, n3, hrk⟩ := HREP.out.get j c1;have htx' := HREP.out.texts j c1;obtain ⟨A', cap', rfl⟩ := hrk.slice;have hne' : g' ≠ c := by omega
      have e0 := (HTW.out.trans HT3.out).cell a0 hne;have e3 := (HTW.out.trans HT3.out).cell a3 hne;have x0 := (HTW.out.trans HT3.out).cell n0 hne';have hcm := Tr.count_mem (List.getElem_mem (l := n.kids) (n := j) c1);have hct := Tr.countL_take n.kids j c1;have hcl := Tr.countL_le n.kids (j + 1);have hcj := Tr.countL_le n.kids j;have HS := hid (chkL_take (n.kind == 1) (d + 1) n.kids j c1);have HN := hid (chkL_no (n.kind == 1) (d + 1) n.kids j c1);have HM0 := HM.out.1;have HM1 := HM.out.2;have HX := hid (fun (w' : World) (hb' : Blk w' c 87 (checkCells m')) (ht' : Touch (· = c) W0 w') => HIH.out n.kids[j] A' g' (o' + j * 4) cap' (d + 1) m' ((d : Int) + 1) w' (by omega) (by omega) n0 n1 n2 n3 hrk htx' hb' ht' (by omega) (by omega));have HCT := hid hct;clear n0 n1 n2 n3 hrk HIH HREP hct;generalize n.kids[j] = x at *;cases p1 : (n.kind == 1) with
      | false =>
       rw [p1] at HS HN;cases p2 : (x.kind == 1) with
       | false =>
        have HCH := hid (show (chkN d n && decide (m + Tr.count n ≤ 1000)) = false by rw [HC3.out, p1, HN.out (by rw [p2]; rfl)]; rfl);go_wp2_with fail
        go_quiet (fail)
        go_wp2_with fail
        go_ret;exact ⟨m', by rw [HCH.out]; rfl, HB3.out, HT3.out.drewN _, fun h => by rw [HCH.out] at h; cases h⟩
       | true =>
        go_wp2_with fail
        refine wp_region_segs [([0,1,2,3,4,5,6,7,8,9,10,11,12,13,14,15,16,17,18,19,20,21,22,23,24],25)] [26,27] (by kernel_rfl) (by kernel_rfl) ?_;simp only [wpSegs, pick, List.getElem?_cons_zero, List.getElem?_cons_succ]
        repeat (quiet_step (fail))
        refine wpQuiet_nil ?_;rintro _ ⟨nq, rfl⟩;go_wp2_with fail
        refine (HX.out _ (HB3.out.drewN nq) ((HTW.out.trans HT3.out).drewN nq)).mono ?_;rintro _ w5 ⟨m5, rfl, hb5, ht5, hm5'⟩;have HB5 := hid hb5;have HT5 := hid (HT3.out.trans (Touch.ofN ht5));clear hb5 ht5 e0 e3 x0;cases hx : (chkN (d + 1) x && decide (m' + Tr.count x ≤ 1000)) with
        | false =>
         have HCH := hid (show (chkN d n && decide (m + Tr.count n ≤ 1000)) = false by
          rcases Bool.and_eq_false_iff.1 hx with hx1 | hx1
          ·rw [HC3.out, p1, HN.out (by rw [hx1, Bool.and_false]), Bool.false_and]
          ·rw [decide_eq_false_iff_not] at hx1
           have := HCT.out;have e : decide (m + Tr.count n ≤ 1000) = false := dF (by omega);rw [e, Bool.and_false])
         rw [hx] at hm5';go_wp2_with fail
         repeat (quiet_step (fail))
         refine wpQuiet_nil ?_;rintro _ ⟨nq2, rfl⟩;go_wp2_with fail
         go_ret;exact ⟨m5, by rw [HCH.out]; rfl, HB5.out.drewN _, HT5.out.drewN _, fun h => by rw [HCH.out] at h; cases h⟩
        | true =>
         rw [hx] at hm5';have hm6 := hm5' rfl;clear hm5';obtain ⟨hx1, hx2⟩ := Bool.and_eq_true_iff.1 hx;rw [decide_eq_true_eq] at hx2
         have HL5 := hid (show chkL false (d + 1) (n.kids.take (j + 1)) = true by
          have hl := HL.out;rw [p1] at hl;rw [HS.out, hl, p2, hx1]; rfl)
         go_wp2_with fail
         repeat (quiet_step (fail))
         refine wpQuiet_nil ?_;rintro _ ⟨nq2, rfl⟩;go_wp2_with fail
         go_roundw
         case rel => exact ⟨j + 1, m5, by go_num, by omega, HB5.out.drewN _, HT5.out.drewN _, ⟨by rw [HCT.out]; omega, by omega⟩, HL5⟩
         case measure => simp [intOf]; omega
      | true =>
       rw [p1] at HS HN;cases p2 : (x.kind == 1) with
       | false =>
        go_wp2_with fail
        refine wp_region_segs [([0,1,2,3,4,5,6,7,8,9,10,11,12,13,14,15,16,17,18,19,20,21,22,23,24],25)] [26,27] (by kernel_rfl) (by kernel_rfl) ?_;simp only [wpSegs, pick, List.getElem?_cons_zero, List.getElem?_cons_succ]
        repeat (quiet_step (fail))
        refine wpQuiet_nil ?_;rintro _ ⟨nq, rfl⟩;go_wp2_with fail
        refine (HX.out _ (HB3.out.drewN nq) ((HTW.out.trans HT3.out).drewN nq)).mono ?_;rintro _ w5 ⟨m5, rfl, hb5, ht5, hm5'⟩;have HB5 := hid hb5;have HT5 := hid (HT3.out.trans (Touch.ofN ht5));clear hb5 ht5 e0 e3 x0;cases hx : (chkN (d + 1) x && decide (m' + Tr.count x ≤ 1000)) with
        | false =>
         have HCH := hid (show (chkN d n && decide (m + Tr.count n ≤ 1000)) = false by
          rcases Bool.and_eq_false_iff.1 hx with hx1 | hx1
          ·rw [HC3.out, p1, HN.out (by rw [hx1, Bool.and_false]), Bool.false_and]
          ·rw [decide_eq_false_iff_not] at hx1
           have := HCT.out;have e : decide (m + Tr.count n ≤ 1000) = false := dF (by omega);rw [e, Bool.and_false])
         rw [hx] at hm5';go_wp2_with fail
         repeat (quiet_step (fail))
         refine wpQuiet_nil ?_;rintro _ ⟨nq2, rfl⟩;go_wp2_with fail
         go_ret;exact ⟨m5, by rw [HCH.out]; rfl, HB5.out.drewN _, HT5.out.drewN _, fun h => by rw [HCH.out] at h; cases h⟩
        | true =>
         rw [hx] at hm5';have hm6 := hm5' rfl;clear hm5';obtain ⟨hx1, hx2⟩ := Bool.and_eq_true_iff.1 hx;rw [decide_eq_true_eq] at hx2
         have HL5 := hid (show chkL true (d + 1) (n.kids.take (j + 1)) = true by
          have hl := HL.out;rw [p1] at hl;rw [HS.out, hl, p2, hx1]; rfl)
         go_wp2_with fail
         repeat (quiet_step (fail))
         refine wpQuiet_nil ?_;rintro _ ⟨nq2, rfl⟩;go_wp2_with fail
         go_roundw
         case rel => exact ⟨j + 1, m5, by go_num, by omega, HB5.out.drewN _, HT5.out.drewN _, ⟨by rw [HCT.out]; omega, by omega⟩, HL5⟩
         case measure => simp [intOf]; omega
       | true =>
        have HCH := hid (show (chkN d n && decide (m + Tr.count n ≤ 1000)) = false by rw [HC3.out, p1, HN.out (by rw [p2]; rfl)]; rfl);go_wp2_with fail
        go_quiet (fail)
        go_wp2_with fail
        go_ret;exact ⟨m', by rw [HCH.out]; rfl, HB3.out, HT3.out.drewN _, fun h => by rw [HCH.out] at h; cases h⟩
     ·have d1 : decide ((j : Int) < (n.kids.length : Int)) = false := dF (by omega)
      have d1n : decide (j < n.kids.length) = false := dF (by omega);obtain rfl : j = n.kids.length := by omega
      have hl := HL.out;rw [List.take_length] at hl;obtain ⟨hmm, hmx⟩ := HM.out;rw [List.take_length] at hmm
      have HCH := hid (show (chkN d n && decide (m + Tr.count n ≤ 1000)) = true by
       have e : decide (m + Tr.count n ≤ 1000) = true := dT (by omega);rw [HC3.out, hl, e]; rfl)
      clear hl;go_wp2_with fail
      go_ret;exact ⟨m', by rw [HCH.out]; rfl, HB3.out, HT3.out, fun _ => by omega⟩
end Go.Proofs.YtomibmenojdieaaGreat
namespace Go.Proofs.YtomibmenojdieaaGreat
open Go.RowKit
attribute [local go_sem] Oper.semAt_some
theorem built_check : Tryz.prog.built 87 [(0, .agg kindCells)] = some (checkCells 0) := by kernel_rfl
theorem valid_any (n : Tr.Nd) (sl : Value) (w : World) (hr : RepL w n.kids sl) (ht : n.text.length ≤ maxLen) :
  Calls Tryz.prog 15 #[.agg #[.int .i64 n.kind, .string ⟨n.text.toArray⟩, .int .i64 n.cols, sl]] w fun e w' => e = .returned (.bool ((n.kind == 1) && (chkN 1 n && decide (Tr.count n ≤ 1000)))) ∧ Fresh w w' := by
 obtain ⟨A, cap, rfl⟩ := hr.slice;have HR := hid hr;clear hr;go_enter Tryz.func15, Tryz.ntmps15;go_wp2_with fail
 refine (kinds_any _).mono ?_;rintro _ w1 ⟨rfl, hf1⟩;have hf1' : Fresh w w1 := hf1.pre;have hb1 := hf1.blk (Blk.new w 35 #[.int .i64 n.kind, .string ⟨n.text.toArray⟩, .int .i64 n.cols, .slice A n.kids.length cap]) (fun h => h);obtain ⟨q0, q1, q2, q3, _, _, _, _, hg⟩ := Blk.four hb1;have HN := hid (node_any w1 w1.heap.size (Nat.le_refl _) _ n A w.heap.size 0 cap 1 0 1 (w1.alloc (.cells (checkCells 0) 87)) rfl (Nat.le_refl _) q0 q1 q2 q3 (HR.out.fresh hf1') ht (Blk.new _ _ _) ((Touch.refl _ _).alloc _) (by omega) (by decide));have HF1 := hid hf1';have hb2 := hb1.alloc (.cells (checkCells 0) 87);obtain ⟨r0, r1, r2, r3, _, _, _, _, hg2⟩ := Blk.four hb2;clear hf1 hf1' hb1 hb2;cases hk : (n.kind == 1) with
 | false =>
  go_wp2_with (refine wpList_build_kind [(0, .agg kindCells)] built_check _ rfl rfl rfl (.agg (checkCells 0)) rfl ?_)
  go_ret;exact ⟨ret_bool' _ _ (by rw [hk]; rfl), HF1.out.alloc _⟩
 | true =>
  go_wp2_with (refine wpList_build_kind [(0, .agg kindCells)] built_check _ rfl rfl rfl (.agg (checkCells 0)) rfl ?_)
  refine HN.out.mono ?_;rintro _ w2 ⟨m', rfl, hb3, ht3, _⟩;rw [Nat.zero_add];have hf2 : Fresh w w2 := HF1.out.trans' (Touch.pre ht3) (fun i hi => by right; have := HF1.out.size; omega);have HF2 := hid hf2;clear hf2 hb3 ht3 q0 q1 q2 q3 r0 r1 r2 r3;go_wp2_with fail
  go_ret;exact ⟨ret_bool' _ _ (by rw [hk]; rfl), HF2.out⟩
end Go.Proofs.YtomibmenojdieaaGreat
namespace Go.Proofs.YtomibmenojdieaaGreat
open Go.RowKit
theorem ownF_form (n : Tr.Nd) : ownF n = (Tr.textOK n.kind n.text && Tr.kidsOK n.kind n.cols n.kids.length) := by
 unfold ownF
 by_cases h1 : 1 ≤ n.kind
 ·by_cases h2 : n.kind ≤ 12
  ·simp [h1, h2]
  ·have : Tr.kidsOK n.kind n.cols n.kids.length = false := by
    unfold Tr.kidsOK;rw [if_neg (by omega)];split
    ·rfl
    ·rw [if_neg (by omega), if_neg (by omega), if_neg (by omega), if_neg (by omega), if_neg (by omega)]
   simp [this]
 ·have : Tr.kidsOK n.kind n.cols n.kids.length = false := by
   unfold Tr.kidsOK;rw [if_neg (by omega)];split
   ·rfl
   ·rw [if_neg (by omega), if_neg (by omega), if_neg (by omega), if_neg (by omega), if_neg (by omega)]
  simp [this]
theorem chk_form (n : Tr.Nd) : ∀ d, chkN d n = (Tr.form n && decide (d + Tr.depth n ≤ 25)) := by
 induction n using Tr.Nd.ind with
 | h n ih =>
  have hL : ∀ (r : Bool) (l : List Tr.Nd) (d : Nat), d ≤ 25 → (∀ x ∈ l, ∀ d, chkN d x = (Tr.form x && decide (d + Tr.depth x ≤ 25))) → chkL r d l = (Tr.formL r l && decide (d + Tr.depthL l ≤ 25)) := by
   intro r l
   induction l with
   | nil => intro d hd _; simp [chkL, Tr.formL, Tr.depthL, hd]
   | cons x l ihl =>
    intro d hd h;rw [chkL, Tr.formL, Tr.depthL, h x (by simp) d, ihl d hd (fun y hy => h y (by simp [hy]))]
    have e : decide (d + max (Tr.depth x) (Tr.depthL l) ≤ 25) = (decide (d + Tr.depth x ≤ 25) && decide (d + Tr.depthL l ≤ 25)) := by
     rw [Bool.eq_iff_iff, Bool.and_eq_true, decide_eq_true_iff, decide_eq_true_iff, decide_eq_true_iff]; omega
    rw [e, bne];generalize (!((x.kind == 1) == r)) = a;generalize Tr.form x = b;generalize Tr.formL r l = c;generalize decide (d + Tr.depth x ≤ 25) = p;generalize decide (d + Tr.depthL l ≤ 25) = q;cases a <;> cases b <;> cases c <;> cases p <;> cases q <;> rfl
  intro d;rw [chkN_eq, ownF_form, Tr.form_eq, Tr.depth_kids]
  by_cases hd : d ≤ 24
  ·rw [hL _ _ (d + 1) (by omega) ih]
   have e : decide (d + 1 + Tr.depthL n.kids ≤ 25) = decide (d + (Tr.depthL n.kids + 1) ≤ 25) := by
    rw [Bool.eq_iff_iff, decide_eq_true_iff, decide_eq_true_iff]; omega
   rw [e];simp [hd, Bool.and_assoc]
  ·have e : decide (d + (Tr.depthL n.kids + 1) ≤ 25) = false := dF (by omega)
   rw [e];simp [hd]
theorem valid_is (n : Tr.Nd) : ((n.kind == 1) && (chkN 1 n && decide (Tr.count n ≤ 1000))) = Tr.valid n := by
 rw [chk_form];unfold Tr.valid;have e2 : decide (1 + Tr.depth n ≤ 25) = decide (Tr.depth n ≤ 24) := by rw [Bool.eq_iff_iff, decide_eq_true_iff, decide_eq_true_iff]; omega
 rw [e2];cases (n.kind == 1) <;> cases Tr.form n <;> cases decide (Tr.depth n ≤ 24) <;> cases decide (Tr.count n ≤ 1000) <;> rfl
theorem valid_all (n : Tr.Nd) (sl : Value) (w : World) (hr : RepL w n.kids sl) (ht : n.text.length ≤ maxLen) :
  Calls Tryz.prog 15 #[.agg #[.int .i64 n.kind, .string ⟨n.text.toArray⟩, .int .i64 n.cols, sl]] w fun e w' => e = .returned (.bool (Tr.valid n)) ∧ Fresh w w' := by
 rw [← valid_is n]; exact valid_any n sl w hr ht
def NodesAt (W : World) : List Tr.Nd → List Value → Prop
 | [], cs => cs = []
 | k :: ks, cs => ∃ sl ds, cs = .int .i64 k.kind :: .string ⟨k.text.toArray⟩ :: .int .i64 k.cols :: sl :: ds ∧ RepL W k.kids sl ∧ k.text.length ≤ maxLen ∧ NodesAt W ks ds
theorem NodesAt.length {W : World} : ∀ {ks : List Tr.Nd} {cs : List Value}, NodesAt W ks cs → cs.length = ks.length * 4
 | [], cs, h => by rw [show cs = [] from h]; rfl
 | k :: ks, cs, ⟨sl, ds, h, _, _, hd⟩ => by
  have := NodesAt.length hd;rw [h];simp only [List.length_cons];omega
theorem NodesAt.fresh {W W' : World} (hf : Fresh W W') : ∀ {ks : List Tr.Nd} {cs : List Value}, NodesAt W ks cs → NodesAt W' ks cs
 | [], _, h => h
 | _ :: _, _, ⟨sl, ds, h, hr, ht, hd⟩ => ⟨sl, ds, h, hr.fresh hf, ht, hd.fresh hf⟩
theorem NodesAt.append {W : World} : ∀ {ks ms : List Tr.Nd} {cs ds : List Value}, NodesAt W ks cs → NodesAt W ms ds → NodesAt W (ks ++ ms) (cs ++ ds)
 | [], _, cs, _, h, h' => by rw [show cs = [] from h]; exact h'
 | _ :: _, _, _, _, ⟨sl, es, h, hr, ht, hd⟩, h' => ⟨sl, es ++ _, by rw [h]; rfl, hr, ht, hd.append h'⟩
theorem RepL.oneCell {W : World} {ks : List Tr.Nd} {v : Value} (h : RepL W ks v) : v.oneCell' = true := by
 obtain ⟨A, cap, rfl⟩ := h.slice;rfl
theorem NodesAt.oneCell {W : World} : ∀ {ks : List Tr.Nd} {cs : List Value}, NodesAt W ks cs → ∀ u ∈ cs, u.oneCell' = true
 | [], cs, h, u, hu => by rw [show cs = [] from h] at hu; cases hu
 | _ :: _, _, ⟨sl, ds, h, hr, _, hd⟩, u, hu => by
  rw [h] at hu
  rcases List.mem_cons.1 hu with rfl | hu
  ·rfl
  ·rcases List.mem_cons.1 hu with rfl | hu
   ·rfl
   ·rcases List.mem_cons.1 hu with rfl | hu
    ·rfl
    ·rcases List.mem_cons.1 hu with rfl | hu
     ·exact hr.oneCell
     ·exact hd.oneCell u hu
theorem nodes_of {W : World} {g : Nat} : ∀ (ks : List Tr.Nd) (o : Nat) (sl : Nat → Value), (∀ i (hi : i < ks.length), ks[i].text.length ≤ maxLen) → (∀ i (hi : i < ks.length), W.cell? ⟨g, o + i * 4, none⟩ = some (.int .i64 ks[i].kind)) →
  (∀ i (hi : i < ks.length), W.cell? ⟨g, o + i * 4 + 1, none⟩ = some (.string ⟨ks[i].text.toArray⟩)) → (∀ i (hi : i < ks.length), W.cell? ⟨g, o + i * 4 + 2, none⟩ = some (.int .i64 ks[i].cols)) → (∀ i, i < ks.length → W.cell? ⟨g, o + i * 4 + 3, none⟩ = some (sl i)) →
  (∀ i (hi : i < ks.length), RepL W ks[i].kids (sl i)) → ∃ cs, NodesAt W ks cs ∧ ∀ j u, cs[j]? = some u → W.cell? ⟨g, o + j, none⟩ = some u
 | [], o, sl, _, _, _, _, _, _ => ⟨[], rfl, fun j u hu => by simp at hu⟩
 | k :: ks, o, sl, ht, h0, h1, h2, h3, hk => by
  have e : ∀ i, o + (i + 1) * 4 = o + 4 + i * 4 := fun i => by omega
  obtain ⟨cs, hc, hx⟩ := nodes_of ks (o + 4) (fun i => sl (i + 1)) (fun i hi => ht (i + 1) (by simpa using hi)) (fun i hi => by rw [← e]; exact h0 (i + 1) (by simpa using hi)) (fun i hi => by rw [← e]; exact h1 (i + 1) (by simpa using hi))
   (fun i hi => by rw [← e]; exact h2 (i + 1) (by simpa using hi)) (fun i hi => by rw [← e]; exact h3 (i + 1) (by simpa using hi)) (fun i hi => hk (i + 1) (by simpa using hi))
  refine ⟨_, ⟨sl 0, cs, rfl, hk 0 (by simp), ht 0 (by simp), hc⟩, fun j u hu => ?_⟩
  match j, hu with
  | 0, hu => have := h0 0 (by simp); simp at hu this; rw [← hu]; exact this
  | 1, hu => have := h1 0 (by simp); simp at hu this; rw [← hu]; exact this
  | 2, hu => have := h2 0 (by simp); simp at hu this; rw [← hu]; exact this
  | 3, hu => have := h3 0 (by simp); simp at hu this; rw [← hu]; exact this
  | j + 4, hu =>
   have := hx j u (by simpa using hu);rw [show o + (j + 4) = o + 4 + j by omega];exact this
theorem RepL.cells {W : World} {ks : List Tr.Nd} {A : Option Addr} {n cap : Nat} (h : RepL W ks (.slice A n cap)) :
  n = ks.length ∧ ∃ cs, NodesAt W ks cs ∧ (ks = [] ∨ ∃ g o, A = some ⟨g, o, none⟩ ∧ g < W.heap.size ∧ ∀ j u, cs[j]? = some u → W.cell? ⟨g, o + j, none⟩ = some u) := by
 generalize hv : Value.slice A n cap = v at h;cases h with
 | nil A' cap' => cases hv; exact ⟨rfl, [], rfl, .inl rfl⟩
 | row g o cap' _ sl hg hl ht h0 h1 h2 h3 hk =>
  cases hv;obtain ⟨cs, h1', h2'⟩ := nodes_of ks o sl ht h0 h1 h2 h3 hk;exact ⟨rfl, cs, h1', .inr ⟨g, o, rfl, hg, h2'⟩⟩
theorem NodesAt.get {W : World} : ∀ {ks : List Tr.Nd} {cs : List Value}, NodesAt W ks cs → ∀ i (hi : i < ks.length), ∃ sl, cs[i * 4]? = some (.int .i64 ks[i].kind) ∧ cs[i * 4 + 1]? = some (.string ⟨ks[i].text.toArray⟩) ∧ cs[i * 4 + 2]? = some (.int .i64 ks[i].cols) ∧ cs[i * 4 + 3]? = some sl ∧
  RepL W ks[i].kids sl ∧ ks[i].text.length ≤ maxLen
 | [], _, _, i, hi => by simp at hi
 | k :: ks, cs, ⟨sl, ds, h, hr, ht, hd⟩, i, hi => by
  subst h;cases i with
  | zero => exact ⟨sl, rfl, rfl, rfl, rfl, hr, ht⟩
  | succ i =>
   obtain ⟨s, g0, g1, g2, g3, g4, g5⟩ := hd.get i (by simpa using hi);refine ⟨s, ?_, ?_, ?_, ?_, g4, g5⟩
   ·rw [show (i + 1) * 4 = i * 4 + 4 by omega]; exact g0
   ·rw [show (i + 1) * 4 + 1 = i * 4 + 1 + 4 by omega]; exact g1
   ·rw [show (i + 1) * 4 + 2 = i * 4 + 2 + 4 by omega]; exact g2
   ·rw [show (i + 1) * 4 + 3 = i * 4 + 3 + 4 by omega]; exact g3
theorem NodesAt.rep {W : World} {ks : List Tr.Nd} {cs : List Value} {g cap : Nat} (h : NodesAt W ks cs) (hg : g < W.heap.size) (hl : ks.length ≤ maxLen) (hc : ∀ j u, cs[j]? = some u → W.cell? ⟨g, j, none⟩ = some u) : RepL W ks (.slice (some ⟨g, 0, none⟩) ks.length cap) := by
 refine RepL.row g 0 cap ks (fun i => (cs[i * 4 + 3]?).getD (.bool false)) hg hl ?_ ?_ ?_ ?_ ?_ ?_
 all_goals (intro i hi; obtain ⟨sl, g0, g1, g2, g3, g4, g5⟩ := h.get i hi)
 ·exact g5
 ·rw [Nat.zero_add]; exact hc _ _ g0
 ·rw [Nat.zero_add]; exact hc _ _ g1
 ·rw [Nat.zero_add]; exact hc _ _ g2
 ·rw [Nat.zero_add, g3]; exact hc _ _ g3
 ·rw [g3]; exact g4
theorem NodesAt.own {W : World} {ks : List Tr.Nd} {cs : List Value} {B e : Nat} {v : Value} (h : NodesAt W ks cs) (ho : W.ownsRow B e 4 v ks.length cs) : RepL W ks v := by
 rcases ho.2 with ⟨rfl, h0⟩ | ⟨g, cap, cur, rfl, hB, hb, h1, h2, _⟩
 ·rw [List.length_eq_zero_iff.1 h0]
  exact .nil _ _
 ·exact h.rep (ho.lt g rfl).2 (Nat.le_trans h1 h2) fun j u hu => by
   have := ho.cells (g := g) rfl j u hu;rw [Addr.add_mid, Nat.zero_add] at this;exact this
end Go.Proofs.YtomibmenojdieaaGreat
