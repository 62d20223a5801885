/- Part 8 of 11 of a proof; its texts, joined: NdH, NdI, NdJ, PrU, PrV, SpF, SpG, LxG, LxN, LxT, LxK, LxV, LxR. No condition. -/
import Derived.Test.YtilgpmpiidccjaaPp7
import Derived.Test.YtilgpmpiidccjaaPp4
import Derived.Test.YtilgpmpiidccjaaPp3
import Derived.Test.YtilgpmpiidccjaaShelf
import Derived.Lib.IndexLaws
import Derived.RangeFuncNested
import Derived.OwnWalkIn
import Derived.TacticsInMore
import Derived.LoopIn
import Derived.Deep.Cut

/- The walk of checker.node. -/
namespace Go.Proofs.Ytilgpmpiidccjaa
open Go.RowKit

mutual
/-- What checker.node reports at a depth. -/
def chkN : Nat → Tr.Nd → Bool
  | d, .mk k t c ks => decide (d ≤ 24) && (ownF (.mk k t c ks) && chkL (k == 1) (d + 1) ks)
def chkL : Bool → Nat → List Tr.Nd → Bool
  | _, _, [] => true
  | r, d, n :: ns => (!((n.kind == 1) == r)) && (chkN d n && chkL r d ns)
end
theorem chkN_eq (d : Nat) (n : Tr.Nd) : chkN d n = (decide (d ≤ 24) && (ownF n && chkL (n.kind == 1) (d + 1) n.kids)) := by cases n; rw [chkN]; rfl
theorem chkL_take (r : Bool) (d : Nat) : ∀ (l : List Tr.Nd) (i : Nat) (h : i < l.length), chkL r d (l.take (i + 1)) = (chkL r d (l.take i) && ((!((l[i].kind == 1) == r)) && chkN d l[i]))
  | [], i, h => by simp at h
  | x :: l, 0, h => by simp [chkL]
  | x :: l, i + 1, h => by
    simp only [List.take_succ_cons, chkL, List.getElem_cons_succ]
    rw [chkL_take r d l i (by simpa using h)]
    simp only [Bool.and_assoc]
theorem chkL_no (r : Bool) (d : Nat) : ∀ (l : List Tr.Nd) (i : Nat) (h : i < l.length), ((!((l[i].kind == 1) == r)) && chkN d l[i]) = false → chkL r d l = false
  | [], i, h, _ => by simp at h
  | x :: l, 0, h, hn => by
    simp only [List.getElem_cons_zero] at hn
    rw [chkL, ← Bool.and_assoc, hn, Bool.false_and]
  | x :: l, i + 1, h, hn => by
    simp only [List.getElem_cons_succ] at hn
    rw [chkL, chkL_no r d l i (by simpa using h) hn, Bool.and_false, Bool.and_false]

/-- How checker.node ends. -/
def NodeEnd (c : Nat) (d m : Nat) (n : Tr.Nd) (w : World) (e : Ending) (w' : World) : Prop :=
  ∃ m' : Nat, e = .returned (.bool (chkN d n)) ∧ Blk w' c 101 (checkCells m') ∧ Touch (· = c) w w' ∧ m' ≤ m + Tr.count n ∧ (chkN d n = true → m' = m + Tr.count n)

theorem check_put (m : Nat) : (checkCells (m : Int)).setIfInBounds 39 (.int .i64 ((m : Int) + 1)) = checkCells ((m + 1 : Nat) : Int) := by rfl
theorem check_39 (m : Int) : (checkCells m)[39]? = some (.int .i64 m) := by rfl

set_option maxRecDepth 100000 in
set_option maxHeartbeats 4000000 in
theorem node_any (W0 : World) (c : Nat) (hcW : W0.heap.size ≤ c) (k : Nat) : ∀ (n : Tr.Nd) (A : Option Addr) (g o cap d m : Nat) (dd : Int) (w : World), dd = d → Tr.count n ≤ k →
    W0.cell? ⟨g, o, none⟩ = some (.int .i64 n.kind) → W0.cell? ⟨g, o + 1, none⟩ = some (.string ⟨n.text.toArray⟩) → W0.cell? ⟨g, o + 2, none⟩ = some (.int .i64 n.cols) → W0.cell? ⟨g, o + 3, none⟩ = some (.slice A n.kids.length cap) →
    RepL W0 n.kids (.slice A n.kids.length cap) → n.text.length ≤ maxLen → Blk w c 101 (checkCells m) → Touch (· = c) W0 w → m + Tr.count n ≤ 1000 → d ≤ 1000 →
    Calls Try.prog 49 #[.pointer (some ⟨c, 0, none⟩), .pointer (some ⟨g, o, none⟩), .int .i64 dd] w (NodeEnd c d m n w) := by
  induction k with
  | zero => intro n _ _ _ _ _ _ _ _ _ h; have := Tr.count_pos n; omega
  | succ k ih =>
    intro n A g o cap d m dd w hdd hcn a0 a1 a2 a3 hrep htx hb htw hm hd
    subst hdd
    have hgc : g < W0.heap.size := block_lt_of_cell a0
    have hne : g ≠ c := by omega
    have hlen := hrep.len
    unfold maxLen at htx hlen
    have hck := Tr.count_kids n
    have hnl := Tr.countL_len n.kids
    have HIH := hid ih
    have HREP := hid hrep
    have HCE := hid (chkN_eq d n)
    have HTW := hid htw
    have HB := hid hb
    have ht1 : Touch (· = c) w (w.setCell ⟨c, 39, none⟩ (.int .i64 ((m : Int) + 1))) := Touch.setCell (S := (· = c)) (Touch.refl _ w) (p := ⟨c, 39, none⟩) (.inl rfl) _
    have hb1 : Blk (w.setCell ⟨c, 39, none⟩ (.int .i64 ((m : Int) + 1))) c 101 (checkCells ((m + 1 : Nat) : Int)) := by
      rw [← check_put]; exact hb.put 39 _
    have q39 : w.cell? ⟨c, 39, none⟩ = some (.int .i64 (m : Int)) := (hb.cell 39).trans (check_39 m)
    have z39 : w.frozen? ⟨c, 39, none⟩ = false := hb.frozen 39
    have r39 : (w.setCell ⟨c, 39, none⟩ (.int .i64 ((m : Int) + 1))).cell? ⟨c, 39, none⟩ = some (.int .i64 ((m : Int) + 1)) := (hb1.cell 39).trans (check_39 _)
    have lim : decide ((1000 : Int) < (m : Int) + 1) = false := by simp only [decide_eq_false_iff_not]; omega
    have HT1 := hid ht1
    have HB1 := hid hb1
    clear ih hrep htw hb ht1 hb1
    by_cases hd24 : 24 < d
    · have dl : decide ((24 : Int) < (d : Int)) = true := by simp only [decide_eq_true_eq]; omega
      have dln : decide (24 < d) = true := by simp only [decide_eq_true_eq]; omega
      have hch : chkN d n = false := by
        rw [HCE.out]
        have : decide (d ≤ 24) = false := by simp only [decide_eq_false_iff_not]; omega
        rw [this]; rfl
      have HCH := hid hch
      clear hch HCE
      go_enter Try.func49, Try.ntmps49
      go_wp2_with fail
      go_ret
      exact ⟨m + 1, by rw [HCH.out]; rfl, HB1.out, HT1.out, by omega, fun h => by rw [HCH.out] at h; cases h⟩
    · have dl : decide ((24 : Int) < (d : Int)) = false := by simp only [decide_eq_false_iff_not]; omega
      have dln : decide (24 < d) = false := by simp only [decide_eq_false_iff_not]; omega
      have b0 := (HTW.out.trans HT1.out).cell a0 hne
      have b1 := (HTW.out.trans HT1.out).cell a1 hne
      have b2 := (HTW.out.trans HT1.out).cell a2 hne
      have b3 := (HTW.out.trans HT1.out).cell a3 hne
      have HOWN := hid (own_any n A cap c g o _ _ HB1.out htx b0 b1 b2 b3)
      have hd24' : decide (d ≤ 24) = true := by simp only [decide_eq_true_eq]; omega
      have HC2 := hid (show chkN d n = (ownF n && chkL (n.kind == 1) (d + 1) n.kids) by rw [HCE.out, hd24']; rfl)
      clear HCE hd24' b0 b1 b2 b3
      go_enter Try.func49, Try.ntmps49
      go_wp2_with fail
      refine HOWN.out.mono ?_
      rintro _ w2 ⟨rfl, hf2⟩
      have hb2 := hf2.blk HB1.out (fun h => h)
      have ht2 : Touch (· = c) w w2 := HT1.out.trans (hf2.mono (fun _ h => h.elim))
      have HB2 := hid hb2
      have HT2 := hid ht2
      have b0 := (HTW.out.trans ht2).cell a0 hne
      have b3 := (HTW.out.trans ht2).cell a3 hne
      clear hf2 hb2 ht2 r39 q39 z39
      cases how : ownF n with
      | false =>
        have HCH := hid (show chkN d n = false by rw [HC2.out, how]; rfl)
        go_wp2_with fail
        go_ret
        exact ⟨m + 1, by rw [HCH.out]; rfl, HB2.out, HT2.out, by omega, fun h => by rw [HCH.out] at h; cases h⟩
      | true =>
        have HC3 := hid (show chkN d n = chkL (n.kind == 1) (d + 1) n.kids by rw [HC2.out, how]; rfl)
        clear HC2 how
        go_wp2_with fail
        go_loopw [35] (fun i wr => ∃ (j m' : Nat), i = .int .i64 j ∧ j ≤ n.kids.length ∧ Hid (Blk wr c 101 (checkCells m')) ∧ Hid (Touch (· = c) w wr) ∧ Hid (m' = m + 1 + Tr.countL (n.kids.take j)) ∧ Hid (chkL (n.kind == 1) (d + 1) (n.kids.take j) = true)) (fun i _ => n.kids.length - (intOf i).toNat)
        case atStart => exact ⟨0, m + 1, rfl, Nat.zero_le _, HB2.out, HT2.out, by simp [Tr.countL, Hid], by simp [chkL, Hid]⟩
        case round =>
          obtain ⟨j, m', rfl, hj, HB3, HT3, HM, HL⟩ := hrel
          by_cases c1 : j < n.kids.length
          · have d1 : decide ((j : Int) < (n.kids.length : Int)) = true := by simp only [decide_eq_true_eq]; omega
            have d1n : decide (j < n.kids.length) = true := by simp only [decide_eq_true_eq]; omega
            have d1' : (j : Int) < (n.kids.length : Int) := by omega
            obtain ⟨g', o', sl, rfl, hg', n0, n1, n2, n3, hrk⟩ := HREP.out.get j c1
            have htx' := HREP.out.texts j c1
            obtain ⟨A', cap', rfl⟩ := hrk.slice
            have hne' : g' ≠ c := by omega
            have e0 := (HTW.out.trans HT3.out).cell a0 hne
            have e3 := (HTW.out.trans HT3.out).cell a3 hne
            have x0 := (HTW.out.trans HT3.out).cell n0 hne'
            have hcm := Tr.count_mem (List.getElem_mem (l := n.kids) (n := j) c1)
            have hct := Tr.countL_take n.kids j c1
            have hcl := Tr.countL_le n.kids (j + 1)
            have hcj := Tr.countL_le n.kids j
            have HS := hid (chkL_take (n.kind == 1) (d + 1) n.kids j c1)
            have HN := hid (chkL_no (n.kind == 1) (d + 1) n.kids j c1)
            have HM0 := HM.out
            have HX := hid (fun (w' : World) (hb' : Blk w' c 101 (checkCells m')) (ht' : Touch (· = c) W0 w') => HIH.out n.kids[j] A' g' (o' + j * 4) cap' (d + 1) m' ((d : Int) + 1) w' (by omega) (by omega) n0 n1 n2 n3 hrk htx' hb' ht' (by omega) (by omega))
            have HCT := hid hct
            clear n0 n1 n2 n3 hrk HIH HREP hct
            generalize n.kids[j] = x at *
            cases p1 : (n.kind == 1) with
            | false =>
              rw [p1] at HS HN
              cases p2 : (x.kind == 1) with
              | false =>
                have HCH := hid (show chkN d n = false by rw [HC3.out, p1]; exact HN.out (by rw [p2]; rfl))
                go_wp2_with fail
                go_quiet (fail)
                go_wp2_with fail
                go_ret
                exact ⟨m', by rw [HCH.out]; rfl, HB3.out, HT3.out.drewN _, by omega, fun h => by rw [HCH.out] at h; cases h⟩
              | true =>
                go_wp2_with fail
                refine wp_region_segs [([0,1,2,3,4,5,6,7,8,9,10,11,12,13,14,15,16,17,18,19,20,21,22,23,24],25)] [26,27] (by kernel_rfl) (by kernel_rfl) ?_
                simp only [wpSegs, pick, List.getElem?_cons_zero, List.getElem?_cons_succ]
                repeat (quiet_step (fail))
                refine wpQuiet_nil ?_
                rintro _ ⟨nq, rfl⟩
                go_wp2_with fail
                refine (HX.out _ (HB3.out.drewN nq) ((HTW.out.trans HT3.out).drewN nq)).mono ?_
                rintro _ w5 ⟨m5, rfl, hb5, ht5, hm5, hm5'⟩
                have HB5 := hid hb5
                have HT5 := hid (HT3.out.trans (Touch.ofN ht5))
                clear hb5 ht5 e0 e3 x0
                cases hx : chkN (d + 1) x with
                | false =>
                  have HCH := hid (show chkN d n = false by rw [HC3.out, p1]; exact HN.out (by rw [hx, Bool.and_false]))
                  rw [hx] at hm5'
                  go_wp2_with fail
                  repeat (quiet_step (fail))
                  refine wpQuiet_nil ?_
                  rintro _ ⟨nq2, rfl⟩
                  go_wp2_with fail
                  go_ret
                  exact ⟨m5, by rw [HCH.out]; rfl, HB5.out.drewN _, HT5.out.drewN _, by have := HCT.out; omega, fun h => by rw [HCH.out] at h; cases h⟩
                | true =>
                  rw [hx] at hm5'
                  have hm6 := hm5' rfl
                  clear hm5'
                  have HL5 := hid (show chkL false (d + 1) (n.kids.take (j + 1)) = true by
                    have hl := HL.out
                    rw [p1] at hl
                    rw [HS.out, hl, p2, hx]; rfl)
                  go_wp2_with fail
                  repeat (quiet_step (fail))
                  refine wpQuiet_nil ?_
                  rintro _ ⟨nq2, rfl⟩
                  go_wp2_with fail
                  go_roundw
                  case rel => exact ⟨j + 1, m5, by go_num, by omega, HB5.out.drewN _, HT5.out.drewN _, by rw [HCT.out]; unfold Hid; omega, HL5⟩
                  case measure => simp [intOf]; omega
            | true =>
              rw [p1] at HS HN
              cases p2 : (x.kind == 1) with
              | false =>
                go_wp2_with fail
                refine wp_region_segs [([0,1,2,3,4,5,6,7,8,9,10,11,12,13,14,15,16,17,18,19,20,21,22,23,24],25)] [26,27] (by kernel_rfl) (by kernel_rfl) ?_
                simp only [wpSegs, pick, List.getElem?_cons_zero, List.getElem?_cons_succ]
                repeat (quiet_step (fail))
                refine wpQuiet_nil ?_
                rintro _ ⟨nq, rfl⟩
                go_wp2_with fail
                refine (HX.out _ (HB3.out.drewN nq) ((HTW.out.trans HT3.out).drewN nq)).mono ?_
                rintro _ w5 ⟨m5, rfl, hb5, ht5, hm5, hm5'⟩
                have HB5 := hid hb5
                have HT5 := hid (HT3.out.trans (Touch.ofN ht5))
                clear hb5 ht5 e0 e3 x0
                cases hx : chkN (d + 1) x with
                | false =>
                  have HCH := hid (show chkN d n = false by rw [HC3.out, p1]; exact HN.out (by rw [hx, Bool.and_false]))
                  rw [hx] at hm5'
                  go_wp2_with fail
                  repeat (quiet_step (fail))
                  refine wpQuiet_nil ?_
                  rintro _ ⟨nq2, rfl⟩
                  go_wp2_with fail
                  go_ret
                  exact ⟨m5, by rw [HCH.out]; rfl, HB5.out.drewN _, HT5.out.drewN _, by have := HCT.out; omega, fun h => by rw [HCH.out] at h; cases h⟩
                | true =>
                  rw [hx] at hm5'
                  have hm6 := hm5' rfl
                  clear hm5'
                  have HL5 := hid (show chkL true (d + 1) (n.kids.take (j + 1)) = true by
                    have hl := HL.out
                    rw [p1] at hl
                    rw [HS.out, hl, p2, hx]; rfl)
                  go_wp2_with fail
                  repeat (quiet_step (fail))
                  refine wpQuiet_nil ?_
                  rintro _ ⟨nq2, rfl⟩
                  go_wp2_with fail
                  go_roundw
                  case rel => exact ⟨j + 1, m5, by go_num, by omega, HB5.out.drewN _, HT5.out.drewN _, by rw [HCT.out]; unfold Hid; omega, HL5⟩
                  case measure => simp [intOf]; omega
              | true =>
                have HCH := hid (show chkN d n = false by rw [HC3.out, p1]; exact HN.out (by rw [p2]; rfl))
                go_wp2_with fail
                go_quiet (fail)
                go_wp2_with fail
                go_ret
                exact ⟨m', by rw [HCH.out]; rfl, HB3.out, HT3.out.drewN _, by omega, fun h => by rw [HCH.out] at h; cases h⟩
          · have d1 : decide ((j : Int) < (n.kids.length : Int)) = false := by simp only [decide_eq_false_iff_not]; omega
            have d1n : decide (j < n.kids.length) = false := by simp only [decide_eq_false_iff_not]; omega
            obtain rfl : j = n.kids.length := by omega
            have hl := HL.out
            rw [List.take_length] at hl
            have hmm := HM.out
            rw [List.take_length] at hmm
            have HCH := hid (show chkN d n = true by rw [HC3.out]; exact hl)
            clear hl
            go_wp2_with fail
            go_ret
            exact ⟨m', by rw [HCH.out]; rfl, HB3.out, HT3.out, by omega, fun _ => by omega⟩
end Go.Proofs.Ytilgpmpiidccjaa

/- The walk of node.Valid. -/
namespace Go.Proofs.Ytilgpmpiidccjaa
open Go.RowKit
attribute [local go_sem] Oper.semAt_some

theorem built_check : Try.prog.built 101 [(0, .agg kindCells)] = some (checkCells 0) := by kernel_rfl

set_option maxRecDepth 100000 in
set_option maxHeartbeats 1000000 in
theorem valid_any (n : Tr.Nd) (sl : Value) (w : World) (hr : RepL w n.kids sl) (ht : n.text.length ≤ maxLen) (hc : Tr.count n ≤ 1000) :
    Calls Try.prog 29 #[.agg #[.int .i64 n.kind, .string ⟨n.text.toArray⟩, .int .i64 n.cols, sl]] w fun e w' => e = .returned (.bool ((n.kind == 1) && chkN 1 n)) ∧ Fresh w w' := by
  obtain ⟨A, cap, rfl⟩ := hr.slice
  have HR := hid hr
  clear hr
  go_enter Try.func29, Try.ntmps29
  go_wp2_with fail
  refine (kinds_any _).mono ?_
  rintro _ w1 ⟨rfl, hf1⟩
  have hf1' : Fresh w w1 := hf1.pre
  have hb1 := hf1.blk (Blk.new w 24 #[.int .i64 n.kind, .string ⟨n.text.toArray⟩, .int .i64 n.cols, .slice A n.kids.length cap]) (fun h => h)
  obtain ⟨q0, q1, q2, q3, _, _, _, _, hg⟩ := Blk.four hb1
  have HN := hid (node_any w1 w1.heap.size (Nat.le_refl _) _ n A w.heap.size 0 cap 1 0 1 (w1.alloc (.cells (checkCells 0) 101)) rfl (Nat.le_refl _) q0 q1 q2 q3 (HR.out.fresh hf1') ht (Blk.new _ _ _) ((Touch.refl _ _).alloc _) (by omega) (by decide))
  have HF1 := hid hf1'
  have hb2 := hb1.alloc (.cells (checkCells 0) 101)
  obtain ⟨r0, r1, r2, r3, _, _, _, _, hg2⟩ := Blk.four hb2
  clear hf1 hf1' hb1 hb2
  cases hk : (n.kind == 1) with
  | false =>
    go_wp2_with (refine wpList_build_kind [(0, .agg kindCells)] built_check _ rfl rfl rfl (.agg (checkCells 0)) rfl ?_)
    go_ret
    exact ⟨ret_bool' _ _ (by rw [hk]; rfl), HF1.out.alloc _⟩
  | true =>
    go_wp2_with (refine wpList_build_kind [(0, .agg kindCells)] built_check _ rfl rfl rfl (.agg (checkCells 0)) rfl ?_)
    refine HN.out.mono ?_
    rintro _ w2 ⟨m', rfl, hb3, ht3, _, _⟩
    have hf2 : Fresh w w2 := HF1.out.trans' (Touch.pre ht3) (fun i hi => by right; have := HF1.out.size; omega)
    have HF2 := hid hf2
    clear hf2 hb3 ht3 q0 q1 q2 q3 r0 r1 r2 r3
    go_wp2_with fail
    go_ret
    exact ⟨ret_bool' _ _ (by rw [hk]; rfl), HF2.out⟩
end Go.Proofs.Ytilgpmpiidccjaa

/- What node.Valid reports is validity. -/
namespace Go.Proofs.Ytilgpmpiidccjaa
open Go.RowKit

theorem ownF_form (n : Tr.Nd) : ownF n = (Tr.textOK n.kind n.text && Tr.kidsOK n.kind n.cols n.kids.length) := by
  unfold ownF
  by_cases h1 : 1 ≤ n.kind
  · by_cases h2 : n.kind ≤ 12
    · simp [h1, h2]
    · have : Tr.kidsOK n.kind n.cols n.kids.length = false := by
        unfold Tr.kidsOK
        rw [if_neg (by omega)]
        split
        · rfl
        · rw [if_neg (by omega), if_neg (by omega), if_neg (by omega), if_neg (by omega), if_neg (by omega)]
      simp [this]
  · have : Tr.kidsOK n.kind n.cols n.kids.length = false := by
      unfold Tr.kidsOK
      rw [if_neg (by omega)]
      split
      · rfl
      · rw [if_neg (by omega), if_neg (by omega), if_neg (by omega), if_neg (by omega), if_neg (by omega)]
    simp [this]

theorem chk_form (n : Tr.Nd) : ∀ d, chkN d n = (Tr.form n && decide (d + Tr.depth n ≤ 25)) := by
  induction n using Tr.Nd.ind with
  | h n ih =>
    have hL : ∀ (r : Bool) (l : List Tr.Nd) (d : Nat), d ≤ 25 → (∀ x ∈ l, ∀ d, chkN d x = (Tr.form x && decide (d + Tr.depth x ≤ 25))) → chkL r d l = (Tr.formL r l && decide (d + Tr.depthL l ≤ 25)) := by
      intro r l
      induction l with
      | nil => intro d hd _; simp [chkL, Tr.formL, Tr.depthL, hd]
      | cons x l ihl =>
        intro d hd h
        rw [chkL, Tr.formL, Tr.depthL, h x (by simp) d, ihl d hd (fun y hy => h y (by simp [hy]))]
        have e : decide (d + max (Tr.depth x) (Tr.depthL l) ≤ 25) = (decide (d + Tr.depth x ≤ 25) && decide (d + Tr.depthL l ≤ 25)) := by
          rw [Bool.eq_iff_iff, Bool.and_eq_true, decide_eq_true_iff, decide_eq_true_iff, decide_eq_true_iff]; omega
        rw [e, bne]
        generalize (!((x.kind == 1) == r)) = a
        generalize Tr.form x = b
        generalize Tr.formL r l = c
        generalize decide (d + Tr.depth x ≤ 25) = p
        generalize decide (d + Tr.depthL l ≤ 25) = q
        cases a <;> cases b <;> cases c <;> cases p <;> cases q <;> rfl
    intro d
    rw [chkN_eq, ownF_form, Tr.form_eq, Tr.depth_kids]
    by_cases hd : d ≤ 24
    · rw [hL _ _ (d + 1) (by omega) ih]
      have e : decide (d + 1 + Tr.depthL n.kids ≤ 25) = decide (d + (Tr.depthL n.kids + 1) ≤ 25) := by
        rw [Bool.eq_iff_iff, decide_eq_true_iff, decide_eq_true_iff]; omega
      rw [e]
      simp [hd, Bool.and_assoc]
    · have e : decide (d + (Tr.depthL n.kids + 1) ≤ 25) = false := by simp only [decide_eq_false_iff_not]; omega
      rw [e]
      simp [hd]

theorem valid_is (n : Tr.Nd) (hc : Tr.count n ≤ 1000) : ((n.kind == 1) && chkN 1 n) = Tr.valid n := by
  rw [chk_form]
  unfold Tr.valid
  have e1 : decide (Tr.count n ≤ 1000) = true := by simp only [decide_eq_true_eq]; exact hc
  have e2 : decide (1 + Tr.depth n ≤ 25) = decide (Tr.depth n ≤ 24) := by rw [Bool.eq_iff_iff, decide_eq_true_iff, decide_eq_true_iff]; omega
  rw [e1, e2, Bool.and_true, Bool.and_assoc]

theorem valid_call (n : Tr.Nd) (sl : Value) (w : World) (hr : RepL w n.kids sl) (ht : n.text.length ≤ maxLen) (hc : Tr.count n ≤ 1000) :
    Calls Try.prog 29 #[.agg #[.int .i64 n.kind, .string ⟨n.text.toArray⟩, .int .i64 n.cols, sl]] w fun e w' => e = .returned (.bool (Tr.valid n)) ∧ Fresh w w' := by
  rw [← valid_is n hc]; exact valid_any n sl w hr ht hc
end Go.Proofs.Ytilgpmpiidccjaa

/- The methods of all kinds: the printer's row adds the tokens of a valid row; Print and Tokens. -/
namespace Go.Proofs.Ytilgpmpiidccjaa
open Go.RowKit
open Tr (Nd argT baseT rowT itemT cellsT View IsRow)
attribute [local go_sem] Oper.semAt_some

theorem base_scripts_sub (W0 : World) (p B : Nat) (tx cl : Value) (a b : Nd) (ha : RowE W0 p B a) (hb : ArgE W0 p B b) (sl : Value) (hsl : RepL W0 [a, b] sl) : Emits 80 #[pp p, .agg #[.int .i64 7, tx, cl, sl]] W0 p B (baseT a ++ ([Tr.mk7 95] ++ argT b)) := by
  by_cases h1 : a.kids.length = 1
  · obtain ⟨x, hx⟩ := List.length_eq_one_iff.1 h1
    cases hs : Tr.scripted x with
    | true => exact scripts_7_item W0 p B tx cl a b x hx hs (group_em W0 p B a ha) hb sl hsl
    | false => exact scripts_7_row W0 p B tx cl a b x hx hs ha hb sl hsl
  · exact scripts_7_len W0 p B tx cl a b h1 (group_em W0 p B a ha) hb sl hsl
theorem base_scripts_sup (W0 : World) (p B : Nat) (tx cl : Value) (a b : Nd) (ha : RowE W0 p B a) (hb : ArgE W0 p B b) (sl : Value) (hsl : RepL W0 [a, b] sl) : Emits 80 #[pp p, .agg #[.int .i64 8, tx, cl, sl]] W0 p B (baseT a ++ ([Tr.mk7 94] ++ argT b)) := by
  by_cases h1 : a.kids.length = 1
  · obtain ⟨x, hx⟩ := List.length_eq_one_iff.1 h1
    cases hs : Tr.scripted x with
    | true => exact scripts_8_item W0 p B tx cl a b x hx hs (group_em W0 p B a ha) hb sl hsl
    | false => exact scripts_8_row W0 p B tx cl a b x hx hs ha hb sl hsl
  · exact scripts_8_len W0 p B tx cl a b h1 (group_em W0 p B a ha) hb sl hsl
theorem base_scripts_both (W0 : World) (p B : Nat) (tx cl : Value) (a b d : Nd) (ha : RowE W0 p B a) (hb : ArgE W0 p B b) (hd : ArgE W0 p B d) (sl : Value) (hsl : RepL W0 [a, b, d] sl) : Emits 80 #[pp p, .agg #[.int .i64 9, tx, cl, sl]] W0 p B (baseT a ++ ([Tr.mk7 95] ++ (argT b ++ ([Tr.mk7 94] ++ argT d)))) := by
  by_cases h1 : a.kids.length = 1
  · obtain ⟨x, hx⟩ := List.length_eq_one_iff.1 h1
    cases hs : Tr.scripted x with
    | true => exact scripts_9_item W0 p B tx cl a b d x hx hs (group_em W0 p B a ha) hb hd sl hsl
    | false => exact scripts_9_row W0 p B tx cl a b d x hx hs ha hb hd sl hsl
  · exact scripts_9_len W0 p B tx cl a b d h1 (group_em W0 p B a ha) hb hd sl hsl

theorem sym_tok (t : Tr.Bytes) : (if t.length = 1 then (⟨1, t⟩ : Lx.Tok) else ⟨4, t⟩) = ⟨if t.length = 1 then 1 else 4, t⟩ := by split <;> rfl

theorem item_em (W0 : World) (p B : Nat) (x : Nd) (v : View x) (hc : Tr.count x ≤ 1000000) (h : ∀ a ∈ x.kids, RowE W0 p B a) : ItemE W0 p B x := by
  have hA : ∀ a ∈ x.kids, ArgE W0 p B a := fun a ha => argument_em W0 p B a (h a ha)
  cases v with
  | sym t ht => exact ⟨_, fun _ => by kernel_rfl, fun _ _ => by kernel_rfl, fun sx hr => by rw [Tr.itemT_sym, sym_tok]; exact symbol_em W0 p B (.mk 2 t 0 []) sx⟩
  | num t ht => exact ⟨_, fun _ => by kernel_rfl, fun _ _ => by kernel_rfl, fun sx hr => by rw [Tr.itemT_num]; exact number_em W0 p B (.mk 3 t 0 []) sx⟩
  | text t ht => exact ⟨_, fun _ => by kernel_rfl, fun _ _ => by kernel_rfl, fun sx hr => by rw [Tr.itemT_text]; exact quoted_em W0 p B (.mk 4 t 0 []) sx⟩
  | frac a b ha hb => exact ⟨_, fun _ => by kernel_rfl, fun _ _ => by kernel_rfl, fun sx hr => by rw [Tr.itemT_frac]; exact fraction_em W0 p B _ _ _ a b (hA a (by simp [Nd.kids])) (hA b (by simp [Nd.kids])) sx hr⟩
  | root a b ha hb =>
    refine ⟨79, fun _ => by kernel_rfl, fun _ _ => by kernel_rfl, fun sx hr => ?_⟩
    rw [Tr.itemT_root]
    by_cases hk : a.kids = []
    · rw [if_pos hk]; exact root_bare W0 p B _ _ _ a b hk (hA b (by simp [Nd.kids])) sx hr
    · rw [if_neg hk, List.cons_append, List.append_assoc]; exact root_full W0 p B _ _ _ a b hk (h a (by simp [Nd.kids])) (hA b (by simp [Nd.kids])) sx hr
  | sub a b ha hb => exact ⟨_, fun _ => by kernel_rfl, fun _ _ => by kernel_rfl, fun sx hr => by rw [Tr.itemT_sub]; exact base_scripts_sub W0 p B _ _ a b (h a (by simp [Nd.kids])) (hA b (by simp [Nd.kids])) sx hr⟩
  | sup a b ha hb => exact ⟨_, fun _ => by kernel_rfl, fun _ _ => by kernel_rfl, fun sx hr => by rw [Tr.itemT_sup]; exact base_scripts_sup W0 p B _ _ a b (h a (by simp [Nd.kids])) (hA b (by simp [Nd.kids])) sx hr⟩
  | both a b d ha hb hd => exact ⟨_, fun _ => by kernel_rfl, fun _ _ => by kernel_rfl, fun sx hr => by rw [Tr.itemT_both]; exact base_scripts_both W0 p B _ _ a b d (h a (by simp [Nd.kids])) (hA b (by simp [Nd.kids])) (hA d (by simp [Nd.kids])) sx hr⟩
  | accent t a ht ha => exact ⟨_, fun _ => by kernel_rfl, fun _ _ => by kernel_rfl, fun sx hr => by rw [Tr.itemT_accent]; exact accent_em W0 p B _ _ t a (hA a (by simp [Nd.kids])) sx hr⟩
  | fence t a ht ha =>
    refine ⟨82, fun _ => by kernel_rfl, fun _ _ => by kernel_rfl, fun sx hr => ?_⟩
    rw [Tr.itemT_fence]
    by_cases h1 : t = [40, 41]
    · subst h1
      rw [if_pos (.inl rfl)]
      exact fence_round W0 p B _ _ a (h a (by simp [Nd.kids])) sx hr
    · by_cases h2 : t = [91, 93]
      · subst h2
        rw [if_pos (.inr rfl)]
        exact fence_square W0 p B _ _ a (h a (by simp [Nd.kids])) sx hr
      · rw [if_neg (fun h => h.elim h1 h2)]
        exact fence_other W0 p B _ _ t h1 h2 a (hA a (by simp [Nd.kids])) sx hr
  | matrix c ks hc1 hn hm hk =>
    refine ⟨83, fun _ => by kernel_rfl, fun _ _ => by kernel_rfl, fun sx hr => ?_⟩
    rw [Tr.itemT_matrix c ks (by rintro rfl; simp at hn)]
    have hle : c ≤ ks.length := by
      rcases Int.lt_or_le (ks.length : Int) c with h' | h'
      · rw [Int.emod_eq_of_lt (by omega) h'] at hm
        omega
      · exact h'
    have := Tr.countL_len ks
    rw [Tr.count] at hc
    exact matrix_em W0 p B _ _ c ks hc1 (by omega) (fun k hk' => h k (by simpa [Nd.kids] using hk')) sx hr

theorem rows_em (W0 : World) (p B : Nat) (m : Nat) : ∀ a : Nd, Tr.count a ≤ m → m ≤ 1000000 → IsRow a → RowE W0 p B a := by
  induction m with
  | zero => intro a h; have := Tr.count_pos a; omega
  | succ m ih =>
    intro a hc hm ha
    have h1 := Tr.count_kids a
    refine row_em W0 p B a fun x hx => ?_
    have h2 := Tr.count_mem hx
    have hv := ha.views x hx
    refine item_em W0 p B x hv (by omega) fun b hb => ?_
    have h3 := Tr.count_mem hb
    have h4 := Tr.count_kids x
    refine ih b (by omega) (by omega) ?_
    cases hv with
    | sym t h => simp [Nd.kids] at hb
    | num t h => simp [Nd.kids] at hb
    | text t h => simp [Nd.kids] at hb
    | frac a b ha hb' => simp only [Nd.kids, List.mem_cons, List.not_mem_nil, or_false] at hb; rcases hb with rfl | rfl <;> assumption
    | root a b ha hb' => simp only [Nd.kids, List.mem_cons, List.not_mem_nil, or_false] at hb; rcases hb with rfl | rfl <;> assumption
    | sub a b ha hb' => simp only [Nd.kids, List.mem_cons, List.not_mem_nil, or_false] at hb; rcases hb with rfl | rfl <;> assumption
    | sup a b ha hb' => simp only [Nd.kids, List.mem_cons, List.not_mem_nil, or_false] at hb; rcases hb with rfl | rfl <;> assumption
    | both a b d ha hb' hd => simp only [Nd.kids, List.mem_cons, List.not_mem_nil, or_false] at hb; rcases hb with rfl | rfl | rfl <;> assumption
    | accent t a h ha => simp only [Nd.kids, List.mem_cons, List.not_mem_nil, or_false] at hb; subst hb; assumption
    | fence t a h ha => simp only [Nd.kids, List.mem_cons, List.not_mem_nil, or_false] at hb; subst hb; assumption
    | matrix c ks hc1 hn hm hk => exact hk b hb

theorem ownsRow_low {w : World} {base base' e size n : Nat} {v : Value} {xs : List Value} (h : w.ownsRow base e size v n xs) (hb : base' ≤ base) : w.ownsRow base' e size v n xs := by
  refine ⟨h.1, h.2.imp id ?_⟩
  rintro ⟨g, cap, cur, h1, h2, h3⟩
  exact ⟨g, cap, cur, h1, Nat.le_trans hb h2, h3⟩

/-- A new printer. -/
def prCells : Array Value := #[.slice none 0 0, .pointer none, .slice none 0 0]
theorem built_pr : Try.prog.built 65 [] = some prCells := by kernel_rfl
theorem Pr.new (w : World) : Pr (w.alloc (.cells prCells 65)) w.heap.size (w.heap.size + 1) (.slice none 0 0) (.slice none 0 0) prCells [] [] :=
  ⟨by omega, ⟨Blk.new _ _ _, .inl rfl, rfl, World.ownsRow_nil _ _ _ _, by simp [Value.ownBlock], fun _ => rfl⟩, rfl, rfl, World.ownsRow_nil _ _ _ _⟩
theorem PSt.new (w : World) : PSt w w.heap.size (w.heap.size + 1) (w.alloc (.cells prCells 65)) [] [] :=
  ⟨(Touch.refl _ _).alloc _, Nat.le_refl _, by simp, _, _, _, Pr.new w⟩

def printS (n : Nd) : List UInt8 := if Tr.valid n then Tr.wtext (rowT n.kids) else []
def printE (n : Nd) : Int := if Tr.valid n then 0 else 1
def printT (n : Nd) : List Lx.PTok := if Tr.valid n then Lx.placed 0 (Tr.sepd none (rowT n.kids)) else []

/-- How Tokens ends. -/
def TokensOf (n : Nd) (w : World) (e : Ending) (w' : World) : Prop := ∃ v, e = .returned (.tuple #[v, .int .i64 (printE n)]) ∧ w'.ownsRow w.heap.size 74 4 v (printT n).length ((printT n).flatMap ptokCellsP) ∧ Fresh w w'

set_option maxRecDepth 100000 in
set_option maxHeartbeats 1000000 in
theorem print_any (n : Nd) (sl : Value) (w : World) (hr : RepL w n.kids sl) (ht : n.text.length ≤ maxLen) (hc : Tr.count n ≤ 800) :
    Calls Try.prog 10 #[nv n sl] w fun e w' => e = .returned (.tuple #[.string ⟨(printS n).toArray⟩, .int .i64 (printE n)]) ∧ Fresh w w' := by
  have HV := hid (fun (w : World) (hr : RepL w n.kids sl) => valid_call n sl w hr ht (by omega))
  have HR := hid hr
  have HC := hid hc
  clear hr hc
  cases hv : Tr.valid n with
  | false =>
    have HS := hid (show printS n = [] from by unfold printS; rw [hv]; rfl)
    have HE := hid (show printE n = 1 from by unfold printE; rw [hv]; rfl)
    rw [HS.out, HE.out]
    go_enter Try.func10, Try.ntmps10
    go_wp2_with fail
    refine (HV.out _ (HR.out.fresh ((Touch.refl _ _).alloc _))).mono ?_
    rintro _ w1 ⟨rfl, hf⟩
    have HF := hid (Touch.pre hf)
    clear hf
    go_wp2_with fail
    go_ret2
    exact ⟨rfl, HF.out⟩
  | true =>
    have HS := hid (show printS n = Tr.wtext (rowT n.kids) from by unfold printS; rw [hv]; rfl)
    have HE := hid (show printE n = 0 from by unfold printE; rw [hv]; rfl)
    have HROW := hid (Tr.valid_row n hv)
    rw [HS.out, HE.out]
    go_enter Try.func10, Try.ntmps10
    go_wp2_with fail
    refine (HV.out _ (HR.out.fresh ((Touch.refl _ _).alloc _))).mono ?_
    rintro _ w1 ⟨rfl, hf⟩
    have HF := hid (Touch.pre hf)
    have hb1 := hf.blk (Blk.new _ _ _) (fun h => h)
    have HB := hid hb1
    obtain ⟨q0, q1, q2, q3, _, _, _, _, hg⟩ := Blk.four hb1
    clear hf hb1
    have HEM := hid (rows_em w1 w1.heap.size (w1.heap.size + 1) _ n (Nat.le_refl _) (by have := HC.out; omega) HROW.out sl (HR.out.fresh HF.out) _ _ _ (PSt.new w1) (row_fits n HROW.out HC.out))
    go_wp2_with (refine wpList_build_kind [] built_pr _ rfl rfl rfl (.agg prCells) rfl ?_)
    refine HEM.out.mono ?_
    rintro _ w2 ⟨rfl, h2⟩
    obtain ⟨vt, vb, cs, hpr, htc⟩ := h2
    rw [adds_wtext] at hpr
    have HF2 := hid (show Fresh w w2 from HF.out.trans' ((((Touch.refl (fun k => w1.heap.size ≤ k) w1).alloc (.cells prCells 65))).trans (htc.mono (fun k hk => by rcases hk with rfl | ⟨h, _⟩ <;> omega))) (fun i hi => .inr (by have := HF.out.size; omega)))
    have HPR := hid hpr
    clear hpr htc q0 q1 q2 q3
    go_wp2_with fail
    refine (bstring_any HPR.out.bld).mono ?_
    rintro _ w3 ⟨rfl, h3⟩
    have HF3 := hid (show Fresh w w3 from HF2.out.trans' h3 (fun i hi => .inr (by have := (owns_type HPR.out.bld.own hi).1; have := HF.out.size; omega)))
    clear h3
    go_wp2_with fail
    go_ret2
    exact ⟨rfl, HF3.out⟩

set_option maxRecDepth 100000 in
set_option maxHeartbeats 1000000 in
theorem ptokens_any (n : Nd) (sl : Value) (w : World) (hr : RepL w n.kids sl) (ht : n.text.length ≤ maxLen) (hc : Tr.count n ≤ 800) :
    Calls Try.prog 13 #[nv n sl] w (TokensOf n w) := by
  have HV := hid (fun (w : World) (hr : RepL w n.kids sl) => valid_call n sl w hr ht (by omega))
  have HR := hid hr
  have HC := hid hc
  clear hr hc
  cases hv : Tr.valid n with
  | false =>
    have HS := hid (show printT n = [] from by unfold printT; rw [hv]; rfl)
    have HE := hid (show printE n = 1 from by unfold printE; rw [hv]; rfl)
    go_enter Try.func13, Try.ntmps13
    go_wp2_with fail
    refine (HV.out _ (HR.out.fresh ((Touch.refl _ _).alloc _))).mono ?_
    rintro _ w1 ⟨rfl, hf⟩
    have HF := hid (Touch.pre hf)
    clear hf
    go_wp2_with fail
    go_ret2
    exact ⟨.slice none 0 0, by rw [HE.out]; rfl, by rw [HS.out]; exact World.ownsRow_nil _ _ _ _, HF.out⟩
  | true =>
    have HS := hid (show printT n = Lx.placed 0 (Tr.sepd none (rowT n.kids)) from by unfold printT; rw [hv]; rfl)
    have HE := hid (show printE n = 0 from by unfold printE; rw [hv]; rfl)
    have HROW := hid (Tr.valid_row n hv)
    go_enter Try.func13, Try.ntmps13
    go_wp2_with fail
    refine (HV.out _ (HR.out.fresh ((Touch.refl _ _).alloc _))).mono ?_
    rintro _ w1 ⟨rfl, hf⟩
    have HF := hid (Touch.pre hf)
    have hb1 := hf.blk (Blk.new _ _ _) (fun h => h)
    have HB := hid hb1
    obtain ⟨q0, q1, q2, q3, _, _, _, _, hg⟩ := Blk.four hb1
    clear hf hb1
    have HEM := hid (rows_em w1 w1.heap.size (w1.heap.size + 1) _ n (Nat.le_refl _) (by have := HC.out; omega) HROW.out sl (HR.out.fresh HF.out) _ _ _ (PSt.new w1) (row_fits n HROW.out HC.out))
    go_wp2_with (refine wpList_build_kind [] built_pr _ rfl rfl rfl (.agg prCells) rfl ?_)
    refine HEM.out.mono ?_
    rintro _ w2 ⟨rfl, h2⟩
    obtain ⟨vt, vb, cs, hpr, htc⟩ := h2
    rw [adds_wtext] at hpr
    have HF2 := hid (show Fresh w w2 from HF.out.trans' ((((Touch.refl (fun k => w1.heap.size ≤ k) w1).alloc (.cells prCells 65))).trans (htc.mono (fun k hk => by rcases hk with rfl | ⟨h, _⟩ <;> omega))) (fun i hi => .inr (by have := HF.out.size; omega)))
    have HPR := hid hpr
    have r0 : w2.cell? ⟨w1.heap.size, 0, none⟩ = some vt := (hpr.bld.blk.cell 0).trans hpr.tok
    clear hpr htc q0 q1 q2 q3
    go_wp2_with fail
    go_ret2
    exact ⟨vt, by rw [HE.out]; rfl, by
      rw [HS.out]
      exact ownsRow_low HPR.out.own (by have := HF.out.size; omega), HF2.out⟩
end Go.Proofs.Ytilgpmpiidccjaa

/- The statement's own example. -/
namespace Go.Proofs.Ytilgpmpiidccjaa
open Go.RowKit
open Tr (Nd)

set_option maxRecDepth 100000 in
theorem awk1_any (s : ByteArray) (w : World) :
    Calls Try.prog 28 #[.string s] w fun e w' => e = .returned (.agg #[.int .i64 1, .string ⟨#[]⟩, .int .i64 0, .slice (some ⟨w.heap.size + 1, 0, none⟩) 1 1]) ∧ Fresh w w' ∧ Blk w' (w.heap.size + 1) 24 #[.int .i64 3, .string s, .int .i64 0, .slice none 0 0] := by
  go_enter Try.func28, Try.ntmps28
  go_wp2_with fail
  exact bodyPost_ret (v := .agg #[.int .i64 1, .string ⟨#[]⟩, .int .i64 0, .slice (some ⟨w.heap.size + 1, 0, none⟩) 1 1]) (by simp [results, Try.results28, go_sem]) rfl ⟨rfl, ((Touch.refl _ _).alloc _).alloc _, Blk.new2 _ _ _ _⟩

/-- A row of one number. -/
def numRow (s : List UInt8) : Nd := .mk 1 [] 0 [.mk 3 s 0 []]
def fracTree : Nd := .mk 1 [] 0 [.mk 5 [] 0 [numRow [49], numRow [50]]]

theorem RepL.leaf1 {W : World} {g : Nat} {k : Int} {s : List UInt8} (h : Blk W g 24 #[.int .i64 k, .string ⟨s.toArray⟩, .int .i64 0, .slice none 0 0]) (hs : s.length ≤ maxLen) : RepL W [.mk k s 0 []] (.slice (some ⟨g, 0, none⟩) 1 1) := by
  refine RepL.row g 0 1 [.mk k s 0 []] (fun _ => .slice none 0 0) h.lt (show 1 ≤ maxLen by decide) ?_ ?_ ?_ ?_ ?_ ?_
  all_goals (intro i hi; obtain rfl : i = 0 := by simpa using hi)
  · exact hs
  · exact h.cell 0
  · exact h.cell 1
  · exact h.cell 2
  · exact h.cell 3
  · exact .nil _ _

theorem RepL.kid1 {W : World} {g : Nat} {k c : Int} {s : List UInt8} {ks : List Nd} {v : Value} (h : Blk W g 24 #[.int .i64 k, .string ⟨s.toArray⟩, .int .i64 c, v]) (hs : s.length ≤ maxLen) (hk : RepL W ks v) : RepL W [.mk k s c ks] (.slice (some ⟨g, 0, none⟩) 1 1) := by
  refine RepL.row g 0 1 [.mk k s c ks] (fun _ => v) h.lt (show 1 ≤ maxLen by decide) ?_ ?_ ?_ ?_ ?_ ?_
  all_goals (intro i hi; obtain rfl : i = 0 := by simpa using hi)
  · exact hs
  · exact h.cell 0
  · exact h.cell 1
  · exact h.cell 2
  · exact h.cell 3
  · exact hk
theorem RepL.kid2 {W : World} {g : Nat} {k c k' c' : Int} {s s' : List UInt8} {ks ks' : List Nd} {v v' : Value} (h : Blk W g 24 #[.int .i64 k, .string ⟨s.toArray⟩, .int .i64 c, v, .int .i64 k', .string ⟨s'.toArray⟩, .int .i64 c', v']) (hs : s.length ≤ maxLen) (hs' : s'.length ≤ maxLen)
    (hk : RepL W ks v) (hk' : RepL W ks' v') : RepL W [.mk k s c ks, .mk k' s' c' ks'] (.slice (some ⟨g, 0, none⟩) 2 2) := by
  refine RepL.row g 0 2 [.mk k s c ks, .mk k' s' c' ks'] (fun i => if i = 0 then v else v') h.lt (show 2 ≤ maxLen by decide) ?_ ?_ ?_ ?_ ?_ ?_
  all_goals (intro i hi; have hi2 : i < 2 := (by simpa using hi); obtain rfl | rfl : i = 0 ∨ i = 1 := by omega)
  · exact hs
  · exact hs'
  · exact h.cell 0
  · exact h.cell 4
  · exact h.cell 1
  · exact h.cell 5
  · exact h.cell 2
  · exact h.cell 6
  · exact h.cell 3
  · exact h.cell 7
  · exact hk
  · exact hk'

set_option maxRecDepth 100000 in
set_option maxHeartbeats 1000000 in
theorem awake21_any (w : World) : Calls Try.prog 8 #[] w fun e w' => e = .returned (.bool true) ∧ Fresh w w' := by
  have hS : printS fracTree = [92, 102, 114, 97, 99, 49, 32, 50] := by decide +kernel
  have hE : printE fracTree = 0 := by decide +kernel
  have HS := hid hS
  have HE := hid hE
  clear hS hE
  go_enter Try.func8, Try.ntmps8
  go_wp2_with fail
  refine (awk1_any _ _).mono ?_
  rintro _ w1 ⟨rfl, hf1, hb1⟩
  have HF1 := hid hf1
  have HB1 := hid hb1
  clear hf1 hb1
  go_wp2_with fail
  refine (awk1_any _ _).mono ?_
  rintro _ w2 ⟨rfl, hf2, hb2⟩
  have HF2 := hid (Touch.trans HF1.out hf2)
  have HB2 := hid hb2
  have HB1' := hid (hf2.blk HB1.out (fun h => h))
  clear hf2 hb2 HB1
  go_wp2_with fail
  have hp : RepL _ fracTree.kids (.slice (some ⟨w2.heap.size + 1, 0, none⟩) 1 1) := RepL.kid1 (k := 5) (s := []) (c := 0) (ks := [numRow [49], numRow [50]]) (Blk.new2 w2 _ 24 _) (by decide)
    (RepL.kid2 (k := 1) (s := []) (c := 0) (k' := 1) (s' := []) (c' := 0) (ks := [.mk 3 [49] 0 []]) (ks' := [.mk 3 [50] 0 []]) ((Blk.new w2 24 _).alloc _) (by decide) (by decide)
      (RepL.leaf1 ((HB1'.out.alloc _).alloc _) (by decide)) (RepL.leaf1 ((HB2.out.alloc _).alloc _) (by decide)))
  refine (print_any fracTree _ _ hp (by decide) (by decide)).mono ?_
  rintro _ w3 ⟨rfl, hf3⟩
  have HF3 := hid (HF2.out.trans (Touch.pre (Touch.pre hf3)))
  rw [HS.out, HE.out]
  clear hp hf3
  go_wp2_with fail
  go_ret
  exact ⟨ret_bool' _ _ (by decide), HF3.out⟩
end Go.Proofs.Ytilgpmpiidccjaa

/- The walks of the reference's Quoted and Spell. -/
namespace Go.Proofs.Ytilgpmpiidccjaa
open Go.RowKit

/-- The call's own row of bytes. -/
structure RQ (w : World) (acc : List UInt8) (n g cap : Nat) (wr : World) : Prop where
  own : wr.ownsRow w.heap.size 5 1 (.slice (some ⟨g, 0, none⟩) n cap) n (Lib.byteCells acc)
  fresh : Fresh w wr

theorem one_cell (wr : World) (x : Value) : ∀ (j : Nat) (u : Value), [x][j]? = some u → (wr.alloc (.cells #[x] 5)).cell? ((⟨wr.heap.size, 0, none⟩ : Addr).add j) = some u := by
  intro j u hj
  match j, hj with
  | 0, hj =>
    simp at hj; subst hj
    exact (Blk.new wr 5 #[x]).cell 0

theorem RQ.next (c : UInt8) {w wr w' : World} {acc : List UInt8} {n g cap : Nat} {v : Value} {o : Obj} (h : RQ w acc n g cap wr) (hown : w'.ownsRow w.heap.size 5 1 v (n + 1) (Lib.byteCells acc ++ [.int .u8 c.toNat]))
    (hg : (wr.alloc o).grownBy w' (Value.slice (some ⟨g, 0, none⟩) n cap).ownBlock) : ∃ g' cap', v = .slice (some ⟨g', 0, none⟩) (n + 1) cap' ∧ RQ w (acc ++ [c]) (n + 1) g' cap' w' := by
  obtain ⟨g', cap', rfl⟩ : ∃ g' cap', v = .slice (some ⟨g', 0, none⟩) (n + 1) cap' := by
    rcases hown.2 with ⟨_, h0⟩ | ⟨g', cap', cur, hv, _⟩
    · omega
    · exact ⟨g', cap', hv⟩
  refine ⟨g', cap', rfl, ?_, ?_⟩
  · rw [byteCells_snoc]; exact hown
  · have hl := (h.own.lt g rfl).1
    refine h.fresh.trans' (S' := (· = g)) (((Touch.refl (· = g) wr).alloc o).grown hg (fun k hk => .inl ?_)) (fun k hk => .inr (by omega))
    simp [Value.ownBlock] at hk; exact hk.symm

set_option maxRecDepth 100000 in
set_option maxHeartbeats 1000000 in
theorem rQuoted_any (t : ByteArray) (w : World) (hm : t.size ≤ 1000000000) :
    Calls Try.prog 85 #[.string t] w fun e w' => e = .returned (.string ⟨(Lx.quoteL t.data.toList).toArray⟩) ∧ Fresh w w' := by
  obtain ⟨i0, hi, hz0, hz1, hz2⟩ := info_parts infoU8
  have hll : t.data.toList.length = t.size := by simp
  have HLL := hid hll
  clear hll
  go_enter Try.func85, Try.ntmps85
  go_wp2_with fail
  have hs0 : RQ w [34] 1 w.heap.size 1 (w.alloc (.cells #[.int .u8 34] 5)) :=
    ⟨⟨rfl, .inr ⟨w.heap.size, 1, #[.int .u8 34], rfl, Nat.le_refl _, (Blk.new w 5 #[.int .u8 34]), Nat.le_refl _, by decide, rfl, rfl⟩⟩, (Touch.refl _ w).alloc _⟩
  have HS0 := hid hs0
  clear hs0
  go_loopw [3, 4] (fun x i wr => ∃ (j : Nat) (acc : List UInt8) (n g cap : Nat), x = .slice (some ⟨g, 0, none⟩) n cap ∧ i = .int .i64 j ∧ j ≤ t.size ∧ n ≤ 2 * j + 1 ∧ Hid (acc = 34 :: Lx.esc (t.data.toList.take j)) ∧ Hid (RQ w acc n g cap wr)) (fun _ i _ => t.size - (intOf i).toNat)
  case atStart => exact ⟨0, [34], 1, w.heap.size, 1, rfl, rfl, Nat.zero_le _, Nat.le_refl _, rfl, HS0⟩
  case round =>
    obtain ⟨j, acc, n, g, cap, rfl, rfl, hj, hacc, HA, HS⟩ := hrel
    clear HS0
    by_cases c1 : j < t.size
    · have b1 : decide ((j : Int) < (t.size : Int)) = true := by simp; omega
      have b1' : (j : Int) < (t.size : Int) := by omega
      have htk : t.data.toList.take (j + 1) = t.data.toList.take j ++ [t[j]'c1] := by
        rw [List.take_add_one, List.getElem?_eq_getElem (by rw [HLL.out]; exact c1)]; rfl
      have HTK := hid htk
      clear htk
      by_cases c2 : t[j]'c1 = 34
      · have b2 : (((t[j]'c1).toNat : Int) == 34) = true := u8_eq_of _ 34 c2
        have HE := hid (show Lx.escB (t[j]'c1) = [92, t[j]'c1] by unfold Lx.escB; rw [if_pos (.inl c2)])
        clear c2
        go_wp2_with (at_builtin; refine wpList_append_own _ rfl _ _ 61 rfl w.heap.size 5 i0 (.int .u8 0) 1 1 Try.underlying61 hi hz0 hz1 hz2 rfl (by decide) _ _ _ rfl (HS.out.own.alloc _) ⟨wr.heap.size, 0, none⟩ 1 1 [.int .u8 (((92 : UInt8).toNat : Nat) : Int)] rfl rfl ?c1 ?c2 ?c3 ?c4 ?c5 ?_)
        case c1 => exact one_cell _ _
        case c2 => intro u hu; simp at hu; subst hu; rfl
        case c3 => unfold maxLen; omega
        case c4 => omega
        case c5 => have := HS.out.fresh.size; simp; omega
        intro v2 w2 hown2 hgrow2 _
        obtain ⟨g2, cap2, rfl, hn2⟩ := RQ.next 92 HS.out hown2 hgrow2
        have HN2 := hid hn2
        clear hown2 hgrow2 hn2
        go_wp2_with (at_builtin; refine wpList_append_own _ rfl _ _ 61 rfl w.heap.size 5 i0 (.int .u8 0) 1 1 Try.underlying61 hi hz0 hz1 hz2 rfl (by decide) _ _ _ rfl (HN2.out.own.alloc _) ⟨w2.heap.size, 0, none⟩ 1 1 [.int .u8 ((t[j]'c1).toNat : Int)] rfl rfl ?c1 ?c2 ?c3 ?c4 ?c5 ?_)
        case c1 => exact one_cell _ _
        case c2 => intro u hu; simp at hu; subst hu; rfl
        case c3 => unfold maxLen; omega
        case c4 => omega
        case c5 => have := HN2.out.fresh.size; simp; omega
        intro v3 w3 hown3 hgrow3 _
        obtain ⟨g3, cap3, rfl, hn3⟩ := RQ.next (t[j]'c1) HN2.out hown3 hgrow3
        have HN3 := hid hn3
        clear hown3 hgrow3 hn3
        go_wp2_with fail
        go_roundw
        case rel => exact ⟨j + 1, acc ++ [92] ++ [t[j]'c1], n + 1 + 1, _, _, rfl, by go_num, c1, by omega, by rw [HTK.out, Lx.esc_snoc, HE.out, HA.out]; simp [Hid], HN3⟩
        case measure => simp [intOf]; omega
      · have b2 : (((t[j]'c1).toNat : Int) == 34) = false := u8_ne_of _ 34 c2
        by_cases c3 : t[j]'c1 = 92
        · have b3 : (((t[j]'c1).toNat : Int) == 92) = true := u8_eq_of _ 92 c3
          have HE := hid (show Lx.escB (t[j]'c1) = [92, t[j]'c1] by unfold Lx.escB; rw [if_pos (.inr c3)])
          clear c2 c3
          go_wp2_with (at_builtin; refine wpList_append_own _ rfl _ _ 61 rfl w.heap.size 5 i0 (.int .u8 0) 1 1 Try.underlying61 hi hz0 hz1 hz2 rfl (by decide) _ _ _ rfl (HS.out.own.alloc _) ⟨wr.heap.size, 0, none⟩ 1 1 [.int .u8 (((92 : UInt8).toNat : Nat) : Int)] rfl rfl ?c1 ?c2 ?c3 ?c4 ?c5 ?_)
          case c1 => exact one_cell _ _
          case c2 => intro u hu; simp at hu; subst hu; rfl
          case c3 => unfold maxLen; omega
          case c4 => omega
          case c5 => have := HS.out.fresh.size; simp; omega
          intro v2 w2 hown2 hgrow2 _
          obtain ⟨g2, cap2, rfl, hn2⟩ := RQ.next 92 HS.out hown2 hgrow2
          have HN2 := hid hn2
          clear hown2 hgrow2 hn2
          go_wp2_with (at_builtin; refine wpList_append_own _ rfl _ _ 61 rfl w.heap.size 5 i0 (.int .u8 0) 1 1 Try.underlying61 hi hz0 hz1 hz2 rfl (by decide) _ _ _ rfl (HN2.out.own.alloc _) ⟨w2.heap.size, 0, none⟩ 1 1 [.int .u8 ((t[j]'c1).toNat : Int)] rfl rfl ?c1 ?c2 ?c3 ?c4 ?c5 ?_)
          case c1 => exact one_cell _ _
          case c2 => intro u hu; simp at hu; subst hu; rfl
          case c3 => unfold maxLen; omega
          case c4 => omega
          case c5 => have := HN2.out.fresh.size; simp; omega
          intro v3 w3 hown3 hgrow3 _
          obtain ⟨g3, cap3, rfl, hn3⟩ := RQ.next (t[j]'c1) HN2.out hown3 hgrow3
          have HN3 := hid hn3
          clear hown3 hgrow3 hn3
          go_wp2_with fail
          go_roundw
          case rel => exact ⟨j + 1, acc ++ [92] ++ [t[j]'c1], n + 1 + 1, _, _, rfl, by go_num, c1, by omega, by rw [HTK.out, Lx.esc_snoc, HE.out, HA.out]; simp [Hid], HN3⟩
          case measure => simp [intOf]; omega
        · have b3 : (((t[j]'c1).toNat : Int) == 92) = false := u8_ne_of _ 92 c3
          have HE := hid (show Lx.escB (t[j]'c1) = [t[j]'c1] by unfold Lx.escB; rw [if_neg (by rintro (h | h) <;> contradiction)])
          clear c2 c3
          go_wp2_with (at_builtin; refine wpList_append_own _ rfl _ _ 61 rfl w.heap.size 5 i0 (.int .u8 0) 1 1 Try.underlying61 hi hz0 hz1 hz2 rfl (by decide) _ _ _ rfl (HS.out.own.alloc _) ⟨wr.heap.size, 0, none⟩ 1 1 [.int .u8 ((t[j]'c1).toNat : Int)] rfl rfl ?c1 ?c2 ?c3 ?c4 ?c5 ?_)
          case c1 => exact one_cell _ _
          case c2 => intro u hu; simp at hu; subst hu; rfl
          case c3 => unfold maxLen; omega
          case c4 => omega
          case c5 => have := HS.out.fresh.size; simp; omega
          intro v2 w2 hown2 hgrow2 _
          obtain ⟨g2, cap2, rfl, hn2⟩ := RQ.next (t[j]'c1) HS.out hown2 hgrow2
          have HN2 := hid hn2
          clear hown2 hgrow2 hn2
          go_wp2_with fail
          go_roundw
          case rel => exact ⟨j + 1, acc ++ [t[j]'c1], n + 1, _, _, rfl, by go_num, c1, by omega, by rw [HTK.out, Lx.esc_snoc, HE.out, HA.out]; simp [Hid], HN2⟩
          case measure => simp [intOf]; omega
    · have b1 : decide ((j : Int) < (t.size : Int)) = false := by simp; omega
      have htk : t.data.toList.take j = t.data.toList := List.take_of_length_le (by rw [HLL.out]; omega)
      have HTK := hid htk
      clear htk
      go_wp2_with (at_builtin; refine wpList_append_own _ rfl _ _ 61 rfl w.heap.size 5 i0 (.int .u8 0) 1 1 Try.underlying61 hi hz0 hz1 hz2 rfl (by decide) _ _ _ rfl (HS.out.own.alloc _) ⟨wr.heap.size, 0, none⟩ 1 1 [.int .u8 (((34 : UInt8).toNat : Nat) : Int)] rfl rfl ?c1 ?c2 ?c3 ?c4 ?c5 ?_)
      case c1 => exact one_cell _ _
      case c2 => intro u hu; simp at hu; subst hu; rfl
      case c3 => unfold maxLen; omega
      case c4 => omega
      case c5 => have := HS.out.fresh.size; simp; omega
      intro v2 w2 hown2 hgrow2 _
      obtain ⟨g2, cap2, rfl, hn2⟩ := RQ.next 34 HS.out hown2 hgrow2
      have HN2 := hid hn2
      clear hown2 hgrow2 hn2
      clear HS
      have hlen : (acc ++ [34]).length = n + 1 := by
        have := HN2.out.own.1
        simpa [Lib.byteCells] using this
      have hconv : (convert 61 9 (.slice (some ⟨g2, 0, none⟩) (n + 1) cap2)).run Try.prog w2 = .ok (.string ⟨(acc ++ [34]).toArray⟩) w2 := by
        rw [← hlen]
        refine run_convert_bytes_back w2 61 9 5 ⟨g2, 0, none⟩ cap2 (acc ++ [34]) Try.underlying61 Try.underlying5 Try.underlying9 ?_
        intro j hj
        exact HN2.out.own.cells rfl j _ (by unfold Lib.byteCells; rw [List.getElem?_map, List.getElem?_eq_getElem hj]; rfl)
      have HL := hid hlen
      clear hlen
      go_wp2_with fail
      go_ret
      exact ⟨by rw [HA.out, HTK.out]; rfl, HN2.out.fresh⟩
end Go.Proofs.Ytilgpmpiidccjaa

/- The walk of the reference's Spell. -/
namespace Go.Proofs.Ytilgpmpiidccjaa
open Go.RowKit

set_option maxHeartbeats 400000 in
theorem rSpell_any (k : Int) (t : ByteArray) (f to_ : Int) (w : World) (hm : t.size ≤ 1000000000) :
    Calls Try.prog 52 #[.agg #[.int .i64 k, .string t, .int .i64 f, .int .i64 to_]] w fun e w' => e = .returned (.string ⟨(Lx.spellL k t.data.toList).toArray⟩) ∧ Fresh w w' := by
  by_cases k3 : k = 3
  · subst k3
    go_enter Try.func52, Try.ntmps52
    go_wp2_with fail
    refine (rQuoted_any t _ hm).mono ?_
    rintro e1 w1 ⟨rfl, hf⟩
    have HF := hid hf
    clear hf
    go_wp2_with fail
    go_ret
    exact ⟨rfl, HF.out.pre⟩
  have b3 : (k == 3) = false := by simpa using k3
  by_cases k4 : k = 4
  · subst k4
    clear b3 k3
    go_enter Try.func52, Try.ntmps52
    go_wp2
    go_ret
    exact ⟨by rw [app_str [92] t]; rfl, (Touch.refl _ w).alloc _⟩
  have b4 : (k == 4) = false := by simpa using k4
  by_cases k5 : k = 5
  · subst k5
    clear b3 k3 b4 k4
    go_enter Try.func52, Try.ntmps52
    go_wp2
    go_ret
    exact ⟨by rw [app_str [92, 102, 101, 110, 99, 101] t]; rfl, (Touch.refl _ w).alloc _⟩
  have b5 : (k == 5) = false := by simpa using k5
  by_cases k6 : k = 6
  · subst k6
    clear b3 k3 b4 k4 b5 k5
    go_enter Try.func52, Try.ntmps52
    go_wp2
    go_ret
    exact ⟨by rw [app_str [35] t]; rfl, (Touch.refl _ w).alloc _⟩
  have b6 : (k == 6) = false := by simpa using k6
  have hsp : Lx.spellL k t.data.toList = t.data.toList := by unfold Lx.spellL; rw [if_neg k3, if_neg k4, if_neg k5, if_neg k6]
  have HSP := hid hsp
  clear hsp k3 k4 k5 k6
  go_enter Try.func52, Try.ntmps52
  go_wp2
  go_ret
  exact ⟨by rw [HSP.out]; rfl, (Touch.refl _ w).alloc _⟩
end Go.Proofs.Ytilgpmpiidccjaa

/- The walk of the lexer's method name. -/
namespace Go.Proofs.Ytilgpmpiidccjaa
open Go.RowKit

theorem indexByte_mem (l : List UInt8) (c : UInt8) : decide (Lib.indexByte l c < 0) = !(l.contains c) := by
  have h1 := Lib.indexByte_ge l c
  by_cases hc : Lib.indexByte l c < 0
  · have h2 := Lib.indexByte_none (l := l) (c := c) (by omega)
    have : l.contains c = false := by
      rw [← Bool.not_eq_true, List.contains_iff_mem, List.mem_iff_getElem?]
      rintro ⟨i, hi⟩
      exact h2 i hi
    rw [this]; simp [hc]
  · obtain ⟨o, ho⟩ := Int.eq_ofNat_of_zero_le (show 0 ≤ Lib.indexByte l c by omega)
    have h2 := (Lib.indexByte_some ho).1
    have : l.contains c = true := by
      rw [List.contains_iff_mem, List.mem_iff_getElem?]
      exact ⟨o, h2⟩
    rw [this]; simp [hc]

/-- strings.IndexByte on the delimiters: below 0 exactly where the byte is none of them. -/
theorem delim_any (s : ByteArray) (c : UInt8) (x : Int) (hs : s = ⟨#[40, 41, 91, 93, 123, 125, 60, 62, 47, 124, 46]⟩) (w : World) (hx : x = c.toNat := by rfl) :
    Calls Try.prog 121 #[.string s, .int .u8 x] w fun e w' => (∃ i : Int, e = .returned (.int .i64 i) ∧ decide (i < 0) = !(Lx.isDelim c)) ∧ w' = w := by
  subst hs hx
  refine (Try.strings_IndexByte _ _ w).mono ?_
  rintro e w' ⟨rfl, rfl⟩
  refine ⟨⟨_, rfl, ?_⟩, rfl⟩
  rw [indexByte_mem]
  simp [Lx.isDelim]

set_option maxRecDepth 100000 in
set_option maxHeartbeats 400000 in
theorem name_plain (L : Nat) (s : ByteArray) (a m : Nat) (p e : Int) (w : World) (h : LexAt w L s a p e) (hm : s.size ≤ 1000000000) (hmd : m = a + 1 + Lx.runI 3 s.data.toList (a + 1)) (ha : a + 1 ≤ s.size) (r : Lx.Res) (F : ((s.extract (a + 1) m).toList == [102, 101, 110, 99, 101]) = false) (hr : Lx.lim 16 ⟨4, (s.extract (a + 1) m).data.toList⟩ (m - a) = r) :
    Calls Try.prog 108 #[.pointer (some ⟨L, 0, none⟩)] w (LexRes w L s a p e r) := by
  obtain ⟨g1, g2, g3, g4, f1, f2, f3, hL⟩ := lex_reads h
  have HM : s.size ≤ maxLen := by unfold maxLen; omega
  have H := hid h
  clear h
  have hle := Lx.runI_le 3 s.data.toList (a + 1)
  have hll : s.data.toList.length = s.size := by simp
  rw [hll] at hle
  have HD := hid hmd
  have am : a + 1 ≤ m := by omega
  have ms : m ≤ s.size := by omega
  clear hmd hle hll
  have e1 : ((a : Int) + 1) ≤ (m : Int) := by omega
  have e2 : (0 : Int) ≤ (a : Int) + 1 := by omega
  have e3 : (m : Int) ≤ (s.size : Int) := by omega
  go_enter Try.func108, Try.ntmps108
  go_wp2_with fail
  refine (run_any L s a p e _ 3 _ (H.out.alloc _) (by omega) (by omega) HM).mono ?_
  rintro e' w' ⟨rfl, n1, rfl⟩
  rw [show ((a : Int) + 1).toNat = a + 1 from by omega, ← HD.out]
  go_wp2_with fail
  go_quiet (fail)
  go_wp2_with fail
  refine (token_as L s a p e _ 4 _ _ (m - a) 16 _ _ r hr ((H.out.alloc _).drewN _) rfl (by omega) rfl).mono ?_
  rintro e' w' ⟨k, tx, f, t, b, a', p', e2, rfl, hx, ht, hmn⟩
  obtain ⟨q0, q1, q2, q3, z0, z1, z2, z3, hg⟩ := Blk.four (ht.blk ((Blk.new w _ _).drewN _) (by omega))
  have HX := hid hx
  have HT2 := hid ht
  have HMN := hid hmn
  clear hx ht hmn
  go_wp2_with fail
  (try simp only [Exit.inBlock, Exit.then])
  refine bodyPost_ret (v := .tuple #[.agg #[.int .i64 k, .string tx, .int .i64 f, .int .i64 t], .bool b]) (by simp [results, Try.results108, go_sem, q0, q1, q2, q3]) rfl ?_
  exact LexRes.close hL HX.out HT2.out.preN HMN.out

set_option maxRecDepth 100000 in
set_option maxHeartbeats 400000 in
theorem name_short (L : Nat) (s : ByteArray) (a m : Nat) (p e : Int) (w : World) (h : LexAt w L s a p e) (hm : s.size ≤ 1000000000) (hmd : m = a + 1 + Lx.runI 3 s.data.toList (a + 1)) (ha : a + 1 ≤ s.size) (r : Lx.Res) (F : ((s.extract (a + 1) m).toList == [102, 101, 110, 99, 101]) = true) (hs : s.size < m + 2) (hr : Lx.Res.err 0 3 = r) :
    Calls Try.prog 108 #[.pointer (some ⟨L, 0, none⟩)] w (LexRes w L s a p e r) := by
  obtain ⟨g1, g2, g3, g4, f1, f2, f3, hL⟩ := lex_reads h
  have HM : s.size ≤ maxLen := by unfold maxLen; omega
  have H := hid h
  clear h
  have hle := Lx.runI_le 3 s.data.toList (a + 1)
  have hll : s.data.toList.length = s.size := by simp
  rw [hll] at hle
  have HD := hid hmd
  have am : a + 1 ≤ m := by omega
  have ms : m ≤ s.size := by omega
  clear hmd hle hll
  have e1 : ((a : Int) + 1) ≤ (m : Int) := by omega
  have e2 : (0 : Int) ≤ (a : Int) + 1 := by omega
  have e3 : (m : Int) ≤ (s.size : Int) := by omega
  have S1 : decide ((s.size : Int) < (m : Int) + 2) = true := by simp; omega
  go_enter Try.func108, Try.ntmps108
  go_wp2_with fail
  refine (run_any L s a p e _ 3 _ (H.out.alloc _) (by omega) (by omega) HM).mono ?_
  rintro e' w' ⟨rfl, n1, rfl⟩
  rw [show ((a : Int) + 1).toNat = a + 1 from by omega, ← HD.out]
  go_wp2_with fail
  go_quiet (fail)
  go_wp2_with fail
  refine (fail_as L s a p e _ _ 0 3 _ r hr ((H.out.alloc _).drewN _) rfl rfl).mono ?_
  rintro e' w' ⟨k, tx, f, t, b, a', p', e2, rfl, hx, ht, hmn⟩
  obtain ⟨q0, q1, q2, q3, z0, z1, z2, z3, hg⟩ := Blk.four (ht.blk ((Blk.new w _ _).drewN _) (by omega))
  have HX := hid hx
  have HT2 := hid ht
  have HMN := hid hmn
  clear hx ht hmn
  go_wp2_with fail
  (try simp only [Exit.inBlock, Exit.then])
  refine bodyPost_ret (v := .tuple #[.agg #[.int .i64 k, .string tx, .int .i64 f, .int .i64 t], .bool b]) (by simp [results, Try.results108, go_sem, q0, q1, q2, q3]) rfl ?_
  exact LexRes.close hL HX.out HT2.out.preN HMN.out

set_option maxRecDepth 100000 in
set_option maxHeartbeats 400000 in
theorem name_bad1 (L : Nat) (s : ByteArray) (a m : Nat) (p e : Int) (w : World) (h : LexAt w L s a p e) (hm : s.size ≤ 1000000000) (hmd : m = a + 1 + Lx.runI 3 s.data.toList (a + 1)) (ha : a + 1 ≤ s.size) (r : Lx.Res) (F : ((s.extract (a + 1) m).toList == [102, 101, 110, 99, 101]) = true) (hs : m + 1 < s.size) (T1 : Lx.isDelim (s[m]'(Nat.lt_of_succ_lt hs)) = false) (hr : Lx.Res.err 0 3 = r) :
    Calls Try.prog 108 #[.pointer (some ⟨L, 0, none⟩)] w (LexRes w L s a p e r) := by
  obtain ⟨g1, g2, g3, g4, f1, f2, f3, hL⟩ := lex_reads h
  have HM : s.size ≤ maxLen := by unfold maxLen; omega
  have H := hid h
  clear h
  have hle := Lx.runI_le 3 s.data.toList (a + 1)
  have hll : s.data.toList.length = s.size := by simp
  rw [hll] at hle
  have HD := hid hmd
  have am : a + 1 ≤ m := by omega
  have ms : m ≤ s.size := by omega
  clear hmd hle hll
  have e1 : ((a : Int) + 1) ≤ (m : Int) := by omega
  have e2 : (0 : Int) ≤ (a : Int) + 1 := by omega
  have e3 : (m : Int) ≤ (s.size : Int) := by omega
  have S1 : decide ((s.size : Int) < (m : Int) + 2) = false := by simp; omega
  have S2 : (m : Int) < (s.size : Int) := by omega
  have S3 : (0 : Int) ≤ (m : Int) := by omega
  go_enter Try.func108, Try.ntmps108
  go_wp2_with fail
  refine (run_any L s a p e _ 3 _ (H.out.alloc _) (by omega) (by omega) HM).mono ?_
  rintro e' w' ⟨rfl, n1, rfl⟩
  rw [show ((a : Int) + 1).toNat = a + 1 from by omega, ← HD.out]
  go_wp2_with fail
  go_quiet (fail)
  go_wp2_with fail
  refine (delim_any _ _ _ rfl _).mono ?_
  rintro e' w' ⟨⟨i1, rfl, hi1⟩, rfl⟩
  have HI1 : decide (i1 < 0) = true := by rw [hi1, T1]; rfl
  clear hi1 T1
  go_wp2_with fail
  refine (fail_as L s a p e _ _ 0 3 _ r hr ((H.out.alloc _).drewN _) rfl rfl).mono ?_
  rintro e' w' ⟨k, tx, f, t, b, a', p', e2, rfl, hx, ht, hmn⟩
  obtain ⟨q0, q1, q2, q3, z0, z1, z2, z3, hg⟩ := Blk.four (ht.blk ((Blk.new w _ _).drewN _) (by omega))
  have HX := hid hx
  have HT2 := hid ht
  have HMN := hid hmn
  clear hx ht hmn
  go_wp2_with fail
  (try simp only [Exit.inBlock, Exit.then])
  refine bodyPost_ret (v := .tuple #[.agg #[.int .i64 k, .string tx, .int .i64 f, .int .i64 t], .bool b]) (by simp [results, Try.results108, go_sem, q0, q1, q2, q3]) rfl ?_
  exact LexRes.close hL HX.out HT2.out.preN HMN.out

set_option maxRecDepth 100000 in
set_option maxHeartbeats 400000 in
theorem name_bad2 (L : Nat) (s : ByteArray) (a m : Nat) (p e : Int) (w : World) (h : LexAt w L s a p e) (hm : s.size ≤ 1000000000) (hmd : m = a + 1 + Lx.runI 3 s.data.toList (a + 1)) (ha : a + 1 ≤ s.size) (r : Lx.Res) (F : ((s.extract (a + 1) m).toList == [102, 101, 110, 99, 101]) = true) (hs : m + 1 < s.size) (T1 : Lx.isDelim (s[m]'(Nat.lt_of_succ_lt hs)) = true) (T2 : Lx.isDelim (s[m + 1]'hs) = false) (hr : Lx.Res.err 0 3 = r) :
    Calls Try.prog 108 #[.pointer (some ⟨L, 0, none⟩)] w (LexRes w L s a p e r) := by
  obtain ⟨g1, g2, g3, g4, f1, f2, f3, hL⟩ := lex_reads h
  have HM : s.size ≤ maxLen := by unfold maxLen; omega
  have H := hid h
  clear h
  have hle := Lx.runI_le 3 s.data.toList (a + 1)
  have hll : s.data.toList.length = s.size := by simp
  rw [hll] at hle
  have HD := hid hmd
  have am : a + 1 ≤ m := by omega
  have ms : m ≤ s.size := by omega
  clear hmd hle hll
  have e1 : ((a : Int) + 1) ≤ (m : Int) := by omega
  have e2 : (0 : Int) ≤ (a : Int) + 1 := by omega
  have e3 : (m : Int) ≤ (s.size : Int) := by omega
  have S1 : decide ((s.size : Int) < (m : Int) + 2) = false := by simp; omega
  have S2 : (m : Int) < (s.size : Int) := by omega
  have S3 : (0 : Int) ≤ (m : Int) := by omega
  have S4 : (m : Int) + 1 < (s.size : Int) := by omega
  go_enter Try.func108, Try.ntmps108
  go_wp2_with fail
  refine (run_any L s a p e _ 3 _ (H.out.alloc _) (by omega) (by omega) HM).mono ?_
  rintro e' w' ⟨rfl, n1, rfl⟩
  rw [show ((a : Int) + 1).toNat = a + 1 from by omega, ← HD.out]
  go_wp2_with fail
  go_quiet (fail)
  go_wp2_with fail
  refine (delim_any _ _ _ rfl _).mono ?_
  rintro e' w' ⟨⟨i1, rfl, hi1⟩, rfl⟩
  have HI1 : decide (i1 < 0) = false := by rw [hi1, T1]; rfl
  clear hi1 T1
  go_wp2_with fail
  refine (delim_any _ _ _ rfl _).mono ?_
  rintro e' w' ⟨⟨i2, rfl, hi2⟩, rfl⟩
  have HI2 : decide (i2 < 0) = true := by rw [hi2, T2]; rfl
  clear hi2 T2
  go_wp2_with fail
  refine (fail_as L s a p e _ _ 0 3 _ r hr ((H.out.alloc _).drewN _) rfl rfl).mono ?_
  rintro e' w' ⟨k, tx, f, t, b, a', p', e2, rfl, hx, ht, hmn⟩
  obtain ⟨q0, q1, q2, q3, z0, z1, z2, z3, hg⟩ := Blk.four (ht.blk ((Blk.new w _ _).drewN _) (by omega))
  have HX := hid hx
  have HT2 := hid ht
  have HMN := hid hmn
  clear hx ht hmn
  go_wp2_with fail
  (try simp only [Exit.inBlock, Exit.then])
  refine bodyPost_ret (v := .tuple #[.agg #[.int .i64 k, .string tx, .int .i64 f, .int .i64 t], .bool b]) (by simp [results, Try.results108, go_sem, q0, q1, q2, q3]) rfl ?_
  exact LexRes.close hL HX.out HT2.out.preN HMN.out

set_option maxRecDepth 100000 in
set_option maxHeartbeats 400000 in
theorem name_fence (L : Nat) (s : ByteArray) (a m : Nat) (p e : Int) (w : World) (h : LexAt w L s a p e) (hm : s.size ≤ 1000000000) (hmd : m = a + 1 + Lx.runI 3 s.data.toList (a + 1)) (ha : a + 1 ≤ s.size) (r : Lx.Res) (F : ((s.extract (a + 1) m).toList == [102, 101, 110, 99, 101]) = true) (hs : m + 1 < s.size) (T1 : Lx.isDelim (s[m]'(Nat.lt_of_succ_lt hs)) = true) (T2 : Lx.isDelim (s[m + 1]'hs) = true) (hr : Lx.lim 2 ⟨5, (s.extract m (m + 2)).data.toList⟩ (m + 2 - a) = r) :
    Calls Try.prog 108 #[.pointer (some ⟨L, 0, none⟩)] w (LexRes w L s a p e r) := by
  obtain ⟨g1, g2, g3, g4, f1, f2, f3, hL⟩ := lex_reads h
  have HM : s.size ≤ maxLen := by unfold maxLen; omega
  have H := hid h
  clear h
  have hle := Lx.runI_le 3 s.data.toList (a + 1)
  have hll : s.data.toList.length = s.size := by simp
  rw [hll] at hle
  have HD := hid hmd
  have am : a + 1 ≤ m := by omega
  have ms : m ≤ s.size := by omega
  clear hmd hle hll
  have e1 : ((a : Int) + 1) ≤ (m : Int) := by omega
  have e2 : (0 : Int) ≤ (a : Int) + 1 := by omega
  have e3 : (m : Int) ≤ (s.size : Int) := by omega
  have S1 : decide ((s.size : Int) < (m : Int) + 2) = false := by simp; omega
  have S2 : (m : Int) < (s.size : Int) := by omega
  have S3 : (0 : Int) ≤ (m : Int) := by omega
  have S4 : (m : Int) + 1 < (s.size : Int) := by omega
  have S5 : (m : Int) + 2 ≤ (s.size : Int) := by omega
  go_enter Try.func108, Try.ntmps108
  go_wp2_with fail
  refine (run_any L s a p e _ 3 _ (H.out.alloc _) (by omega) (by omega) HM).mono ?_
  rintro e' w' ⟨rfl, n1, rfl⟩
  rw [show ((a : Int) + 1).toNat = a + 1 from by omega, ← HD.out]
  go_wp2_with fail
  go_quiet (fail)
  go_wp2_with fail
  refine (delim_any _ _ _ rfl _).mono ?_
  rintro e' w' ⟨⟨i1, rfl, hi1⟩, rfl⟩
  have HI1 : decide (i1 < 0) = false := by rw [hi1, T1]; rfl
  clear hi1 T1
  go_wp2_with fail
  refine (delim_any _ _ _ rfl _).mono ?_
  rintro e' w' ⟨⟨i2, rfl, hi2⟩, rfl⟩
  have HI2 : decide (i2 < 0) = false := by rw [hi2, T2]; rfl
  clear hi2 T2
  go_wp2_with fail
  refine (token_as L s a p e _ 5 _ _ (m + 2 - a) 2 _ _ r hr ((H.out.alloc _).drewN _) rfl (by omega) rfl).mono ?_
  rintro e' w' ⟨k, tx, f, t, b, a', p', e2, rfl, hx, ht, hmn⟩
  obtain ⟨q0, q1, q2, q3, z0, z1, z2, z3, hg⟩ := Blk.four (ht.blk ((Blk.new w _ _).drewN _) (by omega))
  have HX := hid hx
  have HT2 := hid ht
  have HMN := hid hmn
  clear hx ht hmn
  go_wp2_with fail
  (try simp only [Exit.inBlock, Exit.then])
  refine bodyPost_ret (v := .tuple #[.agg #[.int .i64 k, .string tx, .int .i64 f, .int .i64 t], .bool b]) (by simp [results, Try.results108, go_sem, q0, q1, q2, q3]) rfl ?_
  exact LexRes.close hL HX.out HT2.out.preN HMN.out

end Go.Proofs.Ytilgpmpiidccjaa

/- The walks of name and next, all ways joined. -/
namespace Go.Proofs.Ytilgpmpiidccjaa
open Go.RowKit

theorem runLen_i (l : Lx.Bytes) (c k : Nat) : Lx.runLen c (l.drop k) = Lx.runI c l k := by
  unfold Lx.runLen Lx.runI
  have : (Lx.isB c) = fun b : UInt8 => ((Lx.cls b.toNat : Int) == (c : Int)) := by
    funext b
    unfold Lx.isB
    rw [Bool.eq_iff_iff]; simp; omega
  rw [this]

theorem extract_list (s : ByteArray) (i j : Nat) : (s.extract i j).data.toList = (s.data.toList.drop i).take (j - i) := by
  simp [ByteArray.data_extract, Array.toList_extract, List.extract_eq_take_drop]

theorem name_any (L : Nat) (s : ByteArray) (a : Nat) (p e : Int) (w : World) (h : LexAt w L s a p e) (hm : s.size ≤ 1000000000) (ha : a < s.size) :
    Calls Try.prog 108 #[.pointer (some ⟨L, 0, none⟩)] w (LexRes w L s a p e (Lx.name (s.data.toList.drop a))) := by
  have hll : s.data.toList.length = s.size := by simp
  have hle := Lx.runI_le 3 s.data.toList (a + 1)
  rw [hll] at hle
  obtain ⟨n, hn⟩ : ∃ n, n = Lx.runI 3 s.data.toList (a + 1) := ⟨_, rfl⟩
  have hmd : a + 1 + n = a + 1 + Lx.runI 3 s.data.toList (a + 1) := by rw [hn]
  have hN : Lx.runLen 3 ((s.data.toList.drop a).drop 1) = n := by rw [List.drop_drop, runLen_i, hn]; rfl
  have hT : ((s.data.toList.drop a).drop 1).take n = (s.extract (a + 1) (a + 1 + n)).data.toList := by
    rw [extract_list, List.drop_drop, Nat.add_sub_cancel_left]
  have hbl : (s.extract (a + 1) (a + 1 + n)).toList = (s.extract (a + 1) (a + 1 + n)).data.toList := ByteArray.toList_eq _
  have hget : ∀ i, (s.data.toList.drop a)[i]? = s.data.toList[a + i]? := fun i => by rw [List.getElem?_drop]
  unfold Lx.name
  simp only [hN, hT]
  by_cases c1 : (s.extract (a + 1) (a + 1 + n)).data.toList = [102, 101, 110, 99, 101]
  · rw [if_neg (by simpa using c1)]
    have F : ((s.extract (a + 1) (a + 1 + n)).toList == [102, 101, 110, 99, 101]) = true := by rw [hbl, c1]; rfl
    by_cases c2 : a + 1 + n + 1 < s.size
    · have g1 : (s.data.toList.drop a)[1 + n]? = some (s[a + 1 + n]'(Nat.lt_of_succ_lt c2)) := by
        rw [hget, List.getElem?_eq_getElem (by omega)]
        simp only [Nat.add_assoc]; rfl
      have g2 : (s.data.toList.drop a)[2 + n]? = some (s[a + 1 + n + 1]'c2) := by
        rw [hget, List.getElem?_eq_getElem (by omega)]
        congr 1
        show s.data.toList[a + (2 + n)] = s.data.toList[a + 1 + n + 1]'(by omega)
        congr 1; omega
      have d1 : Lx.delimAt (s.data.toList.drop a) (1 + n) = Lx.isDelim (s[a + 1 + n]'(Nat.lt_of_succ_lt c2)) := by unfold Lx.delimAt; rw [g1]
      have d2 : Lx.delimAt (s.data.toList.drop a) (2 + n) = Lx.isDelim (s[a + 1 + n + 1]'c2) := by unfold Lx.delimAt; rw [g2]
      rw [d1, d2]
      cases e1 : Lx.isDelim (s[a + 1 + n]'(Nat.lt_of_succ_lt c2)) with
      | false => exact name_bad1 L s a _ p e w h hm hmd (by omega) _ F c2 e1 (by simp)
      | true =>
        cases e2 : Lx.isDelim (s[a + 1 + n + 1]'c2) with
        | false => exact name_bad2 L s a _ p e w h hm hmd (by omega) _ F c2 e1 e2 (by simp)
        | true =>
          refine name_fence L s a _ p e w h hm hmd (by omega) _ F c2 e1 e2 ?_
          rw [if_pos ⟨rfl, rfl⟩, extract_list]
          have hl : (List.take (a + 1 + n + 2 - (a + 1 + n)) (List.drop (a + 1 + n) s.data.toList)).length = 2 := by
            rw [List.length_take, List.length_drop, hll]; omega
          unfold Lx.lim
          rw [if_neg (by simp only [hl]; omega)]
          congr 1
          · congr 1
            rw [List.drop_drop, show a + 1 + n + 2 - (a + 1 + n) = 2 from by omega, show a + (1 + n) = a + 1 + n from by omega]
          · omega
    · have hd : ¬ (Lx.delimAt (s.data.toList.drop a) (1 + n) = true ∧ Lx.delimAt (s.data.toList.drop a) (2 + n) = true) := by
        rintro ⟨_, h2⟩
        unfold Lx.delimAt at h2
        rw [hget, List.getElem?_eq_none (by omega)] at h2
        cases h2
      rw [if_neg hd]
      exact name_short L s a _ p e w h hm hmd (by omega) _ F (by omega) rfl
  · rw [if_pos (by simpa using c1)]
    have F : ((s.extract (a + 1) (a + 1 + n)).toList == [102, 101, 110, 99, 101]) = false := by rw [hbl]; simpa using c1
    refine name_plain L s a _ p e w h hm hmd (by omega) _ F ?_
    congr 1
    omega

theorem next_any (L : Nat) (s : ByteArray) (a : Nat) (p e : Int) (w : World) (h : LexAt w L s a p e) (hm : s.size ≤ 1000000000) (ha : a < s.size) :
    Calls Try.prog 62 #[.pointer (some ⟨L, 0, none⟩)] w (LexRes w L s a p e (Lx.next (s.data.toList.drop a))) := by
  have HM : s.size ≤ maxLen := by unfold maxLen; omega
  have hll : s.data.toList.length = s.size := by simp
  have hd : s.data.toList.drop a = s[a] :: s.data.toList.drop (a + 1) := List.drop_eq_getElem_cons (by simpa using ha)
  have hcl : Lx.clsI s.data.toList a = (Lx.cls s[a].toNat : Int) := by rw [Lx.clsI_lt _ _ (by omega)]; rfl
  have F : ∀ k : Nat, (Lx.clsI s.data.toList a == (k : Int)) = (Lx.cls s[a].toNat == k) := fun k => by
    rw [hcl, Bool.eq_iff_iff]; simp; omega
  have B : ∀ k : Nat, Lx.isB k s[a] = (Lx.cls s[a].toNat == k) := fun k => rfl
  have C : ∀ x : UInt8, ((s.extract a (a + 1)).toList == [x]) = (s[a] == x) := one_byte_eq s a ha
  have O := one_byte s a ha
  have one : ∀ k : Nat, Lx.lim 1 ⟨k, (s.extract a (a + 1)).data.toList⟩ 1 = .ok ⟨k, [s[a]]⟩ 1 := fun k => by rw [O]; rfl
  have hnum : Lx.isB 2 s[a] = true → Lx.next (s.data.toList.drop a) = Lx.number (s.data.toList.drop a) := fun hb => by
    rw [hd]; simp only [Lx.next, hb, if_true]
  by_cases b2 : (Lx.cls s[a].toNat == 2) = true
  · exact next_number L s a p e w h HM ha _ ((F 2).trans b2) (hnum ((B 2).trans b2)).symm
  have b2' : (Lx.cls s[a].toNat == 2) = false := by simpa using b2
  rw [hd]
  simp only [Lx.next, B, b2', Bool.false_eq_true, if_false]
  have F2 := (F 2).trans b2'
  by_cases b5 : (Lx.cls s[a].toNat == 5) = true
  · rw [if_pos b5]
    exact next_mark L s a p e w h HM ha _ F2 ((F 5).trans b5) (one 7)
  have b5' : (Lx.cls s[a].toNat == 5) = false := by simpa using b5
  simp only [b5', Bool.false_eq_true, if_false]
  have F5 := (F 5).trans b5'
  by_cases c34 : s[a] = 34
  · rw [if_pos c34]
    exact next_quoted L s a p e w h HM ha _ F2 F5 ((C 34).trans (by simp [c34])) (fun w' h' => quoted_any L s a p e w' h' hm ha)
  rw [if_neg c34]
  have C34 := (C 34).trans (show (s[a] == 34) = false by simpa using c34)
  have hq : (s.data.toList.drop (a + 1)).head? = s.data.toList[a + 1]? := by rw [List.head?_drop]
  have hat3 : Lx.isAt 3 (s.data.toList.drop (a + 1)) 0 = (Lx.clsI s.data.toList (a + 1) == 3) := by
    unfold Lx.isAt Lx.clsI
    rw [List.getElem?_drop]
    cases s.data.toList[a + 1 + 0]? with
    | none => simp
    | some b => simp only [Lx.isB]; rw [Bool.eq_iff_iff]; simp; omega
  rw [hq, hat3]
  by_cases c92 : s[a] = 92
  · have C92 := (C 92).trans (show (s[a] == 92) = true by simpa using c92)
    have C35 := (C 35).trans (show (s[a] == 35) = false by rw [c92]; rfl)
    have N3 : (Lx.clsI s.data.toList a == 3) = false := (F 3).trans (by rw [c92]; rfl)
    have N4 : (Lx.clsI s.data.toList a == 4) = false := (F 4).trans (by rw [c92]; rfl)
    have n35 : ¬ s[a] = 35 := by rw [c92]; decide
    have n3 : ¬ ((Lx.cls s[a].toNat == 3) = true ∨ (Lx.cls s[a].toNat == 4) = true) := by rw [c92]; decide
    by_cases hs : a + 1 < s.size
    · have hx : s.data.toList[a + 1]? = some (s[a + 1]'hs) := by rw [List.getElem?_eq_getElem (by omega)]; rfl
      rw [hx]
      by_cases d92 : s[a + 1]'hs = 92
      · rw [if_pos ⟨c92, by rw [d92]⟩]
        exact next_break L s a p e w h HM ha _ F2 F5 C34 C92 hs (u8_eq_of _ 92 d92) rfl
      · rw [if_neg (fun hh => d92 (by simpa using hh.2))]
        cases e3 : (Lx.clsI s.data.toList (a + 1) == 3) with
        | true =>
          rw [if_pos ⟨c92, rfl⟩, ← hd]
          exact next_name L s a p e w h HM ha _ F2 F5 C34 C92 hs (u8_ne_of _ 92 d92) e3 (fun w' h' => name_any L s a p e w' h' hm ha)
        | false =>
          rw [if_neg (fun hh => by cases hh.2), if_neg (fun hh => n35 hh.1), if_neg n3]
          exact next_slash_a L s a p e w h HM ha _ F2 F5 C34 C92 C35 hs (u8_ne_of _ 92 d92) e3 N3 N4 rfl
    · have hx : s.data.toList[a + 1]? = none := List.getElem?_eq_none (by omega)
      have e3 : (Lx.clsI s.data.toList (a + 1) == 3) = false := by rw [Lx.clsI_ge _ _ (by omega)]; rfl
      rw [hx, e3, if_neg (fun hh => by cases hh.2), if_neg (fun hh => by cases hh.2), if_neg (fun hh => n35 hh.1), if_neg n3]
      exact next_slash_b L s a p e w h HM ha _ F2 F5 C34 C92 C35 hs e3 N3 N4 rfl
  rw [if_neg (fun hh => c92 hh.1), if_neg (fun hh => c92 hh.1)]
  have C92 := (C 92).trans (show (s[a] == 92) = false by simpa using c92)
  by_cases c35 : s[a] = 35
  · have C35 := (C 35).trans (show (s[a] == 35) = true by simpa using c35)
    have N3 : (Lx.clsI s.data.toList a == 3) = false := (F 3).trans (by rw [c35]; rfl)
    have N4 : (Lx.clsI s.data.toList a == 4) = false := (F 4).trans (by rw [c35]; rfl)
    have n3 : ¬ ((Lx.cls s[a].toNat == 3) = true ∨ (Lx.cls s[a].toNat == 4) = true) := by rw [c35]; decide
    by_cases hs : a + 1 < s.size
    · have hx : s.data.toList.drop (a + 1) = (s[a + 1]'hs) :: s.data.toList.drop (a + 2) := List.drop_eq_getElem_cons (by omega)
      have hp : Lx.parAt (s.data.toList.drop (a + 1)) = decide (49 ≤ (s[a + 1]'hs) ∧ (s[a + 1]'hs) ≤ 52) := by rw [hx]; rfl
      rw [hp]
      have le1 : (49 ≤ (s[a + 1]'hs)) ↔ 49 ≤ (s[a + 1]'hs).toNat := by rw [UInt8.le_iff_toNat_le]; rfl
      have le2 : ((s[a + 1]'hs) ≤ 52) ↔ (s[a + 1]'hs).toNat ≤ 52 := by rw [UInt8.le_iff_toNat_le]; rfl
      by_cases d1 : 49 ≤ (s[a + 1]'hs).toNat
      · have D1 : decide (49 ≤ ((s[a + 1]'hs).toNat : Int)) = true := by simp; omega
        by_cases d2 : (s[a + 1]'hs).toNat ≤ 52
        · have D2 : decide (((s[a + 1]'hs).toNat : Int) ≤ 52) = true := by simp; omega
          rw [if_pos ⟨c35, by simp [le1, le2, d1, d2]⟩, hx]
          refine next_param L s a p e w h HM ha _ F2 F5 C34 C92 C35 hs D1 D2 ?_
          have hw : wrap32 ((s[a + 1]'hs).toNat : Int) = ((s[a + 1]'hs).toNat : Int) := IntWalk.wrap32_in _ (by have := (s[a + 1]'hs).toNat_lt; constructor <;> omega)
          rw [hw, utf8_digit _ d1 d2]
          rfl
        · have D2 : decide (((s[a + 1]'hs).toNat : Int) ≤ 52) = false := by simp; omega
          rw [if_neg (fun hh => by simp [le1, le2, d2] at hh), if_neg n3]
          exact next_hash_b L s a p e w h HM ha _ F2 F5 C34 C92 C35 hs D1 D2 N3 N4 rfl
      · have D1 : decide (49 ≤ ((s[a + 1]'hs).toNat : Int)) = false := by simp; omega
        rw [if_neg (fun hh => by simp [le1, le2, d1] at hh), if_neg n3]
        exact next_hash_a L s a p e w h HM ha _ F2 F5 C34 C92 C35 hs D1 N3 N4 rfl
    · have hp : Lx.parAt (s.data.toList.drop (a + 1)) = false := by rw [List.drop_eq_nil_of_le (by omega)]; rfl
      rw [hp, if_neg (fun hh => by cases hh.2), if_neg n3]
      exact next_hash_c L s a p e w h HM ha _ F2 F5 C34 C92 C35 hs N3 N4 rfl
  rw [if_neg (fun hh => c35 hh.1)]
  have C35 := (C 35).trans (show (s[a] == 35) = false by simpa using c35)
  by_cases b3 : (Lx.cls s[a].toNat == 3) = true
  · rw [if_pos (.inl b3)]
    exact next_letter L s a p e w h HM ha _ F2 F5 C34 C92 C35 ((F 3).trans b3) (one 1)
  have b3' : (Lx.cls s[a].toNat == 3) = false := by simpa using b3
  by_cases b4 : (Lx.cls s[a].toNat == 4) = true
  · rw [if_pos (.inr b4)]
    exact next_sign L s a p e w h HM ha _ F2 F5 C34 C92 C35 ((F 3).trans b3') ((F 4).trans b4) (one 1)
  have b4' : (Lx.cls s[a].toNat == 4) = false := by simpa using b4
  rw [if_neg (fun hh => hh.elim b3 b4)]
  exact next_none L s a p e w h HM ha _ F2 F5 C34 C92 C35 ((F 3).trans b3') ((F 4).trans b4') rfl
end Go.Proofs.Ytilgpmpiidccjaa

/- The walk of the lexer's iterator. -/
namespace Go.Proofs.Ytilgpmpiidccjaa
open Go.RowKit
attribute [local go_sem] Oper.semAt_some

/-- The value of a token with its place. -/
def ptokV (x : Lx.PTok) : Value := .agg #[.int .i64 x.kind, .string ⟨x.text.toArray⟩, .int .i64 x.from_, .int .i64 x.to_]

def atOf (L : Nat) (w : World) : Nat := match w.cell? ⟨L, 257, none⟩ with | some (.int _ n) => n.toNat | _ => 0
theorem atOf_eq {L : Nat} {w : World} {s : ByteArray} {a : Nat} {p e : Int} (h : LexAt w L s a p e) : atOf L w = a := by unfold atOf; rw [h.at_]; simp

/-- How the iterator leaves the lexer. -/
def LexEnd (w : World) (L : Nat) (s : ByteArray) (r : Option (Nat × Nat)) : Prop :=
  ∃ a p e : Int, LexAt w L s a p e ∧ (match r with | none => e = 0 | some (p', e') => p = p' ∧ e = e')

set_option maxRecDepth 100000 in
set_option maxHeartbeats 1000000 in
theorem iter_any (L c l : Nat) (s : ByteArray) (J : List Lx.PTok → World → Prop) (w : World) (hm : s.size ≤ 1000000000)
    (hJ : ∀ pre W W', J pre W → Touch (· = L) W W' → J pre W')
    (hcL : c ≠ L)
    (hY : ∀ pre x (a : Nat) W, J pre W → LexAt W L s a 0 0 → W.cell? ⟨c, 0, none⟩ = some (.pointer (some ⟨L, 0, none⟩)) → pre ++ [x] <+: (Lx.lexAll s.data.toList).1 →
      YieldAt Fence.wide 1 Try.prog l #[ptokV x] W fun e W' => e = .returned (.bool true) ∧ J (pre ++ [x]) W' ∧ LexAt W' L s a 0 0 ∧ W'.cell? ⟨c, 0, none⟩ = some (.pointer (some ⟨L, 0, none⟩)))
    (hL : LexAt w L s 0 0 0) (hc : w.cell? ⟨c, 0, none⟩ = some (.pointer (some ⟨L, 0, none⟩))) (h0 : J [] w) :
    Calls Try.prog 60 #[.func (.yield l) #[] #[], .pointer (some ⟨c, 0, none⟩)] w fun e w' => e = .returned (.tuple #[]) ∧
      J (Lx.lexAll s.data.toList).1 w' ∧ LexEnd w' L s (Lx.lexAll s.data.toList).2 := by
  have HM : s.size ≤ maxLen := by unfold maxLen; omega
  have HY := hid hY
  have HJ := hid hJ
  have HLex := hid hL
  have HC := hid hc
  have H0 := hid h0
  have hll : s.data.toList.length = s.size := by simp
  have HLL := hid hll
  clear hY hJ hL hc h0 hll
  go_enter Try.func60, Try.ntmps60
  go_wp2
  go_loopw [4] (fun _ wr => ∃ (pre : List Lx.PTok) (a : Nat), Hid (J pre wr) ∧ Hid (LexAt wr L s a 0 0) ∧ Hid (wr.cell? ⟨c, 0, none⟩ = some (.pointer (some ⟨L, 0, none⟩))) ∧ a ≤ s.size ∧
      Hid (Lx.lexAll s.data.toList = (pre ++ (Lx.lexFrom s.data.toList a).1, (Lx.lexFrom s.data.toList a).2))) (fun _ wr => s.size - atOf L wr)
  case atStart => exact ⟨[], 0, H0, HLex, HC, Nat.zero_le _, rfl⟩
  case round =>
    obtain ⟨pre, a, HJr, HLr, HCr, ha, HA⟩ := hrel
    have hcc := HCr.out
    obtain ⟨g1, g2, g3, g4, f1, f2, f3, hLlt⟩ := lex_reads HLr.out
    obtain ⟨b, hbd⟩ : ∃ b, b = Lx.skip s.data.toList a := ⟨_, rfl⟩
    have hsk := Lx.skip_le s.data.toList a (by rw [HLL.out]; exact ha)
    rw [← hbd, HLL.out] at hsk
    obtain ⟨hab, hbs⟩ := hsk
    have HB := hid hbd
    have HAt := hid (atOf_eq HLr.out)
    clear hbd
    have hrun : ∀ n, Calls Try.prog 61 #[.pointer (some ⟨L, 0, none⟩), .int .i64 (a : Int), .int .u8 1] (wr.drewN n) fun e w' => e = .returned (.int .i64 (b : Int)) ∧ ∃ m, w' = (wr.drewN n).drewN m := fun n =>
      (run_any L s a 0 0 _ 1 _ (HLr.out.drewN _) (by omega) (by omega) HM).mono (by rintro e w' ⟨rfl, hn⟩; rw [Int.toNat_natCast, HB.out]; exact ⟨rfl, hn⟩)
    have HRUN := hid hrun
    clear hrun
    go_wp2_with fail
    refine wp_region_segs [([0,1,2,3,4,5,6,7,8],9)] [] (by kernel_rfl) (by kernel_rfl) ?_
    simp only [wpSegs, pick, List.getElem?_cons_zero, List.getElem?_cons_succ]
    repeat (quiet_step (exact Calls.quiet_of (HRUN.out _)))
    refine wpQuiet_nil ?_
    rintro _ ⟨nq, rfl⟩
    go_wp2_with fail
    refine wpQuiet_nil ?_
    rintro _ ⟨nq1, rfl⟩
    have hlx := (HLr.out.drewN nq).setAt b
    have hc1 : ((wr.drewN nq).setCell ⟨L, 257, none⟩ (.int .i64 (b : Int))).cell? ⟨c, 0, none⟩ = some (.pointer (some ⟨L, 0, none⟩)) := by rw [World.cell?_setCell_other _ _ _ _ (by simp)]; exact HCr.out
    have hj1 : J pre ((wr.drewN nq).setCell ⟨L, 257, none⟩ (.int .i64 (b : Int))) := HJ.out _ _ _ HJr.out (((Touch.refl (· = L) wr).drewN nq).setCell (p := ⟨L, 257, none⟩) (.inl rfl) _)
    have HLX := hid hlx
    have HJ1 := hid hj1
    clear hlx hj1
    by_cases hlt : b < s.size
    · have b1 : ((b : Int) == (s.size : Int)) = false := by rw [beq_eq_false_iff_ne]; omega
      go_wp2_with fail
      go_quiet (fail)
      go_wp2_with fail
      refine (next_any L s b 0 0 _ (HLX.out.drewN _) hm hlt).mono ?_
      rintro e' w' ⟨k, tx, f, t, bb, a', p', e2, rfl, hx, ht, hmn⟩
      have hj2 : J pre w' := HJ.out _ _ _ HJ1.out (Touch.ofN (n := _) ht)
      have hc2 : w'.cell? ⟨c, 0, none⟩ = some (.pointer (some ⟨L, 0, none⟩)) := ht.cell hc1 hcL
      have HJ2 := hid hj2
      have HX := hid hx
      clear hj2 hx ht
      cases hr : Lx.next (s.data.toList.drop b) with
      | err i er =>
        rw [hr] at hmn
        obtain ⟨rfl, rfl, rfl, rfl, rfl, ha', hp', he2⟩ := hmn
        have HA' := hid ha'
        have HP' := hid hp'
        have HE' := hid he2
        have HR := hid hr
        clear hr ha' hp' he2
        go_wp2_with fail
        refine bodyPost_ret (results_none rfl _ _ _) rfl ?_
        have hA := HA.out
        rw [Lx.lexFrom_err _ _ _ _ (by rw [← HB.out, HLL.out]; exact hlt) (by rw [← HB.out]; exact HR.out)] at hA
        rw [hA]
        refine ⟨rfl, ?_, ⟨a', p', e2, LexAt.alloc HX.out _, ?_⟩⟩
        · rw [List.append_nil]; exact HJ.out _ _ _ HJ2.out ((Touch.refl (· = L) w').alloc _)
        · rw [← HB.out]; exact ⟨HP'.out, HE'.out⟩
      | ok tk n =>
        rw [hr] at hmn
        obtain ⟨m2, hm2⟩ : ∃ m2, m2 = b + n := ⟨_, rfl⟩
        have HM2 := hid hm2
        unfold Means at hmn
        simp only [← hm2] at hmn
        clear hm2
        obtain ⟨rfl, rfl, rfl, rfl, rfl, rfl, rfl, rfl⟩ := hmn
        have HR := hid hr
        clear hr
        have HX1 := hid (HX.out.alloc (.cells #[.int .i64 tk.kind, .string ⟨tk.text.toArray⟩, .int .i64 b, .int .i64 m2] 74))
        have hfa := Lx.lexFrom_ok s.data.toList a n tk (by rw [← HB.out, HLL.out]; exact hlt) (by rw [← HB.out]; exact HR.out)
        rw [← HB.out, ← HM2.out] at hfa
        have HFA := hid hfa
        clear hfa
        have hm2s : m2 ≤ s.size := by
          have h1 := (Lx.next_pos _ _ _ HR.out).2
          rw [List.length_drop, HLL.out] at h1
          have := HM2.out
          omega
        have hbm : b < m2 := by have h1 := (Lx.next_pos _ _ _ HR.out).1; have := HM2.out; omega
        have hc3 : (w'.alloc (.cells #[.int .i64 tk.kind, .string ⟨tk.text.toArray⟩, .int .i64 b, .int .i64 m2] 74)).cell? ⟨c, 0, none⟩ = some (.pointer (some ⟨L, 0, none⟩)) := ((Touch.refl (fun _ => False) w').alloc _).cell hc2 (fun h => h)
        obtain ⟨fn, tmps, assign, body, hy, hR⟩ := HY.out pre ⟨tk.kind, tk.text, b, m2⟩ m2 (w'.alloc (.cells #[.int .i64 tk.kind, .string ⟨tk.text.toArray⟩, .int .i64 b, .int .i64 m2] 74))
          (HJ.out _ _ _ HJ2.out ((Touch.refl (· = L) w').alloc _)) HX1.out hc3 (by rw [HA.out, HFA.out]; exact ⟨(Lx.lexFrom s.data.toList m2).1, by simp⟩)
        simp only [ptokV] at hy
        have HRD := hid hR
        clear hR
        go_upto_region 3 with (fail)
        refine (wpIn_wide (n := 2)).1 ?_
        gi_wp2
        refine HRD.out.mono ?_
        rintro e W' ⟨rfl, hj, hl, hcx⟩
        have HJW := hid hj
        have HLW := hid hl
        have HCW := hid hcx
        clear hj hl hcx
        gi_wp2
        go_wp2_with fail
        go_roundw
        case rel => exact ⟨pre ++ [⟨tk.kind, tk.text, b, m2⟩], m2, HJW, HLW, HCW, hm2s, by have := HA.out; rw [HFA.out] at this; simpa [Hid] using this⟩
        case measure => rw [atOf_eq HLW.out, HAt.out]; omega
    · have b1 : ((b : Int) == (s.size : Int)) = true := by rw [beq_iff_eq]; omega
      go_wp2_with fail
      go_quiet (fail)
      go_wp2_with fail
      refine bodyPost_ret (results_none rfl _ _ _) rfl ?_
      have hA := HA.out
      rw [Lx.lexFrom_end _ _ (by rw [← HB.out, HLL.out]; omega)] at hA
      rw [hA]
      refine ⟨rfl, ?_, ⟨b, 0, 0, ?_, rfl⟩⟩
      · rw [List.append_nil]; refine HJ.out _ _ _ HJ1.out ?_; exact ((Touch.refl (· = L) _).drewN _).drewN _
      · exact (HLX.out.drewN _).drewN _
end Go.Proofs.Ytilgpmpiidccjaa

/- The walk of the lexer's classes. -/
namespace Go.Proofs.Ytilgpmpiidccjaa
open Go.RowKit

/-- A table behind the marking of the bytes of a text with a class. -/
def marked (l : List UInt8) (c : Int) (cs : Array Value) : Array Value := l.foldl (fun t b => t.setIfInBounds b.toNat (.int .u8 c)) cs
theorem marked_size (l : List UInt8) (c : Int) : ∀ cs : Array Value, (marked l c cs).size = cs.size := by
  induction l with
  | nil => intro cs; rfl
  | cons b l ih => intro cs; unfold marked at ih ⊢; rw [List.foldl_cons, ih]; simp
theorem marked_snoc (l : List UInt8) (b : UInt8) (c : Int) (cs : Array Value) : marked (l ++ [b]) c cs = (marked l c cs).setIfInBounds b.toNat (.int .u8 c) := by simp [marked]

set_option maxHeartbeats 400000 in
theorem mark_any (s : ByteArray) (c : Int) (g : Nat) (cs : Array Value) (w : World) (hb : Blk w g 82 cs) (hs : cs.size = 256) (hm : s.size ≤ 1000) :
    Calls Try.prog 59 #[.string s, .int .u8 c, .pointer (some ⟨g, 0, none⟩)] w fun e w' => e = .returned (.tuple #[]) ∧ Blk w' g 82 (marked s.data.toList c cs) ∧ Touch (· = g) w w' := by
  have HB := hid hb
  have HS := hid hs
  clear hb hs
  go_enter Try.func59, Try.ntmps59
  go_wp2
  go_loopw [5] (fun i wr => ∃ k : Nat, i = .int .i64 k ∧ k ≤ s.size ∧ Hid (Blk wr g 82 (marked (s.data.toList.take k) c cs)) ∧ Hid (Touch (· = g) w wr)) (fun i _ => s.size - (intOf i).toNat)
  case atStart => exact ⟨0, rfl, Nat.zero_le _, (by have := HB.out; simpa [marked, Hid] using this), Touch.refl _ _⟩
  case round =>
    obtain ⟨k, rfl, hk, HK, HT⟩ := hrel
    by_cases hlt : k < s.size
    · have b1 : decide ((k : Int) < (s.size : Int)) = true := by simp; omega
      have b2 : (k : Int) < (s.size : Int) := by omega
      have b3 : (0 : Int) ≤ (k : Int) := by omega
      have b4 : ((s[k]'hlt).toNat : Int) < 256 := by have := (s[k]'hlt).toNat_lt; omega
      have hsz : (marked (s.data.toList.take k) c cs).size = 256 := (marked_size _ _ _).trans HS.out
      obtain ⟨u, hu⟩ : ∃ u, wr.cell? ⟨g, (s[k]'hlt).toNat, none⟩ = some u := by
        rw [HK.out.cell]
        exact ⟨_, Array.getElem?_eq_getElem (by rw [hsz]; exact (s[k]'hlt).toNat_lt)⟩
      have hf : wr.frozen? ⟨g, (s[k]'hlt).toNat, none⟩ = false := HK.out.frozen _
      have hn : Blk (wr.setCell ⟨g, (s[k]'hlt).toNat, none⟩ (.int .u8 c)) g 82 (marked (s.data.toList.take (k + 1)) c cs) := by
        have hg : s.data.toList.take (k + 1) = s.data.toList.take k ++ [s[k]'hlt] := by
          rw [List.take_succ_eq_append_getElem (by simpa using hlt)]; rfl
        rw [hg, marked_snoc]
        exact HK.out.put _ _
      have HN := hid hn
      clear hn hsz
      go_wp2
      go_roundw
      case rel => exact ⟨k + 1, by go_num, hlt, HN, HT.out.setCell (p := ⟨g, (s[k]'hlt).toNat, none⟩) (.inl rfl) _⟩
      case measure => simp [intOf]; omega
    · have b1 : decide ((k : Int) < (s.size : Int)) = false := by simp; omega
      go_wp2
      go_end0
      refine ⟨rfl, ?_, HT.out⟩
      have := HK.out
      rwa [List.take_of_length_le (by simp; omega)] at this

/-- The table that classes starts with, and the one that it hands back. -/
def zero256 : Array Value := Array.replicate 256 (.int .u8 0)
def tbl1 : Array Value := marked [32, 9, 10] 1 zero256
def tbl2 : Array Value := marked [48, 49, 50, 51, 52, 53, 54, 55, 56, 57] 2 tbl1
def letterBytes : List UInt8 := [97, 98, 99, 100, 101, 102, 103, 104, 105, 106, 107, 108, 109, 110, 111, 112, 113, 114, 115, 116, 117, 118, 119, 120, 121, 122, 65, 66, 67, 68, 69, 70, 71, 72, 73, 74, 75, 76, 77, 78, 79, 80, 81, 82, 83, 84, 85, 86, 87, 88, 89, 90]
def tbl3 : Array Value := marked letterBytes 3 tbl2
def tbl4 : Array Value := marked [43, 45, 42, 47, 61, 60, 62, 44, 59, 58, 33, 124, 39, 63, 126, 64] 4 tbl3
def tbl5 : Array Value := marked [123, 125, 40, 41, 91, 93, 94, 95, 38] 5 tbl4
def clsTable : Array Value := Array.ofFn (n := 256) fun i => Value.int .u8 (Lx.cls i.1 : Nat)
theorem tbl5_eq : tbl5 = clsTable := by kernel_rfl
theorem tbl1_size : tbl1.size = 256 := by simp [tbl1, marked_size, zero256]
theorem tbl2_size : tbl2.size = 256 := (marked_size _ _ _).trans tbl1_size
theorem tbl3_size : tbl3.size = 256 := (marked_size _ _ _).trans tbl2_size
theorem tbl4_size : tbl4.size = 256 := (marked_size _ _ _).trans tbl3_size
theorem tbl5_size : tbl5.size = 256 := (marked_size _ _ _).trans tbl4_size
theorem infoClass : (Try.prog.info? 82).map (·.size) = some 256 := by kernel_rfl
theorem tbl5_one : tbl5.all (·.oneCell') = true := by rw [tbl5_eq]; kernel_rfl
theorem zeroClass (w : World) : (zeroValue 82).run Try.prog w = .ok (.agg zero256) w := by kernel_rfl

set_option maxHeartbeats 400000 in
theorem classes_any (w : World) :
    Calls Try.prog 43 #[] w fun e w' => e = .returned (.agg clsTable) ∧ Fresh w w' := by
  have hz := zeroClass
  go_enter Try.func43, Try.ntmps43
  go_wp2_with fail
  refine (mark_any _ 1 _ zero256 _ (Blk.new2 _ _ _ _) (by simp [zero256]) (by decide)).mono ?_
  rintro e1 w1 ⟨rfl, hb1, ht1⟩
  have hb1' : Blk w1 (w.heap.size + 1) 82 tbl1 := hb1
  have hr1 : Blk w1 w.heap.size 82 zero256 := ht1.blk ((Blk.new w _ _).alloc _) (by omega)
  have hf1 : Fresh w w1 := (((Touch.refl (fun _ => False) w).alloc _).alloc _).trans' ht1 (fun i hi => .inr (by omega))
  have HB1 := hid hb1'
  have HR1 := hid hr1
  have HF1 := hid hf1
  clear hb1 hb1' hr1 hf1 ht1
  go_wp2_with fail
  refine (mark_any _ 2 _ tbl1 _ HB1.out tbl1_size (by decide)).mono ?_
  rintro e2 w2 ⟨rfl, hb1, ht1⟩
  have hb1' : Blk w2 (w.heap.size + 1) 82 tbl2 := hb1
  have hr1 : Blk w2 w.heap.size 82 zero256 := ht1.blk HR1.out (by omega)
  have hf1 : Fresh w w2 := HF1.out.trans' ht1 (fun i hi => .inr (by omega))
  have HB2 := hid hb1'
  have HR2 := hid hr1
  have HF2 := hid hf1
  clear hb1 hb1' hr1 hf1 ht1
  go_wp2_with fail
  refine (mark_any _ 3 _ tbl2 _ HB2.out tbl2_size (by decide)).mono ?_
  rintro e3 w3 ⟨rfl, hb1, ht1⟩
  have hb1' : Blk w3 (w.heap.size + 1) 82 tbl3 := hb1
  have hr1 : Blk w3 w.heap.size 82 zero256 := ht1.blk HR2.out (by omega)
  have hf1 : Fresh w w3 := HF2.out.trans' ht1 (fun i hi => .inr (by omega))
  have HB3 := hid hb1'
  have HR3 := hid hr1
  have HF3 := hid hf1
  clear hb1 hb1' hr1 hf1 ht1
  go_wp2_with fail
  refine (mark_any _ 4 _ tbl3 _ HB3.out tbl3_size (by decide)).mono ?_
  rintro e4 w4 ⟨rfl, hb1, ht1⟩
  have hb1' : Blk w4 (w.heap.size + 1) 82 tbl4 := hb1
  have hr1 : Blk w4 w.heap.size 82 zero256 := ht1.blk HR3.out (by omega)
  have hf1 : Fresh w w4 := HF3.out.trans' ht1 (fun i hi => .inr (by omega))
  have HB4 := hid hb1'
  have HR4 := hid hr1
  have HF4 := hid hf1
  clear hb1 hb1' hr1 hf1 ht1
  go_wp2_with fail
  refine (mark_any _ 5 _ tbl4 _ HB4.out tbl4_size (by decide)).mono ?_
  rintro e5 w5 ⟨rfl, hb1, ht1⟩
  have hb1' : Blk w5 (w.heap.size + 1) 82 tbl5 := hb1
  have hr1 : Blk w5 w.heap.size 82 zero256 := ht1.blk HR4.out (by omega)
  have hf1 : Fresh w w5 := HF4.out.trans' ht1 (fun i hi => .inr (by omega))
  have HB5 := hid hb1'
  have HR5 := hid hr1
  have HF5 := hid hf1
  clear hb1 hb1' hr1 hf1 ht1
  go_wp2_with (first
      | (refine wpList_load_row rfl 82 _ rfl (w.heap.size + 1) rfl 82 tbl5 (0, 0) _ HB5.out Try.underlying82 rfl (infoClass.trans (by rw [tbl5_size])) ?_)
      | (refine wpList_store_row rfl 82 _ _ rfl w.heap.size tbl5 rfl rfl 82 zero256 HR5.out (infoClass.trans (by rw [tbl5_size])) (by rw [tbl5_size]; simp [zero256]) tbl5_one ?_))
  refine bodyPost_ret (results_cell_row (fn := Try.f43) (p := 0) rfl _ _ w.heap.size 82 tbl5 (0, 0) _ rfl (setRow_heap _ _ _ _ _ _ HR5.out) Try.underlying82 rfl (infoClass.trans (by rw [tbl5_size]))) rfl ?_
  exact ⟨by rw [tbl5_eq], HF5.out.setRow (.inr (Nat.le_refl _)) _⟩
end Go.Proofs.Ytilgpmpiidccjaa

/- The walk of lexer.Tokens. -/
namespace Go.Proofs.Ytilgpmpiidccjaa
open Go.RowKit
attribute [local go_sem] Oper.semAt_some

def ptokCells (x : Lx.PTok) : List Value := [.int .i64 x.kind, .string ⟨x.text.toArray⟩, .int .i64 x.from_, .int .i64 x.to_]

theorem infoTok : (Try.prog.info? 74).map (fun i => (i.zero, i.size, i.bytes)) = some (some (.agg #[.int .i64 0, .string ⟨#[]⟩, .int .i64 0, .int .i64 0]), 4, 40) := by kernel_rfl

theorem built_lex (s : ByteArray) : Try.prog.built 85 [(0, .agg clsTable), (1, .string s)] = some (lexCells s 0 0 0) := by kernel_rfl
theorem wpList_build_lex {ops : Array Oper} {rest : List Oper} {o : Oper} {a : Act} {w : World} {Q : Exit → Act → World → Prop} (s : ByteArray) (hg : o.guard = none) (x y : Operand) (ho : o.op = .build 85 #[(0, x), (1, y)])
    (hx : a.eval x = .agg clsTable) (hy : a.eval y = .string s) (h : wpList Try.prog ops Q rest (a.put o.dst (.agg (lexCells s 0 0 0))) w) : wpList Try.prog ops Q (o :: rest) a w := by
  refine wpList_plain hg fun K hK => ?_
  unfold Oper.wp execOp
  simp only [ho, Sem.run_bind, List.map_toArray, List.map_cons, List.map_nil, hx, hy, run_build w 85 #[(0, .agg clsTable), (1, .string s)] _ (built_lex s), Result.andThen_ok]
  exact hK _ _ h

set_option maxHeartbeats 400000 in
theorem tokens_any (L : Nat) (w : World) :
    Calls Try.prog 44 #[.pointer (some ⟨L, 0, none⟩)] w fun e w' => e = .returned (.func (.func 60) #[] #[.pointer (some ⟨w.heap.size, 0, none⟩)]) ∧ w' = w.alloc (.cells #[.pointer (some ⟨L, 0, none⟩)] 81) := by
  go_enter Try.func44, Try.ntmps44
  go_wp2
  go_ret
  exact ⟨rfl, rfl⟩

end Go.Proofs.Ytilgpmpiidccjaa

/- A range over the lexer's tokens, by one law. -/
namespace Go.Proofs.Ytilgpmpiidccjaa
open Go.RowKit

/-- What a round may turn: nothing of the lexer's, of the loop's record, of the block for deferred calls. -/
def NotOurs (L c D : Nat) (k : Nat) : Prop := k ≠ L ∧ k ≠ c ∧ k ≠ D ∧ k ≠ D + 1

def RoundPost (L c D : Nat) (I : World → Prop) (W2 : World) : Exit → Act → World → Prop
  | .normal, _, W3 => Touch (NotOurs L c D) W2 W3 ∧ I W3
  | _, _, _ => False

theorem putObj_touch (W : World) (l : Nat) (o : Obj) : Touch (· = l) W (W.putObj l o) :=
  ⟨rfl, rfl, rfl, by simp, fun _ _ hn => World.putObj_heap_other hn⟩

set_option maxHeartbeats 1000000 in
/-- A range over the lexer's tokens. -/
theorem wp_range_toks {assign body : Code} {Q : Exit → Act → World → Prop} {a : Act} {W0 : World} {L c : Nat} {s : ByteArray}
    (hg : a.eval (.tmp 12) = .func (.func 60) #[] #[.pointer (some ⟨c, 0, none⟩)]) (hm : s.size ≤ 1000000000) (hcL : c ≠ L) (hc : W0.cell? ⟨c, 0, none⟩ = some (.pointer (some ⟨L, 0, none⟩))) (hL : LexAt W0 L s 0 0 0)
    (I : List Lx.PTok → World → Prop) (hI : ∀ pre W W', I pre W → Touch (fun k => k = L ∨ k = W0.heap.size ∨ k = W0.heap.size + 1) W W' → I pre W') (h0 : I [] W0)
    (hround : ∀ pre x W, I pre W → W0.heap.size + 2 ≤ W.heap.size → pre ++ [x] <+: (Lx.lexAll s.data.toList).1 →
      assign.wpIn (Fence.wide.inRound (W0.heap.size + 1)) 1 Try.prog (Exit.then (fun a₁ W1 => Touch (NotOurs L c W0.heap.size) W W1 ∧ ∀ W2, Touch (· = W0.heap.size + 1) W1 W2 → W2.heap.size = W1.heap.size →
          body.wpIn (Fence.wide.inRound (W0.heap.size + 1)) 1 Try.prog (RoundPost L c W0.heap.size (I (pre ++ [x])) W2) a₁ W2) (fun _ _ _ => False))
        { tmps := a.tmps.setIfInBounds 13 (ptokV x), defers := [] } W)
    (hdone : ∀ W, I (Lx.lexAll s.data.toList).1 W → LexEnd W L s (Lx.lexAll s.data.toList).2 → W.heap[W0.heap.size]? = some (.deferred (some [])) → W0.heap.size + 2 ≤ W.heap.size →
      Q .normal { a with defers := { target := .collected W0.heap.size, args := #[] } :: a.defers } W) :
    (Code.rangeFunc (.tmp 12) #[13] assign body).wp Try.prog Q a W0 := by
  have hcl : c < W0.heap.size := block_lt_of_cell hc
  have hLl := hL.lt
  refine (wpIn_wide (n := 4)).1 (wpIn_rangeFunc ?_)
  intro fn hfn
  obtain ⟨rec, hrec⟩ : ∃ rec : LoopState → Option Code → Loop, rec = fun st pe => { state := st, pending := pe, fn, tmps := a.tmps, params := #[13], assign, body, defers := W0.heap.size } := ⟨_, rfl⟩
  obtain ⟨W1, hW1⟩ : ∃ W1, (W0.alloc (.deferred (some []))).alloc (.loop (rec .ready none)) = W1 := ⟨_, rfl⟩
  have hL1 : W1.heap[W0.heap.size + 1]? = some (.loop (rec .ready none)) := by
    rw [← hW1]; have := World.alloc_heap_new (W0.alloc (.deferred (some []))) (.loop (rec .ready none)); rwa [World.size_alloc] at this
  have hK1 : W1.heap[W0.heap.size]? = some (.deferred (some [])) := by
    rw [← hW1]; exact (Below.heap_alloc _ _ _ (by simp)).trans (World.alloc_heap_new W0 _)
  have hf1 : Fresh W0 W1 := by rw [← hW1]; exact ((Touch.refl _ W0).alloc _).alloc _
  have hs1 : W1.heap.size = W0.heap.size + 2 := by rw [← hW1]; simp
  refine ⟨W0.heap.size + 1, [{ target := .collected W0.heap.size, args := #[] }], W1, { target := .fn (.func 60) #[.pointer (some ⟨c, 0, none⟩)], args := #[.func (.yield (W0.heap.size + 1)) #[] #[]] }, W1, 60,
    #[.func (.yield (W0.heap.size + 1)) #[] #[]] ++ #[.pointer (some ⟨c, 0, none⟩)], W1, ?_, ?_, ?_, ?_, fun h => by simp [Fence.wide] at h, ?_⟩
  · rw [← hW1, hrec]; exact run_enterLoop_outer _ _ _ _ _
  · simp only [resolve, hg]
    simp [go_sem]
  · intro f' _; trivial
  · simp [invoke, go_sem]
  · refine callsIn_wide.2 ((iter_any L c (W0.heap.size + 1) s
      (fun pre W => I pre W ∧ W.heap[W0.heap.size + 1]? = some (.loop (rec .ready none)) ∧ W.heap[W0.heap.size]? = some (.deferred (some [])) ∧ W0.heap.size + 2 ≤ W.heap.size) W1 hm ?_ hcL ?_ (hf1.blk hL (fun h => h)) (hf1.cell hc (fun h => h)) ⟨hI _ _ _ h0 (hf1.mono (fun _ h => h.elim)), hL1, hK1, by omega⟩).mono ?_)
    · rintro pre W W' ⟨h1, h2, h3, h4⟩ ht
      exact ⟨hI _ _ _ h1 (ht.mono (fun _ h => .inl h)), (ht.block _ (by omega) (by omega)).trans h2, (ht.block _ (by omega) (by omega)).trans h3, Nat.le_trans h4 ht.size⟩
    · rintro pre x at_ W ⟨hi, hl, hd, hsz⟩ hlx hcx hpre
      have hy := run_yield (P := Try.prog) (args := #[ptokV x]) hl (by rw [hrec]; rfl)
      have hz : ∀ t : Array Value, (((#[13] : Array Tmp).zip #[ptokV x]).foldl (fun tmps (t, a) => tmps.setIfInBounds t a) t) = t.setIfInBounds 13 (ptokV x) := fun t => by simp
      rw [hrec] at hy
      dsimp only at hy
      rw [hz] at hy
      refine ⟨fn, _, assign, body, hy, roundIn_of_wpIn hfn (wpIn_mono (hround pre x W hi hsz hpre) ?_)⟩
      intro e a1 w1 hp
      cases e with
      | normal =>
        obtain ⟨ht1, hb⟩ := hp
        have hl1 : w1.heap[W0.heap.size + 1]? = some (.loop (rec .ready none)) := (ht1.block _ (by omega) (fun hn => hn.2.2.2 rfl)).trans hl
        have hd1 : w1.heap[W0.heap.size]? = some (.deferred (some [])) := (ht1.block _ (by omega) (fun hn => hn.2.2.1 rfl)).trans hd
        have hs2 := ht1.size
        refine ⟨_, run_beginRound hl1 (by rw [hrec]), ?_⟩
        have ht2 := putObj_touch w1 (W0.heap.size + 1) (.loop { rec .ready none with state := .busy })
        refine wpIn_mono (hb _ ht2 (by simp)) ?_
        intro e3 a3 W3 hp3
        cases e3 with
        | normal =>
          obtain ⟨ht3, hi3⟩ := hp3
          have hl2 : (w1.putObj (W0.heap.size + 1) (.loop { rec .ready none with state := .busy })).heap[W0.heap.size + 1]? = some (.loop { rec .ready none with state := .busy }) := World.putObj_heap_same (by omega)
          have hl3 : W3.heap[W0.heap.size + 1]? = some (.loop { rec .ready none with state := .busy }) := (ht3.block _ (by simp; omega) (fun hn => hn.2.2.2 rfl)).trans hl2
          have hd3 : W3.heap[W0.heap.size]? = some (.deferred (some [])) := (ht3.block _ (by simp; omega) (fun hn => hn.2.2.1 rfl)).trans ((World.putObj_heap_other (by omega)).trans hd1)
          have hs3 := ht3.size
          simp at hs3
          have hr := run_endRound (P := Try.prog) none hl3
          have ht4 := putObj_touch W3 (W0.heap.size + 1) (.loop (rec .ready none))
          have hrr : ({ rec .ready none with state := .busy } : Loop) = { rec .ready none with state := .busy } := rfl
          have hre : (({ ({ rec .ready none with state := .busy } : Loop) with state := if (none : Option Code).isNone then .ready else .done, pending := none } : Loop)) = rec .ready none := by rw [hrec]; rfl
          rw [hre] at hr
          refine ⟨_, _, hr, rfl, ⟨hI _ _ _ hi3 (ht4.mono (fun _ h => .inr (.inr h))), World.putObj_heap_same (by omega), (World.putObj_heap_other (by omega)).trans hd3, by simp; omega⟩, ?_, ?_⟩
          · exact ht4.blk (ht3.blk (ht2.blk (ht1.blk hlx (fun hn => hn.1 rfl)) (by omega)) (fun hn => hn.1 rfl)) (by omega)
          · exact ht4.cell (ht3.cell (ht2.cell (ht1.cell hcx (fun hn => hn.2.1 rfl)) (by simp; omega)) (fun hn => hn.2.1 rfl)) (by simp; omega)
        | ret => exact hp3.elim
        | exit id => exact hp3.elim
        | goto t => exact hp3.elim
        | panic ch => exact hp3.elim
        | outgrown => exact hp3.elim
      | ret => exact hp.elim
      | exit id => exact hp.elim
      | goto t => exact hp.elim
      | panic ch => exact hp.elim
      | outgrown => exact hp.elim
    · rintro e W2 ⟨rfl, ⟨hi, hl, hd, hsz⟩, hend⟩
      have hpend : (rec .ready none).pending = none := by rw [hrec]
      obtain ⟨ob, hend'⟩ : ∃ ob, (Instr.endLoop (W0.heap.size + 1)).run Try.prog W2 = .ok none (W2.putObj (W0.heap.size + 1) ob) := ⟨_, by
        have := run_endLoop (P := Try.prog) hl (by rw [hrec]; simp)
        rw [hpend] at this
        exact this⟩
      have ht := putObj_touch W2 (W0.heap.size + 1) ob
      refine ⟨none, _, hend', ?_⟩
      obtain ⟨a', p', e', h1, h2⟩ := hend
      exact hdone _ (hI _ _ _ hi (ht.mono (fun _ h => .inr (.inr h)))) ⟨a', p', e', ht.blk h1 (by omega), h2⟩ ((World.putObj_heap_other (by omega)).trans hd) (by simp; omega)

end Go.Proofs.Ytilgpmpiidccjaa
