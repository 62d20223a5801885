/- The walk of checker.node. -/
import Derived.Test.YtilgpmpiidccjaaNdG
namespace Go.Proofs.Ytilgpmpiidccjaa
open Go.RowKit

mutual
/-- What checker.node reports at a depth. -/
def chkN : Nat → Tr.Nd → Bool
  | d, .mk k t c ks => decide (d ≤ 24) && (ownF (.mk k t c ks) && chkL (k == 1) (d + 1) ks)
def chkL : Bool → Nat → List Tr.Nd → Bool
  | _, _, [] => true
  | r, d, n :: ns => (!((n.kind == 1) == r)) && (chkN d n && chkL r d ns)
end
theorem chkN_eq (d : Nat) (n : Tr.Nd) : chkN d n = (decide (d ≤ 24) && (ownF n && chkL (n.kind == 1) (d + 1) n.kids)) := by cases n; rw [chkN]; rfl
theorem chkL_take (r : Bool) (d : Nat) : ∀ (l : List Tr.Nd) (i : Nat) (h : i < l.length), chkL r d (l.take (i + 1)) = (chkL r d (l.take i) && ((!((l[i].kind == 1) == r)) && chkN d l[i]))
  | [], i, h => by simp at h
  | x :: l, 0, h => by simp [chkL]
  | x :: l, i + 1, h => by
    simp only [List.take_succ_cons, chkL, List.getElem_cons_succ]
    rw [chkL_take r d l i (by simpa using h)]
    simp only [Bool.and_assoc]
theorem chkL_no (r : Bool) (d : Nat) : ∀ (l : List Tr.Nd) (i : Nat) (h : i < l.length), ((!((l[i].kind == 1) == r)) && chkN d l[i]) = false → chkL r d l = false
  | [], i, h, _ => by simp at h
  | x :: l, 0, h, hn => by
    simp only [List.getElem_cons_zero] at hn
    rw [chkL, ← Bool.and_assoc, hn, Bool.false_and]
  | x :: l, i + 1, h, hn => by
    simp only [List.getElem_cons_succ] at hn
    rw [chkL, chkL_no r d l i (by simpa using h) hn, Bool.and_false, Bool.and_false]

/-- How checker.node ends. -/
def NodeEnd (c : Nat) (d m : Nat) (n : Tr.Nd) (w : World) (e : Ending) (w' : World) : Prop :=
  ∃ m' : Nat, e = .returned (.bool (chkN d n)) ∧ Blk w' c 101 (checkCells m') ∧ Touch (· = c) w w' ∧ m' ≤ m + Tr.count n ∧ (chkN d n = true → m' = m + Tr.count n)

theorem check_put (m : Nat) : (checkCells (m : Int)).setIfInBounds 39 (.int .i64 ((m : Int) + 1)) = checkCells ((m + 1 : Nat) : Int) := by rfl
theorem check_39 (m : Int) : (checkCells m)[39]? = some (.int .i64 m) := by rfl

set_option maxRecDepth 100000 in
set_option maxHeartbeats 4000000 in
theorem node_any (W0 : World) (c : Nat) (hcW : W0.heap.size ≤ c) (k : Nat) : ∀ (n : Tr.Nd) (A : Option Addr) (g o cap d m : Nat) (dd : Int) (w : World), dd = d → Tr.count n ≤ k →
    W0.cell? ⟨g, o, none⟩ = some (.int .i64 n.kind) → W0.cell? ⟨g, o + 1, none⟩ = some (.string ⟨n.text.toArray⟩) → W0.cell? ⟨g, o + 2, none⟩ = some (.int .i64 n.cols) → W0.cell? ⟨g, o + 3, none⟩ = some (.slice A n.kids.length cap) →
    RepL W0 n.kids (.slice A n.kids.length cap) → n.text.length ≤ maxLen → Blk w c 101 (checkCells m) → Touch (· = c) W0 w → m + Tr.count n ≤ 1000 → d ≤ 1000 →
    Calls Try.prog 49 #[.pointer (some ⟨c, 0, none⟩), .pointer (some ⟨g, o, none⟩), .int .i64 dd] w (NodeEnd c d m n w) := by
  induction k with
  | zero => intro n _ _ _ _ _ _ _ _ _ h; have := Tr.count_pos n; omega
  | succ k ih =>
    intro n A g o cap d m dd w hdd hcn a0 a1 a2 a3 hrep htx hb htw hm hd
    subst hdd
    have hgc : g < W0.heap.size := block_lt_of_cell a0
    have hne : g ≠ c := by omega
    have hlen := hrep.len
    unfold maxLen at htx hlen
    have hck := Tr.count_kids n
    have hnl := Tr.countL_len n.kids
    have HIH := hid ih
    have HREP := hid hrep
    have HCE := hid (chkN_eq d n)
    have HTW := hid htw
    have HB := hid hb
    have ht1 : Touch (· = c) w (w.setCell ⟨c, 39, none⟩ (.int .i64 ((m : Int) + 1))) := Touch.setCell (S := (· = c)) (Touch.refl _ w) (p := ⟨c, 39, none⟩) (.inl rfl) _
    have hb1 : Blk (w.setCell ⟨c, 39, none⟩ (.int .i64 ((m : Int) + 1))) c 101 (checkCells ((m + 1 : Nat) : Int)) := by
      rw [← check_put]; exact hb.put 39 _
    have q39 : w.cell? ⟨c, 39, none⟩ = some (.int .i64 (m : Int)) := (hb.cell 39).trans (check_39 m)
    have z39 : w.frozen? ⟨c, 39, none⟩ = false := hb.frozen 39
    have r39 : (w.setCell ⟨c, 39, none⟩ (.int .i64 ((m : Int) + 1))).cell? ⟨c, 39, none⟩ = some (.int .i64 ((m : Int) + 1)) := (hb1.cell 39).trans (check_39 _)
    have lim : decide ((1000 : Int) < (m : Int) + 1) = false := by simp only [decide_eq_false_iff_not]; omega
    have HT1 := hid ht1
    have HB1 := hid hb1
    clear ih hrep htw hb ht1 hb1
    by_cases hd24 : 24 < d
    · have dl : decide ((24 : Int) < (d : Int)) = true := by simp only [decide_eq_true_eq]; omega
      have dln : decide (24 < d) = true := by simp only [decide_eq_true_eq]; omega
      have hch : chkN d n = false := by
        rw [HCE.out]
        have : decide (d ≤ 24) = false := by simp only [decide_eq_false_iff_not]; omega
        rw [this]; rfl
      have HCH := hid hch
      clear hch HCE
      go_enter Try.func49, Try.ntmps49
      go_wp2_with fail
      go_ret
      exact ⟨m + 1, by rw [HCH.out]; rfl, HB1.out, HT1.out, by omega, fun h => by rw [HCH.out] at h; cases h⟩
    · have dl : decide ((24 : Int) < (d : Int)) = false := by simp only [decide_eq_false_iff_not]; omega
      have dln : decide (24 < d) = false := by simp only [decide_eq_false_iff_not]; omega
      have b0 := (HTW.out.trans HT1.out).cell a0 hne
      have b1 := (HTW.out.trans HT1.out).cell a1 hne
      have b2 := (HTW.out.trans HT1.out).cell a2 hne
      have b3 := (HTW.out.trans HT1.out).cell a3 hne
      have HOWN := hid (own_any n A cap c g o _ _ HB1.out htx b0 b1 b2 b3)
      have hd24' : decide (d ≤ 24) = true := by simp only [decide_eq_true_eq]; omega
      have HC2 := hid (show chkN d n = (ownF n && chkL (n.kind == 1) (d + 1) n.kids) by rw [HCE.out, hd24']; rfl)
      clear HCE hd24' b0 b1 b2 b3
      go_enter Try.func49, Try.ntmps49
      go_wp2_with fail
      refine HOWN.out.mono ?_
      rintro _ w2 ⟨rfl, hf2⟩
      have hb2 := hf2.blk HB1.out (fun h => h)
      have ht2 : Touch (· = c) w w2 := HT1.out.trans (hf2.mono (fun _ h => h.elim))
      have HB2 := hid hb2
      have HT2 := hid ht2
      have b0 := (HTW.out.trans ht2).cell a0 hne
      have b3 := (HTW.out.trans ht2).cell a3 hne
      clear hf2 hb2 ht2 r39 q39 z39
      cases how : ownF n with
      | false =>
        have HCH := hid (show chkN d n = false by rw [HC2.out, how]; rfl)
        go_wp2_with fail
        go_ret
        exact ⟨m + 1, by rw [HCH.out]; rfl, HB2.out, HT2.out, by omega, fun h => by rw [HCH.out] at h; cases h⟩
      | true =>
        have HC3 := hid (show chkN d n = chkL (n.kind == 1) (d + 1) n.kids by rw [HC2.out, how]; rfl)
        clear HC2 how
        go_wp2_with fail
        go_loopw [35] (fun i wr => ∃ (j m' : Nat), i = .int .i64 j ∧ j ≤ n.kids.length ∧ Hid (Blk wr c 101 (checkCells m')) ∧ Hid (Touch (· = c) w wr) ∧ Hid (m' = m + 1 + Tr.countL (n.kids.take j)) ∧ Hid (chkL (n.kind == 1) (d + 1) (n.kids.take j) = true)) (fun i _ => n.kids.length - (intOf i).toNat)
        case atStart => exact ⟨0, m + 1, rfl, Nat.zero_le _, HB2.out, HT2.out, by simp [Tr.countL, Hid], by simp [chkL, Hid]⟩
        case round =>
          obtain ⟨j, m', rfl, hj, HB3, HT3, HM, HL⟩ := hrel
          by_cases c1 : j < n.kids.length
          · have d1 : decide ((j : Int) < (n.kids.length : Int)) = true := by simp only [decide_eq_true_eq]; omega
            have d1n : decide (j < n.kids.length) = true := by simp only [decide_eq_true_eq]; omega
            have d1' : (j : Int) < (n.kids.length : Int) := by omega
            obtain ⟨g', o', sl, rfl, hg', n0, n1, n2, n3, hrk⟩ := HREP.out.get j c1
            have htx' := HREP.out.texts j c1
            obtain ⟨A', cap', rfl⟩ := hrk.slice
            have hne' : g' ≠ c := by omega
            have e0 := (HTW.out.trans HT3.out).cell a0 hne
            have e3 := (HTW.out.trans HT3.out).cell a3 hne
            have x0 := (HTW.out.trans HT3.out).cell n0 hne'
            have hcm := Tr.count_mem (List.getElem_mem (l := n.kids) (n := j) c1)
            have hct := Tr.countL_take n.kids j c1
            have hcl := Tr.countL_le n.kids (j + 1)
            have hcj := Tr.countL_le n.kids j
            have HS := hid (chkL_take (n.kind == 1) (d + 1) n.kids j c1)
            have HN := hid (chkL_no (n.kind == 1) (d + 1) n.kids j c1)
            have HM0 := HM.out
            have HX := hid (fun (w' : World) (hb' : Blk w' c 101 (checkCells m')) (ht' : Touch (· = c) W0 w') => HIH.out n.kids[j] A' g' (o' + j * 4) cap' (d + 1) m' ((d : Int) + 1) w' (by omega) (by omega) n0 n1 n2 n3 hrk htx' hb' ht' (by omega) (by omega))
            have HCT := hid hct
            clear n0 n1 n2 n3 hrk HIH HREP hct
            generalize n.kids[j] = x at *
            cases p1 : (n.kind == 1) with
            | false =>
              rw [p1] at HS HN
              cases p2 : (x.kind == 1) with
              | false =>
                have HCH := hid (show chkN d n = false by rw [HC3.out, p1]; exact HN.out (by rw [p2]; rfl))
                go_wp2_with fail
                go_quiet (fail)
                go_wp2_with fail
                go_ret
                exact ⟨m', by rw [HCH.out]; rfl, HB3.out, HT3.out.drewN _, by omega, fun h => by rw [HCH.out] at h; cases h⟩
              | true =>
                go_wp2_with fail
                refine wp_region_segs [([0,1,2,3,4,5,6,7,8,9,10,11,12,13,14,15,16,17,18,19,20,21,22,23,24],25)] [26,27] (by kernel_rfl) (by kernel_rfl) ?_
                simp only [wpSegs, pick, List.getElem?_cons_zero, List.getElem?_cons_succ]
                repeat (quiet_step (fail))
                refine wpQuiet_nil ?_
                rintro _ ⟨nq, rfl⟩
                go_wp2_with fail
                refine (HX.out _ (HB3.out.drewN nq) ((HTW.out.trans HT3.out).drewN nq)).mono ?_
                rintro _ w5 ⟨m5, rfl, hb5, ht5, hm5, hm5'⟩
                have HB5 := hid hb5
                have HT5 := hid (HT3.out.trans (Touch.ofN ht5))
                clear hb5 ht5 e0 e3 x0
                cases hx : chkN (d + 1) x with
                | false =>
                  have HCH := hid (show chkN d n = false by rw [HC3.out, p1]; exact HN.out (by rw [hx, Bool.and_false]))
                  rw [hx] at hm5'
                  go_wp2_with fail
                  repeat (quiet_step (fail))
                  refine wpQuiet_nil ?_
                  rintro _ ⟨nq2, rfl⟩
                  go_wp2_with fail
                  go_ret
                  exact ⟨m5, by rw [HCH.out]; rfl, HB5.out.drewN _, HT5.out.drewN _, by have := HCT.out; omega, fun h => by rw [HCH.out] at h; cases h⟩
                | true =>
                  rw [hx] at hm5'
                  have hm6 := hm5' rfl
                  clear hm5'
                  have HL5 := hid (show chkL false (d + 1) (n.kids.take (j + 1)) = true by
                    have hl := HL.out
                    rw [p1] at hl
                    rw [HS.out, hl, p2, hx]; rfl)
                  go_wp2_with fail
                  repeat (quiet_step (fail))
                  refine wpQuiet_nil ?_
                  rintro _ ⟨nq2, rfl⟩
                  go_wp2_with fail
                  go_roundw
                  case rel => exact ⟨j + 1, m5, by go_num, by omega, HB5.out.drewN _, HT5.out.drewN _, by rw [HCT.out]; unfold Hid; omega, HL5⟩
                  case measure => simp [intOf]; omega
            | true =>
              rw [p1] at HS HN
              cases p2 : (x.kind == 1) with
              | false =>
                go_wp2_with fail
                refine wp_region_segs [([0,1,2,3,4,5,6,7,8,9,10,11,12,13,14,15,16,17,18,19,20,21,22,23,24],25)] [26,27] (by kernel_rfl) (by kernel_rfl) ?_
                simp only [wpSegs, pick, List.getElem?_cons_zero, List.getElem?_cons_succ]
                repeat (quiet_step (fail))
                refine wpQuiet_nil ?_
                rintro _ ⟨nq, rfl⟩
                go_wp2_with fail
                refine (HX.out _ (HB3.out.drewN nq) ((HTW.out.trans HT3.out).drewN nq)).mono ?_
                rintro _ w5 ⟨m5, rfl, hb5, ht5, hm5, hm5'⟩
                have HB5 := hid hb5
                have HT5 := hid (HT3.out.trans (Touch.ofN ht5))
                clear hb5 ht5 e0 e3 x0
                cases hx : chkN (d + 1) x with
                | false =>
                  have HCH := hid (show chkN d n = false by rw [HC3.out, p1]; exact HN.out (by rw [hx, Bool.and_false]))
                  rw [hx] at hm5'
                  go_wp2_with fail
                  repeat (quiet_step (fail))
                  refine wpQuiet_nil ?_
                  rintro _ ⟨nq2, rfl⟩
                  go_wp2_with fail
                  go_ret
                  exact ⟨m5, by rw [HCH.out]; rfl, HB5.out.drewN _, HT5.out.drewN _, by have := HCT.out; omega, fun h => by rw [HCH.out] at h; cases h⟩
                | true =>
                  rw [hx] at hm5'
                  have hm6 := hm5' rfl
                  clear hm5'
                  have HL5 := hid (show chkL true (d + 1) (n.kids.take (j + 1)) = true by
                    have hl := HL.out
                    rw [p1] at hl
                    rw [HS.out, hl, p2, hx]; rfl)
                  go_wp2_with fail
                  repeat (quiet_step (fail))
                  refine wpQuiet_nil ?_
                  rintro _ ⟨nq2, rfl⟩
                  go_wp2_with fail
                  go_roundw
                  case rel => exact ⟨j + 1, m5, by go_num, by omega, HB5.out.drewN _, HT5.out.drewN _, by rw [HCT.out]; unfold Hid; omega, HL5⟩
                  case measure => simp [intOf]; omega
              | true =>
                have HCH := hid (show chkN d n = false by rw [HC3.out, p1]; exact HN.out (by rw [p2]; rfl))
                go_wp2_with fail
                go_quiet (fail)
                go_wp2_with fail
                go_ret
                exact ⟨m', by rw [HCH.out]; rfl, HB3.out, HT3.out.drewN _, by omega, fun h => by rw [HCH.out] at h; cases h⟩
          · have d1 : decide ((j : Int) < (n.kids.length : Int)) = false := by simp only [decide_eq_false_iff_not]; omega
            have d1n : decide (j < n.kids.length) = false := by simp only [decide_eq_false_iff_not]; omega
            obtain rfl : j = n.kids.length := by omega
            have hl := HL.out
            rw [List.take_length] at hl
            have hmm := HM.out
            rw [List.take_length] at hmm
            have HCH := hid (show chkN d n = true by rw [HC3.out]; exact hl)
            clear hl
            go_wp2_with fail
            go_ret
            exact ⟨m', by rw [HCH.out]; rfl, HB3.out, HT3.out, by omega, fun _ => by omega⟩
end Go.Proofs.Ytilgpmpiidccjaa
