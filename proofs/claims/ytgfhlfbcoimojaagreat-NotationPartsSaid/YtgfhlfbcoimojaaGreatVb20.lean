/- Part 20 of 45 of a proof; its texts, joined: NdO, NdP. No condition. -/
import Derived.Test.YtgfhlfbcoimojaaGreatVb19

/- The walks of the reference's form, Count, Depth and Valid. -/
namespace Go.Proofs.YtgfhlfbcoimojaaGreat
open Go.RowKit
theorem depthL_take (l : List Tr.Nd) (i : Nat) (h : i < l.length) : Tr.depthL (l.take (i + 1)) = max (Tr.depthL (l.take i)) (Tr.depth l[i]) := by
 induction l generalizing i with
 | nil => simp at h
 | cons x l ih =>
  cases i with
  | zero => simp [Tr.depthL]
  | succ i =>
   simp only [List.take_succ_cons, Tr.depthL, List.getElem_cons_succ]
   rw [ih i (by simpa using h)]; omega
theorem depth_le (n : Tr.Nd) : Tr.depth n ≤ Tr.count n := by
 induction n using Tr.Nd.ind with
 | h n ih =>
  have hL : ∀ l : List Tr.Nd, (∀ x ∈ l, Tr.depth x ≤ Tr.count x) → Tr.depthL l ≤ Tr.countL l := by
   intro l
   induction l with
   | nil => intro _; simp [Tr.depthL]
   | cons x l ihl =>
    intro h
    rw [Tr.depthL, Tr.countL]
    have h1 := h x (by simp)
    have h2 := ihl fun y hy => h y (by simp [hy])
    omega
  rw [Tr.depth_kids, Tr.count_kids]
  have := hL n.kids ih
  omega
theorem depthL_le (l : List Tr.Nd) : Tr.depthL l ≤ Tr.countL l := by
 induction l with
 | nil => simp [Tr.depthL]
 | cons x l ihl =>
  rw [Tr.depthL, Tr.countL]
  have h1 := depth_le x
  omega
theorem depthL_take_le (l : List Tr.Nd) (j : Nat) : Tr.depthL (l.take j) ≤ Tr.countL l := Nat.le_trans (depthL_le _) (Tr.countL_le l j)
set_option maxRecDepth 100000 in
set_option maxHeartbeats 2000000 in
theorem form_any (m : Nat) : ∀ (n : Tr.Nd) (sl : Value) (w : World), Tr.count n ≤ m → m ≤ 1000000 → RepL w n.kids sl → n.text.length ≤ maxLen →
  Calls Tryz.prog 61 #[.agg #[.int .i64 n.kind, .string ⟨n.text.toArray⟩, .int .i64 n.cols, sl]] w fun e w' => e = .returned (.bool (Tr.form n)) ∧ Fresh w w' := by
 induction m with
 | zero => intro n _ _ h; have := Tr.count_pos n; omega
 | succ m ih =>
  intro n sl w hc hm hr ht
  obtain ⟨A, cap, rfl⟩ := hr.slice
  have hlen := hr.len
  unfold maxLen at hlen ht
  have HIH := hid ih
  have HR := hid hr
  have HN0 := hid (Tr.form_eq n)
  have hkc : Tr.countL n.kids ≤ m := by have := Tr.count_kids n; omega
  have hkl := Tr.countL_len n.kids
  clear ih hr
  generalize n.kids = ks at *
  go_enter Tryz.func61, Tryz.ntmps61
  go_wp2_with fail
  refine Calls.mono (text_any _ n.text _ _ _ (by omega)) ?_
  rintro _ w1 ⟨rfl, hfw1⟩
  have HF1 := hid (show Fresh w w1 from preA hfw1)
  have B0_w1 : Blk w1 (w.heap.size) 26 #[.int .i64 n.kind, .string (⟨n.text.toArray⟩ : ByteArray), .int .i64 n.cols, .slice A ks.length cap] := Touch.blk hfw1 (by first | exact blkN | assumption | exact blkA (by assumption)) (fun h => h)
  obtain ⟨q0_0_w1, q0_1_w1, q0_2_w1, q0_3_w1, _⟩ := Blk.four B0_w1
  clear hfw1
  cases h1 : (Tr.textOK n.kind n.text) with
  | false =>
   go_wp2_with fail
   go_ret
   exact ⟨ret_bool' _ _ (by rw [HN0.out, show (Tr.textOK n.kind n.text) = false from by assumption]; rfl), (frA HF1.out)⟩
  | true =>
   go_wp2_with fail
   refine Calls.mono (kids_any _ _ ks.length _ _ _ _ (by omega)) ?_
   rintro _ w2 ⟨rfl, hfw2⟩
   have HF2 := hid (show Fresh w1 w2 from preA hfw2)
   have B0_w2 := Touch.blk hfw2 (blkA B0_w1) (fun h => h)
   clear q0_0_w1 q0_1_w1 q0_2_w1 q0_3_w1 B0_w1
   obtain ⟨q0_0_w2, q0_1_w2, q0_2_w2, q0_3_w2, _⟩ := Blk.four B0_w2
   clear hfw2
   cases h2 : (Tr.kidsOK n.kind n.cols ks.length) with
   | false =>
    go_wp2_with fail
    go_ret
    exact ⟨ret_bool' _ _ (by rw [HN0.out, show (Tr.textOK n.kind n.text) = true from by assumption, show (Tr.kidsOK n.kind n.cols ks.length) = false from by assumption]; rfl), (frA (HF1.out.trans HF2.out))⟩
   | true =>
    go_wp2_with fail
    go_loopw [3] (fun i wr => ∃ j : Nat, i = .int .i64 j ∧ j ≤ ks.length ∧ Hid (Tr.formL (n.kind == 1) (ks.take j) = true) ∧ Hid (Blk wr w.heap.size 26 #[.int .i64 n.kind, .string ⟨n.text.toArray⟩, .int .i64 n.cols, .slice A ks.length cap]) ∧ Hid (Fresh w wr)) (fun i _ => ks.length - (intOf i).toNat)
    case atStart => exact ⟨0, rfl, Nat.zero_le _, by simp [Tr.formL, Hid], by assumption, HF1.out.trans HF2.out⟩
    case round =>
     obtain ⟨j, rfl, hj, HA, HB, HF⟩ := hrel
     by_cases c1 : j < ks.length
     ·have d1 : decide ((j : Int) < (ks.length : Int)) = true := by simp only [decide_eq_true_eq]; omega
      have d1n : decide (j < ks.length) = true := by simp only [decide_eq_true_eq]; omega
      have d1' : (j : Int) < (ks.length : Int) := by omega
      obtain ⟨g, o, sx, rfl, hg, m0, m1, m2, m3, hrk⟩ := HR.out.get j c1
      have htx := HR.out.texts j c1
      have hcm := Tr.count_mem (List.getElem_mem (l := ks) (n := j) c1)
      have HS := hid (Tr.formL_take (n.kind == 1) ks j c1)
      have HN := hid (Tr.formL_no (n.kind == 1) ks j c1)
      have xx0_wr := Touch.cell HF.out m0 (fun h => h)
      have xx1_wr := Touch.cell HF.out m1 (fun h => h)
      have xx2_wr := Touch.cell HF.out m2 (fun h => h)
      have xx3_wr := Touch.cell HF.out m3 (fun h => h)
      have hgr : g < wr.heap.size := block_lt_of_cell xx0_wr
      have HRK := hid hrk
      clear m0 m1 m2 m3 hrk hg HR
      generalize ks[j] = x at *
      obtain ⟨q0_0_wr, q0_1_wr, q0_2_wr, q0_3_wr, _⟩ := Blk.four HB.out
      have B0_wr : Blk wr w.heap.size 26 #[.int .i64 n.kind, .string (⟨n.text.toArray⟩ : ByteArray), .int .i64 n.cols, .slice (some ⟨g, o, none⟩) ks.length cap] := HB.out
      have hlt_w_wr : w.heap.size < wr.heap.size := Blk.lt HB.out
      cases h3 : (x.kind == (1 : Int)) with
      | false =>
       have h3m : (x.kind != (1 : Int)) = true := by rw [bne, h3]; rfl
       cases h4 : (n.kind == (1 : Int)) with
       | false =>
        have h4m : (n.kind != (1 : Int)) = true := by rw [bne, h4]; rfl
        go_wp2_with fail
        go_quiet (fail)
        go_wp2_with fail
        go_ret
        exact ⟨ret_bool' _ _ (by rw [HN0.out, HN.out (by rw [show (x.kind == 1) = false from by assumption, show (n.kind == 1) = false from by assumption]; rfl), Bool.and_false]), (frA HF.out)⟩
       | true =>
        have h4m : (n.kind != (1 : Int)) = false := by rw [bne, h4]; rfl
        go_wp2_with fail
        refine forget_world (fun W => Fresh wr W ∧ Blk W (w.heap.size) 26 #[.int .i64 n.kind, .string (⟨n.text.toArray⟩ : ByteArray), .int .i64 n.cols, .slice (some ⟨g, o, none⟩) ks.length cap]) ⟨(frA (Touch.refl _ _)), (by first | exact blkN | assumption | exact blkA (by assumption))⟩ ?_
        rintro w3 ⟨hfw3, hb0_w3⟩
        have HF3 := hid hfw3
        clear hfw3 q0_0_wr q0_1_wr q0_2_wr q0_3_wr B0_wr
        have r0_0_w3 := cell_regrown (show World.cell? w3 ⟨w.heap.size, 0, none⟩ = some (.int .i64 n.kind) from Blk.cell hb0_w3 0)
        have r0_1_w3 := cell_regrown (show World.cell? w3 ⟨w.heap.size, 1, none⟩ = some (.string (⟨n.text.toArray⟩ : ByteArray)) from Blk.cell hb0_w3 1)
        have r0_2_w3 := cell_regrown (show World.cell? w3 ⟨w.heap.size, 2, none⟩ = some (.int .i64 n.cols) from Blk.cell hb0_w3 2)
        have r0_3_w3 := cell_regrown (show World.cell? w3 ⟨w.heap.size, 3, none⟩ = some (.slice (some ⟨g, o, none⟩) ks.length cap) from Blk.cell hb0_w3 3)
        obtain ⟨xx0_w3, xx1_w3, xx2_w3, xx3_w3⟩ := mv4 HF3.out xx0_wr xx1_wr xx2_wr xx3_wr
        clear xx0_wr xx1_wr xx2_wr xx3_wr
        have gxx0_w3 := cell_regrown xx0_w3
        have gxx1_w3 := cell_regrown xx1_w3
        have gxx2_w3 := cell_regrown xx2_w3
        have gxx3_w3 := cell_regrown xx3_w3
        have C0_w3 := hid (calmF (P := Tryz.prog) w3 (fun w hw => HIH.out x sx _ (by omega) (by omega) (HRK.out.fresh (Touch.trans (HF.out.trans HF3.out) hw)) htx))
        refine wp_region_quiet_below (by kernel_rfl) (by kernel_rfl) ?_
        repeat (quiet_step (first | with_reducible exact C0_w3.out _ _))
        refine wpQuiet_nil ?_
        rintro w4 ⟨⟨_, _⟩, hWw4⟩
        have hfw4 : Fresh w3 w4 := by rw [hWw4]; exact fresh_of_below (below_regrown _ _ _)
        clear hWw4 r0_0_w3 r0_1_w3 r0_2_w3 r0_3_w3 gxx0_w3 gxx1_w3 gxx2_w3 gxx3_w3
        have HF4 := hid (show Fresh w3 w4 from preA hfw4)
        have B0_w4 := Touch.blk hfw4 (blkA hb0_w3) (fun h => h)
        clear hb0_w3
        obtain ⟨q0_0_w4, q0_1_w4, q0_2_w4, q0_3_w4, _⟩ := Blk.four B0_w4
        obtain ⟨xx0_w4, xx1_w4, xx2_w4, xx3_w4⟩ := mv4 HF4.out xx0_w3 xx1_w3 xx2_w3 xx3_w3
        clear xx0_w3 xx1_w3 xx2_w3 xx3_w3
        clear hfw4
        cases h5 : (Tr.form x) with
        | false =>
         go_wp2_with fail
         go_ret
         exact ⟨ret_bool' _ _ (by rw [HN0.out, HN.out (by rw [show (x.kind == 1) = false from by assumption, show (n.kind == 1) = true from by assumption, show (Tr.form x) = false from by assumption]; rfl), Bool.and_false]), (frA (HF.out.trans (HF3.out.trans HF4.out)))⟩
        | true =>
         go_wp2_with fail
         go_roundw
         case rel => exact ⟨j + 1, by go_num, c1, by have h : Tr.formL (n.kind == 1) (ks.take (j + 1)) = true := (by rw [HS.out, HA.out, show (x.kind == 1) = false from by assumption, show (n.kind == 1) = true from by assumption, show (Tr.form x) = true from by assumption]; rfl); rw [show (n.kind == 1) = true from by assumption] at h; exact h, B0_w4, (HF.out.trans (HF3.out.trans HF4.out))⟩
         case measure => simp [intOf]; omega
      | true =>
       have h3m : (x.kind != (1 : Int)) = false := by rw [bne, h3]; rfl
       cases h6 : (n.kind == (1 : Int)) with
       | false =>
        have h6m : (n.kind != (1 : Int)) = true := by rw [bne, h6]; rfl
        go_wp2_with fail
        refine forget_world (fun W => Fresh wr W ∧ Blk W (w.heap.size) 26 #[.int .i64 n.kind, .string (⟨n.text.toArray⟩ : ByteArray), .int .i64 n.cols, .slice (some ⟨g, o, none⟩) ks.length cap]) ⟨(frA (Touch.refl _ _)), (by first | exact blkN | assumption | exact blkA (by assumption))⟩ ?_
        rintro w5 ⟨hfw5, hb0_w5⟩
        have HF5 := hid hfw5
        clear hfw5 q0_0_wr q0_1_wr q0_2_wr q0_3_wr B0_wr
        have r0_0_w5 := cell_regrown (show World.cell? w5 ⟨w.heap.size, 0, none⟩ = some (.int .i64 n.kind) from Blk.cell hb0_w5 0)
        have r0_1_w5 := cell_regrown (show World.cell? w5 ⟨w.heap.size, 1, none⟩ = some (.string (⟨n.text.toArray⟩ : ByteArray)) from Blk.cell hb0_w5 1)
        have r0_2_w5 := cell_regrown (show World.cell? w5 ⟨w.heap.size, 2, none⟩ = some (.int .i64 n.cols) from Blk.cell hb0_w5 2)
        have r0_3_w5 := cell_regrown (show World.cell? w5 ⟨w.heap.size, 3, none⟩ = some (.slice (some ⟨g, o, none⟩) ks.length cap) from Blk.cell hb0_w5 3)
        obtain ⟨xx0_w5, xx1_w5, xx2_w5, xx3_w5⟩ := mv4 HF5.out xx0_wr xx1_wr xx2_wr xx3_wr
        clear xx0_wr xx1_wr xx2_wr xx3_wr
        have gxx0_w5 := cell_regrown xx0_w5
        have gxx1_w5 := cell_regrown xx1_w5
        have gxx2_w5 := cell_regrown xx2_w5
        have gxx3_w5 := cell_regrown xx3_w5
        have C0_w5 := hid (calmF (P := Tryz.prog) w5 (fun w hw => HIH.out x sx _ (by omega) (by omega) (HRK.out.fresh (Touch.trans (HF.out.trans HF5.out) hw)) htx))
        refine wp_region_quiet_below (by kernel_rfl) (by kernel_rfl) ?_
        repeat (quiet_step (first | with_reducible exact C0_w5.out _ _))
        refine wpQuiet_nil ?_
        rintro w6 ⟨⟨_, _⟩, hWw6⟩
        have hfw6 : Fresh w5 w6 := by rw [hWw6]; exact fresh_of_below (below_regrown _ _ _)
        clear hWw6 r0_0_w5 r0_1_w5 r0_2_w5 r0_3_w5 gxx0_w5 gxx1_w5 gxx2_w5 gxx3_w5
        have HF6 := hid (show Fresh w5 w6 from preA hfw6)
        have B0_w6 := Touch.blk hfw6 (blkA hb0_w5) (fun h => h)
        clear hb0_w5
        obtain ⟨q0_0_w6, q0_1_w6, q0_2_w6, q0_3_w6, _⟩ := Blk.four B0_w6
        obtain ⟨xx0_w6, xx1_w6, xx2_w6, xx3_w6⟩ := mv4 HF6.out xx0_w5 xx1_w5 xx2_w5 xx3_w5
        clear xx0_w5 xx1_w5 xx2_w5 xx3_w5
        clear hfw6
        cases h7 : (Tr.form x) with
        | false =>
         go_wp2_with fail
         go_ret
         exact ⟨ret_bool' _ _ (by rw [HN0.out, HN.out (by rw [show (x.kind == 1) = true from by assumption, show (n.kind == 1) = false from by assumption, show (Tr.form x) = false from by assumption]; rfl), Bool.and_false]), (frA (HF.out.trans (HF5.out.trans HF6.out)))⟩
        | true =>
         go_wp2_with fail
         go_roundw
         case rel => exact ⟨j + 1, by go_num, c1, by have h : Tr.formL (n.kind == 1) (ks.take (j + 1)) = true := (by rw [HS.out, HA.out, show (x.kind == 1) = true from by assumption, show (n.kind == 1) = false from by assumption, show (Tr.form x) = true from by assumption]; rfl); rw [show (n.kind == 1) = false from by assumption] at h; exact h, B0_w6, (HF.out.trans (HF5.out.trans HF6.out))⟩
         case measure => simp [intOf]; omega
       | true =>
        have h6m : (n.kind != (1 : Int)) = false := by rw [bne, h6]; rfl
        go_wp2_with fail
        go_quiet (fail)
        go_wp2_with fail
        go_ret
        exact ⟨ret_bool' _ _ (by rw [HN0.out, HN.out (by rw [show (x.kind == 1) = true from by assumption, show (n.kind == 1) = true from by assumption]; rfl), Bool.and_false]), (frA HF.out)⟩
     ·have d1 : decide ((j : Int) < (ks.length : Int)) = false := by simp only [decide_eq_false_iff_not]; omega
      have d1n : decide (j < ks.length) = false := by simp only [decide_eq_false_iff_not]; omega
      obtain rfl : j = ks.length := by omega
      obtain ⟨q0_0_wr, q0_1_wr, q0_2_wr, q0_3_wr, _⟩ := Blk.four HB.out
      have B0_wr : Blk wr w.heap.size 26 #[.int .i64 n.kind, .string (⟨n.text.toArray⟩ : ByteArray), .int .i64 n.cols, .slice A ks.length cap] := HB.out
      have hlt_w_wr : w.heap.size < wr.heap.size := Blk.lt HB.out
      go_wp2_with fail
      go_ret
      exact ⟨ret_bool' _ _ (by have := HA.out; rw [List.take_length] at this; rw [HN0.out, this, show (Tr.textOK n.kind n.text) = true from by assumption, show (Tr.kidsOK n.kind n.cols ks.length) = true from by assumption]; rfl), (frA HF.out)⟩
set_option maxRecDepth 100000 in
set_option maxHeartbeats 2000000 in
theorem count_any (m : Nat) : ∀ (n : Tr.Nd) (sl : Value) (w : World), Tr.count n ≤ m → m ≤ 1000000 → RepL w n.kids sl → n.text.length ≤ maxLen →
  Calls Tryz.prog 62 #[.agg #[.int .i64 n.kind, .string ⟨n.text.toArray⟩, .int .i64 n.cols, sl]] w fun e w' => e = .returned (.int .i64 (Tr.count n)) ∧ Fresh w w' := by
 induction m with
 | zero => intro n _ _ h; have := Tr.count_pos n; omega
 | succ m ih =>
  intro n sl w hc hm hr ht
  obtain ⟨A, cap, rfl⟩ := hr.slice
  have hlen := hr.len
  unfold maxLen at hlen ht
  have HIH := hid ih
  have HR := hid hr
  have HN0 := hid (Tr.count_kids n)
  have hkc : Tr.countL n.kids ≤ m := by have := Tr.count_kids n; omega
  have hkl := Tr.countL_len n.kids
  clear ih hr
  generalize n.kids = ks at *
  go_enter Tryz.func62, Tryz.ntmps62
  go_wp2_with fail
  go_loopw [3, 4] (fun c i wr => ∃ j : Nat, c = .int .i64 ((1 + Tr.countL (ks.take j) : Nat) : Int) ∧ i = .int .i64 j ∧ j ≤ ks.length ∧ Hid (Blk wr w.heap.size 26 #[.int .i64 n.kind, .string ⟨n.text.toArray⟩, .int .i64 n.cols, .slice A ks.length cap]) ∧ Hid (Fresh w wr)) (fun _ i _ => ks.length - (intOf i).toNat)
  case atStart => exact ⟨0, by simp [Tr.countL], rfl, Nat.zero_le _, Blk.new _ _ _, (Touch.refl _ _).alloc _⟩
  case round =>
   obtain ⟨j, rfl, rfl, hj, HB, HF⟩ := hrel
   by_cases c1 : j < ks.length
   ·have d1 : decide ((j : Int) < (ks.length : Int)) = true := by simp only [decide_eq_true_eq]; omega
    have d1n : decide (j < ks.length) = true := by simp only [decide_eq_true_eq]; omega
    have d1' : (j : Int) < (ks.length : Int) := by omega
    obtain ⟨g, o, sx, rfl, hg, m0, m1, m2, m3, hrk⟩ := HR.out.get j c1
    have htx := HR.out.texts j c1
    have hcm := Tr.count_mem (List.getElem_mem (l := ks) (n := j) c1)
    have HS := hid (Tr.countL_take ks j c1)
    have hct := Tr.countL_le ks j
    have hcs : Tr.countL (ks.take j) + Tr.count ks[j] ≤ Tr.countL ks := by rw [← HS.out]; exact Tr.countL_le ks (j + 1)
    have xx0_wr := Touch.cell HF.out m0 (fun h => h)
    have xx1_wr := Touch.cell HF.out m1 (fun h => h)
    have xx2_wr := Touch.cell HF.out m2 (fun h => h)
    have xx3_wr := Touch.cell HF.out m3 (fun h => h)
    have hgr : g < wr.heap.size := block_lt_of_cell xx0_wr
    have HRK := hid hrk
    clear m0 m1 m2 m3 hrk hg HR
    generalize ks[j] = x at *
    obtain ⟨q0_0_wr, q0_1_wr, q0_2_wr, q0_3_wr, _⟩ := Blk.four HB.out
    have B0_wr : Blk wr w.heap.size 26 #[.int .i64 n.kind, .string (⟨n.text.toArray⟩ : ByteArray), .int .i64 n.cols, .slice (some ⟨g, o, none⟩) ks.length cap] := HB.out
    have hlt_w_wr : w.heap.size < wr.heap.size := Blk.lt HB.out
    go_wp2_with fail
    refine Calls.mono (HIH.out x sx _ (by omega) (by omega) (HRK.out.fresh (frA HF.out)) htx) ?_
    rintro _ w1 ⟨rfl, hfw1⟩
    have HF1 := hid (show Fresh wr w1 from preA hfw1)
    have B0_w1 := Touch.blk hfw1 (blkA B0_wr) (fun h => h)
    clear q0_0_wr q0_1_wr q0_2_wr q0_3_wr B0_wr
    obtain ⟨q0_0_w1, q0_1_w1, q0_2_w1, q0_3_w1, _⟩ := Blk.four B0_w1
    obtain ⟨xx0_w1, xx1_w1, xx2_w1, xx3_w1⟩ := mv4 HF1.out xx0_wr xx1_wr xx2_wr xx3_wr
    clear xx0_wr xx1_wr xx2_wr xx3_wr
    clear hfw1
    go_wp2_with fail
    go_roundw
    case rel => exact ⟨j + 1, by rw [HS.out]; go_num, by go_num, c1, B0_w1, (HF.out.trans HF1.out)⟩
    case measure => simp [intOf]; omega
   ·have d1 : decide ((j : Int) < (ks.length : Int)) = false := by simp only [decide_eq_false_iff_not]; omega
    have d1n : decide (j < ks.length) = false := by simp only [decide_eq_false_iff_not]; omega
    obtain rfl : j = ks.length := by omega
    obtain ⟨q0_0_wr, q0_1_wr, q0_2_wr, q0_3_wr, _⟩ := Blk.four HB.out
    have B0_wr : Blk wr w.heap.size 26 #[.int .i64 n.kind, .string (⟨n.text.toArray⟩ : ByteArray), .int .i64 n.cols, .slice A ks.length cap] := HB.out
    have hlt_w_wr : w.heap.size < wr.heap.size := Blk.lt HB.out
    go_wp2_with fail
    go_ret
    exact ⟨by rw [HN0.out]; first | (have := List.take_length (l := ks); simp_all) | rfl, (frA HF.out)⟩
set_option maxRecDepth 100000 in
set_option maxHeartbeats 2000000 in
theorem depth_any (m : Nat) : ∀ (n : Tr.Nd) (sl : Value) (w : World), Tr.count n ≤ m → m ≤ 1000000 → RepL w n.kids sl → n.text.length ≤ maxLen →
  Calls Tryz.prog 63 #[.agg #[.int .i64 n.kind, .string ⟨n.text.toArray⟩, .int .i64 n.cols, sl]] w fun e w' => e = .returned (.int .i64 (Tr.depth n)) ∧ Fresh w w' := by
 induction m with
 | zero => intro n _ _ h; have := Tr.count_pos n; omega
 | succ m ih =>
  intro n sl w hc hm hr ht
  obtain ⟨A, cap, rfl⟩ := hr.slice
  have hlen := hr.len
  unfold maxLen at hlen ht
  have HIH := hid ih
  have HR := hid hr
  have HN0 := hid (Tr.depth_kids n)
  have hkc : Tr.countL n.kids ≤ m := by have := Tr.count_kids n; omega
  have hkl := Tr.countL_len n.kids
  have hdl := depthL_le n.kids
  clear ih hr
  generalize n.kids = ks at *
  go_enter Tryz.func63, Tryz.ntmps63
  go_wp2_with fail
  go_loopw [3, 4] (fun c i wr => ∃ j : Nat, c = .int .i64 ((Tr.depthL (ks.take j) : Nat) : Int) ∧ i = .int .i64 j ∧ j ≤ ks.length ∧ Hid (Blk wr w.heap.size 26 #[.int .i64 n.kind, .string ⟨n.text.toArray⟩, .int .i64 n.cols, .slice A ks.length cap]) ∧ Hid (Fresh w wr)) (fun _ i _ => ks.length - (intOf i).toNat)
  case atStart => exact ⟨0, by simp [Tr.depthL], rfl, Nat.zero_le _, Blk.new _ _ _, (Touch.refl _ _).alloc _⟩
  case round =>
   obtain ⟨j, rfl, rfl, hj, HB, HF⟩ := hrel
   by_cases c1 : j < ks.length
   ·have d1 : decide ((j : Int) < (ks.length : Int)) = true := by simp only [decide_eq_true_eq]; omega
    have d1n : decide (j < ks.length) = true := by simp only [decide_eq_true_eq]; omega
    have d1' : (j : Int) < (ks.length : Int) := by omega
    obtain ⟨g, o, sx, rfl, hg, m0, m1, m2, m3, hrk⟩ := HR.out.get j c1
    have htx := HR.out.texts j c1
    have hcm := Tr.count_mem (List.getElem_mem (l := ks) (n := j) c1)
    have HS := hid (depthL_take ks j c1)
    have hdj := depthL_take_le ks j
    have hdx := depth_le ks[j]
    have xx0_wr := Touch.cell HF.out m0 (fun h => h)
    have xx1_wr := Touch.cell HF.out m1 (fun h => h)
    have xx2_wr := Touch.cell HF.out m2 (fun h => h)
    have xx3_wr := Touch.cell HF.out m3 (fun h => h)
    have hgr : g < wr.heap.size := block_lt_of_cell xx0_wr
    have HRK := hid hrk
    clear m0 m1 m2 m3 hrk hg HR
    generalize ks[j] = x at *
    obtain ⟨q0_0_wr, q0_1_wr, q0_2_wr, q0_3_wr, _⟩ := Blk.four HB.out
    have B0_wr : Blk wr w.heap.size 26 #[.int .i64 n.kind, .string (⟨n.text.toArray⟩ : ByteArray), .int .i64 n.cols, .slice (some ⟨g, o, none⟩) ks.length cap] := HB.out
    have hlt_w_wr : w.heap.size < wr.heap.size := Blk.lt HB.out
    go_wp2_with fail
    refine Calls.mono (HIH.out x sx _ (by omega) (by omega) (HRK.out.fresh (frA HF.out)) htx) ?_
    rintro _ w1 ⟨rfl, hfw1⟩
    have HF1 := hid (show Fresh wr w1 from preA hfw1)
    have B0_w1 := Touch.blk hfw1 (blkA B0_wr) (fun h => h)
    clear q0_0_wr q0_1_wr q0_2_wr q0_3_wr B0_wr
    obtain ⟨q0_0_w1, q0_1_w1, q0_2_w1, q0_3_w1, _⟩ := Blk.four B0_w1
    obtain ⟨xx0_w1, xx1_w1, xx2_w1, xx3_w1⟩ := mv4 HF1.out xx0_wr xx1_wr xx2_wr xx3_wr
    clear xx0_wr xx1_wr xx2_wr xx3_wr
    clear hfw1
    go_wp2_with fail
    go_roundw
    case rel => exact ⟨j + 1, by rw [HS.out]; go_num, by go_num, c1, B0_w1, (HF.out.trans HF1.out)⟩
    case measure => simp [intOf]; omega
   ·have d1 : decide ((j : Int) < (ks.length : Int)) = false := by simp only [decide_eq_false_iff_not]; omega
    have d1n : decide (j < ks.length) = false := by simp only [decide_eq_false_iff_not]; omega
    obtain rfl : j = ks.length := by omega
    obtain ⟨q0_0_wr, q0_1_wr, q0_2_wr, q0_3_wr, _⟩ := Blk.four HB.out
    have B0_wr : Blk wr w.heap.size 26 #[.int .i64 n.kind, .string (⟨n.text.toArray⟩ : ByteArray), .int .i64 n.cols, .slice A ks.length cap] := HB.out
    have hlt_w_wr : w.heap.size < wr.heap.size := Blk.lt HB.out
    go_wp2_with fail
    go_ret
    exact ⟨by rw [HN0.out]; first | (have := List.take_length (l := ks); simp_all) | rfl, (frA HF.out)⟩
end Go.Proofs.YtgfhlfbcoimojaaGreat

/- The walk of the reference's Valid. -/
namespace Go.Proofs.YtgfhlfbcoimojaaGreat
open Go.RowKit
set_option maxRecDepth 100000 in
set_option maxHeartbeats 1000000 in
theorem rValid_any (n : Tr.Nd) (sl : Value) (w : World) (hr : RepL w n.kids sl) (ht : n.text.length ≤ maxLen) (hc : Tr.count n ≤ 1000000) :
  Calls Tryz.prog 31 #[.agg #[.int .i64 n.kind, .string ⟨n.text.toArray⟩, .int .i64 n.cols, sl]] w fun e w' => e = .returned (.bool (Tr.valid n)) ∧ Fresh w w' := by
 have HR := hid hr
 have HV := hid (show Tr.valid n = ((n.kind == 1) && Tr.form n && decide (Tr.count n ≤ 1000) && decide (Tr.depth n ≤ 24)) from rfl)
 have HT := hid ht
 have HC := hid hc
 clear hr ht hc
 go_enter Tryz.func31, Tryz.ntmps31
 cases h1 : (n.kind == (1 : Int)) with
 | false =>
  have h1m : (n.kind != (1 : Int)) = true := by rw [bne, h1]; rfl
  go_wp2_with fail
  go_ret
  exact ⟨ret_bool' _ _ (by rw [HV.out, show (n.kind == 1) = false from by assumption]; simp), (frA (Touch.refl _ _))⟩
 | true =>
  have h1m : (n.kind != (1 : Int)) = false := by rw [bne, h1]; rfl
  go_wp2_with fail
  refine Calls.mono (form_any _ n sl _ (Nat.le_refl _) HC.out (HR.out.fresh (frA (Touch.refl _ _))) HT.out) ?_
  rintro _ w1 ⟨rfl, hfw1⟩
  have HF1 := hid (show Fresh w w1 from preA hfw1)
  have B0_w1 : Blk w1 (w.heap.size) 26 #[.int .i64 n.kind, .string (⟨n.text.toArray⟩ : ByteArray), .int .i64 n.cols, sl] := Touch.blk hfw1 (by first | exact blkN | assumption | exact blkA (by assumption)) (fun h => h)
  obtain ⟨q0_0_w1, q0_1_w1, q0_2_w1, q0_3_w1, _⟩ := Blk.four B0_w1
  clear hfw1
  cases h2 : (Tr.form n) with
  | false =>
   go_wp2_with fail
   go_ret
   exact ⟨ret_bool' _ _ (by rw [HV.out, show (n.kind == 1) = true from by assumption, show (Tr.form n) = false from by assumption]; simp), (frA HF1.out)⟩
  | true =>
   go_wp2_with fail
   refine Calls.mono (count_any _ n sl _ (Nat.le_refl _) HC.out (HR.out.fresh (frA HF1.out)) HT.out) ?_
   rintro _ w2 ⟨rfl, hfw2⟩
   have HF2 := hid (show Fresh w1 w2 from preA hfw2)
   have B0_w2 := Touch.blk hfw2 (blkA B0_w1) (fun h => h)
   clear q0_0_w1 q0_1_w1 q0_2_w1 q0_3_w1 B0_w1
   obtain ⟨q0_0_w2, q0_1_w2, q0_2_w2, q0_3_w2, _⟩ := Blk.four B0_w2
   clear hfw2
   cases h3 : decide ((Tr.count n : Int) ≤ (1000 : Int)) with
   | false =>
    go_wp2_with fail
    go_ret
    exact ⟨ret_bool' _ _ (by rw [HV.out, show (n.kind == 1) = true from by assumption, show (Tr.form n) = true from by assumption, show decide (Tr.count n ≤ 1000) = false from by have := of_decide_eq_false (by assumption : decide ((Tr.count n : Int) ≤ (1000 : Int)) = false); simp only [decide_eq_false_iff_not]; omega]; simp), (frA (HF1.out.trans HF2.out))⟩
   | true =>
    go_wp2_with fail
    refine Calls.mono (depth_any _ n sl _ (Nat.le_refl _) HC.out (HR.out.fresh (frA (HF1.out.trans HF2.out))) HT.out) ?_
    rintro _ w3 ⟨rfl, hfw3⟩
    have HF3 := hid (show Fresh w2 w3 from preA hfw3)
    have B0_w3 := Touch.blk hfw3 (blkA B0_w2) (fun h => h)
    clear q0_0_w2 q0_1_w2 q0_2_w2 q0_3_w2 B0_w2
    obtain ⟨q0_0_w3, q0_1_w3, q0_2_w3, q0_3_w3, _⟩ := Blk.four B0_w3
    clear hfw3
    cases h4 : decide ((Tr.depth n : Int) ≤ (24 : Int)) with
    | false =>
     go_wp2_with fail
     go_ret
     exact ⟨ret_bool' _ _ (by rw [HV.out, show (n.kind == 1) = true from by assumption, show (Tr.form n) = true from by assumption, show decide (Tr.count n ≤ 1000) = true from by have := of_decide_eq_true (by assumption : decide ((Tr.count n : Int) ≤ (1000 : Int)) = true); simp only [decide_eq_true_eq]; omega, show decide (Tr.depth n ≤ 24) = false from by have := of_decide_eq_false (by assumption : decide ((Tr.depth n : Int) ≤ (24 : Int)) = false); simp only [decide_eq_false_iff_not]; omega]; rfl), (frA (HF1.out.trans (HF2.out.trans HF3.out)))⟩
    | true =>
     go_wp2_with fail
     go_ret
     exact ⟨ret_bool' _ _ (by rw [HV.out, show (n.kind == 1) = true from by assumption, show (Tr.form n) = true from by assumption, show decide (Tr.count n ≤ 1000) = true from by have := of_decide_eq_true (by assumption : decide ((Tr.count n : Int) ≤ (1000 : Int)) = true); simp only [decide_eq_true_eq]; omega, show decide (Tr.depth n ≤ 24) = true from by have := of_decide_eq_true (by assumption : decide ((Tr.depth n : Int) ≤ (24 : Int)) = true); simp only [decide_eq_true_eq]; omega]; rfl), (frA (HF1.out.trans (HF2.out.trans HF3.out)))⟩
end Go.Proofs.YtgfhlfbcoimojaaGreat
