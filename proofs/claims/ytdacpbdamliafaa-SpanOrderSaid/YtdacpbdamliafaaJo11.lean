/- Part 11 of 11 of a proof; its texts, joined: NdO, NdP, SnK, SnU. No condition. -/
import Derived.Test.YtdacpbdamliafaaJo10
import Derived.Test.YtdacpbdamliafaaJo9
import Derived.Test.YtdacpbdamliafaaJo2

/- The walks of the reference's form, Count, Depth and Valid. -/
namespace Go.Proofs.Ytdacpbdamliafaa
open Go.RowKit

theorem depthL_take (l : List Tr.Nd) (i : Nat) (h : i < l.length) : Tr.depthL (l.take (i + 1)) = max (Tr.depthL (l.take i)) (Tr.depth l[i]) := by
  induction l generalizing i with
  | nil => simp at h
  | cons x l ih =>
    cases i with
    | zero => simp [Tr.depthL]
    | succ i =>
      simp only [List.take_succ_cons, Tr.depthL, List.getElem_cons_succ]
      rw [ih i (by simpa using h)]; omega
theorem depth_le (n : Tr.Nd) : Tr.depth n ≤ Tr.count n := by
  induction n using Tr.Nd.ind with
  | h n ih =>
    have hL : ∀ l : List Tr.Nd, (∀ x ∈ l, Tr.depth x ≤ Tr.count x) → Tr.depthL l ≤ Tr.countL l := by
      intro l
      induction l with
      | nil => intro _; simp [Tr.depthL]
      | cons x l ihl =>
        intro h
        rw [Tr.depthL, Tr.countL]
        have h1 := h x (by simp)
        have h2 := ihl fun y hy => h y (by simp [hy])
        omega
    rw [Tr.depth_kids, Tr.count_kids]
    have := hL n.kids ih
    omega
theorem depthL_le (l : List Tr.Nd) : Tr.depthL l ≤ Tr.countL l := by
  induction l with
  | nil => simp [Tr.depthL]
  | cons x l ihl =>
    rw [Tr.depthL, Tr.countL]
    have h1 := depth_le x
    omega
theorem depthL_take_le (l : List Tr.Nd) (j : Nat) : Tr.depthL (l.take j) ≤ Tr.countL l := Nat.le_trans (depthL_le _) (Tr.countL_le l j)


set_option maxRecDepth 100000 in
set_option maxHeartbeats 2000000 in
theorem form_any (m : Nat) : ∀ (n : Tr.Nd) (sl : Value) (w : World), Tr.count n ≤ m → m ≤ 1000000 → RepL w n.kids sl → n.text.length ≤ maxLen →
    Calls Try.prog 33 #[.agg #[.int .i64 n.kind, .string ⟨n.text.toArray⟩, .int .i64 n.cols, sl]] w fun e w' => e = .returned (.bool (Tr.form n)) ∧ Fresh w w' := by
  induction m with
  | zero => intro n _ _ h; have := Tr.count_pos n; omega
  | succ m ih =>
    intro n sl w hc hm hr ht
    obtain ⟨A, cap, rfl⟩ := hr.slice
    have hlen := hr.len
    unfold maxLen at hlen ht
    have HIH := hid ih
    have HR := hid hr
    have HN0 := hid (Tr.form_eq n)
    have hkc : Tr.countL n.kids ≤ m := by have := Tr.count_kids n; omega
    have hkl := Tr.countL_len n.kids
    clear ih hr
    generalize n.kids = ks at *
    go_enter Try.func33, Try.ntmps33
    go_wp2_with fail
    refine Calls.mono (text_any _ n.text _ _ _ (by omega)) ?_
    rintro _ w1 ⟨rfl, hfw1⟩
    have HF1 := hid (show Fresh w w1 from by first | exact hfw1 | exact Touch.pre hfw1 | exact Touch.pre (Touch.pre hfw1) | exact Touch.ofN hfw1 | exact Touch.preN hfw1 | exact Touch.pre (Touch.pre (Touch.pre hfw1)))
    have B0_w1 : Blk w1 (w.heap.size) 24 #[.int .i64 n.kind, .string (⟨n.text.toArray⟩ : ByteArray), .int .i64 n.cols, .slice A ks.length cap] := Touch.blk hfw1 (by first | exact Blk.new _ _ _ | exact (Blk.new _ _ _).alloc _ | exact Blk.new2 _ _ _ _ | exact ((Blk.new _ _ _).alloc _).alloc _ | exact (Blk.new2 _ _ _ _).alloc _ | exact Blk.new3 _ _ _ _ _ | assumption | exact Blk.alloc (by assumption) _ | exact (Blk.alloc (Blk.alloc (by assumption) _) _)) (fun h => h)
    have q0_0_w1 : World.cell? w1 ⟨w.heap.size, 0, none⟩ = some (.int .i64 n.kind) := Blk.cell B0_w1 0
    have q0_1_w1 : World.cell? w1 ⟨w.heap.size, 1, none⟩ = some (.string (⟨n.text.toArray⟩ : ByteArray)) := Blk.cell B0_w1 1
    have q0_2_w1 : World.cell? w1 ⟨w.heap.size, 2, none⟩ = some (.int .i64 n.cols) := Blk.cell B0_w1 2
    have q0_3_w1 : World.cell? w1 ⟨w.heap.size, 3, none⟩ = some (.slice A ks.length cap) := Blk.cell B0_w1 3
    clear hfw1
    cases h1 : (Tr.textOK n.kind n.text) with
    | false =>
      go_wp2_with fail
      go_ret
      exact ⟨ret_bool' _ _ (by rw [HN0.out, show (Tr.textOK n.kind n.text) = false from by assumption]; rfl), (by first | exact HF1.out | exact HF1.out.alloc _ | exact (HF1.out.alloc _).alloc _ | exact ((HF1.out.alloc _).alloc _).alloc _ | exact HF1.out.drewN _ | exact (HF1.out.alloc _).drewN _ | exact ((HF1.out.alloc _).alloc _).drewN _)⟩
    | true =>
      go_wp2_with fail
      refine Calls.mono (kids_any _ _ ks.length _ _ _ _ (by omega)) ?_
      rintro _ w2 ⟨rfl, hfw2⟩
      have HF2 := hid (show Fresh w1 w2 from by first | exact hfw2 | exact Touch.pre hfw2 | exact Touch.pre (Touch.pre hfw2) | exact Touch.ofN hfw2 | exact Touch.preN hfw2 | exact Touch.pre (Touch.pre (Touch.pre hfw2)))
      have B0_w2 : Blk w2 (w.heap.size) 24 #[.int .i64 n.kind, .string (⟨n.text.toArray⟩ : ByteArray), .int .i64 n.cols, .slice A ks.length cap] := Touch.blk hfw2 (by first | exact Blk.new _ _ _ | exact (Blk.new _ _ _).alloc _ | exact Blk.new2 _ _ _ _ | exact ((Blk.new _ _ _).alloc _).alloc _ | exact (Blk.new2 _ _ _ _).alloc _ | exact Blk.new3 _ _ _ _ _ | assumption | exact Blk.alloc (by assumption) _ | exact (Blk.alloc (Blk.alloc (by assumption) _) _)) (fun h => h)
      clear q0_0_w1 q0_1_w1 q0_2_w1 q0_3_w1 B0_w1
      have q0_0_w2 : World.cell? w2 ⟨w.heap.size, 0, none⟩ = some (.int .i64 n.kind) := Blk.cell B0_w2 0
      have q0_1_w2 : World.cell? w2 ⟨w.heap.size, 1, none⟩ = some (.string (⟨n.text.toArray⟩ : ByteArray)) := Blk.cell B0_w2 1
      have q0_2_w2 : World.cell? w2 ⟨w.heap.size, 2, none⟩ = some (.int .i64 n.cols) := Blk.cell B0_w2 2
      have q0_3_w2 : World.cell? w2 ⟨w.heap.size, 3, none⟩ = some (.slice A ks.length cap) := Blk.cell B0_w2 3
      clear hfw2
      cases h2 : (Tr.kidsOK n.kind n.cols ks.length) with
      | false =>
        go_wp2_with fail
        go_ret
        exact ⟨ret_bool' _ _ (by rw [HN0.out, show (Tr.textOK n.kind n.text) = true from by assumption, show (Tr.kidsOK n.kind n.cols ks.length) = false from by assumption]; rfl), (by first | exact (HF1.out.trans HF2.out) | exact (HF1.out.trans HF2.out).alloc _ | exact ((HF1.out.trans HF2.out).alloc _).alloc _ | exact (((HF1.out.trans HF2.out).alloc _).alloc _).alloc _ | exact (HF1.out.trans HF2.out).drewN _ | exact ((HF1.out.trans HF2.out).alloc _).drewN _ | exact (((HF1.out.trans HF2.out).alloc _).alloc _).drewN _)⟩
      | true =>
        go_wp2_with fail
        go_loopw [3] (fun i wr => ∃ j : Nat, i = .int .i64 j ∧ j ≤ ks.length ∧ Hid (Tr.formL (n.kind == 1) (ks.take j) = true) ∧ Hid (Blk wr w.heap.size 24 #[.int .i64 n.kind, .string ⟨n.text.toArray⟩, .int .i64 n.cols, .slice A ks.length cap]) ∧ Hid (Fresh w wr)) (fun i _ => ks.length - (intOf i).toNat)
        case atStart => exact ⟨0, rfl, Nat.zero_le _, by simp [Tr.formL, Hid], by assumption, HF1.out.trans HF2.out⟩
        case round =>
          obtain ⟨j, rfl, hj, HA, HB, HF⟩ := hrel
          by_cases c1 : j < ks.length
          · have d1 : decide ((j : Int) < (ks.length : Int)) = true := by simp only [decide_eq_true_eq]; omega
            have d1n : decide (j < ks.length) = true := by simp only [decide_eq_true_eq]; omega
            have d1' : (j : Int) < (ks.length : Int) := by omega
            obtain ⟨g, o, sx, rfl, hg, m0, m1, m2, m3, hrk⟩ := HR.out.get j c1
            have htx := HR.out.texts j c1
            have hcm := Tr.count_mem (List.getElem_mem (l := ks) (n := j) c1)
            have HS := hid (Tr.formL_take (n.kind == 1) ks j c1)
            have HN := hid (Tr.formL_no (n.kind == 1) ks j c1)
            have xx0_wr := Touch.cell HF.out m0 (fun h => h)
            have xx1_wr := Touch.cell HF.out m1 (fun h => h)
            have xx2_wr := Touch.cell HF.out m2 (fun h => h)
            have xx3_wr := Touch.cell HF.out m3 (fun h => h)
            have hgr : g < wr.heap.size := block_lt_of_cell xx0_wr
            have HRK := hid hrk
            clear m0 m1 m2 m3 hrk hg HR
            generalize ks[j] = x at *
            have q0_0_wr : World.cell? wr ⟨w.heap.size, 0, none⟩ = some (.int .i64 n.kind) := Blk.cell HB.out 0
            have q0_1_wr : World.cell? wr ⟨w.heap.size, 1, none⟩ = some (.string (⟨n.text.toArray⟩ : ByteArray)) := Blk.cell HB.out 1
            have q0_2_wr : World.cell? wr ⟨w.heap.size, 2, none⟩ = some (.int .i64 n.cols) := Blk.cell HB.out 2
            have q0_3_wr : World.cell? wr ⟨w.heap.size, 3, none⟩ = some (.slice (some ⟨g, o, none⟩) ks.length cap) := Blk.cell HB.out 3
            have B0_wr : Blk wr w.heap.size 24 #[.int .i64 n.kind, .string (⟨n.text.toArray⟩ : ByteArray), .int .i64 n.cols, .slice (some ⟨g, o, none⟩) ks.length cap] := HB.out
            have hlt_w_wr : w.heap.size < wr.heap.size := Blk.lt HB.out
            cases h3 : (x.kind == (1 : Int)) with
            | false =>
              have h3m : (x.kind != (1 : Int)) = true := by rw [bne, h3]; rfl
              cases h4 : (n.kind == (1 : Int)) with
              | false =>
                have h4m : (n.kind != (1 : Int)) = true := by rw [bne, h4]; rfl
                go_wp2_with fail
                go_quiet (fail)
                go_wp2_with fail
                go_ret
                exact ⟨ret_bool' _ _ (by rw [HN0.out, HN.out (by rw [show (x.kind == 1) = false from by assumption, show (n.kind == 1) = false from by assumption]; rfl), Bool.and_false]), (by first | exact HF.out | exact HF.out.alloc _ | exact (HF.out.alloc _).alloc _ | exact ((HF.out.alloc _).alloc _).alloc _ | exact HF.out.drewN _ | exact (HF.out.alloc _).drewN _ | exact ((HF.out.alloc _).alloc _).drewN _)⟩
              | true =>
                have h4m : (n.kind != (1 : Int)) = false := by rw [bne, h4]; rfl
                go_wp2_with fail
                refine forget_world (fun W => Fresh wr W ∧ Blk W (w.heap.size) 24 #[.int .i64 n.kind, .string (⟨n.text.toArray⟩ : ByteArray), .int .i64 n.cols, .slice (some ⟨g, o, none⟩) ks.length cap]) ⟨(by first | exact (Touch.refl _ _) | exact (Touch.refl _ _).alloc _ | exact ((Touch.refl _ _).alloc _).alloc _ | exact (((Touch.refl _ _).alloc _).alloc _).alloc _ | exact (Touch.refl _ _).drewN _ | exact ((Touch.refl _ _).alloc _).drewN _ | exact (((Touch.refl _ _).alloc _).alloc _).drewN _), (by first | exact Blk.new _ _ _ | exact (Blk.new _ _ _).alloc _ | exact Blk.new2 _ _ _ _ | exact ((Blk.new _ _ _).alloc _).alloc _ | exact (Blk.new2 _ _ _ _).alloc _ | exact Blk.new3 _ _ _ _ _ | assumption | exact Blk.alloc (by assumption) _ | exact (Blk.alloc (Blk.alloc (by assumption) _) _))⟩ ?_
                rintro w3 ⟨hfw3, hb0_w3⟩
                have HF3 := hid hfw3
                clear hfw3 q0_0_wr q0_1_wr q0_2_wr q0_3_wr B0_wr
                have r0_0_w3 := cell_regrown (show World.cell? w3 ⟨w.heap.size, 0, none⟩ = some (.int .i64 n.kind) from Blk.cell hb0_w3 0)
                have r0_1_w3 := cell_regrown (show World.cell? w3 ⟨w.heap.size, 1, none⟩ = some (.string (⟨n.text.toArray⟩ : ByteArray)) from Blk.cell hb0_w3 1)
                have r0_2_w3 := cell_regrown (show World.cell? w3 ⟨w.heap.size, 2, none⟩ = some (.int .i64 n.cols) from Blk.cell hb0_w3 2)
                have r0_3_w3 := cell_regrown (show World.cell? w3 ⟨w.heap.size, 3, none⟩ = some (.slice (some ⟨g, o, none⟩) ks.length cap) from Blk.cell hb0_w3 3)
                have xx0_w3 : World.cell? w3 ⟨g, o + j * 4, none⟩ = some (.int .i64 x.kind) := Touch.cell HF3.out xx0_wr (fun h => h)
                have xx1_w3 : World.cell? w3 ⟨g, o + j * 4 + 1, none⟩ = some (.string (⟨x.text.toArray⟩ : ByteArray)) := Touch.cell HF3.out xx1_wr (fun h => h)
                have xx2_w3 : World.cell? w3 ⟨g, o + j * 4 + 2, none⟩ = some (.int .i64 x.cols) := Touch.cell HF3.out xx2_wr (fun h => h)
                have xx3_w3 : World.cell? w3 ⟨g, o + j * 4 + 3, none⟩ = some (sx) := Touch.cell HF3.out xx3_wr (fun h => h)
                clear xx0_wr xx1_wr xx2_wr xx3_wr
                have gxx0_w3 := cell_regrown xx0_w3
                have gxx1_w3 := cell_regrown xx1_w3
                have gxx2_w3 := cell_regrown xx2_w3
                have gxx3_w3 := cell_regrown xx3_w3
                have C0_w3 := hid (calmF (P := Try.prog) w3 (fun w hw => HIH.out x sx _ (by omega) (by omega) (HRK.out.fresh (Touch.trans (HF.out.trans HF3.out) hw)) htx))
                refine wp_region_quiet_below (by kernel_rfl) (by kernel_rfl) ?_
                repeat (quiet_step (first | with_reducible exact C0_w3.out _ _))
                refine wpQuiet_nil ?_
                rintro w4 ⟨⟨_, _⟩, hWw4⟩
                have hfw4 : Fresh w3 w4 := by rw [hWw4]; exact fresh_of_below (below_regrown _ _ _)
                clear hWw4 r0_0_w3 r0_1_w3 r0_2_w3 r0_3_w3 gxx0_w3 gxx1_w3 gxx2_w3 gxx3_w3
                have HF4 := hid (show Fresh w3 w4 from by first | exact hfw4 | exact Touch.pre hfw4 | exact Touch.pre (Touch.pre hfw4) | exact Touch.ofN hfw4 | exact Touch.preN hfw4 | exact Touch.pre (Touch.pre (Touch.pre hfw4)))
                have B0_w4 : Blk w4 (w.heap.size) 24 #[.int .i64 n.kind, .string (⟨n.text.toArray⟩ : ByteArray), .int .i64 n.cols, .slice (some ⟨g, o, none⟩) ks.length cap] := Touch.blk hfw4 (by first | exact Blk.new _ _ _ | exact (Blk.new _ _ _).alloc _ | exact Blk.new2 _ _ _ _ | exact ((Blk.new _ _ _).alloc _).alloc _ | exact (Blk.new2 _ _ _ _).alloc _ | exact Blk.new3 _ _ _ _ _ | assumption | exact Blk.alloc (by assumption) _ | exact (Blk.alloc (Blk.alloc (by assumption) _) _)) (fun h => h)
                clear hb0_w3
                have q0_0_w4 : World.cell? w4 ⟨w.heap.size, 0, none⟩ = some (.int .i64 n.kind) := Blk.cell B0_w4 0
                have q0_1_w4 : World.cell? w4 ⟨w.heap.size, 1, none⟩ = some (.string (⟨n.text.toArray⟩ : ByteArray)) := Blk.cell B0_w4 1
                have q0_2_w4 : World.cell? w4 ⟨w.heap.size, 2, none⟩ = some (.int .i64 n.cols) := Blk.cell B0_w4 2
                have q0_3_w4 : World.cell? w4 ⟨w.heap.size, 3, none⟩ = some (.slice (some ⟨g, o, none⟩) ks.length cap) := Blk.cell B0_w4 3
                have xx0_w4 : World.cell? w4 ⟨g, o + j * 4, none⟩ = some (.int .i64 x.kind) := Touch.cell HF4.out xx0_w3 (fun h => h)
                have xx1_w4 : World.cell? w4 ⟨g, o + j * 4 + 1, none⟩ = some (.string (⟨x.text.toArray⟩ : ByteArray)) := Touch.cell HF4.out xx1_w3 (fun h => h)
                have xx2_w4 : World.cell? w4 ⟨g, o + j * 4 + 2, none⟩ = some (.int .i64 x.cols) := Touch.cell HF4.out xx2_w3 (fun h => h)
                have xx3_w4 : World.cell? w4 ⟨g, o + j * 4 + 3, none⟩ = some (sx) := Touch.cell HF4.out xx3_w3 (fun h => h)
                clear xx0_w3 xx1_w3 xx2_w3 xx3_w3
                clear hfw4
                cases h5 : (Tr.form x) with
                | false =>
                  go_wp2_with fail
                  go_ret
                  exact ⟨ret_bool' _ _ (by rw [HN0.out, HN.out (by rw [show (x.kind == 1) = false from by assumption, show (n.kind == 1) = true from by assumption, show (Tr.form x) = false from by assumption]; rfl), Bool.and_false]), (by first | exact (HF.out.trans (HF3.out.trans HF4.out)) | exact (HF.out.trans (HF3.out.trans HF4.out)).alloc _ | exact ((HF.out.trans (HF3.out.trans HF4.out)).alloc _).alloc _ | exact (((HF.out.trans (HF3.out.trans HF4.out)).alloc _).alloc _).alloc _ | exact (HF.out.trans (HF3.out.trans HF4.out)).drewN _ | exact ((HF.out.trans (HF3.out.trans HF4.out)).alloc _).drewN _ | exact (((HF.out.trans (HF3.out.trans HF4.out)).alloc _).alloc _).drewN _)⟩
                | true =>
                  go_wp2_with fail
                  go_roundw
                  case rel => exact ⟨j + 1, by go_num, c1, by have h : Tr.formL (n.kind == 1) (ks.take (j + 1)) = true := (by rw [HS.out, HA.out, show (x.kind == 1) = false from by assumption, show (n.kind == 1) = true from by assumption, show (Tr.form x) = true from by assumption]; rfl); rw [show (n.kind == 1) = true from by assumption] at h; exact h, B0_w4, (HF.out.trans (HF3.out.trans HF4.out))⟩
                  case measure => simp [intOf]; omega
            | true =>
              have h3m : (x.kind != (1 : Int)) = false := by rw [bne, h3]; rfl
              cases h6 : (n.kind == (1 : Int)) with
              | false =>
                have h6m : (n.kind != (1 : Int)) = true := by rw [bne, h6]; rfl
                go_wp2_with fail
                refine forget_world (fun W => Fresh wr W ∧ Blk W (w.heap.size) 24 #[.int .i64 n.kind, .string (⟨n.text.toArray⟩ : ByteArray), .int .i64 n.cols, .slice (some ⟨g, o, none⟩) ks.length cap]) ⟨(by first | exact (Touch.refl _ _) | exact (Touch.refl _ _).alloc _ | exact ((Touch.refl _ _).alloc _).alloc _ | exact (((Touch.refl _ _).alloc _).alloc _).alloc _ | exact (Touch.refl _ _).drewN _ | exact ((Touch.refl _ _).alloc _).drewN _ | exact (((Touch.refl _ _).alloc _).alloc _).drewN _), (by first | exact Blk.new _ _ _ | exact (Blk.new _ _ _).alloc _ | exact Blk.new2 _ _ _ _ | exact ((Blk.new _ _ _).alloc _).alloc _ | exact (Blk.new2 _ _ _ _).alloc _ | exact Blk.new3 _ _ _ _ _ | assumption | exact Blk.alloc (by assumption) _ | exact (Blk.alloc (Blk.alloc (by assumption) _) _))⟩ ?_
                rintro w5 ⟨hfw5, hb0_w5⟩
                have HF5 := hid hfw5
                clear hfw5 q0_0_wr q0_1_wr q0_2_wr q0_3_wr B0_wr
                have r0_0_w5 := cell_regrown (show World.cell? w5 ⟨w.heap.size, 0, none⟩ = some (.int .i64 n.kind) from Blk.cell hb0_w5 0)
                have r0_1_w5 := cell_regrown (show World.cell? w5 ⟨w.heap.size, 1, none⟩ = some (.string (⟨n.text.toArray⟩ : ByteArray)) from Blk.cell hb0_w5 1)
                have r0_2_w5 := cell_regrown (show World.cell? w5 ⟨w.heap.size, 2, none⟩ = some (.int .i64 n.cols) from Blk.cell hb0_w5 2)
                have r0_3_w5 := cell_regrown (show World.cell? w5 ⟨w.heap.size, 3, none⟩ = some (.slice (some ⟨g, o, none⟩) ks.length cap) from Blk.cell hb0_w5 3)
                have xx0_w5 : World.cell? w5 ⟨g, o + j * 4, none⟩ = some (.int .i64 x.kind) := Touch.cell HF5.out xx0_wr (fun h => h)
                have xx1_w5 : World.cell? w5 ⟨g, o + j * 4 + 1, none⟩ = some (.string (⟨x.text.toArray⟩ : ByteArray)) := Touch.cell HF5.out xx1_wr (fun h => h)
                have xx2_w5 : World.cell? w5 ⟨g, o + j * 4 + 2, none⟩ = some (.int .i64 x.cols) := Touch.cell HF5.out xx2_wr (fun h => h)
                have xx3_w5 : World.cell? w5 ⟨g, o + j * 4 + 3, none⟩ = some (sx) := Touch.cell HF5.out xx3_wr (fun h => h)
                clear xx0_wr xx1_wr xx2_wr xx3_wr
                have gxx0_w5 := cell_regrown xx0_w5
                have gxx1_w5 := cell_regrown xx1_w5
                have gxx2_w5 := cell_regrown xx2_w5
                have gxx3_w5 := cell_regrown xx3_w5
                have C0_w5 := hid (calmF (P := Try.prog) w5 (fun w hw => HIH.out x sx _ (by omega) (by omega) (HRK.out.fresh (Touch.trans (HF.out.trans HF5.out) hw)) htx))
                refine wp_region_quiet_below (by kernel_rfl) (by kernel_rfl) ?_
                repeat (quiet_step (first | with_reducible exact C0_w5.out _ _))
                refine wpQuiet_nil ?_
                rintro w6 ⟨⟨_, _⟩, hWw6⟩
                have hfw6 : Fresh w5 w6 := by rw [hWw6]; exact fresh_of_below (below_regrown _ _ _)
                clear hWw6 r0_0_w5 r0_1_w5 r0_2_w5 r0_3_w5 gxx0_w5 gxx1_w5 gxx2_w5 gxx3_w5
                have HF6 := hid (show Fresh w5 w6 from by first | exact hfw6 | exact Touch.pre hfw6 | exact Touch.pre (Touch.pre hfw6) | exact Touch.ofN hfw6 | exact Touch.preN hfw6 | exact Touch.pre (Touch.pre (Touch.pre hfw6)))
                have B0_w6 : Blk w6 (w.heap.size) 24 #[.int .i64 n.kind, .string (⟨n.text.toArray⟩ : ByteArray), .int .i64 n.cols, .slice (some ⟨g, o, none⟩) ks.length cap] := Touch.blk hfw6 (by first | exact Blk.new _ _ _ | exact (Blk.new _ _ _).alloc _ | exact Blk.new2 _ _ _ _ | exact ((Blk.new _ _ _).alloc _).alloc _ | exact (Blk.new2 _ _ _ _).alloc _ | exact Blk.new3 _ _ _ _ _ | assumption | exact Blk.alloc (by assumption) _ | exact (Blk.alloc (Blk.alloc (by assumption) _) _)) (fun h => h)
                clear hb0_w5
                have q0_0_w6 : World.cell? w6 ⟨w.heap.size, 0, none⟩ = some (.int .i64 n.kind) := Blk.cell B0_w6 0
                have q0_1_w6 : World.cell? w6 ⟨w.heap.size, 1, none⟩ = some (.string (⟨n.text.toArray⟩ : ByteArray)) := Blk.cell B0_w6 1
                have q0_2_w6 : World.cell? w6 ⟨w.heap.size, 2, none⟩ = some (.int .i64 n.cols) := Blk.cell B0_w6 2
                have q0_3_w6 : World.cell? w6 ⟨w.heap.size, 3, none⟩ = some (.slice (some ⟨g, o, none⟩) ks.length cap) := Blk.cell B0_w6 3
                have xx0_w6 : World.cell? w6 ⟨g, o + j * 4, none⟩ = some (.int .i64 x.kind) := Touch.cell HF6.out xx0_w5 (fun h => h)
                have xx1_w6 : World.cell? w6 ⟨g, o + j * 4 + 1, none⟩ = some (.string (⟨x.text.toArray⟩ : ByteArray)) := Touch.cell HF6.out xx1_w5 (fun h => h)
                have xx2_w6 : World.cell? w6 ⟨g, o + j * 4 + 2, none⟩ = some (.int .i64 x.cols) := Touch.cell HF6.out xx2_w5 (fun h => h)
                have xx3_w6 : World.cell? w6 ⟨g, o + j * 4 + 3, none⟩ = some (sx) := Touch.cell HF6.out xx3_w5 (fun h => h)
                clear xx0_w5 xx1_w5 xx2_w5 xx3_w5
                clear hfw6
                cases h7 : (Tr.form x) with
                | false =>
                  go_wp2_with fail
                  go_ret
                  exact ⟨ret_bool' _ _ (by rw [HN0.out, HN.out (by rw [show (x.kind == 1) = true from by assumption, show (n.kind == 1) = false from by assumption, show (Tr.form x) = false from by assumption]; rfl), Bool.and_false]), (by first | exact (HF.out.trans (HF5.out.trans HF6.out)) | exact (HF.out.trans (HF5.out.trans HF6.out)).alloc _ | exact ((HF.out.trans (HF5.out.trans HF6.out)).alloc _).alloc _ | exact (((HF.out.trans (HF5.out.trans HF6.out)).alloc _).alloc _).alloc _ | exact (HF.out.trans (HF5.out.trans HF6.out)).drewN _ | exact ((HF.out.trans (HF5.out.trans HF6.out)).alloc _).drewN _ | exact (((HF.out.trans (HF5.out.trans HF6.out)).alloc _).alloc _).drewN _)⟩
                | true =>
                  go_wp2_with fail
                  go_roundw
                  case rel => exact ⟨j + 1, by go_num, c1, by have h : Tr.formL (n.kind == 1) (ks.take (j + 1)) = true := (by rw [HS.out, HA.out, show (x.kind == 1) = true from by assumption, show (n.kind == 1) = false from by assumption, show (Tr.form x) = true from by assumption]; rfl); rw [show (n.kind == 1) = false from by assumption] at h; exact h, B0_w6, (HF.out.trans (HF5.out.trans HF6.out))⟩
                  case measure => simp [intOf]; omega
              | true =>
                have h6m : (n.kind != (1 : Int)) = false := by rw [bne, h6]; rfl
                go_wp2_with fail
                go_quiet (fail)
                go_wp2_with fail
                go_ret
                exact ⟨ret_bool' _ _ (by rw [HN0.out, HN.out (by rw [show (x.kind == 1) = true from by assumption, show (n.kind == 1) = true from by assumption]; rfl), Bool.and_false]), (by first | exact HF.out | exact HF.out.alloc _ | exact (HF.out.alloc _).alloc _ | exact ((HF.out.alloc _).alloc _).alloc _ | exact HF.out.drewN _ | exact (HF.out.alloc _).drewN _ | exact ((HF.out.alloc _).alloc _).drewN _)⟩
          · have d1 : decide ((j : Int) < (ks.length : Int)) = false := by simp only [decide_eq_false_iff_not]; omega
            have d1n : decide (j < ks.length) = false := by simp only [decide_eq_false_iff_not]; omega
            obtain rfl : j = ks.length := by omega
            have q0_0_wr : World.cell? wr ⟨w.heap.size, 0, none⟩ = some (.int .i64 n.kind) := Blk.cell HB.out 0
            have q0_1_wr : World.cell? wr ⟨w.heap.size, 1, none⟩ = some (.string (⟨n.text.toArray⟩ : ByteArray)) := Blk.cell HB.out 1
            have q0_2_wr : World.cell? wr ⟨w.heap.size, 2, none⟩ = some (.int .i64 n.cols) := Blk.cell HB.out 2
            have q0_3_wr : World.cell? wr ⟨w.heap.size, 3, none⟩ = some (.slice A ks.length cap) := Blk.cell HB.out 3
            have B0_wr : Blk wr w.heap.size 24 #[.int .i64 n.kind, .string (⟨n.text.toArray⟩ : ByteArray), .int .i64 n.cols, .slice A ks.length cap] := HB.out
            have hlt_w_wr : w.heap.size < wr.heap.size := Blk.lt HB.out
            go_wp2_with fail
            go_ret
            exact ⟨ret_bool' _ _ (by have := HA.out; rw [List.take_length] at this; rw [HN0.out, this, show (Tr.textOK n.kind n.text) = true from by assumption, show (Tr.kidsOK n.kind n.cols ks.length) = true from by assumption]; rfl), (by first | exact HF.out | exact HF.out.alloc _ | exact (HF.out.alloc _).alloc _ | exact ((HF.out.alloc _).alloc _).alloc _ | exact HF.out.drewN _ | exact (HF.out.alloc _).drewN _ | exact ((HF.out.alloc _).alloc _).drewN _)⟩

set_option maxRecDepth 100000 in
set_option maxHeartbeats 2000000 in
theorem count_any (m : Nat) : ∀ (n : Tr.Nd) (sl : Value) (w : World), Tr.count n ≤ m → m ≤ 1000000 → RepL w n.kids sl → n.text.length ≤ maxLen →
    Calls Try.prog 34 #[.agg #[.int .i64 n.kind, .string ⟨n.text.toArray⟩, .int .i64 n.cols, sl]] w fun e w' => e = .returned (.int .i64 (Tr.count n)) ∧ Fresh w w' := by
  induction m with
  | zero => intro n _ _ h; have := Tr.count_pos n; omega
  | succ m ih =>
    intro n sl w hc hm hr ht
    obtain ⟨A, cap, rfl⟩ := hr.slice
    have hlen := hr.len
    unfold maxLen at hlen ht
    have HIH := hid ih
    have HR := hid hr
    have HN0 := hid (Tr.count_kids n)
    have hkc : Tr.countL n.kids ≤ m := by have := Tr.count_kids n; omega
    have hkl := Tr.countL_len n.kids
    clear ih hr
    generalize n.kids = ks at *
    go_enter Try.func34, Try.ntmps34
    go_wp2_with fail
    go_loopw [3, 4] (fun c i wr => ∃ j : Nat, c = .int .i64 ((1 + Tr.countL (ks.take j) : Nat) : Int) ∧ i = .int .i64 j ∧ j ≤ ks.length ∧ Hid (Blk wr w.heap.size 24 #[.int .i64 n.kind, .string ⟨n.text.toArray⟩, .int .i64 n.cols, .slice A ks.length cap]) ∧ Hid (Fresh w wr)) (fun _ i _ => ks.length - (intOf i).toNat)
    case atStart => exact ⟨0, by simp [Tr.countL], rfl, Nat.zero_le _, Blk.new _ _ _, (Touch.refl _ _).alloc _⟩
    case round =>
      obtain ⟨j, rfl, rfl, hj, HB, HF⟩ := hrel
      by_cases c1 : j < ks.length
      · have d1 : decide ((j : Int) < (ks.length : Int)) = true := by simp only [decide_eq_true_eq]; omega
        have d1n : decide (j < ks.length) = true := by simp only [decide_eq_true_eq]; omega
        have d1' : (j : Int) < (ks.length : Int) := by omega
        obtain ⟨g, o, sx, rfl, hg, m0, m1, m2, m3, hrk⟩ := HR.out.get j c1
        have htx := HR.out.texts j c1
        have hcm := Tr.count_mem (List.getElem_mem (l := ks) (n := j) c1)
        have HS := hid (Tr.countL_take ks j c1)
        have hct := Tr.countL_le ks j
        have hcs : Tr.countL (ks.take j) + Tr.count ks[j] ≤ Tr.countL ks := by rw [← HS.out]; exact Tr.countL_le ks (j + 1)
        have xx0_wr := Touch.cell HF.out m0 (fun h => h)
        have xx1_wr := Touch.cell HF.out m1 (fun h => h)
        have xx2_wr := Touch.cell HF.out m2 (fun h => h)
        have xx3_wr := Touch.cell HF.out m3 (fun h => h)
        have hgr : g < wr.heap.size := block_lt_of_cell xx0_wr
        have HRK := hid hrk
        clear m0 m1 m2 m3 hrk hg HR
        generalize ks[j] = x at *
        have q0_0_wr : World.cell? wr ⟨w.heap.size, 0, none⟩ = some (.int .i64 n.kind) := Blk.cell HB.out 0
        have q0_1_wr : World.cell? wr ⟨w.heap.size, 1, none⟩ = some (.string (⟨n.text.toArray⟩ : ByteArray)) := Blk.cell HB.out 1
        have q0_2_wr : World.cell? wr ⟨w.heap.size, 2, none⟩ = some (.int .i64 n.cols) := Blk.cell HB.out 2
        have q0_3_wr : World.cell? wr ⟨w.heap.size, 3, none⟩ = some (.slice (some ⟨g, o, none⟩) ks.length cap) := Blk.cell HB.out 3
        have B0_wr : Blk wr w.heap.size 24 #[.int .i64 n.kind, .string (⟨n.text.toArray⟩ : ByteArray), .int .i64 n.cols, .slice (some ⟨g, o, none⟩) ks.length cap] := HB.out
        have hlt_w_wr : w.heap.size < wr.heap.size := Blk.lt HB.out
        go_wp2_with fail
        refine Calls.mono (HIH.out x sx _ (by omega) (by omega) (HRK.out.fresh (by first | exact HF.out | exact HF.out.alloc _ | exact (HF.out.alloc _).alloc _ | exact ((HF.out.alloc _).alloc _).alloc _ | exact HF.out.drewN _ | exact (HF.out.alloc _).drewN _ | exact ((HF.out.alloc _).alloc _).drewN _)) htx) ?_
        rintro _ w1 ⟨rfl, hfw1⟩
        have HF1 := hid (show Fresh wr w1 from by first | exact hfw1 | exact Touch.pre hfw1 | exact Touch.pre (Touch.pre hfw1) | exact Touch.ofN hfw1 | exact Touch.preN hfw1 | exact Touch.pre (Touch.pre (Touch.pre hfw1)))
        have B0_w1 : Blk w1 (w.heap.size) 24 #[.int .i64 n.kind, .string (⟨n.text.toArray⟩ : ByteArray), .int .i64 n.cols, .slice (some ⟨g, o, none⟩) ks.length cap] := Touch.blk hfw1 (by first | exact Blk.new _ _ _ | exact (Blk.new _ _ _).alloc _ | exact Blk.new2 _ _ _ _ | exact ((Blk.new _ _ _).alloc _).alloc _ | exact (Blk.new2 _ _ _ _).alloc _ | exact Blk.new3 _ _ _ _ _ | assumption | exact Blk.alloc (by assumption) _ | exact (Blk.alloc (Blk.alloc (by assumption) _) _)) (fun h => h)
        clear q0_0_wr q0_1_wr q0_2_wr q0_3_wr B0_wr
        have q0_0_w1 : World.cell? w1 ⟨w.heap.size, 0, none⟩ = some (.int .i64 n.kind) := Blk.cell B0_w1 0
        have q0_1_w1 : World.cell? w1 ⟨w.heap.size, 1, none⟩ = some (.string (⟨n.text.toArray⟩ : ByteArray)) := Blk.cell B0_w1 1
        have q0_2_w1 : World.cell? w1 ⟨w.heap.size, 2, none⟩ = some (.int .i64 n.cols) := Blk.cell B0_w1 2
        have q0_3_w1 : World.cell? w1 ⟨w.heap.size, 3, none⟩ = some (.slice (some ⟨g, o, none⟩) ks.length cap) := Blk.cell B0_w1 3
        have xx0_w1 : World.cell? w1 ⟨g, o + j * 4, none⟩ = some (.int .i64 x.kind) := Touch.cell HF1.out xx0_wr (fun h => h)
        have xx1_w1 : World.cell? w1 ⟨g, o + j * 4 + 1, none⟩ = some (.string (⟨x.text.toArray⟩ : ByteArray)) := Touch.cell HF1.out xx1_wr (fun h => h)
        have xx2_w1 : World.cell? w1 ⟨g, o + j * 4 + 2, none⟩ = some (.int .i64 x.cols) := Touch.cell HF1.out xx2_wr (fun h => h)
        have xx3_w1 : World.cell? w1 ⟨g, o + j * 4 + 3, none⟩ = some (sx) := Touch.cell HF1.out xx3_wr (fun h => h)
        clear xx0_wr xx1_wr xx2_wr xx3_wr
        clear hfw1
        go_wp2_with fail
        go_roundw
        case rel => exact ⟨j + 1, by rw [HS.out]; go_num, by go_num, c1, B0_w1, (HF.out.trans HF1.out)⟩
        case measure => simp [intOf]; omega
      · have d1 : decide ((j : Int) < (ks.length : Int)) = false := by simp only [decide_eq_false_iff_not]; omega
        have d1n : decide (j < ks.length) = false := by simp only [decide_eq_false_iff_not]; omega
        obtain rfl : j = ks.length := by omega
        have q0_0_wr : World.cell? wr ⟨w.heap.size, 0, none⟩ = some (.int .i64 n.kind) := Blk.cell HB.out 0
        have q0_1_wr : World.cell? wr ⟨w.heap.size, 1, none⟩ = some (.string (⟨n.text.toArray⟩ : ByteArray)) := Blk.cell HB.out 1
        have q0_2_wr : World.cell? wr ⟨w.heap.size, 2, none⟩ = some (.int .i64 n.cols) := Blk.cell HB.out 2
        have q0_3_wr : World.cell? wr ⟨w.heap.size, 3, none⟩ = some (.slice A ks.length cap) := Blk.cell HB.out 3
        have B0_wr : Blk wr w.heap.size 24 #[.int .i64 n.kind, .string (⟨n.text.toArray⟩ : ByteArray), .int .i64 n.cols, .slice A ks.length cap] := HB.out
        have hlt_w_wr : w.heap.size < wr.heap.size := Blk.lt HB.out
        go_wp2_with fail
        go_ret
        exact ⟨by rw [HN0.out]; first | (have := List.take_length (l := ks); simp_all) | rfl, (by first | exact HF.out | exact HF.out.alloc _ | exact (HF.out.alloc _).alloc _ | exact ((HF.out.alloc _).alloc _).alloc _ | exact HF.out.drewN _ | exact (HF.out.alloc _).drewN _ | exact ((HF.out.alloc _).alloc _).drewN _)⟩

set_option maxRecDepth 100000 in
set_option maxHeartbeats 2000000 in
theorem depth_any (m : Nat) : ∀ (n : Tr.Nd) (sl : Value) (w : World), Tr.count n ≤ m → m ≤ 1000000 → RepL w n.kids sl → n.text.length ≤ maxLen →
    Calls Try.prog 35 #[.agg #[.int .i64 n.kind, .string ⟨n.text.toArray⟩, .int .i64 n.cols, sl]] w fun e w' => e = .returned (.int .i64 (Tr.depth n)) ∧ Fresh w w' := by
  induction m with
  | zero => intro n _ _ h; have := Tr.count_pos n; omega
  | succ m ih =>
    intro n sl w hc hm hr ht
    obtain ⟨A, cap, rfl⟩ := hr.slice
    have hlen := hr.len
    unfold maxLen at hlen ht
    have HIH := hid ih
    have HR := hid hr
    have HN0 := hid (Tr.depth_kids n)
    have hkc : Tr.countL n.kids ≤ m := by have := Tr.count_kids n; omega
    have hkl := Tr.countL_len n.kids
    have hdl := depthL_le n.kids
    clear ih hr
    generalize n.kids = ks at *
    go_enter Try.func35, Try.ntmps35
    go_wp2_with fail
    go_loopw [3, 4] (fun c i wr => ∃ j : Nat, c = .int .i64 ((Tr.depthL (ks.take j) : Nat) : Int) ∧ i = .int .i64 j ∧ j ≤ ks.length ∧ Hid (Blk wr w.heap.size 24 #[.int .i64 n.kind, .string ⟨n.text.toArray⟩, .int .i64 n.cols, .slice A ks.length cap]) ∧ Hid (Fresh w wr)) (fun _ i _ => ks.length - (intOf i).toNat)
    case atStart => exact ⟨0, by simp [Tr.depthL], rfl, Nat.zero_le _, Blk.new _ _ _, (Touch.refl _ _).alloc _⟩
    case round =>
      obtain ⟨j, rfl, rfl, hj, HB, HF⟩ := hrel
      by_cases c1 : j < ks.length
      · have d1 : decide ((j : Int) < (ks.length : Int)) = true := by simp only [decide_eq_true_eq]; omega
        have d1n : decide (j < ks.length) = true := by simp only [decide_eq_true_eq]; omega
        have d1' : (j : Int) < (ks.length : Int) := by omega
        obtain ⟨g, o, sx, rfl, hg, m0, m1, m2, m3, hrk⟩ := HR.out.get j c1
        have htx := HR.out.texts j c1
        have hcm := Tr.count_mem (List.getElem_mem (l := ks) (n := j) c1)
        have HS := hid (depthL_take ks j c1)
        have hdj := depthL_take_le ks j
        have hdx := depth_le ks[j]
        have xx0_wr := Touch.cell HF.out m0 (fun h => h)
        have xx1_wr := Touch.cell HF.out m1 (fun h => h)
        have xx2_wr := Touch.cell HF.out m2 (fun h => h)
        have xx3_wr := Touch.cell HF.out m3 (fun h => h)
        have hgr : g < wr.heap.size := block_lt_of_cell xx0_wr
        have HRK := hid hrk
        clear m0 m1 m2 m3 hrk hg HR
        generalize ks[j] = x at *
        have q0_0_wr : World.cell? wr ⟨w.heap.size, 0, none⟩ = some (.int .i64 n.kind) := Blk.cell HB.out 0
        have q0_1_wr : World.cell? wr ⟨w.heap.size, 1, none⟩ = some (.string (⟨n.text.toArray⟩ : ByteArray)) := Blk.cell HB.out 1
        have q0_2_wr : World.cell? wr ⟨w.heap.size, 2, none⟩ = some (.int .i64 n.cols) := Blk.cell HB.out 2
        have q0_3_wr : World.cell? wr ⟨w.heap.size, 3, none⟩ = some (.slice (some ⟨g, o, none⟩) ks.length cap) := Blk.cell HB.out 3
        have B0_wr : Blk wr w.heap.size 24 #[.int .i64 n.kind, .string (⟨n.text.toArray⟩ : ByteArray), .int .i64 n.cols, .slice (some ⟨g, o, none⟩) ks.length cap] := HB.out
        have hlt_w_wr : w.heap.size < wr.heap.size := Blk.lt HB.out
        go_wp2_with fail
        refine Calls.mono (HIH.out x sx _ (by omega) (by omega) (HRK.out.fresh (by first | exact HF.out | exact HF.out.alloc _ | exact (HF.out.alloc _).alloc _ | exact ((HF.out.alloc _).alloc _).alloc _ | exact HF.out.drewN _ | exact (HF.out.alloc _).drewN _ | exact ((HF.out.alloc _).alloc _).drewN _)) htx) ?_
        rintro _ w1 ⟨rfl, hfw1⟩
        have HF1 := hid (show Fresh wr w1 from by first | exact hfw1 | exact Touch.pre hfw1 | exact Touch.pre (Touch.pre hfw1) | exact Touch.ofN hfw1 | exact Touch.preN hfw1 | exact Touch.pre (Touch.pre (Touch.pre hfw1)))
        have B0_w1 : Blk w1 (w.heap.size) 24 #[.int .i64 n.kind, .string (⟨n.text.toArray⟩ : ByteArray), .int .i64 n.cols, .slice (some ⟨g, o, none⟩) ks.length cap] := Touch.blk hfw1 (by first | exact Blk.new _ _ _ | exact (Blk.new _ _ _).alloc _ | exact Blk.new2 _ _ _ _ | exact ((Blk.new _ _ _).alloc _).alloc _ | exact (Blk.new2 _ _ _ _).alloc _ | exact Blk.new3 _ _ _ _ _ | assumption | exact Blk.alloc (by assumption) _ | exact (Blk.alloc (Blk.alloc (by assumption) _) _)) (fun h => h)
        clear q0_0_wr q0_1_wr q0_2_wr q0_3_wr B0_wr
        have q0_0_w1 : World.cell? w1 ⟨w.heap.size, 0, none⟩ = some (.int .i64 n.kind) := Blk.cell B0_w1 0
        have q0_1_w1 : World.cell? w1 ⟨w.heap.size, 1, none⟩ = some (.string (⟨n.text.toArray⟩ : ByteArray)) := Blk.cell B0_w1 1
        have q0_2_w1 : World.cell? w1 ⟨w.heap.size, 2, none⟩ = some (.int .i64 n.cols) := Blk.cell B0_w1 2
        have q0_3_w1 : World.cell? w1 ⟨w.heap.size, 3, none⟩ = some (.slice (some ⟨g, o, none⟩) ks.length cap) := Blk.cell B0_w1 3
        have xx0_w1 : World.cell? w1 ⟨g, o + j * 4, none⟩ = some (.int .i64 x.kind) := Touch.cell HF1.out xx0_wr (fun h => h)
        have xx1_w1 : World.cell? w1 ⟨g, o + j * 4 + 1, none⟩ = some (.string (⟨x.text.toArray⟩ : ByteArray)) := Touch.cell HF1.out xx1_wr (fun h => h)
        have xx2_w1 : World.cell? w1 ⟨g, o + j * 4 + 2, none⟩ = some (.int .i64 x.cols) := Touch.cell HF1.out xx2_wr (fun h => h)
        have xx3_w1 : World.cell? w1 ⟨g, o + j * 4 + 3, none⟩ = some (sx) := Touch.cell HF1.out xx3_wr (fun h => h)
        clear xx0_wr xx1_wr xx2_wr xx3_wr
        clear hfw1
        go_wp2_with fail
        go_roundw
        case rel => exact ⟨j + 1, by rw [HS.out]; go_num, by go_num, c1, B0_w1, (HF.out.trans HF1.out)⟩
        case measure => simp [intOf]; omega
      · have d1 : decide ((j : Int) < (ks.length : Int)) = false := by simp only [decide_eq_false_iff_not]; omega
        have d1n : decide (j < ks.length) = false := by simp only [decide_eq_false_iff_not]; omega
        obtain rfl : j = ks.length := by omega
        have q0_0_wr : World.cell? wr ⟨w.heap.size, 0, none⟩ = some (.int .i64 n.kind) := Blk.cell HB.out 0
        have q0_1_wr : World.cell? wr ⟨w.heap.size, 1, none⟩ = some (.string (⟨n.text.toArray⟩ : ByteArray)) := Blk.cell HB.out 1
        have q0_2_wr : World.cell? wr ⟨w.heap.size, 2, none⟩ = some (.int .i64 n.cols) := Blk.cell HB.out 2
        have q0_3_wr : World.cell? wr ⟨w.heap.size, 3, none⟩ = some (.slice A ks.length cap) := Blk.cell HB.out 3
        have B0_wr : Blk wr w.heap.size 24 #[.int .i64 n.kind, .string (⟨n.text.toArray⟩ : ByteArray), .int .i64 n.cols, .slice A ks.length cap] := HB.out
        have hlt_w_wr : w.heap.size < wr.heap.size := Blk.lt HB.out
        go_wp2_with fail
        go_ret
        exact ⟨by rw [HN0.out]; first | (have := List.take_length (l := ks); simp_all) | rfl, (by first | exact HF.out | exact HF.out.alloc _ | exact (HF.out.alloc _).alloc _ | exact ((HF.out.alloc _).alloc _).alloc _ | exact HF.out.drewN _ | exact (HF.out.alloc _).drewN _ | exact ((HF.out.alloc _).alloc _).drewN _)⟩
end Go.Proofs.Ytdacpbdamliafaa

/- The walk of the reference's Valid. -/
namespace Go.Proofs.Ytdacpbdamliafaa
open Go.RowKit

set_option maxRecDepth 100000 in
set_option maxHeartbeats 1000000 in
theorem rValid_any (n : Tr.Nd) (sl : Value) (w : World) (hr : RepL w n.kids sl) (ht : n.text.length ≤ maxLen) (hc : Tr.count n ≤ 1000000) :
    Calls Try.prog 17 #[.agg #[.int .i64 n.kind, .string ⟨n.text.toArray⟩, .int .i64 n.cols, sl]] w fun e w' => e = .returned (.bool (Tr.valid n)) ∧ Fresh w w' := by
  have HR := hid hr
  have HV := hid (show Tr.valid n = ((n.kind == 1) && Tr.form n && decide (Tr.count n ≤ 1000) && decide (Tr.depth n ≤ 24)) from rfl)
  have HT := hid ht
  have HC := hid hc
  clear hr ht hc
  go_enter Try.func17, Try.ntmps17
  cases h1 : (n.kind == (1 : Int)) with
  | false =>
    have h1m : (n.kind != (1 : Int)) = true := by rw [bne, h1]; rfl
    go_wp2_with fail
    go_ret
    exact ⟨ret_bool' _ _ (by rw [HV.out, show (n.kind == 1) = false from by assumption]; simp), (by first | exact (Touch.refl _ _) | exact (Touch.refl _ _).alloc _ | exact ((Touch.refl _ _).alloc _).alloc _ | exact (((Touch.refl _ _).alloc _).alloc _).alloc _ | exact (Touch.refl _ _).drewN _ | exact ((Touch.refl _ _).alloc _).drewN _ | exact (((Touch.refl _ _).alloc _).alloc _).drewN _)⟩
  | true =>
    have h1m : (n.kind != (1 : Int)) = false := by rw [bne, h1]; rfl
    go_wp2_with fail
    refine Calls.mono (form_any _ n sl _ (Nat.le_refl _) HC.out (HR.out.fresh (by first | exact (Touch.refl _ _) | exact (Touch.refl _ _).alloc _ | exact ((Touch.refl _ _).alloc _).alloc _ | exact (((Touch.refl _ _).alloc _).alloc _).alloc _ | exact (Touch.refl _ _).drewN _ | exact ((Touch.refl _ _).alloc _).drewN _ | exact (((Touch.refl _ _).alloc _).alloc _).drewN _)) HT.out) ?_
    rintro _ w1 ⟨rfl, hfw1⟩
    have HF1 := hid (show Fresh w w1 from by first | exact hfw1 | exact Touch.pre hfw1 | exact Touch.pre (Touch.pre hfw1) | exact Touch.ofN hfw1 | exact Touch.preN hfw1 | exact Touch.pre (Touch.pre (Touch.pre hfw1)))
    have B0_w1 : Blk w1 (w.heap.size) 24 #[.int .i64 n.kind, .string (⟨n.text.toArray⟩ : ByteArray), .int .i64 n.cols, sl] := Touch.blk hfw1 (by first | exact Blk.new _ _ _ | exact (Blk.new _ _ _).alloc _ | exact Blk.new2 _ _ _ _ | exact ((Blk.new _ _ _).alloc _).alloc _ | exact (Blk.new2 _ _ _ _).alloc _ | exact Blk.new3 _ _ _ _ _ | assumption | exact Blk.alloc (by assumption) _ | exact (Blk.alloc (Blk.alloc (by assumption) _) _)) (fun h => h)
    have q0_0_w1 : World.cell? w1 ⟨w.heap.size, 0, none⟩ = some (.int .i64 n.kind) := Blk.cell B0_w1 0
    have q0_1_w1 : World.cell? w1 ⟨w.heap.size, 1, none⟩ = some (.string (⟨n.text.toArray⟩ : ByteArray)) := Blk.cell B0_w1 1
    have q0_2_w1 : World.cell? w1 ⟨w.heap.size, 2, none⟩ = some (.int .i64 n.cols) := Blk.cell B0_w1 2
    have q0_3_w1 : World.cell? w1 ⟨w.heap.size, 3, none⟩ = some (sl) := Blk.cell B0_w1 3
    clear hfw1
    cases h2 : (Tr.form n) with
    | false =>
      go_wp2_with fail
      go_ret
      exact ⟨ret_bool' _ _ (by rw [HV.out, show (n.kind == 1) = true from by assumption, show (Tr.form n) = false from by assumption]; simp), (by first | exact HF1.out | exact HF1.out.alloc _ | exact (HF1.out.alloc _).alloc _ | exact ((HF1.out.alloc _).alloc _).alloc _ | exact HF1.out.drewN _ | exact (HF1.out.alloc _).drewN _ | exact ((HF1.out.alloc _).alloc _).drewN _)⟩
    | true =>
      go_wp2_with fail
      refine Calls.mono (count_any _ n sl _ (Nat.le_refl _) HC.out (HR.out.fresh (by first | exact HF1.out | exact HF1.out.alloc _ | exact (HF1.out.alloc _).alloc _ | exact ((HF1.out.alloc _).alloc _).alloc _ | exact HF1.out.drewN _ | exact (HF1.out.alloc _).drewN _ | exact ((HF1.out.alloc _).alloc _).drewN _)) HT.out) ?_
      rintro _ w2 ⟨rfl, hfw2⟩
      have HF2 := hid (show Fresh w1 w2 from by first | exact hfw2 | exact Touch.pre hfw2 | exact Touch.pre (Touch.pre hfw2) | exact Touch.ofN hfw2 | exact Touch.preN hfw2 | exact Touch.pre (Touch.pre (Touch.pre hfw2)))
      have B0_w2 : Blk w2 (w.heap.size) 24 #[.int .i64 n.kind, .string (⟨n.text.toArray⟩ : ByteArray), .int .i64 n.cols, sl] := Touch.blk hfw2 (by first | exact Blk.new _ _ _ | exact (Blk.new _ _ _).alloc _ | exact Blk.new2 _ _ _ _ | exact ((Blk.new _ _ _).alloc _).alloc _ | exact (Blk.new2 _ _ _ _).alloc _ | exact Blk.new3 _ _ _ _ _ | assumption | exact Blk.alloc (by assumption) _ | exact (Blk.alloc (Blk.alloc (by assumption) _) _)) (fun h => h)
      clear q0_0_w1 q0_1_w1 q0_2_w1 q0_3_w1 B0_w1
      have q0_0_w2 : World.cell? w2 ⟨w.heap.size, 0, none⟩ = some (.int .i64 n.kind) := Blk.cell B0_w2 0
      have q0_1_w2 : World.cell? w2 ⟨w.heap.size, 1, none⟩ = some (.string (⟨n.text.toArray⟩ : ByteArray)) := Blk.cell B0_w2 1
      have q0_2_w2 : World.cell? w2 ⟨w.heap.size, 2, none⟩ = some (.int .i64 n.cols) := Blk.cell B0_w2 2
      have q0_3_w2 : World.cell? w2 ⟨w.heap.size, 3, none⟩ = some (sl) := Blk.cell B0_w2 3
      clear hfw2
      cases h3 : decide ((Tr.count n : Int) ≤ (1000 : Int)) with
      | false =>
        go_wp2_with fail
        go_ret
        exact ⟨ret_bool' _ _ (by rw [HV.out, show (n.kind == 1) = true from by assumption, show (Tr.form n) = true from by assumption, show decide (Tr.count n ≤ 1000) = false from by have := of_decide_eq_false (by assumption : decide ((Tr.count n : Int) ≤ (1000 : Int)) = false); simp only [decide_eq_false_iff_not]; omega]; simp), (by first | exact (HF1.out.trans HF2.out) | exact (HF1.out.trans HF2.out).alloc _ | exact ((HF1.out.trans HF2.out).alloc _).alloc _ | exact (((HF1.out.trans HF2.out).alloc _).alloc _).alloc _ | exact (HF1.out.trans HF2.out).drewN _ | exact ((HF1.out.trans HF2.out).alloc _).drewN _ | exact (((HF1.out.trans HF2.out).alloc _).alloc _).drewN _)⟩
      | true =>
        go_wp2_with fail
        refine Calls.mono (depth_any _ n sl _ (Nat.le_refl _) HC.out (HR.out.fresh (by first | exact (HF1.out.trans HF2.out) | exact (HF1.out.trans HF2.out).alloc _ | exact ((HF1.out.trans HF2.out).alloc _).alloc _ | exact (((HF1.out.trans HF2.out).alloc _).alloc _).alloc _ | exact (HF1.out.trans HF2.out).drewN _ | exact ((HF1.out.trans HF2.out).alloc _).drewN _ | exact (((HF1.out.trans HF2.out).alloc _).alloc _).drewN _)) HT.out) ?_
        rintro _ w3 ⟨rfl, hfw3⟩
        have HF3 := hid (show Fresh w2 w3 from by first | exact hfw3 | exact Touch.pre hfw3 | exact Touch.pre (Touch.pre hfw3) | exact Touch.ofN hfw3 | exact Touch.preN hfw3 | exact Touch.pre (Touch.pre (Touch.pre hfw3)))
        have B0_w3 : Blk w3 (w.heap.size) 24 #[.int .i64 n.kind, .string (⟨n.text.toArray⟩ : ByteArray), .int .i64 n.cols, sl] := Touch.blk hfw3 (by first | exact Blk.new _ _ _ | exact (Blk.new _ _ _).alloc _ | exact Blk.new2 _ _ _ _ | exact ((Blk.new _ _ _).alloc _).alloc _ | exact (Blk.new2 _ _ _ _).alloc _ | exact Blk.new3 _ _ _ _ _ | assumption | exact Blk.alloc (by assumption) _ | exact (Blk.alloc (Blk.alloc (by assumption) _) _)) (fun h => h)
        clear q0_0_w2 q0_1_w2 q0_2_w2 q0_3_w2 B0_w2
        have q0_0_w3 : World.cell? w3 ⟨w.heap.size, 0, none⟩ = some (.int .i64 n.kind) := Blk.cell B0_w3 0
        have q0_1_w3 : World.cell? w3 ⟨w.heap.size, 1, none⟩ = some (.string (⟨n.text.toArray⟩ : ByteArray)) := Blk.cell B0_w3 1
        have q0_2_w3 : World.cell? w3 ⟨w.heap.size, 2, none⟩ = some (.int .i64 n.cols) := Blk.cell B0_w3 2
        have q0_3_w3 : World.cell? w3 ⟨w.heap.size, 3, none⟩ = some (sl) := Blk.cell B0_w3 3
        clear hfw3
        cases h4 : decide ((Tr.depth n : Int) ≤ (24 : Int)) with
        | false =>
          go_wp2_with fail
          go_ret
          exact ⟨ret_bool' _ _ (by rw [HV.out, show (n.kind == 1) = true from by assumption, show (Tr.form n) = true from by assumption, show decide (Tr.count n ≤ 1000) = true from by have := of_decide_eq_true (by assumption : decide ((Tr.count n : Int) ≤ (1000 : Int)) = true); simp only [decide_eq_true_eq]; omega, show decide (Tr.depth n ≤ 24) = false from by have := of_decide_eq_false (by assumption : decide ((Tr.depth n : Int) ≤ (24 : Int)) = false); simp only [decide_eq_false_iff_not]; omega]; rfl), (by first | exact (HF1.out.trans (HF2.out.trans HF3.out)) | exact (HF1.out.trans (HF2.out.trans HF3.out)).alloc _ | exact ((HF1.out.trans (HF2.out.trans HF3.out)).alloc _).alloc _ | exact (((HF1.out.trans (HF2.out.trans HF3.out)).alloc _).alloc _).alloc _ | exact (HF1.out.trans (HF2.out.trans HF3.out)).drewN _ | exact ((HF1.out.trans (HF2.out.trans HF3.out)).alloc _).drewN _ | exact (((HF1.out.trans (HF2.out.trans HF3.out)).alloc _).alloc _).drewN _)⟩
        | true =>
          go_wp2_with fail
          go_ret
          exact ⟨ret_bool' _ _ (by rw [HV.out, show (n.kind == 1) = true from by assumption, show (Tr.form n) = true from by assumption, show decide (Tr.count n ≤ 1000) = true from by have := of_decide_eq_true (by assumption : decide ((Tr.count n : Int) ≤ (1000 : Int)) = true); simp only [decide_eq_true_eq]; omega, show decide (Tr.depth n ≤ 24) = true from by have := of_decide_eq_true (by assumption : decide ((Tr.depth n : Int) ≤ (24 : Int)) = true); simp only [decide_eq_true_eq]; omega]; rfl), (by first | exact (HF1.out.trans (HF2.out.trans HF3.out)) | exact (HF1.out.trans (HF2.out.trans HF3.out)).alloc _ | exact ((HF1.out.trans (HF2.out.trans HF3.out)).alloc _).alloc _ | exact (((HF1.out.trans (HF2.out.trans HF3.out)).alloc _).alloc _).alloc _ | exact (HF1.out.trans (HF2.out.trans HF3.out)).drewN _ | exact ((HF1.out.trans (HF2.out.trans HF3.out)).alloc _).drewN _ | exact (((HF1.out.trans (HF2.out.trans HF3.out)).alloc _).alloc _).drewN _)⟩
end Go.Proofs.Ytdacpbdamliafaa

/- The law SpanOrder. -/
namespace Go.Proofs.Ytdacpbdamliafaa
open Go.RowKit
open Tr (Nd)

/-- What the reference's All returns. -/
def AllsOf (n : Nd) (w : World) (e : Ending) (w' : World) : Prop :=
  ∃ v cs, e = .returned (.tuple #[v, .int .i64 (printE n)]) ∧ Fresh w w' ∧ (Tr.valid n = true → w'.ownsRow w.heap.size 31 1 v (allP n.kids [] 0).length cs ∧ PthsAt w.heap.size v.ownBlock w' (allP n.kids [] 0) cs)
set_option maxRecDepth 100000 in
set_option maxHeartbeats 400000 in
theorem rAll_any (n : Nd) (sl : Value) (w : World) (hr : RepL w n.kids sl) (ht : n.text.length ≤ maxLen) (hc : Tr.count n ≤ 800) :
    Calls Try.prog 7 #[nv n sl] w (AllsOf n w) := by
  obtain ⟨A, cap, rfl⟩ := hr.slice
  have HR := hid hr
  have HC := hid hc
  clear hr hc
  cases hv : Tr.valid n with
  | false =>
    have HE := hid (show printE n = 1 from by unfold printE; rw [hv]; rfl)
    go_enter Try.func7, Try.ntmps7
    go_wp2_with fail
    refine (rValid_any n _ _ (HR.out.fresh ((Touch.refl _ _).alloc _)) ht (by have := HC.out; omega)).mono ?_
    rintro _ w1 ⟨rfl, hf⟩
    have HF := hid (show Fresh w w1 from Touch.pre hf)
    clear hf
    go_wp2_with fail
    go_ret2
    exact ⟨.slice none 0 0, [], by rw [HE.out]; rfl, HF.out, fun h => by rw [hv] at h; cases h⟩
  | true =>
    have HE := hid (show printE n = 0 from by unfold printE; rw [hv]; rfl)
    go_enter Try.func7, Try.ntmps7
    go_wp2_with fail
    refine (rValid_any n _ _ (HR.out.fresh ((Touch.refl _ _).alloc _)) ht (by have := HC.out; omega)).mono ?_
    rintro _ w1 ⟨rfl, hf⟩
    have HF := hid (show Fresh w w1 from Touch.pre hf)
    obtain ⟨q0, q1, q2, q3, _⟩ := Blk.four (hf.blk (Blk.new w 24 #[.int .i64 n.kind, .string (⟨n.text.toArray⟩ : ByteArray), .int .i64 n.cols, .slice A n.kids.length cap]) (fun h => h))
    clear hf
    go_wp2_with fail
    refine (all_any (Tr.count n) n _ _ [] _ (Nat.le_refl _) HC.out (HR.out.fresh HF.out) (Ints.nil _ _ _) (by have := HC.out; simp; omega)).mono ?_
    rintro _ w2 ⟨v, cs, rfl, ho, hps, hf2⟩
    have HO := hid ho
    have HPS := hid hps
    have HF2 := hid (HF.out.trans hf2)
    have HSZ := hid HF.out.size
    obtain ⟨Av, cv, rfl⟩ := owns_slice ho
    clear ho hps hf2 q0 q1 q2 q3
    go_wp2_with fail
    go_ret2
    exact ⟨_, cs, by rw [HE.out]; rfl, HF2.out, fun _ => ⟨ownsRow_low HO.out HSZ.out, HPS.out.mv (Touch.refl _ _) (fun _ h => .inl h) HSZ.out⟩⟩

set_option maxRecDepth 100000 in
set_option maxHeartbeats 400000 in
theorem sorder_any (n : Nd) (sl : Value) (w : World) (hsl : RepL w n.kids sl) (ht : n.text.length ≤ maxLen) :
    Calls Try.prog 3 #[nv n sl] w fun e w' => e = .returned (.bool true) ∧ Fresh w w' := by
  obtain ⟨A, cap, rfl⟩ := hsl.slice
  have HSL := hid hsl
  clear hsl
  go_enter Try.func3, Try.ntmps3
  go_wp2_with fail
  refine (awake22_any _).mono ?_
  rintro _ w1 ⟨rfl, hf1⟩
  have HF1 := hid (show Fresh w w1 from Touch.pre hf1)
  have hb1 := hf1.blk (Blk.new w 24 #[.int .i64 n.kind, .string (⟨n.text.toArray⟩ : ByteArray), .int .i64 n.cols, .slice A n.kids.length cap]) (fun h => h)
  have HB1 := hid hb1
  obtain ⟨q0, q1, q2, q3, _⟩ := Blk.four hb1
  clear hf1 hb1
  go_wp2_with fail
  refine (few22_any n _ _ (HSL.out.fresh HF1.out)).mono ?_
  rintro _ w2 ⟨rfl, hf2⟩
  have HF2 := hid (HF1.out.trans hf2)
  have HB2 := hid (hf2.blk HB1.out (fun h => h))
  replace q0 := hf2.cell q0 (fun h => h)
  replace q1 := hf2.cell q1 (fun h => h)
  replace q2 := hf2.cell q2 (fun h => h)
  replace q3 := hf2.cell q3 (fun h => h)
  clear hf2
  cases hcc : decide ((Tr.count n : Int) ≤ 60) with
  | false =>
    go_wp2_with fail
    refine (awake22_any _).mono ?_
    rintro _ w3 ⟨rfl, hf3⟩
    have HF3 := hid (HF2.out.trans hf3)
    clear hf3 q0 q1 q2 q3
    go_wp2_with fail
    go_ret
    exact ⟨rfl, HF3.out⟩
  | true =>
    have HC := hid (show Tr.count n ≤ 60 from by simp at hcc; omega)
    go_wp2_with fail
    refine (rAll_any n _ _ (HSL.out.fresh HF2.out) ht (by have := HC.out; omega)).mono ?_
    rintro _ w3 ⟨v, cs, rfl, hf3, hvv⟩
    have HF3 := hid (HF2.out.trans hf3)
    have HB3 := hid (hf3.blk HB2.out (fun h => h))
    clear hf3 q0 q1 q2 q3
    cases hv : Tr.valid n with
    | false =>
      have HE : printE n = 1 := by unfold printE; rw [hv]; rfl
      rw [HE]
      go_wp2_with fail
      go_ret
      exact ⟨rfl, HF3.out⟩
    | true =>
      have HE : printE n = 0 := by unfold printE; rw [hv]; rfl
      rw [HE]
      obtain ⟨ho, hps⟩ := hvv hv
      have HV := hid hv
      have HO := hid ho
      have HPS := hid hps
      have hlen : (allP n.kids [] 0).length = (posL n).length := by rw [← posL_all, List.length_map]
      rw [hlen] at ho
      have hl60 : (posL n).length ≤ 60 := by
        rw [← hlen, allP_len]
        have := HC.out
        have := Tr.count_kids n
        omega
      obtain ⟨Av, cv, rfl⟩ := owns_slice ho
      have HO := hid ho
      clear ho hps hvv
      have HLEN := hid hlen
      clear hlen hv HE
      go_wp2_with fail
      go_loopw [5, 33] (fun o i wr => ∃ j : Nat, i = .int .i64 j ∧ o = .int .i64 (lastAt (posL n) j : Nat) ∧ j ≤ (posL n).length ∧ Hid (Fresh w3 wr)) (fun o i _ => (posL n).length - (intOf i).toNat)
      case atStart => exact ⟨0, rfl, rfl, Nat.zero_le _, Touch.refl _ _⟩
      case round =>
        obtain ⟨j, rfl, rfl, hj, HFR⟩ := hrel
        by_cases c1 : j < (posL n).length
        · have d1 : decide ((j : Int) < ((posL n).length : Int)) = true := by simp; omega
          have d1' : (j : Int) < ((posL n).length : Int) := by omega
          obtain ⟨pv, x0, x1⟩ := HPS.out.get j (by rw [HLEN.out]; exact c1)
          have hx : (allP n.kids [] 0)[j]'(by rw [HLEN.out]; exact c1) = (posL n)[j].1 := by simp [← posL_all]
          rw [hx] at x1
          have hmem : (posL n)[j] ∈ posL n := List.getElem_mem c1
          have hlast := lastAt_le (posL n) (pos_up n HV.out) j c1
          have hsucc := lastAt_succ (posL n) j c1
          generalize (posL n)[j] = X at x1 hmem hlast hsucc
          clear hx
          obtain ⟨p, v⟩ := X
          replace x1 : PthAt w2.heap.size (Value.slice Av (posL n).length cv).ownBlock w3 pv p := x1
          obtain ⟨Ap, cp, hpe, hp1, hp2⟩ : Roomy pv p.length := by have := x1.ints.room; rwa [List.length_map] at this
          have HPI := hid x1.ints
          have hpl : (up p).length ≤ maxLen := by rw [List.length_map]; omega
          have HPL := hid hpl
          have HOFF := hid (off_hit n HV.out hmem)
          have HAT := hid (at_pos n HV.out hmem)
          have HOFQ := hid (off_hit n HV.out HAT.out.2.1)
          have HQL := hid (show (up (atP n v)).length ≤ maxLen from by
            have hm : atP n v ∈ allP n.kids [] 0 := by rw [← posL_all]; exact List.mem_map.2 ⟨_, HAT.out.2.1, rfl⟩
            obtain ⟨t, ht1, ht2⟩ := List.getElem_of_mem hm
            obtain ⟨_, _, y1⟩ := HPS.out.get t ht1
            rw [ht2] at y1
            obtain ⟨_, _, _, z1, z2⟩ := y1.ints.room
            exact Nat.le_trans z1 z2)
          have HSUCC := hid (show lastAt (posL n) (j + 1) = v from hsucc)
          have HLE := hid (show (lastAt (posL n) j : Int) ≤ (v : Int) from by have : lastAt (posL n) j ≤ v := hlast; omega)
          subst hpe
          clear hmem hlast hsucc x1 hpl hp1 hp2
          obtain ⟨g, cap', hve⟩ : ∃ g cap', Value.slice Av (posL n).length cv = .slice (some ⟨g, 0, none⟩) (posL n).length cap' := by
            rcases HO.out.2 with ⟨_, h2⟩ | ⟨g', cap, cur, h1, h2, _⟩
            · omega
            · exact ⟨g', cap, h1⟩
          cases hve
          have a0 := HFR.out.cell ((HO.out.cellAt j (by omega)).trans x0) (fun h => h)
          obtain ⟨q0, q1, q2, q3, _⟩ := Blk.four (HFR.out.blk HB3.out (fun h => h))
          go_wp2_with fail
          refine (offset_any n _ _ (up p) _ (HSL.out.fresh (HF3.out.trans HFR.out)) ht (by have := HC.out; omega) (HPI.out.ints.fresh HFR.out) HPL.out).mono ?_
          rw [HOFF.out]
          rintro _ w4 ⟨rfl, hf4⟩
          have HF4 := hid (HFR.out.trans hf4)
          obtain ⟨q0, q1, q2, q3, _⟩ := Blk.four (HF4.out.blk HB3.out (fun h => h))
          clear hf4 a0
          go_wp2_with fail
          refine (at_any n _ (v : Int) _ (HSL.out.fresh (HF3.out.trans HF4.out)) ht (by have := HC.out; omega)).mono ?_
          rintro _ w5 ⟨qv, rfl, hqi, hf5⟩
          rw [HAT.out.1]
          have HQI := hid hqi
          have HF5 := hid (HF4.out.trans hf5)
          obtain ⟨q0, q1, q2, q3, _⟩ := Blk.four (HF5.out.blk HB3.out (fun h => h))
          obtain ⟨Aq, cq, rfl⟩ : ∃ A c, qv = .slice A (atP n v).length c := by have := hqi.slice; rwa [List.length_map] at this
          clear hqi hf5
          go_wp2_with fail
          refine (offset_any n _ _ (up (atP n v)) _ (HSL.out.fresh (HF3.out.trans HF5.out)) ht (by have := HC.out; omega) HQI.out HQL.out).mono ?_
          rw [HOFQ.out]
          rintro _ w6 ⟨rfl, hf6⟩
          have HF6 := hid (HF5.out.trans hf6)
          have HQI6 := hid (HQI.out.fresh hf6)
          clear hf6 q0 q1 q2 q3
          generalize hl : ((lastAt (posL n) j : Nat) : Int) = LA at *
          have i1 : decide ((v : Int) < LA) = false := by have := HLE.out; simp; omega
          go_wp2_with fail
          refine (rcompare_ints (up (atP n v)) (up p) _ _ _ HQI6.out (HPI.out.ints.fresh HF6.out) HQL.out HPL.out).mono ?_
          rw [cmpI_up]
          rintro _ w7 ⟨rfl, hf7⟩
          have HF7 := hid (HF6.out.trans hf7)
          have i2 : decide (0 < Tr.cmp (atP n v) p) = false := by have := HAT.out.2.2; simp; omega
          clear hf7
          go_wp2_with fail
          go_roundw
          case rel => exact ⟨j + 1, by first | go_num | simp, by rw [HSUCC.out], by omega, HF7⟩
          case measure => first | (simp [intOf]; omega) | (simp [intOf]; done)
        · have d1 : decide ((j : Int) < ((posL n).length : Int)) = false := by simp; omega
          obtain rfl : j = (posL n).length := by omega
          obtain ⟨q0, q1, q2, q3, _⟩ := Blk.four (HFR.out.blk HB3.out (fun h => h))
          have hend := lastAt_end n HV.out
          have HEND := hid hend
          rw [hend]
          clear hend
          have HE := hid (show printE n = 0 from by unfold printE; rw [HV.out]; rfl)
          go_wp2_with fail
          refine (print_any n _ _ (HSL.out.fresh (HF3.out.trans HFR.out)) ht (by have := HC.out; omega)).mono ?_
          rw [HE.out]
          rintro _ w4 ⟨rfl, hf4⟩
          have HF4 := hid (HFR.out.trans hf4)
          have hsz : (⟨(printS n).toArray⟩ : ByteArray).size = (printS n).length := by simp [ByteArray.size]
          clear hf4
          go_wp2_with fail
          go_ret
          exact ⟨ret_bool' _ _ (by simp), HF3.out.trans HF4.out⟩
end Go.Proofs.Ytdacpbdamliafaa

/- The statement SpanOrder: for all trees the law returns true, and the tree reads as it did. No condition. -/
namespace Go.Proofs.Ytdacpbdamliafaa
open Go.ChangeShapes Go.WideShapes Go.ChangeAt Go.RowKit
open Tr (Nd)

set_option maxRecDepth 100000 in
theorem spanOrder_lifted (os : Os) (started : os.Started) (H : Type) (enc : TypeId × Value → H) :
    ReturnsInHanded {} Try.checked os 3 .any (Rows.spanOrderSpec.pre6 enc Try.prog Try.f3 Rows.spanOrderRow.domain false) (Rows.spanOrderSpec.post enc Try.prog Try.f3 false true false false) := by
  refine returnsInHanded_of_change (C := Try.checked) Try.ownKnob started (by kernel_rfl) Try.func3
    (ChangeSpec.witness6 (enc := enc) (C := Try.checked) false ⟨#[], #[.agg #[.int .i64 0, .string ⟨#[]⟩, .int .i64 0, .slice none 0 0]], []⟩ 8 (by kernel_rfl) (by kernel_rfl) (by kernel_rfl) (by kernel_rfl)) ?_
  intro W base args ds gs before hval0 hW hcnd _
  have hval : ∀ (j : Nat) t v, Try.f3.params[j]? = some t → args[j]? = some v → Value.okWide Try.prog W .any base t v := hval0
  have hW' := hW
  obtain ⟨p, q, hA0, hV, rfl, hfz, hnd⟩ := hW
  have hA : DataW.TrodAll enc Try.prog W 0 (fun _ => true) true Try.f3.params.toList args.toList ds p := hA0
  rw [Try.params3] at hA hval
  obtain ⟨v0, d0, rfl, rfl, h0⟩ := trodAll_one hA
  obtain ⟨rfl, rfl⟩ := trodVars_none hV
  obtain ⟨a, ⟨sa, rfl, ra⟩, ta⟩ := open_node (hval 0 24 v0 rfl rfl) h0
  refine (sorder_any a sa W ra ta).mono fun e W' ⟨he, hw⟩ => ?_
  exact ⟨_, he, post_true Try.laidOut Try.underlying4 (by kernel_rfl) (by kernel_rfl) rfl rfl hW' hw⟩

theorem SpanOrder_holds : Rows.SpanOrderSaid :=
  OpenClaim.holds_of_wide 3 Try.f3 rfl rfl rfl rfl rfl rfl rfl ⟨rfl, rfl, rfl, rfl, rfl⟩ rfl rfl rfl rfl rfl (by kernel_rfl) Try.func3 (by kernel_rfl)
    (of_decide_eq_true (by kernel_rfl)) (by unfold Func.isWrapper; first | (rw [if_pos (by decide +kernel)]; kernel_rfl) | (rw [if_neg (by decide +kernel)]; exact ⟨rfl, rfl⟩))
    (fun os started H enc _ => spanOrder_lifted os started H enc)
end Go.Proofs.Ytdacpbdamliafaa
