/- Part 10 of 11 of a proof; its texts, joined: NdO, NdP, TrS, App, PrX. No condition. -/
import Derived.Test.YtilgpmpiidccjaaPp9
import Derived.Test.YtilgpmpiidccjaaPp1
import Derived.Maps.AppendAt
import Derived.Deep.RegionLaw
import Derived.Deep.RegionHeld3
import Derived.Deep.DeepCutAuto
import Derived.Test.YtilgpmpiidccjaaPp8

/- The walks of the reference's form, Count, Depth and Valid. -/
namespace Go.Proofs.Ytilgpmpiidccjaa
open Go.RowKit

theorem depthL_take (l : List Tr.Nd) (i : Nat) (h : i < l.length) : Tr.depthL (l.take (i + 1)) = max (Tr.depthL (l.take i)) (Tr.depth l[i]) := by
  induction l generalizing i with
  | nil => simp at h
  | cons x l ih =>
    cases i with
    | zero => simp [Tr.depthL]
    | succ i =>
      simp only [List.take_succ_cons, Tr.depthL, List.getElem_cons_succ]
      rw [ih i (by simpa using h)]; omega
theorem depth_le (n : Tr.Nd) : Tr.depth n ≤ Tr.count n := by
  induction n using Tr.Nd.ind with
  | h n ih =>
    have hL : ∀ l : List Tr.Nd, (∀ x ∈ l, Tr.depth x ≤ Tr.count x) → Tr.depthL l ≤ Tr.countL l := by
      intro l
      induction l with
      | nil => intro _; simp [Tr.depthL]
      | cons x l ihl =>
        intro h
        rw [Tr.depthL, Tr.countL]
        have h1 := h x (by simp)
        have h2 := ihl fun y hy => h y (by simp [hy])
        omega
    rw [Tr.depth_kids, Tr.count_kids]
    have := hL n.kids ih
    omega
theorem depthL_le (l : List Tr.Nd) : Tr.depthL l ≤ Tr.countL l := by
  induction l with
  | nil => simp [Tr.depthL]
  | cons x l ihl =>
    rw [Tr.depthL, Tr.countL]
    have h1 := depth_le x
    omega
theorem depthL_take_le (l : List Tr.Nd) (j : Nat) : Tr.depthL (l.take j) ≤ Tr.countL l := Nat.le_trans (depthL_le _) (Tr.countL_le l j)


set_option maxRecDepth 100000 in
set_option maxHeartbeats 2000000 in
theorem form_any (m : Nat) : ∀ (n : Tr.Nd) (sl : Value) (w : World), Tr.count n ≤ m → m ≤ 1000000 → RepL w n.kids sl → n.text.length ≤ maxLen →
    Calls Try.prog 39 #[.agg #[.int .i64 n.kind, .string ⟨n.text.toArray⟩, .int .i64 n.cols, sl]] w fun e w' => e = .returned (.bool (Tr.form n)) ∧ Fresh w w' := by
  induction m with
  | zero => intro n _ _ h; have := Tr.count_pos n; omega
  | succ m ih =>
    intro n sl w hc hm hr ht
    obtain ⟨A, cap, rfl⟩ := hr.slice
    have hlen := hr.len
    unfold maxLen at hlen ht
    have HIH := hid ih
    have HR := hid hr
    have HN0 := hid (Tr.form_eq n)
    have hkc : Tr.countL n.kids ≤ m := by have := Tr.count_kids n; omega
    have hkl := Tr.countL_len n.kids
    clear ih hr
    generalize n.kids = ks at *
    go_enter Try.func39, Try.ntmps39
    go_wp2_with fail
    refine Calls.mono (text_any _ n.text _ _ _ (by omega)) ?_
    rintro _ w1 ⟨rfl, hfw1⟩
    have HF1 := hid (show Fresh w w1 from by first | exact hfw1 | exact Touch.pre hfw1 | exact Touch.pre (Touch.pre hfw1) | exact Touch.ofN hfw1 | exact Touch.preN hfw1 | exact Touch.pre (Touch.pre (Touch.pre hfw1)))
    have B0_w1 : Blk w1 (w.heap.size) 24 #[.int .i64 n.kind, .string (⟨n.text.toArray⟩ : ByteArray), .int .i64 n.cols, .slice A ks.length cap] := Touch.blk hfw1 (by first | exact Blk.new _ _ _ | exact (Blk.new _ _ _).alloc _ | exact Blk.new2 _ _ _ _ | exact ((Blk.new _ _ _).alloc _).alloc _ | exact (Blk.new2 _ _ _ _).alloc _ | exact Blk.new3 _ _ _ _ _ | assumption | exact Blk.alloc (by assumption) _ | exact (Blk.alloc (Blk.alloc (by assumption) _) _)) (fun h => h)
    have q0_0_w1 : World.cell? w1 ⟨w.heap.size, 0, none⟩ = some (.int .i64 n.kind) := Blk.cell B0_w1 0
    have q0_1_w1 : World.cell? w1 ⟨w.heap.size, 1, none⟩ = some (.string (⟨n.text.toArray⟩ : ByteArray)) := Blk.cell B0_w1 1
    have q0_2_w1 : World.cell? w1 ⟨w.heap.size, 2, none⟩ = some (.int .i64 n.cols) := Blk.cell B0_w1 2
    have q0_3_w1 : World.cell? w1 ⟨w.heap.size, 3, none⟩ = some (.slice A ks.length cap) := Blk.cell B0_w1 3
    clear hfw1
    cases h1 : (Tr.textOK n.kind n.text) with
    | false =>
      go_wp2_with fail
      go_ret
      exact ⟨ret_bool' _ _ (by rw [HN0.out, show (Tr.textOK n.kind n.text) = false from by assumption]; rfl), (by first | exact HF1.out | exact HF1.out.alloc _ | exact (HF1.out.alloc _).alloc _ | exact ((HF1.out.alloc _).alloc _).alloc _ | exact HF1.out.drewN _ | exact (HF1.out.alloc _).drewN _ | exact ((HF1.out.alloc _).alloc _).drewN _)⟩
    | true =>
      go_wp2_with fail
      refine Calls.mono (kids_any _ _ ks.length _ _ _ _ (by omega)) ?_
      rintro _ w2 ⟨rfl, hfw2⟩
      have HF2 := hid (show Fresh w1 w2 from by first | exact hfw2 | exact Touch.pre hfw2 | exact Touch.pre (Touch.pre hfw2) | exact Touch.ofN hfw2 | exact Touch.preN hfw2 | exact Touch.pre (Touch.pre (Touch.pre hfw2)))
      have B0_w2 : Blk w2 (w.heap.size) 24 #[.int .i64 n.kind, .string (⟨n.text.toArray⟩ : ByteArray), .int .i64 n.cols, .slice A ks.length cap] := Touch.blk hfw2 (by first | exact Blk.new _ _ _ | exact (Blk.new _ _ _).alloc _ | exact Blk.new2 _ _ _ _ | exact ((Blk.new _ _ _).alloc _).alloc _ | exact (Blk.new2 _ _ _ _).alloc _ | exact Blk.new3 _ _ _ _ _ | assumption | exact Blk.alloc (by assumption) _ | exact (Blk.alloc (Blk.alloc (by assumption) _) _)) (fun h => h)
      clear q0_0_w1 q0_1_w1 q0_2_w1 q0_3_w1 B0_w1
      have q0_0_w2 : World.cell? w2 ⟨w.heap.size, 0, none⟩ = some (.int .i64 n.kind) := Blk.cell B0_w2 0
      have q0_1_w2 : World.cell? w2 ⟨w.heap.size, 1, none⟩ = some (.string (⟨n.text.toArray⟩ : ByteArray)) := Blk.cell B0_w2 1
      have q0_2_w2 : World.cell? w2 ⟨w.heap.size, 2, none⟩ = some (.int .i64 n.cols) := Blk.cell B0_w2 2
      have q0_3_w2 : World.cell? w2 ⟨w.heap.size, 3, none⟩ = some (.slice A ks.length cap) := Blk.cell B0_w2 3
      clear hfw2
      cases h2 : (Tr.kidsOK n.kind n.cols ks.length) with
      | false =>
        go_wp2_with fail
        go_ret
        exact ⟨ret_bool' _ _ (by rw [HN0.out, show (Tr.textOK n.kind n.text) = true from by assumption, show (Tr.kidsOK n.kind n.cols ks.length) = false from by assumption]; rfl), (by first | exact (HF1.out.trans HF2.out) | exact (HF1.out.trans HF2.out).alloc _ | exact ((HF1.out.trans HF2.out).alloc _).alloc _ | exact (((HF1.out.trans HF2.out).alloc _).alloc _).alloc _ | exact (HF1.out.trans HF2.out).drewN _ | exact ((HF1.out.trans HF2.out).alloc _).drewN _ | exact (((HF1.out.trans HF2.out).alloc _).alloc _).drewN _)⟩
      | true =>
        go_wp2_with fail
        go_loopw [3] (fun i wr => ∃ j : Nat, i = .int .i64 j ∧ j ≤ ks.length ∧ Hid (Tr.formL (n.kind == 1) (ks.take j) = true) ∧ Hid (Blk wr w.heap.size 24 #[.int .i64 n.kind, .string ⟨n.text.toArray⟩, .int .i64 n.cols, .slice A ks.length cap]) ∧ Hid (Fresh w wr)) (fun i _ => ks.length - (intOf i).toNat)
        case atStart => exact ⟨0, rfl, Nat.zero_le _, by simp [Tr.formL, Hid], by assumption, HF1.out.trans HF2.out⟩
        case round =>
          obtain ⟨j, rfl, hj, HA, HB, HF⟩ := hrel
          by_cases c1 : j < ks.length
          · have d1 : decide ((j : Int) < (ks.length : Int)) = true := by simp only [decide_eq_true_eq]; omega
            have d1n : decide (j < ks.length) = true := by simp only [decide_eq_true_eq]; omega
            have d1' : (j : Int) < (ks.length : Int) := by omega
            obtain ⟨g, o, sx, rfl, hg, m0, m1, m2, m3, hrk⟩ := HR.out.get j c1
            have htx := HR.out.texts j c1
            have hcm := Tr.count_mem (List.getElem_mem (l := ks) (n := j) c1)
            have HS := hid (Tr.formL_take (n.kind == 1) ks j c1)
            have HN := hid (Tr.formL_no (n.kind == 1) ks j c1)
            have xx0_wr := Touch.cell HF.out m0 (fun h => h)
            have xx1_wr := Touch.cell HF.out m1 (fun h => h)
            have xx2_wr := Touch.cell HF.out m2 (fun h => h)
            have xx3_wr := Touch.cell HF.out m3 (fun h => h)
            have hgr : g < wr.heap.size := block_lt_of_cell xx0_wr
            have HRK := hid hrk
            clear m0 m1 m2 m3 hrk hg HR
            generalize ks[j] = x at *
            have q0_0_wr : World.cell? wr ⟨w.heap.size, 0, none⟩ = some (.int .i64 n.kind) := Blk.cell HB.out 0
            have q0_1_wr : World.cell? wr ⟨w.heap.size, 1, none⟩ = some (.string (⟨n.text.toArray⟩ : ByteArray)) := Blk.cell HB.out 1
            have q0_2_wr : World.cell? wr ⟨w.heap.size, 2, none⟩ = some (.int .i64 n.cols) := Blk.cell HB.out 2
            have q0_3_wr : World.cell? wr ⟨w.heap.size, 3, none⟩ = some (.slice (some ⟨g, o, none⟩) ks.length cap) := Blk.cell HB.out 3
            have B0_wr : Blk wr w.heap.size 24 #[.int .i64 n.kind, .string (⟨n.text.toArray⟩ : ByteArray), .int .i64 n.cols, .slice (some ⟨g, o, none⟩) ks.length cap] := HB.out
            have hlt_w_wr : w.heap.size < wr.heap.size := Blk.lt HB.out
            cases h3 : (x.kind == (1 : Int)) with
            | false =>
              have h3m : (x.kind != (1 : Int)) = true := by rw [bne, h3]; rfl
              cases h4 : (n.kind == (1 : Int)) with
              | false =>
                have h4m : (n.kind != (1 : Int)) = true := by rw [bne, h4]; rfl
                go_wp2_with fail
                go_quiet (fail)
                go_wp2_with fail
                go_ret
                exact ⟨ret_bool' _ _ (by rw [HN0.out, HN.out (by rw [show (x.kind == 1) = false from by assumption, show (n.kind == 1) = false from by assumption]; rfl), Bool.and_false]), (by first | exact HF.out | exact HF.out.alloc _ | exact (HF.out.alloc _).alloc _ | exact ((HF.out.alloc _).alloc _).alloc _ | exact HF.out.drewN _ | exact (HF.out.alloc _).drewN _ | exact ((HF.out.alloc _).alloc _).drewN _)⟩
              | true =>
                have h4m : (n.kind != (1 : Int)) = false := by rw [bne, h4]; rfl
                go_wp2_with fail
                refine forget_world (fun W => Fresh wr W ∧ Blk W (w.heap.size) 24 #[.int .i64 n.kind, .string (⟨n.text.toArray⟩ : ByteArray), .int .i64 n.cols, .slice (some ⟨g, o, none⟩) ks.length cap]) ⟨(by first | exact (Touch.refl _ _) | exact (Touch.refl _ _).alloc _ | exact ((Touch.refl _ _).alloc _).alloc _ | exact (((Touch.refl _ _).alloc _).alloc _).alloc _ | exact (Touch.refl _ _).drewN _ | exact ((Touch.refl _ _).alloc _).drewN _ | exact (((Touch.refl _ _).alloc _).alloc _).drewN _), (by first | exact Blk.new _ _ _ | exact (Blk.new _ _ _).alloc _ | exact Blk.new2 _ _ _ _ | exact ((Blk.new _ _ _).alloc _).alloc _ | exact (Blk.new2 _ _ _ _).alloc _ | exact Blk.new3 _ _ _ _ _ | assumption | exact Blk.alloc (by assumption) _ | exact (Blk.alloc (Blk.alloc (by assumption) _) _))⟩ ?_
                rintro w3 ⟨hfw3, hb0_w3⟩
                have HF3 := hid hfw3
                clear hfw3 q0_0_wr q0_1_wr q0_2_wr q0_3_wr B0_wr
                have r0_0_w3 := cell_regrown (show World.cell? w3 ⟨w.heap.size, 0, none⟩ = some (.int .i64 n.kind) from Blk.cell hb0_w3 0)
                have r0_1_w3 := cell_regrown (show World.cell? w3 ⟨w.heap.size, 1, none⟩ = some (.string (⟨n.text.toArray⟩ : ByteArray)) from Blk.cell hb0_w3 1)
                have r0_2_w3 := cell_regrown (show World.cell? w3 ⟨w.heap.size, 2, none⟩ = some (.int .i64 n.cols) from Blk.cell hb0_w3 2)
                have r0_3_w3 := cell_regrown (show World.cell? w3 ⟨w.heap.size, 3, none⟩ = some (.slice (some ⟨g, o, none⟩) ks.length cap) from Blk.cell hb0_w3 3)
                have xx0_w3 : World.cell? w3 ⟨g, o + j * 4, none⟩ = some (.int .i64 x.kind) := Touch.cell HF3.out xx0_wr (fun h => h)
                have xx1_w3 : World.cell? w3 ⟨g, o + j * 4 + 1, none⟩ = some (.string (⟨x.text.toArray⟩ : ByteArray)) := Touch.cell HF3.out xx1_wr (fun h => h)
                have xx2_w3 : World.cell? w3 ⟨g, o + j * 4 + 2, none⟩ = some (.int .i64 x.cols) := Touch.cell HF3.out xx2_wr (fun h => h)
                have xx3_w3 : World.cell? w3 ⟨g, o + j * 4 + 3, none⟩ = some (sx) := Touch.cell HF3.out xx3_wr (fun h => h)
                clear xx0_wr xx1_wr xx2_wr xx3_wr
                have gxx0_w3 := cell_regrown xx0_w3
                have gxx1_w3 := cell_regrown xx1_w3
                have gxx2_w3 := cell_regrown xx2_w3
                have gxx3_w3 := cell_regrown xx3_w3
                have C0_w3 := hid (calmF (P := Try.prog) w3 (fun w hw => HIH.out x sx _ (by omega) (by omega) (HRK.out.fresh (Touch.trans (HF.out.trans HF3.out) hw)) htx))
                refine wp_region_quiet_below (by kernel_rfl) (by kernel_rfl) ?_
                repeat (quiet_step (first | with_reducible exact C0_w3.out _ _))
                refine wpQuiet_nil ?_
                rintro w4 ⟨⟨_, _⟩, hWw4⟩
                have hfw4 : Fresh w3 w4 := by rw [hWw4]; exact fresh_of_below (below_regrown _ _ _)
                clear hWw4 r0_0_w3 r0_1_w3 r0_2_w3 r0_3_w3 gxx0_w3 gxx1_w3 gxx2_w3 gxx3_w3
                have HF4 := hid (show Fresh w3 w4 from by first | exact hfw4 | exact Touch.pre hfw4 | exact Touch.pre (Touch.pre hfw4) | exact Touch.ofN hfw4 | exact Touch.preN hfw4 | exact Touch.pre (Touch.pre (Touch.pre hfw4)))
                have B0_w4 : Blk w4 (w.heap.size) 24 #[.int .i64 n.kind, .string (⟨n.text.toArray⟩ : ByteArray), .int .i64 n.cols, .slice (some ⟨g, o, none⟩) ks.length cap] := Touch.blk hfw4 (by first | exact Blk.new _ _ _ | exact (Blk.new _ _ _).alloc _ | exact Blk.new2 _ _ _ _ | exact ((Blk.new _ _ _).alloc _).alloc _ | exact (Blk.new2 _ _ _ _).alloc _ | exact Blk.new3 _ _ _ _ _ | assumption | exact Blk.alloc (by assumption) _ | exact (Blk.alloc (Blk.alloc (by assumption) _) _)) (fun h => h)
                clear hb0_w3
                have q0_0_w4 : World.cell? w4 ⟨w.heap.size, 0, none⟩ = some (.int .i64 n.kind) := Blk.cell B0_w4 0
                have q0_1_w4 : World.cell? w4 ⟨w.heap.size, 1, none⟩ = some (.string (⟨n.text.toArray⟩ : ByteArray)) := Blk.cell B0_w4 1
                have q0_2_w4 : World.cell? w4 ⟨w.heap.size, 2, none⟩ = some (.int .i64 n.cols) := Blk.cell B0_w4 2
                have q0_3_w4 : World.cell? w4 ⟨w.heap.size, 3, none⟩ = some (.slice (some ⟨g, o, none⟩) ks.length cap) := Blk.cell B0_w4 3
                have xx0_w4 : World.cell? w4 ⟨g, o + j * 4, none⟩ = some (.int .i64 x.kind) := Touch.cell HF4.out xx0_w3 (fun h => h)
                have xx1_w4 : World.cell? w4 ⟨g, o + j * 4 + 1, none⟩ = some (.string (⟨x.text.toArray⟩ : ByteArray)) := Touch.cell HF4.out xx1_w3 (fun h => h)
                have xx2_w4 : World.cell? w4 ⟨g, o + j * 4 + 2, none⟩ = some (.int .i64 x.cols) := Touch.cell HF4.out xx2_w3 (fun h => h)
                have xx3_w4 : World.cell? w4 ⟨g, o + j * 4 + 3, none⟩ = some (sx) := Touch.cell HF4.out xx3_w3 (fun h => h)
                clear xx0_w3 xx1_w3 xx2_w3 xx3_w3
                clear hfw4
                cases h5 : (Tr.form x) with
                | false =>
                  go_wp2_with fail
                  go_ret
                  exact ⟨ret_bool' _ _ (by rw [HN0.out, HN.out (by rw [show (x.kind == 1) = false from by assumption, show (n.kind == 1) = true from by assumption, show (Tr.form x) = false from by assumption]; rfl), Bool.and_false]), (by first | exact (HF.out.trans (HF3.out.trans HF4.out)) | exact (HF.out.trans (HF3.out.trans HF4.out)).alloc _ | exact ((HF.out.trans (HF3.out.trans HF4.out)).alloc _).alloc _ | exact (((HF.out.trans (HF3.out.trans HF4.out)).alloc _).alloc _).alloc _ | exact (HF.out.trans (HF3.out.trans HF4.out)).drewN _ | exact ((HF.out.trans (HF3.out.trans HF4.out)).alloc _).drewN _ | exact (((HF.out.trans (HF3.out.trans HF4.out)).alloc _).alloc _).drewN _)⟩
                | true =>
                  go_wp2_with fail
                  go_roundw
                  case rel => exact ⟨j + 1, by go_num, c1, by have h : Tr.formL (n.kind == 1) (ks.take (j + 1)) = true := (by rw [HS.out, HA.out, show (x.kind == 1) = false from by assumption, show (n.kind == 1) = true from by assumption, show (Tr.form x) = true from by assumption]; rfl); rw [show (n.kind == 1) = true from by assumption] at h; exact h, B0_w4, (HF.out.trans (HF3.out.trans HF4.out))⟩
                  case measure => simp [intOf]; omega
            | true =>
              have h3m : (x.kind != (1 : Int)) = false := by rw [bne, h3]; rfl
              cases h6 : (n.kind == (1 : Int)) with
              | false =>
                have h6m : (n.kind != (1 : Int)) = true := by rw [bne, h6]; rfl
                go_wp2_with fail
                refine forget_world (fun W => Fresh wr W ∧ Blk W (w.heap.size) 24 #[.int .i64 n.kind, .string (⟨n.text.toArray⟩ : ByteArray), .int .i64 n.cols, .slice (some ⟨g, o, none⟩) ks.length cap]) ⟨(by first | exact (Touch.refl _ _) | exact (Touch.refl _ _).alloc _ | exact ((Touch.refl _ _).alloc _).alloc _ | exact (((Touch.refl _ _).alloc _).alloc _).alloc _ | exact (Touch.refl _ _).drewN _ | exact ((Touch.refl _ _).alloc _).drewN _ | exact (((Touch.refl _ _).alloc _).alloc _).drewN _), (by first | exact Blk.new _ _ _ | exact (Blk.new _ _ _).alloc _ | exact Blk.new2 _ _ _ _ | exact ((Blk.new _ _ _).alloc _).alloc _ | exact (Blk.new2 _ _ _ _).alloc _ | exact Blk.new3 _ _ _ _ _ | assumption | exact Blk.alloc (by assumption) _ | exact (Blk.alloc (Blk.alloc (by assumption) _) _))⟩ ?_
                rintro w5 ⟨hfw5, hb0_w5⟩
                have HF5 := hid hfw5
                clear hfw5 q0_0_wr q0_1_wr q0_2_wr q0_3_wr B0_wr
                have r0_0_w5 := cell_regrown (show World.cell? w5 ⟨w.heap.size, 0, none⟩ = some (.int .i64 n.kind) from Blk.cell hb0_w5 0)
                have r0_1_w5 := cell_regrown (show World.cell? w5 ⟨w.heap.size, 1, none⟩ = some (.string (⟨n.text.toArray⟩ : ByteArray)) from Blk.cell hb0_w5 1)
                have r0_2_w5 := cell_regrown (show World.cell? w5 ⟨w.heap.size, 2, none⟩ = some (.int .i64 n.cols) from Blk.cell hb0_w5 2)
                have r0_3_w5 := cell_regrown (show World.cell? w5 ⟨w.heap.size, 3, none⟩ = some (.slice (some ⟨g, o, none⟩) ks.length cap) from Blk.cell hb0_w5 3)
                have xx0_w5 : World.cell? w5 ⟨g, o + j * 4, none⟩ = some (.int .i64 x.kind) := Touch.cell HF5.out xx0_wr (fun h => h)
                have xx1_w5 : World.cell? w5 ⟨g, o + j * 4 + 1, none⟩ = some (.string (⟨x.text.toArray⟩ : ByteArray)) := Touch.cell HF5.out xx1_wr (fun h => h)
                have xx2_w5 : World.cell? w5 ⟨g, o + j * 4 + 2, none⟩ = some (.int .i64 x.cols) := Touch.cell HF5.out xx2_wr (fun h => h)
                have xx3_w5 : World.cell? w5 ⟨g, o + j * 4 + 3, none⟩ = some (sx) := Touch.cell HF5.out xx3_wr (fun h => h)
                clear xx0_wr xx1_wr xx2_wr xx3_wr
                have gxx0_w5 := cell_regrown xx0_w5
                have gxx1_w5 := cell_regrown xx1_w5
                have gxx2_w5 := cell_regrown xx2_w5
                have gxx3_w5 := cell_regrown xx3_w5
                have C0_w5 := hid (calmF (P := Try.prog) w5 (fun w hw => HIH.out x sx _ (by omega) (by omega) (HRK.out.fresh (Touch.trans (HF.out.trans HF5.out) hw)) htx))
                refine wp_region_quiet_below (by kernel_rfl) (by kernel_rfl) ?_
                repeat (quiet_step (first | with_reducible exact C0_w5.out _ _))
                refine wpQuiet_nil ?_
                rintro w6 ⟨⟨_, _⟩, hWw6⟩
                have hfw6 : Fresh w5 w6 := by rw [hWw6]; exact fresh_of_below (below_regrown _ _ _)
                clear hWw6 r0_0_w5 r0_1_w5 r0_2_w5 r0_3_w5 gxx0_w5 gxx1_w5 gxx2_w5 gxx3_w5
                have HF6 := hid (show Fresh w5 w6 from by first | exact hfw6 | exact Touch.pre hfw6 | exact Touch.pre (Touch.pre hfw6) | exact Touch.ofN hfw6 | exact Touch.preN hfw6 | exact Touch.pre (Touch.pre (Touch.pre hfw6)))
                have B0_w6 : Blk w6 (w.heap.size) 24 #[.int .i64 n.kind, .string (⟨n.text.toArray⟩ : ByteArray), .int .i64 n.cols, .slice (some ⟨g, o, none⟩) ks.length cap] := Touch.blk hfw6 (by first | exact Blk.new _ _ _ | exact (Blk.new _ _ _).alloc _ | exact Blk.new2 _ _ _ _ | exact ((Blk.new _ _ _).alloc _).alloc _ | exact (Blk.new2 _ _ _ _).alloc _ | exact Blk.new3 _ _ _ _ _ | assumption | exact Blk.alloc (by assumption) _ | exact (Blk.alloc (Blk.alloc (by assumption) _) _)) (fun h => h)
                clear hb0_w5
                have q0_0_w6 : World.cell? w6 ⟨w.heap.size, 0, none⟩ = some (.int .i64 n.kind) := Blk.cell B0_w6 0
                have q0_1_w6 : World.cell? w6 ⟨w.heap.size, 1, none⟩ = some (.string (⟨n.text.toArray⟩ : ByteArray)) := Blk.cell B0_w6 1
                have q0_2_w6 : World.cell? w6 ⟨w.heap.size, 2, none⟩ = some (.int .i64 n.cols) := Blk.cell B0_w6 2
                have q0_3_w6 : World.cell? w6 ⟨w.heap.size, 3, none⟩ = some (.slice (some ⟨g, o, none⟩) ks.length cap) := Blk.cell B0_w6 3
                have xx0_w6 : World.cell? w6 ⟨g, o + j * 4, none⟩ = some (.int .i64 x.kind) := Touch.cell HF6.out xx0_w5 (fun h => h)
                have xx1_w6 : World.cell? w6 ⟨g, o + j * 4 + 1, none⟩ = some (.string (⟨x.text.toArray⟩ : ByteArray)) := Touch.cell HF6.out xx1_w5 (fun h => h)
                have xx2_w6 : World.cell? w6 ⟨g, o + j * 4 + 2, none⟩ = some (.int .i64 x.cols) := Touch.cell HF6.out xx2_w5 (fun h => h)
                have xx3_w6 : World.cell? w6 ⟨g, o + j * 4 + 3, none⟩ = some (sx) := Touch.cell HF6.out xx3_w5 (fun h => h)
                clear xx0_w5 xx1_w5 xx2_w5 xx3_w5
                clear hfw6
                cases h7 : (Tr.form x) with
                | false =>
                  go_wp2_with fail
                  go_ret
                  exact ⟨ret_bool' _ _ (by rw [HN0.out, HN.out (by rw [show (x.kind == 1) = true from by assumption, show (n.kind == 1) = false from by assumption, show (Tr.form x) = false from by assumption]; rfl), Bool.and_false]), (by first | exact (HF.out.trans (HF5.out.trans HF6.out)) | exact (HF.out.trans (HF5.out.trans HF6.out)).alloc _ | exact ((HF.out.trans (HF5.out.trans HF6.out)).alloc _).alloc _ | exact (((HF.out.trans (HF5.out.trans HF6.out)).alloc _).alloc _).alloc _ | exact (HF.out.trans (HF5.out.trans HF6.out)).drewN _ | exact ((HF.out.trans (HF5.out.trans HF6.out)).alloc _).drewN _ | exact (((HF.out.trans (HF5.out.trans HF6.out)).alloc _).alloc _).drewN _)⟩
                | true =>
                  go_wp2_with fail
                  go_roundw
                  case rel => exact ⟨j + 1, by go_num, c1, by have h : Tr.formL (n.kind == 1) (ks.take (j + 1)) = true := (by rw [HS.out, HA.out, show (x.kind == 1) = true from by assumption, show (n.kind == 1) = false from by assumption, show (Tr.form x) = true from by assumption]; rfl); rw [show (n.kind == 1) = false from by assumption] at h; exact h, B0_w6, (HF.out.trans (HF5.out.trans HF6.out))⟩
                  case measure => simp [intOf]; omega
              | true =>
                have h6m : (n.kind != (1 : Int)) = false := by rw [bne, h6]; rfl
                go_wp2_with fail
                go_quiet (fail)
                go_wp2_with fail
                go_ret
                exact ⟨ret_bool' _ _ (by rw [HN0.out, HN.out (by rw [show (x.kind == 1) = true from by assumption, show (n.kind == 1) = true from by assumption]; rfl), Bool.and_false]), (by first | exact HF.out | exact HF.out.alloc _ | exact (HF.out.alloc _).alloc _ | exact ((HF.out.alloc _).alloc _).alloc _ | exact HF.out.drewN _ | exact (HF.out.alloc _).drewN _ | exact ((HF.out.alloc _).alloc _).drewN _)⟩
          · have d1 : decide ((j : Int) < (ks.length : Int)) = false := by simp only [decide_eq_false_iff_not]; omega
            have d1n : decide (j < ks.length) = false := by simp only [decide_eq_false_iff_not]; omega
            obtain rfl : j = ks.length := by omega
            have q0_0_wr : World.cell? wr ⟨w.heap.size, 0, none⟩ = some (.int .i64 n.kind) := Blk.cell HB.out 0
            have q0_1_wr : World.cell? wr ⟨w.heap.size, 1, none⟩ = some (.string (⟨n.text.toArray⟩ : ByteArray)) := Blk.cell HB.out 1
            have q0_2_wr : World.cell? wr ⟨w.heap.size, 2, none⟩ = some (.int .i64 n.cols) := Blk.cell HB.out 2
            have q0_3_wr : World.cell? wr ⟨w.heap.size, 3, none⟩ = some (.slice A ks.length cap) := Blk.cell HB.out 3
            have B0_wr : Blk wr w.heap.size 24 #[.int .i64 n.kind, .string (⟨n.text.toArray⟩ : ByteArray), .int .i64 n.cols, .slice A ks.length cap] := HB.out
            have hlt_w_wr : w.heap.size < wr.heap.size := Blk.lt HB.out
            go_wp2_with fail
            go_ret
            exact ⟨ret_bool' _ _ (by have := HA.out; rw [List.take_length] at this; rw [HN0.out, this, show (Tr.textOK n.kind n.text) = true from by assumption, show (Tr.kidsOK n.kind n.cols ks.length) = true from by assumption]; rfl), (by first | exact HF.out | exact HF.out.alloc _ | exact (HF.out.alloc _).alloc _ | exact ((HF.out.alloc _).alloc _).alloc _ | exact HF.out.drewN _ | exact (HF.out.alloc _).drewN _ | exact ((HF.out.alloc _).alloc _).drewN _)⟩

set_option maxRecDepth 100000 in
set_option maxHeartbeats 2000000 in
theorem count_any (m : Nat) : ∀ (n : Tr.Nd) (sl : Value) (w : World), Tr.count n ≤ m → m ≤ 1000000 → RepL w n.kids sl → n.text.length ≤ maxLen →
    Calls Try.prog 40 #[.agg #[.int .i64 n.kind, .string ⟨n.text.toArray⟩, .int .i64 n.cols, sl]] w fun e w' => e = .returned (.int .i64 (Tr.count n)) ∧ Fresh w w' := by
  induction m with
  | zero => intro n _ _ h; have := Tr.count_pos n; omega
  | succ m ih =>
    intro n sl w hc hm hr ht
    obtain ⟨A, cap, rfl⟩ := hr.slice
    have hlen := hr.len
    unfold maxLen at hlen ht
    have HIH := hid ih
    have HR := hid hr
    have HN0 := hid (Tr.count_kids n)
    have hkc : Tr.countL n.kids ≤ m := by have := Tr.count_kids n; omega
    have hkl := Tr.countL_len n.kids
    clear ih hr
    generalize n.kids = ks at *
    go_enter Try.func40, Try.ntmps40
    go_wp2_with fail
    go_loopw [3, 4] (fun c i wr => ∃ j : Nat, c = .int .i64 ((1 + Tr.countL (ks.take j) : Nat) : Int) ∧ i = .int .i64 j ∧ j ≤ ks.length ∧ Hid (Blk wr w.heap.size 24 #[.int .i64 n.kind, .string ⟨n.text.toArray⟩, .int .i64 n.cols, .slice A ks.length cap]) ∧ Hid (Fresh w wr)) (fun _ i _ => ks.length - (intOf i).toNat)
    case atStart => exact ⟨0, by simp [Tr.countL], rfl, Nat.zero_le _, Blk.new _ _ _, (Touch.refl _ _).alloc _⟩
    case round =>
      obtain ⟨j, rfl, rfl, hj, HB, HF⟩ := hrel
      by_cases c1 : j < ks.length
      · have d1 : decide ((j : Int) < (ks.length : Int)) = true := by simp only [decide_eq_true_eq]; omega
        have d1n : decide (j < ks.length) = true := by simp only [decide_eq_true_eq]; omega
        have d1' : (j : Int) < (ks.length : Int) := by omega
        obtain ⟨g, o, sx, rfl, hg, m0, m1, m2, m3, hrk⟩ := HR.out.get j c1
        have htx := HR.out.texts j c1
        have hcm := Tr.count_mem (List.getElem_mem (l := ks) (n := j) c1)
        have HS := hid (Tr.countL_take ks j c1)
        have hct := Tr.countL_le ks j
        have hcs : Tr.countL (ks.take j) + Tr.count ks[j] ≤ Tr.countL ks := by rw [← HS.out]; exact Tr.countL_le ks (j + 1)
        have xx0_wr := Touch.cell HF.out m0 (fun h => h)
        have xx1_wr := Touch.cell HF.out m1 (fun h => h)
        have xx2_wr := Touch.cell HF.out m2 (fun h => h)
        have xx3_wr := Touch.cell HF.out m3 (fun h => h)
        have hgr : g < wr.heap.size := block_lt_of_cell xx0_wr
        have HRK := hid hrk
        clear m0 m1 m2 m3 hrk hg HR
        generalize ks[j] = x at *
        have q0_0_wr : World.cell? wr ⟨w.heap.size, 0, none⟩ = some (.int .i64 n.kind) := Blk.cell HB.out 0
        have q0_1_wr : World.cell? wr ⟨w.heap.size, 1, none⟩ = some (.string (⟨n.text.toArray⟩ : ByteArray)) := Blk.cell HB.out 1
        have q0_2_wr : World.cell? wr ⟨w.heap.size, 2, none⟩ = some (.int .i64 n.cols) := Blk.cell HB.out 2
        have q0_3_wr : World.cell? wr ⟨w.heap.size, 3, none⟩ = some (.slice (some ⟨g, o, none⟩) ks.length cap) := Blk.cell HB.out 3
        have B0_wr : Blk wr w.heap.size 24 #[.int .i64 n.kind, .string (⟨n.text.toArray⟩ : ByteArray), .int .i64 n.cols, .slice (some ⟨g, o, none⟩) ks.length cap] := HB.out
        have hlt_w_wr : w.heap.size < wr.heap.size := Blk.lt HB.out
        go_wp2_with fail
        refine Calls.mono (HIH.out x sx _ (by omega) (by omega) (HRK.out.fresh (by first | exact HF.out | exact HF.out.alloc _ | exact (HF.out.alloc _).alloc _ | exact ((HF.out.alloc _).alloc _).alloc _ | exact HF.out.drewN _ | exact (HF.out.alloc _).drewN _ | exact ((HF.out.alloc _).alloc _).drewN _)) htx) ?_
        rintro _ w1 ⟨rfl, hfw1⟩
        have HF1 := hid (show Fresh wr w1 from by first | exact hfw1 | exact Touch.pre hfw1 | exact Touch.pre (Touch.pre hfw1) | exact Touch.ofN hfw1 | exact Touch.preN hfw1 | exact Touch.pre (Touch.pre (Touch.pre hfw1)))
        have B0_w1 : Blk w1 (w.heap.size) 24 #[.int .i64 n.kind, .string (⟨n.text.toArray⟩ : ByteArray), .int .i64 n.cols, .slice (some ⟨g, o, none⟩) ks.length cap] := Touch.blk hfw1 (by first | exact Blk.new _ _ _ | exact (Blk.new _ _ _).alloc _ | exact Blk.new2 _ _ _ _ | exact ((Blk.new _ _ _).alloc _).alloc _ | exact (Blk.new2 _ _ _ _).alloc _ | exact Blk.new3 _ _ _ _ _ | assumption | exact Blk.alloc (by assumption) _ | exact (Blk.alloc (Blk.alloc (by assumption) _) _)) (fun h => h)
        clear q0_0_wr q0_1_wr q0_2_wr q0_3_wr B0_wr
        have q0_0_w1 : World.cell? w1 ⟨w.heap.size, 0, none⟩ = some (.int .i64 n.kind) := Blk.cell B0_w1 0
        have q0_1_w1 : World.cell? w1 ⟨w.heap.size, 1, none⟩ = some (.string (⟨n.text.toArray⟩ : ByteArray)) := Blk.cell B0_w1 1
        have q0_2_w1 : World.cell? w1 ⟨w.heap.size, 2, none⟩ = some (.int .i64 n.cols) := Blk.cell B0_w1 2
        have q0_3_w1 : World.cell? w1 ⟨w.heap.size, 3, none⟩ = some (.slice (some ⟨g, o, none⟩) ks.length cap) := Blk.cell B0_w1 3
        have xx0_w1 : World.cell? w1 ⟨g, o + j * 4, none⟩ = some (.int .i64 x.kind) := Touch.cell HF1.out xx0_wr (fun h => h)
        have xx1_w1 : World.cell? w1 ⟨g, o + j * 4 + 1, none⟩ = some (.string (⟨x.text.toArray⟩ : ByteArray)) := Touch.cell HF1.out xx1_wr (fun h => h)
        have xx2_w1 : World.cell? w1 ⟨g, o + j * 4 + 2, none⟩ = some (.int .i64 x.cols) := Touch.cell HF1.out xx2_wr (fun h => h)
        have xx3_w1 : World.cell? w1 ⟨g, o + j * 4 + 3, none⟩ = some (sx) := Touch.cell HF1.out xx3_wr (fun h => h)
        clear xx0_wr xx1_wr xx2_wr xx3_wr
        clear hfw1
        go_wp2_with fail
        go_roundw
        case rel => exact ⟨j + 1, by rw [HS.out]; go_num, by go_num, c1, B0_w1, (HF.out.trans HF1.out)⟩
        case measure => simp [intOf]; omega
      · have d1 : decide ((j : Int) < (ks.length : Int)) = false := by simp only [decide_eq_false_iff_not]; omega
        have d1n : decide (j < ks.length) = false := by simp only [decide_eq_false_iff_not]; omega
        obtain rfl : j = ks.length := by omega
        have q0_0_wr : World.cell? wr ⟨w.heap.size, 0, none⟩ = some (.int .i64 n.kind) := Blk.cell HB.out 0
        have q0_1_wr : World.cell? wr ⟨w.heap.size, 1, none⟩ = some (.string (⟨n.text.toArray⟩ : ByteArray)) := Blk.cell HB.out 1
        have q0_2_wr : World.cell? wr ⟨w.heap.size, 2, none⟩ = some (.int .i64 n.cols) := Blk.cell HB.out 2
        have q0_3_wr : World.cell? wr ⟨w.heap.size, 3, none⟩ = some (.slice A ks.length cap) := Blk.cell HB.out 3
        have B0_wr : Blk wr w.heap.size 24 #[.int .i64 n.kind, .string (⟨n.text.toArray⟩ : ByteArray), .int .i64 n.cols, .slice A ks.length cap] := HB.out
        have hlt_w_wr : w.heap.size < wr.heap.size := Blk.lt HB.out
        go_wp2_with fail
        go_ret
        exact ⟨by rw [HN0.out]; first | (have := List.take_length (l := ks); simp_all) | rfl, (by first | exact HF.out | exact HF.out.alloc _ | exact (HF.out.alloc _).alloc _ | exact ((HF.out.alloc _).alloc _).alloc _ | exact HF.out.drewN _ | exact (HF.out.alloc _).drewN _ | exact ((HF.out.alloc _).alloc _).drewN _)⟩

set_option maxRecDepth 100000 in
set_option maxHeartbeats 2000000 in
theorem depth_any (m : Nat) : ∀ (n : Tr.Nd) (sl : Value) (w : World), Tr.count n ≤ m → m ≤ 1000000 → RepL w n.kids sl → n.text.length ≤ maxLen →
    Calls Try.prog 41 #[.agg #[.int .i64 n.kind, .string ⟨n.text.toArray⟩, .int .i64 n.cols, sl]] w fun e w' => e = .returned (.int .i64 (Tr.depth n)) ∧ Fresh w w' := by
  induction m with
  | zero => intro n _ _ h; have := Tr.count_pos n; omega
  | succ m ih =>
    intro n sl w hc hm hr ht
    obtain ⟨A, cap, rfl⟩ := hr.slice
    have hlen := hr.len
    unfold maxLen at hlen ht
    have HIH := hid ih
    have HR := hid hr
    have HN0 := hid (Tr.depth_kids n)
    have hkc : Tr.countL n.kids ≤ m := by have := Tr.count_kids n; omega
    have hkl := Tr.countL_len n.kids
    have hdl := depthL_le n.kids
    clear ih hr
    generalize n.kids = ks at *
    go_enter Try.func41, Try.ntmps41
    go_wp2_with fail
    go_loopw [3, 4] (fun c i wr => ∃ j : Nat, c = .int .i64 ((Tr.depthL (ks.take j) : Nat) : Int) ∧ i = .int .i64 j ∧ j ≤ ks.length ∧ Hid (Blk wr w.heap.size 24 #[.int .i64 n.kind, .string ⟨n.text.toArray⟩, .int .i64 n.cols, .slice A ks.length cap]) ∧ Hid (Fresh w wr)) (fun _ i _ => ks.length - (intOf i).toNat)
    case atStart => exact ⟨0, by simp [Tr.depthL], rfl, Nat.zero_le _, Blk.new _ _ _, (Touch.refl _ _).alloc _⟩
    case round =>
      obtain ⟨j, rfl, rfl, hj, HB, HF⟩ := hrel
      by_cases c1 : j < ks.length
      · have d1 : decide ((j : Int) < (ks.length : Int)) = true := by simp only [decide_eq_true_eq]; omega
        have d1n : decide (j < ks.length) = true := by simp only [decide_eq_true_eq]; omega
        have d1' : (j : Int) < (ks.length : Int) := by omega
        obtain ⟨g, o, sx, rfl, hg, m0, m1, m2, m3, hrk⟩ := HR.out.get j c1
        have htx := HR.out.texts j c1
        have hcm := Tr.count_mem (List.getElem_mem (l := ks) (n := j) c1)
        have HS := hid (depthL_take ks j c1)
        have hdj := depthL_take_le ks j
        have hdx := depth_le ks[j]
        have xx0_wr := Touch.cell HF.out m0 (fun h => h)
        have xx1_wr := Touch.cell HF.out m1 (fun h => h)
        have xx2_wr := Touch.cell HF.out m2 (fun h => h)
        have xx3_wr := Touch.cell HF.out m3 (fun h => h)
        have hgr : g < wr.heap.size := block_lt_of_cell xx0_wr
        have HRK := hid hrk
        clear m0 m1 m2 m3 hrk hg HR
        generalize ks[j] = x at *
        have q0_0_wr : World.cell? wr ⟨w.heap.size, 0, none⟩ = some (.int .i64 n.kind) := Blk.cell HB.out 0
        have q0_1_wr : World.cell? wr ⟨w.heap.size, 1, none⟩ = some (.string (⟨n.text.toArray⟩ : ByteArray)) := Blk.cell HB.out 1
        have q0_2_wr : World.cell? wr ⟨w.heap.size, 2, none⟩ = some (.int .i64 n.cols) := Blk.cell HB.out 2
        have q0_3_wr : World.cell? wr ⟨w.heap.size, 3, none⟩ = some (.slice (some ⟨g, o, none⟩) ks.length cap) := Blk.cell HB.out 3
        have B0_wr : Blk wr w.heap.size 24 #[.int .i64 n.kind, .string (⟨n.text.toArray⟩ : ByteArray), .int .i64 n.cols, .slice (some ⟨g, o, none⟩) ks.length cap] := HB.out
        have hlt_w_wr : w.heap.size < wr.heap.size := Blk.lt HB.out
        go_wp2_with fail
        refine Calls.mono (HIH.out x sx _ (by omega) (by omega) (HRK.out.fresh (by first | exact HF.out | exact HF.out.alloc _ | exact (HF.out.alloc _).alloc _ | exact ((HF.out.alloc _).alloc _).alloc _ | exact HF.out.drewN _ | exact (HF.out.alloc _).drewN _ | exact ((HF.out.alloc _).alloc _).drewN _)) htx) ?_
        rintro _ w1 ⟨rfl, hfw1⟩
        have HF1 := hid (show Fresh wr w1 from by first | exact hfw1 | exact Touch.pre hfw1 | exact Touch.pre (Touch.pre hfw1) | exact Touch.ofN hfw1 | exact Touch.preN hfw1 | exact Touch.pre (Touch.pre (Touch.pre hfw1)))
        have B0_w1 : Blk w1 (w.heap.size) 24 #[.int .i64 n.kind, .string (⟨n.text.toArray⟩ : ByteArray), .int .i64 n.cols, .slice (some ⟨g, o, none⟩) ks.length cap] := Touch.blk hfw1 (by first | exact Blk.new _ _ _ | exact (Blk.new _ _ _).alloc _ | exact Blk.new2 _ _ _ _ | exact ((Blk.new _ _ _).alloc _).alloc _ | exact (Blk.new2 _ _ _ _).alloc _ | exact Blk.new3 _ _ _ _ _ | assumption | exact Blk.alloc (by assumption) _ | exact (Blk.alloc (Blk.alloc (by assumption) _) _)) (fun h => h)
        clear q0_0_wr q0_1_wr q0_2_wr q0_3_wr B0_wr
        have q0_0_w1 : World.cell? w1 ⟨w.heap.size, 0, none⟩ = some (.int .i64 n.kind) := Blk.cell B0_w1 0
        have q0_1_w1 : World.cell? w1 ⟨w.heap.size, 1, none⟩ = some (.string (⟨n.text.toArray⟩ : ByteArray)) := Blk.cell B0_w1 1
        have q0_2_w1 : World.cell? w1 ⟨w.heap.size, 2, none⟩ = some (.int .i64 n.cols) := Blk.cell B0_w1 2
        have q0_3_w1 : World.cell? w1 ⟨w.heap.size, 3, none⟩ = some (.slice (some ⟨g, o, none⟩) ks.length cap) := Blk.cell B0_w1 3
        have xx0_w1 : World.cell? w1 ⟨g, o + j * 4, none⟩ = some (.int .i64 x.kind) := Touch.cell HF1.out xx0_wr (fun h => h)
        have xx1_w1 : World.cell? w1 ⟨g, o + j * 4 + 1, none⟩ = some (.string (⟨x.text.toArray⟩ : ByteArray)) := Touch.cell HF1.out xx1_wr (fun h => h)
        have xx2_w1 : World.cell? w1 ⟨g, o + j * 4 + 2, none⟩ = some (.int .i64 x.cols) := Touch.cell HF1.out xx2_wr (fun h => h)
        have xx3_w1 : World.cell? w1 ⟨g, o + j * 4 + 3, none⟩ = some (sx) := Touch.cell HF1.out xx3_wr (fun h => h)
        clear xx0_wr xx1_wr xx2_wr xx3_wr
        clear hfw1
        go_wp2_with fail
        go_roundw
        case rel => exact ⟨j + 1, by rw [HS.out]; go_num, by go_num, c1, B0_w1, (HF.out.trans HF1.out)⟩
        case measure => simp [intOf]; omega
      · have d1 : decide ((j : Int) < (ks.length : Int)) = false := by simp only [decide_eq_false_iff_not]; omega
        have d1n : decide (j < ks.length) = false := by simp only [decide_eq_false_iff_not]; omega
        obtain rfl : j = ks.length := by omega
        have q0_0_wr : World.cell? wr ⟨w.heap.size, 0, none⟩ = some (.int .i64 n.kind) := Blk.cell HB.out 0
        have q0_1_wr : World.cell? wr ⟨w.heap.size, 1, none⟩ = some (.string (⟨n.text.toArray⟩ : ByteArray)) := Blk.cell HB.out 1
        have q0_2_wr : World.cell? wr ⟨w.heap.size, 2, none⟩ = some (.int .i64 n.cols) := Blk.cell HB.out 2
        have q0_3_wr : World.cell? wr ⟨w.heap.size, 3, none⟩ = some (.slice A ks.length cap) := Blk.cell HB.out 3
        have B0_wr : Blk wr w.heap.size 24 #[.int .i64 n.kind, .string (⟨n.text.toArray⟩ : ByteArray), .int .i64 n.cols, .slice A ks.length cap] := HB.out
        have hlt_w_wr : w.heap.size < wr.heap.size := Blk.lt HB.out
        go_wp2_with fail
        go_ret
        exact ⟨by rw [HN0.out]; first | (have := List.take_length (l := ks); simp_all) | rfl, (by first | exact HF.out | exact HF.out.alloc _ | exact (HF.out.alloc _).alloc _ | exact ((HF.out.alloc _).alloc _).alloc _ | exact HF.out.drewN _ | exact (HF.out.alloc _).drewN _ | exact ((HF.out.alloc _).alloc _).drewN _)⟩
end Go.Proofs.Ytilgpmpiidccjaa

/- The walk of the reference's Valid. -/
namespace Go.Proofs.Ytilgpmpiidccjaa
open Go.RowKit

set_option maxRecDepth 100000 in
set_option maxHeartbeats 1000000 in
theorem rValid_any (n : Tr.Nd) (sl : Value) (w : World) (hr : RepL w n.kids sl) (ht : n.text.length ≤ maxLen) (hc : Tr.count n ≤ 1000000) :
    Calls Try.prog 20 #[.agg #[.int .i64 n.kind, .string ⟨n.text.toArray⟩, .int .i64 n.cols, sl]] w fun e w' => e = .returned (.bool (Tr.valid n)) ∧ Fresh w w' := by
  have HR := hid hr
  have HV := hid (show Tr.valid n = ((n.kind == 1) && Tr.form n && decide (Tr.count n ≤ 1000) && decide (Tr.depth n ≤ 24)) from rfl)
  have HT := hid ht
  have HC := hid hc
  clear hr ht hc
  go_enter Try.func20, Try.ntmps20
  cases h1 : (n.kind == (1 : Int)) with
  | false =>
    have h1m : (n.kind != (1 : Int)) = true := by rw [bne, h1]; rfl
    go_wp2_with fail
    go_ret
    exact ⟨ret_bool' _ _ (by rw [HV.out, show (n.kind == 1) = false from by assumption]; simp), (by first | exact (Touch.refl _ _) | exact (Touch.refl _ _).alloc _ | exact ((Touch.refl _ _).alloc _).alloc _ | exact (((Touch.refl _ _).alloc _).alloc _).alloc _ | exact (Touch.refl _ _).drewN _ | exact ((Touch.refl _ _).alloc _).drewN _ | exact (((Touch.refl _ _).alloc _).alloc _).drewN _)⟩
  | true =>
    have h1m : (n.kind != (1 : Int)) = false := by rw [bne, h1]; rfl
    go_wp2_with fail
    refine Calls.mono (form_any _ n sl _ (Nat.le_refl _) HC.out (HR.out.fresh (by first | exact (Touch.refl _ _) | exact (Touch.refl _ _).alloc _ | exact ((Touch.refl _ _).alloc _).alloc _ | exact (((Touch.refl _ _).alloc _).alloc _).alloc _ | exact (Touch.refl _ _).drewN _ | exact ((Touch.refl _ _).alloc _).drewN _ | exact (((Touch.refl _ _).alloc _).alloc _).drewN _)) HT.out) ?_
    rintro _ w1 ⟨rfl, hfw1⟩
    have HF1 := hid (show Fresh w w1 from by first | exact hfw1 | exact Touch.pre hfw1 | exact Touch.pre (Touch.pre hfw1) | exact Touch.ofN hfw1 | exact Touch.preN hfw1 | exact Touch.pre (Touch.pre (Touch.pre hfw1)))
    have B0_w1 : Blk w1 (w.heap.size) 24 #[.int .i64 n.kind, .string (⟨n.text.toArray⟩ : ByteArray), .int .i64 n.cols, sl] := Touch.blk hfw1 (by first | exact Blk.new _ _ _ | exact (Blk.new _ _ _).alloc _ | exact Blk.new2 _ _ _ _ | exact ((Blk.new _ _ _).alloc _).alloc _ | exact (Blk.new2 _ _ _ _).alloc _ | exact Blk.new3 _ _ _ _ _ | assumption | exact Blk.alloc (by assumption) _ | exact (Blk.alloc (Blk.alloc (by assumption) _) _)) (fun h => h)
    have q0_0_w1 : World.cell? w1 ⟨w.heap.size, 0, none⟩ = some (.int .i64 n.kind) := Blk.cell B0_w1 0
    have q0_1_w1 : World.cell? w1 ⟨w.heap.size, 1, none⟩ = some (.string (⟨n.text.toArray⟩ : ByteArray)) := Blk.cell B0_w1 1
    have q0_2_w1 : World.cell? w1 ⟨w.heap.size, 2, none⟩ = some (.int .i64 n.cols) := Blk.cell B0_w1 2
    have q0_3_w1 : World.cell? w1 ⟨w.heap.size, 3, none⟩ = some (sl) := Blk.cell B0_w1 3
    clear hfw1
    cases h2 : (Tr.form n) with
    | false =>
      go_wp2_with fail
      go_ret
      exact ⟨ret_bool' _ _ (by rw [HV.out, show (n.kind == 1) = true from by assumption, show (Tr.form n) = false from by assumption]; simp), (by first | exact HF1.out | exact HF1.out.alloc _ | exact (HF1.out.alloc _).alloc _ | exact ((HF1.out.alloc _).alloc _).alloc _ | exact HF1.out.drewN _ | exact (HF1.out.alloc _).drewN _ | exact ((HF1.out.alloc _).alloc _).drewN _)⟩
    | true =>
      go_wp2_with fail
      refine Calls.mono (count_any _ n sl _ (Nat.le_refl _) HC.out (HR.out.fresh (by first | exact HF1.out | exact HF1.out.alloc _ | exact (HF1.out.alloc _).alloc _ | exact ((HF1.out.alloc _).alloc _).alloc _ | exact HF1.out.drewN _ | exact (HF1.out.alloc _).drewN _ | exact ((HF1.out.alloc _).alloc _).drewN _)) HT.out) ?_
      rintro _ w2 ⟨rfl, hfw2⟩
      have HF2 := hid (show Fresh w1 w2 from by first | exact hfw2 | exact Touch.pre hfw2 | exact Touch.pre (Touch.pre hfw2) | exact Touch.ofN hfw2 | exact Touch.preN hfw2 | exact Touch.pre (Touch.pre (Touch.pre hfw2)))
      have B0_w2 : Blk w2 (w.heap.size) 24 #[.int .i64 n.kind, .string (⟨n.text.toArray⟩ : ByteArray), .int .i64 n.cols, sl] := Touch.blk hfw2 (by first | exact Blk.new _ _ _ | exact (Blk.new _ _ _).alloc _ | exact Blk.new2 _ _ _ _ | exact ((Blk.new _ _ _).alloc _).alloc _ | exact (Blk.new2 _ _ _ _).alloc _ | exact Blk.new3 _ _ _ _ _ | assumption | exact Blk.alloc (by assumption) _ | exact (Blk.alloc (Blk.alloc (by assumption) _) _)) (fun h => h)
      clear q0_0_w1 q0_1_w1 q0_2_w1 q0_3_w1 B0_w1
      have q0_0_w2 : World.cell? w2 ⟨w.heap.size, 0, none⟩ = some (.int .i64 n.kind) := Blk.cell B0_w2 0
      have q0_1_w2 : World.cell? w2 ⟨w.heap.size, 1, none⟩ = some (.string (⟨n.text.toArray⟩ : ByteArray)) := Blk.cell B0_w2 1
      have q0_2_w2 : World.cell? w2 ⟨w.heap.size, 2, none⟩ = some (.int .i64 n.cols) := Blk.cell B0_w2 2
      have q0_3_w2 : World.cell? w2 ⟨w.heap.size, 3, none⟩ = some (sl) := Blk.cell B0_w2 3
      clear hfw2
      cases h3 : decide ((Tr.count n : Int) ≤ (1000 : Int)) with
      | false =>
        go_wp2_with fail
        go_ret
        exact ⟨ret_bool' _ _ (by rw [HV.out, show (n.kind == 1) = true from by assumption, show (Tr.form n) = true from by assumption, show decide (Tr.count n ≤ 1000) = false from by have := of_decide_eq_false (by assumption : decide ((Tr.count n : Int) ≤ (1000 : Int)) = false); simp only [decide_eq_false_iff_not]; omega]; simp), (by first | exact (HF1.out.trans HF2.out) | exact (HF1.out.trans HF2.out).alloc _ | exact ((HF1.out.trans HF2.out).alloc _).alloc _ | exact (((HF1.out.trans HF2.out).alloc _).alloc _).alloc _ | exact (HF1.out.trans HF2.out).drewN _ | exact ((HF1.out.trans HF2.out).alloc _).drewN _ | exact (((HF1.out.trans HF2.out).alloc _).alloc _).drewN _)⟩
      | true =>
        go_wp2_with fail
        refine Calls.mono (depth_any _ n sl _ (Nat.le_refl _) HC.out (HR.out.fresh (by first | exact (HF1.out.trans HF2.out) | exact (HF1.out.trans HF2.out).alloc _ | exact ((HF1.out.trans HF2.out).alloc _).alloc _ | exact (((HF1.out.trans HF2.out).alloc _).alloc _).alloc _ | exact (HF1.out.trans HF2.out).drewN _ | exact ((HF1.out.trans HF2.out).alloc _).drewN _ | exact (((HF1.out.trans HF2.out).alloc _).alloc _).drewN _)) HT.out) ?_
        rintro _ w3 ⟨rfl, hfw3⟩
        have HF3 := hid (show Fresh w2 w3 from by first | exact hfw3 | exact Touch.pre hfw3 | exact Touch.pre (Touch.pre hfw3) | exact Touch.ofN hfw3 | exact Touch.preN hfw3 | exact Touch.pre (Touch.pre (Touch.pre hfw3)))
        have B0_w3 : Blk w3 (w.heap.size) 24 #[.int .i64 n.kind, .string (⟨n.text.toArray⟩ : ByteArray), .int .i64 n.cols, sl] := Touch.blk hfw3 (by first | exact Blk.new _ _ _ | exact (Blk.new _ _ _).alloc _ | exact Blk.new2 _ _ _ _ | exact ((Blk.new _ _ _).alloc _).alloc _ | exact (Blk.new2 _ _ _ _).alloc _ | exact Blk.new3 _ _ _ _ _ | assumption | exact Blk.alloc (by assumption) _ | exact (Blk.alloc (Blk.alloc (by assumption) _) _)) (fun h => h)
        clear q0_0_w2 q0_1_w2 q0_2_w2 q0_3_w2 B0_w2
        have q0_0_w3 : World.cell? w3 ⟨w.heap.size, 0, none⟩ = some (.int .i64 n.kind) := Blk.cell B0_w3 0
        have q0_1_w3 : World.cell? w3 ⟨w.heap.size, 1, none⟩ = some (.string (⟨n.text.toArray⟩ : ByteArray)) := Blk.cell B0_w3 1
        have q0_2_w3 : World.cell? w3 ⟨w.heap.size, 2, none⟩ = some (.int .i64 n.cols) := Blk.cell B0_w3 2
        have q0_3_w3 : World.cell? w3 ⟨w.heap.size, 3, none⟩ = some (sl) := Blk.cell B0_w3 3
        clear hfw3
        cases h4 : decide ((Tr.depth n : Int) ≤ (24 : Int)) with
        | false =>
          go_wp2_with fail
          go_ret
          exact ⟨ret_bool' _ _ (by rw [HV.out, show (n.kind == 1) = true from by assumption, show (Tr.form n) = true from by assumption, show decide (Tr.count n ≤ 1000) = true from by have := of_decide_eq_true (by assumption : decide ((Tr.count n : Int) ≤ (1000 : Int)) = true); simp only [decide_eq_true_eq]; omega, show decide (Tr.depth n ≤ 24) = false from by have := of_decide_eq_false (by assumption : decide ((Tr.depth n : Int) ≤ (24 : Int)) = false); simp only [decide_eq_false_iff_not]; omega]; rfl), (by first | exact (HF1.out.trans (HF2.out.trans HF3.out)) | exact (HF1.out.trans (HF2.out.trans HF3.out)).alloc _ | exact ((HF1.out.trans (HF2.out.trans HF3.out)).alloc _).alloc _ | exact (((HF1.out.trans (HF2.out.trans HF3.out)).alloc _).alloc _).alloc _ | exact (HF1.out.trans (HF2.out.trans HF3.out)).drewN _ | exact ((HF1.out.trans (HF2.out.trans HF3.out)).alloc _).drewN _ | exact (((HF1.out.trans (HF2.out.trans HF3.out)).alloc _).alloc _).drewN _)⟩
        | true =>
          go_wp2_with fail
          go_ret
          exact ⟨ret_bool' _ _ (by rw [HV.out, show (n.kind == 1) = true from by assumption, show (Tr.form n) = true from by assumption, show decide (Tr.count n ≤ 1000) = true from by have := of_decide_eq_true (by assumption : decide ((Tr.count n : Int) ≤ (1000 : Int)) = true); simp only [decide_eq_true_eq]; omega, show decide (Tr.depth n ≤ 24) = true from by have := of_decide_eq_true (by assumption : decide ((Tr.depth n : Int) ≤ (24 : Int)) = true); simp only [decide_eq_true_eq]; omega]; rfl), (by first | exact (HF1.out.trans (HF2.out.trans HF3.out)) | exact (HF1.out.trans (HF2.out.trans HF3.out)).alloc _ | exact ((HF1.out.trans (HF2.out.trans HF3.out)).alloc _).alloc _ | exact (((HF1.out.trans (HF2.out.trans HF3.out)).alloc _).alloc _).alloc _ | exact (HF1.out.trans (HF2.out.trans HF3.out)).drewN _ | exact ((HF1.out.trans (HF2.out.trans HF3.out)).alloc _).drewN _ | exact (((HF1.out.trans (HF2.out.trans HF3.out)).alloc _).alloc _).drewN _)⟩
end Go.Proofs.Ytilgpmpiidccjaa

/- Slices of trees as rows of cells: their parts may be appended. -/
namespace Go.Proofs.Ytilgpmpiidccjaa
open Go.RowKit

/-- These cells are those of these trees. -/
def NodesAt (W : World) : List Tr.Nd → List Value → Prop
  | [], cs => cs = []
  | k :: ks, cs => ∃ sl ds, cs = .int .i64 k.kind :: .string ⟨k.text.toArray⟩ :: .int .i64 k.cols :: sl :: ds ∧ RepL W k.kids sl ∧ k.text.length ≤ maxLen ∧ NodesAt W ks ds

theorem NodesAt.length {W : World} : ∀ {ks : List Tr.Nd} {cs : List Value}, NodesAt W ks cs → cs.length = ks.length * 4
  | [], cs, h => by rw [show cs = [] from h]; rfl
  | k :: ks, cs, ⟨sl, ds, h, _, _, hd⟩ => by
    have := NodesAt.length hd
    rw [h]
    simp only [List.length_cons]
    omega
theorem NodesAt.fresh {W W' : World} (hf : Fresh W W') : ∀ {ks : List Tr.Nd} {cs : List Value}, NodesAt W ks cs → NodesAt W' ks cs
  | [], _, h => h
  | _ :: _, _, ⟨sl, ds, h, hr, ht, hd⟩ => ⟨sl, ds, h, hr.fresh hf, ht, hd.fresh hf⟩
theorem NodesAt.append {W : World} : ∀ {ks ms : List Tr.Nd} {cs ds : List Value}, NodesAt W ks cs → NodesAt W ms ds → NodesAt W (ks ++ ms) (cs ++ ds)
  | [], _, cs, _, h, h' => by rw [show cs = [] from h]; exact h'
  | _ :: _, _, _, _, ⟨sl, es, h, hr, ht, hd⟩, h' => ⟨sl, es ++ _, by rw [h]; rfl, hr, ht, hd.append h'⟩
theorem RepL.oneCell {W : World} {ks : List Tr.Nd} {v : Value} (h : RepL W ks v) : v.oneCell' = true := by
  obtain ⟨A, cap, rfl⟩ := h.slice
  rfl
theorem NodesAt.oneCell {W : World} : ∀ {ks : List Tr.Nd} {cs : List Value}, NodesAt W ks cs → ∀ u ∈ cs, u.oneCell' = true
  | [], cs, h, u, hu => by rw [show cs = [] from h] at hu; cases hu
  | _ :: _, _, ⟨sl, ds, h, hr, _, hd⟩, u, hu => by
    rw [h] at hu
    rcases List.mem_cons.1 hu with rfl | hu
    · rfl
    · rcases List.mem_cons.1 hu with rfl | hu
      · rfl
      · rcases List.mem_cons.1 hu with rfl | hu
        · rfl
        · rcases List.mem_cons.1 hu with rfl | hu
          · exact hr.oneCell
          · exact hd.oneCell u hu
theorem nodes_of {W : World} {g : Nat} : ∀ (ks : List Tr.Nd) (o : Nat) (sl : Nat → Value), (∀ i (hi : i < ks.length), ks[i].text.length ≤ maxLen) → (∀ i (hi : i < ks.length), W.cell? ⟨g, o + i * 4, none⟩ = some (.int .i64 ks[i].kind)) →
    (∀ i (hi : i < ks.length), W.cell? ⟨g, o + i * 4 + 1, none⟩ = some (.string ⟨ks[i].text.toArray⟩)) → (∀ i (hi : i < ks.length), W.cell? ⟨g, o + i * 4 + 2, none⟩ = some (.int .i64 ks[i].cols)) → (∀ i, i < ks.length → W.cell? ⟨g, o + i * 4 + 3, none⟩ = some (sl i)) →
    (∀ i (hi : i < ks.length), RepL W ks[i].kids (sl i)) → ∃ cs, NodesAt W ks cs ∧ ∀ j u, cs[j]? = some u → W.cell? ⟨g, o + j, none⟩ = some u
  | [], o, sl, _, _, _, _, _, _ => ⟨[], rfl, fun j u hu => by simp at hu⟩
  | k :: ks, o, sl, ht, h0, h1, h2, h3, hk => by
    have e : ∀ i, o + (i + 1) * 4 = o + 4 + i * 4 := fun i => by omega
    obtain ⟨cs, hc, hx⟩ := nodes_of ks (o + 4) (fun i => sl (i + 1)) (fun i hi => ht (i + 1) (by simpa using hi)) (fun i hi => by rw [← e]; exact h0 (i + 1) (by simpa using hi)) (fun i hi => by rw [← e]; exact h1 (i + 1) (by simpa using hi))
      (fun i hi => by rw [← e]; exact h2 (i + 1) (by simpa using hi)) (fun i hi => by rw [← e]; exact h3 (i + 1) (by simpa using hi)) (fun i hi => hk (i + 1) (by simpa using hi))
    refine ⟨_, ⟨sl 0, cs, rfl, hk 0 (by simp), ht 0 (by simp), hc⟩, fun j u hu => ?_⟩
    match j, hu with
    | 0, hu => have := h0 0 (by simp); simp at hu this; rw [← hu]; exact this
    | 1, hu => have := h1 0 (by simp); simp at hu this; rw [← hu]; exact this
    | 2, hu => have := h2 0 (by simp); simp at hu this; rw [← hu]; exact this
    | 3, hu => have := h3 0 (by simp); simp at hu this; rw [← hu]; exact this
    | j + 4, hu =>
      have := hx j u (by simpa using hu)
      rw [show o + (j + 4) = o + 4 + j by omega]
      exact this
/-- A slice of trees, cell by cell. -/
theorem RepL.cells {W : World} {ks : List Tr.Nd} {A : Option Addr} {n cap : Nat} (h : RepL W ks (.slice A n cap)) :
    n = ks.length ∧ ∃ cs, NodesAt W ks cs ∧ (ks = [] ∨ ∃ g o, A = some ⟨g, o, none⟩ ∧ g < W.heap.size ∧ ∀ j u, cs[j]? = some u → W.cell? ⟨g, o + j, none⟩ = some u) := by
  generalize hv : Value.slice A n cap = v at h
  cases h with
  | nil A' cap' => cases hv; exact ⟨rfl, [], rfl, .inl rfl⟩
  | row g o cap' _ sl hg hl ht h0 h1 h2 h3 hk =>
    cases hv
    obtain ⟨cs, h1', h2'⟩ := nodes_of ks o sl ht h0 h1 h2 h3 hk
    exact ⟨rfl, cs, h1', .inr ⟨g, o, rfl, hg, h2'⟩⟩
theorem NodesAt.get {W : World} : ∀ {ks : List Tr.Nd} {cs : List Value}, NodesAt W ks cs → ∀ i (hi : i < ks.length), ∃ sl, cs[i * 4]? = some (.int .i64 ks[i].kind) ∧ cs[i * 4 + 1]? = some (.string ⟨ks[i].text.toArray⟩) ∧ cs[i * 4 + 2]? = some (.int .i64 ks[i].cols) ∧ cs[i * 4 + 3]? = some sl ∧
    RepL W ks[i].kids sl ∧ ks[i].text.length ≤ maxLen
  | [], _, _, i, hi => by simp at hi
  | k :: ks, cs, ⟨sl, ds, h, hr, ht, hd⟩, i, hi => by
    subst h
    cases i with
    | zero => exact ⟨sl, rfl, rfl, rfl, rfl, hr, ht⟩
    | succ i =>
      obtain ⟨s, g0, g1, g2, g3, g4, g5⟩ := hd.get i (by simpa using hi)
      refine ⟨s, ?_, ?_, ?_, ?_, g4, g5⟩
      · rw [show (i + 1) * 4 = i * 4 + 4 by omega]; exact g0
      · rw [show (i + 1) * 4 + 1 = i * 4 + 1 + 4 by omega]; exact g1
      · rw [show (i + 1) * 4 + 2 = i * 4 + 2 + 4 by omega]; exact g2
      · rw [show (i + 1) * 4 + 3 = i * 4 + 3 + 4 by omega]; exact g3
/-- Cells of trees in a block are a slice of trees. -/
theorem NodesAt.rep {W : World} {ks : List Tr.Nd} {cs : List Value} {g cap : Nat} (h : NodesAt W ks cs) (hg : g < W.heap.size) (hl : ks.length ≤ maxLen) (hc : ∀ j u, cs[j]? = some u → W.cell? ⟨g, j, none⟩ = some u) : RepL W ks (.slice (some ⟨g, 0, none⟩) ks.length cap) := by
  refine RepL.row g 0 cap ks (fun i => (cs[i * 4 + 3]?).getD (.bool false)) hg hl ?_ ?_ ?_ ?_ ?_ ?_
  all_goals (intro i hi; obtain ⟨sl, g0, g1, g2, g3, g4, g5⟩ := h.get i hi)
  · exact g5
  · rw [Nat.zero_add]; exact hc _ _ g0
  · rw [Nat.zero_add]; exact hc _ _ g1
  · rw [Nat.zero_add]; exact hc _ _ g2
  · rw [Nat.zero_add, g3]; exact hc _ _ g3
  · rw [g3]; exact g4
/-- A row of the call's own that holds trees. -/
theorem NodesAt.own {W : World} {ks : List Tr.Nd} {cs : List Value} {B e : Nat} {v : Value} (h : NodesAt W ks cs) (ho : W.ownsRow B e 4 v ks.length cs) : RepL W ks v := by
  rcases ho.2 with ⟨rfl, h0⟩ | ⟨g, cap, cur, rfl, hB, hb, h1, h2, _⟩
  · rw [List.length_eq_zero_iff.1 h0]
    exact .nil _ _
  · exact h.rep (ho.lt g rfl).2 (Nat.le_trans h1 h2) fun j u hu => by
      have := ho.cells (g := g) rfl j u hu
      rw [Addr.add_mid, Nat.zero_add] at this
      exact this
end Go.Proofs.Ytilgpmpiidccjaa

/- An append to a row of the call's own, whatever the source: nothing, or cells at an address. -/
namespace Go.Proofs.Ytilgpmpiidccjaa
open Go.RowKit

/-- What the source of an append holds. -/
def Src (w : World) (size : Nat) (y : Value) (m : Nat) (news : List Value) : Prop :=
  ∃ A c, y = .slice A m c ∧ news.length = m * size ∧ ((A = none ∧ m = 0 ∧ news = []) ∨ ∃ ad, A = some ad ∧ ∀ j u, news[j]? = some u → w.cell? (ad.add j) = some u)

theorem Src.fresh {w w' : World} {size m : Nat} {y : Value} {news : List Value} (h : Src w size y m news) (hf : Fresh w w') : Src w' size y m news := by
  obtain ⟨A, c, h1, h2, h3⟩ := h
  refine ⟨A, c, h1, h2, h3.imp id ?_⟩
  rintro ⟨ad, ha, hc⟩
  exact ⟨ad, ha, fun j u hu => hf.cell (hc j u hu) (fun h => h)⟩
theorem Src.of_own {w : World} {base e size n : Nat} {v : Value} {xs : List Value} (h : w.ownsRow base e size v n xs) : Src w size v n xs := by
  rcases h.2 with ⟨h1, h2⟩ | ⟨g, cap, cur, h1, _⟩
  · refine ⟨none, 0, by rw [h1, h2], h.1, .inl ⟨rfl, h2, ?_⟩⟩
    have := h.1
    rw [h2, Nat.zero_mul] at this
    exact List.length_eq_zero_iff.1 this
  · exact ⟨some ⟨g, 0, none⟩, cap, h1, h.1, .inr ⟨_, rfl, h.cells (by rw [h1]; rfl)⟩⟩
theorem Src.of_blk {w : World} {g : Nat} {t : TypeId} {cs : Array Value} {size m c : Nat} (h : Blk w g t cs) (hs : cs.size = m * size) : Src w size (.slice (some ⟨g, 0, none⟩) m c) m cs.toList :=
  ⟨_, _, rfl, by simpa using hs, .inr ⟨_, rfl, fun j u hu => by rw [Addr.add_mid, Nat.zero_add, h.cell]; simpa using hu⟩⟩

section
variable {P : Program} (w : World)
theorem run_append_src (base : Nat) (t ty e : TypeId) (i : TypeInfo) (z : Value) (size bytes : Nat) (ht : P.underlying t = some (.slice e)) (hi : P.info? e = some i) (hz : i.zero = some z)
    (hsize : i.size = size) (hby : i.bytes = bytes) (hzs : z.cells.size = size) (hsz : 0 < size)
    (v : Value) (n : Nat) (xs : List Value) (hown : w.ownsRow base e size v n xs) (y : Value) (m : Nat) (news : List Value) (hsrc : Src w size y m news) (h1 : ∀ u ∈ news, u.oneCell' = true)
    (h63 : n + m ≤ maxLen) (hbytes : (n + m) * bytes ≤ 140737488355328) (hbase : base ≤ w.heap.size) :
    ∃ v' w', (Builtin.append_ #[t, t] ty #[v, y]).run P w = .ok v' w' ∧ w'.ownsRow base e size v' (n + m) (xs ++ news) ∧ w.grownBy w' v.ownBlock ∧ (v'.ownBlock = v.ownBlock ∨ v'.ownBlock = some w.heap.size) := by
  obtain ⟨A, c, rfl, hl, hA⟩ := hsrc
  rcases hA with ⟨rfl, rfl, rfl⟩ | ⟨ad, rfl, hc⟩
  · refine ⟨v, w, ?_, by simpa using hown, World.grownBy.refl w _, .inl rfl⟩
    rcases hown.2 with ⟨rfl, rfl⟩ | ⟨g, cap, cur, rfl, _, _, hnc, _⟩
    · simp [Builtin.append_, run_underlying ht, sizeOf, typeInfo, hi, Builtin.lenOf, Builtin.firstCells]
    · simp [Builtin.append_, run_underlying ht, sizeOf, typeInfo, hi, Builtin.lenOf, Builtin.firstCells, hnc, storeCells]
  · obtain ⟨v', w', hrun, h2, h3, _, h5⟩ := run_append_own_at (P := P) w base t ty e i z size bytes ht hi hz hsize hby hzs hsz v n xs hown ad m c news hl hc h1 h63 hbytes hbase
    exact ⟨v', w', hrun, h2, h3, h5⟩
theorem wp_append_src {o : Oper} {a : Act} {K : Act → World → Prop} {Q : Exit → Act → World → Prop} (s x : Operand) (t : TypeId)
    (ho : o.op = .call { callee := .builtin .append, args := #[s, x], argTypes := #[t, t] })
    (base : Nat) (e : TypeId) (i : TypeInfo) (z : Value) (size bytes : Nat) (ht : P.underlying t = some (.slice e)) (hi : P.info? e = some i) (hz : i.zero = some z)
    (hsize : i.size = size) (hby : i.bytes = bytes) (hzs : z.cells.size = size) (hsz : 0 < size)
    (v : Value) (n : Nat) (xs : List Value) (hs : a.eval s = v) (hown : w.ownsRow base e size v n xs)
    (y : Value) (m : Nat) (news : List Value) (hx : a.eval x = y) (hsrc : Src w size y m news) (h1 : ∀ u ∈ news, u.oneCell' = true)
    (h63 : n + m ≤ maxLen) (hbytes : (n + m) * bytes ≤ 140737488355328) (hbase : base ≤ w.heap.size)
    (h : ∀ v' w', w'.ownsRow base e size v' (n + m) (xs ++ news) → w.grownBy w' v.ownBlock → (v'.ownBlock = v.ownBlock ∨ v'.ownBlock = some w.heap.size) → K (a.put o.dst v') w') : o.wp P a w K Q := by
  obtain ⟨v', w', hrun, h2, h3, h4⟩ := run_append_src (P := P) w base t o.type e i z size bytes ht hi hz hsize hby hzs hsz v n xs hown y m news hsrc h1 h63 hbytes hbase
  unfold Oper.wp execOp
  simp only [ho, resolve, invoke, builtin, Sem.run_bind, Sem.run_pure, Result.andThen_ok, List.map_toArray, List.map_cons, List.map_nil, hs, hx, hrun]
  exact h v' w' h2 h3 h4
theorem wpList_append_src {ops : Array Oper} {rest : List Oper} {o : Oper} {a : Act} {Q : Exit → Act → World → Prop} (hgd : o.guard = none) (s x : Operand) (t : TypeId)
    (ho : o.op = .call { callee := .builtin .append, args := #[s, x], argTypes := #[t, t] })
    (base : Nat) (e : TypeId) (i : TypeInfo) (z : Value) (size bytes : Nat) (ht : P.underlying t = some (.slice e)) (hi : P.info? e = some i) (hz : i.zero = some z)
    (hsize : i.size = size) (hby : i.bytes = bytes) (hzs : z.cells.size = size) (hsz : 0 < size)
    (v : Value) (n : Nat) (xs : List Value) (hs : a.eval s = v) (hown : w.ownsRow base e size v n xs)
    (y : Value) (m : Nat) (news : List Value) (hx : a.eval x = y) (hsrc : Src w size y m news) (h1 : ∀ u ∈ news, u.oneCell' = true)
    (h63 : n + m ≤ maxLen) (hbytes : (n + m) * bytes ≤ 140737488355328) (hbase : base ≤ w.heap.size)
    (h : ∀ v' w', w'.ownsRow base e size v' (n + m) (xs ++ news) → w.grownBy w' v.ownBlock → (v'.ownBlock = v.ownBlock ∨ v'.ownBlock = some w.heap.size) → wpList P ops Q rest (a.put o.dst v') w') : wpList P ops Q (o :: rest) a w :=
  wpList_plain hgd fun _ hK => wp_append_src w s x t ho base e i z size bytes ht hi hz hsize hby hzs hsz v n xs hs hown y m news hx hsrc h1 h63 hbytes hbase fun v' w' h2 h3 h4 => hK _ _ (h v' w' h2 h3 h4)
theorem step_append_src {ops : Array Oper} {o : Oper} {a : Act} {K : Act → World → Prop} {Q : Exit → Act → World → Prop} {E : Prop} (hgd : o.guard = none) (s x : Operand) (t : TypeId)
    (ho : o.op = .call { callee := .builtin .append, args := #[s, x], argTypes := #[t, t] })
    (base : Nat) (e : TypeId) (i : TypeInfo) (z : Value) (size bytes : Nat) (ht : P.underlying t = some (.slice e)) (hi : P.info? e = some i) (hz : i.zero = some z)
    (hsize : i.size = size) (hby : i.bytes = bytes) (hzs : z.cells.size = size) (hsz : 0 < size)
    (v : Value) (n : Nat) (xs : List Value) (hs : a.eval s = v) (hown : w.ownsRow base e size v n xs)
    (y : Value) (m : Nat) (news : List Value) (hx : a.eval x = y) (hsrc : Src w size y m news) (h1 : ∀ u ∈ news, u.oneCell' = true)
    (h63 : n + m ≤ maxLen) (hbytes : (n + m) * bytes ≤ 140737488355328) (hbase : base ≤ w.heap.size)
    (h : ∀ v' w', w'.ownsRow base e size v' (n + m) (xs ++ news) → w.grownBy w' v.ownBlock → (v'.ownBlock = v.ownBlock ∨ v'.ownBlock = some w.heap.size) → K (a.put o.dst v') w') :
    if Region.wanted o (yielded ops a.tmps) = true then Oper.wp P o a w K Q else E := by
  have hw : Region.wanted o (yielded ops a.tmps) = true := by simp [Region.wanted, hgd]
  rw [if_pos hw]
  exact wp_append_src w s x t ho base e i z size bytes ht hi hz hsize hby hzs hsz v n xs hs hown y m news hx hsrc h1 h63 hbytes hbase h
end
end Go.Proofs.Ytilgpmpiidccjaa

/- The statement PrinterParts. -/
namespace Go.Proofs.Ytilgpmpiidccjaa
open Go.RowKit
open Tr (Nd)

theorem infoNode : (Try.prog.info? 24).map (fun i => (i.zero, i.size, i.bytes)) = some (some (.agg #[.int .i64 0, .string ⟨#[]⟩, .int .i64 0, .slice none 0 0]), 4, 56) := by kernel_rfl

/-- Since w3 nothing has turned, and the call owns a row. -/
def St3 (w3 W : World) (e : TypeId) (size : Nat) (v : Value) (n : Nat) (cs : List Value) : Prop := Fresh w3 W ∧ W.ownsRow w3.heap.size e size v n cs
/-- A block of the call's own that is not the row. -/
def Z3 (w3 W : World) (v : Value) (t : TypeId) (zs : Array Value) (g : Nat) : Prop := Blk W g t zs ∧ w3.heap.size ≤ g ∧ v.ownBlock ≠ some g
section
variable {w3 W W' : World} {e t : TypeId} {size n m g : Nat} {v v' : Value} {cs ds : List Value} {zs : Array Value}
theorem own_empty (h : Blk W g e #[]) (hB : w3.heap.size ≤ g) : W.ownsRow w3.heap.size e size (.slice (some ⟨g, 0, none⟩) 0 0) 0 [] :=
  ⟨by simp, .inr ⟨g, 0, #[], rfl, hB, h, Nat.le_refl _, by unfold maxLen; omega, by simp, by simp⟩⟩
theorem St3.e1 (w3 : World) (e : TypeId) (size : Nat) : St3 w3 ((w3.alloc (.cells #[] e)).drew) e size (.slice (some ⟨w3.heap.size, 0, none⟩) 0 0) 0 [] := ⟨((Touch.refl _ _).alloc _).drew, own_empty (W := (w3.alloc (.cells #[] e)).drew) (Blk.new w3 e #[]) (Nat.le_refl _)⟩
theorem St3.e2 (w3 : World) (o : Obj) (e : TypeId) (size : Nat) : St3 w3 (((w3.alloc o).alloc (.cells #[] e)).drew) e size (.slice (some ⟨w3.heap.size + 1, 0, none⟩) 0 0) 0 [] := ⟨(((Touch.refl _ _).alloc _).alloc _).drew, own_empty (W := ((w3.alloc o).alloc (.cells #[] e)).drew) (Blk.new2 w3 o e #[]) (by omega)⟩
theorem St3.e3 (w3 : World) (o : Obj) (e : TypeId) (size : Nat) : St3 w3 (((w3.alloc (.cells #[] e)).alloc o).drew) e size (.slice (some ⟨w3.heap.size, 0, none⟩) 0 0) 0 [] := ⟨(((Touch.refl _ _).alloc _).alloc _).drew, own_empty (W := ((w3.alloc (.cells #[] e)).alloc o).drew) ((Blk.new w3 e #[]).alloc o) (Nat.le_refl _)⟩
theorem Z3.e2 (w3 : World) (e t : TypeId) (zs : Array Value) : Z3 w3 (((w3.alloc (.cells zs t)).alloc (.cells #[] e)).drew) (.slice (some ⟨w3.heap.size + 1, 0, none⟩) 0 0) t zs w3.heap.size := ⟨((Blk.new w3 t zs).alloc _), Nat.le_refl _, by simp [Value.ownBlock]⟩
theorem Z3.e3 (w3 : World) (e t : TypeId) (zs : Array Value) : Z3 w3 (((w3.alloc (.cells #[] e)).alloc (.cells zs t)).drew) (.slice (some ⟨w3.heap.size, 0, none⟩) 0 0) t zs (w3.heap.size + 1) := ⟨Blk.new2 w3 _ t zs, by omega, by simp [Value.ownBlock]⟩
theorem St3.append (h : St3 w3 W e size v n cs) (ho : W'.ownsRow w3.heap.size e size v' m ds) (hg : W.grownBy W' v.ownBlock) : St3 w3 W' e size v' m ds := ⟨h.1.grown hg fun g hg => .inr (h.2.lt g hg).1, ho⟩
theorem Z3.append (z : Z3 w3 W v t zs g) (hg : W.grownBy W' v.ownBlock) (hat : v'.ownBlock = v.ownBlock ∨ v'.ownBlock = some W.heap.size) : Z3 w3 W' v' t zs g := by
  refine ⟨(hg.block g z.1.lt (fun e => z.2.2 e.symm)).trans z.1, z.2.1, ?_⟩
  rcases hat with h | h
  · rw [h]; exact z.2.2
  · rw [h]
    have := z.1.lt
    simp
    omega
theorem St3.fresh (h : St3 w3 W e size v n cs) (hf : Fresh W W') : St3 w3 W' e size v n cs := ⟨h.1.trans hf, ownsRow_touch h.2 hf fun _ _ h => h⟩
theorem Z3.fresh (z : Z3 w3 W v t zs g) (hf : Fresh W W') : Z3 w3 W' v t zs g := ⟨hf.blk z.1 (fun h => h), z.2⟩
theorem St3.alloc (h : St3 w3 W e size v n cs) (o : Obj) : St3 w3 (W.alloc o) e size v n cs := h.fresh ((Touch.refl _ _).alloc o)
theorem Z3.new (h : St3 w3 W e size v n cs) (t : TypeId) (zs : Array Value) : Z3 w3 (W.alloc (.cells zs t)) v t zs W.heap.size := ⟨Blk.new _ _ _, h.1.size, fun hk => by have := (h.2.lt _ hk).2; omega⟩
theorem St3.cell (h : St3 w3 W e size v n cs) {p : Addr} {u : Value} (hc : w3.cell? p = some u) : W.cell? p = some u := h.1.cell hc (fun h => h)
theorem St3.put4 (h : St3 w3 W e size v n cs) (z : Z3 w3 W v t zs g) (a b c d : Value) : St3 w3 ((((W.setCell ⟨g, 0, none⟩ a).setCell ⟨g, 1, none⟩ b).setCell ⟨g, 2, none⟩ c).setCell ⟨g, 3, none⟩ d) e size v n cs := by
  have hT : ∀ S : Nat → Prop, S g ∨ W.heap.size ≤ g → Touch S W ((((W.setCell ⟨g, 0, none⟩ a).setCell ⟨g, 1, none⟩ b).setCell ⟨g, 2, none⟩ c).setCell ⟨g, 3, none⟩ d) := fun S hS =>
    ((((Touch.refl S W).setCell (p := ⟨g, 0, none⟩) hS _).setCell (p := ⟨g, 1, none⟩) hS _).setCell (p := ⟨g, 2, none⟩) hS _).setCell (p := ⟨g, 3, none⟩) hS _
  exact ⟨h.1.trans' (hT (fun k => k = g) (.inl rfl)) (fun i hi => .inr (hi ▸ z.2.1)), ownsRow_touch h.2 (hT (fun k => k = g) (.inl rfl)) (fun k hk hs => z.2.2 (hs ▸ hk))⟩
theorem St3.fr (h : St3 w3 W e size v n cs) : Fresh w3 W := h.1
theorem Z3.put4 {z0 z1 z2 z3 : Value} (z : Z3 w3 W v t #[z0, z1, z2, z3] g) (a b c d : Value) : Blk ((((W.setCell ⟨g, 0, none⟩ a).setCell ⟨g, 1, none⟩ b).setCell ⟨g, 2, none⟩ c).setCell ⟨g, 3, none⟩ d) g t #[a, b, c, d] := (((z.1.put 0 a).put 1 b).put 2 c).put 3 d
theorem St3.slice (h : St3 w3 W e size v n cs) : ∃ A c, v = .slice A n c := by
  rcases h.2.2 with ⟨h1, h2⟩ | ⟨g, cap, cur, h1, _⟩
  · exact ⟨none, 0, by rw [h1, h2]⟩
  · exact ⟨_, _, h1⟩
end
theorem Blk.drew {w : World} {g : Nat} {t : TypeId} {cs : Array Value} (h : Blk w g t cs) : Blk w.drew g t cs := h
theorem RepL.src {W : World} {ks : List Nd} {v : Value} (h : RepL W ks v) : ∃ cs, NodesAt W ks cs ∧ Src W 4 v ks.length cs := by
  obtain ⟨A, cap, rfl⟩ := h.slice
  obtain ⟨_, cs, hc, hA⟩ := h.cells
  refine ⟨cs, hc, A, cap, rfl, hc.length, ?_⟩
  rcases hA with rfl | ⟨g, o, rfl, _, hx⟩
  · have h0 : cs = [] := hc
    cases A with
    | none => exact .inl ⟨rfl, rfl, h0⟩
    | some ad => exact .inr ⟨ad, rfl, fun j u hu => by rw [h0] at hu; simp at hu⟩
  · exact .inr ⟨_, rfl, fun j u hu => by rw [Addr.add_mid]; exact hx j u hu⟩

theorem both_rep {w3 W : World} {a b : Nd} {v : Value} {csa csb : List Value} (h : St3 w3 W 24 4 v (a.kids.length + b.kids.length) (csa ++ csb)) (na : NodesAt w3 a.kids csa) (nb : NodesAt w3 b.kids csb) : RepL W (a.kids ++ b.kids) v := by
  have ho := h.2
  rw [← List.length_append] at ho
  exact ((na.append nb).fresh h.1).own ho

theorem toRow_any (A : Option Addr) (n cap : Nat) (w : World) : Calls Try.prog 23 #[.slice A n cap] w fun e w' => e = .returned (.agg #[.int .i64 1, .string ⟨#[]⟩, .int .i64 0, .slice A n cap]) ∧ Fresh w w' := by
  go_enter Try.func23, Try.ntmps23
  go_wp2_with fail
  exact bodyPost_ret (v := .agg #[.int .i64 1, .string ⟨#[]⟩, .int .i64 0, .slice A n cap]) (by simp [results, Try.results23, go_sem]) rfl ⟨rfl, (Touch.refl _ _).alloc _⟩

theorem ptok_one (l : List Lx.PTok) : ∀ u ∈ l.flatMap ptokCells, u.oneCell' = true := by
  intro u hu
  obtain ⟨x, _, hx⟩ := List.mem_flatMap.1 hu
  simp only [ptokCells, List.mem_cons, List.not_mem_nil, or_false] at hx
  rcases hx with rfl | rfl | rfl | rfl <;> rfl
theorem countL_app (l m : List Nd) : Tr.countL (l ++ m) = Tr.countL l + Tr.countL m := by
  induction l with
  | nil => simp [Tr.countL]
  | cons x l ih => rw [List.cons_append, Tr.countL, Tr.countL, ih]; omega
theorem both_count (a b : Nd) : Tr.count (Nd.mk 1 [] 0 (a.kids ++ b.kids)) + 1 = Tr.count a + Tr.count b := by
  have h1 := Tr.count_kids a
  have h2 := Tr.count_kids b
  rw [Tr.count, countL_app]
  omega
theorem printT_len (n : Nd) (hc : Tr.count n ≤ 800) : (printT n).length ≤ 2400 := by
  unfold printT
  split
  · rename_i hv
    rw [← List.length_map (f := Lx.tok), Lx.placed_toks, Tr.sepd_toks]
    have := row_len n (Tr.valid_row n hv)
    omega
  · simp
theorem text_size (n : Nd) (hc : Tr.count n ≤ 800) : (⟨(printS n).toArray⟩ : ByteArray).size ≤ 1000000000 := by
  rw [byteSize]
  unfold printS
  split
  · rename_i hv
    have hf := (row_fits n (Tr.valid_row n hv) hc).2
    rw [adds_wtext] at hf
    exact Nat.le_trans hf (by decide)
  · simp
theorem rowT_app (l m : List Nd) : Tr.rowT (l ++ m) = Tr.rowT l ++ Tr.rowT m := by
  induction l with
  | nil => rw [Tr.rowT_nil]; rfl
  | cons x l ih => rw [List.cons_append, Tr.rowT_cons, Tr.rowT_cons, ih, List.append_assoc]
theorem same_of_tok : ∀ (xs ys : List Lx.PTok), xs.map Lx.tok = ys.map Lx.tok → Lx.sameL xs ys false = true
  | [], [], _ => rfl
  | x :: xs, y :: ys, h => by
    simp only [List.map_cons, List.cons.injEq] at h
    rw [Lx.sameL, same_of_tok xs ys h.2]
    have h1 := h.1
    simp only [Lx.tok, Lx.Tok.mk.injEq] at h1
    simp [Lx.sameT, h1.1, h1.2]
  | [], _ :: _, h => by simp at h
  | _ :: _, [], h => by simp at h
theorem same_refl : ∀ (xs : List Lx.PTok), Lx.sameL xs xs true = true
  | [] => rfl
  | x :: xs => by rw [Lx.sameL, same_refl xs]; simp [Lx.sameT]
/-- The plain law. -/
theorem parts_plain (a b : Nd) (ha : Tr.valid a = true) (hb : Tr.valid b = true) (hc : Tr.valid (Nd.mk 1 [] 0 (a.kids ++ b.kids)) = true) :
    Lx.sameL (printT a ++ printT b) (printT (Nd.mk 1 [] 0 (a.kids ++ b.kids))) false = true ∧ Lx.sameL (printT (Nd.mk 1 [] 0 (a.kids ++ b.kids))) (printT (Nd.mk 1 [] 0 (a.kids ++ b.kids))) true = true ∧
    Lx.lexAll (⟨(printS (Nd.mk 1 [] 0 (a.kids ++ b.kids))).toArray⟩ : ByteArray).data.toList = (printT (Nd.mk 1 [] 0 (a.kids ++ b.kids)), none) := by
  refine ⟨same_of_tok _ _ ?_, same_refl _, ?_⟩
  · unfold printT
    rw [if_pos ha, if_pos hb, if_pos hc, List.map_append, Lx.placed_toks, Lx.placed_toks, Lx.placed_toks, Tr.sepd_toks, Tr.sepd_toks, Tr.sepd_toks]
    exact (rowT_app _ _).symm
  · unfold printT printS
    rw [if_pos hc, if_pos hc]
    exact Tr.wtext_lex _ (Tr.row_ok _ (Tr.valid_row _ hc))

set_option maxRecDepth 100000 in
set_option maxHeartbeats 8000000 in
theorem parts_any (a b : Nd) (sa sb : Value) (w : World) (ra : RepL w a.kids sa) (rb : RepL w b.kids sb) (ta : a.text.length ≤ maxLen) (tb : b.text.length ≤ maxLen) (ha : (Tr.count a : Int) ≤ 300) (hb : (Tr.count b : Int) ≤ 300) :
    Calls Try.prog 6 #[nv a sa, nv b sb] w fun e w' => e = .returned (.bool true) ∧ Fresh w w' := by
  have da : decide ((Tr.count a : Int) ≤ 300) = true := by simpa using ha
  have db : decide ((Tr.count b : Int) ≤ 300) = true := by simpa using hb
  obtain ⟨i0, hi, hz0, hz1, hz2⟩ := info_parts infoNode
  have Ra := hid ra
  have Rb := hid rb
  have hka : a.kids.length ≤ 300 := by have := Tr.count_kids a; have := Tr.countL_len a.kids; omega
  have hkb : b.kids.length ≤ 300 := by have := Tr.count_kids b; have := Tr.countL_len b.kids; omega
  clear ra rb
  go_enter Try.func6, Try.ntmps6
  go_wp2_with fail
  refine (awake21_any _).mono ?_
  rintro _ w1 ⟨rfl, hf1⟩
  have A1 := hf1.blk ((Blk.new _ _ _).alloc _) (fun h => h)
  have B1 := hf1.blk (Blk.new2 _ _ _ _) (fun h => h)
  have HF1 := hid (Touch.pre (Touch.pre hf1))
  obtain ⟨q0, q1, q2, q3, _, _, _, _, hga⟩ := Blk.four A1
  obtain ⟨p0, p1, p2, p3, _, _, _, _, hgb⟩ := Blk.four B1
  have HA1 := hid A1
  have HB1 := hid B1
  clear hf1 A1 B1
  go_wp2_with fail
  refine (few21_any a sa _ (Ra.out.fresh HF1.out)).mono ?_
  rintro _ w2 ⟨rfl, hf2⟩
  have A2 := hf2.blk HA1.out (fun h => h)
  have B2 := hf2.blk HB1.out (fun h => h)
  have HF2 := hid (HF1.out.trans hf2)
  clear q0 q1 q2 q3 p0 p1 p2 p3 hga hgb
  obtain ⟨q0, q1, q2, q3, _, _, _, _, hga⟩ := Blk.four A2
  obtain ⟨p0, p1, p2, p3, _, _, _, _, hgb⟩ := Blk.four B2
  have HA2 := hid A2
  have HB2 := hid B2
  clear hf2 A2 B2
  go_wp2_with fail
  refine (few21_any b sb _ (Rb.out.fresh HF2.out)).mono ?_
  rintro _ w3 ⟨rfl, hf3⟩
  have A3 := hf3.blk HA2.out (fun h => h)
  have B3 := hf3.blk HB2.out (fun h => h)
  have HF3 := hid (HF2.out.trans hf3)
  clear q0 q1 q2 q3 p0 p1 p2 p3 hga hgb
  obtain ⟨q0, q1, q2, q3, _, _, _, _, hga⟩ := Blk.four A3
  obtain ⟨p0, p1, p2, p3, _, _, _, _, hgb⟩ := Blk.four B3
  have HA3 := hid A3
  have HB3 := hid B3
  clear hf3 A3 B3
  obtain ⟨csa, hna, hsa⟩ := (Ra.out.fresh HF3.out).src
  obtain ⟨csb, hnb, hsb⟩ := (Rb.out.fresh HF3.out).src
  have NA := hid hna
  have NB := hid hnb
  have SA := hid hsa
  have SB := hid hsb
  have OA := hid hna.oneCell
  have OB := hid hnb.oneCell
  clear hna hnb hsa hsb
  go_upto_region 3 with (fail)
  go_cut [5] (fun t5 wx => ∃ (g : Nat) (v : Value), t5 = .pointer (some ⟨g, 0, none⟩) ∧ Hid (Blk wx g 24 #[.int .i64 1, .string ⟨#[]⟩, .int .i64 0, v]) ∧ Hid (RepL wx (a.kids ++ b.kids) v) ∧ Hid (Fresh w3 wx))
  case first =>
    go_region_held3 (fun w' => w'.cell? ⟨w.heap.size, 3, none⟩ = some sa ∧ w'.cell? ⟨w.heap.size + 1, 3, none⟩ = some sb) (first | with_reducible exact ⟨HS4.out.cell q3, HS4.out.cell p3⟩ | with_reducible exact ⟨HS5.out.cell q3, HS5.out.cell p3⟩ | with_reducible exact ⟨HS6.out.cell q3, HS6.out.cell p3⟩ | with_reducible exact ⟨(HS4.out.alloc _).cell q3, (HS4.out.alloc _).cell p3⟩ | with_reducible exact ⟨(HS5.out.alloc _).cell q3, (HS5.out.alloc _).cell p3⟩ | with_reducible exact ⟨(HS6.out.alloc _).cell q3, (HS6.out.alloc _).cell p3⟩ | with_reducible exact ⟨(St3.put4 HS6.out HZ6.out _ _ _ _).cell q3, (St3.put4 HS6.out HZ6.out _ _ _ _).cell p3⟩ | go_keep)
      (first
        | (refine step_append_src _ rfl (.tmp 30) (.tmp 32) 22 rfl w3.heap.size 24 i0 _ 4 56 Try.underlying22 hi hz0 hz1 hz2 rfl (by decide) (.slice (some ⟨w3.heap.size, 0, none⟩) 0 0) 0 [] (by simp [Act.eval]) (St3.e1 w3 24 4).2 sa a.kids.length csa (by simp [Act.eval]) (SA.out.fresh (St3.e1 w3 24 4).1) OA.out (by unfold maxLen; omega) (by omega) (Touch.size (St3.e1 w3 24 4).1) ?_; intro v1 w4 ho1 hg4 hat4; rw [Nat.zero_add, List.nil_append] at ho1; have HS4 := hid ((St3.e1 w3 24 4).append ho1 hg4); clear ho1 hg4 hat4)
        | (refine step_append_src _ rfl (.tmp 30) (.tmp 32) 22 rfl w3.heap.size 24 i0 _ 4 56 Try.underlying22 hi hz0 hz1 hz2 rfl (by decide) (.slice (some ⟨w3.heap.size + 1, 0, none⟩) 0 0) 0 [] (by simp [Act.eval]) (St3.e2 w3 (.cells #[.int .i64 0, .string ⟨#[]⟩, .int .i64 0, .slice none 0 0] 24) 24 4).2 sa a.kids.length csa (by simp [Act.eval]) (SA.out.fresh (St3.e2 w3 (.cells #[.int .i64 0, .string ⟨#[]⟩, .int .i64 0, .slice none 0 0] 24) 24 4).1) OA.out (by unfold maxLen; omega) (by omega) (Touch.size (St3.e2 w3 (.cells #[.int .i64 0, .string ⟨#[]⟩, .int .i64 0, .slice none 0 0] 24) 24 4).1) ?_; intro v1 w4 ho1 hg4 hat4; rw [Nat.zero_add, List.nil_append] at ho1; have HS4 := hid ((St3.e2 w3 (.cells #[.int .i64 0, .string ⟨#[]⟩, .int .i64 0, .slice none 0 0] 24) 24 4).append ho1 hg4); have HZ4 := hid ((Z3.e2 w3 24 24 #[.int .i64 0, .string ⟨#[]⟩, .int .i64 0, .slice none 0 0]).append hg4 hat4); clear ho1 hg4 hat4)
        | (refine step_append_src _ rfl (.tmp 30) (.tmp 32) 22 rfl w3.heap.size 24 i0 _ 4 56 Try.underlying22 hi hz0 hz1 hz2 rfl (by decide) (.slice (some ⟨w3.heap.size, 0, none⟩) 0 0) 0 [] (by simp [Act.eval]) (St3.e3 w3 (.cells #[.int .i64 0, .string ⟨#[]⟩, .int .i64 0, .slice none 0 0] 24) 24 4).2 sa a.kids.length csa (by simp [Act.eval]) (SA.out.fresh (St3.e3 w3 (.cells #[.int .i64 0, .string ⟨#[]⟩, .int .i64 0, .slice none 0 0] 24) 24 4).1) OA.out (by unfold maxLen; omega) (by omega) (Touch.size (St3.e3 w3 (.cells #[.int .i64 0, .string ⟨#[]⟩, .int .i64 0, .slice none 0 0] 24) 24 4).1) ?_; intro v1 w4 ho1 hg4 hat4; rw [Nat.zero_add, List.nil_append] at ho1; have HS4 := hid ((St3.e3 w3 (.cells #[.int .i64 0, .string ⟨#[]⟩, .int .i64 0, .slice none 0 0] 24) 24 4).append ho1 hg4); have HZ4 := hid ((Z3.e3 w3 24 24 #[.int .i64 0, .string ⟨#[]⟩, .int .i64 0, .slice none 0 0]).append hg4 hat4); clear ho1 hg4 hat4)
        | (refine step_append_src _ rfl (.tmp 33) (.tmp 35) 22 rfl w3.heap.size 24 i0 _ 4 56 Try.underlying22 hi hz0 hz1 hz2 rfl (by decide) v1 a.kids.length csa (by simp [Act.eval]) (HS4.out).2 sb b.kids.length csb (by simp [Act.eval]) (SB.out.fresh (HS4.out).1) OB.out (by unfold maxLen; omega) (by omega) (Touch.size (HS4.out).1) ?_; intro v2 w5 ho2 hg5 hat5; have HS5 := hid ((HS4.out).append ho2 hg5); (first | have HZ5 := hid (HZ4.out.append hg5 hat5) | skip); clear ho2 hg5 hat5; obtain ⟨A2, c2, rfl⟩ := HS5.out.slice)
        | (refine step_append_src _ rfl (.tmp 33) (.tmp 35) 22 rfl w3.heap.size 24 i0 _ 4 56 Try.underlying22 hi hz0 hz1 hz2 rfl (by decide) v1 a.kids.length csa (by simp [Act.eval]) (HS4.out.alloc (.cells #[.int .i64 0, .string ⟨#[]⟩, .int .i64 0, .slice none 0 0] 24)).2 sb b.kids.length csb (by simp [Act.eval]) (SB.out.fresh (HS4.out.alloc (.cells #[.int .i64 0, .string ⟨#[]⟩, .int .i64 0, .slice none 0 0] 24)).1) OB.out (by unfold maxLen; omega) (by omega) (Touch.size (HS4.out.alloc (.cells #[.int .i64 0, .string ⟨#[]⟩, .int .i64 0, .slice none 0 0] 24)).1) ?_; intro v2 w5 ho2 hg5 hat5; have HS5 := hid ((HS4.out.alloc (.cells #[.int .i64 0, .string ⟨#[]⟩, .int .i64 0, .slice none 0 0] 24)).append ho2 hg5); have HZ5 := hid ((Z3.new HS4.out 24 #[.int .i64 0, .string ⟨#[]⟩, .int .i64 0, .slice none 0 0]).append hg5 hat5); clear ho2 hg5 hat5; obtain ⟨A2, c2, rfl⟩ := HS5.out.slice)
        | (go_simp; go_at_call 23; refine (toRow_any _ _ _ _).mono ?_; rintro _ w6 ⟨rfl, hf6⟩; have HS6 := hid ((HS5.out).fresh hf6); (first | (obtain ⟨z0, z1, z2, z3, y0, y1, y2, y3, _⟩ := Blk.four (HZ5.out.fresh hf6).1; have HZ6 := hid (HZ5.out.fresh hf6)) | skip); clear hf6)
        | (go_simp; go_at_call 23; refine (toRow_any _ _ _ _).mono ?_; rintro _ w6 ⟨rfl, hf6⟩; have HS6 := hid ((HS5.out.alloc (.cells #[.int .i64 0, .string ⟨#[]⟩, .int .i64 0, .slice none 0 0] 24)).fresh hf6); (obtain ⟨z0, z1, z2, z3, y0, y1, y2, y3, _⟩ := Blk.four ((Z3.new HS5.out 24 #[.int .i64 0, .string ⟨#[]⟩, .int .i64 0, .slice none 0 0]).fresh hf6).1; have HZ6 := hid ((Z3.new HS5.out 24 #[.int .i64 0, .string ⟨#[]⟩, .int .i64 0, .slice none 0 0]).fresh hf6)); clear hf6))
    all_goals (go_wp2_with fail)
    all_goals go_meet
    all_goals first
      | with_reducible exact ⟨_, _, rfl, hid (Blk.new _ _ _), hid (both_rep (HS6.out.alloc _) NA.out NB.out), hid (HS6.out.alloc _).fr⟩
      | with_reducible exact ⟨_, _, rfl, hid (Z3.put4 HZ6.out _ _ _ _), hid (both_rep (St3.put4 HS6.out HZ6.out _ _ _ _) NA.out NB.out), hid (St3.put4 HS6.out HZ6.out _ _ _ _).fr⟩
  case rest =>
    obtain ⟨g, v, rfl, HB5, HR5, HF5⟩ := hcut
    obtain ⟨A, cap, rfl⟩ := HR5.out.slice
    rw [List.length_append] at HB5 HR5
    have HXwc := hid (HF3.out.trans HF5.out)
    clear q0 q1 q2 q3 p0 p1 p2 p3 hga hgb
    have Ha_wc := hid (HF5.out.blk HA3.out (fun h => h))
    have qa0 := Blk.cell Ha_wc.out 0
    have qa1 := Blk.cell Ha_wc.out 1
    have qa2 := Blk.cell Ha_wc.out 2
    have qa3 := Blk.cell Ha_wc.out 3
    have ga := Blk.lt Ha_wc.out
    have Hb_wc := hid (HF5.out.blk HB3.out (fun h => h))
    have qb0 := Blk.cell Hb_wc.out 0
    have qb1 := Blk.cell Hb_wc.out 1
    have qb2 := Blk.cell Hb_wc.out 2
    have qb3 := Blk.cell Hb_wc.out 3
    have gb := Blk.lt Hb_wc.out
    have Hc_wc := hid (HB5.out)
    have qc0 := Blk.cell Hc_wc.out 0
    have qc1 := Blk.cell Hc_wc.out 1
    have qc2 := Blk.cell Hc_wc.out 2
    have qc3 := Blk.cell Hc_wc.out 3
    have gc := Blk.lt Hc_wc.out
    have hcb := both_count a b
    have HWwc := hid (Touch.refl (fun _ => False) wc)
    go_wp2_with fail
    refine Calls.mono (rValid_any a sa _ (Ra.out.fresh HXwc.out) ta (by omega)) ?_
    rintro _ W1 ⟨rfl, hf⟩
    clear qa0 qa1 qa2 qa3 qb0 qb1 qb2 qb3 qc0 qc1 qc2 qc3 ga gb gc
    have HXW1 := hid (HXwc.out.trans hf)
    have HWW1 := hid (HWwc.out.trans hf)
    have Ha_W1 := hid (hf.blk Ha_wc.out (fun h => h))
    have qa0 := Blk.cell Ha_W1.out 0
    have qa1 := Blk.cell Ha_W1.out 1
    have qa2 := Blk.cell Ha_W1.out 2
    have qa3 := Blk.cell Ha_W1.out 3
    have ga := Blk.lt Ha_W1.out
    have Hb_W1 := hid (hf.blk Hb_wc.out (fun h => h))
    have qb0 := Blk.cell Hb_W1.out 0
    have qb1 := Blk.cell Hb_W1.out 1
    have qb2 := Blk.cell Hb_W1.out 2
    have qb3 := Blk.cell Hb_W1.out 3
    have gb := Blk.lt Hb_W1.out
    have Hc_W1 := hid (hf.blk Hc_wc.out (fun h => h))
    have qc0 := Blk.cell Hc_W1.out 0
    have qc1 := Blk.cell Hc_W1.out 1
    have qc2 := Blk.cell Hc_W1.out 2
    have qc3 := Blk.cell Hc_W1.out 3
    have gc := Blk.lt Hc_W1.out
    clear hf
    cases hva : Tr.valid a with
    | false =>
      go_wp2_with fail
      go_ret
      exact ⟨rfl, HXW1.out⟩
    | true =>
      go_wp2_with fail
      refine Calls.mono (rValid_any b sb _ (Rb.out.fresh HXW1.out) tb (by omega)) ?_
      rintro _ W2 ⟨rfl, hf⟩
      clear qa0 qa1 qa2 qa3 qb0 qb1 qb2 qb3 qc0 qc1 qc2 qc3 ga gb gc
      have HXW2 := hid (HXW1.out.trans hf)
      have HWW2 := hid (HWW1.out.trans hf)
      have Ha_W2 := hid (hf.blk Ha_W1.out (fun h => h))
      have qa0 := Blk.cell Ha_W2.out 0
      have qa1 := Blk.cell Ha_W2.out 1
      have qa2 := Blk.cell Ha_W2.out 2
      have qa3 := Blk.cell Ha_W2.out 3
      have ga := Blk.lt Ha_W2.out
      have Hb_W2 := hid (hf.blk Hb_W1.out (fun h => h))
      have qb0 := Blk.cell Hb_W2.out 0
      have qb1 := Blk.cell Hb_W2.out 1
      have qb2 := Blk.cell Hb_W2.out 2
      have qb3 := Blk.cell Hb_W2.out 3
      have gb := Blk.lt Hb_W2.out
      have Hc_W2 := hid (hf.blk Hc_W1.out (fun h => h))
      have qc0 := Blk.cell Hc_W2.out 0
      have qc1 := Blk.cell Hc_W2.out 1
      have qc2 := Blk.cell Hc_W2.out 2
      have qc3 := Blk.cell Hc_W2.out 3
      have gc := Blk.lt Hc_W2.out
      clear hf
      cases hvb : Tr.valid b with
      | false =>
        go_wp2_with fail
        go_ret
        exact ⟨rfl, HXW2.out⟩
      | true =>
        go_wp2_with fail
        refine Calls.mono (rValid_any (Nd.mk 1 [] 0 (a.kids ++ b.kids)) _ _ (HR5.out.fresh (show Fresh wc _ from HWW2.out)) (Nat.zero_le _) (by omega)) ?_
        rintro _ W3 ⟨rfl, hf⟩
        clear qa0 qa1 qa2 qa3 qb0 qb1 qb2 qb3 qc0 qc1 qc2 qc3 ga gb gc
        have HXW3 := hid (HXW2.out.trans hf)
        have HWW3 := hid (HWW2.out.trans hf)
        have Ha_W3 := hid (hf.blk Ha_W2.out (fun h => h))
        have qa0 := Blk.cell Ha_W3.out 0
        have qa1 := Blk.cell Ha_W3.out 1
        have qa2 := Blk.cell Ha_W3.out 2
        have qa3 := Blk.cell Ha_W3.out 3
        have ga := Blk.lt Ha_W3.out
        have Hb_W3 := hid (hf.blk Hb_W2.out (fun h => h))
        have qb0 := Blk.cell Hb_W3.out 0
        have qb1 := Blk.cell Hb_W3.out 1
        have qb2 := Blk.cell Hb_W3.out 2
        have qb3 := Blk.cell Hb_W3.out 3
        have gb := Blk.lt Hb_W3.out
        have Hc_W3 := hid (hf.blk Hc_W2.out (fun h => h))
        have qc0 := Blk.cell Hc_W3.out 0
        have qc1 := Blk.cell Hc_W3.out 1
        have qc2 := Blk.cell Hc_W3.out 2
        have qc3 := Blk.cell Hc_W3.out 3
        have gc := Blk.lt Hc_W3.out
        clear hf
        cases hvc : Tr.valid (Nd.mk 1 [] 0 (a.kids ++ b.kids)) with
        | false =>
          go_wp2_with fail
          go_ret
          exact ⟨rfl, HXW3.out⟩
        | true =>
          have PAR := hid (parts_plain a b hva hvb hvc)
          have HVA := hid hva
          have HVB := hid hvb
          have HVC := hid hvc
          have hea : printE a = 0 := by unfold printE; rw [hva]; rfl
          have heb : printE b = 0 := by unfold printE; rw [hvb]; rfl
          have hec : printE (Nd.mk 1 [] 0 (a.kids ++ b.kids)) = 0 := by unfold printE; rw [hvc]; rfl
          have HLA := hid (printT_len a (by omega))
          have HLB := hid (printT_len b (by omega))
          have HLC := hid (printT_len (Nd.mk 1 [] 0 (a.kids ++ b.kids)) (by omega))
          clear hva hvb hvc
          go_wp2_with fail
          refine Calls.mono (ptokens_any a sa _ (Ra.out.fresh HXW3.out) ta (by omega)) ?_
          rintro _ W4 ⟨vx, rfl, ho, hf⟩
          clear qa0 qa1 qa2 qa3 qb0 qb1 qb2 qb3 qc0 qc1 qc2 qc3 ga gb gc
          have HXW4 := hid (HXW3.out.trans hf)
          have HWW4 := hid (HWW3.out.trans hf)
          have Tx_W4 := hid (owns_row (show W4.ownsRow _ _ 4 _ _ _ from ho))
          clear ho
          have Ha_W4 := hid (hf.blk Ha_W3.out (fun h => h))
          have qa0 := Blk.cell Ha_W4.out 0
          have qa1 := Blk.cell Ha_W4.out 1
          have qa2 := Blk.cell Ha_W4.out 2
          have qa3 := Blk.cell Ha_W4.out 3
          have ga := Blk.lt Ha_W4.out
          have Hb_W4 := hid (hf.blk Hb_W3.out (fun h => h))
          have qb0 := Blk.cell Hb_W4.out 0
          have qb1 := Blk.cell Hb_W4.out 1
          have qb2 := Blk.cell Hb_W4.out 2
          have qb3 := Blk.cell Hb_W4.out 3
          have gb := Blk.lt Hb_W4.out
          have Hc_W4 := hid (hf.blk Hc_W3.out (fun h => h))
          have qc0 := Blk.cell Hc_W4.out 0
          have qc1 := Blk.cell Hc_W4.out 1
          have qc2 := Blk.cell Hc_W4.out 2
          have qc3 := Blk.cell Hc_W4.out 3
          have gc := Blk.lt Hc_W4.out
          clear hf
          rw [hea]
          go_wp2_with fail
          refine Calls.mono (ptokens_any b sb _ (Rb.out.fresh HXW4.out) tb (by omega)) ?_
          rintro _ W5 ⟨vy, rfl, ho, hf⟩
          clear qa0 qa1 qa2 qa3 qb0 qb1 qb2 qb3 qc0 qc1 qc2 qc3 ga gb gc
          have HXW5 := hid (HXW4.out.trans hf)
          have HWW5 := hid (HWW4.out.trans hf)
          have Tx_W5 := hid (Tx_W4.out.fresh hf)
          have Ty_W5 := hid (owns_row (show W5.ownsRow _ _ 4 _ _ _ from ho))
          clear ho
          have Ha_W5 := hid (hf.blk Ha_W4.out (fun h => h))
          have qa0 := Blk.cell Ha_W5.out 0
          have qa1 := Blk.cell Ha_W5.out 1
          have qa2 := Blk.cell Ha_W5.out 2
          have qa3 := Blk.cell Ha_W5.out 3
          have ga := Blk.lt Ha_W5.out
          have Hb_W5 := hid (hf.blk Hb_W4.out (fun h => h))
          have qb0 := Blk.cell Hb_W5.out 0
          have qb1 := Blk.cell Hb_W5.out 1
          have qb2 := Blk.cell Hb_W5.out 2
          have qb3 := Blk.cell Hb_W5.out 3
          have gb := Blk.lt Hb_W5.out
          have Hc_W5 := hid (hf.blk Hc_W4.out (fun h => h))
          have qc0 := Blk.cell Hc_W5.out 0
          have qc1 := Blk.cell Hc_W5.out 1
          have qc2 := Blk.cell Hc_W5.out 2
          have qc3 := Blk.cell Hc_W5.out 3
          have gc := Blk.lt Hc_W5.out
          clear hf
          rw [heb]
          go_wp2_with fail
          refine Calls.mono (ptokens_any (Nd.mk 1 [] 0 (a.kids ++ b.kids)) _ _ (HR5.out.fresh HWW5.out) (Nat.zero_le _) (by omega)) ?_
          rintro _ W6 ⟨vz, rfl, ho, hf⟩
          clear qa0 qa1 qa2 qa3 qb0 qb1 qb2 qb3 qc0 qc1 qc2 qc3 ga gb gc
          have HXW6 := hid (HXW5.out.trans hf)
          have HWW6 := hid (HWW5.out.trans hf)
          have Tx_W6 := hid (Tx_W5.out.fresh hf)
          have Ty_W6 := hid (Ty_W5.out.fresh hf)
          have Tz_W6 := hid (owns_row (show W6.ownsRow _ _ 4 _ _ _ from ho))
          clear ho
          have Ha_W6 := hid (hf.blk Ha_W5.out (fun h => h))
          have qa0 := Blk.cell Ha_W6.out 0
          have qa1 := Blk.cell Ha_W6.out 1
          have qa2 := Blk.cell Ha_W6.out 2
          have qa3 := Blk.cell Ha_W6.out 3
          have ga := Blk.lt Ha_W6.out
          have Hb_W6 := hid (hf.blk Hb_W5.out (fun h => h))
          have qb0 := Blk.cell Hb_W6.out 0
          have qb1 := Blk.cell Hb_W6.out 1
          have qb2 := Blk.cell Hb_W6.out 2
          have qb3 := Blk.cell Hb_W6.out 3
          have gb := Blk.lt Hb_W6.out
          have Hc_W6 := hid (hf.blk Hc_W5.out (fun h => h))
          have qc0 := Blk.cell Hc_W6.out 0
          have qc1 := Blk.cell Hc_W6.out 1
          have qc2 := Blk.cell Hc_W6.out 2
          have qc3 := Blk.cell Hc_W6.out 3
          have gc := Blk.lt Hc_W6.out
          clear hf
          rw [hec]
          go_wp2_with fail
          refine Calls.mono (print_any (Nd.mk 1 [] 0 (a.kids ++ b.kids)) _ _ (HR5.out.fresh HWW6.out) (Nat.zero_le _) (by omega)) ?_
          rintro _ W7 ⟨rfl, hf⟩
          clear qa0 qa1 qa2 qa3 qb0 qb1 qb2 qb3 qc0 qc1 qc2 qc3 ga gb gc
          have HXW7 := hid (HXW6.out.trans hf)
          have HWW7 := hid (HWW6.out.trans hf)
          have Tx_W7 := hid (Tx_W6.out.fresh hf)
          have Ty_W7 := hid (Ty_W6.out.fresh hf)
          have Tz_W7 := hid (Tz_W6.out.fresh hf)
          have Ha_W7 := hid (hf.blk Ha_W6.out (fun h => h))
          have qa0 := Blk.cell Ha_W7.out 0
          have qa1 := Blk.cell Ha_W7.out 1
          have qa2 := Blk.cell Ha_W7.out 2
          have qa3 := Blk.cell Ha_W7.out 3
          have ga := Blk.lt Ha_W7.out
          have Hb_W7 := hid (hf.blk Hb_W6.out (fun h => h))
          have qb0 := Blk.cell Hb_W7.out 0
          have qb1 := Blk.cell Hb_W7.out 1
          have qb2 := Blk.cell Hb_W7.out 2
          have qb3 := Blk.cell Hb_W7.out 3
          have gb := Blk.lt Hb_W7.out
          have Hc_W7 := hid (hf.blk Hc_W6.out (fun h => h))
          have qc0 := Blk.cell Hc_W7.out 0
          have qc1 := Blk.cell Hc_W7.out 1
          have qc2 := Blk.cell Hc_W7.out 2
          have qc3 := Blk.cell Hc_W7.out 3
          have gc := Blk.lt Hc_W7.out
          clear hf
          rw [hec]
          go_wp2_with fail
          refine Calls.mono (Tokens_ok (s := ⟨(printS (Nd.mk 1 [] 0 (a.kids ++ b.kids))).toArray⟩) PAR.out.2.2 (text_size _ (by omega)) (Nat.le_trans HLC.out (by decide))) ?_
          rintro _ W8 ⟨hf, vl, rfl, ho⟩
          clear qa0 qa1 qa2 qa3 qb0 qb1 qb2 qb3 qc0 qc1 qc2 qc3 ga gb gc
          have HXW8 := hid (HXW7.out.trans hf)
          have HWW8 := hid (HWW7.out.trans hf)
          have Tx_W8 := hid (Tx_W7.out.fresh hf)
          have Ty_W8 := hid (Ty_W7.out.fresh hf)
          have Tz_W8 := hid (Tz_W7.out.fresh hf)
          have Tl_W8 := hid (owns_row (show W8.ownsRow _ _ 4 _ _ _ from ho))
          clear ho
          have Ha_W8 := hid (hf.blk Ha_W7.out (fun h => h))
          have qa0 := Blk.cell Ha_W8.out 0
          have qa1 := Blk.cell Ha_W8.out 1
          have qa2 := Blk.cell Ha_W8.out 2
          have qa3 := Blk.cell Ha_W8.out 3
          have ga := Blk.lt Ha_W8.out
          have Hb_W8 := hid (hf.blk Hb_W7.out (fun h => h))
          have qb0 := Blk.cell Hb_W8.out 0
          have qb1 := Blk.cell Hb_W8.out 1
          have qb2 := Blk.cell Hb_W8.out 2
          have qb3 := Blk.cell Hb_W8.out 3
          have gb := Blk.lt Hb_W8.out
          have Hc_W8 := hid (hf.blk Hc_W7.out (fun h => h))
          have qc0 := Blk.cell Hc_W8.out 0
          have qc1 := Blk.cell Hc_W8.out 1
          have qc2 := Blk.cell Hc_W8.out 2
          have qc3 := Blk.cell Hc_W8.out 3
          have gc := Blk.lt Hc_W8.out
          clear hf
          go_wp2_with fail
          clear qa0 qa1 qa2 qa3 qb0 qb1 qb2 qb3 qc0 qc1 qc2 qc3 ga gb gc
          obtain ⟨j0, hj, hj0, hj1, hj2⟩ := info_parts infoRTok
          have HKW8 := hid (Touch.refl (fun _ => False) W8)
          refine Calls.mono (from18_any vx _ _ (Tx_W8.out.fresh HKW8.out) (Nat.le_trans HLA.out (by decide))) ?_
          rintro _ V1 ⟨fx, rfl, hf, ho⟩
          have HKV1 := hid (HKW8.out.trans hf)
          have Ox := hid ho
          clear ho
          clear hf
          go_wp2_with fail
          refine Calls.mono (from18_any vy _ _ (Ty_W8.out.fresh HKV1.out) (Nat.le_trans HLB.out (by decide))) ?_
          rintro _ V2 ⟨fy, rfl, hf, ho⟩
          have HKV2 := hid (HKV1.out.trans hf)
          have Oy := hid ho
          have Ox2 := hid (ownsRow_touch Ox.out hf (fun _ _ h => h))
          clear ho
          clear hf
          go_wp2_with (at_builtin; refine wpList_append_src _ rfl (.tmp 96) (.tmp 98) 34 rfl W8.heap.size 73 j0 _ 4 40 Try.underlying34 hj hj0 hj1 hj2 rfl (by decide) fx (printT a).length ((printT a).flatMap ptokCells) (by simp [Act.eval]) Ox2.out fy (printT b).length ((printT b).flatMap ptokCells) (by simp [Act.eval]) (Src.of_own Oy.out) (ptok_one _) (by have := HLA.out; have := HLB.out; unfold maxLen; omega) (by have := HLA.out; have := HLB.out; omega) HKV2.out.size ?_; intro va V3 ho hg _)
          have HKV3 := hid (show Fresh W8 V3 from Touch.grown HKV2.out hg (fun g hg => .inr (Ox2.out.lt g hg).1))
          have Ta := hid (show TokRow V3 va (printT a ++ printT b) from owns_row (by rw [List.length_append, List.flatMap_append]; exact ho))
          clear ho hg
          refine Calls.mono (from18_any vz _ _ (Tz_W8.out.fresh HKV3.out) (Nat.le_trans HLC.out (by decide))) ?_
          rintro _ V4 ⟨fz, rfl, hf, ho⟩
          have HKV4 := hid (HKV3.out.trans hf)
          have Ta4 := hid (Ta.out.fresh hf)
          have Oz := hid ho
          clear hf ho
          go_wp2_with fail
          refine Calls.mono (rSame_any va fz _ _ false _ Ta4.out (owns_row Oz.out) (by have := HLA.out; have := HLB.out; rw [List.length_append]; omega)) ?_
          rintro _ V5 ⟨rfl, hf⟩
          have HKV5 := hid (HKV4.out.trans hf)
          clear hf
          have HS1 := hid PAR.out.1
          rw [HS1.out]
          go_wp2_with fail
          refine Calls.mono (from18_any vl _ _ (Tl_W8.out.fresh HKV5.out) (Nat.le_trans HLC.out (by decide))) ?_
          rintro _ V6 ⟨fl, rfl, hf, ho⟩
          have HKV6 := hid (HKV5.out.trans hf)
          have Ol := hid ho
          clear hf ho
          go_wp2_with fail
          refine Calls.mono (from18_any vz _ _ (Tz_W8.out.fresh HKV6.out) (Nat.le_trans HLC.out (by decide))) ?_
          rintro _ V7 ⟨fz2, rfl, hf, ho⟩
          have HKV7 := hid (HKV6.out.trans hf)
          have Ol7 := hid (ownsRow_touch Ol.out hf (fun _ _ h => h))
          have Oz7 := hid ho
          clear hf ho
          go_wp2_with fail
          refine Calls.mono (rSame_any fl fz2 _ _ true _ (owns_row Ol7.out) (owns_row Oz7.out) (Nat.le_trans HLC.out (by decide))) ?_
          rintro _ V8 ⟨rfl, hf⟩
          have HKV8 := hid (HKV7.out.trans hf)
          clear hf
          have HS2 := hid PAR.out.2.1
          rw [HS2.out]
          go_wp2_with fail
          go_ret
          exact ⟨rfl, HXW8.out.trans HKV8.out⟩
end Go.Proofs.Ytilgpmpiidccjaa
