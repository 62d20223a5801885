/- The walks of the reference's Few, Equal and SameItems. -/
import Derived.Test.YtilgpmpiidccjaaNdA
namespace Go.Proofs.Ytilgpmpiidccjaa
open Go.RowKit

theorem ret_bool' (a b : Bool) (h : a = b) : Ending.returned (.bool a) = .returned (.bool b) := by rw [h]

theorem left_top (n : Tr.Nd) (sl : Value) (most : Int) (w : World) (hr : RepL w n.kids sl) (h0 : 0 ≤ most) (h1 : most ≤ 1000000) :
    Calls Try.prog 37 #[.agg #[.int .i64 n.kind, .string ⟨n.text.toArray⟩, .int .i64 n.cols, sl], .int .i64 most] w fun e w' => e = .returned (.int .i64 (leftF n most)) ∧ Fresh w w' := left_any _ n sl most w (Nat.le_refl _) hr h0 h1

theorem few_any (n : Tr.Nd) (sl : Value) (most : Int) (w : World) (hr : RepL w n.kids sl) (h0 : 0 ≤ most) (h1 : most ≤ 1000000) :
    Calls Try.prog 18 #[.agg #[.int .i64 n.kind, .string ⟨n.text.toArray⟩, .int .i64 n.cols, sl], .int .i64 most] w fun e w' => e = .returned (.bool (decide ((Tr.count n : Int) ≤ most))) ∧ Fresh w w' := by
  have HR := hid hr
  clear hr
  go_enter Try.func18, Try.ntmps18
  go_wp2_with fail
  refine Calls.mono (left_top n sl most _ (HR.out.fresh (by first | exact (Touch.refl _ _) | exact (Touch.refl _ _).alloc _ | exact ((Touch.refl _ _).alloc _).alloc _ | exact (((Touch.refl _ _).alloc _).alloc _).alloc _ | exact (Touch.refl _ _).drewN _ | exact ((Touch.refl _ _).alloc _).drewN _ | exact (((Touch.refl _ _).alloc _).alloc _).drewN _)) h0 h1) ?_
  rintro _ w1 ⟨rfl, hfw1⟩
  have HF1 := hid (show Fresh w w1 from by first | exact hfw1 | exact Touch.pre hfw1 | exact Touch.pre (Touch.pre hfw1) | exact Touch.ofN hfw1 | exact Touch.preN hfw1 | exact Touch.pre (Touch.pre (Touch.pre hfw1)))
  have B0_w1 : Blk w1 (w.heap.size) 24 #[.int .i64 n.kind, .string (⟨n.text.toArray⟩ : ByteArray), .int .i64 n.cols, sl] := Touch.blk hfw1 (by first | exact Blk.new _ _ _ | exact (Blk.new _ _ _).alloc _ | exact Blk.new2 _ _ _ _ | exact ((Blk.new _ _ _).alloc _).alloc _ | exact (Blk.new2 _ _ _ _).alloc _ | exact Blk.new3 _ _ _ _ _ | assumption | exact Blk.alloc (by assumption) _ | exact (Blk.alloc (Blk.alloc (by assumption) _) _)) (fun h => h)
  have q0_0_w1 : World.cell? w1 ⟨w.heap.size, 0, none⟩ = some (.int .i64 n.kind) := Blk.cell B0_w1 0
  have q0_1_w1 : World.cell? w1 ⟨w.heap.size, 1, none⟩ = some (.string (⟨n.text.toArray⟩ : ByteArray)) := Blk.cell B0_w1 1
  have q0_2_w1 : World.cell? w1 ⟨w.heap.size, 2, none⟩ = some (.int .i64 n.cols) := Blk.cell B0_w1 2
  have q0_3_w1 : World.cell? w1 ⟨w.heap.size, 3, none⟩ = some (sl) := Blk.cell B0_w1 3
  clear hfw1
  go_wp2_with fail
  go_ret
  refine ⟨ret_bool' _ _ ?_, HF1.out⟩
  rw [Bool.eq_iff_iff, decide_eq_true_iff, decide_eq_true_iff]
  unfold leftF
  split <;> omega

theorem few21_any (n : Tr.Nd) (sl : Value) (w : World) (hr : RepL w n.kids sl) :
    Calls Try.prog 9 #[.agg #[.int .i64 n.kind, .string ⟨n.text.toArray⟩, .int .i64 n.cols, sl]] w fun e w' => e = .returned (.bool (decide ((Tr.count n : Int) ≤ 300))) ∧ Fresh w w' := by
  have HR := hid hr
  clear hr
  go_enter Try.func9, Try.ntmps9
  go_wp2_with fail
  refine Calls.mono (few_any n sl (300 : Int) _ (HR.out.fresh (by first | exact (Touch.refl _ _) | exact (Touch.refl _ _).alloc _ | exact ((Touch.refl _ _).alloc _).alloc _ | exact (((Touch.refl _ _).alloc _).alloc _).alloc _ | exact (Touch.refl _ _).drewN _ | exact ((Touch.refl _ _).alloc _).drewN _ | exact (((Touch.refl _ _).alloc _).alloc _).drewN _)) (by decide) (by decide)) ?_
  rintro _ w2 ⟨rfl, hfw2⟩
  have HF2 := hid (show Fresh w w2 from by first | exact hfw2 | exact Touch.pre hfw2 | exact Touch.pre (Touch.pre hfw2) | exact Touch.ofN hfw2 | exact Touch.preN hfw2 | exact Touch.pre (Touch.pre (Touch.pre hfw2)))
  have B0_w2 : Blk w2 (w.heap.size) 24 #[.int .i64 n.kind, .string (⟨n.text.toArray⟩ : ByteArray), .int .i64 n.cols, sl] := Touch.blk hfw2 (by first | exact Blk.new _ _ _ | exact (Blk.new _ _ _).alloc _ | exact Blk.new2 _ _ _ _ | exact ((Blk.new _ _ _).alloc _).alloc _ | exact (Blk.new2 _ _ _ _).alloc _ | exact Blk.new3 _ _ _ _ _ | assumption | exact Blk.alloc (by assumption) _ | exact (Blk.alloc (Blk.alloc (by assumption) _) _)) (fun h => h)
  have q0_0_w2 : World.cell? w2 ⟨w.heap.size, 0, none⟩ = some (.int .i64 n.kind) := Blk.cell B0_w2 0
  have q0_1_w2 : World.cell? w2 ⟨w.heap.size, 1, none⟩ = some (.string (⟨n.text.toArray⟩ : ByteArray)) := Blk.cell B0_w2 1
  have q0_2_w2 : World.cell? w2 ⟨w.heap.size, 2, none⟩ = some (.int .i64 n.cols) := Blk.cell B0_w2 2
  have q0_3_w2 : World.cell? w2 ⟨w.heap.size, 3, none⟩ = some (sl) := Blk.cell B0_w2 3
  clear hfw2
  go_wp2_with fail
  go_ret
  exact ⟨rfl, HF2.out⟩

/-- Equal, if SameItems is known for the kids. -/
theorem equal_step (n m : Tr.Nd) (sl sm : Value) (w : World) (hi : ∀ w', Fresh w w' → Calls Try.prog 32 #[sl, sm] w' fun e w'' => e = .returned (.bool (Tr.eqL n.kids m.kids)) ∧ Fresh w' w'') :
    Calls Try.prog 11 #[.agg #[.int .i64 n.kind, .string ⟨n.text.toArray⟩, .int .i64 n.cols, sl], .agg #[.int .i64 m.kind, .string ⟨m.text.toArray⟩, .int .i64 m.cols, sm]] w fun e w' => e = .returned (.bool (Tr.eqN n m)) ∧ Fresh w w' := by
  have HI := hid hi
  clear hi
  have HE := hid (Tr.eqN_eq n m)
  go_enter Try.func11, Try.ntmps11
  cases h1 : (n.kind == m.kind) with
  | false =>
    have h1m : (n.kind != m.kind) = true := by rw [bne, h1]; rfl
    go_wp2_with fail
    go_ret
    exact ⟨ret_bool' _ _ (by rw [HE.out]; simp_all), (by first | exact (Touch.refl _ _) | exact (Touch.refl _ _).alloc _ | exact ((Touch.refl _ _).alloc _).alloc _ | exact (((Touch.refl _ _).alloc _).alloc _).alloc _ | exact (Touch.refl _ _).drewN _ | exact ((Touch.refl _ _).alloc _).drewN _ | exact (((Touch.refl _ _).alloc _).alloc _).drewN _)⟩
  | true =>
    have h1m : (n.kind != m.kind) = false := by rw [bne, h1]; rfl
    cases h2 : (n.text == m.text) with
    | false =>
      have h2s : ((⟨n.text.toArray⟩ : ByteArray) == (⟨m.text.toArray⟩ : ByteArray)) = false := by rw [str_eq']; exact h2
      have h2t : ((⟨n.text.toArray⟩ : ByteArray) != (⟨m.text.toArray⟩ : ByteArray)) = true := by rw [bne, h2s]; rfl
      go_wp2_with fail
      go_ret
      exact ⟨ret_bool' _ _ (by rw [HE.out]; simp_all), (by first | exact (Touch.refl _ _) | exact (Touch.refl _ _).alloc _ | exact ((Touch.refl _ _).alloc _).alloc _ | exact (((Touch.refl _ _).alloc _).alloc _).alloc _ | exact (Touch.refl _ _).drewN _ | exact ((Touch.refl _ _).alloc _).drewN _ | exact (((Touch.refl _ _).alloc _).alloc _).drewN _)⟩
    | true =>
      have h2s : ((⟨n.text.toArray⟩ : ByteArray) == (⟨m.text.toArray⟩ : ByteArray)) = true := by rw [str_eq']; exact h2
      have h2t : ((⟨n.text.toArray⟩ : ByteArray) != (⟨m.text.toArray⟩ : ByteArray)) = false := by rw [bne, h2s]; rfl
      cases h3 : (n.cols == m.cols) with
      | false =>
        have h3m : (n.cols != m.cols) = true := by rw [bne, h3]; rfl
        go_wp2_with fail
        go_ret
        exact ⟨ret_bool' _ _ (by rw [HE.out]; simp_all), (by first | exact (Touch.refl _ _) | exact (Touch.refl _ _).alloc _ | exact ((Touch.refl _ _).alloc _).alloc _ | exact (((Touch.refl _ _).alloc _).alloc _).alloc _ | exact (Touch.refl _ _).drewN _ | exact ((Touch.refl _ _).alloc _).drewN _ | exact (((Touch.refl _ _).alloc _).alloc _).drewN _)⟩
      | true =>
        have h3m : (n.cols != m.cols) = false := by rw [bne, h3]; rfl
        go_wp2_with fail
        refine Calls.mono (HI.out _ (by first | exact (Touch.refl _ _) | exact (Touch.refl _ _).alloc _ | exact ((Touch.refl _ _).alloc _).alloc _ | exact (((Touch.refl _ _).alloc _).alloc _).alloc _ | exact (Touch.refl _ _).drewN _ | exact ((Touch.refl _ _).alloc _).drewN _ | exact (((Touch.refl _ _).alloc _).alloc _).drewN _)) ?_
        rintro _ w3 ⟨rfl, hfw3⟩
        have HF3 := hid (show Fresh w w3 from by first | exact hfw3 | exact Touch.pre hfw3 | exact Touch.pre (Touch.pre hfw3) | exact Touch.ofN hfw3 | exact Touch.preN hfw3 | exact Touch.pre (Touch.pre (Touch.pre hfw3)))
        have B0_w3 : Blk w3 (w.heap.size) 24 #[.int .i64 n.kind, .string (⟨n.text.toArray⟩ : ByteArray), .int .i64 n.cols, sl] := Touch.blk hfw3 (by first | exact Blk.new _ _ _ | exact (Blk.new _ _ _).alloc _ | exact Blk.new2 _ _ _ _ | exact ((Blk.new _ _ _).alloc _).alloc _ | exact (Blk.new2 _ _ _ _).alloc _ | exact Blk.new3 _ _ _ _ _ | assumption | exact Blk.alloc (by assumption) _ | exact (Blk.alloc (Blk.alloc (by assumption) _) _)) (fun h => h)
        have B1_w3 : Blk w3 (w.heap.size + 1) 24 #[.int .i64 m.kind, .string (⟨m.text.toArray⟩ : ByteArray), .int .i64 m.cols, sm] := Touch.blk hfw3 (by first | exact Blk.new _ _ _ | exact (Blk.new _ _ _).alloc _ | exact Blk.new2 _ _ _ _ | exact ((Blk.new _ _ _).alloc _).alloc _ | exact (Blk.new2 _ _ _ _).alloc _ | exact Blk.new3 _ _ _ _ _ | assumption | exact Blk.alloc (by assumption) _ | exact (Blk.alloc (Blk.alloc (by assumption) _) _)) (fun h => h)
        have q0_0_w3 : World.cell? w3 ⟨w.heap.size, 0, none⟩ = some (.int .i64 n.kind) := Blk.cell B0_w3 0
        have q0_1_w3 : World.cell? w3 ⟨w.heap.size, 1, none⟩ = some (.string (⟨n.text.toArray⟩ : ByteArray)) := Blk.cell B0_w3 1
        have q0_2_w3 : World.cell? w3 ⟨w.heap.size, 2, none⟩ = some (.int .i64 n.cols) := Blk.cell B0_w3 2
        have q0_3_w3 : World.cell? w3 ⟨w.heap.size, 3, none⟩ = some (sl) := Blk.cell B0_w3 3
        have q1_0_w3 : World.cell? w3 ⟨w.heap.size + 1, 0, none⟩ = some (.int .i64 m.kind) := Blk.cell B1_w3 0
        have q1_1_w3 : World.cell? w3 ⟨w.heap.size + 1, 1, none⟩ = some (.string (⟨m.text.toArray⟩ : ByteArray)) := Blk.cell B1_w3 1
        have q1_2_w3 : World.cell? w3 ⟨w.heap.size + 1, 2, none⟩ = some (.int .i64 m.cols) := Blk.cell B1_w3 2
        have q1_3_w3 : World.cell? w3 ⟨w.heap.size + 1, 3, none⟩ = some (sm) := Blk.cell B1_w3 3
        clear hfw3
        go_wp2_with fail
        go_ret
        exact ⟨ret_bool' _ _ (by rw [HE.out]; simp_all), (by first | exact HF3.out | exact HF3.out.alloc _ | exact (HF3.out.alloc _).alloc _ | exact ((HF3.out.alloc _).alloc _).alloc _ | exact HF3.out.drewN _ | exact (HF3.out.alloc _).drewN _ | exact ((HF3.out.alloc _).alloc _).drewN _)⟩

theorem eqL_snoc : ∀ (xs ys : List Tr.Nd) (k : Nat) (hx : k < xs.length) (hy : k < ys.length), Tr.eqL (xs.take (k + 1)) (ys.take (k + 1)) = (Tr.eqL (xs.take k) (ys.take k) && Tr.eqN xs[k] ys[k])
  | x :: xs, y :: ys, 0, _, _ => by simp [Tr.eqL]
  | x :: xs, y :: ys, k + 1, hx, hy => by
    simp only [List.take_succ_cons, Tr.eqL, List.getElem_cons_succ]
    rw [eqL_snoc xs ys k (by simpa using hx) (by simpa using hy), Bool.and_assoc]
  | [], _, _, hx, _ => by simp at hx
  | _ :: _, [], _, _, hy => by simp at hy
theorem eqL_no : ∀ (xs ys : List Tr.Nd) (k : Nat) (hx : k < xs.length) (hy : k < ys.length), Tr.eqN xs[k] ys[k] = false → Tr.eqL xs ys = false
  | x :: xs, y :: ys, 0, _, _, h => by simp only [List.getElem_cons_zero] at h; rw [Tr.eqL, h, Bool.false_and]
  | x :: xs, y :: ys, k + 1, hx, hy, h => by
    simp only [List.getElem_cons_succ] at h
    rw [Tr.eqL, eqL_no xs ys k (by simpa using hx) (by simpa using hy) h, Bool.and_false]
  | [], _, _, hx, _, _ => by simp at hx
  | _ :: _, [], _, _, hy, _ => by simp at hy

set_option maxRecDepth 100000 in
set_option maxHeartbeats 1000000 in
/-- SameItems, if Equal is known for the items. -/
theorem same_step (ks ls : List Tr.Nd) (v1 v2 : Value) (w : World) (h1 : RepL w ks v1) (h2 : RepL w ls v2)
    (hi : ∀ x ∈ ks, ∀ (y : Tr.Nd) (sx sy : Value) (w' : World), RepL w' x.kids sx → RepL w' y.kids sy → Calls Try.prog 11 #[.agg #[.int .i64 x.kind, .string ⟨x.text.toArray⟩, .int .i64 x.cols, sx], .agg #[.int .i64 y.kind, .string ⟨y.text.toArray⟩, .int .i64 y.cols, sy]] w' fun e w'' => e = .returned (.bool (Tr.eqN x y)) ∧ Fresh w' w'') :
    Calls Try.prog 32 #[v1, v2] w fun e w' => e = .returned (.bool (Tr.eqL ks ls)) ∧ Fresh w w' := by
  have HI := hid hi
  clear hi
  have hlen := h1.len
  unfold maxLen at hlen
  obtain ⟨A, cap, rfl⟩ := h1.slice
  obtain ⟨B, cbp, rfl⟩ := h2.slice
  have HR1 := hid h1
  have HR2 := hid h2
  clear h1 h2
  have HLL := hid (Tr.eqL_len ks ls)
  by_cases c0 : ks.length = ls.length
  · have b0 : ((ks.length : Int) == (ls.length : Int)) = true := by rw [c0]; simp
    have b0' : ((ks.length : Int) != (ls.length : Int)) = false := by rw [bne, b0]; rfl
    have C0 := hid c0
    clear c0
    go_enter Try.func32, Try.ntmps32
    go_wp2_with fail
    go_loopw [5] (fun i wr => ∃ j : Nat, i = .int .i64 j ∧ j ≤ ks.length ∧ Hid (Tr.eqL (ks.take j) (ls.take j) = true) ∧ Hid (Fresh w wr)) (fun i _ => ks.length - (intOf i).toNat)
    case atStart => exact ⟨0, rfl, Nat.zero_le _, by simp [Tr.eqL, Hid], Touch.refl _ _⟩
    case round =>
      obtain ⟨j, rfl, hj, HA, HF⟩ := hrel
      by_cases c1 : j < ks.length
      · have d1 : decide ((j : Int) < (ks.length : Int)) = true := by simp; omega
        have d1' : (j : Int) < (ks.length : Int) := by omega
        have c1y : j < ls.length := by rw [← C0.out]; exact c1
        have d1y : (j : Int) < (ls.length : Int) := by omega
        obtain ⟨g, o, sx, rfl, hg, m0, m1, m2, m3, hrk⟩ := HR1.out.get j c1
        obtain ⟨g', o', sy, rfl, hg', n0, n1, n2, n3, hrl⟩ := HR2.out.get j c1y
        have HS := hid (eqL_snoc ks ls j c1 c1y)
        have HN := hid (eqL_no ks ls j c1 c1y)
        have HX := hid (HI.out ks[j] (List.getElem_mem c1) ls[j] sx sy)
        have a0 := HF.out.cell m0 (fun h => h)
        have a1 := HF.out.cell m1 (fun h => h)
        have a2 := HF.out.cell m2 (fun h => h)
        have a3 := HF.out.cell m3 (fun h => h)
        have b0 := HF.out.cell n0 (fun h => h)
        have b1 := HF.out.cell n1 (fun h => h)
        have b2 := HF.out.cell n2 (fun h => h)
        have b3 := HF.out.cell n3 (fun h => h)
        have HRK := hid hrk
        have HRL := hid hrl
        clear m0 m1 m2 m3 n0 n1 n2 n3 hrk hrl HI HR1 HR2
        generalize ks[j] = x at *
        generalize ls[j] = y at *
        go_wp2_with fail
        refine forget_world (fun W => Fresh wr W) (by first | exact (Touch.refl _ _) | exact (Touch.refl _ _).alloc _ | exact ((Touch.refl _ _).alloc _).alloc _ | exact (((Touch.refl _ _).alloc _).alloc _).alloc _ | exact (Touch.refl _ _).drewN _ | exact ((Touch.refl _ _).alloc _).drewN _ | exact (((Touch.refl _ _).alloc _).alloc _).drewN _) ?_
        rintro w4 hfw4
        have HF4 := hid hfw4
        clear hfw4
        have a0_w4 : World.cell? w4 ⟨g, o + j * 4, none⟩ = some (.int .i64 x.kind) := Touch.cell HF4.out a0 (fun h => h)
        have a1_w4 : World.cell? w4 ⟨g, o + j * 4 + 1, none⟩ = some (.string (⟨x.text.toArray⟩ : ByteArray)) := Touch.cell HF4.out a1 (fun h => h)
        have a2_w4 : World.cell? w4 ⟨g, o + j * 4 + 2, none⟩ = some (.int .i64 x.cols) := Touch.cell HF4.out a2 (fun h => h)
        have a3_w4 : World.cell? w4 ⟨g, o + j * 4 + 3, none⟩ = some (sx) := Touch.cell HF4.out a3 (fun h => h)
        have b0_w4 : World.cell? w4 ⟨g', o' + j * 4, none⟩ = some (.int .i64 y.kind) := Touch.cell HF4.out b0 (fun h => h)
        have b1_w4 : World.cell? w4 ⟨g', o' + j * 4 + 1, none⟩ = some (.string (⟨y.text.toArray⟩ : ByteArray)) := Touch.cell HF4.out b1 (fun h => h)
        have b2_w4 : World.cell? w4 ⟨g', o' + j * 4 + 2, none⟩ = some (.int .i64 y.cols) := Touch.cell HF4.out b2 (fun h => h)
        have b3_w4 : World.cell? w4 ⟨g', o' + j * 4 + 3, none⟩ = some (sy) := Touch.cell HF4.out b3 (fun h => h)
        clear a0 a1 a2 a3 b0 b1 b2 b3
        have ga0_w4 := cell_regrown a0_w4
        have ga1_w4 := cell_regrown a1_w4
        have ga2_w4 := cell_regrown a2_w4
        have ga3_w4 := cell_regrown a3_w4
        have gb0_w4 := cell_regrown b0_w4
        have gb1_w4 := cell_regrown b1_w4
        have gb2_w4 := cell_regrown b2_w4
        have gb3_w4 := cell_regrown b3_w4
        have C0_w4 := hid (calmF (P := Try.prog) w4 (fun w hw => HX.out _ (HRK.out.fresh (Touch.trans (HF.out.trans HF4.out) hw)) (HRL.out.fresh (Touch.trans (HF.out.trans HF4.out) hw))))
        refine wp_region_quiet_below (by kernel_rfl) (by kernel_rfl) ?_
        repeat (quiet_step (first | with_reducible exact C0_w4.out _ _))
        refine wpQuiet_nil ?_
        rintro w5 ⟨⟨_, _⟩, hWw5⟩
        have hfw5 : Fresh w4 w5 := by rw [hWw5]; exact fresh_of_below (below_regrown _ _ _)
        clear hWw5 ga0_w4 ga1_w4 ga2_w4 ga3_w4 gb0_w4 gb1_w4 gb2_w4 gb3_w4
        have HF5 := hid (show Fresh w4 w5 from by first | exact hfw5 | exact Touch.pre hfw5 | exact Touch.pre (Touch.pre hfw5) | exact Touch.ofN hfw5 | exact Touch.preN hfw5 | exact Touch.pre (Touch.pre (Touch.pre hfw5)))
        have a0_w5 : World.cell? w5 ⟨g, o + j * 4, none⟩ = some (.int .i64 x.kind) := Touch.cell HF5.out a0_w4 (fun h => h)
        have a1_w5 : World.cell? w5 ⟨g, o + j * 4 + 1, none⟩ = some (.string (⟨x.text.toArray⟩ : ByteArray)) := Touch.cell HF5.out a1_w4 (fun h => h)
        have a2_w5 : World.cell? w5 ⟨g, o + j * 4 + 2, none⟩ = some (.int .i64 x.cols) := Touch.cell HF5.out a2_w4 (fun h => h)
        have a3_w5 : World.cell? w5 ⟨g, o + j * 4 + 3, none⟩ = some (sx) := Touch.cell HF5.out a3_w4 (fun h => h)
        have b0_w5 : World.cell? w5 ⟨g', o' + j * 4, none⟩ = some (.int .i64 y.kind) := Touch.cell HF5.out b0_w4 (fun h => h)
        have b1_w5 : World.cell? w5 ⟨g', o' + j * 4 + 1, none⟩ = some (.string (⟨y.text.toArray⟩ : ByteArray)) := Touch.cell HF5.out b1_w4 (fun h => h)
        have b2_w5 : World.cell? w5 ⟨g', o' + j * 4 + 2, none⟩ = some (.int .i64 y.cols) := Touch.cell HF5.out b2_w4 (fun h => h)
        have b3_w5 : World.cell? w5 ⟨g', o' + j * 4 + 3, none⟩ = some (sy) := Touch.cell HF5.out b3_w4 (fun h => h)
        clear a0_w4 a1_w4 a2_w4 a3_w4 b0_w4 b1_w4 b2_w4 b3_w4
        clear hfw5
        cases h4 : Tr.eqN x y with
        | false =>
          go_wp2_with fail
          go_ret
          exact ⟨by rw [HN.out (by assumption)]; rfl, (HF.out.trans (HF4.out.trans HF5.out))⟩
        | true =>
          go_wp2_with fail
          go_roundw
          case rel => exact ⟨j + 1, by go_num, c1, by unfold Hid; rw [HS.out, HA.out]; simpa using (by assumption), (HF.out.trans (HF4.out.trans HF5.out))⟩
          case measure => simp [intOf]; omega
      · have d1 : decide ((j : Int) < (ks.length : Int)) = false := by simp; omega
        obtain rfl : j = ks.length := by omega
        go_wp2_with fail
        go_ret
        refine ⟨?_, HF.out⟩
        have := HA.out
        rw [List.take_length, C0.out, List.take_length] at this
        rw [this]; rfl
  · have b0 : ((ks.length : Int) == (ls.length : Int)) = false := by rw [beq_eq_false_iff_ne]; omega
    have b0' : ((ks.length : Int) != (ls.length : Int)) = true := by rw [bne, b0]; rfl
    have HLN := hid (HLL.out c0)
    clear c0
    go_enter Try.func32, Try.ntmps32
    go_wp2_with fail
    go_ret
    exact ⟨by rw [HLN.out]; rfl, Touch.refl _ _⟩

theorem equal_any (m : Nat) : ∀ (n : Tr.Nd) (y : Tr.Nd) (sl sm : Value) (w : World), Tr.count n ≤ m → RepL w n.kids sl → RepL w y.kids sm →
    Calls Try.prog 11 #[.agg #[.int .i64 n.kind, .string ⟨n.text.toArray⟩, .int .i64 n.cols, sl], .agg #[.int .i64 y.kind, .string ⟨y.text.toArray⟩, .int .i64 y.cols, sm]] w fun e w' => e = .returned (.bool (Tr.eqN n y)) ∧ Fresh w w' := by
  induction m with
  | zero => intro n _ _ _ _ h; have := Tr.count_pos n; omega
  | succ m ih =>
    intro n y sl sm w hc h1 h2
    refine equal_step n y sl sm w fun w' hf => same_step n.kids y.kids sl sm w' (h1.fresh hf) (h2.fresh hf) fun x hx z sx sz w'' g1 g2 => ih x z sx sz w'' ?_ g1 g2
    have := Tr.count_mem hx
    have := Tr.count_kids n
    omega
end Go.Proofs.Ytilgpmpiidccjaa
