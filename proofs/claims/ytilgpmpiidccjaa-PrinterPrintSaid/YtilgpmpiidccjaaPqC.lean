/- The reference printer's Row and matrix. -/
import Derived.Test.YtilgpmpiidccjaaPqB
import Derived.Test.YtilgpmpiidccjaaPp10
namespace Go.Proofs.Ytilgpmpiidccjaa
open Go.RowKit
open Tr (Nd argT baseT rowT itemT cellsT)

theorem own_slice {W : World} {B e size n : Nat} {v : Value} {xs : List Value} (h : W.ownsRow B e size v n xs) : ∃ A c, v = .slice A n c := by
  rcases h.2 with ⟨h1, h2⟩ | ⟨g, cap, cur, h1, _⟩
  · exact ⟨none, 0, by rw [h1, h2]⟩
  · exact ⟨_, _, h1⟩
theorem rowT_take_le (l : List Nd) (j : Nat) (h : j < l.length) : (rowT (l.take j)).length + (itemT l[j]).length ≤ (rowT l).length := by
  obtain ⟨r, hr⟩ := rowT_split l j h
  rw [hr]
  simp only [List.length_append]
  omega
theorem cellsT_take_le (c : Int) (l : List Nd) (j : Nat) (h : j < l.length) : (cellsT c 0 (l.take j)).length + ((sepT c j).length + (rowT l[j].kids).length) ≤ (cellsT c 0 l).length := by
  obtain ⟨r, hr⟩ := cellsT_split c l 0 j h
  rw [hr]
  simp only [List.length_append, Nat.zero_add]
  omega

set_option maxRecDepth 100000 in
set_option maxHeartbeats 2000000 in
theorem row_r (n : Nd) (hi : ∀ x ∈ n.kids, ItemR x) (hn : (rowT n.kids).length ≤ 50000) : RowR n := by
  intro w sl hsl
  obtain ⟨A, cap, rfl⟩ := hsl.slice
  have hlen := hsl.len
  unfold maxLen at hlen
  have HI := hid hi
  have HR := hid hsl
  have HLENN := hid hn
  obtain ⟨i0, hi0, hz0, hz1, hz2⟩ := info_parts infoRTok
  clear hi hsl hn
  have hi := hi0
  clear hi0
  generalize n.kids = ks at *
  go_enter Try.func34, Try.ntmps34
  go_wp2_with fail
  go_loopw [3, 4] (fun acc i wr => ∃ (j : Nat) (A0 : Option Addr) (c0 : Nat), acc = .slice A0 (rowT (ks.take j)).length c0 ∧ i = .int .i64 j ∧ j ≤ ks.length ∧ Hid (wr.ownsRow w.heap.size 73 4 (.slice A0 (rowT (ks.take j)).length c0) (rowT (ks.take j)).length ((rowT (ks.take j)).flatMap tokC)) ∧ Hid (Blk wr w.heap.size 24 #[.int .i64 n.kind, .string ⟨n.text.toArray⟩, .int .i64 n.cols, .slice A ks.length cap]) ∧ Hid (Fresh w wr)) (fun _ i _ => ks.length - (intOf i).toNat)
  case atStart => exact ⟨0, none, 0, by simp [Tr.rowT_nil], rfl, Nat.zero_le _, by simp only [List.take_zero, Tr.rowT_nil]; exact World.ownsRow_nil _ _ _ _, Blk.new _ _ _, (Touch.refl _ _).alloc _⟩
  case round =>
    obtain ⟨j, A0, c0, rfl, rfl, hj, HO, HB, HF⟩ := hrel
    by_cases c1 : j < ks.length
    · have d1 : decide ((j : Int) < (ks.length : Int)) = true := by simp only [decide_eq_true_eq]; omega
      have d1n : decide (j < ks.length) = true := by simp only [decide_eq_true_eq]; omega
      have d1' : (j : Int) < (ks.length : Int) := by omega
      obtain ⟨g, o, sx, rfl, hg, m0, m1, m2, m3, hrk⟩ := HR.out.get j c1
      obtain ⟨Ax, capx, rfl⟩ := hrk.slice
      have ITMx := hid (HI.out ks[j] (List.getElem_mem c1))
      have HLEN := hid (Nat.le_trans (rowT_take_le ks j c1) HLENN.out)
      have HTK := hid (rowT_take ks j c1)
      have HRx := hid hrk
      have XX0 := hid m0
      have XX1 := hid m1
      have XX2 := hid m2
      have XX3 := hid m3
      have xx0_wr := Touch.cell HF.out m0 (fun h => h)
      have xx1_wr := Touch.cell HF.out m1 (fun h => h)
      have xx2_wr := Touch.cell HF.out m2 (fun h => h)
      have xx3_wr := Touch.cell HF.out m3 (fun h => h)
      have hlt_g_wr : g < wr.heap.size := block_lt_of_cell xx0_wr
      clear m0 m1 m2 m3 hrk hg HR
      generalize ks[j] = x at *
      have hsz_wr : w.heap.size ≤ wr.heap.size := Touch.size HF.out
      have q0_0_wr : World.cell? wr ⟨w.heap.size, 0, none⟩ = some (.int .i64 n.kind) := Blk.cell HB.out 0
      have q0_1_wr : World.cell? wr ⟨w.heap.size, 1, none⟩ = some (.string (⟨n.text.toArray⟩ : ByteArray)) := Blk.cell HB.out 1
      have q0_2_wr : World.cell? wr ⟨w.heap.size, 2, none⟩ = some (.int .i64 n.cols) := Blk.cell HB.out 2
      have q0_3_wr : World.cell? wr ⟨w.heap.size, 3, none⟩ = some (.slice (some ⟨g, o, none⟩) ks.length cap) := Blk.cell HB.out 3
      have B0_wr : Blk wr w.heap.size 24 #[.int .i64 n.kind, .string (⟨n.text.toArray⟩ : ByteArray), .int .i64 n.cols, .slice (some ⟨g, o, none⟩) ks.length cap] := HB.out
      have hlt_w_wr : w.heap.size < wr.heap.size := Blk.lt HB.out
      go_wp2_with fail
      refine Calls.mono (ITMx.out _ _ (HRx.out.fresh (by first | exact HF.out | exact HF.out.alloc _ | exact (HF.out.alloc _).alloc _ | exact ((HF.out.alloc _).alloc _).alloc _ | exact HF.out.drewN _ | exact (HF.out.alloc _).drewN _ | exact ((HF.out.alloc _).alloc _).drewN _))) ?_
      rintro _ w1 ⟨v1, rfl, how1, hfw1⟩
      have O1_w1 := hid (ownsRow_base (B' := w.heap.size) how1 (by first | exact Nat.le_refl _ | assumption | (simp only [World.size_alloc]; omega)))
      clear how1
      have HF1 := hid (show Fresh wr w1 from by first | exact hfw1 | exact Touch.pre hfw1 | exact Touch.pre (Touch.pre hfw1) | exact Touch.ofN hfw1 | exact Touch.preN hfw1 | exact Touch.pre (Touch.pre (Touch.pre hfw1)))
      have B0_w1 : Blk w1 (w.heap.size) 24 #[.int .i64 n.kind, .string (⟨n.text.toArray⟩ : ByteArray), .int .i64 n.cols, .slice (some ⟨g, o, none⟩) ks.length cap] := Touch.blk hfw1 (by first | exact Blk.new _ _ _ | exact (Blk.new _ _ _).alloc _ | exact Blk.new2 _ _ _ _ | exact ((Blk.new _ _ _).alloc _).alloc _ | exact (Blk.new2 _ _ _ _).alloc _ | exact Blk.new3 _ _ _ _ _ | assumption | exact Blk.alloc (by assumption) _ | exact (Blk.alloc (Blk.alloc (by assumption) _) _)) (fun h => h)
      clear q0_0_wr q0_1_wr q0_2_wr q0_3_wr B0_wr
      have q0_0_w1 : World.cell? w1 ⟨w.heap.size, 0, none⟩ = some (.int .i64 n.kind) := Blk.cell B0_w1 0
      have q0_1_w1 : World.cell? w1 ⟨w.heap.size, 1, none⟩ = some (.string (⟨n.text.toArray⟩ : ByteArray)) := Blk.cell B0_w1 1
      have q0_2_w1 : World.cell? w1 ⟨w.heap.size, 2, none⟩ = some (.int .i64 n.cols) := Blk.cell B0_w1 2
      have q0_3_w1 : World.cell? w1 ⟨w.heap.size, 3, none⟩ = some (.slice (some ⟨g, o, none⟩) ks.length cap) := Blk.cell B0_w1 3
      have hltb0_w1 : w.heap.size < w1.heap.size := Blk.lt B0_w1
      have xx0_w1 : World.cell? w1 ⟨g, o + j * 4, none⟩ = some (.int .i64 x.kind) := Touch.cell HF1.out xx0_wr (fun h => h)
      have xx1_w1 : World.cell? w1 ⟨g, o + j * 4 + 1, none⟩ = some (.string (⟨x.text.toArray⟩ : ByteArray)) := Touch.cell HF1.out xx1_wr (fun h => h)
      have xx2_w1 : World.cell? w1 ⟨g, o + j * 4 + 2, none⟩ = some (.int .i64 x.cols) := Touch.cell HF1.out xx2_wr (fun h => h)
      have xx3_w1 : World.cell? w1 ⟨g, o + j * 4 + 3, none⟩ = some (.slice Ax x.kids.length capx) := Touch.cell HF1.out xx3_wr (fun h => h)
      clear xx0_wr xx1_wr xx2_wr xx3_wr
      have hsz_w1 : w.heap.size ≤ w1.heap.size := Touch.size (HF.out.trans HF1.out)
      have Oacc_w1 := hid (ownsRow_touch HO.out HF1.out (fun _ _ h => h))
      clear HO
      clear hfw1
      go_wp2_with (at_builtin; refine wpList_append_src _ rfl (.tmp 12) (.tmp 18) 34 rfl w.heap.size 73 i0 _ 4 40 Try.underlying34 hi hz0 hz1 hz2 rfl (by decide) (.slice A0 (rowT (ks.take j)).length c0) (rowT (ks.take j)).length ((rowT (ks.take j)).flatMap tokC) (by simp [Act.eval]) Oacc_w1.out (v1) ((itemT x)).length (((itemT x)).flatMap tokC) (by simp [Act.eval]) (Src.of_own O1_w1.out) (tok_one _) (by have := HLEN.out; unfold maxLen; (try simp at this); (try simp); omega) (by have := HLEN.out; (try simp at this); (try simp); omega) (by first | exact Nat.le_refl _ | assumption | (simp only [World.size_alloc]; omega)) ?_; intro v2 y2 o2 go2 _; refine Stay.mk ?_)
      rw [← List.length_append, ← List.flatMap_append] at o2
      have HEy2 := hid (show Fresh w y2 from grown_fresh go2 Oacc_w1.out (by first | exact (HF.out.trans HF1.out) | exact (HF.out.trans HF1.out).alloc _ | exact ((HF.out.trans HF1.out).alloc _).alloc _ | exact (((HF.out.trans HF1.out).alloc _).alloc _).alloc _ | exact (HF.out.trans HF1.out).drewN _ | exact ((HF.out.trans HF1.out).alloc _).drewN _ | exact (((HF.out.trans HF1.out).alloc _).alloc _).drewN _))
      have hsz_y2 : w.heap.size ≤ y2.heap.size := Touch.size HEy2.out
      have B0_y2 : Blk y2 (w.heap.size) 24 #[.int .i64 n.kind, .string (⟨n.text.toArray⟩ : ByteArray), .int .i64 n.cols, .slice (some ⟨g, o, none⟩) ks.length cap] := grown_blk (by first | exact Blk.new _ _ _ | exact (Blk.new _ _ _).alloc _ | exact Blk.new2 _ _ _ _ | exact ((Blk.new _ _ _).alloc _).alloc _ | exact (Blk.new2 _ _ _ _).alloc _ | exact Blk.new3 _ _ _ _ _ | assumption | exact Blk.alloc (by assumption) _ | exact (Blk.alloc (Blk.alloc (by assumption) _) _)) Oacc_w1.out go2 (by decide)
      clear q0_0_w1 q0_1_w1 q0_2_w1 q0_3_w1 B0_w1
      have q0_0_y2 : World.cell? y2 ⟨w.heap.size, 0, none⟩ = some (.int .i64 n.kind) := Blk.cell B0_y2 0
      have q0_1_y2 : World.cell? y2 ⟨w.heap.size, 1, none⟩ = some (.string (⟨n.text.toArray⟩ : ByteArray)) := Blk.cell B0_y2 1
      have q0_2_y2 : World.cell? y2 ⟨w.heap.size, 2, none⟩ = some (.int .i64 n.cols) := Blk.cell B0_y2 2
      have q0_3_y2 : World.cell? y2 ⟨w.heap.size, 3, none⟩ = some (.slice (some ⟨g, o, none⟩) ks.length cap) := Blk.cell B0_y2 3
      have hltb0_y2 : w.heap.size < y2.heap.size := Blk.lt B0_y2
      clear xx0_w1 xx1_w1 xx2_w1 xx3_w1
      have xx0_y2 : World.cell? y2 ⟨g, o + j * 4, none⟩ = some (.int .i64 x.kind) := Touch.cell HEy2.out XX0.out (fun h => h)
      have xx1_y2 : World.cell? y2 ⟨g, o + j * 4 + 1, none⟩ = some (.string (⟨x.text.toArray⟩ : ByteArray)) := Touch.cell HEy2.out XX1.out (fun h => h)
      have xx2_y2 : World.cell? y2 ⟨g, o + j * 4 + 2, none⟩ = some (.int .i64 x.cols) := Touch.cell HEy2.out XX2.out (fun h => h)
      have xx3_y2 : World.cell? y2 ⟨g, o + j * 4 + 3, none⟩ = some (.slice Ax x.kids.length capx) := Touch.cell HEy2.out XX3.out (fun h => h)
      have hlt_g_y2 : g < y2.heap.size := block_lt_of_cell xx0_y2
      have O2_y2 := hid o2
      clear go2 o2 Oacc_w1 O1_w1
      refine Stay.go ?_
      have hO9 : y2.ownsRow w.heap.size 73 4 v2 (rowT (ks.take (j + 1))).length ((rowT (ks.take (j + 1))).flatMap tokC) := ownCast (O2_y2.out) (HTK.out.symm)
      clear O2_y2
      obtain ⟨A9, c9, rfl⟩ := own_slice hO9
      have HO9 := hid hO9
      clear hO9
      go_wp2_with fail
      go_roundw
      case rel => exact ⟨j + 1, A9, c9, rfl, by go_num, c1, HO9, B0_y2, HEy2.out⟩
      case measure => simp [intOf]; omega
    · have d1 : decide ((j : Int) < (ks.length : Int)) = false := by simp only [decide_eq_false_iff_not]; omega
      have d1n : decide (j < ks.length) = false := by simp only [decide_eq_false_iff_not]; omega
      obtain rfl : j = ks.length := by omega
      have hsz_wr : w.heap.size ≤ wr.heap.size := Touch.size HF.out
      have q0_0_wr : World.cell? wr ⟨w.heap.size, 0, none⟩ = some (.int .i64 n.kind) := Blk.cell HB.out 0
      have q0_1_wr : World.cell? wr ⟨w.heap.size, 1, none⟩ = some (.string (⟨n.text.toArray⟩ : ByteArray)) := Blk.cell HB.out 1
      have q0_2_wr : World.cell? wr ⟨w.heap.size, 2, none⟩ = some (.int .i64 n.cols) := Blk.cell HB.out 2
      have q0_3_wr : World.cell? wr ⟨w.heap.size, 3, none⟩ = some (.slice A ks.length cap) := Blk.cell HB.out 3
      have B0_wr : Blk wr w.heap.size 24 #[.int .i64 n.kind, .string (⟨n.text.toArray⟩ : ByteArray), .int .i64 n.cols, .slice A ks.length cap] := HB.out
      have hlt_w_wr : w.heap.size < wr.heap.size := Blk.lt HB.out
      go_wp2_with fail
      go_ret
      exact ⟨_, rfl, ownCast (HO.out) (by rw [List.take_length]), (by first | exact HF.out | exact HF.out.alloc _ | exact (HF.out.alloc _).alloc _ | exact ((HF.out.alloc _).alloc _).alloc _ | exact HF.out.drewN _ | exact (HF.out.alloc _).drewN _ | exact ((HF.out.alloc _).alloc _).drewN _)⟩
set_option maxRecDepth 100000 in
set_option maxHeartbeats 2000000 in
theorem rmatrix_any (kd tx : Value) (c : Int) (ks : List Nd) (hc : 1 ≤ c) (hc' : c ≤ 1000000) (hi : ∀ x ∈ ks, RowR x) (hn : (cellsT c 0 ks).length ≤ 50000) (w : World) (sl : Value) (hsl : RepL w ks sl) :
    Calls Try.prog 89 #[.agg #[kd, tx, .int .i64 c, sl]] w (TokRes w (cellsT c 0 ks)) := by
  obtain ⟨A, cap, rfl⟩ := hsl.slice
  have hlen := hsl.len
  unfold maxLen at hlen
  have HI := hid hi
  have HR := hid hsl
  have HLENN := hid hn
  have hc0 : (c == 0) = false := by rw [beq_eq_false_iff_ne]; omega
  have hc1 : 0 < c := by omega
  have hc2 : 0 ≤ c := by omega
  clear hi hsl hn
  obtain ⟨i0, hi, hz0, hz1, hz2⟩ := info_parts infoRTok
  go_enter Try.func89, Try.ntmps89
  go_wp2_with fail
  go_loopw [3, 4] (fun acc i wr => ∃ (j : Nat) (A0 : Option Addr) (c0 : Nat), acc = .slice A0 (cellsT c 0 (ks.take j)).length c0 ∧ i = .int .i64 j ∧ j ≤ ks.length ∧ Hid (wr.ownsRow w.heap.size 73 4 (.slice A0 (cellsT c 0 (ks.take j)).length c0) (cellsT c 0 (ks.take j)).length ((cellsT c 0 (ks.take j)).flatMap tokC)) ∧ Hid (Blk wr w.heap.size 24 #[kd, tx, .int .i64 c, .slice A ks.length cap]) ∧ Hid (Fresh w wr)) (fun _ i _ => ks.length - (intOf i).toNat)
  case atStart => exact ⟨0, none, 0, by simp [cellsT_nil], rfl, Nat.zero_le _, by simp only [List.take_zero, cellsT_nil]; exact World.ownsRow_nil _ _ _ _, Blk.new _ _ _, (Touch.refl _ _).alloc _⟩
  case round =>
    obtain ⟨j, A0, c0, rfl, rfl, hj, HO, HB, HF⟩ := hrel
    by_cases c1 : j < ks.length
    · have d1 : decide ((j : Int) < (ks.length : Int)) = true := by simp only [decide_eq_true_eq]; omega
      have d1n : decide (j < ks.length) = true := by simp only [decide_eq_true_eq]; omega
      have d1' : (j : Int) < (ks.length : Int) := by omega
      obtain ⟨g, o, sx, rfl, hg, m0, m1, m2, m3, hrk⟩ := HR.out.get j c1
      obtain ⟨Ax, capx, rfl⟩ := hrk.slice
      have ROWx := hid (HI.out ks[j] (List.getElem_mem c1))
      have HLEN0 := hid (Nat.le_trans (cellsT_take_le c ks j c1) HLENN.out)
      have HTK := hid (cellsT_take c ks 0 j c1)
      rw [Nat.zero_add] at HTK
      have HRx := hid hrk
      have XX0 := hid m0
      have XX1 := hid m1
      have XX2 := hid m2
      have XX3 := hid m3
      have xx0_wr := Touch.cell HF.out m0 (fun h => h)
      have xx1_wr := Touch.cell HF.out m1 (fun h => h)
      have xx2_wr := Touch.cell HF.out m2 (fun h => h)
      have xx3_wr := Touch.cell HF.out m3 (fun h => h)
      have hlt_g_wr : g < wr.heap.size := block_lt_of_cell xx0_wr
      clear m0 m1 m2 m3 hrk hg HR
      generalize ks[j] = x at *
      have hsz_wr : w.heap.size ≤ wr.heap.size := Touch.size HF.out
      have q0_0_wr : World.cell? wr ⟨w.heap.size, 0, none⟩ = some (kd) := Blk.cell HB.out 0
      have q0_1_wr : World.cell? wr ⟨w.heap.size, 1, none⟩ = some (tx) := Blk.cell HB.out 1
      have q0_2_wr : World.cell? wr ⟨w.heap.size, 2, none⟩ = some (.int .i64 c) := Blk.cell HB.out 2
      have q0_3_wr : World.cell? wr ⟨w.heap.size, 3, none⟩ = some (.slice (some ⟨g, o, none⟩) ks.length cap) := Blk.cell HB.out 3
      have B0_wr : Blk wr w.heap.size 24 #[kd, tx, .int .i64 c, .slice (some ⟨g, o, none⟩) ks.length cap] := HB.out
      have hlt_w_wr : w.heap.size < wr.heap.size := Blk.lt HB.out
      by_cases j0 : j = 0
      · have e0 : decide (0 < (j : Int)) = false := by simp only [decide_eq_false_iff_not]; omega
        have e0n : decide (0 < j) = false := by simp only [decide_eq_false_iff_not]; omega
        have HSEP := hid (show sepT c j = [] from by unfold sepT; rw [if_pos j0])
        have HLEN := hid (show (cellsT c 0 (ks.take j)).length + (([] : List Lx.Tok).length + (rowT x.kids).length) ≤ 50000 from by have h := HLEN0.out; rw [HSEP.out] at h; exact h)
        clear j0
        go_wp2_with fail
        refine Calls.mono (ROWx.out _ _ (HRx.out.fresh (by first | exact HF.out | exact HF.out.alloc _ | exact (HF.out.alloc _).alloc _ | exact ((HF.out.alloc _).alloc _).alloc _ | exact HF.out.drewN _ | exact (HF.out.alloc _).drewN _ | exact ((HF.out.alloc _).alloc _).drewN _))) ?_
        rintro _ w1 ⟨v1, rfl, how1, hfw1⟩
        have O1_w1 := hid (ownsRow_base (B' := w.heap.size) how1 (by first | exact Nat.le_refl _ | assumption | (simp only [World.size_alloc]; omega)))
        clear how1
        have HF1 := hid (show Fresh wr w1 from by first | exact hfw1 | exact Touch.pre hfw1 | exact Touch.pre (Touch.pre hfw1) | exact Touch.ofN hfw1 | exact Touch.preN hfw1 | exact Touch.pre (Touch.pre (Touch.pre hfw1)))
        have B0_w1 : Blk w1 (w.heap.size) 24 #[kd, tx, .int .i64 c, .slice (some ⟨g, o, none⟩) ks.length cap] := Touch.blk hfw1 (by first | exact Blk.new _ _ _ | exact (Blk.new _ _ _).alloc _ | exact Blk.new2 _ _ _ _ | exact ((Blk.new _ _ _).alloc _).alloc _ | exact (Blk.new2 _ _ _ _).alloc _ | exact Blk.new3 _ _ _ _ _ | assumption | exact Blk.alloc (by assumption) _ | exact (Blk.alloc (Blk.alloc (by assumption) _) _)) (fun h => h)
        clear q0_0_wr q0_1_wr q0_2_wr q0_3_wr B0_wr
        have q0_0_w1 : World.cell? w1 ⟨w.heap.size, 0, none⟩ = some (kd) := Blk.cell B0_w1 0
        have q0_1_w1 : World.cell? w1 ⟨w.heap.size, 1, none⟩ = some (tx) := Blk.cell B0_w1 1
        have q0_2_w1 : World.cell? w1 ⟨w.heap.size, 2, none⟩ = some (.int .i64 c) := Blk.cell B0_w1 2
        have q0_3_w1 : World.cell? w1 ⟨w.heap.size, 3, none⟩ = some (.slice (some ⟨g, o, none⟩) ks.length cap) := Blk.cell B0_w1 3
        have hltb0_w1 : w.heap.size < w1.heap.size := Blk.lt B0_w1
        have xx0_w1 : World.cell? w1 ⟨g, o + j * 4, none⟩ = some (.int .i64 x.kind) := Touch.cell HF1.out xx0_wr (fun h => h)
        have xx1_w1 : World.cell? w1 ⟨g, o + j * 4 + 1, none⟩ = some (.string (⟨x.text.toArray⟩ : ByteArray)) := Touch.cell HF1.out xx1_wr (fun h => h)
        have xx2_w1 : World.cell? w1 ⟨g, o + j * 4 + 2, none⟩ = some (.int .i64 x.cols) := Touch.cell HF1.out xx2_wr (fun h => h)
        have xx3_w1 : World.cell? w1 ⟨g, o + j * 4 + 3, none⟩ = some (.slice Ax x.kids.length capx) := Touch.cell HF1.out xx3_wr (fun h => h)
        clear xx0_wr xx1_wr xx2_wr xx3_wr
        have hsz_w1 : w.heap.size ≤ w1.heap.size := Touch.size (HF.out.trans HF1.out)
        have Oacc_w1 := hid (ownsRow_touch HO.out HF1.out (fun _ _ h => h))
        clear HO
        clear hfw1
        go_wp2_with (at_builtin; refine wpList_append_src _ rfl (.tmp 31) (.tmp 37) 34 rfl w.heap.size 73 i0 _ 4 40 Try.underlying34 hi hz0 hz1 hz2 rfl (by decide) (.slice A0 (cellsT c 0 (ks.take j)).length c0) (cellsT c 0 (ks.take j)).length ((cellsT c 0 (ks.take j)).flatMap tokC) (by simp [Act.eval]) Oacc_w1.out (v1) ((rowT x.kids)).length (((rowT x.kids)).flatMap tokC) (by simp [Act.eval]) (Src.of_own O1_w1.out) (tok_one _) (by have := HLEN.out; unfold maxLen; (try simp at this); (try simp); omega) (by have := HLEN.out; (try simp at this); (try simp); omega) (by first | exact Nat.le_refl _ | assumption | (simp only [World.size_alloc]; omega)) ?_; intro v2 y2 o2 go2 _; refine Stay.mk ?_)
        rw [← List.length_append, ← List.flatMap_append] at o2
        have HEy2 := hid (show Fresh w y2 from grown_fresh go2 Oacc_w1.out (by first | exact (HF.out.trans HF1.out) | exact (HF.out.trans HF1.out).alloc _ | exact ((HF.out.trans HF1.out).alloc _).alloc _ | exact (((HF.out.trans HF1.out).alloc _).alloc _).alloc _ | exact (HF.out.trans HF1.out).drewN _ | exact ((HF.out.trans HF1.out).alloc _).drewN _ | exact (((HF.out.trans HF1.out).alloc _).alloc _).drewN _))
        have hsz_y2 : w.heap.size ≤ y2.heap.size := Touch.size HEy2.out
        have B0_y2 : Blk y2 (w.heap.size) 24 #[kd, tx, .int .i64 c, .slice (some ⟨g, o, none⟩) ks.length cap] := grown_blk (by first | exact Blk.new _ _ _ | exact (Blk.new _ _ _).alloc _ | exact Blk.new2 _ _ _ _ | exact ((Blk.new _ _ _).alloc _).alloc _ | exact (Blk.new2 _ _ _ _).alloc _ | exact Blk.new3 _ _ _ _ _ | assumption | exact Blk.alloc (by assumption) _ | exact (Blk.alloc (Blk.alloc (by assumption) _) _)) Oacc_w1.out go2 (by decide)
        clear q0_0_w1 q0_1_w1 q0_2_w1 q0_3_w1 B0_w1
        have q0_0_y2 : World.cell? y2 ⟨w.heap.size, 0, none⟩ = some (kd) := Blk.cell B0_y2 0
        have q0_1_y2 : World.cell? y2 ⟨w.heap.size, 1, none⟩ = some (tx) := Blk.cell B0_y2 1
        have q0_2_y2 : World.cell? y2 ⟨w.heap.size, 2, none⟩ = some (.int .i64 c) := Blk.cell B0_y2 2
        have q0_3_y2 : World.cell? y2 ⟨w.heap.size, 3, none⟩ = some (.slice (some ⟨g, o, none⟩) ks.length cap) := Blk.cell B0_y2 3
        have hltb0_y2 : w.heap.size < y2.heap.size := Blk.lt B0_y2
        clear xx0_w1 xx1_w1 xx2_w1 xx3_w1
        have xx0_y2 : World.cell? y2 ⟨g, o + j * 4, none⟩ = some (.int .i64 x.kind) := Touch.cell HEy2.out XX0.out (fun h => h)
        have xx1_y2 : World.cell? y2 ⟨g, o + j * 4 + 1, none⟩ = some (.string (⟨x.text.toArray⟩ : ByteArray)) := Touch.cell HEy2.out XX1.out (fun h => h)
        have xx2_y2 : World.cell? y2 ⟨g, o + j * 4 + 2, none⟩ = some (.int .i64 x.cols) := Touch.cell HEy2.out XX2.out (fun h => h)
        have xx3_y2 : World.cell? y2 ⟨g, o + j * 4 + 3, none⟩ = some (.slice Ax x.kids.length capx) := Touch.cell HEy2.out XX3.out (fun h => h)
        have hlt_g_y2 : g < y2.heap.size := block_lt_of_cell xx0_y2
        have O2_y2 := hid o2
        clear go2 o2 Oacc_w1 O1_w1
        refine Stay.go ?_
        have hO9 : y2.ownsRow w.heap.size 73 4 v2 (cellsT c 0 (ks.take (j + 1))).length ((cellsT c 0 (ks.take (j + 1))).flatMap tokC) := ownCast (O2_y2.out) (by rw [HTK.out, HSEP.out]; first | rfl | (simp only [List.append_assoc] <;> rfl) | (simp <;> rfl))
        clear O2_y2
        obtain ⟨A9, c9, rfl⟩ := own_slice hO9
        have HO9 := hid hO9
        clear hO9
        go_wp2_with fail
        go_roundw
        case rel => exact ⟨j + 1, A9, c9, rfl, by go_num, c1, HO9, B0_y2, HEy2.out⟩
        case measure => simp [intOf]; omega
      · have e0 : decide (0 < (j : Int)) = true := by simp only [decide_eq_true_eq]; omega
        have e0n : decide (0 < j) = true := by simp only [decide_eq_true_eq]; omega
        have e0' : (0 : Int) < (j : Int) := by omega
        by_cases jc : (j : Int) % c = 0
        · have e1 : ((j : Int) % c == 0) = true := by rw [beq_iff_eq]; exact jc
          have HSEP := hid (show sepT c j = [⟨8, [92, 92]⟩] from by unfold sepT; rw [if_neg j0, if_pos jc])
          have HLEN := hid (show (cellsT c 0 (ks.take j)).length + (([⟨8, [92, 92]⟩] : List Lx.Tok).length + (rowT x.kids).length) ≤ 50000 from by have h := HLEN0.out; rw [HSEP.out] at h; exact h)
          clear j0 jc
          go_wp2_with (at_builtin; refine wpList_append_src _ rfl (.tmp 21) (.tmp 23) 34 rfl w.heap.size 73 i0 _ 4 40 Try.underlying34 hi hz0 hz1 hz2 rfl (by decide) (.slice A0 (cellsT c 0 (ks.take j)).length c0) (cellsT c 0 (ks.take j)).length ((cellsT c 0 (ks.take j)).flatMap tokC) (by simp [Act.eval]) (World.ownsRow.alloc HO.out _) (.slice (some ⟨wr.heap.size, 0, none⟩) 1 1) (([⟨8, [92, 92]⟩] : List Lx.Tok)).length ((([⟨8, [92, 92]⟩] : List Lx.Tok)).flatMap tokC) (by simp [Act.eval]) (Src.of_own (own_tok1 _ ⟨8, [92, 92]⟩ (by simp) (by first | assumption | (simp only [World.size_alloc]; omega)))) (tok_one _) (by have := HLEN.out; unfold maxLen; (try simp at this); (try simp); omega) (by have := HLEN.out; (try simp at this); (try simp); omega) (by first | exact Nat.le_refl _ | assumption | (simp only [World.size_alloc]; omega)) ?_; intro v4 y4 o4 go4 _; refine Stay.mk ?_)
          rw [← List.length_append, ← List.flatMap_append] at o4
          have HEy4 := hid (show Fresh w y4 from grown_fresh go4 (World.ownsRow.alloc HO.out _) (by first | exact HF.out | exact HF.out.alloc _ | exact (HF.out.alloc _).alloc _ | exact ((HF.out.alloc _).alloc _).alloc _ | exact HF.out.drewN _ | exact (HF.out.alloc _).drewN _ | exact ((HF.out.alloc _).alloc _).drewN _))
          have hsz_y4 : w.heap.size ≤ y4.heap.size := Touch.size HEy4.out
          have B0_y4 : Blk y4 (w.heap.size) 24 #[kd, tx, .int .i64 c, .slice (some ⟨g, o, none⟩) ks.length cap] := grown_blk (by first | exact Blk.new _ _ _ | exact (Blk.new _ _ _).alloc _ | exact Blk.new2 _ _ _ _ | exact ((Blk.new _ _ _).alloc _).alloc _ | exact (Blk.new2 _ _ _ _).alloc _ | exact Blk.new3 _ _ _ _ _ | assumption | exact Blk.alloc (by assumption) _ | exact (Blk.alloc (Blk.alloc (by assumption) _) _)) (World.ownsRow.alloc HO.out _) go4 (by decide)
          clear q0_0_wr q0_1_wr q0_2_wr q0_3_wr B0_wr
          have q0_0_y4 : World.cell? y4 ⟨w.heap.size, 0, none⟩ = some (kd) := Blk.cell B0_y4 0
          have q0_1_y4 : World.cell? y4 ⟨w.heap.size, 1, none⟩ = some (tx) := Blk.cell B0_y4 1
          have q0_2_y4 : World.cell? y4 ⟨w.heap.size, 2, none⟩ = some (.int .i64 c) := Blk.cell B0_y4 2
          have q0_3_y4 : World.cell? y4 ⟨w.heap.size, 3, none⟩ = some (.slice (some ⟨g, o, none⟩) ks.length cap) := Blk.cell B0_y4 3
          have hltb0_y4 : w.heap.size < y4.heap.size := Blk.lt B0_y4
          clear xx0_wr xx1_wr xx2_wr xx3_wr
          have xx0_y4 : World.cell? y4 ⟨g, o + j * 4, none⟩ = some (.int .i64 x.kind) := Touch.cell HEy4.out XX0.out (fun h => h)
          have xx1_y4 : World.cell? y4 ⟨g, o + j * 4 + 1, none⟩ = some (.string (⟨x.text.toArray⟩ : ByteArray)) := Touch.cell HEy4.out XX1.out (fun h => h)
          have xx2_y4 : World.cell? y4 ⟨g, o + j * 4 + 2, none⟩ = some (.int .i64 x.cols) := Touch.cell HEy4.out XX2.out (fun h => h)
          have xx3_y4 : World.cell? y4 ⟨g, o + j * 4 + 3, none⟩ = some (.slice Ax x.kids.length capx) := Touch.cell HEy4.out XX3.out (fun h => h)
          have hlt_g_y4 : g < y4.heap.size := block_lt_of_cell xx0_y4
          have O4_y4 := hid o4
          clear go4 o4 HO
          refine Stay.go ?_
          go_wp2_with fail
          refine Calls.mono (ROWx.out _ _ (HRx.out.fresh (by first | exact HEy4.out | exact HEy4.out.alloc _ | exact (HEy4.out.alloc _).alloc _ | exact ((HEy4.out.alloc _).alloc _).alloc _ | exact HEy4.out.drewN _ | exact (HEy4.out.alloc _).drewN _ | exact ((HEy4.out.alloc _).alloc _).drewN _))) ?_
          rintro _ w2 ⟨v5, rfl, how2, hfw2⟩
          have O5_w2 := hid (ownsRow_base (B' := w.heap.size) how2 (by first | exact Nat.le_refl _ | assumption | (simp only [World.size_alloc]; omega)))
          clear how2
          have HF2 := hid (show Fresh y4 w2 from by first | exact hfw2 | exact Touch.pre hfw2 | exact Touch.pre (Touch.pre hfw2) | exact Touch.ofN hfw2 | exact Touch.preN hfw2 | exact Touch.pre (Touch.pre (Touch.pre hfw2)))
          have B0_w2 : Blk w2 (w.heap.size) 24 #[kd, tx, .int .i64 c, .slice (some ⟨g, o, none⟩) ks.length cap] := Touch.blk hfw2 (by first | exact Blk.new _ _ _ | exact (Blk.new _ _ _).alloc _ | exact Blk.new2 _ _ _ _ | exact ((Blk.new _ _ _).alloc _).alloc _ | exact (Blk.new2 _ _ _ _).alloc _ | exact Blk.new3 _ _ _ _ _ | assumption | exact Blk.alloc (by assumption) _ | exact (Blk.alloc (Blk.alloc (by assumption) _) _)) (fun h => h)
          clear q0_0_y4 q0_1_y4 q0_2_y4 q0_3_y4 B0_y4
          have q0_0_w2 : World.cell? w2 ⟨w.heap.size, 0, none⟩ = some (kd) := Blk.cell B0_w2 0
          have q0_1_w2 : World.cell? w2 ⟨w.heap.size, 1, none⟩ = some (tx) := Blk.cell B0_w2 1
          have q0_2_w2 : World.cell? w2 ⟨w.heap.size, 2, none⟩ = some (.int .i64 c) := Blk.cell B0_w2 2
          have q0_3_w2 : World.cell? w2 ⟨w.heap.size, 3, none⟩ = some (.slice (some ⟨g, o, none⟩) ks.length cap) := Blk.cell B0_w2 3
          have hltb0_w2 : w.heap.size < w2.heap.size := Blk.lt B0_w2
          have xx0_w2 : World.cell? w2 ⟨g, o + j * 4, none⟩ = some (.int .i64 x.kind) := Touch.cell HF2.out xx0_y4 (fun h => h)
          have xx1_w2 : World.cell? w2 ⟨g, o + j * 4 + 1, none⟩ = some (.string (⟨x.text.toArray⟩ : ByteArray)) := Touch.cell HF2.out xx1_y4 (fun h => h)
          have xx2_w2 : World.cell? w2 ⟨g, o + j * 4 + 2, none⟩ = some (.int .i64 x.cols) := Touch.cell HF2.out xx2_y4 (fun h => h)
          have xx3_w2 : World.cell? w2 ⟨g, o + j * 4 + 3, none⟩ = some (.slice Ax x.kids.length capx) := Touch.cell HF2.out xx3_y4 (fun h => h)
          clear xx0_y4 xx1_y4 xx2_y4 xx3_y4
          have hsz_w2 : w.heap.size ≤ w2.heap.size := Touch.size (HEy4.out.trans HF2.out)
          have O4_w2 := hid (ownsRow_touch O4_y4.out HF2.out (fun _ _ h => h))
          clear O4_y4
          clear hfw2
          go_wp2_with (at_builtin; refine wpList_append_src _ rfl (.tmp 31) (.tmp 37) 34 rfl w.heap.size 73 i0 _ 4 40 Try.underlying34 hi hz0 hz1 hz2 rfl (by decide) (v4) ((cellsT c 0 (ks.take j) ++ ([⟨8, [92, 92]⟩] : List Lx.Tok))).length (((cellsT c 0 (ks.take j) ++ ([⟨8, [92, 92]⟩] : List Lx.Tok))).flatMap tokC) (by simp [Act.eval]) O4_w2.out (v5) ((rowT x.kids)).length (((rowT x.kids)).flatMap tokC) (by simp [Act.eval]) (Src.of_own O5_w2.out) (tok_one _) (by have := HLEN.out; unfold maxLen; (try simp at this); (try simp); omega) (by have := HLEN.out; (try simp at this); (try simp); omega) (by first | exact Nat.le_refl _ | assumption | (simp only [World.size_alloc]; omega)) ?_; intro v6 y6 o6 go6 _; refine Stay.mk ?_)
          rw [← List.length_append, ← List.flatMap_append] at o6
          have HEy6 := hid (show Fresh w y6 from grown_fresh go6 O4_w2.out (by first | exact (HEy4.out.trans HF2.out) | exact (HEy4.out.trans HF2.out).alloc _ | exact ((HEy4.out.trans HF2.out).alloc _).alloc _ | exact (((HEy4.out.trans HF2.out).alloc _).alloc _).alloc _ | exact (HEy4.out.trans HF2.out).drewN _ | exact ((HEy4.out.trans HF2.out).alloc _).drewN _ | exact (((HEy4.out.trans HF2.out).alloc _).alloc _).drewN _))
          have hsz_y6 : w.heap.size ≤ y6.heap.size := Touch.size HEy6.out
          have B0_y6 : Blk y6 (w.heap.size) 24 #[kd, tx, .int .i64 c, .slice (some ⟨g, o, none⟩) ks.length cap] := grown_blk (by first | exact Blk.new _ _ _ | exact (Blk.new _ _ _).alloc _ | exact Blk.new2 _ _ _ _ | exact ((Blk.new _ _ _).alloc _).alloc _ | exact (Blk.new2 _ _ _ _).alloc _ | exact Blk.new3 _ _ _ _ _ | assumption | exact Blk.alloc (by assumption) _ | exact (Blk.alloc (Blk.alloc (by assumption) _) _)) O4_w2.out go6 (by decide)
          clear q0_0_w2 q0_1_w2 q0_2_w2 q0_3_w2 B0_w2
          have q0_0_y6 : World.cell? y6 ⟨w.heap.size, 0, none⟩ = some (kd) := Blk.cell B0_y6 0
          have q0_1_y6 : World.cell? y6 ⟨w.heap.size, 1, none⟩ = some (tx) := Blk.cell B0_y6 1
          have q0_2_y6 : World.cell? y6 ⟨w.heap.size, 2, none⟩ = some (.int .i64 c) := Blk.cell B0_y6 2
          have q0_3_y6 : World.cell? y6 ⟨w.heap.size, 3, none⟩ = some (.slice (some ⟨g, o, none⟩) ks.length cap) := Blk.cell B0_y6 3
          have hltb0_y6 : w.heap.size < y6.heap.size := Blk.lt B0_y6
          clear xx0_w2 xx1_w2 xx2_w2 xx3_w2
          have xx0_y6 : World.cell? y6 ⟨g, o + j * 4, none⟩ = some (.int .i64 x.kind) := Touch.cell HEy6.out XX0.out (fun h => h)
          have xx1_y6 : World.cell? y6 ⟨g, o + j * 4 + 1, none⟩ = some (.string (⟨x.text.toArray⟩ : ByteArray)) := Touch.cell HEy6.out XX1.out (fun h => h)
          have xx2_y6 : World.cell? y6 ⟨g, o + j * 4 + 2, none⟩ = some (.int .i64 x.cols) := Touch.cell HEy6.out XX2.out (fun h => h)
          have xx3_y6 : World.cell? y6 ⟨g, o + j * 4 + 3, none⟩ = some (.slice Ax x.kids.length capx) := Touch.cell HEy6.out XX3.out (fun h => h)
          have hlt_g_y6 : g < y6.heap.size := block_lt_of_cell xx0_y6
          have O6_y6 := hid o6
          clear go6 o6 O4_w2 O5_w2
          refine Stay.go ?_
          have hO9 : y6.ownsRow w.heap.size 73 4 v6 (cellsT c 0 (ks.take (j + 1))).length ((cellsT c 0 (ks.take (j + 1))).flatMap tokC) := ownCast (O6_y6.out) (by rw [HTK.out, HSEP.out]; first | rfl | (simp only [List.append_assoc] <;> rfl) | (simp <;> rfl))
          clear O6_y6
          obtain ⟨A9, c9, rfl⟩ := own_slice hO9
          have HO9 := hid hO9
          clear hO9
          go_wp2_with fail
          go_roundw
          case rel => exact ⟨j + 1, A9, c9, rfl, by go_num, c1, HO9, B0_y6, HEy6.out⟩
          case measure => simp [intOf]; omega
        · have e1 : ((j : Int) % c == 0) = false := by rw [beq_eq_false_iff_ne]; exact jc
          have HSEP := hid (show sepT c j = [⟨7, [38]⟩] from by unfold sepT; rw [if_neg j0, if_neg jc]; rfl)
          have HLEN := hid (show (cellsT c 0 (ks.take j)).length + (([⟨7, [38]⟩] : List Lx.Tok).length + (rowT x.kids).length) ≤ 50000 from by have h := HLEN0.out; rw [HSEP.out] at h; exact h)
          clear j0 jc
          go_wp2_with fail
          refine Calls.mono (rmark_any [38] _) ?_
          rintro _ w3 ⟨rfl, hfw3⟩
          have HF3 := hid (show Fresh wr w3 from by first | exact hfw3 | exact Touch.pre hfw3 | exact Touch.pre (Touch.pre hfw3) | exact Touch.ofN hfw3 | exact Touch.preN hfw3 | exact Touch.pre (Touch.pre (Touch.pre hfw3)))
          have B0_w3 : Blk w3 (w.heap.size) 24 #[kd, tx, .int .i64 c, .slice (some ⟨g, o, none⟩) ks.length cap] := Touch.blk hfw3 (by first | exact Blk.new _ _ _ | exact (Blk.new _ _ _).alloc _ | exact Blk.new2 _ _ _ _ | exact ((Blk.new _ _ _).alloc _).alloc _ | exact (Blk.new2 _ _ _ _).alloc _ | exact Blk.new3 _ _ _ _ _ | assumption | exact Blk.alloc (by assumption) _ | exact (Blk.alloc (Blk.alloc (by assumption) _) _)) (fun h => h)
          clear q0_0_wr q0_1_wr q0_2_wr q0_3_wr B0_wr
          have q0_0_w3 : World.cell? w3 ⟨w.heap.size, 0, none⟩ = some (kd) := Blk.cell B0_w3 0
          have q0_1_w3 : World.cell? w3 ⟨w.heap.size, 1, none⟩ = some (tx) := Blk.cell B0_w3 1
          have q0_2_w3 : World.cell? w3 ⟨w.heap.size, 2, none⟩ = some (.int .i64 c) := Blk.cell B0_w3 2
          have q0_3_w3 : World.cell? w3 ⟨w.heap.size, 3, none⟩ = some (.slice (some ⟨g, o, none⟩) ks.length cap) := Blk.cell B0_w3 3
          have hltb0_w3 : w.heap.size < w3.heap.size := Blk.lt B0_w3
          have xx0_w3 : World.cell? w3 ⟨g, o + j * 4, none⟩ = some (.int .i64 x.kind) := Touch.cell HF3.out xx0_wr (fun h => h)
          have xx1_w3 : World.cell? w3 ⟨g, o + j * 4 + 1, none⟩ = some (.string (⟨x.text.toArray⟩ : ByteArray)) := Touch.cell HF3.out xx1_wr (fun h => h)
          have xx2_w3 : World.cell? w3 ⟨g, o + j * 4 + 2, none⟩ = some (.int .i64 x.cols) := Touch.cell HF3.out xx2_wr (fun h => h)
          have xx3_w3 : World.cell? w3 ⟨g, o + j * 4 + 3, none⟩ = some (.slice Ax x.kids.length capx) := Touch.cell HF3.out xx3_wr (fun h => h)
          clear xx0_wr xx1_wr xx2_wr xx3_wr
          have hsz_w3 : w.heap.size ≤ w3.heap.size := Touch.size (HF.out.trans HF3.out)
          have Oacc_w3 := hid (ownsRow_touch HO.out HF3.out (fun _ _ h => h))
          clear HO
          clear hfw3
          go_wp2_with (at_builtin; refine wpList_append_src _ rfl (.tmp 27) (.tmp 29) 34 rfl w.heap.size 73 i0 _ 4 40 Try.underlying34 hi hz0 hz1 hz2 rfl (by decide) (.slice A0 (cellsT c 0 (ks.take j)).length c0) (cellsT c 0 (ks.take j)).length ((cellsT c 0 (ks.take j)).flatMap tokC) (by simp [Act.eval]) (World.ownsRow.alloc Oacc_w3.out _) (.slice (some ⟨w3.heap.size, 0, none⟩) 1 1) ([(⟨7, [38]⟩ : Lx.Tok)]).length (([(⟨7, [38]⟩ : Lx.Tok)]).flatMap tokC) (by simp [Act.eval]) (Src.of_own (own_tok1 _ (⟨7, [38]⟩ : Lx.Tok) (by simp) (by first | assumption | (simp only [World.size_alloc]; omega)))) (tok_one _) (by have := HLEN.out; unfold maxLen; (try simp at this); (try simp); omega) (by have := HLEN.out; (try simp at this); (try simp); omega) (by first | exact Nat.le_refl _ | assumption | (simp only [World.size_alloc]; omega)) ?_; intro v8 y8 o8 go8 _; refine Stay.mk ?_)
          rw [← List.length_append, ← List.flatMap_append] at o8
          have HEy8 := hid (show Fresh w y8 from grown_fresh go8 (World.ownsRow.alloc Oacc_w3.out _) (by first | exact (HF.out.trans HF3.out) | exact (HF.out.trans HF3.out).alloc _ | exact ((HF.out.trans HF3.out).alloc _).alloc _ | exact (((HF.out.trans HF3.out).alloc _).alloc _).alloc _ | exact (HF.out.trans HF3.out).drewN _ | exact ((HF.out.trans HF3.out).alloc _).drewN _ | exact (((HF.out.trans HF3.out).alloc _).alloc _).drewN _))
          have hsz_y8 : w.heap.size ≤ y8.heap.size := Touch.size HEy8.out
          have B0_y8 : Blk y8 (w.heap.size) 24 #[kd, tx, .int .i64 c, .slice (some ⟨g, o, none⟩) ks.length cap] := grown_blk (by first | exact Blk.new _ _ _ | exact (Blk.new _ _ _).alloc _ | exact Blk.new2 _ _ _ _ | exact ((Blk.new _ _ _).alloc _).alloc _ | exact (Blk.new2 _ _ _ _).alloc _ | exact Blk.new3 _ _ _ _ _ | assumption | exact Blk.alloc (by assumption) _ | exact (Blk.alloc (Blk.alloc (by assumption) _) _)) (World.ownsRow.alloc Oacc_w3.out _) go8 (by decide)
          clear q0_0_w3 q0_1_w3 q0_2_w3 q0_3_w3 B0_w3
          have q0_0_y8 : World.cell? y8 ⟨w.heap.size, 0, none⟩ = some (kd) := Blk.cell B0_y8 0
          have q0_1_y8 : World.cell? y8 ⟨w.heap.size, 1, none⟩ = some (tx) := Blk.cell B0_y8 1
          have q0_2_y8 : World.cell? y8 ⟨w.heap.size, 2, none⟩ = some (.int .i64 c) := Blk.cell B0_y8 2
          have q0_3_y8 : World.cell? y8 ⟨w.heap.size, 3, none⟩ = some (.slice (some ⟨g, o, none⟩) ks.length cap) := Blk.cell B0_y8 3
          have hltb0_y8 : w.heap.size < y8.heap.size := Blk.lt B0_y8
          clear xx0_w3 xx1_w3 xx2_w3 xx3_w3
          have xx0_y8 : World.cell? y8 ⟨g, o + j * 4, none⟩ = some (.int .i64 x.kind) := Touch.cell HEy8.out XX0.out (fun h => h)
          have xx1_y8 : World.cell? y8 ⟨g, o + j * 4 + 1, none⟩ = some (.string (⟨x.text.toArray⟩ : ByteArray)) := Touch.cell HEy8.out XX1.out (fun h => h)
          have xx2_y8 : World.cell? y8 ⟨g, o + j * 4 + 2, none⟩ = some (.int .i64 x.cols) := Touch.cell HEy8.out XX2.out (fun h => h)
          have xx3_y8 : World.cell? y8 ⟨g, o + j * 4 + 3, none⟩ = some (.slice Ax x.kids.length capx) := Touch.cell HEy8.out XX3.out (fun h => h)
          have hlt_g_y8 : g < y8.heap.size := block_lt_of_cell xx0_y8
          have O8_y8 := hid o8
          clear go8 o8 Oacc_w3
          refine Stay.go ?_
          go_wp2_with fail
          refine Calls.mono (ROWx.out _ _ (HRx.out.fresh (by first | exact HEy8.out | exact HEy8.out.alloc _ | exact (HEy8.out.alloc _).alloc _ | exact ((HEy8.out.alloc _).alloc _).alloc _ | exact HEy8.out.drewN _ | exact (HEy8.out.alloc _).drewN _ | exact ((HEy8.out.alloc _).alloc _).drewN _))) ?_
          rintro _ w4 ⟨v9, rfl, how4, hfw4⟩
          have O9_w4 := hid (ownsRow_base (B' := w.heap.size) how4 (by first | exact Nat.le_refl _ | assumption | (simp only [World.size_alloc]; omega)))
          clear how4
          have HF4 := hid (show Fresh y8 w4 from by first | exact hfw4 | exact Touch.pre hfw4 | exact Touch.pre (Touch.pre hfw4) | exact Touch.ofN hfw4 | exact Touch.preN hfw4 | exact Touch.pre (Touch.pre (Touch.pre hfw4)))
          have B0_w4 : Blk w4 (w.heap.size) 24 #[kd, tx, .int .i64 c, .slice (some ⟨g, o, none⟩) ks.length cap] := Touch.blk hfw4 (by first | exact Blk.new _ _ _ | exact (Blk.new _ _ _).alloc _ | exact Blk.new2 _ _ _ _ | exact ((Blk.new _ _ _).alloc _).alloc _ | exact (Blk.new2 _ _ _ _).alloc _ | exact Blk.new3 _ _ _ _ _ | assumption | exact Blk.alloc (by assumption) _ | exact (Blk.alloc (Blk.alloc (by assumption) _) _)) (fun h => h)
          clear q0_0_y8 q0_1_y8 q0_2_y8 q0_3_y8 B0_y8
          have q0_0_w4 : World.cell? w4 ⟨w.heap.size, 0, none⟩ = some (kd) := Blk.cell B0_w4 0
          have q0_1_w4 : World.cell? w4 ⟨w.heap.size, 1, none⟩ = some (tx) := Blk.cell B0_w4 1
          have q0_2_w4 : World.cell? w4 ⟨w.heap.size, 2, none⟩ = some (.int .i64 c) := Blk.cell B0_w4 2
          have q0_3_w4 : World.cell? w4 ⟨w.heap.size, 3, none⟩ = some (.slice (some ⟨g, o, none⟩) ks.length cap) := Blk.cell B0_w4 3
          have hltb0_w4 : w.heap.size < w4.heap.size := Blk.lt B0_w4
          have xx0_w4 : World.cell? w4 ⟨g, o + j * 4, none⟩ = some (.int .i64 x.kind) := Touch.cell HF4.out xx0_y8 (fun h => h)
          have xx1_w4 : World.cell? w4 ⟨g, o + j * 4 + 1, none⟩ = some (.string (⟨x.text.toArray⟩ : ByteArray)) := Touch.cell HF4.out xx1_y8 (fun h => h)
          have xx2_w4 : World.cell? w4 ⟨g, o + j * 4 + 2, none⟩ = some (.int .i64 x.cols) := Touch.cell HF4.out xx2_y8 (fun h => h)
          have xx3_w4 : World.cell? w4 ⟨g, o + j * 4 + 3, none⟩ = some (.slice Ax x.kids.length capx) := Touch.cell HF4.out xx3_y8 (fun h => h)
          clear xx0_y8 xx1_y8 xx2_y8 xx3_y8
          have hsz_w4 : w.heap.size ≤ w4.heap.size := Touch.size (HEy8.out.trans HF4.out)
          have O8_w4 := hid (ownsRow_touch O8_y8.out HF4.out (fun _ _ h => h))
          clear O8_y8
          clear hfw4
          go_wp2_with (at_builtin; refine wpList_append_src _ rfl (.tmp 31) (.tmp 37) 34 rfl w.heap.size 73 i0 _ 4 40 Try.underlying34 hi hz0 hz1 hz2 rfl (by decide) (v8) ((cellsT c 0 (ks.take j) ++ [(⟨7, [38]⟩ : Lx.Tok)])).length (((cellsT c 0 (ks.take j) ++ [(⟨7, [38]⟩ : Lx.Tok)])).flatMap tokC) (by simp [Act.eval]) O8_w4.out (v9) ((rowT x.kids)).length (((rowT x.kids)).flatMap tokC) (by simp [Act.eval]) (Src.of_own O9_w4.out) (tok_one _) (by have := HLEN.out; unfold maxLen; (try simp at this); (try simp); omega) (by have := HLEN.out; (try simp at this); (try simp); omega) (by first | exact Nat.le_refl _ | assumption | (simp only [World.size_alloc]; omega)) ?_; intro v10 y10 o10 go10 _; refine Stay.mk ?_)
          rw [← List.length_append, ← List.flatMap_append] at o10
          have HEy10 := hid (show Fresh w y10 from grown_fresh go10 O8_w4.out (by first | exact (HEy8.out.trans HF4.out) | exact (HEy8.out.trans HF4.out).alloc _ | exact ((HEy8.out.trans HF4.out).alloc _).alloc _ | exact (((HEy8.out.trans HF4.out).alloc _).alloc _).alloc _ | exact (HEy8.out.trans HF4.out).drewN _ | exact ((HEy8.out.trans HF4.out).alloc _).drewN _ | exact (((HEy8.out.trans HF4.out).alloc _).alloc _).drewN _))
          have hsz_y10 : w.heap.size ≤ y10.heap.size := Touch.size HEy10.out
          have B0_y10 : Blk y10 (w.heap.size) 24 #[kd, tx, .int .i64 c, .slice (some ⟨g, o, none⟩) ks.length cap] := grown_blk (by first | exact Blk.new _ _ _ | exact (Blk.new _ _ _).alloc _ | exact Blk.new2 _ _ _ _ | exact ((Blk.new _ _ _).alloc _).alloc _ | exact (Blk.new2 _ _ _ _).alloc _ | exact Blk.new3 _ _ _ _ _ | assumption | exact Blk.alloc (by assumption) _ | exact (Blk.alloc (Blk.alloc (by assumption) _) _)) O8_w4.out go10 (by decide)
          clear q0_0_w4 q0_1_w4 q0_2_w4 q0_3_w4 B0_w4
          have q0_0_y10 : World.cell? y10 ⟨w.heap.size, 0, none⟩ = some (kd) := Blk.cell B0_y10 0
          have q0_1_y10 : World.cell? y10 ⟨w.heap.size, 1, none⟩ = some (tx) := Blk.cell B0_y10 1
          have q0_2_y10 : World.cell? y10 ⟨w.heap.size, 2, none⟩ = some (.int .i64 c) := Blk.cell B0_y10 2
          have q0_3_y10 : World.cell? y10 ⟨w.heap.size, 3, none⟩ = some (.slice (some ⟨g, o, none⟩) ks.length cap) := Blk.cell B0_y10 3
          have hltb0_y10 : w.heap.size < y10.heap.size := Blk.lt B0_y10
          clear xx0_w4 xx1_w4 xx2_w4 xx3_w4
          have xx0_y10 : World.cell? y10 ⟨g, o + j * 4, none⟩ = some (.int .i64 x.kind) := Touch.cell HEy10.out XX0.out (fun h => h)
          have xx1_y10 : World.cell? y10 ⟨g, o + j * 4 + 1, none⟩ = some (.string (⟨x.text.toArray⟩ : ByteArray)) := Touch.cell HEy10.out XX1.out (fun h => h)
          have xx2_y10 : World.cell? y10 ⟨g, o + j * 4 + 2, none⟩ = some (.int .i64 x.cols) := Touch.cell HEy10.out XX2.out (fun h => h)
          have xx3_y10 : World.cell? y10 ⟨g, o + j * 4 + 3, none⟩ = some (.slice Ax x.kids.length capx) := Touch.cell HEy10.out XX3.out (fun h => h)
          have hlt_g_y10 : g < y10.heap.size := block_lt_of_cell xx0_y10
          have O10_y10 := hid o10
          clear go10 o10 O8_w4 O9_w4
          refine Stay.go ?_
          have hO9 : y10.ownsRow w.heap.size 73 4 v10 (cellsT c 0 (ks.take (j + 1))).length ((cellsT c 0 (ks.take (j + 1))).flatMap tokC) := ownCast (O10_y10.out) (by rw [HTK.out, HSEP.out]; first | rfl | (simp only [List.append_assoc] <;> rfl) | (simp <;> rfl))
          clear O10_y10
          obtain ⟨A9, c9, rfl⟩ := own_slice hO9
          have HO9 := hid hO9
          clear hO9
          go_wp2_with fail
          go_roundw
          case rel => exact ⟨j + 1, A9, c9, rfl, by go_num, c1, HO9, B0_y10, HEy10.out⟩
          case measure => simp [intOf]; omega
    · have d1 : decide ((j : Int) < (ks.length : Int)) = false := by simp only [decide_eq_false_iff_not]; omega
      have d1n : decide (j < ks.length) = false := by simp only [decide_eq_false_iff_not]; omega
      obtain rfl : j = ks.length := by omega
      have hsz_wr : w.heap.size ≤ wr.heap.size := Touch.size HF.out
      have q0_0_wr : World.cell? wr ⟨w.heap.size, 0, none⟩ = some (kd) := Blk.cell HB.out 0
      have q0_1_wr : World.cell? wr ⟨w.heap.size, 1, none⟩ = some (tx) := Blk.cell HB.out 1
      have q0_2_wr : World.cell? wr ⟨w.heap.size, 2, none⟩ = some (.int .i64 c) := Blk.cell HB.out 2
      have q0_3_wr : World.cell? wr ⟨w.heap.size, 3, none⟩ = some (.slice A ks.length cap) := Blk.cell HB.out 3
      have B0_wr : Blk wr w.heap.size 24 #[kd, tx, .int .i64 c, .slice A ks.length cap] := HB.out
      have hlt_w_wr : w.heap.size < wr.heap.size := Blk.lt HB.out
      go_wp2_with fail
      go_ret
      exact ⟨_, rfl, ownCast (HO.out) (by rw [List.take_length]), (by first | exact HF.out | exact HF.out.alloc _ | exact (HF.out.alloc _).alloc _ | exact ((HF.out.alloc _).alloc _).alloc _ | exact HF.out.drewN _ | exact (HF.out.alloc _).drewN _ | exact ((HF.out.alloc _).alloc _).drewN _)⟩
end Go.Proofs.Ytilgpmpiidccjaa
