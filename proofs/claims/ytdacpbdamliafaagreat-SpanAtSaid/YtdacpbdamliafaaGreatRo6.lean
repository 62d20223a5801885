/- Part 6 of 12 of a proof; its texts, joined: RpC, RpD, RpE, RpF. No condition. -/
import Derived.Test.YtdacpbdamliafaaGreatRo4
import Derived.Test.YtdacpbdamliafaaGreatRo5

/- The reference printer's Row and matrix. -/
namespace Go.Proofs.YtdacpbdamliafaaGreat
open Go.RowKit
open Tr (Nd argT baseT rowT itemT cellsT)
theorem own_slice {W : World} {B e size n : Nat} {v : Value} {xs : List Value} (h : W.ownsRow B e size v n xs) : ∃ A c, v = .slice A n c := by
 rcases h.2 with ⟨h1, h2⟩ | ⟨g, cap, cur, h1, _⟩
 ·exact ⟨none, 0, by rw [h1, h2]⟩
 ·exact ⟨_, _, h1⟩
theorem rowT_take_le (l : List Nd) (j : Nat) (h : j < l.length) : (rowT (l.take j)).length + (itemT l[j]).length ≤ (rowT l).length := by
 obtain ⟨r, hr⟩ := rowT_split l j h
 rw [hr]
 simp only [List.length_append]
 omega
theorem cellsT_take_le (c : Int) (l : List Nd) (j : Nat) (h : j < l.length) : (cellsT c 0 (l.take j)).length + ((sepT c j).length + (rowT l[j].kids).length) ≤ (cellsT c 0 l).length := by
 obtain ⟨r, hr⟩ := cellsT_split c l 0 j h
 rw [hr]
 simp only [List.length_append, Nat.zero_add]
 omega
set_option maxRecDepth 100000 in
set_option maxHeartbeats 2000000 in
theorem row_r (n : Nd) (hi : ∀ x ∈ n.kids, ItemR x) (hn : (rowT n.kids).length ≤ 50000) : RowR n := by
 intro w sl hsl
 obtain ⟨A, cap, rfl⟩ := hsl.slice
 have hlen := hsl.len
 unfold maxLen at hlen
 have HI := hid hi
 have HR := hid hsl
 have HLENN := hid hn
 obtain ⟨i0, hi0, hz0, hz1, hz2⟩ := info_parts infoRTok
 clear hi hsl hn
 have hi := hi0
 clear hi0
 generalize n.kids = ks at *
 go_enter Tryz.func76, Tryz.ntmps76
 go_wp2_with fail
 go_loopw [3, 4] (fun acc i wr => ∃ (j : Nat) (A0 : Option Addr) (c0 : Nat), acc = .slice A0 (rowT (ks.take j)).length c0 ∧ i = .int .i64 j ∧ j ≤ ks.length ∧ Hid (wr.ownsRow w.heap.size 51 4 (.slice A0 (rowT (ks.take j)).length c0) (rowT (ks.take j)).length ((rowT (ks.take j)).flatMap tokC)) ∧ Hid (Blk wr w.heap.size 24 #[.int .i64 n.kind, .string ⟨n.text.toArray⟩, .int .i64 n.cols, .slice A ks.length cap]) ∧ Hid (Fresh w wr)) (fun _ i _ => ks.length - (intOf i).toNat)
 case atStart => exact ⟨0, none, 0, by simp [Tr.rowT_nil], rfl, Nat.zero_le _, by simp only [List.take_zero, Tr.rowT_nil]; exact World.ownsRow_nil _ _ _ _, Blk.new _ _ _, (Touch.refl _ _).alloc _⟩
 case round =>
  obtain ⟨j, A0, c0, rfl, rfl, hj, HO, HB, HF⟩ := hrel
  by_cases c1 : j < ks.length
  ·have d1 : decide ((j : Int) < (ks.length : Int)) = true := by simp only [decide_eq_true_eq]; omega
   have d1n : decide (j < ks.length) = true := by simp only [decide_eq_true_eq]; omega
   have d1' : (j : Int) < (ks.length : Int) := by omega
   obtain ⟨g, o, sx, rfl, hg, m0, m1, m2, m3, hrk⟩ := HR.out.get j c1
   obtain ⟨Ax, capx, rfl⟩ := hrk.slice
   have ITMx := hid (HI.out ks[j] (List.getElem_mem c1))
   have HLEN := hid (Nat.le_trans (rowT_take_le ks j c1) HLENN.out)
   have HTK := hid (rowT_take ks j c1)
   have HRx := hid hrk
   have XX0 := hid m0
   have XX1 := hid m1
   have XX2 := hid m2
   have XX3 := hid m3
   have xx0_wr := Touch.cell HF.out m0 (fun h => h)
   have xx1_wr := Touch.cell HF.out m1 (fun h => h)
   have xx2_wr := Touch.cell HF.out m2 (fun h => h)
   have xx3_wr := Touch.cell HF.out m3 (fun h => h)
   have hlt_g_wr : g < wr.heap.size := block_lt_of_cell xx0_wr
   clear m0 m1 m2 m3 hrk hg HR
   generalize ks[j] = x at *
   have hsz_wr : w.heap.size ≤ wr.heap.size := Touch.size HF.out
   obtain ⟨q0_0_wr, q0_1_wr, q0_2_wr, q0_3_wr, _⟩ := Blk.four HB.out
   have B0_wr : Blk wr w.heap.size 24 #[.int .i64 n.kind, .string (⟨n.text.toArray⟩ : ByteArray), .int .i64 n.cols, .slice (some ⟨g, o, none⟩) ks.length cap] := HB.out
   have hlt_w_wr : w.heap.size < wr.heap.size := Blk.lt HB.out
   go_wp2_with fail
   refine Calls.mono (ITMx.out _ _ (HRx.out.fresh (frA HF.out))) ?_
   rintro _ w1 ⟨v1, rfl, how1, hfw1⟩
   have O1_w1 := hid (ownsRow_base (B' := w.heap.size) how1 (by first | exact Nat.le_refl _ | assumption | (simp only [World.size_alloc]; omega)))
   clear how1
   have HF1 := hid (show Fresh wr w1 from preA hfw1)
   have B0_w1 := Touch.blk hfw1 (blkA B0_wr) (fun h => h)
   clear q0_0_wr q0_1_wr q0_2_wr q0_3_wr B0_wr
   obtain ⟨q0_0_w1, q0_1_w1, q0_2_w1, q0_3_w1, _⟩ := Blk.four B0_w1
   have hltb0_w1 : w.heap.size < w1.heap.size := Blk.lt B0_w1
   obtain ⟨xx0_w1, xx1_w1, xx2_w1, xx3_w1⟩ := mv4 HF1.out xx0_wr xx1_wr xx2_wr xx3_wr
   clear xx0_wr xx1_wr xx2_wr xx3_wr
   have hsz_w1 : w.heap.size ≤ w1.heap.size := Touch.size (HF.out.trans HF1.out)
   have Oacc_w1 := hid (ownsRow_touch HO.out HF1.out (fun _ _ h => h))
   clear HO
   clear hfw1
   go_wp2_with (at_builtin; refine wpList_append_src _ rfl (.tmp 12) (.tmp 18) 47 rfl w.heap.size 51 i0 _ 4 40 Tryz.underlying47 hi hz0 hz1 hz2 rfl (by decide) (.slice A0 (rowT (ks.take j)).length c0) (rowT (ks.take j)).length ((rowT (ks.take j)).flatMap tokC) (by simp [Act.eval]) Oacc_w1.out (v1) ((itemT x)).length (((itemT x)).flatMap tokC) (by simp [Act.eval]) (Src.of_own O1_w1.out) (tok_one _) (by have := HLEN.out; unfold maxLen; (try simp at this); (try simp); omega) (by have := HLEN.out; (try simp at this); (try simp); omega) (by first | exact Nat.le_refl _ | assumption | (simp only [World.size_alloc]; omega)) ?_; intro v2 y2 o2 go2 _; refine Stay.mk ?_)
   rw [← List.length_append, ← List.flatMap_append] at o2
   have HEy2 := hid (show Fresh w y2 from grown_fresh go2 Oacc_w1.out (frA (HF.out.trans HF1.out)))
   have hsz_y2 : w.heap.size ≤ y2.heap.size := Touch.size HEy2.out
   have B0_y2 : Blk y2 (w.heap.size) 24 #[.int .i64 n.kind, .string (⟨n.text.toArray⟩ : ByteArray), .int .i64 n.cols, .slice (some ⟨g, o, none⟩) ks.length cap] := grown_blk (by first | exact blkN | assumption | exact blkA (by assumption)) Oacc_w1.out go2 (by decide)
   clear q0_0_w1 q0_1_w1 q0_2_w1 q0_3_w1 B0_w1
   obtain ⟨q0_0_y2, q0_1_y2, q0_2_y2, q0_3_y2, _⟩ := Blk.four B0_y2
   have hltb0_y2 : w.heap.size < y2.heap.size := Blk.lt B0_y2
   clear xx0_w1 xx1_w1 xx2_w1 xx3_w1
   obtain ⟨xx0_y2, xx1_y2, xx2_y2, xx3_y2⟩ := mv4 HEy2.out XX0.out XX1.out XX2.out XX3.out
   have hlt_g_y2 : g < y2.heap.size := block_lt_of_cell xx0_y2
   have O2_y2 := hid o2
   clear go2 o2 Oacc_w1 O1_w1
   refine Stay.go ?_
   have hO9 : y2.ownsRow w.heap.size 51 4 v2 (rowT (ks.take (j + 1))).length ((rowT (ks.take (j + 1))).flatMap tokC) := ownCast (O2_y2.out) (HTK.out.symm)
   clear O2_y2
   obtain ⟨A9, c9, rfl⟩ := own_slice hO9
   have HO9 := hid hO9
   clear hO9
   go_wp2_with fail
   go_roundw
   case rel => exact ⟨j + 1, A9, c9, rfl, by go_num, c1, HO9, B0_y2, HEy2.out⟩
   case measure => simp [intOf]; omega
  ·have d1 : decide ((j : Int) < (ks.length : Int)) = false := by simp only [decide_eq_false_iff_not]; omega
   have d1n : decide (j < ks.length) = false := by simp only [decide_eq_false_iff_not]; omega
   obtain rfl : j = ks.length := by omega
   have hsz_wr : w.heap.size ≤ wr.heap.size := Touch.size HF.out
   obtain ⟨q0_0_wr, q0_1_wr, q0_2_wr, q0_3_wr, _⟩ := Blk.four HB.out
   have B0_wr : Blk wr w.heap.size 24 #[.int .i64 n.kind, .string (⟨n.text.toArray⟩ : ByteArray), .int .i64 n.cols, .slice A ks.length cap] := HB.out
   have hlt_w_wr : w.heap.size < wr.heap.size := Blk.lt HB.out
   go_wp2_with fail
   go_ret
   exact ⟨_, rfl, ownCast (HO.out) (by rw [List.take_length]), (frA HF.out)⟩
set_option maxRecDepth 100000 in
set_option maxHeartbeats 2000000 in
theorem rmatrix_any (kd tx : Value) (c : Int) (ks : List Nd) (hc : 1 ≤ c) (hc' : c ≤ 1000000) (hi : ∀ x ∈ ks, RowR x) (hn : (cellsT c 0 ks).length ≤ 50000) (w : World) (sl : Value) (hsl : RepL w ks sl) :
  Calls Tryz.prog 141 #[.agg #[kd, tx, .int .i64 c, sl]] w (TokRes w (cellsT c 0 ks)) := by
 obtain ⟨A, cap, rfl⟩ := hsl.slice
 have hlen := hsl.len
 unfold maxLen at hlen
 have HI := hid hi
 have HR := hid hsl
 have HLENN := hid hn
 have hc0 : (c == 0) = false := by rw [beq_eq_false_iff_ne]; omega
 have hc1 : 0 < c := by omega
 have hc2 : 0 ≤ c := by omega
 clear hi hsl hn
 obtain ⟨i0, hi, hz0, hz1, hz2⟩ := info_parts infoRTok
 go_enter Tryz.func141, Tryz.ntmps141
 go_wp2_with fail
 go_loopw [3, 4] (fun acc i wr => ∃ (j : Nat) (A0 : Option Addr) (c0 : Nat), acc = .slice A0 (cellsT c 0 (ks.take j)).length c0 ∧ i = .int .i64 j ∧ j ≤ ks.length ∧ Hid (wr.ownsRow w.heap.size 51 4 (.slice A0 (cellsT c 0 (ks.take j)).length c0) (cellsT c 0 (ks.take j)).length ((cellsT c 0 (ks.take j)).flatMap tokC)) ∧ Hid (Blk wr w.heap.size 24 #[kd, tx, .int .i64 c, .slice A ks.length cap]) ∧ Hid (Fresh w wr)) (fun _ i _ => ks.length - (intOf i).toNat)
 case atStart => exact ⟨0, none, 0, by simp [cellsT_nil], rfl, Nat.zero_le _, by simp only [List.take_zero, cellsT_nil]; exact World.ownsRow_nil _ _ _ _, Blk.new _ _ _, (Touch.refl _ _).alloc _⟩
 case round =>
  obtain ⟨j, A0, c0, rfl, rfl, hj, HO, HB, HF⟩ := hrel
  by_cases c1 : j < ks.length
  ·have d1 : decide ((j : Int) < (ks.length : Int)) = true := by simp only [decide_eq_true_eq]; omega
   have d1n : decide (j < ks.length) = true := by simp only [decide_eq_true_eq]; omega
   have d1' : (j : Int) < (ks.length : Int) := by omega
   obtain ⟨g, o, sx, rfl, hg, m0, m1, m2, m3, hrk⟩ := HR.out.get j c1
   obtain ⟨Ax, capx, rfl⟩ := hrk.slice
   have ROWx := hid (HI.out ks[j] (List.getElem_mem c1))
   have HLEN0 := hid (Nat.le_trans (cellsT_take_le c ks j c1) HLENN.out)
   have HTK := hid (cellsT_take c ks 0 j c1)
   rw [Nat.zero_add] at HTK
   have HRx := hid hrk
   have XX0 := hid m0
   have XX1 := hid m1
   have XX2 := hid m2
   have XX3 := hid m3
   have xx0_wr := Touch.cell HF.out m0 (fun h => h)
   have xx1_wr := Touch.cell HF.out m1 (fun h => h)
   have xx2_wr := Touch.cell HF.out m2 (fun h => h)
   have xx3_wr := Touch.cell HF.out m3 (fun h => h)
   have hlt_g_wr : g < wr.heap.size := block_lt_of_cell xx0_wr
   clear m0 m1 m2 m3 hrk hg HR
   generalize ks[j] = x at *
   have hsz_wr : w.heap.size ≤ wr.heap.size := Touch.size HF.out
   obtain ⟨q0_0_wr, q0_1_wr, q0_2_wr, q0_3_wr, _⟩ := Blk.four HB.out
   have B0_wr : Blk wr w.heap.size 24 #[kd, tx, .int .i64 c, .slice (some ⟨g, o, none⟩) ks.length cap] := HB.out
   have hlt_w_wr : w.heap.size < wr.heap.size := Blk.lt HB.out
   by_cases j0 : j = 0
   ·have e0 : decide (0 < (j : Int)) = false := by simp only [decide_eq_false_iff_not]; omega
    have e0n : decide (0 < j) = false := by simp only [decide_eq_false_iff_not]; omega
    have HSEP := hid (show sepT c j = [] from by unfold sepT; rw [if_pos j0])
    have HLEN := hid (show (cellsT c 0 (ks.take j)).length + (([] : List Lx.Tok).length + (rowT x.kids).length) ≤ 50000 from by have h := HLEN0.out; rw [HSEP.out] at h; exact h)
    clear j0
    go_wp2_with fail
    refine Calls.mono (ROWx.out _ _ (HRx.out.fresh (frA HF.out))) ?_
    rintro _ w1 ⟨v1, rfl, how1, hfw1⟩
    have O1_w1 := hid (ownsRow_base (B' := w.heap.size) how1 (by first | exact Nat.le_refl _ | assumption | (simp only [World.size_alloc]; omega)))
    clear how1
    have HF1 := hid (show Fresh wr w1 from preA hfw1)
    have B0_w1 := Touch.blk hfw1 (blkA B0_wr) (fun h => h)
    clear q0_0_wr q0_1_wr q0_2_wr q0_3_wr B0_wr
    obtain ⟨q0_0_w1, q0_1_w1, q0_2_w1, q0_3_w1, _⟩ := Blk.four B0_w1
    have hltb0_w1 : w.heap.size < w1.heap.size := Blk.lt B0_w1
    obtain ⟨xx0_w1, xx1_w1, xx2_w1, xx3_w1⟩ := mv4 HF1.out xx0_wr xx1_wr xx2_wr xx3_wr
    clear xx0_wr xx1_wr xx2_wr xx3_wr
    have hsz_w1 : w.heap.size ≤ w1.heap.size := Touch.size (HF.out.trans HF1.out)
    have Oacc_w1 := hid (ownsRow_touch HO.out HF1.out (fun _ _ h => h))
    clear HO
    clear hfw1
    go_wp2_with (at_builtin; refine wpList_append_src _ rfl (.tmp 31) (.tmp 37) 47 rfl w.heap.size 51 i0 _ 4 40 Tryz.underlying47 hi hz0 hz1 hz2 rfl (by decide) (.slice A0 (cellsT c 0 (ks.take j)).length c0) (cellsT c 0 (ks.take j)).length ((cellsT c 0 (ks.take j)).flatMap tokC) (by simp [Act.eval]) Oacc_w1.out (v1) ((rowT x.kids)).length (((rowT x.kids)).flatMap tokC) (by simp [Act.eval]) (Src.of_own O1_w1.out) (tok_one _) (by have := HLEN.out; unfold maxLen; (try simp at this); (try simp); omega) (by have := HLEN.out; (try simp at this); (try simp); omega) (by first | exact Nat.le_refl _ | assumption | (simp only [World.size_alloc]; omega)) ?_; intro v2 y2 o2 go2 _; refine Stay.mk ?_)
    rw [← List.length_append, ← List.flatMap_append] at o2
    have HEy2 := hid (show Fresh w y2 from grown_fresh go2 Oacc_w1.out (frA (HF.out.trans HF1.out)))
    have hsz_y2 : w.heap.size ≤ y2.heap.size := Touch.size HEy2.out
    have B0_y2 : Blk y2 (w.heap.size) 24 #[kd, tx, .int .i64 c, .slice (some ⟨g, o, none⟩) ks.length cap] := grown_blk (by first | exact blkN | assumption | exact blkA (by assumption)) Oacc_w1.out go2 (by decide)
    clear q0_0_w1 q0_1_w1 q0_2_w1 q0_3_w1 B0_w1
    obtain ⟨q0_0_y2, q0_1_y2, q0_2_y2, q0_3_y2, _⟩ := Blk.four B0_y2
    have hltb0_y2 : w.heap.size < y2.heap.size := Blk.lt B0_y2
    clear xx0_w1 xx1_w1 xx2_w1 xx3_w1
    obtain ⟨xx0_y2, xx1_y2, xx2_y2, xx3_y2⟩ := mv4 HEy2.out XX0.out XX1.out XX2.out XX3.out
    have hlt_g_y2 : g < y2.heap.size := block_lt_of_cell xx0_y2
    have O2_y2 := hid o2
    clear go2 o2 Oacc_w1 O1_w1
    refine Stay.go ?_
    have hO9 : y2.ownsRow w.heap.size 51 4 v2 (cellsT c 0 (ks.take (j + 1))).length ((cellsT c 0 (ks.take (j + 1))).flatMap tokC) := ownCast (O2_y2.out) (by rw [HTK.out, HSEP.out]; first | rfl | (simp only [List.append_assoc] <;> rfl) | (simp <;> rfl))
    clear O2_y2
    obtain ⟨A9, c9, rfl⟩ := own_slice hO9
    have HO9 := hid hO9
    clear hO9
    go_wp2_with fail
    go_roundw
    case rel => exact ⟨j + 1, A9, c9, rfl, by go_num, c1, HO9, B0_y2, HEy2.out⟩
    case measure => simp [intOf]; omega
   ·have e0 : decide (0 < (j : Int)) = true := by simp only [decide_eq_true_eq]; omega
    have e0n : decide (0 < j) = true := by simp only [decide_eq_true_eq]; omega
    have e0' : (0 : Int) < (j : Int) := by omega
    by_cases jc : (j : Int) % c = 0
    ·have e1 : ((j : Int) % c == 0) = true := by rw [beq_iff_eq]; exact jc
     have HSEP := hid (show sepT c j = [⟨8, [92, 92]⟩] from by unfold sepT; rw [if_neg j0, if_pos jc])
     have HLEN := hid (show (cellsT c 0 (ks.take j)).length + (([⟨8, [92, 92]⟩] : List Lx.Tok).length + (rowT x.kids).length) ≤ 50000 from by have h := HLEN0.out; rw [HSEP.out] at h; exact h)
     clear j0 jc
     go_wp2_with (at_builtin; refine wpList_append_src _ rfl (.tmp 21) (.tmp 23) 47 rfl w.heap.size 51 i0 _ 4 40 Tryz.underlying47 hi hz0 hz1 hz2 rfl (by decide) (.slice A0 (cellsT c 0 (ks.take j)).length c0) (cellsT c 0 (ks.take j)).length ((cellsT c 0 (ks.take j)).flatMap tokC) (by simp [Act.eval]) (World.ownsRow.alloc HO.out _) (.slice (some ⟨wr.heap.size, 0, none⟩) 1 1) (([⟨8, [92, 92]⟩] : List Lx.Tok)).length ((([⟨8, [92, 92]⟩] : List Lx.Tok)).flatMap tokC) (by simp [Act.eval]) (Src.of_own (own_tok1 _ ⟨8, [92, 92]⟩ (by simp) (by first | assumption | (simp only [World.size_alloc]; omega)))) (tok_one _) (by have := HLEN.out; unfold maxLen; (try simp at this); (try simp); omega) (by have := HLEN.out; (try simp at this); (try simp); omega) (by first | exact Nat.le_refl _ | assumption | (simp only [World.size_alloc]; omega)) ?_; intro v4 y4 o4 go4 _; refine Stay.mk ?_)
     rw [← List.length_append, ← List.flatMap_append] at o4
     have HEy4 := hid (show Fresh w y4 from grown_fresh go4 (World.ownsRow.alloc HO.out _) (frA HF.out))
     have hsz_y4 : w.heap.size ≤ y4.heap.size := Touch.size HEy4.out
     have B0_y4 : Blk y4 (w.heap.size) 24 #[kd, tx, .int .i64 c, .slice (some ⟨g, o, none⟩) ks.length cap] := grown_blk (by first | exact blkN | assumption | exact blkA (by assumption)) (World.ownsRow.alloc HO.out _) go4 (by decide)
     clear q0_0_wr q0_1_wr q0_2_wr q0_3_wr B0_wr
     obtain ⟨q0_0_y4, q0_1_y4, q0_2_y4, q0_3_y4, _⟩ := Blk.four B0_y4
     have hltb0_y4 : w.heap.size < y4.heap.size := Blk.lt B0_y4
     clear xx0_wr xx1_wr xx2_wr xx3_wr
     obtain ⟨xx0_y4, xx1_y4, xx2_y4, xx3_y4⟩ := mv4 HEy4.out XX0.out XX1.out XX2.out XX3.out
     have hlt_g_y4 : g < y4.heap.size := block_lt_of_cell xx0_y4
     have O4_y4 := hid o4
     clear go4 o4 HO
     refine Stay.go ?_
     go_wp2_with fail
     refine Calls.mono (ROWx.out _ _ (HRx.out.fresh (frA HEy4.out))) ?_
     rintro _ w2 ⟨v5, rfl, how2, hfw2⟩
     have O5_w2 := hid (ownsRow_base (B' := w.heap.size) how2 (by first | exact Nat.le_refl _ | assumption | (simp only [World.size_alloc]; omega)))
     clear how2
     have HF2 := hid (show Fresh y4 w2 from preA hfw2)
     have B0_w2 := Touch.blk hfw2 (blkA B0_y4) (fun h => h)
     clear q0_0_y4 q0_1_y4 q0_2_y4 q0_3_y4 B0_y4
     obtain ⟨q0_0_w2, q0_1_w2, q0_2_w2, q0_3_w2, _⟩ := Blk.four B0_w2
     have hltb0_w2 : w.heap.size < w2.heap.size := Blk.lt B0_w2
     obtain ⟨xx0_w2, xx1_w2, xx2_w2, xx3_w2⟩ := mv4 HF2.out xx0_y4 xx1_y4 xx2_y4 xx3_y4
     clear xx0_y4 xx1_y4 xx2_y4 xx3_y4
     have hsz_w2 : w.heap.size ≤ w2.heap.size := Touch.size (HEy4.out.trans HF2.out)
     have O4_w2 := hid (ownsRow_touch O4_y4.out HF2.out (fun _ _ h => h))
     clear O4_y4
     clear hfw2
     go_wp2_with (at_builtin; refine wpList_append_src _ rfl (.tmp 31) (.tmp 37) 47 rfl w.heap.size 51 i0 _ 4 40 Tryz.underlying47 hi hz0 hz1 hz2 rfl (by decide) (v4) ((cellsT c 0 (ks.take j) ++ ([⟨8, [92, 92]⟩] : List Lx.Tok))).length (((cellsT c 0 (ks.take j) ++ ([⟨8, [92, 92]⟩] : List Lx.Tok))).flatMap tokC) (by simp [Act.eval]) O4_w2.out (v5) ((rowT x.kids)).length (((rowT x.kids)).flatMap tokC) (by simp [Act.eval]) (Src.of_own O5_w2.out) (tok_one _) (by have := HLEN.out; unfold maxLen; (try simp at this); (try simp); omega) (by have := HLEN.out; (try simp at this); (try simp); omega) (by first | exact Nat.le_refl _ | assumption | (simp only [World.size_alloc]; omega)) ?_; intro v6 y6 o6 go6 _; refine Stay.mk ?_)
     rw [← List.length_append, ← List.flatMap_append] at o6
     have HEy6 := hid (show Fresh w y6 from grown_fresh go6 O4_w2.out (frA (HEy4.out.trans HF2.out)))
     have hsz_y6 : w.heap.size ≤ y6.heap.size := Touch.size HEy6.out
     have B0_y6 : Blk y6 (w.heap.size) 24 #[kd, tx, .int .i64 c, .slice (some ⟨g, o, none⟩) ks.length cap] := grown_blk (by first | exact blkN | assumption | exact blkA (by assumption)) O4_w2.out go6 (by decide)
     clear q0_0_w2 q0_1_w2 q0_2_w2 q0_3_w2 B0_w2
     obtain ⟨q0_0_y6, q0_1_y6, q0_2_y6, q0_3_y6, _⟩ := Blk.four B0_y6
     have hltb0_y6 : w.heap.size < y6.heap.size := Blk.lt B0_y6
     clear xx0_w2 xx1_w2 xx2_w2 xx3_w2
     obtain ⟨xx0_y6, xx1_y6, xx2_y6, xx3_y6⟩ := mv4 HEy6.out XX0.out XX1.out XX2.out XX3.out
     have hlt_g_y6 : g < y6.heap.size := block_lt_of_cell xx0_y6
     have O6_y6 := hid o6
     clear go6 o6 O4_w2 O5_w2
     refine Stay.go ?_
     have hO9 : y6.ownsRow w.heap.size 51 4 v6 (cellsT c 0 (ks.take (j + 1))).length ((cellsT c 0 (ks.take (j + 1))).flatMap tokC) := ownCast (O6_y6.out) (by rw [HTK.out, HSEP.out]; first | rfl | (simp only [List.append_assoc] <;> rfl) | (simp <;> rfl))
     clear O6_y6
     obtain ⟨A9, c9, rfl⟩ := own_slice hO9
     have HO9 := hid hO9
     clear hO9
     go_wp2_with fail
     go_roundw
     case rel => exact ⟨j + 1, A9, c9, rfl, by go_num, c1, HO9, B0_y6, HEy6.out⟩
     case measure => simp [intOf]; omega
    ·have e1 : ((j : Int) % c == 0) = false := by rw [beq_eq_false_iff_ne]; exact jc
     have HSEP := hid (show sepT c j = [⟨7, [38]⟩] from by unfold sepT; rw [if_neg j0, if_neg jc]; rfl)
     have HLEN := hid (show (cellsT c 0 (ks.take j)).length + (([⟨7, [38]⟩] : List Lx.Tok).length + (rowT x.kids).length) ≤ 50000 from by have h := HLEN0.out; rw [HSEP.out] at h; exact h)
     clear j0 jc
     go_wp2_with fail
     refine Calls.mono (rmark_any [38] _) ?_
     rintro _ w3 ⟨rfl, hfw3⟩
     have HF3 := hid (show Fresh wr w3 from preA hfw3)
     have B0_w3 := Touch.blk hfw3 (blkA B0_wr) (fun h => h)
     clear q0_0_wr q0_1_wr q0_2_wr q0_3_wr B0_wr
     obtain ⟨q0_0_w3, q0_1_w3, q0_2_w3, q0_3_w3, _⟩ := Blk.four B0_w3
     have hltb0_w3 : w.heap.size < w3.heap.size := Blk.lt B0_w3
     obtain ⟨xx0_w3, xx1_w3, xx2_w3, xx3_w3⟩ := mv4 HF3.out xx0_wr xx1_wr xx2_wr xx3_wr
     clear xx0_wr xx1_wr xx2_wr xx3_wr
     have hsz_w3 : w.heap.size ≤ w3.heap.size := Touch.size (HF.out.trans HF3.out)
     have Oacc_w3 := hid (ownsRow_touch HO.out HF3.out (fun _ _ h => h))
     clear HO
     clear hfw3
     go_wp2_with (at_builtin; refine wpList_append_src _ rfl (.tmp 27) (.tmp 29) 47 rfl w.heap.size 51 i0 _ 4 40 Tryz.underlying47 hi hz0 hz1 hz2 rfl (by decide) (.slice A0 (cellsT c 0 (ks.take j)).length c0) (cellsT c 0 (ks.take j)).length ((cellsT c 0 (ks.take j)).flatMap tokC) (by simp [Act.eval]) (World.ownsRow.alloc Oacc_w3.out _) (.slice (some ⟨w3.heap.size, 0, none⟩) 1 1) ([(⟨7, [38]⟩ : Lx.Tok)]).length (([(⟨7, [38]⟩ : Lx.Tok)]).flatMap tokC) (by simp [Act.eval]) (Src.of_own (own_tok1 _ (⟨7, [38]⟩ : Lx.Tok) (by simp) (by first | assumption | (simp only [World.size_alloc]; omega)))) (tok_one _) (by have := HLEN.out; unfold maxLen; (try simp at this); (try simp); omega) (by have := HLEN.out; (try simp at this); (try simp); omega) (by first | exact Nat.le_refl _ | assumption | (simp only [World.size_alloc]; omega)) ?_; intro v8 y8 o8 go8 _; refine Stay.mk ?_)
     rw [← List.length_append, ← List.flatMap_append] at o8
     have HEy8 := hid (show Fresh w y8 from grown_fresh go8 (World.ownsRow.alloc Oacc_w3.out _) (frA (HF.out.trans HF3.out)))
     have hsz_y8 : w.heap.size ≤ y8.heap.size := Touch.size HEy8.out
     have B0_y8 : Blk y8 (w.heap.size) 24 #[kd, tx, .int .i64 c, .slice (some ⟨g, o, none⟩) ks.length cap] := grown_blk (by first | exact blkN | assumption | exact blkA (by assumption)) (World.ownsRow.alloc Oacc_w3.out _) go8 (by decide)
     clear q0_0_w3 q0_1_w3 q0_2_w3 q0_3_w3 B0_w3
     obtain ⟨q0_0_y8, q0_1_y8, q0_2_y8, q0_3_y8, _⟩ := Blk.four B0_y8
     have hltb0_y8 : w.heap.size < y8.heap.size := Blk.lt B0_y8
     clear xx0_w3 xx1_w3 xx2_w3 xx3_w3
     obtain ⟨xx0_y8, xx1_y8, xx2_y8, xx3_y8⟩ := mv4 HEy8.out XX0.out XX1.out XX2.out XX3.out
     have hlt_g_y8 : g < y8.heap.size := block_lt_of_cell xx0_y8
     have O8_y8 := hid o8
     clear go8 o8 Oacc_w3
     refine Stay.go ?_
     go_wp2_with fail
     refine Calls.mono (ROWx.out _ _ (HRx.out.fresh (frA HEy8.out))) ?_
     rintro _ w4 ⟨v9, rfl, how4, hfw4⟩
     have O9_w4 := hid (ownsRow_base (B' := w.heap.size) how4 (by first | exact Nat.le_refl _ | assumption | (simp only [World.size_alloc]; omega)))
     clear how4
     have HF4 := hid (show Fresh y8 w4 from preA hfw4)
     have B0_w4 := Touch.blk hfw4 (blkA B0_y8) (fun h => h)
     clear q0_0_y8 q0_1_y8 q0_2_y8 q0_3_y8 B0_y8
     obtain ⟨q0_0_w4, q0_1_w4, q0_2_w4, q0_3_w4, _⟩ := Blk.four B0_w4
     have hltb0_w4 : w.heap.size < w4.heap.size := Blk.lt B0_w4
     obtain ⟨xx0_w4, xx1_w4, xx2_w4, xx3_w4⟩ := mv4 HF4.out xx0_y8 xx1_y8 xx2_y8 xx3_y8
     clear xx0_y8 xx1_y8 xx2_y8 xx3_y8
     have hsz_w4 : w.heap.size ≤ w4.heap.size := Touch.size (HEy8.out.trans HF4.out)
     have O8_w4 := hid (ownsRow_touch O8_y8.out HF4.out (fun _ _ h => h))
     clear O8_y8
     clear hfw4
     go_wp2_with (at_builtin; refine wpList_append_src _ rfl (.tmp 31) (.tmp 37) 47 rfl w.heap.size 51 i0 _ 4 40 Tryz.underlying47 hi hz0 hz1 hz2 rfl (by decide) (v8) ((cellsT c 0 (ks.take j) ++ [(⟨7, [38]⟩ : Lx.Tok)])).length (((cellsT c 0 (ks.take j) ++ [(⟨7, [38]⟩ : Lx.Tok)])).flatMap tokC) (by simp [Act.eval]) O8_w4.out (v9) ((rowT x.kids)).length (((rowT x.kids)).flatMap tokC) (by simp [Act.eval]) (Src.of_own O9_w4.out) (tok_one _) (by have := HLEN.out; unfold maxLen; (try simp at this); (try simp); omega) (by have := HLEN.out; (try simp at this); (try simp); omega) (by first | exact Nat.le_refl _ | assumption | (simp only [World.size_alloc]; omega)) ?_; intro v10 y10 o10 go10 _; refine Stay.mk ?_)
     rw [← List.length_append, ← List.flatMap_append] at o10
     have HEy10 := hid (show Fresh w y10 from grown_fresh go10 O8_w4.out (frA (HEy8.out.trans HF4.out)))
     have hsz_y10 : w.heap.size ≤ y10.heap.size := Touch.size HEy10.out
     have B0_y10 : Blk y10 (w.heap.size) 24 #[kd, tx, .int .i64 c, .slice (some ⟨g, o, none⟩) ks.length cap] := grown_blk (by first | exact blkN | assumption | exact blkA (by assumption)) O8_w4.out go10 (by decide)
     clear q0_0_w4 q0_1_w4 q0_2_w4 q0_3_w4 B0_w4
     obtain ⟨q0_0_y10, q0_1_y10, q0_2_y10, q0_3_y10, _⟩ := Blk.four B0_y10
     have hltb0_y10 : w.heap.size < y10.heap.size := Blk.lt B0_y10
     clear xx0_w4 xx1_w4 xx2_w4 xx3_w4
     obtain ⟨xx0_y10, xx1_y10, xx2_y10, xx3_y10⟩ := mv4 HEy10.out XX0.out XX1.out XX2.out XX3.out
     have hlt_g_y10 : g < y10.heap.size := block_lt_of_cell xx0_y10
     have O10_y10 := hid o10
     clear go10 o10 O8_w4 O9_w4
     refine Stay.go ?_
     have hO9 : y10.ownsRow w.heap.size 51 4 v10 (cellsT c 0 (ks.take (j + 1))).length ((cellsT c 0 (ks.take (j + 1))).flatMap tokC) := ownCast (O10_y10.out) (by rw [HTK.out, HSEP.out]; first | rfl | (simp only [List.append_assoc] <;> rfl) | (simp <;> rfl))
     clear O10_y10
     obtain ⟨A9, c9, rfl⟩ := own_slice hO9
     have HO9 := hid hO9
     clear hO9
     go_wp2_with fail
     go_roundw
     case rel => exact ⟨j + 1, A9, c9, rfl, by go_num, c1, HO9, B0_y10, HEy10.out⟩
     case measure => simp [intOf]; omega
  ·have d1 : decide ((j : Int) < (ks.length : Int)) = false := by simp only [decide_eq_false_iff_not]; omega
   have d1n : decide (j < ks.length) = false := by simp only [decide_eq_false_iff_not]; omega
   obtain rfl : j = ks.length := by omega
   have hsz_wr : w.heap.size ≤ wr.heap.size := Touch.size HF.out
   obtain ⟨q0_0_wr, q0_1_wr, q0_2_wr, q0_3_wr, _⟩ := Blk.four HB.out
   have B0_wr : Blk wr w.heap.size 24 #[kd, tx, .int .i64 c, .slice A ks.length cap] := HB.out
   have hlt_w_wr : w.heap.size < wr.heap.size := Blk.lt HB.out
   go_wp2_with fail
   go_ret
   exact ⟨_, rfl, ownCast (HO.out) (by rw [List.take_length]), (frA HF.out)⟩
end Go.Proofs.YtdacpbdamliafaaGreat

/- The reference printer's Item: a symbol, a number, a text, a root. -/
namespace Go.Proofs.YtdacpbdamliafaaGreat
open Go.RowKit
open Tr (Nd argT baseT rowT itemT cellsT)
def PR (w W : World) (k : Nat) : Prop := w.heap.size ≤ k ∧ ∃ cur fr, W.heap[k]? = some (.cells cur 51 fr)
theorem PR.trans {w a b c : World} (h : Touch (PR w a) a b) (k : Touch (PR w b) b c) : Touch (PR w a) a c := by
 refine ⟨k.os.trans h.os, k.tape.trans h.tape, k.output.trans h.output, Nat.le_trans h.size k.size, fun i hi hn => ?_⟩
 have h1 := h.block i hi hn
 refine (k.block i (Nat.lt_of_lt_of_le hi h.size) fun hs => hn ?_).trans h1
 obtain ⟨h2, cur, fr, h3⟩ := hs
 exact ⟨h2, cur, fr, by rw [← h1]; exact h3⟩
theorem PR.fresh {w a b : World} (h : Fresh a b) : Touch (PR w a) a b := h.mono fun _ h => h.elim
theorem PR.then {w a b c : World} (h : Touch (PR w a) a b) (k : Fresh b c) : Touch (PR w a) a c := PR.trans h (PR.fresh k)
theorem PR.grown {w a b c : World} {size n : Nat} {v : Value} {xs : List Value} (h : Touch (PR w a) a b) (ho : b.ownsRow w.heap.size 51 size v n xs) (hg : b.grownBy c v.ownBlock) : Touch (PR w a) a c :=
 PR.trans h (Touch.grown (S := PR w b) (Touch.refl _ b) hg fun g hk => .inl (by
  obtain ⟨h1, cur, h2⟩ := owns_type ho hk
  exact ⟨h1, cur, _, h2⟩))
theorem PR.blk {w a b : World} {g : Nat} {t : TypeId} {cs : Array Value} (h : Touch (PR w a) a b) (hb : Blk a g t cs) (ht : t ≠ 51) : Blk b g t cs := by
 refine h.blk hb ?_
 rintro ⟨_, cur, fr, h3⟩
 unfold Blk at hb
 rw [hb] at h3
 cases h3
 exact ht rfl
theorem PR.old {w a b : World} (h : Touch (PR w a) a b) (hf : Fresh w a) {q : Addr} {v : Value} (hc : w.cell? q = some v) : b.cell? q = some v := by
 have hlt := block_lt_of_cell (a := q) (v := v) hc
 exact h.cell (hf.cell hc (fun h => h)) fun hs => by have := hs.1; omega
theorem PR.all {w a b : World} (h : Touch (PR w a) a b) (hf : Fresh w a) : Fresh w b := hf.trans' h fun _ hs => .inr hs.1
set_option maxRecDepth 100000 in
set_option maxHeartbeats 2000000 in
theorem item_sym1_r (t : List UInt8) (h : t.length = 1) (cl sl : Value) (w : World) : Calls Tryz.prog 102 #[.agg #[.int .i64 2, .string ⟨t.toArray⟩, cl, sl]] w (TokRes w ([⟨1, t⟩])) := by
 have d1 : decide ((1 : Int) < (t.length : Int)) = false := by simp only [decide_eq_false_iff_not]; omega
 have d2 : decide (1 < t.length) = false := by simp only [decide_eq_false_iff_not]; omega
 have HH := hid h
 clear h
 go_enter Tryz.func102, Tryz.ntmps102
 go_wp2_with fail
 go_ret
 exact ⟨.slice (some ⟨w.heap.size + 1, 0, none⟩) 1 1, rfl, ownCast ((own_tok1 (B := w.heap.size) (i := w.heap.size + 1) _ ⟨1, t⟩ (by simp) (by first | assumption | (simp only [World.size_alloc]; omega)))) (by first | rfl | (simp only [List.append_assoc] <;> rfl) | (simp <;> rfl)), (frA (Touch.refl _ _))⟩
set_option maxRecDepth 100000 in
set_option maxHeartbeats 2000000 in
theorem item_symn_r (t : List UInt8) (h : 1 < t.length) (cl sl : Value) (w : World) : Calls Tryz.prog 102 #[.agg #[.int .i64 2, .string ⟨t.toArray⟩, cl, sl]] w (TokRes w ([⟨4, t⟩])) := by
 have d1 : decide ((1 : Int) < (t.length : Int)) = true := by simp only [decide_eq_true_eq]; omega
 have d2 : decide (1 < t.length) = true := by simp only [decide_eq_true_eq]; omega
 have d3 : (1 : Int) < (t.length : Int) := by omega
 go_enter Tryz.func102, Tryz.ntmps102
 go_wp2_with fail
 refine Calls.mono (rname_any t _) ?_
 rintro _ w1 ⟨rfl, hfw1⟩
 have HF1 := hid (show Fresh w w1 from preA hfw1)
 have B0_w1 : Blk w1 (w.heap.size) 24 #[.int .i64 (2 : Int), .string (⟨t.toArray⟩ : ByteArray), cl, sl] := Touch.blk hfw1 (by first | exact blkN | assumption | exact blkA (by assumption)) (fun h => h)
 obtain ⟨q0_0_w1, q0_1_w1, q0_2_w1, q0_3_w1, _⟩ := Blk.four B0_w1
 have hltb0_w1 : w.heap.size < w1.heap.size := Blk.lt B0_w1
 have hsz_w1 : w.heap.size ≤ w1.heap.size := Touch.size HF1.out
 clear hfw1
 go_wp2_with fail
 go_ret
 exact ⟨.slice (some ⟨w1.heap.size, 0, none⟩) 1 1, rfl, ownCast ((own_tok1 (B := w.heap.size) (i := w1.heap.size) _ (⟨4, t⟩ : Lx.Tok) (by simp) (by first | assumption | (simp only [World.size_alloc]; omega)))) (by first | rfl | (simp only [List.append_assoc] <;> rfl) | (simp <;> rfl)), (frA HF1.out)⟩
set_option maxRecDepth 100000 in
set_option maxHeartbeats 2000000 in
theorem item_num_r (t : List UInt8)  (cl sl : Value) (w : World) : Calls Tryz.prog 102 #[.agg #[.int .i64 3, .string ⟨t.toArray⟩, cl, sl]] w (TokRes w ([⟨2, t⟩])) := by
 go_enter Tryz.func102, Tryz.ntmps102
 go_wp2_with fail
 go_ret
 exact ⟨.slice (some ⟨w.heap.size + 1, 0, none⟩) 1 1, rfl, ownCast ((own_tok1 (B := w.heap.size) (i := w.heap.size + 1) _ ⟨2, t⟩ (by simp) (by first | assumption | (simp only [World.size_alloc]; omega)))) (by first | rfl | (simp only [List.append_assoc] <;> rfl) | (simp <;> rfl)), (frA (Touch.refl _ _))⟩
set_option maxRecDepth 100000 in
set_option maxHeartbeats 2000000 in
theorem item_text_r (t : List UInt8)  (cl sl : Value) (w : World) : Calls Tryz.prog 102 #[.agg #[.int .i64 4, .string ⟨t.toArray⟩, cl, sl]] w (TokRes w ([⟨3, t⟩])) := by
 go_enter Tryz.func102, Tryz.ntmps102
 go_wp2_with fail
 go_ret
 exact ⟨.slice (some ⟨w.heap.size + 1, 0, none⟩) 1 1, rfl, ownCast ((own_tok1 (B := w.heap.size) (i := w.heap.size + 1) _ ⟨3, t⟩ (by simp) (by first | assumption | (simp only [World.size_alloc]; omega)))) (by first | rfl | (simp only [List.append_assoc] <;> rfl) | (simp <;> rfl)), (frA (Touch.refl _ _))⟩
set_option maxRecDepth 100000 in
set_option maxHeartbeats 2000000 in
theorem item_root_full (tx cl : Value) (a b : Nd) (hk : a.kids ≠ []) (ha : RowR a) (hb : ArgR b) (hl : (rowT a.kids ++ argT b : List Lx.Tok).length ≤ 50000) (w : World) (sl : Value) (hsl : RepL w [a, b] sl) : Calls Tryz.prog 102 #[.agg #[.int .i64 6, tx, cl, sl]] w (TokRes w ([Tr.name Tr.sRoot] ++ ([Tr.mk7 91] ++ (rowT a.kids ++ ([Tr.mk7 93] ++ argT b))))) := by
 obtain ⟨g, o, cap, sa, sb, rfl, a0, a1, a2, a3, hra, b0, b1, b2, b3, hrb⟩ := hsl.two
 obtain ⟨Aa, capa, rfl⟩ := hra.slice
 obtain ⟨i0, hi, hz0, hz1, hz2⟩ := info_parts infoRTok
 have ROWa := hid ha
 have HRa := hid hra
 clear ha
 have ARGb := hid hb
 have HRb := hid hrb
 have HLEN := hid hl
 have hpos : 0 < a.kids.length := by exact List.length_pos_iff.2 hk
 have d1 : decide ((0 : Int) < (a.kids.length : Int)) = true := by simp only [decide_eq_true_eq]; omega
 have d1n : decide (0 < a.kids.length) = true := by simp only [decide_eq_true_eq]; omega
 have d1' : (0 : Int) < (a.kids.length : Int) := by omega
 clear hpos
 clear hb hsl hra hrb hk hl
 have XA0 := hid a0
 have XA1 := hid a1
 have XA2 := hid a2
 have XA3 := hid a3
 have XB0 := hid b0
 have XB1 := hid b1
 have XB2 := hid b2
 have XB3 := hid b3
 clear a0 a1 a2 a3 b0 b1 b2 b3
 have xa0_w : World.cell? w ⟨g, o, none⟩ = some (.int .i64 a.kind) := XA0.out
 have xa1_w : World.cell? w ⟨g, o + 1, none⟩ = some (.string (⟨a.text.toArray⟩ : ByteArray)) := XA1.out
 have xa2_w : World.cell? w ⟨g, o + 2, none⟩ = some (.int .i64 a.cols) := XA2.out
 have xa3_w : World.cell? w ⟨g, o + 3, none⟩ = some (.slice Aa a.kids.length capa) := XA3.out
 have xb0_w : World.cell? w ⟨g, o + 4, none⟩ = some (.int .i64 b.kind) := XB0.out
 have xb1_w : World.cell? w ⟨g, o + 4 + 1, none⟩ = some (.string (⟨b.text.toArray⟩ : ByteArray)) := XB1.out
 have xb2_w : World.cell? w ⟨g, o + 4 + 2, none⟩ = some (.int .i64 b.cols) := XB2.out
 have xb3_w : World.cell? w ⟨g, o + 4 + 3, none⟩ = some (sb) := XB3.out
 have hlt_g_w : g < w.heap.size := block_lt_of_cell xa0_w
 go_enter Tryz.func102, Tryz.ntmps102
 go_wp2_with fail
 refine Calls.mono (rname_any [114, 111, 111, 116] _) ?_
 rintro _ w1 ⟨rfl, hfw1⟩
 have HF1 := hid (show Fresh w w1 from preA hfw1)
 have B0_w1 : Blk w1 (w.heap.size) 24 #[.int .i64 (6 : Int), tx, cl, .slice (some ⟨g, o, none⟩) 2 cap] := Touch.blk hfw1 (by first | exact blkN | assumption | exact blkA (by assumption)) (fun h => h)
 obtain ⟨q0_0_w1, q0_1_w1, q0_2_w1, q0_3_w1, _⟩ := Blk.four B0_w1
 have hltb0_w1 : w.heap.size < w1.heap.size := Blk.lt B0_w1
 obtain ⟨xa0_w1, xa1_w1, xa2_w1, xa3_w1⟩ := mv4 HF1.out xa0_w xa1_w xa2_w xa3_w
 obtain ⟨xb0_w1, xb1_w1, xb2_w1, xb3_w1⟩ := mv4 HF1.out xb0_w xb1_w xb2_w xb3_w
 clear xa0_w xa1_w xa2_w xa3_w xb0_w xb1_w xb2_w xb3_w
 have hsz_w1 : w.heap.size ≤ w1.heap.size := Touch.size HF1.out
 have hlt_g_w1 : g < w1.heap.size := block_lt_of_cell xa0_w1
 clear hfw1
 go_wp2_with fail
 refine Calls.mono (ROWa.out _ _ (HRa.out.fresh (frA HF1.out))) ?_
 rintro _ w2 ⟨v2, rfl, how2, hfw2⟩
 have O2_w2 := hid (ownsRow_base (B' := w.heap.size) how2 (by first | exact Nat.le_refl _ | assumption | (simp only [World.size_alloc]; omega)))
 clear how2
 have HF2 := hid (show Fresh w1 w2 from preA hfw2)
 have B0_w2 := Touch.blk hfw2 (blkA B0_w1) (fun h => h)
 clear q0_0_w1 q0_1_w1 q0_2_w1 q0_3_w1 B0_w1
 obtain ⟨q0_0_w2, q0_1_w2, q0_2_w2, q0_3_w2, _⟩ := Blk.four B0_w2
 have hltb0_w2 : w.heap.size < w2.heap.size := Blk.lt B0_w2
 obtain ⟨xa0_w2, xa1_w2, xa2_w2, xa3_w2⟩ := mv4 HF2.out xa0_w1 xa1_w1 xa2_w1 xa3_w1
 obtain ⟨xb0_w2, xb1_w2, xb2_w2, xb3_w2⟩ := mv4 HF2.out xb0_w1 xb1_w1 xb2_w1 xb3_w1
 clear xa0_w1 xa1_w1 xa2_w1 xa3_w1 xb0_w1 xb1_w1 xb2_w1 xb3_w1
 have hsz_w2 : w.heap.size ≤ w2.heap.size := Touch.size (HF1.out.trans HF2.out)
 have O1_w2 := hid (ownsRow_touch ((own_tok1 (B := w.heap.size) (i := w1.heap.size) _ (⟨4, [114, 111, 111, 116]⟩ : Lx.Tok) (by simp) (by first | assumption | (simp only [World.size_alloc]; omega)))) hfw2 (fun _ _ h => h))
 have hlt_g_w2 : g < w2.heap.size := block_lt_of_cell xa0_w2
 clear hfw2
 go_wp2_with fail
 refine Calls.mono (rin_any [91] [93] ((rowT a.kids)) _ _ (Src.of_own O2_w2.out) (by have := HLEN.out; (try simp at this); (try simp); omega)) ?_
 rintro _ w3 ⟨v3, rfl, how3, hfw3⟩
 have O3_w3 := hid (ownsRow_base (B' := w.heap.size) how3 (by first | exact Nat.le_refl _ | assumption | (simp only [World.size_alloc]; omega)))
 clear how3
 have HF3 := hid (show Fresh w2 w3 from preA hfw3)
 have B0_w3 := Touch.blk hfw3 (blkA B0_w2) (fun h => h)
 clear q0_0_w2 q0_1_w2 q0_2_w2 q0_3_w2 B0_w2
 obtain ⟨q0_0_w3, q0_1_w3, q0_2_w3, q0_3_w3, _⟩ := Blk.four B0_w3
 have hltb0_w3 : w.heap.size < w3.heap.size := Blk.lt B0_w3
 obtain ⟨xa0_w3, xa1_w3, xa2_w3, xa3_w3⟩ := mv4 HF3.out xa0_w2 xa1_w2 xa2_w2 xa3_w2
 obtain ⟨xb0_w3, xb1_w3, xb2_w3, xb3_w3⟩ := mv4 HF3.out xb0_w2 xb1_w2 xb2_w2 xb3_w2
 clear xa0_w2 xa1_w2 xa2_w2 xa3_w2 xb0_w2 xb1_w2 xb2_w2 xb3_w2
 have hsz_w3 : w.heap.size ≤ w3.heap.size := Touch.size ((HF1.out.trans HF2.out).trans HF3.out)
 have O1_w3 := hid (ownsRow_touch O1_w2.out HF3.out (fun _ _ h => h))
 clear O1_w2
 have hlt_g_w3 : g < w3.heap.size := block_lt_of_cell xa0_w3
 clear hfw3
 go_wp2_with (at_builtin; refine wpList_append_src _ rfl (.tmp 61) (.tmp 67) 47 rfl w.heap.size 51 i0 _ 4 40 Tryz.underlying47 hi hz0 hz1 hz2 rfl (by decide) (.slice (some ⟨w1.heap.size, 0, none⟩) 1 1) ([(⟨4, [114, 111, 111, 116]⟩ : Lx.Tok)]).length (([(⟨4, [114, 111, 111, 116]⟩ : Lx.Tok)]).flatMap tokC) (by simp [Act.eval]) O1_w3.out (v3) ((([⟨7, [91]⟩] : List Lx.Tok) ++ ((rowT a.kids) ++ ([⟨7, [93]⟩] : List Lx.Tok)))).length (((([⟨7, [91]⟩] : List Lx.Tok) ++ ((rowT a.kids) ++ ([⟨7, [93]⟩] : List Lx.Tok)))).flatMap tokC) (by simp [Act.eval]) (Src.of_own O3_w3.out) (tok_one _) (by have := HLEN.out; unfold maxLen; (try simp at this); (try simp); omega) (by have := HLEN.out; (try simp at this); (try simp); omega) (by first | exact Nat.le_refl _ | assumption | (simp only [World.size_alloc]; omega)) ?_; intro v4 y4 o4 go4 _; refine Stay.mk ?_)
 rw [← List.length_append, ← List.flatMap_append] at o4
 have HEy4 := hid (show Fresh w y4 from grown_fresh go4 O1_w3.out (frA (HF1.out.trans (HF2.out.trans HF3.out))))
 have hsz_y4 : w.heap.size ≤ y4.heap.size := Touch.size HEy4.out
 have B0_y4 : Blk y4 (w.heap.size) 24 #[.int .i64 (6 : Int), tx, cl, .slice (some ⟨g, o, none⟩) 2 cap] := grown_blk (by first | exact blkN | assumption | exact blkA (by assumption)) O1_w3.out go4 (by decide)
 clear q0_0_w3 q0_1_w3 q0_2_w3 q0_3_w3 B0_w3
 obtain ⟨q0_0_y4, q0_1_y4, q0_2_y4, q0_3_y4, _⟩ := Blk.four B0_y4
 have hltb0_y4 : w.heap.size < y4.heap.size := Blk.lt B0_y4
 clear xa0_w3 xa1_w3 xa2_w3 xa3_w3 xb0_w3 xb1_w3 xb2_w3 xb3_w3
 obtain ⟨xa0_y4, xa1_y4, xa2_y4, xa3_y4⟩ := mv4 HEy4.out XA0.out XA1.out XA2.out XA3.out
 obtain ⟨xb0_y4, xb1_y4, xb2_y4, xb3_y4⟩ := mv4 HEy4.out XB0.out XB1.out XB2.out XB3.out
 have hlt_g_y4 : g < y4.heap.size := block_lt_of_cell xa0_y4
 have O4_y4 := hid o4
 clear go4 o4 O1_w3 O3_w3
 refine Stay.go ?_
 go_wp2_with fail
 refine Calls.mono (ARGb.out _ _ (HRb.out.fresh (frA HEy4.out))) ?_
 rintro _ w4 ⟨v5, rfl, how4, hfw4⟩
 have O5_w4 := hid (ownsRow_base (B' := w.heap.size) how4 (by first | exact Nat.le_refl _ | assumption | (simp only [World.size_alloc]; omega)))
 clear how4
 have HF4 := hid (show Fresh y4 w4 from preA hfw4)
 have B0_w4 := Touch.blk hfw4 (blkA B0_y4) (fun h => h)
 clear q0_0_y4 q0_1_y4 q0_2_y4 q0_3_y4 B0_y4
 obtain ⟨q0_0_w4, q0_1_w4, q0_2_w4, q0_3_w4, _⟩ := Blk.four B0_w4
 have hltb0_w4 : w.heap.size < w4.heap.size := Blk.lt B0_w4
 obtain ⟨xa0_w4, xa1_w4, xa2_w4, xa3_w4⟩ := mv4 HF4.out xa0_y4 xa1_y4 xa2_y4 xa3_y4
 obtain ⟨xb0_w4, xb1_w4, xb2_w4, xb3_w4⟩ := mv4 HF4.out xb0_y4 xb1_y4 xb2_y4 xb3_y4
 clear xa0_y4 xa1_y4 xa2_y4 xa3_y4 xb0_y4 xb1_y4 xb2_y4 xb3_y4
 have hsz_w4 : w.heap.size ≤ w4.heap.size := Touch.size (HEy4.out.trans HF4.out)
 have O4_w4 := hid (ownsRow_touch O4_y4.out HF4.out (fun _ _ h => h))
 clear O4_y4
 have hlt_g_w4 : g < w4.heap.size := block_lt_of_cell xa0_w4
 clear hfw4
 go_wp2_with (at_builtin; refine wpList_append_src _ rfl (.tmp 69) (.tmp 74) 47 rfl w.heap.size 51 i0 _ 4 40 Tryz.underlying47 hi hz0 hz1 hz2 rfl (by decide) (v4) (([(⟨4, [114, 111, 111, 116]⟩ : Lx.Tok)] ++ (([⟨7, [91]⟩] : List Lx.Tok) ++ ((rowT a.kids) ++ ([⟨7, [93]⟩] : List Lx.Tok))))).length ((([(⟨4, [114, 111, 111, 116]⟩ : Lx.Tok)] ++ (([⟨7, [91]⟩] : List Lx.Tok) ++ ((rowT a.kids) ++ ([⟨7, [93]⟩] : List Lx.Tok))))).flatMap tokC) (by simp [Act.eval]) O4_w4.out (v5) ((argT b)).length (((argT b)).flatMap tokC) (by simp [Act.eval]) (Src.of_own O5_w4.out) (tok_one _) (by have := HLEN.out; unfold maxLen; (try simp at this); (try simp); omega) (by have := HLEN.out; (try simp at this); (try simp); omega) (by first | exact Nat.le_refl _ | assumption | (simp only [World.size_alloc]; omega)) ?_; intro v6 y6 o6 go6 _; refine Stay.mk ?_)
 rw [← List.length_append, ← List.flatMap_append] at o6
 have HEy6 := hid (show Fresh w y6 from grown_fresh go6 O4_w4.out (frA (HEy4.out.trans HF4.out)))
 have hsz_y6 : w.heap.size ≤ y6.heap.size := Touch.size HEy6.out
 have B0_y6 : Blk y6 (w.heap.size) 24 #[.int .i64 (6 : Int), tx, cl, .slice (some ⟨g, o, none⟩) 2 cap] := grown_blk (by first | exact blkN | assumption | exact blkA (by assumption)) O4_w4.out go6 (by decide)
 clear q0_0_w4 q0_1_w4 q0_2_w4 q0_3_w4 B0_w4
 obtain ⟨q0_0_y6, q0_1_y6, q0_2_y6, q0_3_y6, _⟩ := Blk.four B0_y6
 have hltb0_y6 : w.heap.size < y6.heap.size := Blk.lt B0_y6
 clear xa0_w4 xa1_w4 xa2_w4 xa3_w4 xb0_w4 xb1_w4 xb2_w4 xb3_w4
 obtain ⟨xa0_y6, xa1_y6, xa2_y6, xa3_y6⟩ := mv4 HEy6.out XA0.out XA1.out XA2.out XA3.out
 obtain ⟨xb0_y6, xb1_y6, xb2_y6, xb3_y6⟩ := mv4 HEy6.out XB0.out XB1.out XB2.out XB3.out
 have hlt_g_y6 : g < y6.heap.size := block_lt_of_cell xa0_y6
 have O6_y6 := hid o6
 clear go6 o6 O4_w4 O5_w4
 refine Stay.go ?_
 go_wp2_with fail
 go_ret
 exact ⟨v6, rfl, ownCast (O6_y6.out) (by first | rfl | (simp only [List.append_assoc] <;> rfl) | (simp <;> rfl)), (frA HEy6.out)⟩
set_option maxRecDepth 100000 in
set_option maxHeartbeats 2000000 in
theorem item_root_bare (tx cl : Value) (a b : Nd) (hk : a.kids = []) (hb : ArgR b) (hl : (argT b : List Lx.Tok).length ≤ 50000) (w : World) (sl : Value) (hsl : RepL w [a, b] sl) : Calls Tryz.prog 102 #[.agg #[.int .i64 6, tx, cl, sl]] w (TokRes w ([Tr.name Tr.sRoot] ++ argT b)) := by
 obtain ⟨g, o, cap, sa, sb, rfl, a0, a1, a2, a3, hra, b0, b1, b2, b3, hrb⟩ := hsl.two
 obtain ⟨Aa, capa, rfl⟩ := hra.slice
 obtain ⟨i0, hi, hz0, hz1, hz2⟩ := info_parts infoRTok
 have ARGb := hid hb
 have HRb := hid hrb
 have HLEN := hid hl
 have hpos : a.kids.length = 0 := by rw [hk]; rfl
 have d1 : decide ((0 : Int) < (a.kids.length : Int)) = false := by simp only [decide_eq_false_iff_not]; omega
 have d1n : decide (0 < a.kids.length) = false := by simp only [decide_eq_false_iff_not]; omega
 have HPOS := hid hpos
 clear hpos
 clear hb hsl hra hrb hk hl
 have XA0 := hid a0
 have XA1 := hid a1
 have XA2 := hid a2
 have XA3 := hid a3
 have XB0 := hid b0
 have XB1 := hid b1
 have XB2 := hid b2
 have XB3 := hid b3
 clear a0 a1 a2 a3 b0 b1 b2 b3
 have xa0_w : World.cell? w ⟨g, o, none⟩ = some (.int .i64 a.kind) := XA0.out
 have xa1_w : World.cell? w ⟨g, o + 1, none⟩ = some (.string (⟨a.text.toArray⟩ : ByteArray)) := XA1.out
 have xa2_w : World.cell? w ⟨g, o + 2, none⟩ = some (.int .i64 a.cols) := XA2.out
 have xa3_w : World.cell? w ⟨g, o + 3, none⟩ = some (.slice Aa a.kids.length capa) := XA3.out
 have xb0_w : World.cell? w ⟨g, o + 4, none⟩ = some (.int .i64 b.kind) := XB0.out
 have xb1_w : World.cell? w ⟨g, o + 4 + 1, none⟩ = some (.string (⟨b.text.toArray⟩ : ByteArray)) := XB1.out
 have xb2_w : World.cell? w ⟨g, o + 4 + 2, none⟩ = some (.int .i64 b.cols) := XB2.out
 have xb3_w : World.cell? w ⟨g, o + 4 + 3, none⟩ = some (sb) := XB3.out
 have hlt_g_w : g < w.heap.size := block_lt_of_cell xa0_w
 go_enter Tryz.func102, Tryz.ntmps102
 go_wp2_with fail
 refine Calls.mono (rname_any [114, 111, 111, 116] _) ?_
 rintro _ w1 ⟨rfl, hfw1⟩
 have HF1 := hid (show Fresh w w1 from preA hfw1)
 have B0_w1 : Blk w1 (w.heap.size) 24 #[.int .i64 (6 : Int), tx, cl, .slice (some ⟨g, o, none⟩) 2 cap] := Touch.blk hfw1 (by first | exact blkN | assumption | exact blkA (by assumption)) (fun h => h)
 obtain ⟨q0_0_w1, q0_1_w1, q0_2_w1, q0_3_w1, _⟩ := Blk.four B0_w1
 have hltb0_w1 : w.heap.size < w1.heap.size := Blk.lt B0_w1
 obtain ⟨xa0_w1, xa1_w1, xa2_w1, xa3_w1⟩ := mv4 HF1.out xa0_w xa1_w xa2_w xa3_w
 obtain ⟨xb0_w1, xb1_w1, xb2_w1, xb3_w1⟩ := mv4 HF1.out xb0_w xb1_w xb2_w xb3_w
 clear xa0_w xa1_w xa2_w xa3_w xb0_w xb1_w xb2_w xb3_w
 have hsz_w1 : w.heap.size ≤ w1.heap.size := Touch.size HF1.out
 have hlt_g_w1 : g < w1.heap.size := block_lt_of_cell xa0_w1
 clear hfw1
 go_wp2_with fail
 refine Calls.mono (ARGb.out _ _ (HRb.out.fresh (frA HF1.out))) ?_
 rintro _ w2 ⟨v2, rfl, how2, hfw2⟩
 have O2_w2 := hid (ownsRow_base (B' := w.heap.size) how2 (by first | exact Nat.le_refl _ | assumption | (simp only [World.size_alloc]; omega)))
 clear how2
 have HF2 := hid (show Fresh w1 w2 from preA hfw2)
 have B0_w2 := Touch.blk hfw2 (blkA B0_w1) (fun h => h)
 clear q0_0_w1 q0_1_w1 q0_2_w1 q0_3_w1 B0_w1
 obtain ⟨q0_0_w2, q0_1_w2, q0_2_w2, q0_3_w2, _⟩ := Blk.four B0_w2
 have hltb0_w2 : w.heap.size < w2.heap.size := Blk.lt B0_w2
 obtain ⟨xa0_w2, xa1_w2, xa2_w2, xa3_w2⟩ := mv4 HF2.out xa0_w1 xa1_w1 xa2_w1 xa3_w1
 obtain ⟨xb0_w2, xb1_w2, xb2_w2, xb3_w2⟩ := mv4 HF2.out xb0_w1 xb1_w1 xb2_w1 xb3_w1
 clear xa0_w1 xa1_w1 xa2_w1 xa3_w1 xb0_w1 xb1_w1 xb2_w1 xb3_w1
 have hsz_w2 : w.heap.size ≤ w2.heap.size := Touch.size (HF1.out.trans HF2.out)
 have O1_w2 := hid (ownsRow_touch ((own_tok1 (B := w.heap.size) (i := w1.heap.size) _ (⟨4, [114, 111, 111, 116]⟩ : Lx.Tok) (by simp) (by first | assumption | (simp only [World.size_alloc]; omega)))) hfw2 (fun _ _ h => h))
 have hlt_g_w2 : g < w2.heap.size := block_lt_of_cell xa0_w2
 clear hfw2
 go_wp2_with (at_builtin; refine wpList_append_src _ rfl (.tmp 69) (.tmp 74) 47 rfl w.heap.size 51 i0 _ 4 40 Tryz.underlying47 hi hz0 hz1 hz2 rfl (by decide) (.slice (some ⟨w1.heap.size, 0, none⟩) 1 1) ([(⟨4, [114, 111, 111, 116]⟩ : Lx.Tok)]).length (([(⟨4, [114, 111, 111, 116]⟩ : Lx.Tok)]).flatMap tokC) (by simp [Act.eval]) O1_w2.out (v2) ((argT b)).length (((argT b)).flatMap tokC) (by simp [Act.eval]) (Src.of_own O2_w2.out) (tok_one _) (by have := HLEN.out; unfold maxLen; (try simp at this); (try simp); omega) (by have := HLEN.out; (try simp at this); (try simp); omega) (by first | exact Nat.le_refl _ | assumption | (simp only [World.size_alloc]; omega)) ?_; intro v3 y3 o3 go3 _; refine Stay.mk ?_)
 rw [← List.length_append, ← List.flatMap_append] at o3
 have HEy3 := hid (show Fresh w y3 from grown_fresh go3 O1_w2.out (frA (HF1.out.trans HF2.out)))
 have hsz_y3 : w.heap.size ≤ y3.heap.size := Touch.size HEy3.out
 have B0_y3 : Blk y3 (w.heap.size) 24 #[.int .i64 (6 : Int), tx, cl, .slice (some ⟨g, o, none⟩) 2 cap] := grown_blk (by first | exact blkN | assumption | exact blkA (by assumption)) O1_w2.out go3 (by decide)
 clear q0_0_w2 q0_1_w2 q0_2_w2 q0_3_w2 B0_w2
 obtain ⟨q0_0_y3, q0_1_y3, q0_2_y3, q0_3_y3, _⟩ := Blk.four B0_y3
 have hltb0_y3 : w.heap.size < y3.heap.size := Blk.lt B0_y3
 clear xa0_w2 xa1_w2 xa2_w2 xa3_w2 xb0_w2 xb1_w2 xb2_w2 xb3_w2
 obtain ⟨xa0_y3, xa1_y3, xa2_y3, xa3_y3⟩ := mv4 HEy3.out XA0.out XA1.out XA2.out XA3.out
 obtain ⟨xb0_y3, xb1_y3, xb2_y3, xb3_y3⟩ := mv4 HEy3.out XB0.out XB1.out XB2.out XB3.out
 have hlt_g_y3 : g < y3.heap.size := block_lt_of_cell xa0_y3
 have O3_y3 := hid o3
 clear go3 o3 O1_w2 O2_w2
 refine Stay.go ?_
 go_wp2_with fail
 go_ret
 exact ⟨v3, rfl, ownCast (O3_y3.out) (by first | rfl | (simp only [List.append_assoc] <;> rfl) | (simp <;> rfl)), (frA HEy3.out)⟩
end Go.Proofs.YtdacpbdamliafaaGreat

/- The reference printer's Item: a fraction, an accent, a fence. -/
namespace Go.Proofs.YtdacpbdamliafaaGreat
open Go.RowKit
open Tr (Nd argT baseT rowT itemT cellsT)
theorem own_tok1d {B i : Nat} (W : World) (t : Lx.Tok) (hi : W.heap.size = i) (hB : B ≤ W.heap.size) : ((W.alloc (.cells #[.int .i64 t.kind, .string ⟨t.text.toArray⟩, .int .i64 0, .int .i64 0] 51)).drew).ownsRow B 51 4 (.slice (some ⟨i, 0, none⟩) 1 1) [t].length ([t].flatMap tokC) := own_tok1 W t hi hB
set_option maxRecDepth 100000 in
set_option maxHeartbeats 2000000 in
theorem item_frac_r (tx cl : Value) (a b : Nd) (ha : ArgR a) (hb : ArgR b) (hl : (argT a ++ argT b).length ≤ 50000) (w : World) (sl : Value) (hsl : RepL w [a, b] sl) : Calls Tryz.prog 102 #[.agg #[.int .i64 5, tx, cl, sl]] w (TokRes w ([Tr.name Tr.sFrac] ++ (argT a ++ argT b))) := by
 obtain ⟨g, o, cap, sa, sb, rfl, a0, a1, a2, a3, hra, b0, b1, b2, b3, hrb⟩ := hsl.two
 obtain ⟨i0, hi, hz0, hz1, hz2⟩ := info_parts infoRTok
 have ARGa := hid ha
 have ARGb := hid hb
 have HLEN := hid hl
 clear ha hb hl
 have HRa := hid hra
 have HRb := hid hrb
 clear hsl hra hrb
 have XA0 := hid a0
 have XA1 := hid a1
 have XA2 := hid a2
 have XA3 := hid a3
 have XB0 := hid b0
 have XB1 := hid b1
 have XB2 := hid b2
 have XB3 := hid b3
 clear a0 a1 a2 a3 b0 b1 b2 b3
 go_enter Tryz.func102, Tryz.ntmps102
 go_wp2_with fail
 refine forget_world (fun W => Fresh w W ∧ Blk W w.heap.size 24 #[.int .i64 5, tx, cl, .slice (some ⟨g, o, none⟩) 2 cap]) ⟨(Touch.refl _ _).alloc _, Blk.new _ _ _⟩ ?_
 rintro W0 ⟨hf0, hb0⟩
 have HF0 := hid hf0
 have HB0 := hid hb0
 have hsz0 : w.heap.size ≤ W0.heap.size := Touch.size hf0
 have hltb0 : w.heap.size < W0.heap.size := Blk.lt hb0
 clear hf0 hb0
 have KP := hid (fun (W' : World) (ht : Touch (PR w W0) W0 W') => (⟨(PR.blk ht HB0.out (by decide)).cell 3, PR.old ht HF0.out XA0.out, PR.old ht HF0.out XA1.out, PR.old ht HF0.out XA2.out, PR.old ht HF0.out XA3.out⟩ : W'.cell? ⟨w.heap.size, 3, none⟩ = some (.slice (some ⟨g, o, none⟩) 2 cap) ∧ W'.cell? ⟨g, o, none⟩ = some (.int .i64 a.kind) ∧ W'.cell? ⟨g, o + 1, none⟩ = some (.string (⟨a.text.toArray⟩ : ByteArray)) ∧ W'.cell? ⟨g, o + 2, none⟩ = some (.int .i64 a.cols) ∧ W'.cell? ⟨g, o + 3, none⟩ = some (sa)))
 have hb_W0 := PR.blk (Touch.refl (PR w W0) W0) HB0.out (by decide)
 obtain ⟨q0_W0, q1_W0, q2_W0, q3_W0, _⟩ := Blk.four hb_W0
 have hltb_W0 : w.heap.size < W0.heap.size := Blk.lt hb_W0
 have ya0_W0 : World.cell? W0 ⟨g, o, none⟩ = some (.int .i64 a.kind) := PR.old (Touch.refl (PR w W0) W0) HF0.out XA0.out
 have ya1_W0 : World.cell? W0 ⟨g, o + 1, none⟩ = some (.string (⟨a.text.toArray⟩ : ByteArray)) := PR.old (Touch.refl (PR w W0) W0) HF0.out XA1.out
 have ya2_W0 : World.cell? W0 ⟨g, o + 2, none⟩ = some (.int .i64 a.cols) := PR.old (Touch.refl (PR w W0) W0) HF0.out XA2.out
 have ya3_W0 : World.cell? W0 ⟨g, o + 3, none⟩ = some (sa) := PR.old (Touch.refl (PR w W0) W0) HF0.out XA3.out
 have yb0_W0 : World.cell? W0 ⟨g, o + 4, none⟩ = some (.int .i64 b.kind) := PR.old (Touch.refl (PR w W0) W0) HF0.out XB0.out
 have yb1_W0 : World.cell? W0 ⟨g, o + 4 + 1, none⟩ = some (.string (⟨b.text.toArray⟩ : ByteArray)) := PR.old (Touch.refl (PR w W0) W0) HF0.out XB1.out
 have yb2_W0 : World.cell? W0 ⟨g, o + 4 + 2, none⟩ = some (.int .i64 b.cols) := PR.old (Touch.refl (PR w W0) W0) HF0.out XB2.out
 have yb3_W0 : World.cell? W0 ⟨g, o + 4 + 3, none⟩ = some (sb) := PR.old (Touch.refl (PR w W0) W0) HF0.out XB3.out
 have hltg_W0 : g < W0.heap.size := block_lt_of_cell ya0_W0
 go_region_held3 (fun w' => w'.cell? ⟨w.heap.size, 3, none⟩ = some (.slice (some ⟨g, o, none⟩) 2 cap) ∧ w'.cell? ⟨g, o, none⟩ = some (.int .i64 a.kind) ∧ w'.cell? ⟨g, o + 1, none⟩ = some (.string (⟨a.text.toArray⟩ : ByteArray)) ∧ w'.cell? ⟨g, o + 2, none⟩ = some (.int .i64 a.cols) ∧ w'.cell? ⟨g, o + 3, none⟩ = some (sa)) (first | with_reducible exact KP.out _ HTa.out | with_reducible exact KP.out _ (Touch.alloc HTa.out _) | with_reducible exact KP.out _ HTb.out | with_reducible exact KP.out _ (Touch.alloc HTb.out _) | with_reducible exact KP.out _ HTd.out | with_reducible exact KP.out _ (Touch.alloc HTd.out _) | with_reducible exact KP.out _ (Touch.drew (Touch.refl (PR w W0) W0)) | with_reducible exact KP.out _ (Touch.drew (Touch.alloc (Touch.refl (PR w W0) W0) _)) | go_keep)
   (first
    | (go_simp; go_at_call 138; refine (rname_any [102, 114, 97, 99] _).mono ?_; rintro _ wa ⟨rfl, hfa⟩; have HTa := hid (PR.then (Touch.drew (Touch.refl (PR w W0) W0)) hfa); have hsza : w.heap.size ≤ wa.heap.size := Touch.size (PR.all HTa.out HF0.out); clear hfa)
    | (go_simp; go_at_call 139; refine (ARGa.out _ _ (HRa.out.fresh (PR.all (Touch.alloc HTa.out _) HF0.out))).mono ?_; rintro _ wb ⟨vb, rfl, hob, hfb⟩; have HTb := hid (PR.then (Touch.alloc HTa.out _) hfb); have hszb : w.heap.size ≤ wb.heap.size := Touch.size (PR.all HTb.out HF0.out); have HOb := hid (ownsRow_base (B' := w.heap.size) hob (Touch.size (PR.all (Touch.alloc HTa.out _) HF0.out))); have HOl := hid (ownsRow_touch (own_tok1 (B := w.heap.size) (i := wa.heap.size) _ (⟨4, [102, 114, 97, 99]⟩ : Lx.Tok) (by simp) (by first | exact hsza)) hfb (fun _ _ h => h)); clear hob hfb)
    | (go_simp; go_at_call 139; refine (ARGa.out _ _ (HRa.out.fresh (PR.all HTa.out HF0.out))).mono ?_; rintro _ wb ⟨vb, rfl, hob, hfb⟩; have HTb := hid (PR.then HTa.out hfb); have hszb : w.heap.size ≤ wb.heap.size := Touch.size (PR.all HTb.out HF0.out); have HOb := hid (ownsRow_base (B' := w.heap.size) hob (Touch.size (PR.all HTa.out HF0.out))); clear hob hfb)
    | (refine step_append_src _ rfl (.tmp 36) (.tmp 41) 47 rfl w.heap.size 51 i0 _ 4 40 Tryz.underlying47 hi hz0 hz1 hz2 rfl (by decide) (.slice (some ⟨wa.heap.size, 0, none⟩) 1 1) (([(⟨4, [102, 114, 97, 99]⟩ : Lx.Tok)] : List Lx.Tok)).length ((([(⟨4, [102, 114, 97, 99]⟩ : Lx.Tok)] : List Lx.Tok)).flatMap tokC) (by simp [Act.eval]) HOl.out (vb) (argT a).length ((argT a).flatMap tokC) (by simp [Act.eval]) (Src.of_own HOb.out) (tok_one _) (by have := HLEN.out; unfold maxLen; (try simp at this); (try simp); omega) (by have := HLEN.out; (try simp at this); (try simp); omega) (by first | assumption | (simp only [World.size_alloc]; omega)) ?_; intro vd wd ho hg _; rw [← List.length_append, ← List.flatMap_append] at ho; have HTd := hid (PR.grown HTb.out HOl.out hg); have hszd : w.heap.size ≤ wd.heap.size := Touch.size (PR.all HTd.out HF0.out); have HOd := hid ho; clear ho hg)
    | (refine step_append_src _ rfl (.tmp 36) (.tmp 41) 47 rfl w.heap.size 51 i0 _ 4 40 Tryz.underlying47 hi hz0 hz1 hz2 rfl (by decide) (.slice (some ⟨wb.heap.size, 0, none⟩) 1 1) (([(⟨4, [102, 114, 97, 99]⟩ : Lx.Tok)] : List Lx.Tok)).length ((([(⟨4, [102, 114, 97, 99]⟩ : Lx.Tok)] : List Lx.Tok)).flatMap tokC) (by simp [Act.eval]) (own_tok1 (B := w.heap.size) (i := wb.heap.size) _ (⟨4, [102, 114, 97, 99]⟩ : Lx.Tok) (by simp) (by first | exact hszb)) (vb) (argT a).length ((argT a).flatMap tokC) (by simp [Act.eval]) (Src.of_own (World.ownsRow.alloc HOb.out _)) (tok_one _) (by have := HLEN.out; unfold maxLen; (try simp at this); (try simp); omega) (by have := HLEN.out; (try simp at this); (try simp); omega) (by first | assumption | (simp only [World.size_alloc]; omega)) ?_; intro vd wd ho hg _; rw [← List.length_append, ← List.flatMap_append] at ho; have HTd := hid (PR.grown (Touch.alloc HTb.out _) (own_tok1 (B := w.heap.size) (i := wb.heap.size) _ (⟨4, [102, 114, 97, 99]⟩ : Lx.Tok) (by simp) (by first | exact hszb)) hg); have hszd : w.heap.size ≤ wd.heap.size := Touch.size (PR.all HTd.out HF0.out); have HOd := hid ho; clear ho hg))
 all_goals
  clear hb_W0 q0_W0 q1_W0 q2_W0 q3_W0 ya0_W0 ya1_W0 ya2_W0 ya3_W0 yb0_W0 yb1_W0 yb2_W0 yb3_W0
  have hb_wd := PR.blk HTd.out HB0.out (by decide)
  obtain ⟨q0_wd, q1_wd, q2_wd, q3_wd, _⟩ := Blk.four hb_wd
  have hltb_wd : w.heap.size < wd.heap.size := Blk.lt hb_wd
  have ya0_wd : World.cell? wd ⟨g, o, none⟩ = some (.int .i64 a.kind) := PR.old HTd.out HF0.out XA0.out
  have ya1_wd : World.cell? wd ⟨g, o + 1, none⟩ = some (.string (⟨a.text.toArray⟩ : ByteArray)) := PR.old HTd.out HF0.out XA1.out
  have ya2_wd : World.cell? wd ⟨g, o + 2, none⟩ = some (.int .i64 a.cols) := PR.old HTd.out HF0.out XA2.out
  have ya3_wd : World.cell? wd ⟨g, o + 3, none⟩ = some (sa) := PR.old HTd.out HF0.out XA3.out
  have yb0_wd : World.cell? wd ⟨g, o + 4, none⟩ = some (.int .i64 b.kind) := PR.old HTd.out HF0.out XB0.out
  have yb1_wd : World.cell? wd ⟨g, o + 4 + 1, none⟩ = some (.string (⟨b.text.toArray⟩ : ByteArray)) := PR.old HTd.out HF0.out XB1.out
  have yb2_wd : World.cell? wd ⟨g, o + 4 + 2, none⟩ = some (.int .i64 b.cols) := PR.old HTd.out HF0.out XB2.out
  have yb3_wd : World.cell? wd ⟨g, o + 4 + 3, none⟩ = some (sb) := PR.old HTd.out HF0.out XB3.out
  have hltg_wd : g < wd.heap.size := block_lt_of_cell ya0_wd
  go_wp2_with fail
  refine Calls.mono (ARGb.out _ _ (HRb.out.fresh (PR.all HTd.out HF0.out))) ?_
  rintro _ we ⟨ve, rfl, hoe, hfe⟩
  have HTe := hid (PR.then HTd.out hfe)
  have hsze : w.heap.size ≤ we.heap.size := Touch.size (PR.all HTe.out HF0.out)
  have HOe := hid (ownsRow_base (B' := w.heap.size) hoe hszd)
  have HOd2 := hid (ownsRow_touch HOd.out hfe (fun _ _ h => h))
  clear hoe hfe
  go_wp2_with (at_builtin; refine wpList_append_src _ rfl (.tmp 43) (.tmp 48) 47 rfl w.heap.size 51 i0 _ 4 40 Tryz.underlying47 hi hz0 hz1 hz2 rfl (by decide) vd (([(⟨4, [102, 114, 97, 99]⟩ : Lx.Tok)] ++ argT a)).length (([(⟨4, [102, 114, 97, 99]⟩ : Lx.Tok)] ++ argT a).flatMap tokC) (by simp [Act.eval]) HOd2.out ve (argT b).length ((argT b).flatMap tokC) (by simp [Act.eval]) (Src.of_own HOe.out) (tok_one _) (by have := HLEN.out; unfold maxLen; (try simp at this); (try simp); omega) (by have := HLEN.out; (try simp at this); (try simp); omega) hsze ?_; intro vz wz ho hg _; refine Stay.mk ?_)
  rw [← List.length_append, ← List.flatMap_append] at ho
  have HTz := hid (PR.grown HTe.out HOd2.out hg)
  have HOz := hid ho
  clear ho hg
  refine Stay.go ?_
  go_wp2_with fail
  go_ret
  exact ⟨vz, rfl, ownCast HOz.out (by first | rfl | (simp only [List.append_assoc] <;> rfl) | (simp <;> rfl)), PR.all HTz.out HF0.out⟩
set_option maxRecDepth 100000 in
set_option maxHeartbeats 2000000 in
theorem item_accent_r (t : List UInt8) (cl : Value) (a : Nd) (ha : ArgR a) (hl : (argT a).length ≤ 50000) (w : World) (sl : Value) (hsl : RepL w [a] sl) : Calls Tryz.prog 102 #[.agg #[.int .i64 10, .string ⟨t.toArray⟩, cl, sl]] w (TokRes w ([Tr.name t] ++ argT a)) := by
 obtain ⟨g, o, cap, sa, rfl, a0, a1, a2, a3, hra⟩ := hsl.one
 obtain ⟨i0, hi, hz0, hz1, hz2⟩ := info_parts infoRTok
 have ARGa := hid ha
 have HLEN := hid hl
 clear ha hl
 have HRa := hid hra
 clear hsl hra
 have XA0 := hid a0
 have XA1 := hid a1
 have XA2 := hid a2
 have XA3 := hid a3
 clear a0 a1 a2 a3
 go_enter Tryz.func102, Tryz.ntmps102
 go_wp2_with fail
 refine forget_world (fun W => Fresh w W ∧ Blk W w.heap.size 24 #[.int .i64 10, .string ⟨t.toArray⟩, cl, .slice (some ⟨g, o, none⟩) 1 cap]) ⟨(Touch.refl _ _).alloc _, Blk.new _ _ _⟩ ?_
 rintro W0 ⟨hf0, hb0⟩
 have HF0 := hid hf0
 have HB0 := hid hb0
 have hsz0 : w.heap.size ≤ W0.heap.size := Touch.size hf0
 have hltb0 : w.heap.size < W0.heap.size := Blk.lt hb0
 clear hf0 hb0
 have KP := hid (fun (W' : World) (ht : Touch (PR w W0) W0 W') => (⟨(PR.blk ht HB0.out (by decide)).cell 1, (PR.blk ht HB0.out (by decide)).cell 3, PR.old ht HF0.out XA0.out, PR.old ht HF0.out XA1.out, PR.old ht HF0.out XA2.out, PR.old ht HF0.out XA3.out⟩ : W'.cell? ⟨w.heap.size, 1, none⟩ = some (.string ⟨t.toArray⟩) ∧ W'.cell? ⟨w.heap.size, 3, none⟩ = some (.slice (some ⟨g, o, none⟩) 1 cap) ∧ W'.cell? ⟨g, o, none⟩ = some (.int .i64 a.kind) ∧ W'.cell? ⟨g, o + 1, none⟩ = some (.string (⟨a.text.toArray⟩ : ByteArray)) ∧ W'.cell? ⟨g, o + 2, none⟩ = some (.int .i64 a.cols) ∧ W'.cell? ⟨g, o + 3, none⟩ = some (sa)))
 have hb_W0 := PR.blk (Touch.refl (PR w W0) W0) HB0.out (by decide)
 obtain ⟨q0_W0, q1_W0, q2_W0, q3_W0, _⟩ := Blk.four hb_W0
 have hltb_W0 : w.heap.size < W0.heap.size := Blk.lt hb_W0
 have ya0_W0 : World.cell? W0 ⟨g, o, none⟩ = some (.int .i64 a.kind) := PR.old (Touch.refl (PR w W0) W0) HF0.out XA0.out
 have ya1_W0 : World.cell? W0 ⟨g, o + 1, none⟩ = some (.string (⟨a.text.toArray⟩ : ByteArray)) := PR.old (Touch.refl (PR w W0) W0) HF0.out XA1.out
 have ya2_W0 : World.cell? W0 ⟨g, o + 2, none⟩ = some (.int .i64 a.cols) := PR.old (Touch.refl (PR w W0) W0) HF0.out XA2.out
 have ya3_W0 : World.cell? W0 ⟨g, o + 3, none⟩ = some (sa) := PR.old (Touch.refl (PR w W0) W0) HF0.out XA3.out
 have hltg_W0 : g < W0.heap.size := block_lt_of_cell ya0_W0
 go_region_held3 (fun w' => w'.cell? ⟨w.heap.size, 1, none⟩ = some (.string ⟨t.toArray⟩) ∧ w'.cell? ⟨w.heap.size, 3, none⟩ = some (.slice (some ⟨g, o, none⟩) 1 cap) ∧ w'.cell? ⟨g, o, none⟩ = some (.int .i64 a.kind) ∧ w'.cell? ⟨g, o + 1, none⟩ = some (.string (⟨a.text.toArray⟩ : ByteArray)) ∧ w'.cell? ⟨g, o + 2, none⟩ = some (.int .i64 a.cols) ∧ w'.cell? ⟨g, o + 3, none⟩ = some (sa)) (first | with_reducible exact KP.out _ HTa.out | with_reducible exact KP.out _ (Touch.alloc HTa.out _) | with_reducible exact KP.out _ HTb.out | with_reducible exact KP.out _ (Touch.alloc HTb.out _) | with_reducible exact KP.out _ HTd.out | with_reducible exact KP.out _ (Touch.alloc HTd.out _) | with_reducible exact KP.out _ (Touch.drew (Touch.refl (PR w W0) W0)) | with_reducible exact KP.out _ (Touch.drew (Touch.alloc (Touch.refl (PR w W0) W0) _)) | go_keep)
   (first
    | (go_simp; go_at_call 138; refine (rname_any t _).mono ?_; rintro _ wa ⟨rfl, hfa⟩; have HTa := hid (PR.then (Touch.drew (Touch.refl (PR w W0) W0)) hfa); have hsza : w.heap.size ≤ wa.heap.size := Touch.size (PR.all HTa.out HF0.out); clear hfa)
    | (go_simp; go_at_call 139; refine (ARGa.out _ _ (HRa.out.fresh (PR.all (Touch.alloc HTa.out _) HF0.out))).mono ?_; rintro _ wb ⟨vb, rfl, hob, hfb⟩; have HTb := hid (PR.then (Touch.alloc HTa.out _) hfb); have hszb : w.heap.size ≤ wb.heap.size := Touch.size (PR.all HTb.out HF0.out); have HOb := hid (ownsRow_base (B' := w.heap.size) hob (Touch.size (PR.all (Touch.alloc HTa.out _) HF0.out))); have HOl := hid (ownsRow_touch (own_tok1 (B := w.heap.size) (i := wa.heap.size) _ (⟨4, t⟩ : Lx.Tok) (by simp) (by first | exact hsza)) hfb (fun _ _ h => h)); clear hob hfb)
    | (go_simp; go_at_call 139; refine (ARGa.out _ _ (HRa.out.fresh (PR.all HTa.out HF0.out))).mono ?_; rintro _ wb ⟨vb, rfl, hob, hfb⟩; have HTb := hid (PR.then HTa.out hfb); have hszb : w.heap.size ≤ wb.heap.size := Touch.size (PR.all HTb.out HF0.out); have HOb := hid (ownsRow_base (B' := w.heap.size) hob (Touch.size (PR.all HTa.out HF0.out))); clear hob hfb)
    | (refine step_append_src _ rfl (.tmp 81) (.tmp 86) 47 rfl w.heap.size 51 i0 _ 4 40 Tryz.underlying47 hi hz0 hz1 hz2 rfl (by decide) (.slice (some ⟨wa.heap.size, 0, none⟩) 1 1) (([(⟨4, t⟩ : Lx.Tok)] : List Lx.Tok)).length ((([(⟨4, t⟩ : Lx.Tok)] : List Lx.Tok)).flatMap tokC) (by simp [Act.eval]) HOl.out (vb) (argT a).length ((argT a).flatMap tokC) (by simp [Act.eval]) (Src.of_own HOb.out) (tok_one _) (by have := HLEN.out; unfold maxLen; (try simp at this); (try simp); omega) (by have := HLEN.out; (try simp at this); (try simp); omega) (by first | assumption | (simp only [World.size_alloc]; omega)) ?_; intro vd wd ho hg _; rw [← List.length_append, ← List.flatMap_append] at ho; have HTd := hid (PR.grown HTb.out HOl.out hg); have hszd : w.heap.size ≤ wd.heap.size := Touch.size (PR.all HTd.out HF0.out); have HOd := hid ho; clear ho hg)
    | (refine step_append_src _ rfl (.tmp 81) (.tmp 86) 47 rfl w.heap.size 51 i0 _ 4 40 Tryz.underlying47 hi hz0 hz1 hz2 rfl (by decide) (.slice (some ⟨wb.heap.size, 0, none⟩) 1 1) (([(⟨4, t⟩ : Lx.Tok)] : List Lx.Tok)).length ((([(⟨4, t⟩ : Lx.Tok)] : List Lx.Tok)).flatMap tokC) (by simp [Act.eval]) (own_tok1 (B := w.heap.size) (i := wb.heap.size) _ (⟨4, t⟩ : Lx.Tok) (by simp) (by first | exact hszb)) (vb) (argT a).length ((argT a).flatMap tokC) (by simp [Act.eval]) (Src.of_own (World.ownsRow.alloc HOb.out _)) (tok_one _) (by have := HLEN.out; unfold maxLen; (try simp at this); (try simp); omega) (by have := HLEN.out; (try simp at this); (try simp); omega) (by first | assumption | (simp only [World.size_alloc]; omega)) ?_; intro vd wd ho hg _; rw [← List.length_append, ← List.flatMap_append] at ho; have HTd := hid (PR.grown (Touch.alloc HTb.out _) (own_tok1 (B := w.heap.size) (i := wb.heap.size) _ (⟨4, t⟩ : Lx.Tok) (by simp) (by first | exact hszb)) hg); have hszd : w.heap.size ≤ wd.heap.size := Touch.size (PR.all HTd.out HF0.out); have HOd := hid ho; clear ho hg))
 all_goals
  go_wp2_with fail
  go_ret
  exact ⟨vd, rfl, ownCast HOd.out (by first | rfl | (simp only [List.append_assoc] <;> rfl) | (simp <;> rfl)), PR.all HTd.out HF0.out⟩
set_option maxRecDepth 100000 in
set_option maxHeartbeats 2000000 in
theorem item_fence_r (t : List UInt8) (h1 : t ≠ [40, 41]) (h2 : t ≠ [91, 93]) (cl : Value) (a : Nd) (ha : ArgR a) (hl : (argT a).length ≤ 50000) (w : World) (sl : Value) (hsl : RepL w [a] sl) : Calls Tryz.prog 102 #[.agg #[.int .i64 11, .string ⟨t.toArray⟩, cl, sl]] w (TokRes w ([⟨5, t⟩] ++ argT a)) := by
 obtain ⟨g, o, cap, sa, rfl, a0, a1, a2, a3, hra⟩ := hsl.one
 obtain ⟨i0, hi, hz0, hz1, hz2⟩ := info_parts infoRTok
 have t1 : (ByteArray.toList ⟨t.toArray⟩ == [40, 41]) = false := by rw [ByteArray.toList_eq]; simpa using h1
 have t2 : (ByteArray.toList ⟨t.toArray⟩ == [91, 93]) = false := by rw [ByteArray.toList_eq]; simpa using h2
 have s1 : ((⟨t.toArray⟩ : ByteArray) == (⟨#[40, 41]⟩ : ByteArray)) = false := by rw [str_eq']; simpa using h1
 have s2 : ((⟨t.toArray⟩ : ByteArray) == (⟨#[91, 93]⟩ : ByteArray)) = false := by rw [str_eq']; simpa using h2
 have u1 : (t == [40, 41]) = false := by simpa using h1
 have u2 : (t == [91, 93]) = false := by simpa using h2
 have ARGa := hid ha
 have HLEN := hid hl
 clear ha hl
 have HRa := hid hra
 clear hsl hra
 have XA0 := hid a0
 have XA1 := hid a1
 have XA2 := hid a2
 have XA3 := hid a3
 clear a0 a1 a2 a3
 go_enter Tryz.func102, Tryz.ntmps102
 go_wp2_with fail
 refine forget_world (fun W => Fresh w W ∧ Blk W w.heap.size 24 #[.int .i64 11, .string ⟨t.toArray⟩, cl, .slice (some ⟨g, o, none⟩) 1 cap]) ⟨(Touch.refl _ _).alloc _, Blk.new _ _ _⟩ ?_
 rintro W0 ⟨hf0, hb0⟩
 have HF0 := hid hf0
 have HB0 := hid hb0
 have hsz0 : w.heap.size ≤ W0.heap.size := Touch.size hf0
 have hltb0 : w.heap.size < W0.heap.size := Blk.lt hb0
 clear hf0 hb0
 have KP := hid (fun (W' : World) (ht : Touch (PR w W0) W0 W') => (⟨(PR.blk ht HB0.out (by decide)).cell 1, (PR.blk ht HB0.out (by decide)).cell 3, PR.old ht HF0.out XA0.out, PR.old ht HF0.out XA1.out, PR.old ht HF0.out XA2.out, PR.old ht HF0.out XA3.out⟩ : W'.cell? ⟨w.heap.size, 1, none⟩ = some (.string ⟨t.toArray⟩) ∧ W'.cell? ⟨w.heap.size, 3, none⟩ = some (.slice (some ⟨g, o, none⟩) 1 cap) ∧ W'.cell? ⟨g, o, none⟩ = some (.int .i64 a.kind) ∧ W'.cell? ⟨g, o + 1, none⟩ = some (.string (⟨a.text.toArray⟩ : ByteArray)) ∧ W'.cell? ⟨g, o + 2, none⟩ = some (.int .i64 a.cols) ∧ W'.cell? ⟨g, o + 3, none⟩ = some (sa)))
 have hb_W0 := PR.blk (Touch.refl (PR w W0) W0) HB0.out (by decide)
 obtain ⟨q0_W0, q1_W0, q2_W0, q3_W0, _⟩ := Blk.four hb_W0
 have hltb_W0 : w.heap.size < W0.heap.size := Blk.lt hb_W0
 have ya0_W0 : World.cell? W0 ⟨g, o, none⟩ = some (.int .i64 a.kind) := PR.old (Touch.refl (PR w W0) W0) HF0.out XA0.out
 have ya1_W0 : World.cell? W0 ⟨g, o + 1, none⟩ = some (.string (⟨a.text.toArray⟩ : ByteArray)) := PR.old (Touch.refl (PR w W0) W0) HF0.out XA1.out
 have ya2_W0 : World.cell? W0 ⟨g, o + 2, none⟩ = some (.int .i64 a.cols) := PR.old (Touch.refl (PR w W0) W0) HF0.out XA2.out
 have ya3_W0 : World.cell? W0 ⟨g, o + 3, none⟩ = some (sa) := PR.old (Touch.refl (PR w W0) W0) HF0.out XA3.out
 have hltg_W0 : g < W0.heap.size := block_lt_of_cell ya0_W0
 go_region_held3 (fun w' => w'.cell? ⟨w.heap.size, 1, none⟩ = some (.string ⟨t.toArray⟩) ∧ w'.cell? ⟨w.heap.size, 3, none⟩ = some (.slice (some ⟨g, o, none⟩) 1 cap) ∧ w'.cell? ⟨g, o, none⟩ = some (.int .i64 a.kind) ∧ w'.cell? ⟨g, o + 1, none⟩ = some (.string (⟨a.text.toArray⟩ : ByteArray)) ∧ w'.cell? ⟨g, o + 2, none⟩ = some (.int .i64 a.cols) ∧ w'.cell? ⟨g, o + 3, none⟩ = some (sa)) (first | with_reducible exact KP.out _ HTb.out | with_reducible exact KP.out _ (Touch.alloc HTb.out _) | with_reducible exact KP.out _ HTd.out | with_reducible exact KP.out _ (Touch.alloc HTd.out _) | with_reducible exact KP.out _ (Touch.drew (Touch.refl (PR w W0) W0)) | with_reducible exact KP.out _ (Touch.drew (Touch.alloc (Touch.refl (PR w W0) W0) _)) | go_keep)
   (first
    | (go_simp; go_at_call 139; refine (ARGa.out _ _ (HRa.out.fresh (PR.all (Touch.drew (Touch.alloc (Touch.refl (PR w W0) W0) _)) HF0.out))).mono ?_; rintro _ wb ⟨vb, rfl, hob, hfb⟩; have HTb := hid (PR.then (Touch.drew (Touch.alloc (Touch.refl (PR w W0) W0) _)) hfb); have hszb : w.heap.size ≤ wb.heap.size := Touch.size (PR.all HTb.out HF0.out); have HOb := hid (ownsRow_base (B' := w.heap.size) hob (Touch.size (PR.all (Touch.drew (Touch.alloc (Touch.refl (PR w W0) W0) _)) HF0.out))); have HOl := hid (ownsRow_touch (own_tok1d (B := w.heap.size) (i := W0.heap.size) _ (⟨5, t⟩ : Lx.Tok) (by simp) (by first | exact hsz0)) hfb (fun _ _ h => h)); clear hob hfb)
    | (go_simp; go_at_call 139; refine (ARGa.out _ _ (HRa.out.fresh (PR.all (Touch.drew (Touch.refl (PR w W0) W0)) HF0.out))).mono ?_; rintro _ wb ⟨vb, rfl, hob, hfb⟩; have HTb := hid (PR.then (Touch.drew (Touch.refl (PR w W0) W0)) hfb); have hszb : w.heap.size ≤ wb.heap.size := Touch.size (PR.all HTb.out HF0.out); have HOb := hid (ownsRow_base (B' := w.heap.size) hob (Touch.size (PR.all (Touch.drew (Touch.refl (PR w W0) W0)) HF0.out))); clear hob hfb)
    | (refine step_append_src _ rfl (.tmp 113) (.tmp 118) 47 rfl w.heap.size 51 i0 _ 4 40 Tryz.underlying47 hi hz0 hz1 hz2 rfl (by decide) (.slice (some ⟨W0.heap.size, 0, none⟩) 1 1) (([(⟨5, t⟩ : Lx.Tok)] : List Lx.Tok)).length ((([(⟨5, t⟩ : Lx.Tok)] : List Lx.Tok)).flatMap tokC) (by simp [Act.eval]) HOl.out (vb) (argT a).length ((argT a).flatMap tokC) (by simp [Act.eval]) (Src.of_own HOb.out) (tok_one _) (by have := HLEN.out; unfold maxLen; (try simp at this); (try simp); omega) (by have := HLEN.out; (try simp at this); (try simp); omega) (by first | assumption | (simp only [World.size_alloc]; omega)) ?_; intro vd wd ho hg _; rw [← List.length_append, ← List.flatMap_append] at ho; have HTd := hid (PR.grown HTb.out HOl.out hg); have hszd : w.heap.size ≤ wd.heap.size := Touch.size (PR.all HTd.out HF0.out); have HOd := hid ho; clear ho hg)
    | (refine step_append_src _ rfl (.tmp 113) (.tmp 118) 47 rfl w.heap.size 51 i0 _ 4 40 Tryz.underlying47 hi hz0 hz1 hz2 rfl (by decide) (.slice (some ⟨wb.heap.size, 0, none⟩) 1 1) (([(⟨5, t⟩ : Lx.Tok)] : List Lx.Tok)).length ((([(⟨5, t⟩ : Lx.Tok)] : List Lx.Tok)).flatMap tokC) (by simp [Act.eval]) (own_tok1 (B := w.heap.size) (i := wb.heap.size) _ (⟨5, t⟩ : Lx.Tok) (by simp) (by first | exact hszb)) (vb) (argT a).length ((argT a).flatMap tokC) (by simp [Act.eval]) (Src.of_own (World.ownsRow.alloc HOb.out _)) (tok_one _) (by have := HLEN.out; unfold maxLen; (try simp at this); (try simp); omega) (by have := HLEN.out; (try simp at this); (try simp); omega) (by first | assumption | (simp only [World.size_alloc]; omega)) ?_; intro vd wd ho hg _; rw [← List.length_append, ← List.flatMap_append] at ho; have HTd := hid (PR.grown (Touch.alloc HTb.out _) (own_tok1 (B := w.heap.size) (i := wb.heap.size) _ (⟨5, t⟩ : Lx.Tok) (by simp) (by first | exact hszb)) hg); have hszd : w.heap.size ≤ wd.heap.size := Touch.size (PR.all HTd.out HF0.out); have HOd := hid ho; clear ho hg))
 all_goals
  go_wp2_with fail
  go_ret
  exact ⟨vd, rfl, ownCast HOd.out (by first | rfl | (simp only [List.append_assoc] <;> rfl) | (simp <;> rfl)), PR.all HTd.out HF0.out⟩
set_option maxRecDepth 100000 in
set_option maxHeartbeats 2000000 in
theorem item_round_r (cl : Value) (a : Nd) (ha : RowR a) (hl : (rowT a.kids).length ≤ 50000) (w : World) (sl : Value) (hsl : RepL w [a] sl) : Calls Tryz.prog 102 #[.agg #[.int .i64 11, .string ⟨#[40, 41]⟩, cl, sl]] w (TokRes w ([Tr.mk7 40] ++ (rowT a.kids ++ [Tr.mk7 41]))) := by
 obtain ⟨g, o, cap, sa, rfl, a0, a1, a2, a3, hra⟩ := hsl.one
 obtain ⟨i0, hi, hz0, hz1, hz2⟩ := info_parts infoRTok
 have e1 : (⟨#[40, 41]⟩ : ByteArray).extract 0 1 = ⟨#[40]⟩ := by decide
 have e2 : (⟨#[40, 41]⟩ : ByteArray).extract 1 2 = ⟨#[41]⟩ := by decide
 have e3 : (⟨#[40, 41]⟩ : ByteArray).toList = [40, 41] := by rw [ByteArray.toList_eq]
 have e4 : (⟨#[40, 41]⟩ : ByteArray).size = 2 := rfl
 have ROWa := hid ha
 have HLEN := hid hl
 clear ha hl
 have HRa := hid hra
 clear hsl hra
 have XA0 := hid a0
 have XA1 := hid a1
 have XA2 := hid a2
 have XA3 := hid a3
 clear a0 a1 a2 a3
 go_enter Tryz.func102, Tryz.ntmps102
 go_wp2_with fail
 refine forget_world (fun W => Fresh w W ∧ Blk W w.heap.size 24 #[.int .i64 11, .string ⟨#[40, 41]⟩, cl, .slice (some ⟨g, o, none⟩) 1 cap]) ⟨(Touch.refl _ _).alloc _, Blk.new _ _ _⟩ ?_
 rintro W0 ⟨hf0, hb0⟩
 have HF0 := hid hf0
 have HB0 := hid hb0
 have hsz0 : w.heap.size ≤ W0.heap.size := Touch.size hf0
 have hltb0 : w.heap.size < W0.heap.size := Blk.lt hb0
 clear hf0 hb0
 have KP := hid (fun (W' : World) (ht : Touch (PR w W0) W0 W') => (⟨(PR.blk ht HB0.out (by decide)).cell 1, (PR.blk ht HB0.out (by decide)).cell 3, PR.old ht HF0.out XA0.out, PR.old ht HF0.out XA1.out, PR.old ht HF0.out XA2.out, PR.old ht HF0.out XA3.out⟩ : W'.cell? ⟨w.heap.size, 1, none⟩ = some (.string ⟨#[40, 41]⟩) ∧ W'.cell? ⟨w.heap.size, 3, none⟩ = some (.slice (some ⟨g, o, none⟩) 1 cap) ∧ W'.cell? ⟨g, o, none⟩ = some (.int .i64 a.kind) ∧ W'.cell? ⟨g, o + 1, none⟩ = some (.string (⟨a.text.toArray⟩ : ByteArray)) ∧ W'.cell? ⟨g, o + 2, none⟩ = some (.int .i64 a.cols) ∧ W'.cell? ⟨g, o + 3, none⟩ = some (sa)))
 have hb_W0 := PR.blk (Touch.refl (PR w W0) W0) HB0.out (by decide)
 obtain ⟨q0_W0, q1_W0, q2_W0, q3_W0, _⟩ := Blk.four hb_W0
 have hltb_W0 : w.heap.size < W0.heap.size := Blk.lt hb_W0
 have ya0_W0 : World.cell? W0 ⟨g, o, none⟩ = some (.int .i64 a.kind) := PR.old (Touch.refl (PR w W0) W0) HF0.out XA0.out
 have ya1_W0 : World.cell? W0 ⟨g, o + 1, none⟩ = some (.string (⟨a.text.toArray⟩ : ByteArray)) := PR.old (Touch.refl (PR w W0) W0) HF0.out XA1.out
 have ya2_W0 : World.cell? W0 ⟨g, o + 2, none⟩ = some (.int .i64 a.cols) := PR.old (Touch.refl (PR w W0) W0) HF0.out XA2.out
 have ya3_W0 : World.cell? W0 ⟨g, o + 3, none⟩ = some (sa) := PR.old (Touch.refl (PR w W0) W0) HF0.out XA3.out
 have hltg_W0 : g < W0.heap.size := block_lt_of_cell ya0_W0
 go_region_held3 (fun w' => w'.cell? ⟨w.heap.size, 1, none⟩ = some (.string ⟨#[40, 41]⟩) ∧ w'.cell? ⟨w.heap.size, 3, none⟩ = some (.slice (some ⟨g, o, none⟩) 1 cap) ∧ w'.cell? ⟨g, o, none⟩ = some (.int .i64 a.kind) ∧ w'.cell? ⟨g, o + 1, none⟩ = some (.string (⟨a.text.toArray⟩ : ByteArray)) ∧ w'.cell? ⟨g, o + 2, none⟩ = some (.int .i64 a.cols) ∧ w'.cell? ⟨g, o + 3, none⟩ = some (sa)) (first | with_reducible exact KP.out _ HTb.out | with_reducible exact KP.out _ (Touch.alloc HTb.out _) | with_reducible exact KP.out _ HTd.out | with_reducible exact KP.out _ (Touch.alloc HTd.out _) | with_reducible exact KP.out _ (Touch.drew (Touch.refl (PR w W0) W0)) | with_reducible exact KP.out _ (Touch.drew (Touch.alloc (Touch.refl (PR w W0) W0) _)) | go_keep)
   (first
    | (go_simp; go_at_call 76; refine (ROWa.out _ _ (HRa.out.fresh (PR.all (Touch.drew (Touch.refl (PR w W0) W0)) HF0.out))).mono ?_; rintro _ wb ⟨vb, rfl, hob, hfb⟩; have HTb := hid (PR.then (Touch.drew (Touch.refl (PR w W0) W0)) hfb); have hszb : w.heap.size ≤ wb.heap.size := Touch.size (PR.all HTb.out HF0.out); have HOb := hid (ownsRow_base (B' := w.heap.size) hob (Touch.size (PR.all (Touch.drew (Touch.refl (PR w W0) W0)) HF0.out))); clear hob hfb)
    | (go_simp; go_at_call 140; refine (rin_any [40] [41] (rowT a.kids) _ _ (Src.of_own HOb.out) (by have := HLEN.out; omega)).mono ?_; rintro _ wd ⟨vd, rfl, ho, hf⟩; have HTd := hid (PR.then HTb.out hf); have HOd := hid (ownsRow_base (B' := w.heap.size) ho hszb); clear ho hf))
 all_goals
  go_wp2_with fail
  go_ret
  exact ⟨vd, rfl, ownCast HOd.out (by first | rfl | (simp only [List.append_assoc] <;> rfl) | (simp <;> rfl)), PR.all HTd.out HF0.out⟩
set_option maxRecDepth 100000 in
set_option maxHeartbeats 2000000 in
theorem item_square_r (cl : Value) (a : Nd) (ha : RowR a) (hl : (rowT a.kids).length ≤ 50000) (w : World) (sl : Value) (hsl : RepL w [a] sl) : Calls Tryz.prog 102 #[.agg #[.int .i64 11, .string ⟨#[91, 93]⟩, cl, sl]] w (TokRes w ([Tr.mk7 91] ++ (rowT a.kids ++ [Tr.mk7 93]))) := by
 obtain ⟨g, o, cap, sa, rfl, a0, a1, a2, a3, hra⟩ := hsl.one
 obtain ⟨i0, hi, hz0, hz1, hz2⟩ := info_parts infoRTok
 have e1 : (⟨#[91, 93]⟩ : ByteArray).extract 0 1 = ⟨#[91]⟩ := by decide
 have e2 : (⟨#[91, 93]⟩ : ByteArray).extract 1 2 = ⟨#[93]⟩ := by decide
 have e3 : (⟨#[91, 93]⟩ : ByteArray).toList = [91, 93] := by rw [ByteArray.toList_eq]
 have e4 : (⟨#[91, 93]⟩ : ByteArray).size = 2 := rfl
 have ROWa := hid ha
 have HLEN := hid hl
 clear ha hl
 have HRa := hid hra
 clear hsl hra
 have XA0 := hid a0
 have XA1 := hid a1
 have XA2 := hid a2
 have XA3 := hid a3
 clear a0 a1 a2 a3
 go_enter Tryz.func102, Tryz.ntmps102
 go_wp2_with fail
 refine forget_world (fun W => Fresh w W ∧ Blk W w.heap.size 24 #[.int .i64 11, .string ⟨#[91, 93]⟩, cl, .slice (some ⟨g, o, none⟩) 1 cap]) ⟨(Touch.refl _ _).alloc _, Blk.new _ _ _⟩ ?_
 rintro W0 ⟨hf0, hb0⟩
 have HF0 := hid hf0
 have HB0 := hid hb0
 have hsz0 : w.heap.size ≤ W0.heap.size := Touch.size hf0
 have hltb0 : w.heap.size < W0.heap.size := Blk.lt hb0
 clear hf0 hb0
 have KP := hid (fun (W' : World) (ht : Touch (PR w W0) W0 W') => (⟨(PR.blk ht HB0.out (by decide)).cell 1, (PR.blk ht HB0.out (by decide)).cell 3, PR.old ht HF0.out XA0.out, PR.old ht HF0.out XA1.out, PR.old ht HF0.out XA2.out, PR.old ht HF0.out XA3.out⟩ : W'.cell? ⟨w.heap.size, 1, none⟩ = some (.string ⟨#[91, 93]⟩) ∧ W'.cell? ⟨w.heap.size, 3, none⟩ = some (.slice (some ⟨g, o, none⟩) 1 cap) ∧ W'.cell? ⟨g, o, none⟩ = some (.int .i64 a.kind) ∧ W'.cell? ⟨g, o + 1, none⟩ = some (.string (⟨a.text.toArray⟩ : ByteArray)) ∧ W'.cell? ⟨g, o + 2, none⟩ = some (.int .i64 a.cols) ∧ W'.cell? ⟨g, o + 3, none⟩ = some (sa)))
 have hb_W0 := PR.blk (Touch.refl (PR w W0) W0) HB0.out (by decide)
 obtain ⟨q0_W0, q1_W0, q2_W0, q3_W0, _⟩ := Blk.four hb_W0
 have hltb_W0 : w.heap.size < W0.heap.size := Blk.lt hb_W0
 have ya0_W0 : World.cell? W0 ⟨g, o, none⟩ = some (.int .i64 a.kind) := PR.old (Touch.refl (PR w W0) W0) HF0.out XA0.out
 have ya1_W0 : World.cell? W0 ⟨g, o + 1, none⟩ = some (.string (⟨a.text.toArray⟩ : ByteArray)) := PR.old (Touch.refl (PR w W0) W0) HF0.out XA1.out
 have ya2_W0 : World.cell? W0 ⟨g, o + 2, none⟩ = some (.int .i64 a.cols) := PR.old (Touch.refl (PR w W0) W0) HF0.out XA2.out
 have ya3_W0 : World.cell? W0 ⟨g, o + 3, none⟩ = some (sa) := PR.old (Touch.refl (PR w W0) W0) HF0.out XA3.out
 have hltg_W0 : g < W0.heap.size := block_lt_of_cell ya0_W0
 go_region_held3 (fun w' => w'.cell? ⟨w.heap.size, 1, none⟩ = some (.string ⟨#[91, 93]⟩) ∧ w'.cell? ⟨w.heap.size, 3, none⟩ = some (.slice (some ⟨g, o, none⟩) 1 cap) ∧ w'.cell? ⟨g, o, none⟩ = some (.int .i64 a.kind) ∧ w'.cell? ⟨g, o + 1, none⟩ = some (.string (⟨a.text.toArray⟩ : ByteArray)) ∧ w'.cell? ⟨g, o + 2, none⟩ = some (.int .i64 a.cols) ∧ w'.cell? ⟨g, o + 3, none⟩ = some (sa)) (first | with_reducible exact KP.out _ HTb.out | with_reducible exact KP.out _ (Touch.alloc HTb.out _) | with_reducible exact KP.out _ HTd.out | with_reducible exact KP.out _ (Touch.alloc HTd.out _) | with_reducible exact KP.out _ (Touch.drew (Touch.refl (PR w W0) W0)) | with_reducible exact KP.out _ (Touch.drew (Touch.alloc (Touch.refl (PR w W0) W0) _)) | go_keep)
   (first
    | (go_simp; go_at_call 76; refine (ROWa.out _ _ (HRa.out.fresh (PR.all (Touch.drew (Touch.refl (PR w W0) W0)) HF0.out))).mono ?_; rintro _ wb ⟨vb, rfl, hob, hfb⟩; have HTb := hid (PR.then (Touch.drew (Touch.refl (PR w W0) W0)) hfb); have hszb : w.heap.size ≤ wb.heap.size := Touch.size (PR.all HTb.out HF0.out); have HOb := hid (ownsRow_base (B' := w.heap.size) hob (Touch.size (PR.all (Touch.drew (Touch.refl (PR w W0) W0)) HF0.out))); clear hob hfb)
    | (go_simp; go_at_call 140; refine (rin_any [91] [93] (rowT a.kids) _ _ (Src.of_own HOb.out) (by have := HLEN.out; omega)).mono ?_; rintro _ wd ⟨vd, rfl, ho, hf⟩; have HTd := hid (PR.then HTb.out hf); have HOd := hid (ownsRow_base (B' := w.heap.size) ho hszb); clear ho hf))
 all_goals
  go_wp2_with fail
  go_ret
  exact ⟨vd, rfl, ownCast HOd.out (by first | rfl | (simp only [List.append_assoc] <;> rfl) | (simp <;> rfl)), PR.all HTd.out HF0.out⟩
end Go.Proofs.YtdacpbdamliafaaGreat

/- The reference printer's Item: a matrix; scripts. -/
namespace Go.Proofs.YtdacpbdamliafaaGreat
open Go.RowKit
open Tr (Nd argT baseT rowT itemT cellsT)
set_option maxRecDepth 100000 in
set_option maxHeartbeats 2000000 in
theorem item_matrix_r (tx : Value) (c : Int) (ks : List Nd) (hc : 1 ≤ c) (hcu : c ≤ 1000000) (hi : ∀ x ∈ ks, RowR x) (hl : (cellsT c 0 ks).length ≤ 50000) (w : World) (sl : Value) (hsl : RepL w ks sl) : Calls Tryz.prog 102 #[.agg #[.int .i64 12, tx, .int .i64 c, sl]] w (TokRes w ([Tr.name Tr.sMatrix] ++ ([Tr.mk7 123] ++ (cellsT c 0 ks ++ [Tr.mk7 125])))) := by
 obtain ⟨A, cap, rfl⟩ := hsl.slice
 have hlen := hsl.len
 unfold maxLen at hlen
 have HI := hid hi
 clear hi
 obtain ⟨i0, hi, hz0, hz1, hz2⟩ := info_parts infoRTok
 have HRS := hid hsl
 have HLEN := hid hl
 clear hsl hl
 go_enter Tryz.func102, Tryz.ntmps102
 go_wp2_with fail
 refine forget_world (fun W => Fresh w W ∧ Blk W w.heap.size 24 #[.int .i64 12, tx, .int .i64 c, .slice A ks.length cap]) ⟨(Touch.refl _ _).alloc _, Blk.new _ _ _⟩ ?_
 rintro W0 ⟨hf0, hb0⟩
 have HF0 := hid hf0
 have HB0 := hid hb0
 have hsz0 : w.heap.size ≤ W0.heap.size := Touch.size hf0
 have hltb0 : w.heap.size < W0.heap.size := Blk.lt hb0
 clear hf0 hb0
 have KP := hid (fun (W' : World) (ht : Touch (PR w W0) W0 W') => (⟨(PR.blk ht HB0.out (by decide)).cell 0, (PR.blk ht HB0.out (by decide)).cell 1, (PR.blk ht HB0.out (by decide)).cell 2, (PR.blk ht HB0.out (by decide)).cell 3⟩ : W'.cell? ⟨w.heap.size, 0, none⟩ = some (.int .i64 12) ∧ W'.cell? ⟨w.heap.size, 1, none⟩ = some (tx) ∧ W'.cell? ⟨w.heap.size, 2, none⟩ = some (.int .i64 c) ∧ W'.cell? ⟨w.heap.size, 3, none⟩ = some (.slice A ks.length cap)))
 have hb_W0 := PR.blk (Touch.refl (PR w W0) W0) HB0.out (by decide)
 obtain ⟨q0_W0, q1_W0, q2_W0, q3_W0, _⟩ := Blk.four hb_W0
 have hltb_W0 : w.heap.size < W0.heap.size := Blk.lt hb_W0
 go_region_held3 (fun w' => w'.cell? ⟨w.heap.size, 0, none⟩ = some (.int .i64 12) ∧ w'.cell? ⟨w.heap.size, 1, none⟩ = some (tx) ∧ w'.cell? ⟨w.heap.size, 2, none⟩ = some (.int .i64 c) ∧ w'.cell? ⟨w.heap.size, 3, none⟩ = some (.slice A ks.length cap)) (first | with_reducible exact KP.out _ HTa.out | with_reducible exact KP.out _ (Touch.alloc HTa.out _) | with_reducible exact KP.out _ HTb.out | with_reducible exact KP.out _ (Touch.alloc HTb.out _) | with_reducible exact KP.out _ HTc.out | with_reducible exact KP.out _ (Touch.alloc HTc.out _) | with_reducible exact KP.out _ HTd.out | with_reducible exact KP.out _ (Touch.alloc HTd.out _) | with_reducible exact KP.out _ (Touch.drew (Touch.refl (PR w W0) W0)) | with_reducible exact KP.out _ (Touch.drew (Touch.alloc (Touch.refl (PR w W0) W0) _)) | go_keep)
   (first
    | (go_simp; go_at_call 138; refine (rname_any [109, 97, 116, 114, 105, 120] _).mono ?_; rintro _ wa ⟨rfl, hfa⟩; have HTa := hid (PR.then (Touch.drew (Touch.refl (PR w W0) W0)) hfa); have hsza : w.heap.size ≤ wa.heap.size := Touch.size (PR.all HTa.out HF0.out); clear hfa)
    | (go_simp; go_at_call 141; refine (rmatrix_any _ _ c ks hc hcu HI.out HLEN.out _ _ (HRS.out.fresh (PR.all (Touch.alloc HTa.out _) HF0.out))).mono ?_; rintro _ wb ⟨vb, rfl, hob, hfb⟩; have HTb := hid (PR.then (Touch.alloc HTa.out _) hfb); have hszb : w.heap.size ≤ wb.heap.size := Touch.size (PR.all HTb.out HF0.out); have HOb := hid (ownsRow_base (B' := w.heap.size) hob (Touch.size (PR.all (Touch.alloc HTa.out _) HF0.out))); have HOl := hid (ownsRow_touch (own_tok1 (B := w.heap.size) (i := wa.heap.size) _ (⟨4, [109, 97, 116, 114, 105, 120]⟩ : Lx.Tok) (by simp) (by first | exact hsza)) hfb (fun _ _ h => h)); clear hob hfb)
    | (go_simp; go_at_call 141; refine (rmatrix_any _ _ c ks hc hcu HI.out HLEN.out _ _ (HRS.out.fresh (PR.all HTa.out HF0.out))).mono ?_; rintro _ wb ⟨vb, rfl, hob, hfb⟩; have HTb := hid (PR.then HTa.out hfb); have hszb : w.heap.size ≤ wb.heap.size := Touch.size (PR.all HTb.out HF0.out); have HOb := hid (ownsRow_base (B' := w.heap.size) hob (Touch.size (PR.all HTa.out HF0.out))); clear hob hfb)
    | (go_simp; go_at_call 140; refine (rin_any [123] [125] (cellsT c 0 ks) _ _ (Src.of_own (World.ownsRow.alloc HOb.out _)) (by have := HLEN.out; omega)).mono ?_; rintro _ wc ⟨vc, rfl, hoc, hfc⟩; have HTc := hid (PR.then (Touch.alloc HTb.out _) hfc); have hszc : w.heap.size ≤ wc.heap.size := Touch.size (PR.all HTc.out HF0.out); have HOc := hid (ownsRow_base (B' := w.heap.size) hoc (Touch.size (PR.all (Touch.alloc HTb.out _) HF0.out))); have HOl := hid (ownsRow_touch (own_tok1 (B := w.heap.size) (i := wb.heap.size) _ (⟨4, [109, 97, 116, 114, 105, 120]⟩ : Lx.Tok) (by simp) (by first | exact hszb)) hfc (fun _ _ h => h)); clear hoc hfc)
    | (go_simp; go_at_call 140; refine (rin_any [123] [125] (cellsT c 0 ks) _ _ (Src.of_own HOb.out) (by have := HLEN.out; omega)).mono ?_; rintro _ wc ⟨vc, rfl, hoc, hfc⟩; have HTc := hid (PR.then HTb.out hfc); have hszc : w.heap.size ≤ wc.heap.size := Touch.size (PR.all HTc.out HF0.out); have HOc := hid (ownsRow_base (B' := w.heap.size) hoc (Touch.size (PR.all HTb.out HF0.out))); (first | have HOl := hid (ownsRow_touch HOl.out hfc (fun _ _ h => h)) | skip); clear hoc hfc)
    | (refine step_append_src _ rfl (.tmp 123) (.tmp 126) 47 rfl w.heap.size 51 i0 _ 4 40 Tryz.underlying47 hi hz0 hz1 hz2 rfl (by decide) (.slice (some ⟨wa.heap.size, 0, none⟩) 1 1) (([(⟨4, [109, 97, 116, 114, 105, 120]⟩ : Lx.Tok)] : List Lx.Tok)).length ((([(⟨4, [109, 97, 116, 114, 105, 120]⟩ : Lx.Tok)] : List Lx.Tok)).flatMap tokC) (by simp [Act.eval]) HOl.out (vc) ((([⟨7, [123]⟩] : List Lx.Tok) ++ (cellsT c 0 ks ++ ([⟨7, [125]⟩] : List Lx.Tok)))).length (((([⟨7, [123]⟩] : List Lx.Tok) ++ (cellsT c 0 ks ++ ([⟨7, [125]⟩] : List Lx.Tok)))).flatMap tokC) (by simp [Act.eval]) (Src.of_own HOc.out) (tok_one _) (by have := HLEN.out; unfold maxLen; (try simp at this); (try simp); omega) (by have := HLEN.out; (try simp at this); (try simp); omega) (by first | assumption | (simp only [World.size_alloc]; omega)) ?_; intro vd wd ho hg _; rw [← List.length_append, ← List.flatMap_append] at ho; have HTd := hid (PR.grown HTc.out HOl.out hg); have hszd : w.heap.size ≤ wd.heap.size := Touch.size (PR.all HTd.out HF0.out); have HOd := hid ho; clear ho hg)
    | (refine step_append_src _ rfl (.tmp 123) (.tmp 126) 47 rfl w.heap.size 51 i0 _ 4 40 Tryz.underlying47 hi hz0 hz1 hz2 rfl (by decide) (.slice (some ⟨wb.heap.size, 0, none⟩) 1 1) (([(⟨4, [109, 97, 116, 114, 105, 120]⟩ : Lx.Tok)] : List Lx.Tok)).length ((([(⟨4, [109, 97, 116, 114, 105, 120]⟩ : Lx.Tok)] : List Lx.Tok)).flatMap tokC) (by simp [Act.eval]) HOl.out (vc) ((([⟨7, [123]⟩] : List Lx.Tok) ++ (cellsT c 0 ks ++ ([⟨7, [125]⟩] : List Lx.Tok)))).length (((([⟨7, [123]⟩] : List Lx.Tok) ++ (cellsT c 0 ks ++ ([⟨7, [125]⟩] : List Lx.Tok)))).flatMap tokC) (by simp [Act.eval]) (Src.of_own HOc.out) (tok_one _) (by have := HLEN.out; unfold maxLen; (try simp at this); (try simp); omega) (by have := HLEN.out; (try simp at this); (try simp); omega) (by first | assumption | (simp only [World.size_alloc]; omega)) ?_; intro vd wd ho hg _; rw [← List.length_append, ← List.flatMap_append] at ho; have HTd := hid (PR.grown HTc.out HOl.out hg); have hszd : w.heap.size ≤ wd.heap.size := Touch.size (PR.all HTd.out HF0.out); have HOd := hid ho; clear ho hg)
    | (refine step_append_src _ rfl (.tmp 123) (.tmp 126) 47 rfl w.heap.size 51 i0 _ 4 40 Tryz.underlying47 hi hz0 hz1 hz2 rfl (by decide) (.slice (some ⟨wc.heap.size, 0, none⟩) 1 1) (([(⟨4, [109, 97, 116, 114, 105, 120]⟩ : Lx.Tok)] : List Lx.Tok)).length ((([(⟨4, [109, 97, 116, 114, 105, 120]⟩ : Lx.Tok)] : List Lx.Tok)).flatMap tokC) (by simp [Act.eval]) (own_tok1 (B := w.heap.size) (i := wc.heap.size) _ (⟨4, [109, 97, 116, 114, 105, 120]⟩ : Lx.Tok) (by simp) (by first | exact hszc)) (vc) ((([⟨7, [123]⟩] : List Lx.Tok) ++ (cellsT c 0 ks ++ ([⟨7, [125]⟩] : List Lx.Tok)))).length (((([⟨7, [123]⟩] : List Lx.Tok) ++ (cellsT c 0 ks ++ ([⟨7, [125]⟩] : List Lx.Tok)))).flatMap tokC) (by simp [Act.eval]) (Src.of_own (World.ownsRow.alloc HOc.out _)) (tok_one _) (by have := HLEN.out; unfold maxLen; (try simp at this); (try simp); omega) (by have := HLEN.out; (try simp at this); (try simp); omega) (by first | assumption | (simp only [World.size_alloc]; omega)) ?_; intro vd wd ho hg _; rw [← List.length_append, ← List.flatMap_append] at ho; have HTd := hid (PR.grown (Touch.alloc HTc.out _) (own_tok1 (B := w.heap.size) (i := wc.heap.size) _ (⟨4, [109, 97, 116, 114, 105, 120]⟩ : Lx.Tok) (by simp) (by first | exact hszc)) hg); have hszd : w.heap.size ≤ wd.heap.size := Touch.size (PR.all HTd.out HF0.out); have HOd := hid ho; clear ho hg))
 all_goals
  go_wp2_with fail
  go_ret
  exact ⟨vd, rfl, ownCast HOd.out (by first | rfl | (simp only [List.append_assoc] <;> rfl) | (simp <;> rfl)), PR.all HTd.out HF0.out⟩
set_option maxRecDepth 100000 in
set_option maxHeartbeats 2000000 in
theorem rscripts_7 (tx cl : Value) (a b : Nd) (ha : BaseR a) (hb : ArgR b) (hl : (baseT a ++ (argT b)).length ≤ 50000) (w : World) (sl : Value) (hsl : RepL w [a, b] sl) : Calls Tryz.prog 142 #[.agg #[.int .i64 7, tx, cl, sl]] w (TokRes w (baseT a ++ ([Tr.mk7 95] ++ argT b))) := by
 obtain ⟨g, o, cap, sa, sb, rfl, a0, a1, a2, a3, hra, b0, b1, b2, b3, hrb⟩ := hsl.two
 obtain ⟨i0, hi, hz0, hz1, hz2⟩ := info_parts infoRTok
 have BASa := hid ha
 have ARGb := hid hb
 have HLEN := hid hl
 have HRa := hid hra
 have HRb := hid hrb
 clear ha hl hsl hb hra hrb
 have XA0 := hid a0
 have XA1 := hid a1
 have XA2 := hid a2
 have XA3 := hid a3
 have XB0 := hid b0
 have XB1 := hid b1
 have XB2 := hid b2
 have XB3 := hid b3
 clear a0 a1 a2 a3 b0 b1 b2 b3
 have xa0_w : World.cell? w ⟨g, o, none⟩ = some (.int .i64 a.kind) := XA0.out
 have xa1_w : World.cell? w ⟨g, o + 1, none⟩ = some (.string (⟨a.text.toArray⟩ : ByteArray)) := XA1.out
 have xa2_w : World.cell? w ⟨g, o + 2, none⟩ = some (.int .i64 a.cols) := XA2.out
 have xa3_w : World.cell? w ⟨g, o + 3, none⟩ = some (sa) := XA3.out
 have xb0_w : World.cell? w ⟨g, o + 4, none⟩ = some (.int .i64 b.kind) := XB0.out
 have xb1_w : World.cell? w ⟨g, o + 4 + 1, none⟩ = some (.string (⟨b.text.toArray⟩ : ByteArray)) := XB1.out
 have xb2_w : World.cell? w ⟨g, o + 4 + 2, none⟩ = some (.int .i64 b.cols) := XB2.out
 have xb3_w : World.cell? w ⟨g, o + 4 + 3, none⟩ = some (sb) := XB3.out
 have hlt_g_w : g < w.heap.size := block_lt_of_cell xa0_w
 go_enter Tryz.func142, Tryz.ntmps142
 go_wp2_with fail
 refine Calls.mono (BASa.out _ _ (HRa.out.fresh ((Touch.refl _ _).alloc _))) ?_
 rintro _ W0 ⟨vo, rfl, hoo, hfo⟩
 have HF0 := hid (show Fresh w W0 from Touch.pre hfo)
 have HB0 := hid (hfo.blk (Blk.new _ _ _) (fun h => h))
 have hsz0 : w.heap.size ≤ W0.heap.size := Touch.size HF0.out
 have hltb0 : w.heap.size < W0.heap.size := Blk.lt HB0.out
 have HOo := hid (ownsRow_base (B' := w.heap.size) hoo (by simp only [World.size_alloc]; omega))
 clear hoo hfo xa0_w xa1_w xa2_w xa3_w xb0_w xb1_w xb2_w xb3_w hlt_g_w
 have hb_W0 := PR.blk (Touch.refl (PR w W0) W0) HB0.out (by decide)
 obtain ⟨q0_W0, q1_W0, q2_W0, q3_W0, _⟩ := Blk.four hb_W0
 have hltb_W0 : w.heap.size < W0.heap.size := Blk.lt hb_W0
 have ya0_W0 : World.cell? W0 ⟨g, o, none⟩ = some (.int .i64 a.kind) := PR.old (Touch.refl (PR w W0) W0) HF0.out XA0.out
 have ya1_W0 : World.cell? W0 ⟨g, o + 1, none⟩ = some (.string (⟨a.text.toArray⟩ : ByteArray)) := PR.old (Touch.refl (PR w W0) W0) HF0.out XA1.out
 have ya2_W0 : World.cell? W0 ⟨g, o + 2, none⟩ = some (.int .i64 a.cols) := PR.old (Touch.refl (PR w W0) W0) HF0.out XA2.out
 have ya3_W0 : World.cell? W0 ⟨g, o + 3, none⟩ = some (sa) := PR.old (Touch.refl (PR w W0) W0) HF0.out XA3.out
 have yb0_W0 : World.cell? W0 ⟨g, o + 4, none⟩ = some (.int .i64 b.kind) := PR.old (Touch.refl (PR w W0) W0) HF0.out XB0.out
 have yb1_W0 : World.cell? W0 ⟨g, o + 4 + 1, none⟩ = some (.string (⟨b.text.toArray⟩ : ByteArray)) := PR.old (Touch.refl (PR w W0) W0) HF0.out XB1.out
 have yb2_W0 : World.cell? W0 ⟨g, o + 4 + 2, none⟩ = some (.int .i64 b.cols) := PR.old (Touch.refl (PR w W0) W0) HF0.out XB2.out
 have yb3_W0 : World.cell? W0 ⟨g, o + 4 + 3, none⟩ = some (sb) := PR.old (Touch.refl (PR w W0) W0) HF0.out XB3.out
 have hltg_W0 : g < W0.heap.size := block_lt_of_cell ya0_W0
 go_wp2_with fail
 have KP1 := hid (fun (W' : World) (ht : Touch (PR w W0) W0 W') => (⟨(PR.blk ht HB0.out (by decide)).cell 3, PR.old ht HF0.out XB0.out, PR.old ht HF0.out XB1.out, PR.old ht HF0.out XB2.out, PR.old ht HF0.out XB3.out⟩ : W'.cell? ⟨w.heap.size, 3, none⟩ = some (.slice (some ⟨g, o, none⟩) 2 cap) ∧ W'.cell? ⟨g, o + 4, none⟩ = some (.int .i64 b.kind) ∧ W'.cell? ⟨g, o + 4 + 1, none⟩ = some (.string (⟨b.text.toArray⟩ : ByteArray)) ∧ W'.cell? ⟨g, o + 4 + 2, none⟩ = some (.int .i64 b.cols) ∧ W'.cell? ⟨g, o + 4 + 3, none⟩ = some (sb)))
 go_region_held3 (fun w' => w'.cell? ⟨w.heap.size, 3, none⟩ = some (.slice (some ⟨g, o, none⟩) 2 cap) ∧ w'.cell? ⟨g, o + 4, none⟩ = some (.int .i64 b.kind) ∧ w'.cell? ⟨g, o + 4 + 1, none⟩ = some (.string (⟨b.text.toArray⟩ : ByteArray)) ∧ w'.cell? ⟨g, o + 4 + 2, none⟩ = some (.int .i64 b.cols) ∧ w'.cell? ⟨g, o + 4 + 3, none⟩ = some (sb)) (first | with_reducible exact KP1.out _ (Touch.drew (Touch.refl (PR w W0) W0)) | with_reducible exact KP1.out _ HTa.out | with_reducible exact KP1.out _ (Touch.alloc HTa.out _) | with_reducible exact KP1.out _ HTb.out | with_reducible exact KP1.out _ (Touch.alloc HTb.out _) | with_reducible exact KP1.out _ HTc.out | with_reducible exact KP1.out _ (Touch.alloc HTc.out _) | with_reducible exact KP1.out _ HTd.out | with_reducible exact KP1.out _ (Touch.alloc HTd.out _) | go_keep)
   (first
    | (go_simp; go_at_call 172; refine (rmark_any [95] _).mono ?_; rintro _ wa ⟨rfl, hfa⟩; have HTa := hid (PR.then (Touch.drew (Touch.refl (PR w W0) W0)) hfa); have hsza : w.heap.size ≤ wa.heap.size := Touch.size (PR.all HTa.out HF0.out); have HOa := hid (ownsRow_touch (w := World.drew W0) HOo.out hfa (fun _ _ h => h)); clear hfa)
    | (refine step_append_src _ rfl (.tmp 13) (.tmp 15) 47 rfl w.heap.size 51 i0 _ 4 40 Tryz.underlying47 hi hz0 hz1 hz2 rfl (by decide) (vo) (baseT a).length ((baseT a).flatMap tokC) (by simp [Act.eval]) (World.ownsRow.alloc HOa.out _) (.slice (some ⟨wa.heap.size, 0, none⟩) 1 1) (([(⟨7, [95]⟩ : Lx.Tok)] : List Lx.Tok)).length ((([(⟨7, [95]⟩ : Lx.Tok)] : List Lx.Tok)).flatMap tokC) (by simp [Act.eval]) (Src.of_own (own_tok1 (B := w.heap.size) (i := wa.heap.size) _ (⟨7, [95]⟩ : Lx.Tok) (by simp) (by first | exact hsza))) (tok_one _) (by have := HLEN.out; unfold maxLen; (try simp at this); (try simp); omega) (by have := HLEN.out; (try simp at this); (try simp); omega) (by first | assumption | (simp only [World.size_alloc]; omega)) ?_; intro vb wb ho hg _; rw [← List.length_append, ← List.flatMap_append] at ho; have HTb := hid (PR.grown (Touch.alloc HTa.out _) (World.ownsRow.alloc HOa.out _) hg); have hszb : w.heap.size ≤ wb.heap.size := Touch.size (PR.all HTb.out HF0.out); have HOb := hid ho; clear ho hg)
    | (go_simp; go_at_call 139; refine (ARGb.out _ _ (HRb.out.fresh (PR.all HTb.out HF0.out))).mono ?_; rintro _ wc ⟨vc, rfl, hob, hfb⟩; have HTc := hid (PR.then HTb.out hfb); have hszc : w.heap.size ≤ wc.heap.size := Touch.size (PR.all HTc.out HF0.out); have HOc := hid (ownsRow_base (B' := w.heap.size) hob hszb); have HOQb := hid (ownsRow_touch HOb.out hfb (fun _ _ h => h)); clear hob hfb)
    | (refine step_append_src _ rfl (.tmp 16) (.tmp 22) 47 rfl w.heap.size 51 i0 _ 4 40 Tryz.underlying47 hi hz0 hz1 hz2 rfl (by decide) (vb) ((baseT a ++ ([(⟨7, [95]⟩ : Lx.Tok)] : List Lx.Tok))).length (((baseT a ++ ([(⟨7, [95]⟩ : Lx.Tok)] : List Lx.Tok))).flatMap tokC) (by simp [Act.eval]) HOQb.out (vc) (argT b).length ((argT b).flatMap tokC) (by simp [Act.eval]) (Src.of_own HOc.out) (tok_one _) (by have := HLEN.out; unfold maxLen; (try simp at this); (try simp); omega) (by have := HLEN.out; (try simp at this); (try simp); omega) (by first | assumption | (simp only [World.size_alloc]; omega)) ?_; intro vd wd ho hg _; rw [← List.length_append, ← List.flatMap_append] at ho; have HTd := hid (PR.grown HTc.out HOQb.out hg); have hszd : w.heap.size ≤ wd.heap.size := Touch.size (PR.all HTd.out HF0.out); have HOd := hid ho; clear ho hg))
 clear hb_W0 q0_W0 q1_W0 q2_W0 q3_W0 ya0_W0 ya1_W0 ya2_W0 ya3_W0 yb0_W0 yb1_W0 yb2_W0 yb3_W0
 have hb_wd := PR.blk HTd.out HB0.out (by decide)
 obtain ⟨q0_wd, q1_wd, q2_wd, q3_wd, _⟩ := Blk.four hb_wd
 have hltb_wd : w.heap.size < wd.heap.size := Blk.lt hb_wd
 have ya0_wd : World.cell? wd ⟨g, o, none⟩ = some (.int .i64 a.kind) := PR.old HTd.out HF0.out XA0.out
 have ya1_wd : World.cell? wd ⟨g, o + 1, none⟩ = some (.string (⟨a.text.toArray⟩ : ByteArray)) := PR.old HTd.out HF0.out XA1.out
 have ya2_wd : World.cell? wd ⟨g, o + 2, none⟩ = some (.int .i64 a.cols) := PR.old HTd.out HF0.out XA2.out
 have ya3_wd : World.cell? wd ⟨g, o + 3, none⟩ = some (sa) := PR.old HTd.out HF0.out XA3.out
 have yb0_wd : World.cell? wd ⟨g, o + 4, none⟩ = some (.int .i64 b.kind) := PR.old HTd.out HF0.out XB0.out
 have yb1_wd : World.cell? wd ⟨g, o + 4 + 1, none⟩ = some (.string (⟨b.text.toArray⟩ : ByteArray)) := PR.old HTd.out HF0.out XB1.out
 have yb2_wd : World.cell? wd ⟨g, o + 4 + 2, none⟩ = some (.int .i64 b.cols) := PR.old HTd.out HF0.out XB2.out
 have yb3_wd : World.cell? wd ⟨g, o + 4 + 3, none⟩ = some (sb) := PR.old HTd.out HF0.out XB3.out
 have hltg_wd : g < wd.heap.size := block_lt_of_cell ya0_wd
 go_wp2_with fail
 go_ret
 exact ⟨vd, rfl, ownCast HOd.out (by first | rfl | (simp only [List.append_assoc] <;> rfl) | (simp <;> rfl)), PR.all HTd.out HF0.out⟩
set_option maxRecDepth 100000 in
set_option maxHeartbeats 2000000 in
theorem rscripts_8 (tx cl : Value) (a b : Nd) (ha : BaseR a) (hb : ArgR b) (hl : (baseT a ++ (argT b)).length ≤ 50000) (w : World) (sl : Value) (hsl : RepL w [a, b] sl) : Calls Tryz.prog 142 #[.agg #[.int .i64 8, tx, cl, sl]] w (TokRes w (baseT a ++ ([Tr.mk7 94] ++ argT b))) := by
 obtain ⟨g, o, cap, sa, sb, rfl, a0, a1, a2, a3, hra, b0, b1, b2, b3, hrb⟩ := hsl.two
 obtain ⟨i0, hi, hz0, hz1, hz2⟩ := info_parts infoRTok
 have BASa := hid ha
 have ARGb := hid hb
 have HLEN := hid hl
 have HRa := hid hra
 have HRb := hid hrb
 clear ha hl hsl hb hra hrb
 have XA0 := hid a0
 have XA1 := hid a1
 have XA2 := hid a2
 have XA3 := hid a3
 have XB0 := hid b0
 have XB1 := hid b1
 have XB2 := hid b2
 have XB3 := hid b3
 clear a0 a1 a2 a3 b0 b1 b2 b3
 have xa0_w : World.cell? w ⟨g, o, none⟩ = some (.int .i64 a.kind) := XA0.out
 have xa1_w : World.cell? w ⟨g, o + 1, none⟩ = some (.string (⟨a.text.toArray⟩ : ByteArray)) := XA1.out
 have xa2_w : World.cell? w ⟨g, o + 2, none⟩ = some (.int .i64 a.cols) := XA2.out
 have xa3_w : World.cell? w ⟨g, o + 3, none⟩ = some (sa) := XA3.out
 have xb0_w : World.cell? w ⟨g, o + 4, none⟩ = some (.int .i64 b.kind) := XB0.out
 have xb1_w : World.cell? w ⟨g, o + 4 + 1, none⟩ = some (.string (⟨b.text.toArray⟩ : ByteArray)) := XB1.out
 have xb2_w : World.cell? w ⟨g, o + 4 + 2, none⟩ = some (.int .i64 b.cols) := XB2.out
 have xb3_w : World.cell? w ⟨g, o + 4 + 3, none⟩ = some (sb) := XB3.out
 have hlt_g_w : g < w.heap.size := block_lt_of_cell xa0_w
 go_enter Tryz.func142, Tryz.ntmps142
 go_wp2_with fail
 refine Calls.mono (BASa.out _ _ (HRa.out.fresh ((Touch.refl _ _).alloc _))) ?_
 rintro _ W0 ⟨vo, rfl, hoo, hfo⟩
 have HF0 := hid (show Fresh w W0 from Touch.pre hfo)
 have HB0 := hid (hfo.blk (Blk.new _ _ _) (fun h => h))
 have hsz0 : w.heap.size ≤ W0.heap.size := Touch.size HF0.out
 have hltb0 : w.heap.size < W0.heap.size := Blk.lt HB0.out
 have HOo := hid (ownsRow_base (B' := w.heap.size) hoo (by simp only [World.size_alloc]; omega))
 clear hoo hfo xa0_w xa1_w xa2_w xa3_w xb0_w xb1_w xb2_w xb3_w hlt_g_w
 have hb_W0 := PR.blk (Touch.refl (PR w W0) W0) HB0.out (by decide)
 obtain ⟨q0_W0, q1_W0, q2_W0, q3_W0, _⟩ := Blk.four hb_W0
 have hltb_W0 : w.heap.size < W0.heap.size := Blk.lt hb_W0
 have ya0_W0 : World.cell? W0 ⟨g, o, none⟩ = some (.int .i64 a.kind) := PR.old (Touch.refl (PR w W0) W0) HF0.out XA0.out
 have ya1_W0 : World.cell? W0 ⟨g, o + 1, none⟩ = some (.string (⟨a.text.toArray⟩ : ByteArray)) := PR.old (Touch.refl (PR w W0) W0) HF0.out XA1.out
 have ya2_W0 : World.cell? W0 ⟨g, o + 2, none⟩ = some (.int .i64 a.cols) := PR.old (Touch.refl (PR w W0) W0) HF0.out XA2.out
 have ya3_W0 : World.cell? W0 ⟨g, o + 3, none⟩ = some (sa) := PR.old (Touch.refl (PR w W0) W0) HF0.out XA3.out
 have yb0_W0 : World.cell? W0 ⟨g, o + 4, none⟩ = some (.int .i64 b.kind) := PR.old (Touch.refl (PR w W0) W0) HF0.out XB0.out
 have yb1_W0 : World.cell? W0 ⟨g, o + 4 + 1, none⟩ = some (.string (⟨b.text.toArray⟩ : ByteArray)) := PR.old (Touch.refl (PR w W0) W0) HF0.out XB1.out
 have yb2_W0 : World.cell? W0 ⟨g, o + 4 + 2, none⟩ = some (.int .i64 b.cols) := PR.old (Touch.refl (PR w W0) W0) HF0.out XB2.out
 have yb3_W0 : World.cell? W0 ⟨g, o + 4 + 3, none⟩ = some (sb) := PR.old (Touch.refl (PR w W0) W0) HF0.out XB3.out
 have hltg_W0 : g < W0.heap.size := block_lt_of_cell ya0_W0
 go_wp2_with fail
 have KP1 := hid (fun (W' : World) (ht : Touch (PR w W0) W0 W') => (⟨(PR.blk ht HB0.out (by decide)).cell 3, PR.old ht HF0.out XB0.out, PR.old ht HF0.out XB1.out, PR.old ht HF0.out XB2.out, PR.old ht HF0.out XB3.out⟩ : W'.cell? ⟨w.heap.size, 3, none⟩ = some (.slice (some ⟨g, o, none⟩) 2 cap) ∧ W'.cell? ⟨g, o + 4, none⟩ = some (.int .i64 b.kind) ∧ W'.cell? ⟨g, o + 4 + 1, none⟩ = some (.string (⟨b.text.toArray⟩ : ByteArray)) ∧ W'.cell? ⟨g, o + 4 + 2, none⟩ = some (.int .i64 b.cols) ∧ W'.cell? ⟨g, o + 4 + 3, none⟩ = some (sb)))
 go_region_held3 (fun w' => w'.cell? ⟨w.heap.size, 3, none⟩ = some (.slice (some ⟨g, o, none⟩) 2 cap) ∧ w'.cell? ⟨g, o + 4, none⟩ = some (.int .i64 b.kind) ∧ w'.cell? ⟨g, o + 4 + 1, none⟩ = some (.string (⟨b.text.toArray⟩ : ByteArray)) ∧ w'.cell? ⟨g, o + 4 + 2, none⟩ = some (.int .i64 b.cols) ∧ w'.cell? ⟨g, o + 4 + 3, none⟩ = some (sb)) (first | with_reducible exact KP1.out _ (Touch.drew (Touch.refl (PR w W0) W0)) | with_reducible exact KP1.out _ HTa.out | with_reducible exact KP1.out _ (Touch.alloc HTa.out _) | with_reducible exact KP1.out _ HTb.out | with_reducible exact KP1.out _ (Touch.alloc HTb.out _) | with_reducible exact KP1.out _ HTc.out | with_reducible exact KP1.out _ (Touch.alloc HTc.out _) | with_reducible exact KP1.out _ HTd.out | with_reducible exact KP1.out _ (Touch.alloc HTd.out _) | go_keep)
   (first
    | (go_simp; go_at_call 172; refine (rmark_any [94] _).mono ?_; rintro _ wa ⟨rfl, hfa⟩; have HTa := hid (PR.then (Touch.drew (Touch.refl (PR w W0) W0)) hfa); have hsza : w.heap.size ≤ wa.heap.size := Touch.size (PR.all HTa.out HF0.out); have HOa := hid (ownsRow_touch (w := World.drew W0) HOo.out hfa (fun _ _ h => h)); clear hfa)
    | (refine step_append_src _ rfl (.tmp 29) (.tmp 31) 47 rfl w.heap.size 51 i0 _ 4 40 Tryz.underlying47 hi hz0 hz1 hz2 rfl (by decide) (vo) (baseT a).length ((baseT a).flatMap tokC) (by simp [Act.eval]) (World.ownsRow.alloc HOa.out _) (.slice (some ⟨wa.heap.size, 0, none⟩) 1 1) (([(⟨7, [94]⟩ : Lx.Tok)] : List Lx.Tok)).length ((([(⟨7, [94]⟩ : Lx.Tok)] : List Lx.Tok)).flatMap tokC) (by simp [Act.eval]) (Src.of_own (own_tok1 (B := w.heap.size) (i := wa.heap.size) _ (⟨7, [94]⟩ : Lx.Tok) (by simp) (by first | exact hsza))) (tok_one _) (by have := HLEN.out; unfold maxLen; (try simp at this); (try simp); omega) (by have := HLEN.out; (try simp at this); (try simp); omega) (by first | assumption | (simp only [World.size_alloc]; omega)) ?_; intro vb wb ho hg _; rw [← List.length_append, ← List.flatMap_append] at ho; have HTb := hid (PR.grown (Touch.alloc HTa.out _) (World.ownsRow.alloc HOa.out _) hg); have hszb : w.heap.size ≤ wb.heap.size := Touch.size (PR.all HTb.out HF0.out); have HOb := hid ho; clear ho hg)
    | (go_simp; go_at_call 139; refine (ARGb.out _ _ (HRb.out.fresh (PR.all HTb.out HF0.out))).mono ?_; rintro _ wc ⟨vc, rfl, hob, hfb⟩; have HTc := hid (PR.then HTb.out hfb); have hszc : w.heap.size ≤ wc.heap.size := Touch.size (PR.all HTc.out HF0.out); have HOc := hid (ownsRow_base (B' := w.heap.size) hob hszb); have HOQb := hid (ownsRow_touch HOb.out hfb (fun _ _ h => h)); clear hob hfb)
    | (refine step_append_src _ rfl (.tmp 32) (.tmp 38) 47 rfl w.heap.size 51 i0 _ 4 40 Tryz.underlying47 hi hz0 hz1 hz2 rfl (by decide) (vb) ((baseT a ++ ([(⟨7, [94]⟩ : Lx.Tok)] : List Lx.Tok))).length (((baseT a ++ ([(⟨7, [94]⟩ : Lx.Tok)] : List Lx.Tok))).flatMap tokC) (by simp [Act.eval]) HOQb.out (vc) (argT b).length ((argT b).flatMap tokC) (by simp [Act.eval]) (Src.of_own HOc.out) (tok_one _) (by have := HLEN.out; unfold maxLen; (try simp at this); (try simp); omega) (by have := HLEN.out; (try simp at this); (try simp); omega) (by first | assumption | (simp only [World.size_alloc]; omega)) ?_; intro vd wd ho hg _; rw [← List.length_append, ← List.flatMap_append] at ho; have HTd := hid (PR.grown HTc.out HOQb.out hg); have hszd : w.heap.size ≤ wd.heap.size := Touch.size (PR.all HTd.out HF0.out); have HOd := hid ho; clear ho hg))
 go_wp2_with fail
 go_ret
 exact ⟨vd, rfl, ownCast HOd.out (by first | rfl | (simp only [List.append_assoc] <;> rfl) | (simp <;> rfl)), PR.all HTd.out HF0.out⟩
set_option maxRecDepth 100000 in
set_option maxHeartbeats 2000000 in
theorem rscripts_9 (tx cl : Value) (a b d : Nd) (ha : BaseR a) (hb : ArgR b) (hd : ArgR d) (hl : (baseT a ++ (argT b ++ argT d)).length ≤ 50000) (w : World) (sl : Value) (hsl : RepL w [a, b, d] sl) : Calls Tryz.prog 142 #[.agg #[.int .i64 9, tx, cl, sl]] w (TokRes w (baseT a ++ ([Tr.mk7 95] ++ (argT b ++ ([Tr.mk7 94] ++ argT d))))) := by
 obtain ⟨g, o, cap, sa, sb, sd, rfl, a0, a1, a2, a3, hra, b0, b1, b2, b3, hrb, d0, d1, d2, d3, hrd⟩ := hsl.three
 obtain ⟨i0, hi, hz0, hz1, hz2⟩ := info_parts infoRTok
 have BASa := hid ha
 have ARGb := hid hb
 have ARGd := hid hd
 have HLEN := hid hl
 have HRa := hid hra
 have HRb := hid hrb
 have HRd := hid hrd
 clear ha hl hsl hb hd hra hrb hrd
 have XA0 := hid a0
 have XA1 := hid a1
 have XA2 := hid a2
 have XA3 := hid a3
 have XB0 := hid b0
 have XB1 := hid b1
 have XB2 := hid b2
 have XB3 := hid b3
 have XD0 := hid d0
 have XD1 := hid d1
 have XD2 := hid d2
 have XD3 := hid d3
 clear a0 a1 a2 a3 b0 b1 b2 b3 d0 d1 d2 d3
 have xa0_w : World.cell? w ⟨g, o, none⟩ = some (.int .i64 a.kind) := XA0.out
 have xa1_w : World.cell? w ⟨g, o + 1, none⟩ = some (.string (⟨a.text.toArray⟩ : ByteArray)) := XA1.out
 have xa2_w : World.cell? w ⟨g, o + 2, none⟩ = some (.int .i64 a.cols) := XA2.out
 have xa3_w : World.cell? w ⟨g, o + 3, none⟩ = some (sa) := XA3.out
 have xb0_w : World.cell? w ⟨g, o + 4, none⟩ = some (.int .i64 b.kind) := XB0.out
 have xb1_w : World.cell? w ⟨g, o + 4 + 1, none⟩ = some (.string (⟨b.text.toArray⟩ : ByteArray)) := XB1.out
 have xb2_w : World.cell? w ⟨g, o + 4 + 2, none⟩ = some (.int .i64 b.cols) := XB2.out
 have xb3_w : World.cell? w ⟨g, o + 4 + 3, none⟩ = some (sb) := XB3.out
 have xd0_w : World.cell? w ⟨g, o + 8, none⟩ = some (.int .i64 d.kind) := XD0.out
 have xd1_w : World.cell? w ⟨g, o + 8 + 1, none⟩ = some (.string (⟨d.text.toArray⟩ : ByteArray)) := XD1.out
 have xd2_w : World.cell? w ⟨g, o + 8 + 2, none⟩ = some (.int .i64 d.cols) := XD2.out
 have xd3_w : World.cell? w ⟨g, o + 8 + 3, none⟩ = some (sd) := XD3.out
 have hlt_g_w : g < w.heap.size := block_lt_of_cell xa0_w
 go_enter Tryz.func142, Tryz.ntmps142
 go_wp2_with fail
 refine Calls.mono (BASa.out _ _ (HRa.out.fresh ((Touch.refl _ _).alloc _))) ?_
 rintro _ W0 ⟨vo, rfl, hoo, hfo⟩
 have HF0 := hid (show Fresh w W0 from Touch.pre hfo)
 have HB0 := hid (hfo.blk (Blk.new _ _ _) (fun h => h))
 have hsz0 : w.heap.size ≤ W0.heap.size := Touch.size HF0.out
 have hltb0 : w.heap.size < W0.heap.size := Blk.lt HB0.out
 have HOo := hid (ownsRow_base (B' := w.heap.size) hoo (by simp only [World.size_alloc]; omega))
 clear hoo hfo xa0_w xa1_w xa2_w xa3_w xb0_w xb1_w xb2_w xb3_w xd0_w xd1_w xd2_w xd3_w hlt_g_w
 have hb_W0 := PR.blk (Touch.refl (PR w W0) W0) HB0.out (by decide)
 obtain ⟨q0_W0, q1_W0, q2_W0, q3_W0, _⟩ := Blk.four hb_W0
 have hltb_W0 : w.heap.size < W0.heap.size := Blk.lt hb_W0
 have ya0_W0 : World.cell? W0 ⟨g, o, none⟩ = some (.int .i64 a.kind) := PR.old (Touch.refl (PR w W0) W0) HF0.out XA0.out
 have ya1_W0 : World.cell? W0 ⟨g, o + 1, none⟩ = some (.string (⟨a.text.toArray⟩ : ByteArray)) := PR.old (Touch.refl (PR w W0) W0) HF0.out XA1.out
 have ya2_W0 : World.cell? W0 ⟨g, o + 2, none⟩ = some (.int .i64 a.cols) := PR.old (Touch.refl (PR w W0) W0) HF0.out XA2.out
 have ya3_W0 : World.cell? W0 ⟨g, o + 3, none⟩ = some (sa) := PR.old (Touch.refl (PR w W0) W0) HF0.out XA3.out
 have yb0_W0 : World.cell? W0 ⟨g, o + 4, none⟩ = some (.int .i64 b.kind) := PR.old (Touch.refl (PR w W0) W0) HF0.out XB0.out
 have yb1_W0 : World.cell? W0 ⟨g, o + 4 + 1, none⟩ = some (.string (⟨b.text.toArray⟩ : ByteArray)) := PR.old (Touch.refl (PR w W0) W0) HF0.out XB1.out
 have yb2_W0 : World.cell? W0 ⟨g, o + 4 + 2, none⟩ = some (.int .i64 b.cols) := PR.old (Touch.refl (PR w W0) W0) HF0.out XB2.out
 have yb3_W0 : World.cell? W0 ⟨g, o + 4 + 3, none⟩ = some (sb) := PR.old (Touch.refl (PR w W0) W0) HF0.out XB3.out
 have yd0_W0 : World.cell? W0 ⟨g, o + 8, none⟩ = some (.int .i64 d.kind) := PR.old (Touch.refl (PR w W0) W0) HF0.out XD0.out
 have yd1_W0 : World.cell? W0 ⟨g, o + 8 + 1, none⟩ = some (.string (⟨d.text.toArray⟩ : ByteArray)) := PR.old (Touch.refl (PR w W0) W0) HF0.out XD1.out
 have yd2_W0 : World.cell? W0 ⟨g, o + 8 + 2, none⟩ = some (.int .i64 d.cols) := PR.old (Touch.refl (PR w W0) W0) HF0.out XD2.out
 have yd3_W0 : World.cell? W0 ⟨g, o + 8 + 3, none⟩ = some (sd) := PR.old (Touch.refl (PR w W0) W0) HF0.out XD3.out
 have hltg_W0 : g < W0.heap.size := block_lt_of_cell ya0_W0
 go_wp2_with fail
 have KP1 := hid (fun (W' : World) (ht : Touch (PR w W0) W0 W') => (⟨(PR.blk ht HB0.out (by decide)).cell 3, PR.old ht HF0.out XB0.out, PR.old ht HF0.out XB1.out, PR.old ht HF0.out XB2.out, PR.old ht HF0.out XB3.out⟩ : W'.cell? ⟨w.heap.size, 3, none⟩ = some (.slice (some ⟨g, o, none⟩) 3 cap) ∧ W'.cell? ⟨g, o + 4, none⟩ = some (.int .i64 b.kind) ∧ W'.cell? ⟨g, o + 4 + 1, none⟩ = some (.string (⟨b.text.toArray⟩ : ByteArray)) ∧ W'.cell? ⟨g, o + 4 + 2, none⟩ = some (.int .i64 b.cols) ∧ W'.cell? ⟨g, o + 4 + 3, none⟩ = some (sb)))
 go_region_held3 (fun w' => w'.cell? ⟨w.heap.size, 3, none⟩ = some (.slice (some ⟨g, o, none⟩) 3 cap) ∧ w'.cell? ⟨g, o + 4, none⟩ = some (.int .i64 b.kind) ∧ w'.cell? ⟨g, o + 4 + 1, none⟩ = some (.string (⟨b.text.toArray⟩ : ByteArray)) ∧ w'.cell? ⟨g, o + 4 + 2, none⟩ = some (.int .i64 b.cols) ∧ w'.cell? ⟨g, o + 4 + 3, none⟩ = some (sb)) (first | with_reducible exact KP1.out _ (Touch.drew (Touch.refl (PR w W0) W0)) | with_reducible exact KP1.out _ HTa.out | with_reducible exact KP1.out _ (Touch.alloc HTa.out _) | with_reducible exact KP1.out _ HTb.out | with_reducible exact KP1.out _ (Touch.alloc HTb.out _) | with_reducible exact KP1.out _ HTc.out | with_reducible exact KP1.out _ (Touch.alloc HTc.out _) | with_reducible exact KP1.out _ HTd.out | with_reducible exact KP1.out _ (Touch.alloc HTd.out _) | go_keep)
   (first
    | (go_simp; go_at_call 172; refine (rmark_any [95] _).mono ?_; rintro _ wa ⟨rfl, hfa⟩; have HTa := hid (PR.then (Touch.drew (Touch.refl (PR w W0) W0)) hfa); have hsza : w.heap.size ≤ wa.heap.size := Touch.size (PR.all HTa.out HF0.out); have HOa := hid (ownsRow_touch (w := World.drew W0) HOo.out hfa (fun _ _ h => h)); clear hfa)
    | (refine step_append_src _ rfl (.tmp 13) (.tmp 15) 47 rfl w.heap.size 51 i0 _ 4 40 Tryz.underlying47 hi hz0 hz1 hz2 rfl (by decide) (vo) (baseT a).length ((baseT a).flatMap tokC) (by simp [Act.eval]) (World.ownsRow.alloc HOa.out _) (.slice (some ⟨wa.heap.size, 0, none⟩) 1 1) (([(⟨7, [95]⟩ : Lx.Tok)] : List Lx.Tok)).length ((([(⟨7, [95]⟩ : Lx.Tok)] : List Lx.Tok)).flatMap tokC) (by simp [Act.eval]) (Src.of_own (own_tok1 (B := w.heap.size) (i := wa.heap.size) _ (⟨7, [95]⟩ : Lx.Tok) (by simp) (by first | exact hsza))) (tok_one _) (by have := HLEN.out; unfold maxLen; (try simp at this); (try simp); omega) (by have := HLEN.out; (try simp at this); (try simp); omega) (by first | assumption | (simp only [World.size_alloc]; omega)) ?_; intro vb wb ho hg _; rw [← List.length_append, ← List.flatMap_append] at ho; have HTb := hid (PR.grown (Touch.alloc HTa.out _) (World.ownsRow.alloc HOa.out _) hg); have hszb : w.heap.size ≤ wb.heap.size := Touch.size (PR.all HTb.out HF0.out); have HOb := hid ho; clear ho hg)
    | (go_simp; go_at_call 139; refine (ARGb.out _ _ (HRb.out.fresh (PR.all HTb.out HF0.out))).mono ?_; rintro _ wc ⟨vc, rfl, hob, hfb⟩; have HTc := hid (PR.then HTb.out hfb); have hszc : w.heap.size ≤ wc.heap.size := Touch.size (PR.all HTc.out HF0.out); have HOc := hid (ownsRow_base (B' := w.heap.size) hob hszb); have HOQb := hid (ownsRow_touch HOb.out hfb (fun _ _ h => h)); clear hob hfb)
    | (refine step_append_src _ rfl (.tmp 16) (.tmp 22) 47 rfl w.heap.size 51 i0 _ 4 40 Tryz.underlying47 hi hz0 hz1 hz2 rfl (by decide) (vb) ((baseT a ++ ([(⟨7, [95]⟩ : Lx.Tok)] : List Lx.Tok))).length (((baseT a ++ ([(⟨7, [95]⟩ : Lx.Tok)] : List Lx.Tok))).flatMap tokC) (by simp [Act.eval]) HOQb.out (vc) (argT b).length ((argT b).flatMap tokC) (by simp [Act.eval]) (Src.of_own HOc.out) (tok_one _) (by have := HLEN.out; unfold maxLen; (try simp at this); (try simp); omega) (by have := HLEN.out; (try simp at this); (try simp); omega) (by first | assumption | (simp only [World.size_alloc]; omega)) ?_; intro vd wd ho hg _; rw [← List.length_append, ← List.flatMap_append] at ho; have HTd := hid (PR.grown HTc.out HOQb.out hg); have hszd : w.heap.size ≤ wd.heap.size := Touch.size (PR.all HTd.out HF0.out); have HOd := hid ho; clear ho hg))
 clear hb_W0 q0_W0 q1_W0 q2_W0 q3_W0 ya0_W0 ya1_W0 ya2_W0 ya3_W0 yb0_W0 yb1_W0 yb2_W0 yb3_W0 yd0_W0 yd1_W0 yd2_W0 yd3_W0
 have hb_wd := PR.blk HTd.out HB0.out (by decide)
 obtain ⟨q0_wd, q1_wd, q2_wd, q3_wd, _⟩ := Blk.four hb_wd
 have hltb_wd : w.heap.size < wd.heap.size := Blk.lt hb_wd
 have ya0_wd : World.cell? wd ⟨g, o, none⟩ = some (.int .i64 a.kind) := PR.old HTd.out HF0.out XA0.out
 have ya1_wd : World.cell? wd ⟨g, o + 1, none⟩ = some (.string (⟨a.text.toArray⟩ : ByteArray)) := PR.old HTd.out HF0.out XA1.out
 have ya2_wd : World.cell? wd ⟨g, o + 2, none⟩ = some (.int .i64 a.cols) := PR.old HTd.out HF0.out XA2.out
 have ya3_wd : World.cell? wd ⟨g, o + 3, none⟩ = some (sa) := PR.old HTd.out HF0.out XA3.out
 have yb0_wd : World.cell? wd ⟨g, o + 4, none⟩ = some (.int .i64 b.kind) := PR.old HTd.out HF0.out XB0.out
 have yb1_wd : World.cell? wd ⟨g, o + 4 + 1, none⟩ = some (.string (⟨b.text.toArray⟩ : ByteArray)) := PR.old HTd.out HF0.out XB1.out
 have yb2_wd : World.cell? wd ⟨g, o + 4 + 2, none⟩ = some (.int .i64 b.cols) := PR.old HTd.out HF0.out XB2.out
 have yb3_wd : World.cell? wd ⟨g, o + 4 + 3, none⟩ = some (sb) := PR.old HTd.out HF0.out XB3.out
 have yd0_wd : World.cell? wd ⟨g, o + 8, none⟩ = some (.int .i64 d.kind) := PR.old HTd.out HF0.out XD0.out
 have yd1_wd : World.cell? wd ⟨g, o + 8 + 1, none⟩ = some (.string (⟨d.text.toArray⟩ : ByteArray)) := PR.old HTd.out HF0.out XD1.out
 have yd2_wd : World.cell? wd ⟨g, o + 8 + 2, none⟩ = some (.int .i64 d.cols) := PR.old HTd.out HF0.out XD2.out
 have yd3_wd : World.cell? wd ⟨g, o + 8 + 3, none⟩ = some (sd) := PR.old HTd.out HF0.out XD3.out
 have hltg_wd : g < wd.heap.size := block_lt_of_cell ya0_wd
 go_wp2_with fail
 have KP2 := hid (fun (W' : World) (ht : Touch (PR w W0) W0 W') => (⟨(PR.blk ht HB0.out (by decide)).cell 3, PR.old ht HF0.out XD0.out, PR.old ht HF0.out XD1.out, PR.old ht HF0.out XD2.out, PR.old ht HF0.out XD3.out⟩ : W'.cell? ⟨w.heap.size, 3, none⟩ = some (.slice (some ⟨g, o, none⟩) 3 cap) ∧ W'.cell? ⟨g, o + 8, none⟩ = some (.int .i64 d.kind) ∧ W'.cell? ⟨g, o + 8 + 1, none⟩ = some (.string (⟨d.text.toArray⟩ : ByteArray)) ∧ W'.cell? ⟨g, o + 8 + 2, none⟩ = some (.int .i64 d.cols) ∧ W'.cell? ⟨g, o + 8 + 3, none⟩ = some (sd)))
 go_region_held3 (fun w' => w'.cell? ⟨w.heap.size, 3, none⟩ = some (.slice (some ⟨g, o, none⟩) 3 cap) ∧ w'.cell? ⟨g, o + 8, none⟩ = some (.int .i64 d.kind) ∧ w'.cell? ⟨g, o + 8 + 1, none⟩ = some (.string (⟨d.text.toArray⟩ : ByteArray)) ∧ w'.cell? ⟨g, o + 8 + 2, none⟩ = some (.int .i64 d.cols) ∧ w'.cell? ⟨g, o + 8 + 3, none⟩ = some (sd)) (first | with_reducible exact KP2.out _ (Touch.drew HTd.out) | with_reducible exact KP2.out _ HTe.out | with_reducible exact KP2.out _ (Touch.alloc HTe.out _) | with_reducible exact KP2.out _ HTf.out | with_reducible exact KP2.out _ (Touch.alloc HTf.out _) | with_reducible exact KP2.out _ HTh.out | with_reducible exact KP2.out _ (Touch.alloc HTh.out _) | with_reducible exact KP2.out _ HTi.out | with_reducible exact KP2.out _ (Touch.alloc HTi.out _) | go_keep)
   (first
    | (go_simp; go_at_call 172; refine (rmark_any [94] _).mono ?_; rintro _ we ⟨rfl, hfa⟩; have HTe := hid (PR.then (Touch.drew HTd.out) hfa); have hsze : w.heap.size ≤ we.heap.size := Touch.size (PR.all HTe.out HF0.out); have HOe := hid (ownsRow_touch (w := World.drew wd) HOd.out hfa (fun _ _ h => h)); clear hfa)
    | (refine step_append_src _ rfl (.tmp 29) (.tmp 31) 47 rfl w.heap.size 51 i0 _ 4 40 Tryz.underlying47 hi hz0 hz1 hz2 rfl (by decide) (vd) (((baseT a ++ ([(⟨7, [95]⟩ : Lx.Tok)] : List Lx.Tok)) ++ argT b)).length ((((baseT a ++ ([(⟨7, [95]⟩ : Lx.Tok)] : List Lx.Tok)) ++ argT b)).flatMap tokC) (by simp [Act.eval]) (World.ownsRow.alloc HOe.out _) (.slice (some ⟨we.heap.size, 0, none⟩) 1 1) (([(⟨7, [94]⟩ : Lx.Tok)] : List Lx.Tok)).length ((([(⟨7, [94]⟩ : Lx.Tok)] : List Lx.Tok)).flatMap tokC) (by simp [Act.eval]) (Src.of_own (own_tok1 (B := w.heap.size) (i := we.heap.size) _ (⟨7, [94]⟩ : Lx.Tok) (by simp) (by first | exact hsze))) (tok_one _) (by have := HLEN.out; unfold maxLen; (try simp at this); (try simp); omega) (by have := HLEN.out; (try simp at this); (try simp); omega) (by first | assumption | (simp only [World.size_alloc]; omega)) ?_; intro vf wf ho hg _; rw [← List.length_append, ← List.flatMap_append] at ho; have HTf := hid (PR.grown (Touch.alloc HTe.out _) (World.ownsRow.alloc HOe.out _) hg); have hszf : w.heap.size ≤ wf.heap.size := Touch.size (PR.all HTf.out HF0.out); have HOf := hid ho; clear ho hg)
    | (go_simp; go_at_call 139; refine (ARGd.out _ _ (HRd.out.fresh (PR.all HTf.out HF0.out))).mono ?_; rintro _ wh ⟨vh, rfl, hob, hfb⟩; have HTh := hid (PR.then HTf.out hfb); have hszh : w.heap.size ≤ wh.heap.size := Touch.size (PR.all HTh.out HF0.out); have HOh := hid (ownsRow_base (B' := w.heap.size) hob hszf); have HOQf := hid (ownsRow_touch HOf.out hfb (fun _ _ h => h)); clear hob hfb)
    | (refine step_append_src _ rfl (.tmp 32) (.tmp 38) 47 rfl w.heap.size 51 i0 _ 4 40 Tryz.underlying47 hi hz0 hz1 hz2 rfl (by decide) (vf) ((((baseT a ++ ([(⟨7, [95]⟩ : Lx.Tok)] : List Lx.Tok)) ++ argT b) ++ ([(⟨7, [94]⟩ : Lx.Tok)] : List Lx.Tok))).length (((((baseT a ++ ([(⟨7, [95]⟩ : Lx.Tok)] : List Lx.Tok)) ++ argT b) ++ ([(⟨7, [94]⟩ : Lx.Tok)] : List Lx.Tok))).flatMap tokC) (by simp [Act.eval]) HOQf.out (vh) (argT d).length ((argT d).flatMap tokC) (by simp [Act.eval]) (Src.of_own HOh.out) (tok_one _) (by have := HLEN.out; unfold maxLen; (try simp at this); (try simp); omega) (by have := HLEN.out; (try simp at this); (try simp); omega) (by first | assumption | (simp only [World.size_alloc]; omega)) ?_; intro vi wi ho hg _; rw [← List.length_append, ← List.flatMap_append] at ho; have HTi := hid (PR.grown HTh.out HOQf.out hg); have hszi : w.heap.size ≤ wi.heap.size := Touch.size (PR.all HTi.out HF0.out); have HOi := hid ho; clear ho hg))
 go_wp2_with fail
 go_ret
 exact ⟨vi, rfl, ownCast HOi.out (by first | rfl | (simp only [List.append_assoc] <;> rfl) | (simp <;> rfl)), PR.all HTi.out HF0.out⟩
end Go.Proofs.YtdacpbdamliafaaGreat
