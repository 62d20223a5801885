/- Part 33 of 53 of a proof; its texts, joined: PrT. No condition. -/
import Derived.Test.YtgfhlfbcoimojaaGreatUb32

/- The printer's matrix; the methods of all kinds together. -/
namespace Go.Proofs.YtgfhlfbcoimojaaGreat
open Go.RowKit
open Tr (Nd argT baseT rowT itemT cellsT View IsRow)
def sepT (c : Int) (i : Nat) : List Lx.Tok := if i = 0 then [] else if (i : Int) % c = 0 then [⟨8, [92, 92]⟩] else [Tr.mk7 38]
theorem cellsT_eq (c : Int) (i : Nat) (n : Nd) (ns : List Nd) : cellsT c i (n :: ns) = sepT c i ++ (rowT n.kids ++ cellsT c (i + 1) ns) := by rw [cellsT]; rfl
theorem cellsT_nil (c : Int) (i : Nat) : cellsT c i [] = [] := by rw [cellsT]
theorem cellsT_take (c : Int) (l : List Nd) : ∀ (i j : Nat) (h : j < l.length), cellsT c i (l.take (j + 1)) = cellsT c i (l.take j) ++ (sepT c (i + j) ++ rowT l[j].kids) := by
 induction l with
 | nil => intro i j h; simp at h
 | cons x l ih =>
  intro i j h
  cases j with
  | zero => simp [cellsT_eq, cellsT_nil]
  | succ j =>
   simp only [List.take_succ_cons, cellsT_eq, List.getElem_cons_succ]
   rw [ih (i + 1) j (by simpa using h), show i + 1 + j = i + (j + 1) by omega]
   simp only [List.append_assoc]
theorem cellsT_split (c : Int) (l : List Nd) : ∀ (i j : Nat) (h : j < l.length), ∃ r, cellsT c i l = cellsT c i (l.take j) ++ (sepT c (i + j) ++ (rowT l[j].kids ++ r)) := by
 induction l with
 | nil => intro i j h; simp at h
 | cons x l ih =>
  intro i j h
  cases j with
  | zero => exact ⟨cellsT c (i + 1) l, by simp [cellsT_eq, cellsT_nil]⟩
  | succ j =>
   obtain ⟨r, hr⟩ := ih (i + 1) j (by simpa using h)
   refine ⟨r, ?_⟩
   simp only [List.take_succ_cons, cellsT_eq, List.getElem_cons_succ]
   rw [hr, show i + 1 + j = i + (j + 1) by omega]
   simp only [List.append_assoc]
set_option maxRecDepth 100000 in
set_option maxHeartbeats 4000000 in
theorem matrix_em (W0 : World) (p B : Nat) (kd tx : Value) (c : Int) (ks : List Nd) (hc : 1 ≤ c) (hc' : c ≤ 1000000) (hk : ∀ x ∈ ks, RowE W0 p B x) (sl : Value) (hsl : RepL W0 ks sl) :
  Emits 104 #[pp p, .agg #[kd, tx, .int .i64 c, sl]] W0 p B ([Tr.name Tr.sMatrix] ++ ([Tr.mk7 123] ++ (cellsT c 0 ks ++ [Tr.mk7 125]))) := by
 intro w toks txt hp hf
 obtain ⟨A, cap, rfl⟩ := hsl.slice
 have hlen := hsl.len
 unfold maxLen at hlen
 have HK := hid hk
 have HSL := hid hsl
 have PST0 := hid hp
 have FIT0 := hid hf
 have hc0 : (c == 0) = false := by rw [beq_eq_false_iff_ne]; omega
 have hc1 : 0 < c := by omega
 have hc2 : 0 ≤ c := by omega
 clear hk hsl hp hf
 go_enter Tryz.func104, Tryz.ntmps104
 go_wp2_with fail
 refine Calls.mono ((add_em W0 p B 4 [109, 97, 116, 114, 105, 120]) _ _ _ (PSt.fresh PST0.out (frA (Touch.refl _ _))) FIT0.out.left) ?_
 rintro _ w1 ⟨rfl, htw1⟩
 have PSTw1 := hid (PSt.add (PSt.fresh PST0.out (frA (Touch.refl _ _))) htw1)
 have ACCw1 := hid (PrAdd.freshL (show Fresh w _ from (frA (Touch.refl _ _))) htw1)
 have FITw1 := hid (Fits.right FIT0.out)
 have B0_w1 : Blk w1 (w.heap.size) 26 #[kd, tx, .int .i64 c, .slice A ks.length cap] := PrAdd.blk htw1 (by first | exact blkN | assumption | exact blkA (by assumption)) (by have := PSt.lt PST0.out; have := PSt.hB PST0.out; omega) (by decide) (by decide)
 obtain ⟨q0_0_w1, q0_1_w1, q0_2_w1, q0_3_w1, _⟩ := Blk.four B0_w1
 clear htw1
 go_wp2_with fail
 refine Calls.mono ((mark_em W0 p B [123]) _ _ _ (PSt.fresh PSTw1.out (frA (Touch.refl _ _))) FITw1.out.left) ?_
 rintro _ w2 ⟨rfl, htw2⟩
 have PSTw2 := hid (PSt.add2 (PSt.fresh PSTw1.out (frA (Touch.refl _ _))) htw2)
 have ACCw2 := hid (PrAdd.app ACCw1.out (PrAdd.freshL (show Fresh w1 _ from (frA (Touch.refl _ _))) htw2))
 have FITw2 := hid (Fits.right2 FITw1.out)
 have B0_w2 : Blk w2 (w.heap.size) 26 #[kd, tx, .int .i64 c, .slice A ks.length cap] := PrAdd.blk htw2 (by first | exact blkN | assumption | exact blkA (by assumption)) (by have := PSt.lt PST0.out; have := PSt.hB PST0.out; omega) (by decide) (by decide)
 clear q0_0_w1 q0_1_w1 q0_2_w1 q0_3_w1 B0_w1
 obtain ⟨q0_0_w2, q0_1_w2, q0_2_w2, q0_3_w2, _⟩ := Blk.four B0_w2
 clear htw2
 go_wp2_with fail
 go_loopw [13] (fun i wr => ∃ j : Nat, i = .int .i64 j ∧ j ≤ ks.length ∧ Hid (PSt W0 p B wr (adds ([Tr.name Tr.sMatrix] ++ [Tr.mk7 123] ++ cellsT c 0 (ks.take j)) toks txt).1 (adds ([Tr.name Tr.sMatrix] ++ [Tr.mk7 123] ++ cellsT c 0 (ks.take j)) toks txt).2) ∧ Hid (PrAdd w wr p B toks txt ([Tr.name Tr.sMatrix] ++ [Tr.mk7 123] ++ cellsT c 0 (ks.take j))) ∧ Hid (Blk wr w.heap.size 26 #[kd, tx, .int .i64 c, .slice A ks.length cap])) (fun i _ => ks.length - (intOf i).toNat)
 case atStart => exact ⟨0, rfl, Nat.zero_le _, by rw [List.take_zero, cellsT_nil, List.append_nil]; exact PSTw2.out, by rw [List.take_zero, cellsT_nil, List.append_nil]; exact ACCw2.out, B0_w2⟩
 case round =>
  obtain ⟨j, rfl, hj, PSTR, ACCR, HB⟩ := hrel
  by_cases c1 : j < ks.length
  ·have d1 : decide ((j : Int) < (ks.length : Int)) = true := by simp only [decide_eq_true_eq]; omega
   have hlt_w_wr : w.heap.size < wr.heap.size := Blk.lt HB.out
   have d1n : decide (j < ks.length) = true := by simp only [decide_eq_true_eq]; omega
   have d1' : (j : Int) < (ks.length : Int) := by omega
   obtain ⟨g, o, sx, rfl, hg, m0, m1, m2, m3, hrk⟩ := HSL.out.get j c1
   obtain ⟨Ax, capx, rfl⟩ := hrk.slice
   have ROWx := hid (HK.out ks[j] (List.getElem_mem c1) _ hrk)
   obtain ⟨r, hr⟩ := cellsT_split c ks 0 j c1
   have HTK := hid (cellsT_take c ks 0 j c1)
   rw [Nat.zero_add] at hr HTK
   have FITX := hid (show Fits (([Tr.name Tr.sMatrix] ++ [Tr.mk7 123] ++ cellsT c 0 (ks.take j)) ++ ((sepT c j ++ rowT ks[j].kids) ++ (r ++ [Tr.mk7 125]))) toks txt by
    have := FIT0.out
    rw [hr] at this
    simpa only [List.append_assoc] using this)
   have XX0 := hid m0
   have XX1 := hid m1
   have XX2 := hid m2
   have XX3 := hid m3
   have xx0_wr := Low.cell (PSt.low PSTR.out) m0
   have xx1_wr := Low.cell (PSt.low PSTR.out) m1
   have xx2_wr := Low.cell (PSt.low PSTR.out) m2
   have xx3_wr := Low.cell (PSt.low PSTR.out) m3
   have hlt_g_wr : g < wr.heap.size := block_lt_of_cell xx0_wr
   clear m0 m1 m2 m3 hrk hr hg HK HSL
   generalize ks[j] = x at *
   obtain ⟨q0_0_wr, q0_1_wr, q0_2_wr, q0_3_wr, _⟩ := Blk.four HB.out
   have B0_wr : Blk wr w.heap.size 26 #[kd, tx, .int .i64 c, .slice (some ⟨g, o, none⟩) ks.length cap] := HB.out
   by_cases j0 : j = 0
   ·subst j0
    have HSEP := hid (show sepT c 0 = [] from by rfl)
    have FITR := hid (show Fits (rowT x.kids) (adds ([Tr.name Tr.sMatrix] ++ [Tr.mk7 123] ++ cellsT c 0 (ks.take 0)) toks txt).1 (adds ([Tr.name Tr.sMatrix] ++ [Tr.mk7 123] ++ cellsT c 0 (ks.take 0)) toks txt).2 by
     have := FITX.out.mid
     rw [HSEP.out] at this
     exact this)
    rw [Nat.zero_mul, Nat.add_zero] at xx0_wr xx1_wr xx2_wr xx3_wr
    have XY0 : Hid (W0.cell? ⟨g, o, none⟩ = some (.int .i64 x.kind)) := by have := XX0.out; rw [Nat.zero_mul, Nat.add_zero] at this; exact this
    have XY1 : Hid (W0.cell? ⟨g, o + 1, none⟩ = some (.string (⟨x.text.toArray⟩ : ByteArray))) := by have := XX1.out; rw [Nat.zero_mul, Nat.add_zero] at this; exact this
    have XY2 : Hid (W0.cell? ⟨g, o + 2, none⟩ = some (.int .i64 x.cols)) := by have := XX2.out; rw [Nat.zero_mul, Nat.add_zero] at this; exact this
    have XY3 : Hid (W0.cell? ⟨g, o + 3, none⟩ = some (.slice Ax x.kids.length capx)) := by have := XX3.out; rw [Nat.zero_mul, Nat.add_zero] at this; exact this
    go_wp2_with fail
    refine Calls.mono ((ROWx.out) _ _ _ (PSt.fresh PSTR.out (frA (Touch.refl _ _))) FITR.out) ?_
    rintro _ w3 ⟨rfl, htw3⟩
    have PSTw3 := hid (PSt.add2 (PSt.fresh PSTR.out (frA (Touch.refl _ _))) htw3)
    have ACCw3 := hid (PrAdd.app ACCR.out (PrAdd.freshL (show Fresh wr _ from (frA (Touch.refl _ _))) htw3))
    have B0_w3 : Blk w3 (w.heap.size) 26 #[kd, tx, .int .i64 c, .slice (some ⟨g, o, none⟩) ks.length cap] := PrAdd.blk htw3 (by first | exact blkN | assumption | exact blkA (by assumption)) (by have := PSt.lt PST0.out; have := PSt.hB PST0.out; omega) (by decide) (by decide)
    have B1_w3 : Blk w3 (wr.heap.size) 26 #[.int .i64 x.kind, .string (⟨x.text.toArray⟩ : ByteArray), .int .i64 x.cols, .slice Ax x.kids.length capx] := PrAdd.blk htw3 (by first | exact blkN | assumption | exact blkA (by assumption)) (by have := PSt.lt PSTR.out; have := PSt.hB PSTR.out; omega) (by decide) (by decide)
    clear q0_0_wr q0_1_wr q0_2_wr q0_3_wr B0_wr
    obtain ⟨q0_0_w3, q0_1_w3, q0_2_w3, q0_3_w3, _⟩ := Blk.four B0_w3
    obtain ⟨q1_0_w3, q1_1_w3, q1_2_w3, q1_3_w3, _⟩ := Blk.four B1_w3
    clear xx0_wr xx1_wr xx2_wr xx3_wr
    obtain ⟨xy0_w3, xy1_w3, xy2_w3, xy3_w3⟩ := low4 (PSt.low PSTw3.out) XY0.out XY1.out XY2.out XY3.out
    have hlt_g_w3 : g < w3.heap.size := block_lt_of_cell xy0_w3
    clear htw3
    go_wp2_with fail
    go_roundw
    case rel =>
     have HE := hid (show [Tr.name Tr.sMatrix] ++ [Tr.mk7 123] ++ cellsT c 0 (ks.take 0) ++ rowT x.kids = [Tr.name Tr.sMatrix] ++ [Tr.mk7 123] ++ cellsT c 0 (ks.take (0 + 1)) from by have h := HTK.out; rw [HSEP.out] at h; rw [h]; simp only [List.append_assoc, List.nil_append])
     have hpst := PSTw3.out
     have hacc := ACCw3.out
     rw [HE.out] at hpst hacc
     exact ⟨0 + 1, by go_num, by omega, hpst, hacc, B0_w3⟩
    case measure => simp [intOf]; omega
   ·have e0 : ((j : Int) == 0) = false := by rw [beq_eq_false_iff_ne]; omega
    have e0n : (j == 0) = false := by rw [beq_eq_false_iff_ne]; omega
    by_cases jc : (j : Int) % c = 0
    ·have e1 : ((j : Int) % c == 0) = true := by rw [beq_iff_eq]; exact jc
     have HSEP := hid (show sepT c j = [⟨8, [92, 92]⟩] from by unfold sepT; rw [if_neg j0, if_pos jc])
     have FITR := hid (show Fits ([⟨8, [92, 92]⟩] ++ rowT x.kids) (adds ([Tr.name Tr.sMatrix] ++ [Tr.mk7 123] ++ cellsT c 0 (ks.take j)) toks txt).1 (adds ([Tr.name Tr.sMatrix] ++ [Tr.mk7 123] ++ cellsT c 0 (ks.take j)) toks txt).2 by
      have := FITX.out.mid
      rw [HSEP.out] at this
      exact this)
     clear j0 jc
     go_wp2_with fail
     refine Calls.mono ((add_em W0 p B 8 [92, 92]) _ _ _ (PSt.fresh PSTR.out (frA (Touch.refl _ _))) FITR.out.left) ?_
     rintro _ w4 ⟨rfl, htw4⟩
     have PSTw4 := hid (PSt.add2 (PSt.fresh PSTR.out (frA (Touch.refl _ _))) htw4)
     have ACCw4 := hid (PrAdd.app ACCR.out (PrAdd.freshL (show Fresh wr _ from (frA (Touch.refl _ _))) htw4))
     have FITw4 := hid (Fits.right2 FITR.out)
     have B0_w4 : Blk w4 (w.heap.size) 26 #[kd, tx, .int .i64 c, .slice (some ⟨g, o, none⟩) ks.length cap] := PrAdd.blk htw4 (by first | exact blkN | assumption | exact blkA (by assumption)) (by have := PSt.lt PST0.out; have := PSt.hB PST0.out; omega) (by decide) (by decide)
     have B1_w4 : Blk w4 (wr.heap.size) 26 #[.int .i64 x.kind, .string (⟨x.text.toArray⟩ : ByteArray), .int .i64 x.cols, .slice Ax x.kids.length capx] := PrAdd.blk htw4 (by first | exact blkN | assumption | exact blkA (by assumption)) (by have := PSt.lt PSTR.out; have := PSt.hB PSTR.out; omega) (by decide) (by decide)
     clear q0_0_wr q0_1_wr q0_2_wr q0_3_wr B0_wr
     obtain ⟨q0_0_w4, q0_1_w4, q0_2_w4, q0_3_w4, _⟩ := Blk.four B0_w4
     obtain ⟨q1_0_w4, q1_1_w4, q1_2_w4, q1_3_w4, _⟩ := Blk.four B1_w4
     clear xx0_wr xx1_wr xx2_wr xx3_wr
     obtain ⟨xx0_w4, xx1_w4, xx2_w4, xx3_w4⟩ := low4 (PSt.low PSTw4.out) XX0.out XX1.out XX2.out XX3.out
     have hlt_g_w4 : g < w4.heap.size := block_lt_of_cell xx0_w4
     clear htw4
     go_wp2_with fail
     refine Calls.mono ((ROWx.out) _ _ _ (PSt.fresh PSTw4.out (frA (Touch.refl _ _))) FITw4.out) ?_
     rintro _ w5 ⟨rfl, htw5⟩
     have PSTw5 := hid (PSt.add2 (PSt.fresh PSTw4.out (frA (Touch.refl _ _))) htw5)
     have ACCw5 := hid (PrAdd.app ACCw4.out (PrAdd.freshL (show Fresh w4 _ from (frA (Touch.refl _ _))) htw5))
     have B0_w5 : Blk w5 (w.heap.size) 26 #[kd, tx, .int .i64 c, .slice (some ⟨g, o, none⟩) ks.length cap] := PrAdd.blk htw5 (by first | exact blkN | assumption | exact blkA (by assumption)) (by have := PSt.lt PST0.out; have := PSt.hB PST0.out; omega) (by decide) (by decide)
     have B1_w5 : Blk w5 (wr.heap.size) 26 #[.int .i64 x.kind, .string (⟨x.text.toArray⟩ : ByteArray), .int .i64 x.cols, .slice Ax x.kids.length capx] := PrAdd.blk htw5 (by first | exact blkN | assumption | exact blkA (by assumption)) (by have := PSt.lt PSTR.out; have := PSt.hB PSTR.out; omega) (by decide) (by decide)
     clear q0_0_w4 q0_1_w4 q0_2_w4 q0_3_w4 B0_w4 q1_0_w4 q1_1_w4 q1_2_w4 q1_3_w4 B1_w4
     obtain ⟨q0_0_w5, q0_1_w5, q0_2_w5, q0_3_w5, _⟩ := Blk.four B0_w5
     obtain ⟨q1_0_w5, q1_1_w5, q1_2_w5, q1_3_w5, _⟩ := Blk.four B1_w5
     clear xx0_w4 xx1_w4 xx2_w4 xx3_w4
     obtain ⟨xx0_w5, xx1_w5, xx2_w5, xx3_w5⟩ := low4 (PSt.low PSTw5.out) XX0.out XX1.out XX2.out XX3.out
     have hlt_g_w5 : g < w5.heap.size := block_lt_of_cell xx0_w5
     clear htw5
     go_wp2_with fail
     go_roundw
     case rel =>
      have HE := hid (show [Tr.name Tr.sMatrix] ++ [Tr.mk7 123] ++ cellsT c 0 (ks.take j) ++ [⟨8, [92, 92]⟩] ++ rowT x.kids = [Tr.name Tr.sMatrix] ++ [Tr.mk7 123] ++ cellsT c 0 (ks.take (j + 1)) from by have h := HTK.out; rw [HSEP.out] at h; rw [h]; simp only [List.append_assoc])
      have hpst := PSTw5.out
      have hacc := ACCw5.out
      rw [HE.out] at hpst hacc
      exact ⟨j + 1, by go_num, by omega, hpst, hacc, B0_w5⟩
     case measure => simp [intOf]; omega
    ·have e1 : ((j : Int) % c == 0) = false := by rw [beq_eq_false_iff_ne]; exact jc
     have HSEP := hid (show sepT c j = [⟨7, [38]⟩] from by unfold sepT; rw [if_neg j0, if_neg jc]; rfl)
     have FITR := hid (show Fits ([⟨7, [38]⟩] ++ rowT x.kids) (adds ([Tr.name Tr.sMatrix] ++ [Tr.mk7 123] ++ cellsT c 0 (ks.take j)) toks txt).1 (adds ([Tr.name Tr.sMatrix] ++ [Tr.mk7 123] ++ cellsT c 0 (ks.take j)) toks txt).2 by
      have := FITX.out.mid
      rw [HSEP.out] at this
      exact this)
     clear j0 jc
     go_wp2_with fail
     refine Calls.mono ((mark_em W0 p B [38]) _ _ _ (PSt.fresh PSTR.out (frA (Touch.refl _ _))) FITR.out.left) ?_
     rintro _ w6 ⟨rfl, htw6⟩
     have PSTw6 := hid (PSt.add2 (PSt.fresh PSTR.out (frA (Touch.refl _ _))) htw6)
     have ACCw6 := hid (PrAdd.app ACCR.out (PrAdd.freshL (show Fresh wr _ from (frA (Touch.refl _ _))) htw6))
     have FITw6 := hid (Fits.right2 FITR.out)
     have B0_w6 : Blk w6 (w.heap.size) 26 #[kd, tx, .int .i64 c, .slice (some ⟨g, o, none⟩) ks.length cap] := PrAdd.blk htw6 (by first | exact blkN | assumption | exact blkA (by assumption)) (by have := PSt.lt PST0.out; have := PSt.hB PST0.out; omega) (by decide) (by decide)
     have B1_w6 : Blk w6 (wr.heap.size) 26 #[.int .i64 x.kind, .string (⟨x.text.toArray⟩ : ByteArray), .int .i64 x.cols, .slice Ax x.kids.length capx] := PrAdd.blk htw6 (by first | exact blkN | assumption | exact blkA (by assumption)) (by have := PSt.lt PSTR.out; have := PSt.hB PSTR.out; omega) (by decide) (by decide)
     clear q0_0_wr q0_1_wr q0_2_wr q0_3_wr B0_wr
     obtain ⟨q0_0_w6, q0_1_w6, q0_2_w6, q0_3_w6, _⟩ := Blk.four B0_w6
     obtain ⟨q1_0_w6, q1_1_w6, q1_2_w6, q1_3_w6, _⟩ := Blk.four B1_w6
     clear xx0_wr xx1_wr xx2_wr xx3_wr
     obtain ⟨xx0_w6, xx1_w6, xx2_w6, xx3_w6⟩ := low4 (PSt.low PSTw6.out) XX0.out XX1.out XX2.out XX3.out
     have hlt_g_w6 : g < w6.heap.size := block_lt_of_cell xx0_w6
     clear htw6
     go_wp2_with fail
     refine Calls.mono ((ROWx.out) _ _ _ (PSt.fresh PSTw6.out (frA (Touch.refl _ _))) FITw6.out) ?_
     rintro _ w7 ⟨rfl, htw7⟩
     have PSTw7 := hid (PSt.add2 (PSt.fresh PSTw6.out (frA (Touch.refl _ _))) htw7)
     have ACCw7 := hid (PrAdd.app ACCw6.out (PrAdd.freshL (show Fresh w6 _ from (frA (Touch.refl _ _))) htw7))
     have B0_w7 : Blk w7 (w.heap.size) 26 #[kd, tx, .int .i64 c, .slice (some ⟨g, o, none⟩) ks.length cap] := PrAdd.blk htw7 (by first | exact blkN | assumption | exact blkA (by assumption)) (by have := PSt.lt PST0.out; have := PSt.hB PST0.out; omega) (by decide) (by decide)
     have B1_w7 : Blk w7 (wr.heap.size) 26 #[.int .i64 x.kind, .string (⟨x.text.toArray⟩ : ByteArray), .int .i64 x.cols, .slice Ax x.kids.length capx] := PrAdd.blk htw7 (by first | exact blkN | assumption | exact blkA (by assumption)) (by have := PSt.lt PSTR.out; have := PSt.hB PSTR.out; omega) (by decide) (by decide)
     clear q0_0_w6 q0_1_w6 q0_2_w6 q0_3_w6 B0_w6 q1_0_w6 q1_1_w6 q1_2_w6 q1_3_w6 B1_w6
     obtain ⟨q0_0_w7, q0_1_w7, q0_2_w7, q0_3_w7, _⟩ := Blk.four B0_w7
     obtain ⟨q1_0_w7, q1_1_w7, q1_2_w7, q1_3_w7, _⟩ := Blk.four B1_w7
     clear xx0_w6 xx1_w6 xx2_w6 xx3_w6
     obtain ⟨xx0_w7, xx1_w7, xx2_w7, xx3_w7⟩ := low4 (PSt.low PSTw7.out) XX0.out XX1.out XX2.out XX3.out
     have hlt_g_w7 : g < w7.heap.size := block_lt_of_cell xx0_w7
     clear htw7
     go_wp2_with fail
     go_roundw
     case rel =>
      have HE := hid (show [Tr.name Tr.sMatrix] ++ [Tr.mk7 123] ++ cellsT c 0 (ks.take j) ++ [⟨7, [38]⟩] ++ rowT x.kids = [Tr.name Tr.sMatrix] ++ [Tr.mk7 123] ++ cellsT c 0 (ks.take (j + 1)) from by have h := HTK.out; rw [HSEP.out] at h; rw [h]; simp only [List.append_assoc])
      have hpst := PSTw7.out
      have hacc := ACCw7.out
      rw [HE.out] at hpst hacc
      exact ⟨j + 1, by go_num, by omega, hpst, hacc, B0_w7⟩
     case measure => simp [intOf]; omega
  ·have d1 : decide ((j : Int) < (ks.length : Int)) = false := by simp only [decide_eq_false_iff_not]; omega
   have hlt_w_wr : w.heap.size < wr.heap.size := Blk.lt HB.out
   have d1n : decide (j < ks.length) = false := by simp only [decide_eq_false_iff_not]; omega
   obtain rfl : j = ks.length := by omega
   obtain ⟨q0_0_wr, q0_1_wr, q0_2_wr, q0_3_wr, _⟩ := Blk.four HB.out
   have B0_wr : Blk wr w.heap.size 26 #[kd, tx, .int .i64 c, .slice A ks.length cap] := HB.out
   have ACCE := hid (show PrAdd w wr p B toks txt ([Tr.name Tr.sMatrix] ++ [Tr.mk7 123] ++ cellsT c 0 ks) by
    have := ACCR.out
    rwa [List.take_length] at this)
   have PSTE := hid (show PSt W0 p B wr (adds ([Tr.name Tr.sMatrix] ++ [Tr.mk7 123] ++ cellsT c 0 ks) toks txt).1 (adds ([Tr.name Tr.sMatrix] ++ [Tr.mk7 123] ++ cellsT c 0 ks) toks txt).2 by
    have := PSTR.out
    rwa [List.take_length] at this)
   have FITE := hid (Fits.right (l := [Tr.name Tr.sMatrix] ++ [Tr.mk7 123] ++ cellsT c 0 ks) (m := [Tr.mk7 125]) (by have := FIT0.out; simpa only [List.append_assoc] using this))
   go_wp2_with fail
   refine Calls.mono ((mark_em W0 p B [125]) _ _ _ (PSt.fresh PSTE.out (frA (Touch.refl _ _))) FITE.out) ?_
   rintro _ w8 ⟨rfl, htw8⟩
   have PSTw8 := hid (PSt.add2 (PSt.fresh PSTE.out (frA (Touch.refl _ _))) htw8)
   have ACCw8 := hid (PrAdd.app ACCE.out (PrAdd.freshL (show Fresh wr _ from (frA (Touch.refl _ _))) htw8))
   have B0_w8 : Blk w8 (w.heap.size) 26 #[kd, tx, .int .i64 c, .slice A ks.length cap] := PrAdd.blk htw8 (by first | exact blkN | assumption | exact blkA (by assumption)) (by have := PSt.lt PST0.out; have := PSt.hB PST0.out; omega) (by decide) (by decide)
   clear q0_0_wr q0_1_wr q0_2_wr q0_3_wr B0_wr
   obtain ⟨q0_0_w8, q0_1_w8, q0_2_w8, q0_3_w8, _⟩ := Blk.four B0_w8
   clear htw8
   go_wp2_with fail
   first | go_end0 | refine bodyPost_ret (v := .tuple #[]) (results_none rfl _ _ _) rfl ?_
   exact ⟨rfl, PrAdd.cast ACCw8.out (by first | rfl | (simp only [List.append_assoc] <;> rfl))⟩
end Go.Proofs.YtgfhlfbcoimojaaGreat
