/- Part 5 of 12 of a proof; its texts, joined: PrP, PrQ, PrS, PrT, NdF. No condition. -/
import Derived.Test.YtdacpbdamliafaaGreatUa4
import Derived.Test.YtdacpbdamliafaaGreatUa2
import Derived.Test.YtdacpbdamliafaaGreatUa3

/- The printer's scripts and fence. -/
namespace Go.Proofs.YtdacpbdamliafaaGreat
open Go.RowKit
open Tr (Nd argT baseT rowT itemT)
theorem scripted_is {b : Bool} (n : Nd) (sl : Value) (w : World) (h : Tr.scripted n = b) : Calls Tryz.prog 170 #[nv n sl] w fun e w' => e = .returned (.bool b) ∧ Fresh w w' := by
 have := scripted_any n sl w
 rw [h] at this
 exact this
set_option maxRecDepth 100000 in
set_option maxHeartbeats 1000000 in
theorem scripts_7_row (W0 : World) (p B : Nat) (tx cl : Value) (a b : Nd) (x : Nd) (hx : a.kids = [x]) (hs : Tr.scripted x = false) (ha : RowE W0 p B a) (hb : ArgE W0 p B b) (sl : Value) (hsl : RepL W0 [a, b] sl) : Emits 130 #[pp p, .agg #[.int .i64 7, tx, cl, sl]] W0 p B (baseT a ++ ([Tr.mk7 95] ++ argT b)) := by
 intro w toks txt hp hf
 rw [baseT_row a x hx hs] at hf ⊢
 obtain ⟨g, o, cap, sa, sb, rfl, a0, a1, a2, a3, hra, b0, b1, b2, b3, hrb⟩ := hsl.two
 have ROWa := hid (ha sa hra)
 have ARGb := hid (hb sb hrb)
 rw [hx] at hra
 obtain ⟨gx, ox, cax, sx, rfl, x0, x1, x2, x3, hrx⟩ := hra.one
 have e1 : a.kids.length = 1 := by rw [hx]; rfl
 have HS := hid hs
 clear e1 hs hrx
 have PST0 := hid hp
 have FIT0 := hid hf
 clear hp hf ha hb hsl hra hrb hx
 have XA0 := hid a0
 have XA1 := hid a1
 have XA2 := hid a2
 have XA3 := hid a3
 have XB0 := hid b0
 have XB1 := hid b1
 have XB2 := hid b2
 have XB3 := hid b3
 have XX0 := hid x0
 have XX1 := hid x1
 have XX2 := hid x2
 have XX3 := hid x3
 clear a0 a1 a2 a3 b0 b1 b2 b3 x0 x1 x2 x3
 obtain ⟨xa0_w, xa1_w, xa2_w, xa3_w⟩ := low4 (PSt.low PST0.out) XA0.out XA1.out XA2.out XA3.out
 obtain ⟨xb0_w, xb1_w, xb2_w, xb3_w⟩ := low4 (PSt.low PST0.out) XB0.out XB1.out XB2.out XB3.out
 obtain ⟨xx0_w, xx1_w, xx2_w, xx3_w⟩ := low4 (PSt.low PST0.out) XX0.out XX1.out XX2.out XX3.out
 have hlt_g_w : g < w.heap.size := block_lt_of_cell xa0_w
 have hlt_gx_w : gx < w.heap.size := block_lt_of_cell xx0_w
 go_enter Tryz.func130, Tryz.ntmps130
 go_wp2_with fail
 refine Calls.mono (scripted_is x _ _ HS.out) ?_
 rintro _ w1 ⟨rfl, hfw1⟩
 have HF1 := hid (show Fresh w w1 from preA hfw1)
 have B0_w1 : Blk w1 (w.heap.size) 24 #[.int .i64 (7 : Int), tx, cl, .slice (some ⟨g, o, none⟩) 2 cap] := Touch.blk hfw1 (by first | exact blkN | assumption | exact blkA (by assumption)) (fun h => h)
 have B1_w1 : Blk w1 (w.heap.size + 1) 24 #[.int .i64 a.kind, .string (⟨a.text.toArray⟩ : ByteArray), .int .i64 a.cols, .slice (some ⟨gx, ox, none⟩) 1 cax] := Touch.blk hfw1 (by first | exact blkN | assumption | exact blkA (by assumption)) (fun h => h)
 obtain ⟨q0_0_w1, q0_1_w1, q0_2_w1, q0_3_w1, _⟩ := Blk.four B0_w1
 obtain ⟨q1_0_w1, q1_1_w1, q1_2_w1, q1_3_w1, _⟩ := Blk.four B1_w1
 obtain ⟨xa0_w1, xa1_w1, xa2_w1, xa3_w1⟩ := mv4 HF1.out xa0_w xa1_w xa2_w xa3_w
 obtain ⟨xb0_w1, xb1_w1, xb2_w1, xb3_w1⟩ := mv4 HF1.out xb0_w xb1_w xb2_w xb3_w
 obtain ⟨xx0_w1, xx1_w1, xx2_w1, xx3_w1⟩ := mv4 HF1.out xx0_w xx1_w xx2_w xx3_w
 clear xa0_w xa1_w xa2_w xa3_w xb0_w xb1_w xb2_w xb3_w xx0_w xx1_w xx2_w xx3_w
 have hlt_g_w1 : g < w1.heap.size := block_lt_of_cell xa0_w1
 have hlt_gx_w1 : gx < w1.heap.size := block_lt_of_cell xx0_w1
 have PSTw1 := hid (PSt.fresh PST0.out HF1.out)
 clear hfw1
 go_wp2_with fail
 refine Calls.mono ((ROWa.out) _ _ _ (PSt.fresh PSTw1.out (frA (Touch.refl _ _))) FIT0.out.left) ?_
 rintro _ w2 ⟨rfl, htw2⟩
 have PSTw2 := hid (PSt.add (PSt.fresh PSTw1.out (frA (Touch.refl _ _))) htw2)
 have ACCw2 := hid (PrAdd.freshL (show Fresh w _ from (frA HF1.out)) htw2)
 have FITw2 := hid (Fits.right FIT0.out)
 have B0_w2 : Blk w2 (w.heap.size) 24 #[.int .i64 (7 : Int), tx, cl, .slice (some ⟨g, o, none⟩) 2 cap] := PrAdd.blk htw2 (by first | exact blkN | assumption | exact blkA (by assumption)) (by have := PSt.lt PST0.out; have := PSt.hB PST0.out; omega) (by decide) (by decide)
 have B1_w2 : Blk w2 (w.heap.size + 1) 24 #[.int .i64 a.kind, .string (⟨a.text.toArray⟩ : ByteArray), .int .i64 a.cols, .slice (some ⟨gx, ox, none⟩) 1 cax] := PrAdd.blk htw2 (by first | exact blkN | assumption | exact blkA (by assumption)) (by have := PSt.lt PST0.out; have := PSt.hB PST0.out; omega) (by decide) (by decide)
 clear q0_0_w1 q0_1_w1 q0_2_w1 q0_3_w1 B0_w1 q1_0_w1 q1_1_w1 q1_2_w1 q1_3_w1 B1_w1
 obtain ⟨q0_0_w2, q0_1_w2, q0_2_w2, q0_3_w2, _⟩ := Blk.four B0_w2
 obtain ⟨q1_0_w2, q1_1_w2, q1_2_w2, q1_3_w2, _⟩ := Blk.four B1_w2
 clear xa0_w1 xa1_w1 xa2_w1 xa3_w1 xb0_w1 xb1_w1 xb2_w1 xb3_w1 xx0_w1 xx1_w1 xx2_w1 xx3_w1
 obtain ⟨xa0_w2, xa1_w2, xa2_w2, xa3_w2⟩ := low4 (PSt.low PSTw2.out) XA0.out XA1.out XA2.out XA3.out
 obtain ⟨xb0_w2, xb1_w2, xb2_w2, xb3_w2⟩ := low4 (PSt.low PSTw2.out) XB0.out XB1.out XB2.out XB3.out
 obtain ⟨xx0_w2, xx1_w2, xx2_w2, xx3_w2⟩ := low4 (PSt.low PSTw2.out) XX0.out XX1.out XX2.out XX3.out
 have hlt_g_w2 : g < w2.heap.size := block_lt_of_cell xa0_w2
 have hlt_gx_w2 : gx < w2.heap.size := block_lt_of_cell xx0_w2
 clear htw2
 go_wp2_with fail
 refine Calls.mono ((mark_em W0 p B [95]) _ _ _ (PSt.fresh PSTw2.out (frA (Touch.refl _ _))) FITw2.out.left) ?_
 rintro _ w3 ⟨rfl, htw3⟩
 have PSTw3 := hid (PSt.add2 (PSt.fresh PSTw2.out (frA (Touch.refl _ _))) htw3)
 have ACCw3 := hid (PrAdd.app ACCw2.out (PrAdd.freshL (show Fresh w2 _ from (frA (Touch.refl _ _))) htw3))
 have FITw3 := hid (Fits.right2 FITw2.out)
 have B0_w3 : Blk w3 (w.heap.size) 24 #[.int .i64 (7 : Int), tx, cl, .slice (some ⟨g, o, none⟩) 2 cap] := PrAdd.blk htw3 (by first | exact blkN | assumption | exact blkA (by assumption)) (by have := PSt.lt PST0.out; have := PSt.hB PST0.out; omega) (by decide) (by decide)
 have B1_w3 : Blk w3 (w.heap.size + 1) 24 #[.int .i64 a.kind, .string (⟨a.text.toArray⟩ : ByteArray), .int .i64 a.cols, .slice (some ⟨gx, ox, none⟩) 1 cax] := PrAdd.blk htw3 (by first | exact blkN | assumption | exact blkA (by assumption)) (by have := PSt.lt PST0.out; have := PSt.hB PST0.out; omega) (by decide) (by decide)
 clear q0_0_w2 q0_1_w2 q0_2_w2 q0_3_w2 B0_w2 q1_0_w2 q1_1_w2 q1_2_w2 q1_3_w2 B1_w2
 obtain ⟨q0_0_w3, q0_1_w3, q0_2_w3, q0_3_w3, _⟩ := Blk.four B0_w3
 obtain ⟨q1_0_w3, q1_1_w3, q1_2_w3, q1_3_w3, _⟩ := Blk.four B1_w3
 clear xa0_w2 xa1_w2 xa2_w2 xa3_w2 xb0_w2 xb1_w2 xb2_w2 xb3_w2 xx0_w2 xx1_w2 xx2_w2 xx3_w2
 obtain ⟨xa0_w3, xa1_w3, xa2_w3, xa3_w3⟩ := low4 (PSt.low PSTw3.out) XA0.out XA1.out XA2.out XA3.out
 obtain ⟨xb0_w3, xb1_w3, xb2_w3, xb3_w3⟩ := low4 (PSt.low PSTw3.out) XB0.out XB1.out XB2.out XB3.out
 obtain ⟨xx0_w3, xx1_w3, xx2_w3, xx3_w3⟩ := low4 (PSt.low PSTw3.out) XX0.out XX1.out XX2.out XX3.out
 have hlt_g_w3 : g < w3.heap.size := block_lt_of_cell xa0_w3
 have hlt_gx_w3 : gx < w3.heap.size := block_lt_of_cell xx0_w3
 clear htw3
 go_wp2_with fail
 refine Calls.mono ((ARGb.out) _ _ _ (PSt.fresh PSTw3.out (frA (Touch.refl _ _))) FITw3.out) ?_
 rintro _ w4 ⟨rfl, htw4⟩
 have PSTw4 := hid (PSt.add2 (PSt.fresh PSTw3.out (frA (Touch.refl _ _))) htw4)
 have ACCw4 := hid (PrAdd.app ACCw3.out (PrAdd.freshL (show Fresh w3 _ from (frA (Touch.refl _ _))) htw4))
 have B0_w4 : Blk w4 (w.heap.size) 24 #[.int .i64 (7 : Int), tx, cl, .slice (some ⟨g, o, none⟩) 2 cap] := PrAdd.blk htw4 (by first | exact blkN | assumption | exact blkA (by assumption)) (by have := PSt.lt PST0.out; have := PSt.hB PST0.out; omega) (by decide) (by decide)
 have B1_w4 : Blk w4 (w.heap.size + 1) 24 #[.int .i64 a.kind, .string (⟨a.text.toArray⟩ : ByteArray), .int .i64 a.cols, .slice (some ⟨gx, ox, none⟩) 1 cax] := PrAdd.blk htw4 (by first | exact blkN | assumption | exact blkA (by assumption)) (by have := PSt.lt PST0.out; have := PSt.hB PST0.out; omega) (by decide) (by decide)
 clear q0_0_w3 q0_1_w3 q0_2_w3 q0_3_w3 B0_w3 q1_0_w3 q1_1_w3 q1_2_w3 q1_3_w3 B1_w3
 obtain ⟨q0_0_w4, q0_1_w4, q0_2_w4, q0_3_w4, _⟩ := Blk.four B0_w4
 obtain ⟨q1_0_w4, q1_1_w4, q1_2_w4, q1_3_w4, _⟩ := Blk.four B1_w4
 clear xa0_w3 xa1_w3 xa2_w3 xa3_w3 xb0_w3 xb1_w3 xb2_w3 xb3_w3 xx0_w3 xx1_w3 xx2_w3 xx3_w3
 obtain ⟨xa0_w4, xa1_w4, xa2_w4, xa3_w4⟩ := low4 (PSt.low PSTw4.out) XA0.out XA1.out XA2.out XA3.out
 obtain ⟨xb0_w4, xb1_w4, xb2_w4, xb3_w4⟩ := low4 (PSt.low PSTw4.out) XB0.out XB1.out XB2.out XB3.out
 obtain ⟨xx0_w4, xx1_w4, xx2_w4, xx3_w4⟩ := low4 (PSt.low PSTw4.out) XX0.out XX1.out XX2.out XX3.out
 have hlt_g_w4 : g < w4.heap.size := block_lt_of_cell xa0_w4
 have hlt_gx_w4 : gx < w4.heap.size := block_lt_of_cell xx0_w4
 clear htw4
 go_wp2_with fail
 first | go_end0 | refine bodyPost_ret (v := .tuple #[]) (results_none rfl _ _ _) rfl ?_
 exact ⟨rfl, PrAdd.cast ACCw4.out (by first | rfl | (simp only [List.append_assoc] <;> rfl))⟩
set_option maxRecDepth 100000 in
set_option maxHeartbeats 1000000 in
theorem scripts_7_item (W0 : World) (p B : Nat) (tx cl : Value) (a b : Nd) (x : Nd) (hx : a.kids = [x]) (hs : Tr.scripted x = true) (ha : GroupE W0 p B a) (hb : ArgE W0 p B b) (sl : Value) (hsl : RepL W0 [a, b] sl) : Emits 130 #[pp p, .agg #[.int .i64 7, tx, cl, sl]] W0 p B (baseT a ++ ([Tr.mk7 95] ++ argT b)) := by
 intro w toks txt hp hf
 rw [baseT_grp a x hx hs] at hf ⊢
 obtain ⟨g, o, cap, sa, sb, rfl, a0, a1, a2, a3, hra, b0, b1, b2, b3, hrb⟩ := hsl.two
 have GRPa := hid (ha sa hra)
 have ARGb := hid (hb sb hrb)
 rw [hx] at hra
 obtain ⟨gx, ox, cax, sx, rfl, x0, x1, x2, x3, hrx⟩ := hra.one
 have e1 : a.kids.length = 1 := by rw [hx]; rfl
 have HS := hid hs
 clear e1 hs hrx
 have PST0 := hid hp
 have FIT0 := hid hf
 clear hp hf ha hb hsl hra hrb hx
 have XA0 := hid a0
 have XA1 := hid a1
 have XA2 := hid a2
 have XA3 := hid a3
 have XB0 := hid b0
 have XB1 := hid b1
 have XB2 := hid b2
 have XB3 := hid b3
 have XX0 := hid x0
 have XX1 := hid x1
 have XX2 := hid x2
 have XX3 := hid x3
 clear a0 a1 a2 a3 b0 b1 b2 b3 x0 x1 x2 x3
 obtain ⟨xa0_w, xa1_w, xa2_w, xa3_w⟩ := low4 (PSt.low PST0.out) XA0.out XA1.out XA2.out XA3.out
 obtain ⟨xb0_w, xb1_w, xb2_w, xb3_w⟩ := low4 (PSt.low PST0.out) XB0.out XB1.out XB2.out XB3.out
 obtain ⟨xx0_w, xx1_w, xx2_w, xx3_w⟩ := low4 (PSt.low PST0.out) XX0.out XX1.out XX2.out XX3.out
 have hlt_g_w : g < w.heap.size := block_lt_of_cell xa0_w
 have hlt_gx_w : gx < w.heap.size := block_lt_of_cell xx0_w
 go_enter Tryz.func130, Tryz.ntmps130
 go_wp2_with fail
 refine Calls.mono (scripted_is x _ _ HS.out) ?_
 rintro _ w1 ⟨rfl, hfw1⟩
 have HF1 := hid (show Fresh w w1 from preA hfw1)
 have B0_w1 : Blk w1 (w.heap.size) 24 #[.int .i64 (7 : Int), tx, cl, .slice (some ⟨g, o, none⟩) 2 cap] := Touch.blk hfw1 (by first | exact blkN | assumption | exact blkA (by assumption)) (fun h => h)
 have B1_w1 : Blk w1 (w.heap.size + 1) 24 #[.int .i64 a.kind, .string (⟨a.text.toArray⟩ : ByteArray), .int .i64 a.cols, .slice (some ⟨gx, ox, none⟩) 1 cax] := Touch.blk hfw1 (by first | exact blkN | assumption | exact blkA (by assumption)) (fun h => h)
 obtain ⟨q0_0_w1, q0_1_w1, q0_2_w1, q0_3_w1, _⟩ := Blk.four B0_w1
 obtain ⟨q1_0_w1, q1_1_w1, q1_2_w1, q1_3_w1, _⟩ := Blk.four B1_w1
 obtain ⟨xa0_w1, xa1_w1, xa2_w1, xa3_w1⟩ := mv4 HF1.out xa0_w xa1_w xa2_w xa3_w
 obtain ⟨xb0_w1, xb1_w1, xb2_w1, xb3_w1⟩ := mv4 HF1.out xb0_w xb1_w xb2_w xb3_w
 obtain ⟨xx0_w1, xx1_w1, xx2_w1, xx3_w1⟩ := mv4 HF1.out xx0_w xx1_w xx2_w xx3_w
 clear xa0_w xa1_w xa2_w xa3_w xb0_w xb1_w xb2_w xb3_w xx0_w xx1_w xx2_w xx3_w
 have hlt_g_w1 : g < w1.heap.size := block_lt_of_cell xa0_w1
 have hlt_gx_w1 : gx < w1.heap.size := block_lt_of_cell xx0_w1
 have PSTw1 := hid (PSt.fresh PST0.out HF1.out)
 clear hfw1
 go_wp2_with fail
 refine Calls.mono ((GRPa.out) _ _ _ (PSt.fresh PSTw1.out (frA (Touch.refl _ _))) FIT0.out.left) ?_
 rintro _ w2 ⟨rfl, htw2⟩
 have PSTw2 := hid (PSt.add (PSt.fresh PSTw1.out (frA (Touch.refl _ _))) htw2)
 have ACCw2 := hid (PrAdd.freshL (show Fresh w _ from (frA HF1.out)) htw2)
 have FITw2 := hid (Fits.right FIT0.out)
 have B0_w2 : Blk w2 (w.heap.size) 24 #[.int .i64 (7 : Int), tx, cl, .slice (some ⟨g, o, none⟩) 2 cap] := PrAdd.blk htw2 (by first | exact blkN | assumption | exact blkA (by assumption)) (by have := PSt.lt PST0.out; have := PSt.hB PST0.out; omega) (by decide) (by decide)
 have B1_w2 : Blk w2 (w.heap.size + 1) 24 #[.int .i64 a.kind, .string (⟨a.text.toArray⟩ : ByteArray), .int .i64 a.cols, .slice (some ⟨gx, ox, none⟩) 1 cax] := PrAdd.blk htw2 (by first | exact blkN | assumption | exact blkA (by assumption)) (by have := PSt.lt PST0.out; have := PSt.hB PST0.out; omega) (by decide) (by decide)
 clear q0_0_w1 q0_1_w1 q0_2_w1 q0_3_w1 B0_w1 q1_0_w1 q1_1_w1 q1_2_w1 q1_3_w1 B1_w1
 obtain ⟨q0_0_w2, q0_1_w2, q0_2_w2, q0_3_w2, _⟩ := Blk.four B0_w2
 obtain ⟨q1_0_w2, q1_1_w2, q1_2_w2, q1_3_w2, _⟩ := Blk.four B1_w2
 clear xa0_w1 xa1_w1 xa2_w1 xa3_w1 xb0_w1 xb1_w1 xb2_w1 xb3_w1 xx0_w1 xx1_w1 xx2_w1 xx3_w1
 obtain ⟨xa0_w2, xa1_w2, xa2_w2, xa3_w2⟩ := low4 (PSt.low PSTw2.out) XA0.out XA1.out XA2.out XA3.out
 obtain ⟨xb0_w2, xb1_w2, xb2_w2, xb3_w2⟩ := low4 (PSt.low PSTw2.out) XB0.out XB1.out XB2.out XB3.out
 obtain ⟨xx0_w2, xx1_w2, xx2_w2, xx3_w2⟩ := low4 (PSt.low PSTw2.out) XX0.out XX1.out XX2.out XX3.out
 have hlt_g_w2 : g < w2.heap.size := block_lt_of_cell xa0_w2
 have hlt_gx_w2 : gx < w2.heap.size := block_lt_of_cell xx0_w2
 clear htw2
 go_wp2_with fail
 refine Calls.mono ((mark_em W0 p B [95]) _ _ _ (PSt.fresh PSTw2.out (frA (Touch.refl _ _))) FITw2.out.left) ?_
 rintro _ w3 ⟨rfl, htw3⟩
 have PSTw3 := hid (PSt.add2 (PSt.fresh PSTw2.out (frA (Touch.refl _ _))) htw3)
 have ACCw3 := hid (PrAdd.app ACCw2.out (PrAdd.freshL (show Fresh w2 _ from (frA (Touch.refl _ _))) htw3))
 have FITw3 := hid (Fits.right2 FITw2.out)
 have B0_w3 : Blk w3 (w.heap.size) 24 #[.int .i64 (7 : Int), tx, cl, .slice (some ⟨g, o, none⟩) 2 cap] := PrAdd.blk htw3 (by first | exact blkN | assumption | exact blkA (by assumption)) (by have := PSt.lt PST0.out; have := PSt.hB PST0.out; omega) (by decide) (by decide)
 have B1_w3 : Blk w3 (w.heap.size + 1) 24 #[.int .i64 a.kind, .string (⟨a.text.toArray⟩ : ByteArray), .int .i64 a.cols, .slice (some ⟨gx, ox, none⟩) 1 cax] := PrAdd.blk htw3 (by first | exact blkN | assumption | exact blkA (by assumption)) (by have := PSt.lt PST0.out; have := PSt.hB PST0.out; omega) (by decide) (by decide)
 clear q0_0_w2 q0_1_w2 q0_2_w2 q0_3_w2 B0_w2 q1_0_w2 q1_1_w2 q1_2_w2 q1_3_w2 B1_w2
 obtain ⟨q0_0_w3, q0_1_w3, q0_2_w3, q0_3_w3, _⟩ := Blk.four B0_w3
 obtain ⟨q1_0_w3, q1_1_w3, q1_2_w3, q1_3_w3, _⟩ := Blk.four B1_w3
 clear xa0_w2 xa1_w2 xa2_w2 xa3_w2 xb0_w2 xb1_w2 xb2_w2 xb3_w2 xx0_w2 xx1_w2 xx2_w2 xx3_w2
 obtain ⟨xa0_w3, xa1_w3, xa2_w3, xa3_w3⟩ := low4 (PSt.low PSTw3.out) XA0.out XA1.out XA2.out XA3.out
 obtain ⟨xb0_w3, xb1_w3, xb2_w3, xb3_w3⟩ := low4 (PSt.low PSTw3.out) XB0.out XB1.out XB2.out XB3.out
 obtain ⟨xx0_w3, xx1_w3, xx2_w3, xx3_w3⟩ := low4 (PSt.low PSTw3.out) XX0.out XX1.out XX2.out XX3.out
 have hlt_g_w3 : g < w3.heap.size := block_lt_of_cell xa0_w3
 have hlt_gx_w3 : gx < w3.heap.size := block_lt_of_cell xx0_w3
 clear htw3
 go_wp2_with fail
 refine Calls.mono ((ARGb.out) _ _ _ (PSt.fresh PSTw3.out (frA (Touch.refl _ _))) FITw3.out) ?_
 rintro _ w4 ⟨rfl, htw4⟩
 have PSTw4 := hid (PSt.add2 (PSt.fresh PSTw3.out (frA (Touch.refl _ _))) htw4)
 have ACCw4 := hid (PrAdd.app ACCw3.out (PrAdd.freshL (show Fresh w3 _ from (frA (Touch.refl _ _))) htw4))
 have B0_w4 : Blk w4 (w.heap.size) 24 #[.int .i64 (7 : Int), tx, cl, .slice (some ⟨g, o, none⟩) 2 cap] := PrAdd.blk htw4 (by first | exact blkN | assumption | exact blkA (by assumption)) (by have := PSt.lt PST0.out; have := PSt.hB PST0.out; omega) (by decide) (by decide)
 have B1_w4 : Blk w4 (w.heap.size + 1) 24 #[.int .i64 a.kind, .string (⟨a.text.toArray⟩ : ByteArray), .int .i64 a.cols, .slice (some ⟨gx, ox, none⟩) 1 cax] := PrAdd.blk htw4 (by first | exact blkN | assumption | exact blkA (by assumption)) (by have := PSt.lt PST0.out; have := PSt.hB PST0.out; omega) (by decide) (by decide)
 clear q0_0_w3 q0_1_w3 q0_2_w3 q0_3_w3 B0_w3 q1_0_w3 q1_1_w3 q1_2_w3 q1_3_w3 B1_w3
 obtain ⟨q0_0_w4, q0_1_w4, q0_2_w4, q0_3_w4, _⟩ := Blk.four B0_w4
 obtain ⟨q1_0_w4, q1_1_w4, q1_2_w4, q1_3_w4, _⟩ := Blk.four B1_w4
 clear xa0_w3 xa1_w3 xa2_w3 xa3_w3 xb0_w3 xb1_w3 xb2_w3 xb3_w3 xx0_w3 xx1_w3 xx2_w3 xx3_w3
 obtain ⟨xa0_w4, xa1_w4, xa2_w4, xa3_w4⟩ := low4 (PSt.low PSTw4.out) XA0.out XA1.out XA2.out XA3.out
 obtain ⟨xb0_w4, xb1_w4, xb2_w4, xb3_w4⟩ := low4 (PSt.low PSTw4.out) XB0.out XB1.out XB2.out XB3.out
 obtain ⟨xx0_w4, xx1_w4, xx2_w4, xx3_w4⟩ := low4 (PSt.low PSTw4.out) XX0.out XX1.out XX2.out XX3.out
 have hlt_g_w4 : g < w4.heap.size := block_lt_of_cell xa0_w4
 have hlt_gx_w4 : gx < w4.heap.size := block_lt_of_cell xx0_w4
 clear htw4
 go_wp2_with fail
 first | go_end0 | refine bodyPost_ret (v := .tuple #[]) (results_none rfl _ _ _) rfl ?_
 exact ⟨rfl, PrAdd.cast ACCw4.out (by first | rfl | (simp only [List.append_assoc] <;> rfl))⟩
set_option maxRecDepth 100000 in
set_option maxHeartbeats 1000000 in
theorem scripts_7_len (W0 : World) (p B : Nat) (tx cl : Value) (a b : Nd) (hx : a.kids.length ≠ 1) (ha : GroupE W0 p B a) (hb : ArgE W0 p B b) (sl : Value) (hsl : RepL W0 [a, b] sl) : Emits 130 #[pp p, .agg #[.int .i64 7, tx, cl, sl]] W0 p B (baseT a ++ ([Tr.mk7 95] ++ argT b)) := by
 intro w toks txt hp hf
 rw [baseT_len1 a hx] at hf ⊢
 obtain ⟨g, o, cap, sa, sb, rfl, a0, a1, a2, a3, hra, b0, b1, b2, b3, hrb⟩ := hsl.two
 have GRPa := hid (ha sa hra)
 have ARGb := hid (hb sb hrb)
 obtain ⟨Aa, capa, rfl⟩ := hra.slice
 have f1 : ((a.kids.length : Int) == 1) = false := by simp only [beq_eq_false_iff_ne]; omega
 have f2 : ¬ (a.kids.length : Int) = 1 := by omega
 have PST0 := hid hp
 have FIT0 := hid hf
 clear hp hf ha hb hsl hra hrb hx
 have XA0 := hid a0
 have XA1 := hid a1
 have XA2 := hid a2
 have XA3 := hid a3
 have XB0 := hid b0
 have XB1 := hid b1
 have XB2 := hid b2
 have XB3 := hid b3
 clear a0 a1 a2 a3 b0 b1 b2 b3
 obtain ⟨xa0_w, xa1_w, xa2_w, xa3_w⟩ := low4 (PSt.low PST0.out) XA0.out XA1.out XA2.out XA3.out
 obtain ⟨xb0_w, xb1_w, xb2_w, xb3_w⟩ := low4 (PSt.low PST0.out) XB0.out XB1.out XB2.out XB3.out
 have hlt_g_w : g < w.heap.size := block_lt_of_cell xa0_w
 go_enter Tryz.func130, Tryz.ntmps130
 go_wp2_with fail
 refine Calls.mono ((GRPa.out) _ _ _ (PSt.fresh PST0.out (frA (Touch.refl _ _))) FIT0.out.left) ?_
 rintro _ w1 ⟨rfl, htw1⟩
 have PSTw1 := hid (PSt.add (PSt.fresh PST0.out (frA (Touch.refl _ _))) htw1)
 have ACCw1 := hid (PrAdd.freshL (show Fresh w _ from (frA (Touch.refl _ _))) htw1)
 have FITw1 := hid (Fits.right FIT0.out)
 have B0_w1 : Blk w1 (w.heap.size) 24 #[.int .i64 (7 : Int), tx, cl, .slice (some ⟨g, o, none⟩) 2 cap] := PrAdd.blk htw1 (by first | exact blkN | assumption | exact blkA (by assumption)) (by have := PSt.lt PST0.out; have := PSt.hB PST0.out; omega) (by decide) (by decide)
 have B1_w1 : Blk w1 (w.heap.size + 1) 24 #[.int .i64 a.kind, .string (⟨a.text.toArray⟩ : ByteArray), .int .i64 a.cols, .slice Aa a.kids.length capa] := PrAdd.blk htw1 (by first | exact blkN | assumption | exact blkA (by assumption)) (by have := PSt.lt PST0.out; have := PSt.hB PST0.out; omega) (by decide) (by decide)
 obtain ⟨q0_0_w1, q0_1_w1, q0_2_w1, q0_3_w1, _⟩ := Blk.four B0_w1
 obtain ⟨q1_0_w1, q1_1_w1, q1_2_w1, q1_3_w1, _⟩ := Blk.four B1_w1
 clear xa0_w xa1_w xa2_w xa3_w xb0_w xb1_w xb2_w xb3_w
 obtain ⟨xa0_w1, xa1_w1, xa2_w1, xa3_w1⟩ := low4 (PSt.low PSTw1.out) XA0.out XA1.out XA2.out XA3.out
 obtain ⟨xb0_w1, xb1_w1, xb2_w1, xb3_w1⟩ := low4 (PSt.low PSTw1.out) XB0.out XB1.out XB2.out XB3.out
 have hlt_g_w1 : g < w1.heap.size := block_lt_of_cell xa0_w1
 clear htw1
 go_wp2_with fail
 refine Calls.mono ((mark_em W0 p B [95]) _ _ _ (PSt.fresh PSTw1.out (frA (Touch.refl _ _))) FITw1.out.left) ?_
 rintro _ w2 ⟨rfl, htw2⟩
 have PSTw2 := hid (PSt.add2 (PSt.fresh PSTw1.out (frA (Touch.refl _ _))) htw2)
 have ACCw2 := hid (PrAdd.app ACCw1.out (PrAdd.freshL (show Fresh w1 _ from (frA (Touch.refl _ _))) htw2))
 have FITw2 := hid (Fits.right2 FITw1.out)
 have B0_w2 : Blk w2 (w.heap.size) 24 #[.int .i64 (7 : Int), tx, cl, .slice (some ⟨g, o, none⟩) 2 cap] := PrAdd.blk htw2 (by first | exact blkN | assumption | exact blkA (by assumption)) (by have := PSt.lt PST0.out; have := PSt.hB PST0.out; omega) (by decide) (by decide)
 have B1_w2 : Blk w2 (w.heap.size + 1) 24 #[.int .i64 a.kind, .string (⟨a.text.toArray⟩ : ByteArray), .int .i64 a.cols, .slice Aa a.kids.length capa] := PrAdd.blk htw2 (by first | exact blkN | assumption | exact blkA (by assumption)) (by have := PSt.lt PST0.out; have := PSt.hB PST0.out; omega) (by decide) (by decide)
 clear q0_0_w1 q0_1_w1 q0_2_w1 q0_3_w1 B0_w1 q1_0_w1 q1_1_w1 q1_2_w1 q1_3_w1 B1_w1
 obtain ⟨q0_0_w2, q0_1_w2, q0_2_w2, q0_3_w2, _⟩ := Blk.four B0_w2
 obtain ⟨q1_0_w2, q1_1_w2, q1_2_w2, q1_3_w2, _⟩ := Blk.four B1_w2
 clear xa0_w1 xa1_w1 xa2_w1 xa3_w1 xb0_w1 xb1_w1 xb2_w1 xb3_w1
 obtain ⟨xa0_w2, xa1_w2, xa2_w2, xa3_w2⟩ := low4 (PSt.low PSTw2.out) XA0.out XA1.out XA2.out XA3.out
 obtain ⟨xb0_w2, xb1_w2, xb2_w2, xb3_w2⟩ := low4 (PSt.low PSTw2.out) XB0.out XB1.out XB2.out XB3.out
 have hlt_g_w2 : g < w2.heap.size := block_lt_of_cell xa0_w2
 clear htw2
 go_wp2_with fail
 refine Calls.mono ((ARGb.out) _ _ _ (PSt.fresh PSTw2.out (frA (Touch.refl _ _))) FITw2.out) ?_
 rintro _ w3 ⟨rfl, htw3⟩
 have PSTw3 := hid (PSt.add2 (PSt.fresh PSTw2.out (frA (Touch.refl _ _))) htw3)
 have ACCw3 := hid (PrAdd.app ACCw2.out (PrAdd.freshL (show Fresh w2 _ from (frA (Touch.refl _ _))) htw3))
 have B0_w3 : Blk w3 (w.heap.size) 24 #[.int .i64 (7 : Int), tx, cl, .slice (some ⟨g, o, none⟩) 2 cap] := PrAdd.blk htw3 (by first | exact blkN | assumption | exact blkA (by assumption)) (by have := PSt.lt PST0.out; have := PSt.hB PST0.out; omega) (by decide) (by decide)
 have B1_w3 : Blk w3 (w.heap.size + 1) 24 #[.int .i64 a.kind, .string (⟨a.text.toArray⟩ : ByteArray), .int .i64 a.cols, .slice Aa a.kids.length capa] := PrAdd.blk htw3 (by first | exact blkN | assumption | exact blkA (by assumption)) (by have := PSt.lt PST0.out; have := PSt.hB PST0.out; omega) (by decide) (by decide)
 clear q0_0_w2 q0_1_w2 q0_2_w2 q0_3_w2 B0_w2 q1_0_w2 q1_1_w2 q1_2_w2 q1_3_w2 B1_w2
 obtain ⟨q0_0_w3, q0_1_w3, q0_2_w3, q0_3_w3, _⟩ := Blk.four B0_w3
 obtain ⟨q1_0_w3, q1_1_w3, q1_2_w3, q1_3_w3, _⟩ := Blk.four B1_w3
 clear xa0_w2 xa1_w2 xa2_w2 xa3_w2 xb0_w2 xb1_w2 xb2_w2 xb3_w2
 obtain ⟨xa0_w3, xa1_w3, xa2_w3, xa3_w3⟩ := low4 (PSt.low PSTw3.out) XA0.out XA1.out XA2.out XA3.out
 obtain ⟨xb0_w3, xb1_w3, xb2_w3, xb3_w3⟩ := low4 (PSt.low PSTw3.out) XB0.out XB1.out XB2.out XB3.out
 have hlt_g_w3 : g < w3.heap.size := block_lt_of_cell xa0_w3
 clear htw3
 go_wp2_with fail
 first | go_end0 | refine bodyPost_ret (v := .tuple #[]) (results_none rfl _ _ _) rfl ?_
 exact ⟨rfl, PrAdd.cast ACCw3.out (by first | rfl | (simp only [List.append_assoc] <;> rfl))⟩
set_option maxRecDepth 100000 in
set_option maxHeartbeats 1000000 in
theorem scripts_8_row (W0 : World) (p B : Nat) (tx cl : Value) (a b : Nd) (x : Nd) (hx : a.kids = [x]) (hs : Tr.scripted x = false) (ha : RowE W0 p B a) (hb : ArgE W0 p B b) (sl : Value) (hsl : RepL W0 [a, b] sl) : Emits 130 #[pp p, .agg #[.int .i64 8, tx, cl, sl]] W0 p B (baseT a ++ ([Tr.mk7 94] ++ argT b)) := by
 intro w toks txt hp hf
 rw [baseT_row a x hx hs] at hf ⊢
 obtain ⟨g, o, cap, sa, sb, rfl, a0, a1, a2, a3, hra, b0, b1, b2, b3, hrb⟩ := hsl.two
 have ROWa := hid (ha sa hra)
 have ARGb := hid (hb sb hrb)
 rw [hx] at hra
 obtain ⟨gx, ox, cax, sx, rfl, x0, x1, x2, x3, hrx⟩ := hra.one
 have e1 : a.kids.length = 1 := by rw [hx]; rfl
 have HS := hid hs
 clear e1 hs hrx
 have PST0 := hid hp
 have FIT0 := hid hf
 clear hp hf ha hb hsl hra hrb hx
 have XA0 := hid a0
 have XA1 := hid a1
 have XA2 := hid a2
 have XA3 := hid a3
 have XB0 := hid b0
 have XB1 := hid b1
 have XB2 := hid b2
 have XB3 := hid b3
 have XX0 := hid x0
 have XX1 := hid x1
 have XX2 := hid x2
 have XX3 := hid x3
 clear a0 a1 a2 a3 b0 b1 b2 b3 x0 x1 x2 x3
 obtain ⟨xa0_w, xa1_w, xa2_w, xa3_w⟩ := low4 (PSt.low PST0.out) XA0.out XA1.out XA2.out XA3.out
 obtain ⟨xb0_w, xb1_w, xb2_w, xb3_w⟩ := low4 (PSt.low PST0.out) XB0.out XB1.out XB2.out XB3.out
 obtain ⟨xx0_w, xx1_w, xx2_w, xx3_w⟩ := low4 (PSt.low PST0.out) XX0.out XX1.out XX2.out XX3.out
 have hlt_g_w : g < w.heap.size := block_lt_of_cell xa0_w
 have hlt_gx_w : gx < w.heap.size := block_lt_of_cell xx0_w
 go_enter Tryz.func130, Tryz.ntmps130
 go_wp2_with fail
 refine Calls.mono (scripted_is x _ _ HS.out) ?_
 rintro _ w1 ⟨rfl, hfw1⟩
 have HF1 := hid (show Fresh w w1 from preA hfw1)
 have B0_w1 : Blk w1 (w.heap.size) 24 #[.int .i64 (8 : Int), tx, cl, .slice (some ⟨g, o, none⟩) 2 cap] := Touch.blk hfw1 (by first | exact blkN | assumption | exact blkA (by assumption)) (fun h => h)
 have B1_w1 : Blk w1 (w.heap.size + 1) 24 #[.int .i64 a.kind, .string (⟨a.text.toArray⟩ : ByteArray), .int .i64 a.cols, .slice (some ⟨gx, ox, none⟩) 1 cax] := Touch.blk hfw1 (by first | exact blkN | assumption | exact blkA (by assumption)) (fun h => h)
 obtain ⟨q0_0_w1, q0_1_w1, q0_2_w1, q0_3_w1, _⟩ := Blk.four B0_w1
 obtain ⟨q1_0_w1, q1_1_w1, q1_2_w1, q1_3_w1, _⟩ := Blk.four B1_w1
 obtain ⟨xa0_w1, xa1_w1, xa2_w1, xa3_w1⟩ := mv4 HF1.out xa0_w xa1_w xa2_w xa3_w
 obtain ⟨xb0_w1, xb1_w1, xb2_w1, xb3_w1⟩ := mv4 HF1.out xb0_w xb1_w xb2_w xb3_w
 obtain ⟨xx0_w1, xx1_w1, xx2_w1, xx3_w1⟩ := mv4 HF1.out xx0_w xx1_w xx2_w xx3_w
 clear xa0_w xa1_w xa2_w xa3_w xb0_w xb1_w xb2_w xb3_w xx0_w xx1_w xx2_w xx3_w
 have hlt_g_w1 : g < w1.heap.size := block_lt_of_cell xa0_w1
 have hlt_gx_w1 : gx < w1.heap.size := block_lt_of_cell xx0_w1
 have PSTw1 := hid (PSt.fresh PST0.out HF1.out)
 clear hfw1
 go_wp2_with fail
 refine Calls.mono ((ROWa.out) _ _ _ (PSt.fresh PSTw1.out (frA (Touch.refl _ _))) FIT0.out.left) ?_
 rintro _ w2 ⟨rfl, htw2⟩
 have PSTw2 := hid (PSt.add (PSt.fresh PSTw1.out (frA (Touch.refl _ _))) htw2)
 have ACCw2 := hid (PrAdd.freshL (show Fresh w _ from (frA HF1.out)) htw2)
 have FITw2 := hid (Fits.right FIT0.out)
 have B0_w2 : Blk w2 (w.heap.size) 24 #[.int .i64 (8 : Int), tx, cl, .slice (some ⟨g, o, none⟩) 2 cap] := PrAdd.blk htw2 (by first | exact blkN | assumption | exact blkA (by assumption)) (by have := PSt.lt PST0.out; have := PSt.hB PST0.out; omega) (by decide) (by decide)
 have B1_w2 : Blk w2 (w.heap.size + 1) 24 #[.int .i64 a.kind, .string (⟨a.text.toArray⟩ : ByteArray), .int .i64 a.cols, .slice (some ⟨gx, ox, none⟩) 1 cax] := PrAdd.blk htw2 (by first | exact blkN | assumption | exact blkA (by assumption)) (by have := PSt.lt PST0.out; have := PSt.hB PST0.out; omega) (by decide) (by decide)
 clear q0_0_w1 q0_1_w1 q0_2_w1 q0_3_w1 B0_w1 q1_0_w1 q1_1_w1 q1_2_w1 q1_3_w1 B1_w1
 obtain ⟨q0_0_w2, q0_1_w2, q0_2_w2, q0_3_w2, _⟩ := Blk.four B0_w2
 obtain ⟨q1_0_w2, q1_1_w2, q1_2_w2, q1_3_w2, _⟩ := Blk.four B1_w2
 clear xa0_w1 xa1_w1 xa2_w1 xa3_w1 xb0_w1 xb1_w1 xb2_w1 xb3_w1 xx0_w1 xx1_w1 xx2_w1 xx3_w1
 obtain ⟨xa0_w2, xa1_w2, xa2_w2, xa3_w2⟩ := low4 (PSt.low PSTw2.out) XA0.out XA1.out XA2.out XA3.out
 obtain ⟨xb0_w2, xb1_w2, xb2_w2, xb3_w2⟩ := low4 (PSt.low PSTw2.out) XB0.out XB1.out XB2.out XB3.out
 obtain ⟨xx0_w2, xx1_w2, xx2_w2, xx3_w2⟩ := low4 (PSt.low PSTw2.out) XX0.out XX1.out XX2.out XX3.out
 have hlt_g_w2 : g < w2.heap.size := block_lt_of_cell xa0_w2
 have hlt_gx_w2 : gx < w2.heap.size := block_lt_of_cell xx0_w2
 clear htw2
 go_wp2_with fail
 refine Calls.mono ((mark_em W0 p B [94]) _ _ _ (PSt.fresh PSTw2.out (frA (Touch.refl _ _))) FITw2.out.left) ?_
 rintro _ w3 ⟨rfl, htw3⟩
 have PSTw3 := hid (PSt.add2 (PSt.fresh PSTw2.out (frA (Touch.refl _ _))) htw3)
 have ACCw3 := hid (PrAdd.app ACCw2.out (PrAdd.freshL (show Fresh w2 _ from (frA (Touch.refl _ _))) htw3))
 have FITw3 := hid (Fits.right2 FITw2.out)
 have B0_w3 : Blk w3 (w.heap.size) 24 #[.int .i64 (8 : Int), tx, cl, .slice (some ⟨g, o, none⟩) 2 cap] := PrAdd.blk htw3 (by first | exact blkN | assumption | exact blkA (by assumption)) (by have := PSt.lt PST0.out; have := PSt.hB PST0.out; omega) (by decide) (by decide)
 have B1_w3 : Blk w3 (w.heap.size + 1) 24 #[.int .i64 a.kind, .string (⟨a.text.toArray⟩ : ByteArray), .int .i64 a.cols, .slice (some ⟨gx, ox, none⟩) 1 cax] := PrAdd.blk htw3 (by first | exact blkN | assumption | exact blkA (by assumption)) (by have := PSt.lt PST0.out; have := PSt.hB PST0.out; omega) (by decide) (by decide)
 clear q0_0_w2 q0_1_w2 q0_2_w2 q0_3_w2 B0_w2 q1_0_w2 q1_1_w2 q1_2_w2 q1_3_w2 B1_w2
 obtain ⟨q0_0_w3, q0_1_w3, q0_2_w3, q0_3_w3, _⟩ := Blk.four B0_w3
 obtain ⟨q1_0_w3, q1_1_w3, q1_2_w3, q1_3_w3, _⟩ := Blk.four B1_w3
 clear xa0_w2 xa1_w2 xa2_w2 xa3_w2 xb0_w2 xb1_w2 xb2_w2 xb3_w2 xx0_w2 xx1_w2 xx2_w2 xx3_w2
 obtain ⟨xa0_w3, xa1_w3, xa2_w3, xa3_w3⟩ := low4 (PSt.low PSTw3.out) XA0.out XA1.out XA2.out XA3.out
 obtain ⟨xb0_w3, xb1_w3, xb2_w3, xb3_w3⟩ := low4 (PSt.low PSTw3.out) XB0.out XB1.out XB2.out XB3.out
 obtain ⟨xx0_w3, xx1_w3, xx2_w3, xx3_w3⟩ := low4 (PSt.low PSTw3.out) XX0.out XX1.out XX2.out XX3.out
 have hlt_g_w3 : g < w3.heap.size := block_lt_of_cell xa0_w3
 have hlt_gx_w3 : gx < w3.heap.size := block_lt_of_cell xx0_w3
 clear htw3
 go_wp2_with fail
 refine Calls.mono ((ARGb.out) _ _ _ (PSt.fresh PSTw3.out (frA (Touch.refl _ _))) FITw3.out) ?_
 rintro _ w4 ⟨rfl, htw4⟩
 have PSTw4 := hid (PSt.add2 (PSt.fresh PSTw3.out (frA (Touch.refl _ _))) htw4)
 have ACCw4 := hid (PrAdd.app ACCw3.out (PrAdd.freshL (show Fresh w3 _ from (frA (Touch.refl _ _))) htw4))
 have B0_w4 : Blk w4 (w.heap.size) 24 #[.int .i64 (8 : Int), tx, cl, .slice (some ⟨g, o, none⟩) 2 cap] := PrAdd.blk htw4 (by first | exact blkN | assumption | exact blkA (by assumption)) (by have := PSt.lt PST0.out; have := PSt.hB PST0.out; omega) (by decide) (by decide)
 have B1_w4 : Blk w4 (w.heap.size + 1) 24 #[.int .i64 a.kind, .string (⟨a.text.toArray⟩ : ByteArray), .int .i64 a.cols, .slice (some ⟨gx, ox, none⟩) 1 cax] := PrAdd.blk htw4 (by first | exact blkN | assumption | exact blkA (by assumption)) (by have := PSt.lt PST0.out; have := PSt.hB PST0.out; omega) (by decide) (by decide)
 clear q0_0_w3 q0_1_w3 q0_2_w3 q0_3_w3 B0_w3 q1_0_w3 q1_1_w3 q1_2_w3 q1_3_w3 B1_w3
 obtain ⟨q0_0_w4, q0_1_w4, q0_2_w4, q0_3_w4, _⟩ := Blk.four B0_w4
 obtain ⟨q1_0_w4, q1_1_w4, q1_2_w4, q1_3_w4, _⟩ := Blk.four B1_w4
 clear xa0_w3 xa1_w3 xa2_w3 xa3_w3 xb0_w3 xb1_w3 xb2_w3 xb3_w3 xx0_w3 xx1_w3 xx2_w3 xx3_w3
 obtain ⟨xa0_w4, xa1_w4, xa2_w4, xa3_w4⟩ := low4 (PSt.low PSTw4.out) XA0.out XA1.out XA2.out XA3.out
 obtain ⟨xb0_w4, xb1_w4, xb2_w4, xb3_w4⟩ := low4 (PSt.low PSTw4.out) XB0.out XB1.out XB2.out XB3.out
 obtain ⟨xx0_w4, xx1_w4, xx2_w4, xx3_w4⟩ := low4 (PSt.low PSTw4.out) XX0.out XX1.out XX2.out XX3.out
 have hlt_g_w4 : g < w4.heap.size := block_lt_of_cell xa0_w4
 have hlt_gx_w4 : gx < w4.heap.size := block_lt_of_cell xx0_w4
 clear htw4
 go_wp2_with fail
 first | go_end0 | refine bodyPost_ret (v := .tuple #[]) (results_none rfl _ _ _) rfl ?_
 exact ⟨rfl, PrAdd.cast ACCw4.out (by first | rfl | (simp only [List.append_assoc] <;> rfl))⟩
set_option maxRecDepth 100000 in
set_option maxHeartbeats 1000000 in
theorem scripts_8_item (W0 : World) (p B : Nat) (tx cl : Value) (a b : Nd) (x : Nd) (hx : a.kids = [x]) (hs : Tr.scripted x = true) (ha : GroupE W0 p B a) (hb : ArgE W0 p B b) (sl : Value) (hsl : RepL W0 [a, b] sl) : Emits 130 #[pp p, .agg #[.int .i64 8, tx, cl, sl]] W0 p B (baseT a ++ ([Tr.mk7 94] ++ argT b)) := by
 intro w toks txt hp hf
 rw [baseT_grp a x hx hs] at hf ⊢
 obtain ⟨g, o, cap, sa, sb, rfl, a0, a1, a2, a3, hra, b0, b1, b2, b3, hrb⟩ := hsl.two
 have GRPa := hid (ha sa hra)
 have ARGb := hid (hb sb hrb)
 rw [hx] at hra
 obtain ⟨gx, ox, cax, sx, rfl, x0, x1, x2, x3, hrx⟩ := hra.one
 have e1 : a.kids.length = 1 := by rw [hx]; rfl
 have HS := hid hs
 clear e1 hs hrx
 have PST0 := hid hp
 have FIT0 := hid hf
 clear hp hf ha hb hsl hra hrb hx
 have XA0 := hid a0
 have XA1 := hid a1
 have XA2 := hid a2
 have XA3 := hid a3
 have XB0 := hid b0
 have XB1 := hid b1
 have XB2 := hid b2
 have XB3 := hid b3
 have XX0 := hid x0
 have XX1 := hid x1
 have XX2 := hid x2
 have XX3 := hid x3
 clear a0 a1 a2 a3 b0 b1 b2 b3 x0 x1 x2 x3
 obtain ⟨xa0_w, xa1_w, xa2_w, xa3_w⟩ := low4 (PSt.low PST0.out) XA0.out XA1.out XA2.out XA3.out
 obtain ⟨xb0_w, xb1_w, xb2_w, xb3_w⟩ := low4 (PSt.low PST0.out) XB0.out XB1.out XB2.out XB3.out
 obtain ⟨xx0_w, xx1_w, xx2_w, xx3_w⟩ := low4 (PSt.low PST0.out) XX0.out XX1.out XX2.out XX3.out
 have hlt_g_w : g < w.heap.size := block_lt_of_cell xa0_w
 have hlt_gx_w : gx < w.heap.size := block_lt_of_cell xx0_w
 go_enter Tryz.func130, Tryz.ntmps130
 go_wp2_with fail
 refine Calls.mono (scripted_is x _ _ HS.out) ?_
 rintro _ w1 ⟨rfl, hfw1⟩
 have HF1 := hid (show Fresh w w1 from preA hfw1)
 have B0_w1 : Blk w1 (w.heap.size) 24 #[.int .i64 (8 : Int), tx, cl, .slice (some ⟨g, o, none⟩) 2 cap] := Touch.blk hfw1 (by first | exact blkN | assumption | exact blkA (by assumption)) (fun h => h)
 have B1_w1 : Blk w1 (w.heap.size + 1) 24 #[.int .i64 a.kind, .string (⟨a.text.toArray⟩ : ByteArray), .int .i64 a.cols, .slice (some ⟨gx, ox, none⟩) 1 cax] := Touch.blk hfw1 (by first | exact blkN | assumption | exact blkA (by assumption)) (fun h => h)
 obtain ⟨q0_0_w1, q0_1_w1, q0_2_w1, q0_3_w1, _⟩ := Blk.four B0_w1
 obtain ⟨q1_0_w1, q1_1_w1, q1_2_w1, q1_3_w1, _⟩ := Blk.four B1_w1
 obtain ⟨xa0_w1, xa1_w1, xa2_w1, xa3_w1⟩ := mv4 HF1.out xa0_w xa1_w xa2_w xa3_w
 obtain ⟨xb0_w1, xb1_w1, xb2_w1, xb3_w1⟩ := mv4 HF1.out xb0_w xb1_w xb2_w xb3_w
 obtain ⟨xx0_w1, xx1_w1, xx2_w1, xx3_w1⟩ := mv4 HF1.out xx0_w xx1_w xx2_w xx3_w
 clear xa0_w xa1_w xa2_w xa3_w xb0_w xb1_w xb2_w xb3_w xx0_w xx1_w xx2_w xx3_w
 have hlt_g_w1 : g < w1.heap.size := block_lt_of_cell xa0_w1
 have hlt_gx_w1 : gx < w1.heap.size := block_lt_of_cell xx0_w1
 have PSTw1 := hid (PSt.fresh PST0.out HF1.out)
 clear hfw1
 go_wp2_with fail
 refine Calls.mono ((GRPa.out) _ _ _ (PSt.fresh PSTw1.out (frA (Touch.refl _ _))) FIT0.out.left) ?_
 rintro _ w2 ⟨rfl, htw2⟩
 have PSTw2 := hid (PSt.add (PSt.fresh PSTw1.out (frA (Touch.refl _ _))) htw2)
 have ACCw2 := hid (PrAdd.freshL (show Fresh w _ from (frA HF1.out)) htw2)
 have FITw2 := hid (Fits.right FIT0.out)
 have B0_w2 : Blk w2 (w.heap.size) 24 #[.int .i64 (8 : Int), tx, cl, .slice (some ⟨g, o, none⟩) 2 cap] := PrAdd.blk htw2 (by first | exact blkN | assumption | exact blkA (by assumption)) (by have := PSt.lt PST0.out; have := PSt.hB PST0.out; omega) (by decide) (by decide)
 have B1_w2 : Blk w2 (w.heap.size + 1) 24 #[.int .i64 a.kind, .string (⟨a.text.toArray⟩ : ByteArray), .int .i64 a.cols, .slice (some ⟨gx, ox, none⟩) 1 cax] := PrAdd.blk htw2 (by first | exact blkN | assumption | exact blkA (by assumption)) (by have := PSt.lt PST0.out; have := PSt.hB PST0.out; omega) (by decide) (by decide)
 clear q0_0_w1 q0_1_w1 q0_2_w1 q0_3_w1 B0_w1 q1_0_w1 q1_1_w1 q1_2_w1 q1_3_w1 B1_w1
 obtain ⟨q0_0_w2, q0_1_w2, q0_2_w2, q0_3_w2, _⟩ := Blk.four B0_w2
 obtain ⟨q1_0_w2, q1_1_w2, q1_2_w2, q1_3_w2, _⟩ := Blk.four B1_w2
 clear xa0_w1 xa1_w1 xa2_w1 xa3_w1 xb0_w1 xb1_w1 xb2_w1 xb3_w1 xx0_w1 xx1_w1 xx2_w1 xx3_w1
 obtain ⟨xa0_w2, xa1_w2, xa2_w2, xa3_w2⟩ := low4 (PSt.low PSTw2.out) XA0.out XA1.out XA2.out XA3.out
 obtain ⟨xb0_w2, xb1_w2, xb2_w2, xb3_w2⟩ := low4 (PSt.low PSTw2.out) XB0.out XB1.out XB2.out XB3.out
 obtain ⟨xx0_w2, xx1_w2, xx2_w2, xx3_w2⟩ := low4 (PSt.low PSTw2.out) XX0.out XX1.out XX2.out XX3.out
 have hlt_g_w2 : g < w2.heap.size := block_lt_of_cell xa0_w2
 have hlt_gx_w2 : gx < w2.heap.size := block_lt_of_cell xx0_w2
 clear htw2
 go_wp2_with fail
 refine Calls.mono ((mark_em W0 p B [94]) _ _ _ (PSt.fresh PSTw2.out (frA (Touch.refl _ _))) FITw2.out.left) ?_
 rintro _ w3 ⟨rfl, htw3⟩
 have PSTw3 := hid (PSt.add2 (PSt.fresh PSTw2.out (frA (Touch.refl _ _))) htw3)
 have ACCw3 := hid (PrAdd.app ACCw2.out (PrAdd.freshL (show Fresh w2 _ from (frA (Touch.refl _ _))) htw3))
 have FITw3 := hid (Fits.right2 FITw2.out)
 have B0_w3 : Blk w3 (w.heap.size) 24 #[.int .i64 (8 : Int), tx, cl, .slice (some ⟨g, o, none⟩) 2 cap] := PrAdd.blk htw3 (by first | exact blkN | assumption | exact blkA (by assumption)) (by have := PSt.lt PST0.out; have := PSt.hB PST0.out; omega) (by decide) (by decide)
 have B1_w3 : Blk w3 (w.heap.size + 1) 24 #[.int .i64 a.kind, .string (⟨a.text.toArray⟩ : ByteArray), .int .i64 a.cols, .slice (some ⟨gx, ox, none⟩) 1 cax] := PrAdd.blk htw3 (by first | exact blkN | assumption | exact blkA (by assumption)) (by have := PSt.lt PST0.out; have := PSt.hB PST0.out; omega) (by decide) (by decide)
 clear q0_0_w2 q0_1_w2 q0_2_w2 q0_3_w2 B0_w2 q1_0_w2 q1_1_w2 q1_2_w2 q1_3_w2 B1_w2
 obtain ⟨q0_0_w3, q0_1_w3, q0_2_w3, q0_3_w3, _⟩ := Blk.four B0_w3
 obtain ⟨q1_0_w3, q1_1_w3, q1_2_w3, q1_3_w3, _⟩ := Blk.four B1_w3
 clear xa0_w2 xa1_w2 xa2_w2 xa3_w2 xb0_w2 xb1_w2 xb2_w2 xb3_w2 xx0_w2 xx1_w2 xx2_w2 xx3_w2
 obtain ⟨xa0_w3, xa1_w3, xa2_w3, xa3_w3⟩ := low4 (PSt.low PSTw3.out) XA0.out XA1.out XA2.out XA3.out
 obtain ⟨xb0_w3, xb1_w3, xb2_w3, xb3_w3⟩ := low4 (PSt.low PSTw3.out) XB0.out XB1.out XB2.out XB3.out
 obtain ⟨xx0_w3, xx1_w3, xx2_w3, xx3_w3⟩ := low4 (PSt.low PSTw3.out) XX0.out XX1.out XX2.out XX3.out
 have hlt_g_w3 : g < w3.heap.size := block_lt_of_cell xa0_w3
 have hlt_gx_w3 : gx < w3.heap.size := block_lt_of_cell xx0_w3
 clear htw3
 go_wp2_with fail
 refine Calls.mono ((ARGb.out) _ _ _ (PSt.fresh PSTw3.out (frA (Touch.refl _ _))) FITw3.out) ?_
 rintro _ w4 ⟨rfl, htw4⟩
 have PSTw4 := hid (PSt.add2 (PSt.fresh PSTw3.out (frA (Touch.refl _ _))) htw4)
 have ACCw4 := hid (PrAdd.app ACCw3.out (PrAdd.freshL (show Fresh w3 _ from (frA (Touch.refl _ _))) htw4))
 have B0_w4 : Blk w4 (w.heap.size) 24 #[.int .i64 (8 : Int), tx, cl, .slice (some ⟨g, o, none⟩) 2 cap] := PrAdd.blk htw4 (by first | exact blkN | assumption | exact blkA (by assumption)) (by have := PSt.lt PST0.out; have := PSt.hB PST0.out; omega) (by decide) (by decide)
 have B1_w4 : Blk w4 (w.heap.size + 1) 24 #[.int .i64 a.kind, .string (⟨a.text.toArray⟩ : ByteArray), .int .i64 a.cols, .slice (some ⟨gx, ox, none⟩) 1 cax] := PrAdd.blk htw4 (by first | exact blkN | assumption | exact blkA (by assumption)) (by have := PSt.lt PST0.out; have := PSt.hB PST0.out; omega) (by decide) (by decide)
 clear q0_0_w3 q0_1_w3 q0_2_w3 q0_3_w3 B0_w3 q1_0_w3 q1_1_w3 q1_2_w3 q1_3_w3 B1_w3
 obtain ⟨q0_0_w4, q0_1_w4, q0_2_w4, q0_3_w4, _⟩ := Blk.four B0_w4
 obtain ⟨q1_0_w4, q1_1_w4, q1_2_w4, q1_3_w4, _⟩ := Blk.four B1_w4
 clear xa0_w3 xa1_w3 xa2_w3 xa3_w3 xb0_w3 xb1_w3 xb2_w3 xb3_w3 xx0_w3 xx1_w3 xx2_w3 xx3_w3
 obtain ⟨xa0_w4, xa1_w4, xa2_w4, xa3_w4⟩ := low4 (PSt.low PSTw4.out) XA0.out XA1.out XA2.out XA3.out
 obtain ⟨xb0_w4, xb1_w4, xb2_w4, xb3_w4⟩ := low4 (PSt.low PSTw4.out) XB0.out XB1.out XB2.out XB3.out
 obtain ⟨xx0_w4, xx1_w4, xx2_w4, xx3_w4⟩ := low4 (PSt.low PSTw4.out) XX0.out XX1.out XX2.out XX3.out
 have hlt_g_w4 : g < w4.heap.size := block_lt_of_cell xa0_w4
 have hlt_gx_w4 : gx < w4.heap.size := block_lt_of_cell xx0_w4
 clear htw4
 go_wp2_with fail
 first | go_end0 | refine bodyPost_ret (v := .tuple #[]) (results_none rfl _ _ _) rfl ?_
 exact ⟨rfl, PrAdd.cast ACCw4.out (by first | rfl | (simp only [List.append_assoc] <;> rfl))⟩
set_option maxRecDepth 100000 in
set_option maxHeartbeats 1000000 in
theorem scripts_8_len (W0 : World) (p B : Nat) (tx cl : Value) (a b : Nd) (hx : a.kids.length ≠ 1) (ha : GroupE W0 p B a) (hb : ArgE W0 p B b) (sl : Value) (hsl : RepL W0 [a, b] sl) : Emits 130 #[pp p, .agg #[.int .i64 8, tx, cl, sl]] W0 p B (baseT a ++ ([Tr.mk7 94] ++ argT b)) := by
 intro w toks txt hp hf
 rw [baseT_len1 a hx] at hf ⊢
 obtain ⟨g, o, cap, sa, sb, rfl, a0, a1, a2, a3, hra, b0, b1, b2, b3, hrb⟩ := hsl.two
 have GRPa := hid (ha sa hra)
 have ARGb := hid (hb sb hrb)
 obtain ⟨Aa, capa, rfl⟩ := hra.slice
 have f1 : ((a.kids.length : Int) == 1) = false := by simp only [beq_eq_false_iff_ne]; omega
 have f2 : ¬ (a.kids.length : Int) = 1 := by omega
 have PST0 := hid hp
 have FIT0 := hid hf
 clear hp hf ha hb hsl hra hrb hx
 have XA0 := hid a0
 have XA1 := hid a1
 have XA2 := hid a2
 have XA3 := hid a3
 have XB0 := hid b0
 have XB1 := hid b1
 have XB2 := hid b2
 have XB3 := hid b3
 clear a0 a1 a2 a3 b0 b1 b2 b3
 obtain ⟨xa0_w, xa1_w, xa2_w, xa3_w⟩ := low4 (PSt.low PST0.out) XA0.out XA1.out XA2.out XA3.out
 obtain ⟨xb0_w, xb1_w, xb2_w, xb3_w⟩ := low4 (PSt.low PST0.out) XB0.out XB1.out XB2.out XB3.out
 have hlt_g_w : g < w.heap.size := block_lt_of_cell xa0_w
 go_enter Tryz.func130, Tryz.ntmps130
 go_wp2_with fail
 refine Calls.mono ((GRPa.out) _ _ _ (PSt.fresh PST0.out (frA (Touch.refl _ _))) FIT0.out.left) ?_
 rintro _ w1 ⟨rfl, htw1⟩
 have PSTw1 := hid (PSt.add (PSt.fresh PST0.out (frA (Touch.refl _ _))) htw1)
 have ACCw1 := hid (PrAdd.freshL (show Fresh w _ from (frA (Touch.refl _ _))) htw1)
 have FITw1 := hid (Fits.right FIT0.out)
 have B0_w1 : Blk w1 (w.heap.size) 24 #[.int .i64 (8 : Int), tx, cl, .slice (some ⟨g, o, none⟩) 2 cap] := PrAdd.blk htw1 (by first | exact blkN | assumption | exact blkA (by assumption)) (by have := PSt.lt PST0.out; have := PSt.hB PST0.out; omega) (by decide) (by decide)
 have B1_w1 : Blk w1 (w.heap.size + 1) 24 #[.int .i64 a.kind, .string (⟨a.text.toArray⟩ : ByteArray), .int .i64 a.cols, .slice Aa a.kids.length capa] := PrAdd.blk htw1 (by first | exact blkN | assumption | exact blkA (by assumption)) (by have := PSt.lt PST0.out; have := PSt.hB PST0.out; omega) (by decide) (by decide)
 obtain ⟨q0_0_w1, q0_1_w1, q0_2_w1, q0_3_w1, _⟩ := Blk.four B0_w1
 obtain ⟨q1_0_w1, q1_1_w1, q1_2_w1, q1_3_w1, _⟩ := Blk.four B1_w1
 clear xa0_w xa1_w xa2_w xa3_w xb0_w xb1_w xb2_w xb3_w
 obtain ⟨xa0_w1, xa1_w1, xa2_w1, xa3_w1⟩ := low4 (PSt.low PSTw1.out) XA0.out XA1.out XA2.out XA3.out
 obtain ⟨xb0_w1, xb1_w1, xb2_w1, xb3_w1⟩ := low4 (PSt.low PSTw1.out) XB0.out XB1.out XB2.out XB3.out
 have hlt_g_w1 : g < w1.heap.size := block_lt_of_cell xa0_w1
 clear htw1
 go_wp2_with fail
 refine Calls.mono ((mark_em W0 p B [94]) _ _ _ (PSt.fresh PSTw1.out (frA (Touch.refl _ _))) FITw1.out.left) ?_
 rintro _ w2 ⟨rfl, htw2⟩
 have PSTw2 := hid (PSt.add2 (PSt.fresh PSTw1.out (frA (Touch.refl _ _))) htw2)
 have ACCw2 := hid (PrAdd.app ACCw1.out (PrAdd.freshL (show Fresh w1 _ from (frA (Touch.refl _ _))) htw2))
 have FITw2 := hid (Fits.right2 FITw1.out)
 have B0_w2 : Blk w2 (w.heap.size) 24 #[.int .i64 (8 : Int), tx, cl, .slice (some ⟨g, o, none⟩) 2 cap] := PrAdd.blk htw2 (by first | exact blkN | assumption | exact blkA (by assumption)) (by have := PSt.lt PST0.out; have := PSt.hB PST0.out; omega) (by decide) (by decide)
 have B1_w2 : Blk w2 (w.heap.size + 1) 24 #[.int .i64 a.kind, .string (⟨a.text.toArray⟩ : ByteArray), .int .i64 a.cols, .slice Aa a.kids.length capa] := PrAdd.blk htw2 (by first | exact blkN | assumption | exact blkA (by assumption)) (by have := PSt.lt PST0.out; have := PSt.hB PST0.out; omega) (by decide) (by decide)
 clear q0_0_w1 q0_1_w1 q0_2_w1 q0_3_w1 B0_w1 q1_0_w1 q1_1_w1 q1_2_w1 q1_3_w1 B1_w1
 obtain ⟨q0_0_w2, q0_1_w2, q0_2_w2, q0_3_w2, _⟩ := Blk.four B0_w2
 obtain ⟨q1_0_w2, q1_1_w2, q1_2_w2, q1_3_w2, _⟩ := Blk.four B1_w2
 clear xa0_w1 xa1_w1 xa2_w1 xa3_w1 xb0_w1 xb1_w1 xb2_w1 xb3_w1
 obtain ⟨xa0_w2, xa1_w2, xa2_w2, xa3_w2⟩ := low4 (PSt.low PSTw2.out) XA0.out XA1.out XA2.out XA3.out
 obtain ⟨xb0_w2, xb1_w2, xb2_w2, xb3_w2⟩ := low4 (PSt.low PSTw2.out) XB0.out XB1.out XB2.out XB3.out
 have hlt_g_w2 : g < w2.heap.size := block_lt_of_cell xa0_w2
 clear htw2
 go_wp2_with fail
 refine Calls.mono ((ARGb.out) _ _ _ (PSt.fresh PSTw2.out (frA (Touch.refl _ _))) FITw2.out) ?_
 rintro _ w3 ⟨rfl, htw3⟩
 have PSTw3 := hid (PSt.add2 (PSt.fresh PSTw2.out (frA (Touch.refl _ _))) htw3)
 have ACCw3 := hid (PrAdd.app ACCw2.out (PrAdd.freshL (show Fresh w2 _ from (frA (Touch.refl _ _))) htw3))
 have B0_w3 : Blk w3 (w.heap.size) 24 #[.int .i64 (8 : Int), tx, cl, .slice (some ⟨g, o, none⟩) 2 cap] := PrAdd.blk htw3 (by first | exact blkN | assumption | exact blkA (by assumption)) (by have := PSt.lt PST0.out; have := PSt.hB PST0.out; omega) (by decide) (by decide)
 have B1_w3 : Blk w3 (w.heap.size + 1) 24 #[.int .i64 a.kind, .string (⟨a.text.toArray⟩ : ByteArray), .int .i64 a.cols, .slice Aa a.kids.length capa] := PrAdd.blk htw3 (by first | exact blkN | assumption | exact blkA (by assumption)) (by have := PSt.lt PST0.out; have := PSt.hB PST0.out; omega) (by decide) (by decide)
 clear q0_0_w2 q0_1_w2 q0_2_w2 q0_3_w2 B0_w2 q1_0_w2 q1_1_w2 q1_2_w2 q1_3_w2 B1_w2
 obtain ⟨q0_0_w3, q0_1_w3, q0_2_w3, q0_3_w3, _⟩ := Blk.four B0_w3
 obtain ⟨q1_0_w3, q1_1_w3, q1_2_w3, q1_3_w3, _⟩ := Blk.four B1_w3
 clear xa0_w2 xa1_w2 xa2_w2 xa3_w2 xb0_w2 xb1_w2 xb2_w2 xb3_w2
 obtain ⟨xa0_w3, xa1_w3, xa2_w3, xa3_w3⟩ := low4 (PSt.low PSTw3.out) XA0.out XA1.out XA2.out XA3.out
 obtain ⟨xb0_w3, xb1_w3, xb2_w3, xb3_w3⟩ := low4 (PSt.low PSTw3.out) XB0.out XB1.out XB2.out XB3.out
 have hlt_g_w3 : g < w3.heap.size := block_lt_of_cell xa0_w3
 clear htw3
 go_wp2_with fail
 first | go_end0 | refine bodyPost_ret (v := .tuple #[]) (results_none rfl _ _ _) rfl ?_
 exact ⟨rfl, PrAdd.cast ACCw3.out (by first | rfl | (simp only [List.append_assoc] <;> rfl))⟩
set_option maxRecDepth 100000 in
set_option maxHeartbeats 1000000 in
theorem scripts_9_row (W0 : World) (p B : Nat) (tx cl : Value) (a b d : Nd) (x : Nd) (hx : a.kids = [x]) (hs : Tr.scripted x = false) (ha : RowE W0 p B a) (hb : ArgE W0 p B b) (hd : ArgE W0 p B d) (sl : Value) (hsl : RepL W0 [a, b, d] sl) : Emits 130 #[pp p, .agg #[.int .i64 9, tx, cl, sl]] W0 p B (baseT a ++ ([Tr.mk7 95] ++ (argT b ++ ([Tr.mk7 94] ++ argT d)))) := by
 intro w toks txt hp hf
 rw [baseT_row a x hx hs] at hf ⊢
 obtain ⟨g, o, cap, sa, sb, sd, rfl, a0, a1, a2, a3, hra, b0, b1, b2, b3, hrb, d0, d1, d2, d3, hrd⟩ := hsl.three
 have ROWa := hid (ha sa hra)
 have ARGb := hid (hb sb hrb)
 have ARGd := hid (hd sd hrd)
 rw [hx] at hra
 obtain ⟨gx, ox, cax, sx, rfl, x0, x1, x2, x3, hrx⟩ := hra.one
 have e1 : a.kids.length = 1 := by rw [hx]; rfl
 have HS := hid hs
 clear e1 hs hrx
 have PST0 := hid hp
 have FIT0 := hid hf
 clear hp hf ha hb hd hsl hra hrb hrd hx
 have XA0 := hid a0
 have XA1 := hid a1
 have XA2 := hid a2
 have XA3 := hid a3
 have XB0 := hid b0
 have XB1 := hid b1
 have XB2 := hid b2
 have XB3 := hid b3
 have XD0 := hid d0
 have XD1 := hid d1
 have XD2 := hid d2
 have XD3 := hid d3
 have XX0 := hid x0
 have XX1 := hid x1
 have XX2 := hid x2
 have XX3 := hid x3
 clear a0 a1 a2 a3 b0 b1 b2 b3 d0 d1 d2 d3 x0 x1 x2 x3
 obtain ⟨xa0_w, xa1_w, xa2_w, xa3_w⟩ := low4 (PSt.low PST0.out) XA0.out XA1.out XA2.out XA3.out
 obtain ⟨xb0_w, xb1_w, xb2_w, xb3_w⟩ := low4 (PSt.low PST0.out) XB0.out XB1.out XB2.out XB3.out
 obtain ⟨xd0_w, xd1_w, xd2_w, xd3_w⟩ := low4 (PSt.low PST0.out) XD0.out XD1.out XD2.out XD3.out
 obtain ⟨xx0_w, xx1_w, xx2_w, xx3_w⟩ := low4 (PSt.low PST0.out) XX0.out XX1.out XX2.out XX3.out
 have hlt_g_w : g < w.heap.size := block_lt_of_cell xa0_w
 have hlt_gx_w : gx < w.heap.size := block_lt_of_cell xx0_w
 go_enter Tryz.func130, Tryz.ntmps130
 go_wp2_with fail
 refine Calls.mono (scripted_is x _ _ HS.out) ?_
 rintro _ w1 ⟨rfl, hfw1⟩
 have HF1 := hid (show Fresh w w1 from preA hfw1)
 have B0_w1 : Blk w1 (w.heap.size) 24 #[.int .i64 (9 : Int), tx, cl, .slice (some ⟨g, o, none⟩) 3 cap] := Touch.blk hfw1 (by first | exact blkN | assumption | exact blkA (by assumption)) (fun h => h)
 have B1_w1 : Blk w1 (w.heap.size + 1) 24 #[.int .i64 a.kind, .string (⟨a.text.toArray⟩ : ByteArray), .int .i64 a.cols, .slice (some ⟨gx, ox, none⟩) 1 cax] := Touch.blk hfw1 (by first | exact blkN | assumption | exact blkA (by assumption)) (fun h => h)
 obtain ⟨q0_0_w1, q0_1_w1, q0_2_w1, q0_3_w1, _⟩ := Blk.four B0_w1
 obtain ⟨q1_0_w1, q1_1_w1, q1_2_w1, q1_3_w1, _⟩ := Blk.four B1_w1
 obtain ⟨xa0_w1, xa1_w1, xa2_w1, xa3_w1⟩ := mv4 HF1.out xa0_w xa1_w xa2_w xa3_w
 obtain ⟨xb0_w1, xb1_w1, xb2_w1, xb3_w1⟩ := mv4 HF1.out xb0_w xb1_w xb2_w xb3_w
 obtain ⟨xd0_w1, xd1_w1, xd2_w1, xd3_w1⟩ := mv4 HF1.out xd0_w xd1_w xd2_w xd3_w
 obtain ⟨xx0_w1, xx1_w1, xx2_w1, xx3_w1⟩ := mv4 HF1.out xx0_w xx1_w xx2_w xx3_w
 clear xa0_w xa1_w xa2_w xa3_w xb0_w xb1_w xb2_w xb3_w xd0_w xd1_w xd2_w xd3_w xx0_w xx1_w xx2_w xx3_w
 have hlt_g_w1 : g < w1.heap.size := block_lt_of_cell xa0_w1
 have hlt_gx_w1 : gx < w1.heap.size := block_lt_of_cell xx0_w1
 have PSTw1 := hid (PSt.fresh PST0.out HF1.out)
 clear hfw1
 go_wp2_with fail
 refine Calls.mono ((ROWa.out) _ _ _ (PSt.fresh PSTw1.out (frA (Touch.refl _ _))) FIT0.out.left) ?_
 rintro _ w2 ⟨rfl, htw2⟩
 have PSTw2 := hid (PSt.add (PSt.fresh PSTw1.out (frA (Touch.refl _ _))) htw2)
 have ACCw2 := hid (PrAdd.freshL (show Fresh w _ from (frA HF1.out)) htw2)
 have FITw2 := hid (Fits.right FIT0.out)
 have B0_w2 : Blk w2 (w.heap.size) 24 #[.int .i64 (9 : Int), tx, cl, .slice (some ⟨g, o, none⟩) 3 cap] := PrAdd.blk htw2 (by first | exact blkN | assumption | exact blkA (by assumption)) (by have := PSt.lt PST0.out; have := PSt.hB PST0.out; omega) (by decide) (by decide)
 have B1_w2 : Blk w2 (w.heap.size + 1) 24 #[.int .i64 a.kind, .string (⟨a.text.toArray⟩ : ByteArray), .int .i64 a.cols, .slice (some ⟨gx, ox, none⟩) 1 cax] := PrAdd.blk htw2 (by first | exact blkN | assumption | exact blkA (by assumption)) (by have := PSt.lt PST0.out; have := PSt.hB PST0.out; omega) (by decide) (by decide)
 clear q0_0_w1 q0_1_w1 q0_2_w1 q0_3_w1 B0_w1 q1_0_w1 q1_1_w1 q1_2_w1 q1_3_w1 B1_w1
 obtain ⟨q0_0_w2, q0_1_w2, q0_2_w2, q0_3_w2, _⟩ := Blk.four B0_w2
 obtain ⟨q1_0_w2, q1_1_w2, q1_2_w2, q1_3_w2, _⟩ := Blk.four B1_w2
 clear xa0_w1 xa1_w1 xa2_w1 xa3_w1 xb0_w1 xb1_w1 xb2_w1 xb3_w1 xd0_w1 xd1_w1 xd2_w1 xd3_w1 xx0_w1 xx1_w1 xx2_w1 xx3_w1
 obtain ⟨xa0_w2, xa1_w2, xa2_w2, xa3_w2⟩ := low4 (PSt.low PSTw2.out) XA0.out XA1.out XA2.out XA3.out
 obtain ⟨xb0_w2, xb1_w2, xb2_w2, xb3_w2⟩ := low4 (PSt.low PSTw2.out) XB0.out XB1.out XB2.out XB3.out
 obtain ⟨xd0_w2, xd1_w2, xd2_w2, xd3_w2⟩ := low4 (PSt.low PSTw2.out) XD0.out XD1.out XD2.out XD3.out
 obtain ⟨xx0_w2, xx1_w2, xx2_w2, xx3_w2⟩ := low4 (PSt.low PSTw2.out) XX0.out XX1.out XX2.out XX3.out
 have hlt_g_w2 : g < w2.heap.size := block_lt_of_cell xa0_w2
 have hlt_gx_w2 : gx < w2.heap.size := block_lt_of_cell xx0_w2
 clear htw2
 go_wp2_with fail
 refine Calls.mono ((mark_em W0 p B [95]) _ _ _ (PSt.fresh PSTw2.out (frA (Touch.refl _ _))) FITw2.out.left) ?_
 rintro _ w3 ⟨rfl, htw3⟩
 have PSTw3 := hid (PSt.add2 (PSt.fresh PSTw2.out (frA (Touch.refl _ _))) htw3)
 have ACCw3 := hid (PrAdd.app ACCw2.out (PrAdd.freshL (show Fresh w2 _ from (frA (Touch.refl _ _))) htw3))
 have FITw3 := hid (Fits.right2 FITw2.out)
 have B0_w3 : Blk w3 (w.heap.size) 24 #[.int .i64 (9 : Int), tx, cl, .slice (some ⟨g, o, none⟩) 3 cap] := PrAdd.blk htw3 (by first | exact blkN | assumption | exact blkA (by assumption)) (by have := PSt.lt PST0.out; have := PSt.hB PST0.out; omega) (by decide) (by decide)
 have B1_w3 : Blk w3 (w.heap.size + 1) 24 #[.int .i64 a.kind, .string (⟨a.text.toArray⟩ : ByteArray), .int .i64 a.cols, .slice (some ⟨gx, ox, none⟩) 1 cax] := PrAdd.blk htw3 (by first | exact blkN | assumption | exact blkA (by assumption)) (by have := PSt.lt PST0.out; have := PSt.hB PST0.out; omega) (by decide) (by decide)
 clear q0_0_w2 q0_1_w2 q0_2_w2 q0_3_w2 B0_w2 q1_0_w2 q1_1_w2 q1_2_w2 q1_3_w2 B1_w2
 obtain ⟨q0_0_w3, q0_1_w3, q0_2_w3, q0_3_w3, _⟩ := Blk.four B0_w3
 obtain ⟨q1_0_w3, q1_1_w3, q1_2_w3, q1_3_w3, _⟩ := Blk.four B1_w3
 clear xa0_w2 xa1_w2 xa2_w2 xa3_w2 xb0_w2 xb1_w2 xb2_w2 xb3_w2 xd0_w2 xd1_w2 xd2_w2 xd3_w2 xx0_w2 xx1_w2 xx2_w2 xx3_w2
 obtain ⟨xa0_w3, xa1_w3, xa2_w3, xa3_w3⟩ := low4 (PSt.low PSTw3.out) XA0.out XA1.out XA2.out XA3.out
 obtain ⟨xb0_w3, xb1_w3, xb2_w3, xb3_w3⟩ := low4 (PSt.low PSTw3.out) XB0.out XB1.out XB2.out XB3.out
 obtain ⟨xd0_w3, xd1_w3, xd2_w3, xd3_w3⟩ := low4 (PSt.low PSTw3.out) XD0.out XD1.out XD2.out XD3.out
 obtain ⟨xx0_w3, xx1_w3, xx2_w3, xx3_w3⟩ := low4 (PSt.low PSTw3.out) XX0.out XX1.out XX2.out XX3.out
 have hlt_g_w3 : g < w3.heap.size := block_lt_of_cell xa0_w3
 have hlt_gx_w3 : gx < w3.heap.size := block_lt_of_cell xx0_w3
 clear htw3
 go_wp2_with fail
 refine Calls.mono ((ARGb.out) _ _ _ (PSt.fresh PSTw3.out (frA (Touch.refl _ _))) FITw3.out.left) ?_
 rintro _ w4 ⟨rfl, htw4⟩
 have PSTw4 := hid (PSt.add2 (PSt.fresh PSTw3.out (frA (Touch.refl _ _))) htw4)
 have ACCw4 := hid (PrAdd.app ACCw3.out (PrAdd.freshL (show Fresh w3 _ from (frA (Touch.refl _ _))) htw4))
 have FITw4 := hid (Fits.right2 FITw3.out)
 have B0_w4 : Blk w4 (w.heap.size) 24 #[.int .i64 (9 : Int), tx, cl, .slice (some ⟨g, o, none⟩) 3 cap] := PrAdd.blk htw4 (by first | exact blkN | assumption | exact blkA (by assumption)) (by have := PSt.lt PST0.out; have := PSt.hB PST0.out; omega) (by decide) (by decide)
 have B1_w4 : Blk w4 (w.heap.size + 1) 24 #[.int .i64 a.kind, .string (⟨a.text.toArray⟩ : ByteArray), .int .i64 a.cols, .slice (some ⟨gx, ox, none⟩) 1 cax] := PrAdd.blk htw4 (by first | exact blkN | assumption | exact blkA (by assumption)) (by have := PSt.lt PST0.out; have := PSt.hB PST0.out; omega) (by decide) (by decide)
 clear q0_0_w3 q0_1_w3 q0_2_w3 q0_3_w3 B0_w3 q1_0_w3 q1_1_w3 q1_2_w3 q1_3_w3 B1_w3
 obtain ⟨q0_0_w4, q0_1_w4, q0_2_w4, q0_3_w4, _⟩ := Blk.four B0_w4
 obtain ⟨q1_0_w4, q1_1_w4, q1_2_w4, q1_3_w4, _⟩ := Blk.four B1_w4
 clear xa0_w3 xa1_w3 xa2_w3 xa3_w3 xb0_w3 xb1_w3 xb2_w3 xb3_w3 xd0_w3 xd1_w3 xd2_w3 xd3_w3 xx0_w3 xx1_w3 xx2_w3 xx3_w3
 obtain ⟨xa0_w4, xa1_w4, xa2_w4, xa3_w4⟩ := low4 (PSt.low PSTw4.out) XA0.out XA1.out XA2.out XA3.out
 obtain ⟨xb0_w4, xb1_w4, xb2_w4, xb3_w4⟩ := low4 (PSt.low PSTw4.out) XB0.out XB1.out XB2.out XB3.out
 obtain ⟨xd0_w4, xd1_w4, xd2_w4, xd3_w4⟩ := low4 (PSt.low PSTw4.out) XD0.out XD1.out XD2.out XD3.out
 obtain ⟨xx0_w4, xx1_w4, xx2_w4, xx3_w4⟩ := low4 (PSt.low PSTw4.out) XX0.out XX1.out XX2.out XX3.out
 have hlt_g_w4 : g < w4.heap.size := block_lt_of_cell xa0_w4
 have hlt_gx_w4 : gx < w4.heap.size := block_lt_of_cell xx0_w4
 clear htw4
 go_wp2_with fail
 refine Calls.mono ((mark_em W0 p B [94]) _ _ _ (PSt.fresh PSTw4.out (frA (Touch.refl _ _))) FITw4.out.left) ?_
 rintro _ w5 ⟨rfl, htw5⟩
 have PSTw5 := hid (PSt.add2 (PSt.fresh PSTw4.out (frA (Touch.refl _ _))) htw5)
 have ACCw5 := hid (PrAdd.app ACCw4.out (PrAdd.freshL (show Fresh w4 _ from (frA (Touch.refl _ _))) htw5))
 have FITw5 := hid (Fits.right2 FITw4.out)
 have B0_w5 : Blk w5 (w.heap.size) 24 #[.int .i64 (9 : Int), tx, cl, .slice (some ⟨g, o, none⟩) 3 cap] := PrAdd.blk htw5 (by first | exact blkN | assumption | exact blkA (by assumption)) (by have := PSt.lt PST0.out; have := PSt.hB PST0.out; omega) (by decide) (by decide)
 have B1_w5 : Blk w5 (w.heap.size + 1) 24 #[.int .i64 a.kind, .string (⟨a.text.toArray⟩ : ByteArray), .int .i64 a.cols, .slice (some ⟨gx, ox, none⟩) 1 cax] := PrAdd.blk htw5 (by first | exact blkN | assumption | exact blkA (by assumption)) (by have := PSt.lt PST0.out; have := PSt.hB PST0.out; omega) (by decide) (by decide)
 clear q0_0_w4 q0_1_w4 q0_2_w4 q0_3_w4 B0_w4 q1_0_w4 q1_1_w4 q1_2_w4 q1_3_w4 B1_w4
 obtain ⟨q0_0_w5, q0_1_w5, q0_2_w5, q0_3_w5, _⟩ := Blk.four B0_w5
 obtain ⟨q1_0_w5, q1_1_w5, q1_2_w5, q1_3_w5, _⟩ := Blk.four B1_w5
 clear xa0_w4 xa1_w4 xa2_w4 xa3_w4 xb0_w4 xb1_w4 xb2_w4 xb3_w4 xd0_w4 xd1_w4 xd2_w4 xd3_w4 xx0_w4 xx1_w4 xx2_w4 xx3_w4
 obtain ⟨xa0_w5, xa1_w5, xa2_w5, xa3_w5⟩ := low4 (PSt.low PSTw5.out) XA0.out XA1.out XA2.out XA3.out
 obtain ⟨xb0_w5, xb1_w5, xb2_w5, xb3_w5⟩ := low4 (PSt.low PSTw5.out) XB0.out XB1.out XB2.out XB3.out
 obtain ⟨xd0_w5, xd1_w5, xd2_w5, xd3_w5⟩ := low4 (PSt.low PSTw5.out) XD0.out XD1.out XD2.out XD3.out
 obtain ⟨xx0_w5, xx1_w5, xx2_w5, xx3_w5⟩ := low4 (PSt.low PSTw5.out) XX0.out XX1.out XX2.out XX3.out
 have hlt_g_w5 : g < w5.heap.size := block_lt_of_cell xa0_w5
 have hlt_gx_w5 : gx < w5.heap.size := block_lt_of_cell xx0_w5
 clear htw5
 go_wp2_with fail
 refine Calls.mono ((ARGd.out) _ _ _ (PSt.fresh PSTw5.out (frA (Touch.refl _ _))) FITw5.out) ?_
 rintro _ w6 ⟨rfl, htw6⟩
 have PSTw6 := hid (PSt.add2 (PSt.fresh PSTw5.out (frA (Touch.refl _ _))) htw6)
 have ACCw6 := hid (PrAdd.app ACCw5.out (PrAdd.freshL (show Fresh w5 _ from (frA (Touch.refl _ _))) htw6))
 have B0_w6 : Blk w6 (w.heap.size) 24 #[.int .i64 (9 : Int), tx, cl, .slice (some ⟨g, o, none⟩) 3 cap] := PrAdd.blk htw6 (by first | exact blkN | assumption | exact blkA (by assumption)) (by have := PSt.lt PST0.out; have := PSt.hB PST0.out; omega) (by decide) (by decide)
 have B1_w6 : Blk w6 (w.heap.size + 1) 24 #[.int .i64 a.kind, .string (⟨a.text.toArray⟩ : ByteArray), .int .i64 a.cols, .slice (some ⟨gx, ox, none⟩) 1 cax] := PrAdd.blk htw6 (by first | exact blkN | assumption | exact blkA (by assumption)) (by have := PSt.lt PST0.out; have := PSt.hB PST0.out; omega) (by decide) (by decide)
 clear q0_0_w5 q0_1_w5 q0_2_w5 q0_3_w5 B0_w5 q1_0_w5 q1_1_w5 q1_2_w5 q1_3_w5 B1_w5
 obtain ⟨q0_0_w6, q0_1_w6, q0_2_w6, q0_3_w6, _⟩ := Blk.four B0_w6
 obtain ⟨q1_0_w6, q1_1_w6, q1_2_w6, q1_3_w6, _⟩ := Blk.four B1_w6
 clear xa0_w5 xa1_w5 xa2_w5 xa3_w5 xb0_w5 xb1_w5 xb2_w5 xb3_w5 xd0_w5 xd1_w5 xd2_w5 xd3_w5 xx0_w5 xx1_w5 xx2_w5 xx3_w5
 obtain ⟨xa0_w6, xa1_w6, xa2_w6, xa3_w6⟩ := low4 (PSt.low PSTw6.out) XA0.out XA1.out XA2.out XA3.out
 obtain ⟨xb0_w6, xb1_w6, xb2_w6, xb3_w6⟩ := low4 (PSt.low PSTw6.out) XB0.out XB1.out XB2.out XB3.out
 obtain ⟨xd0_w6, xd1_w6, xd2_w6, xd3_w6⟩ := low4 (PSt.low PSTw6.out) XD0.out XD1.out XD2.out XD3.out
 obtain ⟨xx0_w6, xx1_w6, xx2_w6, xx3_w6⟩ := low4 (PSt.low PSTw6.out) XX0.out XX1.out XX2.out XX3.out
 have hlt_g_w6 : g < w6.heap.size := block_lt_of_cell xa0_w6
 have hlt_gx_w6 : gx < w6.heap.size := block_lt_of_cell xx0_w6
 clear htw6
 go_wp2_with fail
 first | go_end0 | refine bodyPost_ret (v := .tuple #[]) (results_none rfl _ _ _) rfl ?_
 exact ⟨rfl, PrAdd.cast ACCw6.out (by first | rfl | (simp only [List.append_assoc] <;> rfl))⟩
set_option maxRecDepth 100000 in
set_option maxHeartbeats 1000000 in
theorem scripts_9_item (W0 : World) (p B : Nat) (tx cl : Value) (a b d : Nd) (x : Nd) (hx : a.kids = [x]) (hs : Tr.scripted x = true) (ha : GroupE W0 p B a) (hb : ArgE W0 p B b) (hd : ArgE W0 p B d) (sl : Value) (hsl : RepL W0 [a, b, d] sl) : Emits 130 #[pp p, .agg #[.int .i64 9, tx, cl, sl]] W0 p B (baseT a ++ ([Tr.mk7 95] ++ (argT b ++ ([Tr.mk7 94] ++ argT d)))) := by
 intro w toks txt hp hf
 rw [baseT_grp a x hx hs] at hf ⊢
 obtain ⟨g, o, cap, sa, sb, sd, rfl, a0, a1, a2, a3, hra, b0, b1, b2, b3, hrb, d0, d1, d2, d3, hrd⟩ := hsl.three
 have GRPa := hid (ha sa hra)
 have ARGb := hid (hb sb hrb)
 have ARGd := hid (hd sd hrd)
 rw [hx] at hra
 obtain ⟨gx, ox, cax, sx, rfl, x0, x1, x2, x3, hrx⟩ := hra.one
 have e1 : a.kids.length = 1 := by rw [hx]; rfl
 have HS := hid hs
 clear e1 hs hrx
 have PST0 := hid hp
 have FIT0 := hid hf
 clear hp hf ha hb hd hsl hra hrb hrd hx
 have XA0 := hid a0
 have XA1 := hid a1
 have XA2 := hid a2
 have XA3 := hid a3
 have XB0 := hid b0
 have XB1 := hid b1
 have XB2 := hid b2
 have XB3 := hid b3
 have XD0 := hid d0
 have XD1 := hid d1
 have XD2 := hid d2
 have XD3 := hid d3
 have XX0 := hid x0
 have XX1 := hid x1
 have XX2 := hid x2
 have XX3 := hid x3
 clear a0 a1 a2 a3 b0 b1 b2 b3 d0 d1 d2 d3 x0 x1 x2 x3
 obtain ⟨xa0_w, xa1_w, xa2_w, xa3_w⟩ := low4 (PSt.low PST0.out) XA0.out XA1.out XA2.out XA3.out
 obtain ⟨xb0_w, xb1_w, xb2_w, xb3_w⟩ := low4 (PSt.low PST0.out) XB0.out XB1.out XB2.out XB3.out
 obtain ⟨xd0_w, xd1_w, xd2_w, xd3_w⟩ := low4 (PSt.low PST0.out) XD0.out XD1.out XD2.out XD3.out
 obtain ⟨xx0_w, xx1_w, xx2_w, xx3_w⟩ := low4 (PSt.low PST0.out) XX0.out XX1.out XX2.out XX3.out
 have hlt_g_w : g < w.heap.size := block_lt_of_cell xa0_w
 have hlt_gx_w : gx < w.heap.size := block_lt_of_cell xx0_w
 go_enter Tryz.func130, Tryz.ntmps130
 go_wp2_with fail
 refine Calls.mono (scripted_is x _ _ HS.out) ?_
 rintro _ w1 ⟨rfl, hfw1⟩
 have HF1 := hid (show Fresh w w1 from preA hfw1)
 have B0_w1 : Blk w1 (w.heap.size) 24 #[.int .i64 (9 : Int), tx, cl, .slice (some ⟨g, o, none⟩) 3 cap] := Touch.blk hfw1 (by first | exact blkN | assumption | exact blkA (by assumption)) (fun h => h)
 have B1_w1 : Blk w1 (w.heap.size + 1) 24 #[.int .i64 a.kind, .string (⟨a.text.toArray⟩ : ByteArray), .int .i64 a.cols, .slice (some ⟨gx, ox, none⟩) 1 cax] := Touch.blk hfw1 (by first | exact blkN | assumption | exact blkA (by assumption)) (fun h => h)
 obtain ⟨q0_0_w1, q0_1_w1, q0_2_w1, q0_3_w1, _⟩ := Blk.four B0_w1
 obtain ⟨q1_0_w1, q1_1_w1, q1_2_w1, q1_3_w1, _⟩ := Blk.four B1_w1
 obtain ⟨xa0_w1, xa1_w1, xa2_w1, xa3_w1⟩ := mv4 HF1.out xa0_w xa1_w xa2_w xa3_w
 obtain ⟨xb0_w1, xb1_w1, xb2_w1, xb3_w1⟩ := mv4 HF1.out xb0_w xb1_w xb2_w xb3_w
 obtain ⟨xd0_w1, xd1_w1, xd2_w1, xd3_w1⟩ := mv4 HF1.out xd0_w xd1_w xd2_w xd3_w
 obtain ⟨xx0_w1, xx1_w1, xx2_w1, xx3_w1⟩ := mv4 HF1.out xx0_w xx1_w xx2_w xx3_w
 clear xa0_w xa1_w xa2_w xa3_w xb0_w xb1_w xb2_w xb3_w xd0_w xd1_w xd2_w xd3_w xx0_w xx1_w xx2_w xx3_w
 have hlt_g_w1 : g < w1.heap.size := block_lt_of_cell xa0_w1
 have hlt_gx_w1 : gx < w1.heap.size := block_lt_of_cell xx0_w1
 have PSTw1 := hid (PSt.fresh PST0.out HF1.out)
 clear hfw1
 go_wp2_with fail
 refine Calls.mono ((GRPa.out) _ _ _ (PSt.fresh PSTw1.out (frA (Touch.refl _ _))) FIT0.out.left) ?_
 rintro _ w2 ⟨rfl, htw2⟩
 have PSTw2 := hid (PSt.add (PSt.fresh PSTw1.out (frA (Touch.refl _ _))) htw2)
 have ACCw2 := hid (PrAdd.freshL (show Fresh w _ from (frA HF1.out)) htw2)
 have FITw2 := hid (Fits.right FIT0.out)
 have B0_w2 : Blk w2 (w.heap.size) 24 #[.int .i64 (9 : Int), tx, cl, .slice (some ⟨g, o, none⟩) 3 cap] := PrAdd.blk htw2 (by first | exact blkN | assumption | exact blkA (by assumption)) (by have := PSt.lt PST0.out; have := PSt.hB PST0.out; omega) (by decide) (by decide)
 have B1_w2 : Blk w2 (w.heap.size + 1) 24 #[.int .i64 a.kind, .string (⟨a.text.toArray⟩ : ByteArray), .int .i64 a.cols, .slice (some ⟨gx, ox, none⟩) 1 cax] := PrAdd.blk htw2 (by first | exact blkN | assumption | exact blkA (by assumption)) (by have := PSt.lt PST0.out; have := PSt.hB PST0.out; omega) (by decide) (by decide)
 clear q0_0_w1 q0_1_w1 q0_2_w1 q0_3_w1 B0_w1 q1_0_w1 q1_1_w1 q1_2_w1 q1_3_w1 B1_w1
 obtain ⟨q0_0_w2, q0_1_w2, q0_2_w2, q0_3_w2, _⟩ := Blk.four B0_w2
 obtain ⟨q1_0_w2, q1_1_w2, q1_2_w2, q1_3_w2, _⟩ := Blk.four B1_w2
 clear xa0_w1 xa1_w1 xa2_w1 xa3_w1 xb0_w1 xb1_w1 xb2_w1 xb3_w1 xd0_w1 xd1_w1 xd2_w1 xd3_w1 xx0_w1 xx1_w1 xx2_w1 xx3_w1
 obtain ⟨xa0_w2, xa1_w2, xa2_w2, xa3_w2⟩ := low4 (PSt.low PSTw2.out) XA0.out XA1.out XA2.out XA3.out
 obtain ⟨xb0_w2, xb1_w2, xb2_w2, xb3_w2⟩ := low4 (PSt.low PSTw2.out) XB0.out XB1.out XB2.out XB3.out
 obtain ⟨xd0_w2, xd1_w2, xd2_w2, xd3_w2⟩ := low4 (PSt.low PSTw2.out) XD0.out XD1.out XD2.out XD3.out
 obtain ⟨xx0_w2, xx1_w2, xx2_w2, xx3_w2⟩ := low4 (PSt.low PSTw2.out) XX0.out XX1.out XX2.out XX3.out
 have hlt_g_w2 : g < w2.heap.size := block_lt_of_cell xa0_w2
 have hlt_gx_w2 : gx < w2.heap.size := block_lt_of_cell xx0_w2
 clear htw2
 go_wp2_with fail
 refine Calls.mono ((mark_em W0 p B [95]) _ _ _ (PSt.fresh PSTw2.out (frA (Touch.refl _ _))) FITw2.out.left) ?_
 rintro _ w3 ⟨rfl, htw3⟩
 have PSTw3 := hid (PSt.add2 (PSt.fresh PSTw2.out (frA (Touch.refl _ _))) htw3)
 have ACCw3 := hid (PrAdd.app ACCw2.out (PrAdd.freshL (show Fresh w2 _ from (frA (Touch.refl _ _))) htw3))
 have FITw3 := hid (Fits.right2 FITw2.out)
 have B0_w3 : Blk w3 (w.heap.size) 24 #[.int .i64 (9 : Int), tx, cl, .slice (some ⟨g, o, none⟩) 3 cap] := PrAdd.blk htw3 (by first | exact blkN | assumption | exact blkA (by assumption)) (by have := PSt.lt PST0.out; have := PSt.hB PST0.out; omega) (by decide) (by decide)
 have B1_w3 : Blk w3 (w.heap.size + 1) 24 #[.int .i64 a.kind, .string (⟨a.text.toArray⟩ : ByteArray), .int .i64 a.cols, .slice (some ⟨gx, ox, none⟩) 1 cax] := PrAdd.blk htw3 (by first | exact blkN | assumption | exact blkA (by assumption)) (by have := PSt.lt PST0.out; have := PSt.hB PST0.out; omega) (by decide) (by decide)
 clear q0_0_w2 q0_1_w2 q0_2_w2 q0_3_w2 B0_w2 q1_0_w2 q1_1_w2 q1_2_w2 q1_3_w2 B1_w2
 obtain ⟨q0_0_w3, q0_1_w3, q0_2_w3, q0_3_w3, _⟩ := Blk.four B0_w3
 obtain ⟨q1_0_w3, q1_1_w3, q1_2_w3, q1_3_w3, _⟩ := Blk.four B1_w3
 clear xa0_w2 xa1_w2 xa2_w2 xa3_w2 xb0_w2 xb1_w2 xb2_w2 xb3_w2 xd0_w2 xd1_w2 xd2_w2 xd3_w2 xx0_w2 xx1_w2 xx2_w2 xx3_w2
 obtain ⟨xa0_w3, xa1_w3, xa2_w3, xa3_w3⟩ := low4 (PSt.low PSTw3.out) XA0.out XA1.out XA2.out XA3.out
 obtain ⟨xb0_w3, xb1_w3, xb2_w3, xb3_w3⟩ := low4 (PSt.low PSTw3.out) XB0.out XB1.out XB2.out XB3.out
 obtain ⟨xd0_w3, xd1_w3, xd2_w3, xd3_w3⟩ := low4 (PSt.low PSTw3.out) XD0.out XD1.out XD2.out XD3.out
 obtain ⟨xx0_w3, xx1_w3, xx2_w3, xx3_w3⟩ := low4 (PSt.low PSTw3.out) XX0.out XX1.out XX2.out XX3.out
 have hlt_g_w3 : g < w3.heap.size := block_lt_of_cell xa0_w3
 have hlt_gx_w3 : gx < w3.heap.size := block_lt_of_cell xx0_w3
 clear htw3
 go_wp2_with fail
 refine Calls.mono ((ARGb.out) _ _ _ (PSt.fresh PSTw3.out (frA (Touch.refl _ _))) FITw3.out.left) ?_
 rintro _ w4 ⟨rfl, htw4⟩
 have PSTw4 := hid (PSt.add2 (PSt.fresh PSTw3.out (frA (Touch.refl _ _))) htw4)
 have ACCw4 := hid (PrAdd.app ACCw3.out (PrAdd.freshL (show Fresh w3 _ from (frA (Touch.refl _ _))) htw4))
 have FITw4 := hid (Fits.right2 FITw3.out)
 have B0_w4 : Blk w4 (w.heap.size) 24 #[.int .i64 (9 : Int), tx, cl, .slice (some ⟨g, o, none⟩) 3 cap] := PrAdd.blk htw4 (by first | exact blkN | assumption | exact blkA (by assumption)) (by have := PSt.lt PST0.out; have := PSt.hB PST0.out; omega) (by decide) (by decide)
 have B1_w4 : Blk w4 (w.heap.size + 1) 24 #[.int .i64 a.kind, .string (⟨a.text.toArray⟩ : ByteArray), .int .i64 a.cols, .slice (some ⟨gx, ox, none⟩) 1 cax] := PrAdd.blk htw4 (by first | exact blkN | assumption | exact blkA (by assumption)) (by have := PSt.lt PST0.out; have := PSt.hB PST0.out; omega) (by decide) (by decide)
 clear q0_0_w3 q0_1_w3 q0_2_w3 q0_3_w3 B0_w3 q1_0_w3 q1_1_w3 q1_2_w3 q1_3_w3 B1_w3
 obtain ⟨q0_0_w4, q0_1_w4, q0_2_w4, q0_3_w4, _⟩ := Blk.four B0_w4
 obtain ⟨q1_0_w4, q1_1_w4, q1_2_w4, q1_3_w4, _⟩ := Blk.four B1_w4
 clear xa0_w3 xa1_w3 xa2_w3 xa3_w3 xb0_w3 xb1_w3 xb2_w3 xb3_w3 xd0_w3 xd1_w3 xd2_w3 xd3_w3 xx0_w3 xx1_w3 xx2_w3 xx3_w3
 obtain ⟨xa0_w4, xa1_w4, xa2_w4, xa3_w4⟩ := low4 (PSt.low PSTw4.out) XA0.out XA1.out XA2.out XA3.out
 obtain ⟨xb0_w4, xb1_w4, xb2_w4, xb3_w4⟩ := low4 (PSt.low PSTw4.out) XB0.out XB1.out XB2.out XB3.out
 obtain ⟨xd0_w4, xd1_w4, xd2_w4, xd3_w4⟩ := low4 (PSt.low PSTw4.out) XD0.out XD1.out XD2.out XD3.out
 obtain ⟨xx0_w4, xx1_w4, xx2_w4, xx3_w4⟩ := low4 (PSt.low PSTw4.out) XX0.out XX1.out XX2.out XX3.out
 have hlt_g_w4 : g < w4.heap.size := block_lt_of_cell xa0_w4
 have hlt_gx_w4 : gx < w4.heap.size := block_lt_of_cell xx0_w4
 clear htw4
 go_wp2_with fail
 refine Calls.mono ((mark_em W0 p B [94]) _ _ _ (PSt.fresh PSTw4.out (frA (Touch.refl _ _))) FITw4.out.left) ?_
 rintro _ w5 ⟨rfl, htw5⟩
 have PSTw5 := hid (PSt.add2 (PSt.fresh PSTw4.out (frA (Touch.refl _ _))) htw5)
 have ACCw5 := hid (PrAdd.app ACCw4.out (PrAdd.freshL (show Fresh w4 _ from (frA (Touch.refl _ _))) htw5))
 have FITw5 := hid (Fits.right2 FITw4.out)
 have B0_w5 : Blk w5 (w.heap.size) 24 #[.int .i64 (9 : Int), tx, cl, .slice (some ⟨g, o, none⟩) 3 cap] := PrAdd.blk htw5 (by first | exact blkN | assumption | exact blkA (by assumption)) (by have := PSt.lt PST0.out; have := PSt.hB PST0.out; omega) (by decide) (by decide)
 have B1_w5 : Blk w5 (w.heap.size + 1) 24 #[.int .i64 a.kind, .string (⟨a.text.toArray⟩ : ByteArray), .int .i64 a.cols, .slice (some ⟨gx, ox, none⟩) 1 cax] := PrAdd.blk htw5 (by first | exact blkN | assumption | exact blkA (by assumption)) (by have := PSt.lt PST0.out; have := PSt.hB PST0.out; omega) (by decide) (by decide)
 clear q0_0_w4 q0_1_w4 q0_2_w4 q0_3_w4 B0_w4 q1_0_w4 q1_1_w4 q1_2_w4 q1_3_w4 B1_w4
 obtain ⟨q0_0_w5, q0_1_w5, q0_2_w5, q0_3_w5, _⟩ := Blk.four B0_w5
 obtain ⟨q1_0_w5, q1_1_w5, q1_2_w5, q1_3_w5, _⟩ := Blk.four B1_w5
 clear xa0_w4 xa1_w4 xa2_w4 xa3_w4 xb0_w4 xb1_w4 xb2_w4 xb3_w4 xd0_w4 xd1_w4 xd2_w4 xd3_w4 xx0_w4 xx1_w4 xx2_w4 xx3_w4
 obtain ⟨xa0_w5, xa1_w5, xa2_w5, xa3_w5⟩ := low4 (PSt.low PSTw5.out) XA0.out XA1.out XA2.out XA3.out
 obtain ⟨xb0_w5, xb1_w5, xb2_w5, xb3_w5⟩ := low4 (PSt.low PSTw5.out) XB0.out XB1.out XB2.out XB3.out
 obtain ⟨xd0_w5, xd1_w5, xd2_w5, xd3_w5⟩ := low4 (PSt.low PSTw5.out) XD0.out XD1.out XD2.out XD3.out
 obtain ⟨xx0_w5, xx1_w5, xx2_w5, xx3_w5⟩ := low4 (PSt.low PSTw5.out) XX0.out XX1.out XX2.out XX3.out
 have hlt_g_w5 : g < w5.heap.size := block_lt_of_cell xa0_w5
 have hlt_gx_w5 : gx < w5.heap.size := block_lt_of_cell xx0_w5
 clear htw5
 go_wp2_with fail
 refine Calls.mono ((ARGd.out) _ _ _ (PSt.fresh PSTw5.out (frA (Touch.refl _ _))) FITw5.out) ?_
 rintro _ w6 ⟨rfl, htw6⟩
 have PSTw6 := hid (PSt.add2 (PSt.fresh PSTw5.out (frA (Touch.refl _ _))) htw6)
 have ACCw6 := hid (PrAdd.app ACCw5.out (PrAdd.freshL (show Fresh w5 _ from (frA (Touch.refl _ _))) htw6))
 have B0_w6 : Blk w6 (w.heap.size) 24 #[.int .i64 (9 : Int), tx, cl, .slice (some ⟨g, o, none⟩) 3 cap] := PrAdd.blk htw6 (by first | exact blkN | assumption | exact blkA (by assumption)) (by have := PSt.lt PST0.out; have := PSt.hB PST0.out; omega) (by decide) (by decide)
 have B1_w6 : Blk w6 (w.heap.size + 1) 24 #[.int .i64 a.kind, .string (⟨a.text.toArray⟩ : ByteArray), .int .i64 a.cols, .slice (some ⟨gx, ox, none⟩) 1 cax] := PrAdd.blk htw6 (by first | exact blkN | assumption | exact blkA (by assumption)) (by have := PSt.lt PST0.out; have := PSt.hB PST0.out; omega) (by decide) (by decide)
 clear q0_0_w5 q0_1_w5 q0_2_w5 q0_3_w5 B0_w5 q1_0_w5 q1_1_w5 q1_2_w5 q1_3_w5 B1_w5
 obtain ⟨q0_0_w6, q0_1_w6, q0_2_w6, q0_3_w6, _⟩ := Blk.four B0_w6
 obtain ⟨q1_0_w6, q1_1_w6, q1_2_w6, q1_3_w6, _⟩ := Blk.four B1_w6
 clear xa0_w5 xa1_w5 xa2_w5 xa3_w5 xb0_w5 xb1_w5 xb2_w5 xb3_w5 xd0_w5 xd1_w5 xd2_w5 xd3_w5 xx0_w5 xx1_w5 xx2_w5 xx3_w5
 obtain ⟨xa0_w6, xa1_w6, xa2_w6, xa3_w6⟩ := low4 (PSt.low PSTw6.out) XA0.out XA1.out XA2.out XA3.out
 obtain ⟨xb0_w6, xb1_w6, xb2_w6, xb3_w6⟩ := low4 (PSt.low PSTw6.out) XB0.out XB1.out XB2.out XB3.out
 obtain ⟨xd0_w6, xd1_w6, xd2_w6, xd3_w6⟩ := low4 (PSt.low PSTw6.out) XD0.out XD1.out XD2.out XD3.out
 obtain ⟨xx0_w6, xx1_w6, xx2_w6, xx3_w6⟩ := low4 (PSt.low PSTw6.out) XX0.out XX1.out XX2.out XX3.out
 have hlt_g_w6 : g < w6.heap.size := block_lt_of_cell xa0_w6
 have hlt_gx_w6 : gx < w6.heap.size := block_lt_of_cell xx0_w6
 clear htw6
 go_wp2_with fail
 first | go_end0 | refine bodyPost_ret (v := .tuple #[]) (results_none rfl _ _ _) rfl ?_
 exact ⟨rfl, PrAdd.cast ACCw6.out (by first | rfl | (simp only [List.append_assoc] <;> rfl))⟩
set_option maxRecDepth 100000 in
set_option maxHeartbeats 1000000 in
theorem scripts_9_len (W0 : World) (p B : Nat) (tx cl : Value) (a b d : Nd) (hx : a.kids.length ≠ 1) (ha : GroupE W0 p B a) (hb : ArgE W0 p B b) (hd : ArgE W0 p B d) (sl : Value) (hsl : RepL W0 [a, b, d] sl) : Emits 130 #[pp p, .agg #[.int .i64 9, tx, cl, sl]] W0 p B (baseT a ++ ([Tr.mk7 95] ++ (argT b ++ ([Tr.mk7 94] ++ argT d)))) := by
 intro w toks txt hp hf
 rw [baseT_len1 a hx] at hf ⊢
 obtain ⟨g, o, cap, sa, sb, sd, rfl, a0, a1, a2, a3, hra, b0, b1, b2, b3, hrb, d0, d1, d2, d3, hrd⟩ := hsl.three
 have GRPa := hid (ha sa hra)
 have ARGb := hid (hb sb hrb)
 have ARGd := hid (hd sd hrd)
 obtain ⟨Aa, capa, rfl⟩ := hra.slice
 have f1 : ((a.kids.length : Int) == 1) = false := by simp only [beq_eq_false_iff_ne]; omega
 have f2 : ¬ (a.kids.length : Int) = 1 := by omega
 have PST0 := hid hp
 have FIT0 := hid hf
 clear hp hf ha hb hd hsl hra hrb hrd hx
 have XA0 := hid a0
 have XA1 := hid a1
 have XA2 := hid a2
 have XA3 := hid a3
 have XB0 := hid b0
 have XB1 := hid b1
 have XB2 := hid b2
 have XB3 := hid b3
 have XD0 := hid d0
 have XD1 := hid d1
 have XD2 := hid d2
 have XD3 := hid d3
 clear a0 a1 a2 a3 b0 b1 b2 b3 d0 d1 d2 d3
 obtain ⟨xa0_w, xa1_w, xa2_w, xa3_w⟩ := low4 (PSt.low PST0.out) XA0.out XA1.out XA2.out XA3.out
 obtain ⟨xb0_w, xb1_w, xb2_w, xb3_w⟩ := low4 (PSt.low PST0.out) XB0.out XB1.out XB2.out XB3.out
 obtain ⟨xd0_w, xd1_w, xd2_w, xd3_w⟩ := low4 (PSt.low PST0.out) XD0.out XD1.out XD2.out XD3.out
 have hlt_g_w : g < w.heap.size := block_lt_of_cell xa0_w
 go_enter Tryz.func130, Tryz.ntmps130
 go_wp2_with fail
 refine Calls.mono ((GRPa.out) _ _ _ (PSt.fresh PST0.out (frA (Touch.refl _ _))) FIT0.out.left) ?_
 rintro _ w1 ⟨rfl, htw1⟩
 have PSTw1 := hid (PSt.add (PSt.fresh PST0.out (frA (Touch.refl _ _))) htw1)
 have ACCw1 := hid (PrAdd.freshL (show Fresh w _ from (frA (Touch.refl _ _))) htw1)
 have FITw1 := hid (Fits.right FIT0.out)
 have B0_w1 : Blk w1 (w.heap.size) 24 #[.int .i64 (9 : Int), tx, cl, .slice (some ⟨g, o, none⟩) 3 cap] := PrAdd.blk htw1 (by first | exact blkN | assumption | exact blkA (by assumption)) (by have := PSt.lt PST0.out; have := PSt.hB PST0.out; omega) (by decide) (by decide)
 have B1_w1 : Blk w1 (w.heap.size + 1) 24 #[.int .i64 a.kind, .string (⟨a.text.toArray⟩ : ByteArray), .int .i64 a.cols, .slice Aa a.kids.length capa] := PrAdd.blk htw1 (by first | exact blkN | assumption | exact blkA (by assumption)) (by have := PSt.lt PST0.out; have := PSt.hB PST0.out; omega) (by decide) (by decide)
 obtain ⟨q0_0_w1, q0_1_w1, q0_2_w1, q0_3_w1, _⟩ := Blk.four B0_w1
 obtain ⟨q1_0_w1, q1_1_w1, q1_2_w1, q1_3_w1, _⟩ := Blk.four B1_w1
 clear xa0_w xa1_w xa2_w xa3_w xb0_w xb1_w xb2_w xb3_w xd0_w xd1_w xd2_w xd3_w
 obtain ⟨xa0_w1, xa1_w1, xa2_w1, xa3_w1⟩ := low4 (PSt.low PSTw1.out) XA0.out XA1.out XA2.out XA3.out
 obtain ⟨xb0_w1, xb1_w1, xb2_w1, xb3_w1⟩ := low4 (PSt.low PSTw1.out) XB0.out XB1.out XB2.out XB3.out
 obtain ⟨xd0_w1, xd1_w1, xd2_w1, xd3_w1⟩ := low4 (PSt.low PSTw1.out) XD0.out XD1.out XD2.out XD3.out
 have hlt_g_w1 : g < w1.heap.size := block_lt_of_cell xa0_w1
 clear htw1
 go_wp2_with fail
 refine Calls.mono ((mark_em W0 p B [95]) _ _ _ (PSt.fresh PSTw1.out (frA (Touch.refl _ _))) FITw1.out.left) ?_
 rintro _ w2 ⟨rfl, htw2⟩
 have PSTw2 := hid (PSt.add2 (PSt.fresh PSTw1.out (frA (Touch.refl _ _))) htw2)
 have ACCw2 := hid (PrAdd.app ACCw1.out (PrAdd.freshL (show Fresh w1 _ from (frA (Touch.refl _ _))) htw2))
 have FITw2 := hid (Fits.right2 FITw1.out)
 have B0_w2 : Blk w2 (w.heap.size) 24 #[.int .i64 (9 : Int), tx, cl, .slice (some ⟨g, o, none⟩) 3 cap] := PrAdd.blk htw2 (by first | exact blkN | assumption | exact blkA (by assumption)) (by have := PSt.lt PST0.out; have := PSt.hB PST0.out; omega) (by decide) (by decide)
 have B1_w2 : Blk w2 (w.heap.size + 1) 24 #[.int .i64 a.kind, .string (⟨a.text.toArray⟩ : ByteArray), .int .i64 a.cols, .slice Aa a.kids.length capa] := PrAdd.blk htw2 (by first | exact blkN | assumption | exact blkA (by assumption)) (by have := PSt.lt PST0.out; have := PSt.hB PST0.out; omega) (by decide) (by decide)
 clear q0_0_w1 q0_1_w1 q0_2_w1 q0_3_w1 B0_w1 q1_0_w1 q1_1_w1 q1_2_w1 q1_3_w1 B1_w1
 obtain ⟨q0_0_w2, q0_1_w2, q0_2_w2, q0_3_w2, _⟩ := Blk.four B0_w2
 obtain ⟨q1_0_w2, q1_1_w2, q1_2_w2, q1_3_w2, _⟩ := Blk.four B1_w2
 clear xa0_w1 xa1_w1 xa2_w1 xa3_w1 xb0_w1 xb1_w1 xb2_w1 xb3_w1 xd0_w1 xd1_w1 xd2_w1 xd3_w1
 obtain ⟨xa0_w2, xa1_w2, xa2_w2, xa3_w2⟩ := low4 (PSt.low PSTw2.out) XA0.out XA1.out XA2.out XA3.out
 obtain ⟨xb0_w2, xb1_w2, xb2_w2, xb3_w2⟩ := low4 (PSt.low PSTw2.out) XB0.out XB1.out XB2.out XB3.out
 obtain ⟨xd0_w2, xd1_w2, xd2_w2, xd3_w2⟩ := low4 (PSt.low PSTw2.out) XD0.out XD1.out XD2.out XD3.out
 have hlt_g_w2 : g < w2.heap.size := block_lt_of_cell xa0_w2
 clear htw2
 go_wp2_with fail
 refine Calls.mono ((ARGb.out) _ _ _ (PSt.fresh PSTw2.out (frA (Touch.refl _ _))) FITw2.out.left) ?_
 rintro _ w3 ⟨rfl, htw3⟩
 have PSTw3 := hid (PSt.add2 (PSt.fresh PSTw2.out (frA (Touch.refl _ _))) htw3)
 have ACCw3 := hid (PrAdd.app ACCw2.out (PrAdd.freshL (show Fresh w2 _ from (frA (Touch.refl _ _))) htw3))
 have FITw3 := hid (Fits.right2 FITw2.out)
 have B0_w3 : Blk w3 (w.heap.size) 24 #[.int .i64 (9 : Int), tx, cl, .slice (some ⟨g, o, none⟩) 3 cap] := PrAdd.blk htw3 (by first | exact blkN | assumption | exact blkA (by assumption)) (by have := PSt.lt PST0.out; have := PSt.hB PST0.out; omega) (by decide) (by decide)
 have B1_w3 : Blk w3 (w.heap.size + 1) 24 #[.int .i64 a.kind, .string (⟨a.text.toArray⟩ : ByteArray), .int .i64 a.cols, .slice Aa a.kids.length capa] := PrAdd.blk htw3 (by first | exact blkN | assumption | exact blkA (by assumption)) (by have := PSt.lt PST0.out; have := PSt.hB PST0.out; omega) (by decide) (by decide)
 clear q0_0_w2 q0_1_w2 q0_2_w2 q0_3_w2 B0_w2 q1_0_w2 q1_1_w2 q1_2_w2 q1_3_w2 B1_w2
 obtain ⟨q0_0_w3, q0_1_w3, q0_2_w3, q0_3_w3, _⟩ := Blk.four B0_w3
 obtain ⟨q1_0_w3, q1_1_w3, q1_2_w3, q1_3_w3, _⟩ := Blk.four B1_w3
 clear xa0_w2 xa1_w2 xa2_w2 xa3_w2 xb0_w2 xb1_w2 xb2_w2 xb3_w2 xd0_w2 xd1_w2 xd2_w2 xd3_w2
 obtain ⟨xa0_w3, xa1_w3, xa2_w3, xa3_w3⟩ := low4 (PSt.low PSTw3.out) XA0.out XA1.out XA2.out XA3.out
 obtain ⟨xb0_w3, xb1_w3, xb2_w3, xb3_w3⟩ := low4 (PSt.low PSTw3.out) XB0.out XB1.out XB2.out XB3.out
 obtain ⟨xd0_w3, xd1_w3, xd2_w3, xd3_w3⟩ := low4 (PSt.low PSTw3.out) XD0.out XD1.out XD2.out XD3.out
 have hlt_g_w3 : g < w3.heap.size := block_lt_of_cell xa0_w3
 clear htw3
 go_wp2_with fail
 refine Calls.mono ((mark_em W0 p B [94]) _ _ _ (PSt.fresh PSTw3.out (frA (Touch.refl _ _))) FITw3.out.left) ?_
 rintro _ w4 ⟨rfl, htw4⟩
 have PSTw4 := hid (PSt.add2 (PSt.fresh PSTw3.out (frA (Touch.refl _ _))) htw4)
 have ACCw4 := hid (PrAdd.app ACCw3.out (PrAdd.freshL (show Fresh w3 _ from (frA (Touch.refl _ _))) htw4))
 have FITw4 := hid (Fits.right2 FITw3.out)
 have B0_w4 : Blk w4 (w.heap.size) 24 #[.int .i64 (9 : Int), tx, cl, .slice (some ⟨g, o, none⟩) 3 cap] := PrAdd.blk htw4 (by first | exact blkN | assumption | exact blkA (by assumption)) (by have := PSt.lt PST0.out; have := PSt.hB PST0.out; omega) (by decide) (by decide)
 have B1_w4 : Blk w4 (w.heap.size + 1) 24 #[.int .i64 a.kind, .string (⟨a.text.toArray⟩ : ByteArray), .int .i64 a.cols, .slice Aa a.kids.length capa] := PrAdd.blk htw4 (by first | exact blkN | assumption | exact blkA (by assumption)) (by have := PSt.lt PST0.out; have := PSt.hB PST0.out; omega) (by decide) (by decide)
 clear q0_0_w3 q0_1_w3 q0_2_w3 q0_3_w3 B0_w3 q1_0_w3 q1_1_w3 q1_2_w3 q1_3_w3 B1_w3
 obtain ⟨q0_0_w4, q0_1_w4, q0_2_w4, q0_3_w4, _⟩ := Blk.four B0_w4
 obtain ⟨q1_0_w4, q1_1_w4, q1_2_w4, q1_3_w4, _⟩ := Blk.four B1_w4
 clear xa0_w3 xa1_w3 xa2_w3 xa3_w3 xb0_w3 xb1_w3 xb2_w3 xb3_w3 xd0_w3 xd1_w3 xd2_w3 xd3_w3
 obtain ⟨xa0_w4, xa1_w4, xa2_w4, xa3_w4⟩ := low4 (PSt.low PSTw4.out) XA0.out XA1.out XA2.out XA3.out
 obtain ⟨xb0_w4, xb1_w4, xb2_w4, xb3_w4⟩ := low4 (PSt.low PSTw4.out) XB0.out XB1.out XB2.out XB3.out
 obtain ⟨xd0_w4, xd1_w4, xd2_w4, xd3_w4⟩ := low4 (PSt.low PSTw4.out) XD0.out XD1.out XD2.out XD3.out
 have hlt_g_w4 : g < w4.heap.size := block_lt_of_cell xa0_w4
 clear htw4
 go_wp2_with fail
 refine Calls.mono ((ARGd.out) _ _ _ (PSt.fresh PSTw4.out (frA (Touch.refl _ _))) FITw4.out) ?_
 rintro _ w5 ⟨rfl, htw5⟩
 have PSTw5 := hid (PSt.add2 (PSt.fresh PSTw4.out (frA (Touch.refl _ _))) htw5)
 have ACCw5 := hid (PrAdd.app ACCw4.out (PrAdd.freshL (show Fresh w4 _ from (frA (Touch.refl _ _))) htw5))
 have B0_w5 : Blk w5 (w.heap.size) 24 #[.int .i64 (9 : Int), tx, cl, .slice (some ⟨g, o, none⟩) 3 cap] := PrAdd.blk htw5 (by first | exact blkN | assumption | exact blkA (by assumption)) (by have := PSt.lt PST0.out; have := PSt.hB PST0.out; omega) (by decide) (by decide)
 have B1_w5 : Blk w5 (w.heap.size + 1) 24 #[.int .i64 a.kind, .string (⟨a.text.toArray⟩ : ByteArray), .int .i64 a.cols, .slice Aa a.kids.length capa] := PrAdd.blk htw5 (by first | exact blkN | assumption | exact blkA (by assumption)) (by have := PSt.lt PST0.out; have := PSt.hB PST0.out; omega) (by decide) (by decide)
 clear q0_0_w4 q0_1_w4 q0_2_w4 q0_3_w4 B0_w4 q1_0_w4 q1_1_w4 q1_2_w4 q1_3_w4 B1_w4
 obtain ⟨q0_0_w5, q0_1_w5, q0_2_w5, q0_3_w5, _⟩ := Blk.four B0_w5
 obtain ⟨q1_0_w5, q1_1_w5, q1_2_w5, q1_3_w5, _⟩ := Blk.four B1_w5
 clear xa0_w4 xa1_w4 xa2_w4 xa3_w4 xb0_w4 xb1_w4 xb2_w4 xb3_w4 xd0_w4 xd1_w4 xd2_w4 xd3_w4
 obtain ⟨xa0_w5, xa1_w5, xa2_w5, xa3_w5⟩ := low4 (PSt.low PSTw5.out) XA0.out XA1.out XA2.out XA3.out
 obtain ⟨xb0_w5, xb1_w5, xb2_w5, xb3_w5⟩ := low4 (PSt.low PSTw5.out) XB0.out XB1.out XB2.out XB3.out
 obtain ⟨xd0_w5, xd1_w5, xd2_w5, xd3_w5⟩ := low4 (PSt.low PSTw5.out) XD0.out XD1.out XD2.out XD3.out
 have hlt_g_w5 : g < w5.heap.size := block_lt_of_cell xa0_w5
 clear htw5
 go_wp2_with fail
 first | go_end0 | refine bodyPost_ret (v := .tuple #[]) (results_none rfl _ _ _) rfl ?_
 exact ⟨rfl, PrAdd.cast ACCw5.out (by first | rfl | (simp only [List.append_assoc] <;> rfl))⟩
end Go.Proofs.YtdacpbdamliafaaGreat

/- The printer's fence. -/
namespace Go.Proofs.YtdacpbdamliafaaGreat
open Go.RowKit
open Tr (Nd argT baseT rowT itemT)
set_option maxRecDepth 100000 in
set_option maxHeartbeats 1000000 in
theorem fence_round (W0 : World) (p B : Nat) (kd cl : Value) (a : Nd) (ha : RowE W0 p B a) (sl : Value) (hsl : RepL W0 [a] sl) : Emits 132 #[pp p, .agg #[kd, .string ⟨#[40, 41]⟩, cl, sl]] W0 p B ([Tr.mk7 40] ++ (rowT a.kids ++ [Tr.mk7 41])) := by
 intro w toks txt hp hf
 obtain ⟨g, o, cap, sa, rfl, a0, a1, a2, a3, hra⟩ := hsl.one
 have ROWa := hid (ha sa hra)
 have PST0 := hid hp
 have FIT0 := hid hf
 clear hp hf ha hsl hra
 have e1 : (⟨#[40, 41]⟩ : ByteArray).extract 0 1 = ⟨#[40]⟩ := by decide
 have e2 : (⟨#[40, 41]⟩ : ByteArray).extract 1 2 = ⟨#[41]⟩ := by decide
 have e3 : (⟨#[40, 41]⟩ : ByteArray).toList = [40, 41] := by rw [ByteArray.toList_eq]
 have e4 : (⟨#[40, 41]⟩ : ByteArray).size = 2 := rfl
 have XA0 := hid a0
 have XA1 := hid a1
 have XA2 := hid a2
 have XA3 := hid a3
 clear a0 a1 a2 a3
 obtain ⟨xa0_w, xa1_w, xa2_w, xa3_w⟩ := low4 (PSt.low PST0.out) XA0.out XA1.out XA2.out XA3.out
 have hlt_g_w : g < w.heap.size := block_lt_of_cell xa0_w
 go_enter Tryz.func132, Tryz.ntmps132
 go_wp2_with fail
 refine Calls.mono ((mark_em W0 p B [40]) _ _ _ (PSt.fresh PST0.out (frA (Touch.refl _ _))) FIT0.out.left) ?_
 rintro _ w1 ⟨rfl, htw1⟩
 have PSTw1 := hid (PSt.add (PSt.fresh PST0.out (frA (Touch.refl _ _))) htw1)
 have ACCw1 := hid (PrAdd.freshL (show Fresh w _ from (frA (Touch.refl _ _))) htw1)
 have FITw1 := hid (Fits.right FIT0.out)
 have B0_w1 : Blk w1 (w.heap.size) 24 #[kd, .string (⟨#[40, 41]⟩ : ByteArray), cl, .slice (some ⟨g, o, none⟩) 1 cap] := PrAdd.blk htw1 (by first | exact blkN | assumption | exact blkA (by assumption)) (by have := PSt.lt PST0.out; have := PSt.hB PST0.out; omega) (by decide) (by decide)
 obtain ⟨q0_0_w1, q0_1_w1, q0_2_w1, q0_3_w1, _⟩ := Blk.four B0_w1
 clear xa0_w xa1_w xa2_w xa3_w
 obtain ⟨xa0_w1, xa1_w1, xa2_w1, xa3_w1⟩ := low4 (PSt.low PSTw1.out) XA0.out XA1.out XA2.out XA3.out
 have hlt_g_w1 : g < w1.heap.size := block_lt_of_cell xa0_w1
 clear htw1
 go_wp2_with fail
 refine Calls.mono ((ROWa.out) _ _ _ (PSt.fresh PSTw1.out (frA (Touch.refl _ _))) FITw1.out.left) ?_
 rintro _ w2 ⟨rfl, htw2⟩
 have PSTw2 := hid (PSt.add2 (PSt.fresh PSTw1.out (frA (Touch.refl _ _))) htw2)
 have ACCw2 := hid (PrAdd.app ACCw1.out (PrAdd.freshL (show Fresh w1 _ from (frA (Touch.refl _ _))) htw2))
 have FITw2 := hid (Fits.right2 FITw1.out)
 have B0_w2 : Blk w2 (w.heap.size) 24 #[kd, .string (⟨#[40, 41]⟩ : ByteArray), cl, .slice (some ⟨g, o, none⟩) 1 cap] := PrAdd.blk htw2 (by first | exact blkN | assumption | exact blkA (by assumption)) (by have := PSt.lt PST0.out; have := PSt.hB PST0.out; omega) (by decide) (by decide)
 clear q0_0_w1 q0_1_w1 q0_2_w1 q0_3_w1 B0_w1
 obtain ⟨q0_0_w2, q0_1_w2, q0_2_w2, q0_3_w2, _⟩ := Blk.four B0_w2
 clear xa0_w1 xa1_w1 xa2_w1 xa3_w1
 obtain ⟨xa0_w2, xa1_w2, xa2_w2, xa3_w2⟩ := low4 (PSt.low PSTw2.out) XA0.out XA1.out XA2.out XA3.out
 have hlt_g_w2 : g < w2.heap.size := block_lt_of_cell xa0_w2
 clear htw2
 go_wp2_with fail
 refine Calls.mono ((mark_em W0 p B [41]) _ _ _ (PSt.fresh PSTw2.out (frA (Touch.refl _ _))) FITw2.out) ?_
 rintro _ w3 ⟨rfl, htw3⟩
 have PSTw3 := hid (PSt.add2 (PSt.fresh PSTw2.out (frA (Touch.refl _ _))) htw3)
 have ACCw3 := hid (PrAdd.app ACCw2.out (PrAdd.freshL (show Fresh w2 _ from (frA (Touch.refl _ _))) htw3))
 have B0_w3 : Blk w3 (w.heap.size) 24 #[kd, .string (⟨#[40, 41]⟩ : ByteArray), cl, .slice (some ⟨g, o, none⟩) 1 cap] := PrAdd.blk htw3 (by first | exact blkN | assumption | exact blkA (by assumption)) (by have := PSt.lt PST0.out; have := PSt.hB PST0.out; omega) (by decide) (by decide)
 clear q0_0_w2 q0_1_w2 q0_2_w2 q0_3_w2 B0_w2
 obtain ⟨q0_0_w3, q0_1_w3, q0_2_w3, q0_3_w3, _⟩ := Blk.four B0_w3
 clear xa0_w2 xa1_w2 xa2_w2 xa3_w2
 obtain ⟨xa0_w3, xa1_w3, xa2_w3, xa3_w3⟩ := low4 (PSt.low PSTw3.out) XA0.out XA1.out XA2.out XA3.out
 have hlt_g_w3 : g < w3.heap.size := block_lt_of_cell xa0_w3
 clear htw3
 go_wp2_with fail
 first | go_end0 | refine bodyPost_ret (v := .tuple #[]) (results_none rfl _ _ _) rfl ?_
 exact ⟨rfl, PrAdd.cast ACCw3.out (by first | rfl | (simp only [List.append_assoc] <;> rfl))⟩
set_option maxRecDepth 100000 in
set_option maxHeartbeats 1000000 in
theorem fence_square (W0 : World) (p B : Nat) (kd cl : Value) (a : Nd) (ha : RowE W0 p B a) (sl : Value) (hsl : RepL W0 [a] sl) : Emits 132 #[pp p, .agg #[kd, .string ⟨#[91, 93]⟩, cl, sl]] W0 p B ([Tr.mk7 91] ++ (rowT a.kids ++ [Tr.mk7 93])) := by
 intro w toks txt hp hf
 obtain ⟨g, o, cap, sa, rfl, a0, a1, a2, a3, hra⟩ := hsl.one
 have ROWa := hid (ha sa hra)
 have PST0 := hid hp
 have FIT0 := hid hf
 clear hp hf ha hsl hra
 have e1 : (⟨#[91, 93]⟩ : ByteArray).extract 0 1 = ⟨#[91]⟩ := by decide
 have e2 : (⟨#[91, 93]⟩ : ByteArray).extract 1 2 = ⟨#[93]⟩ := by decide
 have e3 : (⟨#[91, 93]⟩ : ByteArray).toList = [91, 93] := by rw [ByteArray.toList_eq]
 have e4 : (⟨#[91, 93]⟩ : ByteArray).size = 2 := rfl
 have XA0 := hid a0
 have XA1 := hid a1
 have XA2 := hid a2
 have XA3 := hid a3
 clear a0 a1 a2 a3
 obtain ⟨xa0_w, xa1_w, xa2_w, xa3_w⟩ := low4 (PSt.low PST0.out) XA0.out XA1.out XA2.out XA3.out
 have hlt_g_w : g < w.heap.size := block_lt_of_cell xa0_w
 go_enter Tryz.func132, Tryz.ntmps132
 go_wp2_with fail
 refine Calls.mono ((mark_em W0 p B [91]) _ _ _ (PSt.fresh PST0.out (frA (Touch.refl _ _))) FIT0.out.left) ?_
 rintro _ w1 ⟨rfl, htw1⟩
 have PSTw1 := hid (PSt.add (PSt.fresh PST0.out (frA (Touch.refl _ _))) htw1)
 have ACCw1 := hid (PrAdd.freshL (show Fresh w _ from (frA (Touch.refl _ _))) htw1)
 have FITw1 := hid (Fits.right FIT0.out)
 have B0_w1 : Blk w1 (w.heap.size) 24 #[kd, .string (⟨#[91, 93]⟩ : ByteArray), cl, .slice (some ⟨g, o, none⟩) 1 cap] := PrAdd.blk htw1 (by first | exact blkN | assumption | exact blkA (by assumption)) (by have := PSt.lt PST0.out; have := PSt.hB PST0.out; omega) (by decide) (by decide)
 obtain ⟨q0_0_w1, q0_1_w1, q0_2_w1, q0_3_w1, _⟩ := Blk.four B0_w1
 clear xa0_w xa1_w xa2_w xa3_w
 obtain ⟨xa0_w1, xa1_w1, xa2_w1, xa3_w1⟩ := low4 (PSt.low PSTw1.out) XA0.out XA1.out XA2.out XA3.out
 have hlt_g_w1 : g < w1.heap.size := block_lt_of_cell xa0_w1
 clear htw1
 go_wp2_with fail
 refine Calls.mono ((ROWa.out) _ _ _ (PSt.fresh PSTw1.out (frA (Touch.refl _ _))) FITw1.out.left) ?_
 rintro _ w2 ⟨rfl, htw2⟩
 have PSTw2 := hid (PSt.add2 (PSt.fresh PSTw1.out (frA (Touch.refl _ _))) htw2)
 have ACCw2 := hid (PrAdd.app ACCw1.out (PrAdd.freshL (show Fresh w1 _ from (frA (Touch.refl _ _))) htw2))
 have FITw2 := hid (Fits.right2 FITw1.out)
 have B0_w2 : Blk w2 (w.heap.size) 24 #[kd, .string (⟨#[91, 93]⟩ : ByteArray), cl, .slice (some ⟨g, o, none⟩) 1 cap] := PrAdd.blk htw2 (by first | exact blkN | assumption | exact blkA (by assumption)) (by have := PSt.lt PST0.out; have := PSt.hB PST0.out; omega) (by decide) (by decide)
 clear q0_0_w1 q0_1_w1 q0_2_w1 q0_3_w1 B0_w1
 obtain ⟨q0_0_w2, q0_1_w2, q0_2_w2, q0_3_w2, _⟩ := Blk.four B0_w2
 clear xa0_w1 xa1_w1 xa2_w1 xa3_w1
 obtain ⟨xa0_w2, xa1_w2, xa2_w2, xa3_w2⟩ := low4 (PSt.low PSTw2.out) XA0.out XA1.out XA2.out XA3.out
 have hlt_g_w2 : g < w2.heap.size := block_lt_of_cell xa0_w2
 clear htw2
 go_wp2_with fail
 refine Calls.mono ((mark_em W0 p B [93]) _ _ _ (PSt.fresh PSTw2.out (frA (Touch.refl _ _))) FITw2.out) ?_
 rintro _ w3 ⟨rfl, htw3⟩
 have PSTw3 := hid (PSt.add2 (PSt.fresh PSTw2.out (frA (Touch.refl _ _))) htw3)
 have ACCw3 := hid (PrAdd.app ACCw2.out (PrAdd.freshL (show Fresh w2 _ from (frA (Touch.refl _ _))) htw3))
 have B0_w3 : Blk w3 (w.heap.size) 24 #[kd, .string (⟨#[91, 93]⟩ : ByteArray), cl, .slice (some ⟨g, o, none⟩) 1 cap] := PrAdd.blk htw3 (by first | exact blkN | assumption | exact blkA (by assumption)) (by have := PSt.lt PST0.out; have := PSt.hB PST0.out; omega) (by decide) (by decide)
 clear q0_0_w2 q0_1_w2 q0_2_w2 q0_3_w2 B0_w2
 obtain ⟨q0_0_w3, q0_1_w3, q0_2_w3, q0_3_w3, _⟩ := Blk.four B0_w3
 clear xa0_w2 xa1_w2 xa2_w2 xa3_w2
 obtain ⟨xa0_w3, xa1_w3, xa2_w3, xa3_w3⟩ := low4 (PSt.low PSTw3.out) XA0.out XA1.out XA2.out XA3.out
 have hlt_g_w3 : g < w3.heap.size := block_lt_of_cell xa0_w3
 clear htw3
 go_wp2_with fail
 first | go_end0 | refine bodyPost_ret (v := .tuple #[]) (results_none rfl _ _ _) rfl ?_
 exact ⟨rfl, PrAdd.cast ACCw3.out (by first | rfl | (simp only [List.append_assoc] <;> rfl))⟩
set_option maxRecDepth 100000 in
set_option maxHeartbeats 1000000 in
theorem fence_other (W0 : World) (p B : Nat) (kd cl : Value) (t : List UInt8) (h1 : t ≠ [40, 41]) (h2 : t ≠ [91, 93]) (a : Nd) (ha : ArgE W0 p B a) (sl : Value) (hsl : RepL W0 [a] sl) : Emits 132 #[pp p, .agg #[kd, .string ⟨t.toArray⟩, cl, sl]] W0 p B ([⟨5, t⟩] ++ argT a) := by
 intro w toks txt hp hf
 obtain ⟨g, o, cap, sa, rfl, a0, a1, a2, a3, hra⟩ := hsl.one
 have ARGa := hid (ha sa hra)
 have PST0 := hid hp
 have FIT0 := hid hf
 clear hp hf ha hsl hra
 have t1 : (ByteArray.toList ⟨t.toArray⟩ == [40, 41]) = false := by rw [ByteArray.toList_eq]; simpa using h1
 have t2 : (ByteArray.toList ⟨t.toArray⟩ == [91, 93]) = false := by rw [ByteArray.toList_eq]; simpa using h2
 have s1 : ((⟨t.toArray⟩ : ByteArray) == (⟨#[40, 41]⟩ : ByteArray)) = false := by rw [str_eq']; simpa using h1
 have s2 : ((⟨t.toArray⟩ : ByteArray) == (⟨#[91, 93]⟩ : ByteArray)) = false := by rw [str_eq']; simpa using h2
 have u1 : (t == [40, 41]) = false := by simpa using h1
 have u2 : (t == [91, 93]) = false := by simpa using h2
 have XA0 := hid a0
 have XA1 := hid a1
 have XA2 := hid a2
 have XA3 := hid a3
 clear a0 a1 a2 a3
 obtain ⟨xa0_w, xa1_w, xa2_w, xa3_w⟩ := low4 (PSt.low PST0.out) XA0.out XA1.out XA2.out XA3.out
 have hlt_g_w : g < w.heap.size := block_lt_of_cell xa0_w
 go_enter Tryz.func132, Tryz.ntmps132
 go_wp2_with fail
 refine Calls.mono ((add_em W0 p B 5 t) _ _ _ (PSt.fresh PST0.out (frA (Touch.refl _ _))) FIT0.out.left) ?_
 rintro _ w1 ⟨rfl, htw1⟩
 have PSTw1 := hid (PSt.add (PSt.fresh PST0.out (frA (Touch.refl _ _))) htw1)
 have ACCw1 := hid (PrAdd.freshL (show Fresh w _ from (frA (Touch.refl _ _))) htw1)
 have FITw1 := hid (Fits.right FIT0.out)
 have B0_w1 : Blk w1 (w.heap.size) 24 #[kd, .string (⟨t.toArray⟩ : ByteArray), cl, .slice (some ⟨g, o, none⟩) 1 cap] := PrAdd.blk htw1 (by first | exact blkN | assumption | exact blkA (by assumption)) (by have := PSt.lt PST0.out; have := PSt.hB PST0.out; omega) (by decide) (by decide)
 obtain ⟨q0_0_w1, q0_1_w1, q0_2_w1, q0_3_w1, _⟩ := Blk.four B0_w1
 clear xa0_w xa1_w xa2_w xa3_w
 obtain ⟨xa0_w1, xa1_w1, xa2_w1, xa3_w1⟩ := low4 (PSt.low PSTw1.out) XA0.out XA1.out XA2.out XA3.out
 have hlt_g_w1 : g < w1.heap.size := block_lt_of_cell xa0_w1
 clear htw1
 go_wp2_with fail
 refine Calls.mono ((ARGa.out) _ _ _ (PSt.fresh PSTw1.out (frA (Touch.refl _ _))) FITw1.out) ?_
 rintro _ w2 ⟨rfl, htw2⟩
 have PSTw2 := hid (PSt.add2 (PSt.fresh PSTw1.out (frA (Touch.refl _ _))) htw2)
 have ACCw2 := hid (PrAdd.app ACCw1.out (PrAdd.freshL (show Fresh w1 _ from (frA (Touch.refl _ _))) htw2))
 have B0_w2 : Blk w2 (w.heap.size) 24 #[kd, .string (⟨t.toArray⟩ : ByteArray), cl, .slice (some ⟨g, o, none⟩) 1 cap] := PrAdd.blk htw2 (by first | exact blkN | assumption | exact blkA (by assumption)) (by have := PSt.lt PST0.out; have := PSt.hB PST0.out; omega) (by decide) (by decide)
 clear q0_0_w1 q0_1_w1 q0_2_w1 q0_3_w1 B0_w1
 obtain ⟨q0_0_w2, q0_1_w2, q0_2_w2, q0_3_w2, _⟩ := Blk.four B0_w2
 clear xa0_w1 xa1_w1 xa2_w1 xa3_w1
 obtain ⟨xa0_w2, xa1_w2, xa2_w2, xa3_w2⟩ := low4 (PSt.low PSTw2.out) XA0.out XA1.out XA2.out XA3.out
 have hlt_g_w2 : g < w2.heap.size := block_lt_of_cell xa0_w2
 clear htw2
 go_wp2_with fail
 first | go_end0 | refine bodyPost_ret (v := .tuple #[]) (results_none rfl _ _ _) rfl ?_
 exact ⟨rfl, PrAdd.cast ACCw2.out (by first | rfl | (simp only [List.append_assoc] <;> rfl))⟩
end Go.Proofs.YtdacpbdamliafaaGreat

/- The printer's row. -/
namespace Go.Proofs.YtdacpbdamliafaaGreat
open Go.RowKit
open Tr (Nd argT baseT rowT itemT)
theorem Fits.mid {a b c : List Lx.Tok} {toks : List Lx.PTok} {txt : List UInt8} (h : Fits (a ++ (b ++ c)) toks txt) : Fits b (adds a toks txt).1 (adds a toks txt).2 := h.right.left
def ItemE (W0 : World) (p B : Nat) (x : Nd) : Prop :=
 ∃ fid : Nat, (∀ w : World, (Instr.index 145 (.agg visitCells) (.int .i64 x.kind)).run Tryz.prog w = .ok (.func (.func fid) #[] #[]) w) ∧
  (∀ (a : Array Value) (w : World), (callFunc fid a).run Tryz.prog w = .ok (.enter fid a) w) ∧
  ∀ sx, RepL W0 x.kids sx → Emits fid #[pp p, nv x sx] W0 p B (itemT x)
theorem rowT_take (l : List Nd) (j : Nat) (h : j < l.length) : rowT (l.take (j + 1)) = rowT (l.take j) ++ itemT l[j] := by
 induction l generalizing j with
 | nil => simp at h
 | cons x l ih =>
  cases j with
  | zero => simp [Tr.rowT_cons, Tr.rowT_nil]
  | succ j =>
   simp only [List.take_succ_cons, Tr.rowT_cons, List.getElem_cons_succ]
   rw [ih j (by simpa using h), List.append_assoc]
theorem rowT_split (l : List Nd) (j : Nat) (h : j < l.length) : ∃ r, rowT l = rowT (l.take j) ++ (itemT l[j] ++ r) := by
 induction l generalizing j with
 | nil => simp at h
 | cons x l ih =>
  cases j with
  | zero => exact ⟨rowT l, by simp [Tr.rowT_cons, Tr.rowT_nil]⟩
  | succ j =>
   obtain ⟨r, hr⟩ := ih j (by simpa using h)
   refine ⟨r, ?_⟩
   simp only [List.take_succ_cons, Tr.rowT_cons, List.getElem_cons_succ]
   rw [hr, List.append_assoc]
set_option maxRecDepth 100000 in
set_option maxHeartbeats 2000000 in
theorem row_em (W0 : World) (p B : Nat) (n : Nd) (hi : ∀ x ∈ n.kids, ItemE W0 p B x) : RowE W0 p B n := by
 intro sl hsl w toks txt hp hf
 obtain ⟨A, cap, rfl⟩ := hsl.slice
 have hlen := hsl.len
 unfold maxLen at hlen
 have HI := hid hi
 have HSL := hid hsl
 have PST0 := hid hp
 have FIT0 := hid hf
 have hfw : Fresh w (w.alloc (.cells #[.int .i64 n.kind, .string ⟨n.text.toArray⟩, .int .i64 n.cols, .slice A n.kids.length cap] 24)) := (Touch.refl _ _).alloc _
 have HFW := hid hfw
 clear hi hsl hp hf hfw
 go_enter Tryz.func63, Tryz.ntmps63
 go_wp2_with fail
 go_loopw [9] (fun i wr => ∃ j : Nat, i = .int .i64 j ∧ j ≤ n.kids.length ∧ Hid (PSt W0 p B wr (adds (rowT (n.kids.take j)) toks txt).1 (adds (rowT (n.kids.take j)) toks txt).2) ∧ Hid (PrAdd w wr p B toks txt (rowT (n.kids.take j)))) (fun i _ => n.kids.length - (intOf i).toNat)
 case atStart => exact ⟨0, rfl, Nat.zero_le _, by rw [List.take_zero, Tr.rowT_nil]; exact PST0.out.fresh HFW.out, by
   rw [List.take_zero, Tr.rowT_nil]
   obtain ⟨vt, vb, cs, hpr⟩ := PST0.out.pr
   exact ⟨vt, vb, cs, hpr.fresh HFW.out, PS.fresh HFW.out⟩⟩
 case round =>
  obtain ⟨j, rfl, hj, PSTR, ACCR⟩ := hrel
  by_cases c1 : j < n.kids.length
  ·have d1 : decide ((j : Int) < (n.kids.length : Int)) = true := by simp only [decide_eq_true_eq]; omega
   have d1n : decide (j < n.kids.length) = true := by simp only [decide_eq_true_eq]; omega
   have d1' : (j : Int) < (n.kids.length : Int) := by omega
   obtain ⟨g, o, sx, rfl, hg, m0, m1, m2, m3, hrk⟩ := HSL.out.get j c1
   obtain ⟨Ax, capx, rfl⟩ := hrk.slice
   obtain ⟨fid, hix, hcf, hem⟩ := HI.out n.kids[j] (List.getElem_mem c1)
   obtain ⟨r, hr⟩ := rowT_split n.kids j c1
   have HTK := hid (rowT_take n.kids j c1)
   have FIT := hid (Fits.mid (show Fits (rowT (n.kids.take j) ++ (itemT n.kids[j] ++ r)) toks txt by rw [← hr]; exact FIT0.out))
   have EM := hid (hem _ hrk)
   have a0 := Low.cell (PSt.low PSTR.out) m0
   have a1 := Low.cell (PSt.low PSTR.out) m1
   have a2 := Low.cell (PSt.low PSTR.out) m2
   have a3 := Low.cell (PSt.low PSTR.out) m3
   have hgw : g < wr.heap.size := block_lt_of_cell a0
   clear m0 m1 m2 m3 hrk hem hr hg HI HSL
   generalize n.kids[j] = x at *
   go_wp2_with fail
   refine forget_world (fun W => Fresh wr W ∧ Blk W wr.heap.size 24 #[.int .i64 x.kind, .string ⟨x.text.toArray⟩, .int .i64 x.cols, .slice Ax x.kids.length capx]) ⟨(Touch.refl _ _).alloc _, Blk.new _ _ _⟩ ?_
   rintro W4 ⟨hf4, hb4⟩
   obtain ⟨q0, q1, q2, q3, _, _, _, _, hg4⟩ := Blk.four hb4
   have g0 := cell_regrown q0
   have g1 := cell_regrown q1
   have g2 := cell_regrown q2
   have g3 := cell_regrown q3
   have HF4 := hid hf4
   have CV := hid (calmF (P := Tryz.prog) W4 (fun w _ => visitors_any w))
   clear hf4 hb4 a0 a1 a2 a3
   refine wp_region_segs_below [([0, 1, 2, 3, 4, 5], 6)] [] (by kernel_rfl) (by kernel_rfl) ?_
   simp only [wpSegsC, pick, List.getElem?_cons_zero, List.getElem?_cons_succ]
   repeat (quiet_step (with_reducible exact CV.out _ _))
   refine wpQuiet_nil ?_
   rintro W5 ⟨⟨_, _⟩, hW5⟩
   have hf5 : Fresh W4 W5 := by rw [hW5]; exact fresh_of_below (below_regrown _ _ _)
   have HF5 := hid hf5
   clear hW5 hf5 q0 q1 q2 q3 g0 g1 g2 g3
   go_wp2_with fail
   refine (EM.out _ _ _ (PSTR.out.fresh (Touch.trans HF4.out HF5.out)) FIT.out).mono ?_
   rintro _ w6 ⟨rfl, h6⟩
   have PST6 := hid (PSt.add2 (PSTR.out.fresh (Touch.trans HF4.out HF5.out)) h6)
   have ACC6 := hid (PrAdd.app ACCR.out (PrAdd.freshL (Touch.trans HF4.out HF5.out) h6))
   clear h6
   go_wp2_with fail
   refine wpQuiet_nil ?_
   rintro W7 ⟨⟨_, _⟩, hW7⟩
   have hf7 : Fresh w6 W7 := by rw [hW7]; exact fresh_of_below (below_regrown _ _ _)
   have HF7 := hid hf7
   clear hW7 hf7
   go_wp2_with fail
   go_roundw
   case rel => exact ⟨j + 1, by go_num, c1, by rw [HTK.out]; exact PST6.out.fresh HF7.out, by rw [HTK.out]; exact ACC6.out.freshR HF7.out⟩
   case measure => simp [intOf]; omega
  ·have d1 : decide ((j : Int) < (n.kids.length : Int)) = false := by simp only [decide_eq_false_iff_not]; omega
   have d1n : decide (j < n.kids.length) = false := by simp only [decide_eq_false_iff_not]; omega
   obtain rfl : j = n.kids.length := by omega
   have HA := hid (show PrAdd w wr p B toks txt (rowT n.kids) by
    have := ACCR.out
    rwa [List.take_length] at this)
   go_wp2_with fail
   go_end0
   exact ⟨rfl, HA.out⟩
end Go.Proofs.YtdacpbdamliafaaGreat

/- The printer's matrix; the methods of all kinds together. -/
namespace Go.Proofs.YtdacpbdamliafaaGreat
open Go.RowKit
open Tr (Nd argT baseT rowT itemT cellsT View IsRow)
def sepT (c : Int) (i : Nat) : List Lx.Tok := if i = 0 then [] else if (i : Int) % c = 0 then [⟨8, [92, 92]⟩] else [Tr.mk7 38]
theorem cellsT_eq (c : Int) (i : Nat) (n : Nd) (ns : List Nd) : cellsT c i (n :: ns) = sepT c i ++ (rowT n.kids ++ cellsT c (i + 1) ns) := by rw [cellsT]; rfl
theorem cellsT_nil (c : Int) (i : Nat) : cellsT c i [] = [] := by rw [cellsT]
theorem cellsT_take (c : Int) (l : List Nd) : ∀ (i j : Nat) (h : j < l.length), cellsT c i (l.take (j + 1)) = cellsT c i (l.take j) ++ (sepT c (i + j) ++ rowT l[j].kids) := by
 induction l with
 | nil => intro i j h; simp at h
 | cons x l ih =>
  intro i j h
  cases j with
  | zero => simp [cellsT_eq, cellsT_nil]
  | succ j =>
   simp only [List.take_succ_cons, cellsT_eq, List.getElem_cons_succ]
   rw [ih (i + 1) j (by simpa using h), show i + 1 + j = i + (j + 1) by omega]
   simp only [List.append_assoc]
theorem cellsT_split (c : Int) (l : List Nd) : ∀ (i j : Nat) (h : j < l.length), ∃ r, cellsT c i l = cellsT c i (l.take j) ++ (sepT c (i + j) ++ (rowT l[j].kids ++ r)) := by
 induction l with
 | nil => intro i j h; simp at h
 | cons x l ih =>
  intro i j h
  cases j with
  | zero => exact ⟨cellsT c (i + 1) l, by simp [cellsT_eq, cellsT_nil]⟩
  | succ j =>
   obtain ⟨r, hr⟩ := ih (i + 1) j (by simpa using h)
   refine ⟨r, ?_⟩
   simp only [List.take_succ_cons, cellsT_eq, List.getElem_cons_succ]
   rw [hr, show i + 1 + j = i + (j + 1) by omega]
   simp only [List.append_assoc]
set_option maxRecDepth 100000 in
set_option maxHeartbeats 4000000 in
theorem matrix_em (W0 : World) (p B : Nat) (kd tx : Value) (c : Int) (ks : List Nd) (hc : 1 ≤ c) (hc' : c ≤ 1000000) (hk : ∀ x ∈ ks, RowE W0 p B x) (sl : Value) (hsl : RepL W0 ks sl) :
  Emits 133 #[pp p, .agg #[kd, tx, .int .i64 c, sl]] W0 p B ([Tr.name Tr.sMatrix] ++ ([Tr.mk7 123] ++ (cellsT c 0 ks ++ [Tr.mk7 125]))) := by
 intro w toks txt hp hf
 obtain ⟨A, cap, rfl⟩ := hsl.slice
 have hlen := hsl.len
 unfold maxLen at hlen
 have HK := hid hk
 have HSL := hid hsl
 have PST0 := hid hp
 have FIT0 := hid hf
 have hc0 : (c == 0) = false := by rw [beq_eq_false_iff_ne]; omega
 have hc1 : 0 < c := by omega
 have hc2 : 0 ≤ c := by omega
 clear hk hsl hp hf
 go_enter Tryz.func133, Tryz.ntmps133
 go_wp2_with fail
 refine Calls.mono ((add_em W0 p B 4 [109, 97, 116, 114, 105, 120]) _ _ _ (PSt.fresh PST0.out (frA (Touch.refl _ _))) FIT0.out.left) ?_
 rintro _ w1 ⟨rfl, htw1⟩
 have PSTw1 := hid (PSt.add (PSt.fresh PST0.out (frA (Touch.refl _ _))) htw1)
 have ACCw1 := hid (PrAdd.freshL (show Fresh w _ from (frA (Touch.refl _ _))) htw1)
 have FITw1 := hid (Fits.right FIT0.out)
 have B0_w1 : Blk w1 (w.heap.size) 24 #[kd, tx, .int .i64 c, .slice A ks.length cap] := PrAdd.blk htw1 (by first | exact blkN | assumption | exact blkA (by assumption)) (by have := PSt.lt PST0.out; have := PSt.hB PST0.out; omega) (by decide) (by decide)
 obtain ⟨q0_0_w1, q0_1_w1, q0_2_w1, q0_3_w1, _⟩ := Blk.four B0_w1
 clear htw1
 go_wp2_with fail
 refine Calls.mono ((mark_em W0 p B [123]) _ _ _ (PSt.fresh PSTw1.out (frA (Touch.refl _ _))) FITw1.out.left) ?_
 rintro _ w2 ⟨rfl, htw2⟩
 have PSTw2 := hid (PSt.add2 (PSt.fresh PSTw1.out (frA (Touch.refl _ _))) htw2)
 have ACCw2 := hid (PrAdd.app ACCw1.out (PrAdd.freshL (show Fresh w1 _ from (frA (Touch.refl _ _))) htw2))
 have FITw2 := hid (Fits.right2 FITw1.out)
 have B0_w2 : Blk w2 (w.heap.size) 24 #[kd, tx, .int .i64 c, .slice A ks.length cap] := PrAdd.blk htw2 (by first | exact blkN | assumption | exact blkA (by assumption)) (by have := PSt.lt PST0.out; have := PSt.hB PST0.out; omega) (by decide) (by decide)
 clear q0_0_w1 q0_1_w1 q0_2_w1 q0_3_w1 B0_w1
 obtain ⟨q0_0_w2, q0_1_w2, q0_2_w2, q0_3_w2, _⟩ := Blk.four B0_w2
 clear htw2
 go_wp2_with fail
 go_loopw [13] (fun i wr => ∃ j : Nat, i = .int .i64 j ∧ j ≤ ks.length ∧ Hid (PSt W0 p B wr (adds ([Tr.name Tr.sMatrix] ++ [Tr.mk7 123] ++ cellsT c 0 (ks.take j)) toks txt).1 (adds ([Tr.name Tr.sMatrix] ++ [Tr.mk7 123] ++ cellsT c 0 (ks.take j)) toks txt).2) ∧ Hid (PrAdd w wr p B toks txt ([Tr.name Tr.sMatrix] ++ [Tr.mk7 123] ++ cellsT c 0 (ks.take j))) ∧ Hid (Blk wr w.heap.size 24 #[kd, tx, .int .i64 c, .slice A ks.length cap])) (fun i _ => ks.length - (intOf i).toNat)
 case atStart => exact ⟨0, rfl, Nat.zero_le _, by rw [List.take_zero, cellsT_nil, List.append_nil]; exact PSTw2.out, by rw [List.take_zero, cellsT_nil, List.append_nil]; exact ACCw2.out, B0_w2⟩
 case round =>
  obtain ⟨j, rfl, hj, PSTR, ACCR, HB⟩ := hrel
  by_cases c1 : j < ks.length
  ·have d1 : decide ((j : Int) < (ks.length : Int)) = true := by simp only [decide_eq_true_eq]; omega
   have hlt_w_wr : w.heap.size < wr.heap.size := Blk.lt HB.out
   have d1n : decide (j < ks.length) = true := by simp only [decide_eq_true_eq]; omega
   have d1' : (j : Int) < (ks.length : Int) := by omega
   obtain ⟨g, o, sx, rfl, hg, m0, m1, m2, m3, hrk⟩ := HSL.out.get j c1
   obtain ⟨Ax, capx, rfl⟩ := hrk.slice
   have ROWx := hid (HK.out ks[j] (List.getElem_mem c1) _ hrk)
   obtain ⟨r, hr⟩ := cellsT_split c ks 0 j c1
   have HTK := hid (cellsT_take c ks 0 j c1)
   rw [Nat.zero_add] at hr HTK
   have FITX := hid (show Fits (([Tr.name Tr.sMatrix] ++ [Tr.mk7 123] ++ cellsT c 0 (ks.take j)) ++ ((sepT c j ++ rowT ks[j].kids) ++ (r ++ [Tr.mk7 125]))) toks txt by
    have := FIT0.out
    rw [hr] at this
    simpa only [List.append_assoc] using this)
   have XX0 := hid m0
   have XX1 := hid m1
   have XX2 := hid m2
   have XX3 := hid m3
   have xx0_wr := Low.cell (PSt.low PSTR.out) m0
   have xx1_wr := Low.cell (PSt.low PSTR.out) m1
   have xx2_wr := Low.cell (PSt.low PSTR.out) m2
   have xx3_wr := Low.cell (PSt.low PSTR.out) m3
   have hlt_g_wr : g < wr.heap.size := block_lt_of_cell xx0_wr
   clear m0 m1 m2 m3 hrk hr hg HK HSL
   generalize ks[j] = x at *
   obtain ⟨q0_0_wr, q0_1_wr, q0_2_wr, q0_3_wr, _⟩ := Blk.four HB.out
   have B0_wr : Blk wr w.heap.size 24 #[kd, tx, .int .i64 c, .slice (some ⟨g, o, none⟩) ks.length cap] := HB.out
   by_cases j0 : j = 0
   ·subst j0
    have HSEP := hid (show sepT c 0 = [] from by rfl)
    have FITR := hid (show Fits (rowT x.kids) (adds ([Tr.name Tr.sMatrix] ++ [Tr.mk7 123] ++ cellsT c 0 (ks.take 0)) toks txt).1 (adds ([Tr.name Tr.sMatrix] ++ [Tr.mk7 123] ++ cellsT c 0 (ks.take 0)) toks txt).2 by
     have := FITX.out.mid
     rw [HSEP.out] at this
     exact this)
    rw [Nat.zero_mul, Nat.add_zero] at xx0_wr xx1_wr xx2_wr xx3_wr
    have XY0 : Hid (W0.cell? ⟨g, o, none⟩ = some (.int .i64 x.kind)) := by have := XX0.out; rw [Nat.zero_mul, Nat.add_zero] at this; exact this
    have XY1 : Hid (W0.cell? ⟨g, o + 1, none⟩ = some (.string (⟨x.text.toArray⟩ : ByteArray))) := by have := XX1.out; rw [Nat.zero_mul, Nat.add_zero] at this; exact this
    have XY2 : Hid (W0.cell? ⟨g, o + 2, none⟩ = some (.int .i64 x.cols)) := by have := XX2.out; rw [Nat.zero_mul, Nat.add_zero] at this; exact this
    have XY3 : Hid (W0.cell? ⟨g, o + 3, none⟩ = some (.slice Ax x.kids.length capx)) := by have := XX3.out; rw [Nat.zero_mul, Nat.add_zero] at this; exact this
    go_wp2_with fail
    refine Calls.mono ((ROWx.out) _ _ _ (PSt.fresh PSTR.out (frA (Touch.refl _ _))) FITR.out) ?_
    rintro _ w3 ⟨rfl, htw3⟩
    have PSTw3 := hid (PSt.add2 (PSt.fresh PSTR.out (frA (Touch.refl _ _))) htw3)
    have ACCw3 := hid (PrAdd.app ACCR.out (PrAdd.freshL (show Fresh wr _ from (frA (Touch.refl _ _))) htw3))
    have B0_w3 : Blk w3 (w.heap.size) 24 #[kd, tx, .int .i64 c, .slice (some ⟨g, o, none⟩) ks.length cap] := PrAdd.blk htw3 (by first | exact blkN | assumption | exact blkA (by assumption)) (by have := PSt.lt PST0.out; have := PSt.hB PST0.out; omega) (by decide) (by decide)
    have B1_w3 : Blk w3 (wr.heap.size) 24 #[.int .i64 x.kind, .string (⟨x.text.toArray⟩ : ByteArray), .int .i64 x.cols, .slice Ax x.kids.length capx] := PrAdd.blk htw3 (by first | exact blkN | assumption | exact blkA (by assumption)) (by have := PSt.lt PSTR.out; have := PSt.hB PSTR.out; omega) (by decide) (by decide)
    clear q0_0_wr q0_1_wr q0_2_wr q0_3_wr B0_wr
    obtain ⟨q0_0_w3, q0_1_w3, q0_2_w3, q0_3_w3, _⟩ := Blk.four B0_w3
    obtain ⟨q1_0_w3, q1_1_w3, q1_2_w3, q1_3_w3, _⟩ := Blk.four B1_w3
    clear xx0_wr xx1_wr xx2_wr xx3_wr
    obtain ⟨xy0_w3, xy1_w3, xy2_w3, xy3_w3⟩ := low4 (PSt.low PSTw3.out) XY0.out XY1.out XY2.out XY3.out
    have hlt_g_w3 : g < w3.heap.size := block_lt_of_cell xy0_w3
    clear htw3
    go_wp2_with fail
    go_roundw
    case rel =>
     have HE := hid (show [Tr.name Tr.sMatrix] ++ [Tr.mk7 123] ++ cellsT c 0 (ks.take 0) ++ rowT x.kids = [Tr.name Tr.sMatrix] ++ [Tr.mk7 123] ++ cellsT c 0 (ks.take (0 + 1)) from by have h := HTK.out; rw [HSEP.out] at h; rw [h]; simp only [List.append_assoc, List.nil_append])
     have hpst := PSTw3.out
     have hacc := ACCw3.out
     rw [HE.out] at hpst hacc
     exact ⟨0 + 1, by go_num, by omega, hpst, hacc, B0_w3⟩
    case measure => simp [intOf]; omega
   ·have e0 : ((j : Int) == 0) = false := by rw [beq_eq_false_iff_ne]; omega
    have e0n : (j == 0) = false := by rw [beq_eq_false_iff_ne]; omega
    by_cases jc : (j : Int) % c = 0
    ·have e1 : ((j : Int) % c == 0) = true := by rw [beq_iff_eq]; exact jc
     have HSEP := hid (show sepT c j = [⟨8, [92, 92]⟩] from by unfold sepT; rw [if_neg j0, if_pos jc])
     have FITR := hid (show Fits ([⟨8, [92, 92]⟩] ++ rowT x.kids) (adds ([Tr.name Tr.sMatrix] ++ [Tr.mk7 123] ++ cellsT c 0 (ks.take j)) toks txt).1 (adds ([Tr.name Tr.sMatrix] ++ [Tr.mk7 123] ++ cellsT c 0 (ks.take j)) toks txt).2 by
      have := FITX.out.mid
      rw [HSEP.out] at this
      exact this)
     clear j0 jc
     go_wp2_with fail
     refine Calls.mono ((add_em W0 p B 8 [92, 92]) _ _ _ (PSt.fresh PSTR.out (frA (Touch.refl _ _))) FITR.out.left) ?_
     rintro _ w4 ⟨rfl, htw4⟩
     have PSTw4 := hid (PSt.add2 (PSt.fresh PSTR.out (frA (Touch.refl _ _))) htw4)
     have ACCw4 := hid (PrAdd.app ACCR.out (PrAdd.freshL (show Fresh wr _ from (frA (Touch.refl _ _))) htw4))
     have FITw4 := hid (Fits.right2 FITR.out)
     have B0_w4 : Blk w4 (w.heap.size) 24 #[kd, tx, .int .i64 c, .slice (some ⟨g, o, none⟩) ks.length cap] := PrAdd.blk htw4 (by first | exact blkN | assumption | exact blkA (by assumption)) (by have := PSt.lt PST0.out; have := PSt.hB PST0.out; omega) (by decide) (by decide)
     have B1_w4 : Blk w4 (wr.heap.size) 24 #[.int .i64 x.kind, .string (⟨x.text.toArray⟩ : ByteArray), .int .i64 x.cols, .slice Ax x.kids.length capx] := PrAdd.blk htw4 (by first | exact blkN | assumption | exact blkA (by assumption)) (by have := PSt.lt PSTR.out; have := PSt.hB PSTR.out; omega) (by decide) (by decide)
     clear q0_0_wr q0_1_wr q0_2_wr q0_3_wr B0_wr
     obtain ⟨q0_0_w4, q0_1_w4, q0_2_w4, q0_3_w4, _⟩ := Blk.four B0_w4
     obtain ⟨q1_0_w4, q1_1_w4, q1_2_w4, q1_3_w4, _⟩ := Blk.four B1_w4
     clear xx0_wr xx1_wr xx2_wr xx3_wr
     obtain ⟨xx0_w4, xx1_w4, xx2_w4, xx3_w4⟩ := low4 (PSt.low PSTw4.out) XX0.out XX1.out XX2.out XX3.out
     have hlt_g_w4 : g < w4.heap.size := block_lt_of_cell xx0_w4
     clear htw4
     go_wp2_with fail
     refine Calls.mono ((ROWx.out) _ _ _ (PSt.fresh PSTw4.out (frA (Touch.refl _ _))) FITw4.out) ?_
     rintro _ w5 ⟨rfl, htw5⟩
     have PSTw5 := hid (PSt.add2 (PSt.fresh PSTw4.out (frA (Touch.refl _ _))) htw5)
     have ACCw5 := hid (PrAdd.app ACCw4.out (PrAdd.freshL (show Fresh w4 _ from (frA (Touch.refl _ _))) htw5))
     have B0_w5 : Blk w5 (w.heap.size) 24 #[kd, tx, .int .i64 c, .slice (some ⟨g, o, none⟩) ks.length cap] := PrAdd.blk htw5 (by first | exact blkN | assumption | exact blkA (by assumption)) (by have := PSt.lt PST0.out; have := PSt.hB PST0.out; omega) (by decide) (by decide)
     have B1_w5 : Blk w5 (wr.heap.size) 24 #[.int .i64 x.kind, .string (⟨x.text.toArray⟩ : ByteArray), .int .i64 x.cols, .slice Ax x.kids.length capx] := PrAdd.blk htw5 (by first | exact blkN | assumption | exact blkA (by assumption)) (by have := PSt.lt PSTR.out; have := PSt.hB PSTR.out; omega) (by decide) (by decide)
     clear q0_0_w4 q0_1_w4 q0_2_w4 q0_3_w4 B0_w4 q1_0_w4 q1_1_w4 q1_2_w4 q1_3_w4 B1_w4
     obtain ⟨q0_0_w5, q0_1_w5, q0_2_w5, q0_3_w5, _⟩ := Blk.four B0_w5
     obtain ⟨q1_0_w5, q1_1_w5, q1_2_w5, q1_3_w5, _⟩ := Blk.four B1_w5
     clear xx0_w4 xx1_w4 xx2_w4 xx3_w4
     obtain ⟨xx0_w5, xx1_w5, xx2_w5, xx3_w5⟩ := low4 (PSt.low PSTw5.out) XX0.out XX1.out XX2.out XX3.out
     have hlt_g_w5 : g < w5.heap.size := block_lt_of_cell xx0_w5
     clear htw5
     go_wp2_with fail
     go_roundw
     case rel =>
      have HE := hid (show [Tr.name Tr.sMatrix] ++ [Tr.mk7 123] ++ cellsT c 0 (ks.take j) ++ [⟨8, [92, 92]⟩] ++ rowT x.kids = [Tr.name Tr.sMatrix] ++ [Tr.mk7 123] ++ cellsT c 0 (ks.take (j + 1)) from by have h := HTK.out; rw [HSEP.out] at h; rw [h]; simp only [List.append_assoc])
      have hpst := PSTw5.out
      have hacc := ACCw5.out
      rw [HE.out] at hpst hacc
      exact ⟨j + 1, by go_num, by omega, hpst, hacc, B0_w5⟩
     case measure => simp [intOf]; omega
    ·have e1 : ((j : Int) % c == 0) = false := by rw [beq_eq_false_iff_ne]; exact jc
     have HSEP := hid (show sepT c j = [⟨7, [38]⟩] from by unfold sepT; rw [if_neg j0, if_neg jc]; rfl)
     have FITR := hid (show Fits ([⟨7, [38]⟩] ++ rowT x.kids) (adds ([Tr.name Tr.sMatrix] ++ [Tr.mk7 123] ++ cellsT c 0 (ks.take j)) toks txt).1 (adds ([Tr.name Tr.sMatrix] ++ [Tr.mk7 123] ++ cellsT c 0 (ks.take j)) toks txt).2 by
      have := FITX.out.mid
      rw [HSEP.out] at this
      exact this)
     clear j0 jc
     go_wp2_with fail
     refine Calls.mono ((mark_em W0 p B [38]) _ _ _ (PSt.fresh PSTR.out (frA (Touch.refl _ _))) FITR.out.left) ?_
     rintro _ w6 ⟨rfl, htw6⟩
     have PSTw6 := hid (PSt.add2 (PSt.fresh PSTR.out (frA (Touch.refl _ _))) htw6)
     have ACCw6 := hid (PrAdd.app ACCR.out (PrAdd.freshL (show Fresh wr _ from (frA (Touch.refl _ _))) htw6))
     have FITw6 := hid (Fits.right2 FITR.out)
     have B0_w6 : Blk w6 (w.heap.size) 24 #[kd, tx, .int .i64 c, .slice (some ⟨g, o, none⟩) ks.length cap] := PrAdd.blk htw6 (by first | exact blkN | assumption | exact blkA (by assumption)) (by have := PSt.lt PST0.out; have := PSt.hB PST0.out; omega) (by decide) (by decide)
     have B1_w6 : Blk w6 (wr.heap.size) 24 #[.int .i64 x.kind, .string (⟨x.text.toArray⟩ : ByteArray), .int .i64 x.cols, .slice Ax x.kids.length capx] := PrAdd.blk htw6 (by first | exact blkN | assumption | exact blkA (by assumption)) (by have := PSt.lt PSTR.out; have := PSt.hB PSTR.out; omega) (by decide) (by decide)
     clear q0_0_wr q0_1_wr q0_2_wr q0_3_wr B0_wr
     obtain ⟨q0_0_w6, q0_1_w6, q0_2_w6, q0_3_w6, _⟩ := Blk.four B0_w6
     obtain ⟨q1_0_w6, q1_1_w6, q1_2_w6, q1_3_w6, _⟩ := Blk.four B1_w6
     clear xx0_wr xx1_wr xx2_wr xx3_wr
     obtain ⟨xx0_w6, xx1_w6, xx2_w6, xx3_w6⟩ := low4 (PSt.low PSTw6.out) XX0.out XX1.out XX2.out XX3.out
     have hlt_g_w6 : g < w6.heap.size := block_lt_of_cell xx0_w6
     clear htw6
     go_wp2_with fail
     refine Calls.mono ((ROWx.out) _ _ _ (PSt.fresh PSTw6.out (frA (Touch.refl _ _))) FITw6.out) ?_
     rintro _ w7 ⟨rfl, htw7⟩
     have PSTw7 := hid (PSt.add2 (PSt.fresh PSTw6.out (frA (Touch.refl _ _))) htw7)
     have ACCw7 := hid (PrAdd.app ACCw6.out (PrAdd.freshL (show Fresh w6 _ from (frA (Touch.refl _ _))) htw7))
     have B0_w7 : Blk w7 (w.heap.size) 24 #[kd, tx, .int .i64 c, .slice (some ⟨g, o, none⟩) ks.length cap] := PrAdd.blk htw7 (by first | exact blkN | assumption | exact blkA (by assumption)) (by have := PSt.lt PST0.out; have := PSt.hB PST0.out; omega) (by decide) (by decide)
     have B1_w7 : Blk w7 (wr.heap.size) 24 #[.int .i64 x.kind, .string (⟨x.text.toArray⟩ : ByteArray), .int .i64 x.cols, .slice Ax x.kids.length capx] := PrAdd.blk htw7 (by first | exact blkN | assumption | exact blkA (by assumption)) (by have := PSt.lt PSTR.out; have := PSt.hB PSTR.out; omega) (by decide) (by decide)
     clear q0_0_w6 q0_1_w6 q0_2_w6 q0_3_w6 B0_w6 q1_0_w6 q1_1_w6 q1_2_w6 q1_3_w6 B1_w6
     obtain ⟨q0_0_w7, q0_1_w7, q0_2_w7, q0_3_w7, _⟩ := Blk.four B0_w7
     obtain ⟨q1_0_w7, q1_1_w7, q1_2_w7, q1_3_w7, _⟩ := Blk.four B1_w7
     clear xx0_w6 xx1_w6 xx2_w6 xx3_w6
     obtain ⟨xx0_w7, xx1_w7, xx2_w7, xx3_w7⟩ := low4 (PSt.low PSTw7.out) XX0.out XX1.out XX2.out XX3.out
     have hlt_g_w7 : g < w7.heap.size := block_lt_of_cell xx0_w7
     clear htw7
     go_wp2_with fail
     go_roundw
     case rel =>
      have HE := hid (show [Tr.name Tr.sMatrix] ++ [Tr.mk7 123] ++ cellsT c 0 (ks.take j) ++ [⟨7, [38]⟩] ++ rowT x.kids = [Tr.name Tr.sMatrix] ++ [Tr.mk7 123] ++ cellsT c 0 (ks.take (j + 1)) from by have h := HTK.out; rw [HSEP.out] at h; rw [h]; simp only [List.append_assoc])
      have hpst := PSTw7.out
      have hacc := ACCw7.out
      rw [HE.out] at hpst hacc
      exact ⟨j + 1, by go_num, by omega, hpst, hacc, B0_w7⟩
     case measure => simp [intOf]; omega
  ·have d1 : decide ((j : Int) < (ks.length : Int)) = false := by simp only [decide_eq_false_iff_not]; omega
   have hlt_w_wr : w.heap.size < wr.heap.size := Blk.lt HB.out
   have d1n : decide (j < ks.length) = false := by simp only [decide_eq_false_iff_not]; omega
   obtain rfl : j = ks.length := by omega
   obtain ⟨q0_0_wr, q0_1_wr, q0_2_wr, q0_3_wr, _⟩ := Blk.four HB.out
   have B0_wr : Blk wr w.heap.size 24 #[kd, tx, .int .i64 c, .slice A ks.length cap] := HB.out
   have ACCE := hid (show PrAdd w wr p B toks txt ([Tr.name Tr.sMatrix] ++ [Tr.mk7 123] ++ cellsT c 0 ks) by
    have := ACCR.out
    rwa [List.take_length] at this)
   have PSTE := hid (show PSt W0 p B wr (adds ([Tr.name Tr.sMatrix] ++ [Tr.mk7 123] ++ cellsT c 0 ks) toks txt).1 (adds ([Tr.name Tr.sMatrix] ++ [Tr.mk7 123] ++ cellsT c 0 ks) toks txt).2 by
    have := PSTR.out
    rwa [List.take_length] at this)
   have FITE := hid (Fits.right (l := [Tr.name Tr.sMatrix] ++ [Tr.mk7 123] ++ cellsT c 0 ks) (m := [Tr.mk7 125]) (by have := FIT0.out; simpa only [List.append_assoc] using this))
   go_wp2_with fail
   refine Calls.mono ((mark_em W0 p B [125]) _ _ _ (PSt.fresh PSTE.out (frA (Touch.refl _ _))) FITE.out) ?_
   rintro _ w8 ⟨rfl, htw8⟩
   have PSTw8 := hid (PSt.add2 (PSt.fresh PSTE.out (frA (Touch.refl _ _))) htw8)
   have ACCw8 := hid (PrAdd.app ACCE.out (PrAdd.freshL (show Fresh wr _ from (frA (Touch.refl _ _))) htw8))
   have B0_w8 : Blk w8 (w.heap.size) 24 #[kd, tx, .int .i64 c, .slice A ks.length cap] := PrAdd.blk htw8 (by first | exact blkN | assumption | exact blkA (by assumption)) (by have := PSt.lt PST0.out; have := PSt.hB PST0.out; omega) (by decide) (by decide)
   clear q0_0_wr q0_1_wr q0_2_wr q0_3_wr B0_wr
   obtain ⟨q0_0_w8, q0_1_w8, q0_2_w8, q0_3_w8, _⟩ := Blk.four B0_w8
   clear htw8
   go_wp2_with fail
   first | go_end0 | refine bodyPost_ret (v := .tuple #[]) (results_none rfl _ _ _) rfl ?_
   exact ⟨rfl, PrAdd.cast ACCw8.out (by first | rfl | (simp only [List.append_assoc] <;> rfl))⟩
end Go.Proofs.YtdacpbdamliafaaGreat

/- The walk of checker.own. -/
namespace Go.Proofs.YtdacpbdamliafaaGreat
open Go.RowKit
theorem same_fresh {f : Nat} {args : Array Value} {v : Value} {w : World} (h : Calls Tryz.prog f args w fun e w' => e = .returned v ∧ w' = w) : Calls Tryz.prog f args w fun e w' => e = .returned v ∧ Fresh w w' :=
 h.mono fun _ _ h => ⟨h.1, by rw [h.2]; exact Touch.refl _ _⟩
def checkCells (m : Int) : Array Value := kindCells.push (.int .i64 m)
def ownRest (k c : Int) (n : Nat) (slots : Int) : Bool :=
 if k == 1 then (c == (0 : Int)) && decide ((n : Int) ≤ (200 : Int))
 else if k == 12 then decide ((1 : Int) ≤ c) && (decide (c ≤ (16 : Int)) && (decide ((1 : Int) ≤ (n : Int)) && (decide ((n : Int) ≤ (256 : Int)) && (((n : Int) % c) == (0 : Int)))))
 else (c == (0 : Int)) && ((n : Int) == slots)
set_option maxHeartbeats 2000000 in
theorem own_gen (t : List UInt8) (cols slots : Int) (k len : Nat) (fid : Nat) (tx : Bool) (A : Option Addr) (cap c g o : Nat) (w : World) (hk1 : 1 ≤ k) (hk2 : k ≤ 12) (hcf : ∀ (a : Array Value) (w' : World), (callFunc fid a).run Tryz.prog w' = .ok (.enter fid a) w')
  (ct : ∀ w', Calls Tryz.prog fid #[.string ⟨t.toArray⟩] w' fun e w'' => e = .returned (.bool tx) ∧ Fresh w' w'')
  (a0 : w.cell? ⟨g, o, none⟩ = some (.int .i64 (k : Int))) (a1 : w.cell? ⟨g, o + 1, none⟩ = some (.string ⟨t.toArray⟩)) (a2 : w.cell? ⟨g, o + 2, none⟩ = some (.int .i64 cols)) (a3 : w.cell? ⟨g, o + 3, none⟩ = some (.slice A len cap))
  (c1 : w.cell? ⟨c, k * 3 + 1, none⟩ = some (.int .i64 slots)) (c2 : w.cell? ⟨c, k * 3 + 2, none⟩ = some (.func (.func fid) #[] #[])) :
  Calls Tryz.prog 120 #[.pointer (some ⟨c, 0, none⟩), .pointer (some ⟨g, o, none⟩)] w fun e w' => e = .returned (.bool (tx && ownRest k cols len slots)) ∧ Fresh w w' := by
 have CT := hid ct
 clear ct
 have e1 : decide ((k : Int) < (1 : Int)) = false := by simp only [decide_eq_false_iff_not]; omega
 have e2 : decide ((12 : Int) < (k : Int)) = false := by simp only [decide_eq_false_iff_not]; omega
 have e3 : decide (k < 1) = false := by simp only [decide_eq_false_iff_not]; omega
 have e4 : decide (12 < k) = false := by simp only [decide_eq_false_iff_not]; omega
 have e5 : (k : Int) < 13 := by omega
 have e6 : k < 13 := by omega
 go_enter Tryz.func120, Tryz.ntmps120
 go_wp2_with fail
 refine forget_world (fun W => Fresh w W) (frA (Touch.refl _ _)) ?_
 rintro w1 hfw1
 have HF1 := hid hfw1
 clear hfw1
 obtain ⟨a0_w1, a1_w1, a2_w1, a3_w1⟩ := mv4 HF1.out a0 a1 a2 a3
 have c1_w1 := Touch.cell HF1.out c1 (fun h => h)
 have c2_w1 := Touch.cell HF1.out c2 (fun h => h)
 clear a0 a1 a2 a3 c1 c2
 have ga0_w1 := cell_regrown a0_w1
 have ga1_w1 := cell_regrown a1_w1
 have ga2_w1 := cell_regrown a2_w1
 have ga3_w1 := cell_regrown a3_w1
 have gc1_w1 := cell_regrown c1_w1
 have gc2_w1 := cell_regrown c2_w1
 have C0_w1 := hid (calmF (P := Tryz.prog) w1 (fun w hw => CT.out _))
 refine wp_region_quiet_below (by kernel_rfl) (by kernel_rfl) ?_
 repeat (quiet_step (first | with_reducible exact C0_w1.out _ _))
 refine wpQuiet_nil ?_
 rintro w2 ⟨⟨_, _⟩, hWw2⟩
 have hfw2 : Fresh w1 w2 := by rw [hWw2]; exact fresh_of_below (below_regrown _ _ _)
 clear hWw2 ga0_w1 ga1_w1 ga2_w1 ga3_w1 gc1_w1 gc2_w1
 have HF2 := hid (show Fresh w1 w2 from preA hfw2)
 obtain ⟨a0_w2, a1_w2, a2_w2, a3_w2⟩ := mv4 HF2.out a0_w1 a1_w1 a2_w1 a3_w1
 have c1_w2 := Touch.cell HF2.out c1_w1 (fun h => h)
 have c2_w2 := Touch.cell HF2.out c2_w1 (fun h => h)
 clear a0_w1 a1_w1 a2_w1 a3_w1 c1_w1 c2_w1
 clear hfw2
 cases h1 : tx with
 | false =>
  go_wp2_with fail
  go_ret
  exact ⟨ret_bool' _ _ (by unfold ownRest; simp only [*] <;> rfl), (frA (HF1.out.trans HF2.out))⟩
 | true =>
  cases h2 : ((k : Int) == (1 : Int)) with
  | false =>
   have h2m : ((k : Int) != (1 : Int)) = true := by rw [bne, h2]; rfl
   have h2n : (k == 1) = false := by have hx := h2; simp only [beq_eq_false_iff_ne, ne_eq] at hx ⊢; omega
   cases h3 : ((k : Int) == (12 : Int)) with
   | false =>
    have h3m : ((k : Int) != (12 : Int)) = true := by rw [bne, h3]; rfl
    have h3n : (k == 12) = false := by have hx := h3; simp only [beq_eq_false_iff_ne, ne_eq] at hx ⊢; omega
    cases h4 : (cols == (0 : Int)) with
    | false =>
     have h4m : (cols != (0 : Int)) = true := by rw [bne, h4]; rfl
     go_wp2_with fail
     go_quiet (fail)
     go_wp2_with fail
     go_ret
     exact ⟨ret_bool' _ _ (by unfold ownRest; simp only [*] <;> rfl), (frA (HF1.out.trans HF2.out))⟩
    | true =>
     have h4m : (cols != (0 : Int)) = false := by rw [bne, h4]; rfl
     go_wp2_with fail
     go_quiet (fail)
     cases h5 : ((len : Int) == slots) with
     | false =>
      have h5m : ((len : Int) != slots) = true := by rw [bne, h5]; rfl
      go_wp2_with fail
      go_ret
      exact ⟨ret_bool' _ _ (by unfold ownRest; simp only [*] <;> rfl), (frA (HF1.out.trans HF2.out))⟩
     | true =>
      have h5m : ((len : Int) != slots) = false := by rw [bne, h5]; rfl
      go_wp2_with fail
      go_ret
      exact ⟨ret_bool' _ _ (by unfold ownRest; simp only [*] <;> rfl), (frA (HF1.out.trans HF2.out))⟩
   | true =>
    have h3m : ((k : Int) != (12 : Int)) = false := by rw [bne, h3]; rfl
    have h3n : (k == 12) = true := by have hx := h3; simp only [beq_iff_eq] at hx ⊢; omega
    cases h6 : decide ((1 : Int) ≤ cols) with
    | false =>
     go_wp2_with fail
     go_quiet (fail)
     go_wp2_with fail
     go_ret
     exact ⟨ret_bool' _ _ (by unfold ownRest; simp only [*] <;> rfl), (frA (HF1.out.trans HF2.out))⟩
    | true =>
     have h6p := of_decide_eq_true h6
     cases h7 : decide (cols ≤ (16 : Int)) with
     | false =>
      go_wp2_with fail
      go_quiet (fail)
      go_wp2_with fail
      go_ret
      exact ⟨ret_bool' _ _ (by unfold ownRest; simp only [*] <;> rfl), (frA (HF1.out.trans HF2.out))⟩
     | true =>
      have h7p := of_decide_eq_true h7
      cases h8 : decide ((1 : Int) ≤ (len : Int)) with
      | false =>
       have h8n : decide (1 ≤ len) = false := by have hx := h8; simp only [decide_eq_false_iff_not] at hx ⊢; omega
       go_wp2_with fail
       go_quiet (fail)
       go_wp2_with fail
       go_ret
       exact ⟨ret_bool' _ _ (by unfold ownRest; simp only [*] <;> rfl), (frA (HF1.out.trans HF2.out))⟩
      | true =>
       have h8p := of_decide_eq_true h8
       have h8n : decide (1 ≤ len) = true := by have hx := h8; simp only [decide_eq_true_eq] at hx ⊢; omega
       cases h9 : decide ((len : Int) ≤ (256 : Int)) with
       | false =>
        have h9n : decide (len ≤ 256) = false := by have hx := h9; simp only [decide_eq_false_iff_not] at hx ⊢; omega
        go_wp2_with fail
        go_quiet (fail)
        go_wp2_with fail
        go_ret
        exact ⟨ret_bool' _ _ (by unfold ownRest; simp only [*] <;> rfl), (frA (HF1.out.trans HF2.out))⟩
       | true =>
        have h9p := of_decide_eq_true h9
        have h9n : decide (len ≤ 256) = true := by have hx := h9; simp only [decide_eq_true_eq] at hx ⊢; omega
        go_wp2_with fail
        go_quiet (fail)
        cases h10 : (((len : Int) % cols) == (0 : Int)) with
        | false =>
         have h10m : (((len : Int) % cols) != (0 : Int)) = true := by rw [bne, h10]; rfl
         go_wp2_with fail
         go_ret
         exact ⟨ret_bool' _ _ (by unfold ownRest; simp only [*] <;> rfl), (frA (HF1.out.trans HF2.out))⟩
        | true =>
         have h10m : (((len : Int) % cols) != (0 : Int)) = false := by rw [bne, h10]; rfl
         go_wp2_with fail
         go_ret
         exact ⟨ret_bool' _ _ (by unfold ownRest; simp only [*] <;> rfl), (frA (HF1.out.trans HF2.out))⟩
  | true =>
   have h2m : ((k : Int) != (1 : Int)) = false := by rw [bne, h2]; rfl
   have h2n : (k == 1) = true := by have hx := h2; simp only [beq_iff_eq] at hx ⊢; omega
   cases h11 : (cols == (0 : Int)) with
   | false =>
    have h11m : (cols != (0 : Int)) = true := by rw [bne, h11]; rfl
    go_wp2_with fail
    go_ret
    exact ⟨ret_bool' _ _ (by unfold ownRest; simp only [*] <;> rfl), (frA (HF1.out.trans HF2.out))⟩
   | true =>
    have h11m : (cols != (0 : Int)) = false := by rw [bne, h11]; rfl
    cases h12 : decide ((len : Int) ≤ (200 : Int)) with
    | false =>
     have h12n : decide (len ≤ 200) = false := by have hx := h12; simp only [decide_eq_false_iff_not] at hx ⊢; omega
     go_wp2_with fail
     go_ret
     exact ⟨ret_bool' _ _ (by unfold ownRest; simp only [*] <;> rfl), (frA (HF1.out.trans HF2.out))⟩
    | true =>
     have h12p := of_decide_eq_true h12
     have h12n : decide (len ≤ 200) = true := by have hx := h12; simp only [decide_eq_true_eq] at hx ⊢; omega
     go_wp2_with fail
     go_ret
     exact ⟨ret_bool' _ _ (by unfold ownRest; simp only [*] <;> rfl), (frA (HF1.out.trans HF2.out))⟩
end Go.Proofs.YtdacpbdamliafaaGreat
