/- Part 31 of 53 of a proof; its texts, joined: PrP. No condition. -/
import Derived.Test.YtgfhlfbcoimojaaGreatUb30

/- The printer's scripts and fence. -/
namespace Go.Proofs.YtgfhlfbcoimojaaGreat
open Go.RowKit
open Tr (Nd argT baseT rowT itemT)
theorem scripted_is {b : Bool} (n : Nd) (sl : Value) (w : World) (h : Tr.scripted n = b) : Calls Tryz.prog 134 #[nv n sl] w fun e w' => e = .returned (.bool b) ∧ Fresh w w' := by
 have := scripted_any n sl w
 rw [h] at this
 exact this
set_option maxRecDepth 100000 in
set_option maxHeartbeats 1000000 in
theorem scripts_7_row (W0 : World) (p B : Nat) (tx cl : Value) (a b : Nd) (x : Nd) (hx : a.kids = [x]) (hs : Tr.scripted x = false) (ha : RowE W0 p B a) (hb : ArgE W0 p B b) (sl : Value) (hsl : RepL W0 [a, b] sl) : Emits 101 #[pp p, .agg #[.int .i64 7, tx, cl, sl]] W0 p B (baseT a ++ ([Tr.mk7 95] ++ argT b)) := by
 intro w toks txt hp hf
 rw [baseT_row a x hx hs] at hf ⊢
 obtain ⟨g, o, cap, sa, sb, rfl, a0, a1, a2, a3, hra, b0, b1, b2, b3, hrb⟩ := hsl.two
 have ROWa := hid (ha sa hra)
 have ARGb := hid (hb sb hrb)
 rw [hx] at hra
 obtain ⟨gx, ox, cax, sx, rfl, x0, x1, x2, x3, hrx⟩ := hra.one
 have e1 : a.kids.length = 1 := by rw [hx]; rfl
 have HS := hid hs
 clear e1 hs hrx
 have PST0 := hid hp
 have FIT0 := hid hf
 clear hp hf ha hb hsl hra hrb hx
 have XA0 := hid a0
 have XA1 := hid a1
 have XA2 := hid a2
 have XA3 := hid a3
 have XB0 := hid b0
 have XB1 := hid b1
 have XB2 := hid b2
 have XB3 := hid b3
 have XX0 := hid x0
 have XX1 := hid x1
 have XX2 := hid x2
 have XX3 := hid x3
 clear a0 a1 a2 a3 b0 b1 b2 b3 x0 x1 x2 x3
 obtain ⟨xa0_w, xa1_w, xa2_w, xa3_w⟩ := low4 (PSt.low PST0.out) XA0.out XA1.out XA2.out XA3.out
 obtain ⟨xb0_w, xb1_w, xb2_w, xb3_w⟩ := low4 (PSt.low PST0.out) XB0.out XB1.out XB2.out XB3.out
 obtain ⟨xx0_w, xx1_w, xx2_w, xx3_w⟩ := low4 (PSt.low PST0.out) XX0.out XX1.out XX2.out XX3.out
 have hlt_g_w : g < w.heap.size := block_lt_of_cell xa0_w
 have hlt_gx_w : gx < w.heap.size := block_lt_of_cell xx0_w
 go_enter Tryz.func101, Tryz.ntmps101
 go_wp2_with fail
 refine Calls.mono (scripted_is x _ _ HS.out) ?_
 rintro _ w1 ⟨rfl, hfw1⟩
 have HF1 := hid (show Fresh w w1 from preA hfw1)
 have B0_w1 : Blk w1 (w.heap.size) 26 #[.int .i64 (7 : Int), tx, cl, .slice (some ⟨g, o, none⟩) 2 cap] := Touch.blk hfw1 (by first | exact blkN | assumption | exact blkA (by assumption)) (fun h => h)
 have B1_w1 : Blk w1 (w.heap.size + 1) 26 #[.int .i64 a.kind, .string (⟨a.text.toArray⟩ : ByteArray), .int .i64 a.cols, .slice (some ⟨gx, ox, none⟩) 1 cax] := Touch.blk hfw1 (by first | exact blkN | assumption | exact blkA (by assumption)) (fun h => h)
 obtain ⟨q0_0_w1, q0_1_w1, q0_2_w1, q0_3_w1, _⟩ := Blk.four B0_w1
 obtain ⟨q1_0_w1, q1_1_w1, q1_2_w1, q1_3_w1, _⟩ := Blk.four B1_w1
 obtain ⟨xa0_w1, xa1_w1, xa2_w1, xa3_w1⟩ := mv4 HF1.out xa0_w xa1_w xa2_w xa3_w
 obtain ⟨xb0_w1, xb1_w1, xb2_w1, xb3_w1⟩ := mv4 HF1.out xb0_w xb1_w xb2_w xb3_w
 obtain ⟨xx0_w1, xx1_w1, xx2_w1, xx3_w1⟩ := mv4 HF1.out xx0_w xx1_w xx2_w xx3_w
 clear xa0_w xa1_w xa2_w xa3_w xb0_w xb1_w xb2_w xb3_w xx0_w xx1_w xx2_w xx3_w
 have hlt_g_w1 : g < w1.heap.size := block_lt_of_cell xa0_w1
 have hlt_gx_w1 : gx < w1.heap.size := block_lt_of_cell xx0_w1
 have PSTw1 := hid (PSt.fresh PST0.out HF1.out)
 clear hfw1
 go_wp2_with fail
 refine Calls.mono ((ROWa.out) _ _ _ (PSt.fresh PSTw1.out (frA (Touch.refl _ _))) FIT0.out.left) ?_
 rintro _ w2 ⟨rfl, htw2⟩
 have PSTw2 := hid (PSt.add (PSt.fresh PSTw1.out (frA (Touch.refl _ _))) htw2)
 have ACCw2 := hid (PrAdd.freshL (show Fresh w _ from (frA HF1.out)) htw2)
 have FITw2 := hid (Fits.right FIT0.out)
 have B0_w2 : Blk w2 (w.heap.size) 26 #[.int .i64 (7 : Int), tx, cl, .slice (some ⟨g, o, none⟩) 2 cap] := PrAdd.blk htw2 (by first | exact blkN | assumption | exact blkA (by assumption)) (by have := PSt.lt PST0.out; have := PSt.hB PST0.out; omega) (by decide) (by decide)
 have B1_w2 : Blk w2 (w.heap.size + 1) 26 #[.int .i64 a.kind, .string (⟨a.text.toArray⟩ : ByteArray), .int .i64 a.cols, .slice (some ⟨gx, ox, none⟩) 1 cax] := PrAdd.blk htw2 (by first | exact blkN | assumption | exact blkA (by assumption)) (by have := PSt.lt PST0.out; have := PSt.hB PST0.out; omega) (by decide) (by decide)
 clear q0_0_w1 q0_1_w1 q0_2_w1 q0_3_w1 B0_w1 q1_0_w1 q1_1_w1 q1_2_w1 q1_3_w1 B1_w1
 obtain ⟨q0_0_w2, q0_1_w2, q0_2_w2, q0_3_w2, _⟩ := Blk.four B0_w2
 obtain ⟨q1_0_w2, q1_1_w2, q1_2_w2, q1_3_w2, _⟩ := Blk.four B1_w2
 clear xa0_w1 xa1_w1 xa2_w1 xa3_w1 xb0_w1 xb1_w1 xb2_w1 xb3_w1 xx0_w1 xx1_w1 xx2_w1 xx3_w1
 obtain ⟨xa0_w2, xa1_w2, xa2_w2, xa3_w2⟩ := low4 (PSt.low PSTw2.out) XA0.out XA1.out XA2.out XA3.out
 obtain ⟨xb0_w2, xb1_w2, xb2_w2, xb3_w2⟩ := low4 (PSt.low PSTw2.out) XB0.out XB1.out XB2.out XB3.out
 obtain ⟨xx0_w2, xx1_w2, xx2_w2, xx3_w2⟩ := low4 (PSt.low PSTw2.out) XX0.out XX1.out XX2.out XX3.out
 have hlt_g_w2 : g < w2.heap.size := block_lt_of_cell xa0_w2
 have hlt_gx_w2 : gx < w2.heap.size := block_lt_of_cell xx0_w2
 clear htw2
 go_wp2_with fail
 refine Calls.mono ((mark_em W0 p B [95]) _ _ _ (PSt.fresh PSTw2.out (frA (Touch.refl _ _))) FITw2.out.left) ?_
 rintro _ w3 ⟨rfl, htw3⟩
 have PSTw3 := hid (PSt.add2 (PSt.fresh PSTw2.out (frA (Touch.refl _ _))) htw3)
 have ACCw3 := hid (PrAdd.app ACCw2.out (PrAdd.freshL (show Fresh w2 _ from (frA (Touch.refl _ _))) htw3))
 have FITw3 := hid (Fits.right2 FITw2.out)
 have B0_w3 : Blk w3 (w.heap.size) 26 #[.int .i64 (7 : Int), tx, cl, .slice (some ⟨g, o, none⟩) 2 cap] := PrAdd.blk htw3 (by first | exact blkN | assumption | exact blkA (by assumption)) (by have := PSt.lt PST0.out; have := PSt.hB PST0.out; omega) (by decide) (by decide)
 have B1_w3 : Blk w3 (w.heap.size + 1) 26 #[.int .i64 a.kind, .string (⟨a.text.toArray⟩ : ByteArray), .int .i64 a.cols, .slice (some ⟨gx, ox, none⟩) 1 cax] := PrAdd.blk htw3 (by first | exact blkN | assumption | exact blkA (by assumption)) (by have := PSt.lt PST0.out; have := PSt.hB PST0.out; omega) (by decide) (by decide)
 clear q0_0_w2 q0_1_w2 q0_2_w2 q0_3_w2 B0_w2 q1_0_w2 q1_1_w2 q1_2_w2 q1_3_w2 B1_w2
 obtain ⟨q0_0_w3, q0_1_w3, q0_2_w3, q0_3_w3, _⟩ := Blk.four B0_w3
 obtain ⟨q1_0_w3, q1_1_w3, q1_2_w3, q1_3_w3, _⟩ := Blk.four B1_w3
 clear xa0_w2 xa1_w2 xa2_w2 xa3_w2 xb0_w2 xb1_w2 xb2_w2 xb3_w2 xx0_w2 xx1_w2 xx2_w2 xx3_w2
 obtain ⟨xa0_w3, xa1_w3, xa2_w3, xa3_w3⟩ := low4 (PSt.low PSTw3.out) XA0.out XA1.out XA2.out XA3.out
 obtain ⟨xb0_w3, xb1_w3, xb2_w3, xb3_w3⟩ := low4 (PSt.low PSTw3.out) XB0.out XB1.out XB2.out XB3.out
 obtain ⟨xx0_w3, xx1_w3, xx2_w3, xx3_w3⟩ := low4 (PSt.low PSTw3.out) XX0.out XX1.out XX2.out XX3.out
 have hlt_g_w3 : g < w3.heap.size := block_lt_of_cell xa0_w3
 have hlt_gx_w3 : gx < w3.heap.size := block_lt_of_cell xx0_w3
 clear htw3
 go_wp2_with fail
 refine Calls.mono ((ARGb.out) _ _ _ (PSt.fresh PSTw3.out (frA (Touch.refl _ _))) FITw3.out) ?_
 rintro _ w4 ⟨rfl, htw4⟩
 have PSTw4 := hid (PSt.add2 (PSt.fresh PSTw3.out (frA (Touch.refl _ _))) htw4)
 have ACCw4 := hid (PrAdd.app ACCw3.out (PrAdd.freshL (show Fresh w3 _ from (frA (Touch.refl _ _))) htw4))
 have B0_w4 : Blk w4 (w.heap.size) 26 #[.int .i64 (7 : Int), tx, cl, .slice (some ⟨g, o, none⟩) 2 cap] := PrAdd.blk htw4 (by first | exact blkN | assumption | exact blkA (by assumption)) (by have := PSt.lt PST0.out; have := PSt.hB PST0.out; omega) (by decide) (by decide)
 have B1_w4 : Blk w4 (w.heap.size + 1) 26 #[.int .i64 a.kind, .string (⟨a.text.toArray⟩ : ByteArray), .int .i64 a.cols, .slice (some ⟨gx, ox, none⟩) 1 cax] := PrAdd.blk htw4 (by first | exact blkN | assumption | exact blkA (by assumption)) (by have := PSt.lt PST0.out; have := PSt.hB PST0.out; omega) (by decide) (by decide)
 clear q0_0_w3 q0_1_w3 q0_2_w3 q0_3_w3 B0_w3 q1_0_w3 q1_1_w3 q1_2_w3 q1_3_w3 B1_w3
 obtain ⟨q0_0_w4, q0_1_w4, q0_2_w4, q0_3_w4, _⟩ := Blk.four B0_w4
 obtain ⟨q1_0_w4, q1_1_w4, q1_2_w4, q1_3_w4, _⟩ := Blk.four B1_w4
 clear xa0_w3 xa1_w3 xa2_w3 xa3_w3 xb0_w3 xb1_w3 xb2_w3 xb3_w3 xx0_w3 xx1_w3 xx2_w3 xx3_w3
 obtain ⟨xa0_w4, xa1_w4, xa2_w4, xa3_w4⟩ := low4 (PSt.low PSTw4.out) XA0.out XA1.out XA2.out XA3.out
 obtain ⟨xb0_w4, xb1_w4, xb2_w4, xb3_w4⟩ := low4 (PSt.low PSTw4.out) XB0.out XB1.out XB2.out XB3.out
 obtain ⟨xx0_w4, xx1_w4, xx2_w4, xx3_w4⟩ := low4 (PSt.low PSTw4.out) XX0.out XX1.out XX2.out XX3.out
 have hlt_g_w4 : g < w4.heap.size := block_lt_of_cell xa0_w4
 have hlt_gx_w4 : gx < w4.heap.size := block_lt_of_cell xx0_w4
 clear htw4
 go_wp2_with fail
 first | go_end0 | refine bodyPost_ret (v := .tuple #[]) (results_none rfl _ _ _) rfl ?_
 exact ⟨rfl, PrAdd.cast ACCw4.out (by first | rfl | (simp only [List.append_assoc] <;> rfl))⟩
set_option maxRecDepth 100000 in
set_option maxHeartbeats 1000000 in
theorem scripts_7_item (W0 : World) (p B : Nat) (tx cl : Value) (a b : Nd) (x : Nd) (hx : a.kids = [x]) (hs : Tr.scripted x = true) (ha : GroupE W0 p B a) (hb : ArgE W0 p B b) (sl : Value) (hsl : RepL W0 [a, b] sl) : Emits 101 #[pp p, .agg #[.int .i64 7, tx, cl, sl]] W0 p B (baseT a ++ ([Tr.mk7 95] ++ argT b)) := by
 intro w toks txt hp hf
 rw [baseT_grp a x hx hs] at hf ⊢
 obtain ⟨g, o, cap, sa, sb, rfl, a0, a1, a2, a3, hra, b0, b1, b2, b3, hrb⟩ := hsl.two
 have GRPa := hid (ha sa hra)
 have ARGb := hid (hb sb hrb)
 rw [hx] at hra
 obtain ⟨gx, ox, cax, sx, rfl, x0, x1, x2, x3, hrx⟩ := hra.one
 have e1 : a.kids.length = 1 := by rw [hx]; rfl
 have HS := hid hs
 clear e1 hs hrx
 have PST0 := hid hp
 have FIT0 := hid hf
 clear hp hf ha hb hsl hra hrb hx
 have XA0 := hid a0
 have XA1 := hid a1
 have XA2 := hid a2
 have XA3 := hid a3
 have XB0 := hid b0
 have XB1 := hid b1
 have XB2 := hid b2
 have XB3 := hid b3
 have XX0 := hid x0
 have XX1 := hid x1
 have XX2 := hid x2
 have XX3 := hid x3
 clear a0 a1 a2 a3 b0 b1 b2 b3 x0 x1 x2 x3
 obtain ⟨xa0_w, xa1_w, xa2_w, xa3_w⟩ := low4 (PSt.low PST0.out) XA0.out XA1.out XA2.out XA3.out
 obtain ⟨xb0_w, xb1_w, xb2_w, xb3_w⟩ := low4 (PSt.low PST0.out) XB0.out XB1.out XB2.out XB3.out
 obtain ⟨xx0_w, xx1_w, xx2_w, xx3_w⟩ := low4 (PSt.low PST0.out) XX0.out XX1.out XX2.out XX3.out
 have hlt_g_w : g < w.heap.size := block_lt_of_cell xa0_w
 have hlt_gx_w : gx < w.heap.size := block_lt_of_cell xx0_w
 go_enter Tryz.func101, Tryz.ntmps101
 go_wp2_with fail
 refine Calls.mono (scripted_is x _ _ HS.out) ?_
 rintro _ w1 ⟨rfl, hfw1⟩
 have HF1 := hid (show Fresh w w1 from preA hfw1)
 have B0_w1 : Blk w1 (w.heap.size) 26 #[.int .i64 (7 : Int), tx, cl, .slice (some ⟨g, o, none⟩) 2 cap] := Touch.blk hfw1 (by first | exact blkN | assumption | exact blkA (by assumption)) (fun h => h)
 have B1_w1 : Blk w1 (w.heap.size + 1) 26 #[.int .i64 a.kind, .string (⟨a.text.toArray⟩ : ByteArray), .int .i64 a.cols, .slice (some ⟨gx, ox, none⟩) 1 cax] := Touch.blk hfw1 (by first | exact blkN | assumption | exact blkA (by assumption)) (fun h => h)
 obtain ⟨q0_0_w1, q0_1_w1, q0_2_w1, q0_3_w1, _⟩ := Blk.four B0_w1
 obtain ⟨q1_0_w1, q1_1_w1, q1_2_w1, q1_3_w1, _⟩ := Blk.four B1_w1
 obtain ⟨xa0_w1, xa1_w1, xa2_w1, xa3_w1⟩ := mv4 HF1.out xa0_w xa1_w xa2_w xa3_w
 obtain ⟨xb0_w1, xb1_w1, xb2_w1, xb3_w1⟩ := mv4 HF1.out xb0_w xb1_w xb2_w xb3_w
 obtain ⟨xx0_w1, xx1_w1, xx2_w1, xx3_w1⟩ := mv4 HF1.out xx0_w xx1_w xx2_w xx3_w
 clear xa0_w xa1_w xa2_w xa3_w xb0_w xb1_w xb2_w xb3_w xx0_w xx1_w xx2_w xx3_w
 have hlt_g_w1 : g < w1.heap.size := block_lt_of_cell xa0_w1
 have hlt_gx_w1 : gx < w1.heap.size := block_lt_of_cell xx0_w1
 have PSTw1 := hid (PSt.fresh PST0.out HF1.out)
 clear hfw1
 go_wp2_with fail
 refine Calls.mono ((GRPa.out) _ _ _ (PSt.fresh PSTw1.out (frA (Touch.refl _ _))) FIT0.out.left) ?_
 rintro _ w2 ⟨rfl, htw2⟩
 have PSTw2 := hid (PSt.add (PSt.fresh PSTw1.out (frA (Touch.refl _ _))) htw2)
 have ACCw2 := hid (PrAdd.freshL (show Fresh w _ from (frA HF1.out)) htw2)
 have FITw2 := hid (Fits.right FIT0.out)
 have B0_w2 : Blk w2 (w.heap.size) 26 #[.int .i64 (7 : Int), tx, cl, .slice (some ⟨g, o, none⟩) 2 cap] := PrAdd.blk htw2 (by first | exact blkN | assumption | exact blkA (by assumption)) (by have := PSt.lt PST0.out; have := PSt.hB PST0.out; omega) (by decide) (by decide)
 have B1_w2 : Blk w2 (w.heap.size + 1) 26 #[.int .i64 a.kind, .string (⟨a.text.toArray⟩ : ByteArray), .int .i64 a.cols, .slice (some ⟨gx, ox, none⟩) 1 cax] := PrAdd.blk htw2 (by first | exact blkN | assumption | exact blkA (by assumption)) (by have := PSt.lt PST0.out; have := PSt.hB PST0.out; omega) (by decide) (by decide)
 clear q0_0_w1 q0_1_w1 q0_2_w1 q0_3_w1 B0_w1 q1_0_w1 q1_1_w1 q1_2_w1 q1_3_w1 B1_w1
 obtain ⟨q0_0_w2, q0_1_w2, q0_2_w2, q0_3_w2, _⟩ := Blk.four B0_w2
 obtain ⟨q1_0_w2, q1_1_w2, q1_2_w2, q1_3_w2, _⟩ := Blk.four B1_w2
 clear xa0_w1 xa1_w1 xa2_w1 xa3_w1 xb0_w1 xb1_w1 xb2_w1 xb3_w1 xx0_w1 xx1_w1 xx2_w1 xx3_w1
 obtain ⟨xa0_w2, xa1_w2, xa2_w2, xa3_w2⟩ := low4 (PSt.low PSTw2.out) XA0.out XA1.out XA2.out XA3.out
 obtain ⟨xb0_w2, xb1_w2, xb2_w2, xb3_w2⟩ := low4 (PSt.low PSTw2.out) XB0.out XB1.out XB2.out XB3.out
 obtain ⟨xx0_w2, xx1_w2, xx2_w2, xx3_w2⟩ := low4 (PSt.low PSTw2.out) XX0.out XX1.out XX2.out XX3.out
 have hlt_g_w2 : g < w2.heap.size := block_lt_of_cell xa0_w2
 have hlt_gx_w2 : gx < w2.heap.size := block_lt_of_cell xx0_w2
 clear htw2
 go_wp2_with fail
 refine Calls.mono ((mark_em W0 p B [95]) _ _ _ (PSt.fresh PSTw2.out (frA (Touch.refl _ _))) FITw2.out.left) ?_
 rintro _ w3 ⟨rfl, htw3⟩
 have PSTw3 := hid (PSt.add2 (PSt.fresh PSTw2.out (frA (Touch.refl _ _))) htw3)
 have ACCw3 := hid (PrAdd.app ACCw2.out (PrAdd.freshL (show Fresh w2 _ from (frA (Touch.refl _ _))) htw3))
 have FITw3 := hid (Fits.right2 FITw2.out)
 have B0_w3 : Blk w3 (w.heap.size) 26 #[.int .i64 (7 : Int), tx, cl, .slice (some ⟨g, o, none⟩) 2 cap] := PrAdd.blk htw3 (by first | exact blkN | assumption | exact blkA (by assumption)) (by have := PSt.lt PST0.out; have := PSt.hB PST0.out; omega) (by decide) (by decide)
 have B1_w3 : Blk w3 (w.heap.size + 1) 26 #[.int .i64 a.kind, .string (⟨a.text.toArray⟩ : ByteArray), .int .i64 a.cols, .slice (some ⟨gx, ox, none⟩) 1 cax] := PrAdd.blk htw3 (by first | exact blkN | assumption | exact blkA (by assumption)) (by have := PSt.lt PST0.out; have := PSt.hB PST0.out; omega) (by decide) (by decide)
 clear q0_0_w2 q0_1_w2 q0_2_w2 q0_3_w2 B0_w2 q1_0_w2 q1_1_w2 q1_2_w2 q1_3_w2 B1_w2
 obtain ⟨q0_0_w3, q0_1_w3, q0_2_w3, q0_3_w3, _⟩ := Blk.four B0_w3
 obtain ⟨q1_0_w3, q1_1_w3, q1_2_w3, q1_3_w3, _⟩ := Blk.four B1_w3
 clear xa0_w2 xa1_w2 xa2_w2 xa3_w2 xb0_w2 xb1_w2 xb2_w2 xb3_w2 xx0_w2 xx1_w2 xx2_w2 xx3_w2
 obtain ⟨xa0_w3, xa1_w3, xa2_w3, xa3_w3⟩ := low4 (PSt.low PSTw3.out) XA0.out XA1.out XA2.out XA3.out
 obtain ⟨xb0_w3, xb1_w3, xb2_w3, xb3_w3⟩ := low4 (PSt.low PSTw3.out) XB0.out XB1.out XB2.out XB3.out
 obtain ⟨xx0_w3, xx1_w3, xx2_w3, xx3_w3⟩ := low4 (PSt.low PSTw3.out) XX0.out XX1.out XX2.out XX3.out
 have hlt_g_w3 : g < w3.heap.size := block_lt_of_cell xa0_w3
 have hlt_gx_w3 : gx < w3.heap.size := block_lt_of_cell xx0_w3
 clear htw3
 go_wp2_with fail
 refine Calls.mono ((ARGb.out) _ _ _ (PSt.fresh PSTw3.out (frA (Touch.refl _ _))) FITw3.out) ?_
 rintro _ w4 ⟨rfl, htw4⟩
 have PSTw4 := hid (PSt.add2 (PSt.fresh PSTw3.out (frA (Touch.refl _ _))) htw4)
 have ACCw4 := hid (PrAdd.app ACCw3.out (PrAdd.freshL (show Fresh w3 _ from (frA (Touch.refl _ _))) htw4))
 have B0_w4 : Blk w4 (w.heap.size) 26 #[.int .i64 (7 : Int), tx, cl, .slice (some ⟨g, o, none⟩) 2 cap] := PrAdd.blk htw4 (by first | exact blkN | assumption | exact blkA (by assumption)) (by have := PSt.lt PST0.out; have := PSt.hB PST0.out; omega) (by decide) (by decide)
 have B1_w4 : Blk w4 (w.heap.size + 1) 26 #[.int .i64 a.kind, .string (⟨a.text.toArray⟩ : ByteArray), .int .i64 a.cols, .slice (some ⟨gx, ox, none⟩) 1 cax] := PrAdd.blk htw4 (by first | exact blkN | assumption | exact blkA (by assumption)) (by have := PSt.lt PST0.out; have := PSt.hB PST0.out; omega) (by decide) (by decide)
 clear q0_0_w3 q0_1_w3 q0_2_w3 q0_3_w3 B0_w3 q1_0_w3 q1_1_w3 q1_2_w3 q1_3_w3 B1_w3
 obtain ⟨q0_0_w4, q0_1_w4, q0_2_w4, q0_3_w4, _⟩ := Blk.four B0_w4
 obtain ⟨q1_0_w4, q1_1_w4, q1_2_w4, q1_3_w4, _⟩ := Blk.four B1_w4
 clear xa0_w3 xa1_w3 xa2_w3 xa3_w3 xb0_w3 xb1_w3 xb2_w3 xb3_w3 xx0_w3 xx1_w3 xx2_w3 xx3_w3
 obtain ⟨xa0_w4, xa1_w4, xa2_w4, xa3_w4⟩ := low4 (PSt.low PSTw4.out) XA0.out XA1.out XA2.out XA3.out
 obtain ⟨xb0_w4, xb1_w4, xb2_w4, xb3_w4⟩ := low4 (PSt.low PSTw4.out) XB0.out XB1.out XB2.out XB3.out
 obtain ⟨xx0_w4, xx1_w4, xx2_w4, xx3_w4⟩ := low4 (PSt.low PSTw4.out) XX0.out XX1.out XX2.out XX3.out
 have hlt_g_w4 : g < w4.heap.size := block_lt_of_cell xa0_w4
 have hlt_gx_w4 : gx < w4.heap.size := block_lt_of_cell xx0_w4
 clear htw4
 go_wp2_with fail
 first | go_end0 | refine bodyPost_ret (v := .tuple #[]) (results_none rfl _ _ _) rfl ?_
 exact ⟨rfl, PrAdd.cast ACCw4.out (by first | rfl | (simp only [List.append_assoc] <;> rfl))⟩
set_option maxRecDepth 100000 in
set_option maxHeartbeats 1000000 in
theorem scripts_7_len (W0 : World) (p B : Nat) (tx cl : Value) (a b : Nd) (hx : a.kids.length ≠ 1) (ha : GroupE W0 p B a) (hb : ArgE W0 p B b) (sl : Value) (hsl : RepL W0 [a, b] sl) : Emits 101 #[pp p, .agg #[.int .i64 7, tx, cl, sl]] W0 p B (baseT a ++ ([Tr.mk7 95] ++ argT b)) := by
 intro w toks txt hp hf
 rw [baseT_len1 a hx] at hf ⊢
 obtain ⟨g, o, cap, sa, sb, rfl, a0, a1, a2, a3, hra, b0, b1, b2, b3, hrb⟩ := hsl.two
 have GRPa := hid (ha sa hra)
 have ARGb := hid (hb sb hrb)
 obtain ⟨Aa, capa, rfl⟩ := hra.slice
 have f1 : ((a.kids.length : Int) == 1) = false := by simp only [beq_eq_false_iff_ne]; omega
 have f2 : ¬ (a.kids.length : Int) = 1 := by omega
 have PST0 := hid hp
 have FIT0 := hid hf
 clear hp hf ha hb hsl hra hrb hx
 have XA0 := hid a0
 have XA1 := hid a1
 have XA2 := hid a2
 have XA3 := hid a3
 have XB0 := hid b0
 have XB1 := hid b1
 have XB2 := hid b2
 have XB3 := hid b3
 clear a0 a1 a2 a3 b0 b1 b2 b3
 obtain ⟨xa0_w, xa1_w, xa2_w, xa3_w⟩ := low4 (PSt.low PST0.out) XA0.out XA1.out XA2.out XA3.out
 obtain ⟨xb0_w, xb1_w, xb2_w, xb3_w⟩ := low4 (PSt.low PST0.out) XB0.out XB1.out XB2.out XB3.out
 have hlt_g_w : g < w.heap.size := block_lt_of_cell xa0_w
 go_enter Tryz.func101, Tryz.ntmps101
 go_wp2_with fail
 refine Calls.mono ((GRPa.out) _ _ _ (PSt.fresh PST0.out (frA (Touch.refl _ _))) FIT0.out.left) ?_
 rintro _ w1 ⟨rfl, htw1⟩
 have PSTw1 := hid (PSt.add (PSt.fresh PST0.out (frA (Touch.refl _ _))) htw1)
 have ACCw1 := hid (PrAdd.freshL (show Fresh w _ from (frA (Touch.refl _ _))) htw1)
 have FITw1 := hid (Fits.right FIT0.out)
 have B0_w1 : Blk w1 (w.heap.size) 26 #[.int .i64 (7 : Int), tx, cl, .slice (some ⟨g, o, none⟩) 2 cap] := PrAdd.blk htw1 (by first | exact blkN | assumption | exact blkA (by assumption)) (by have := PSt.lt PST0.out; have := PSt.hB PST0.out; omega) (by decide) (by decide)
 have B1_w1 : Blk w1 (w.heap.size + 1) 26 #[.int .i64 a.kind, .string (⟨a.text.toArray⟩ : ByteArray), .int .i64 a.cols, .slice Aa a.kids.length capa] := PrAdd.blk htw1 (by first | exact blkN | assumption | exact blkA (by assumption)) (by have := PSt.lt PST0.out; have := PSt.hB PST0.out; omega) (by decide) (by decide)
 obtain ⟨q0_0_w1, q0_1_w1, q0_2_w1, q0_3_w1, _⟩ := Blk.four B0_w1
 obtain ⟨q1_0_w1, q1_1_w1, q1_2_w1, q1_3_w1, _⟩ := Blk.four B1_w1
 clear xa0_w xa1_w xa2_w xa3_w xb0_w xb1_w xb2_w xb3_w
 obtain ⟨xa0_w1, xa1_w1, xa2_w1, xa3_w1⟩ := low4 (PSt.low PSTw1.out) XA0.out XA1.out XA2.out XA3.out
 obtain ⟨xb0_w1, xb1_w1, xb2_w1, xb3_w1⟩ := low4 (PSt.low PSTw1.out) XB0.out XB1.out XB2.out XB3.out
 have hlt_g_w1 : g < w1.heap.size := block_lt_of_cell xa0_w1
 clear htw1
 go_wp2_with fail
 refine Calls.mono ((mark_em W0 p B [95]) _ _ _ (PSt.fresh PSTw1.out (frA (Touch.refl _ _))) FITw1.out.left) ?_
 rintro _ w2 ⟨rfl, htw2⟩
 have PSTw2 := hid (PSt.add2 (PSt.fresh PSTw1.out (frA (Touch.refl _ _))) htw2)
 have ACCw2 := hid (PrAdd.app ACCw1.out (PrAdd.freshL (show Fresh w1 _ from (frA (Touch.refl _ _))) htw2))
 have FITw2 := hid (Fits.right2 FITw1.out)
 have B0_w2 : Blk w2 (w.heap.size) 26 #[.int .i64 (7 : Int), tx, cl, .slice (some ⟨g, o, none⟩) 2 cap] := PrAdd.blk htw2 (by first | exact blkN | assumption | exact blkA (by assumption)) (by have := PSt.lt PST0.out; have := PSt.hB PST0.out; omega) (by decide) (by decide)
 have B1_w2 : Blk w2 (w.heap.size + 1) 26 #[.int .i64 a.kind, .string (⟨a.text.toArray⟩ : ByteArray), .int .i64 a.cols, .slice Aa a.kids.length capa] := PrAdd.blk htw2 (by first | exact blkN | assumption | exact blkA (by assumption)) (by have := PSt.lt PST0.out; have := PSt.hB PST0.out; omega) (by decide) (by decide)
 clear q0_0_w1 q0_1_w1 q0_2_w1 q0_3_w1 B0_w1 q1_0_w1 q1_1_w1 q1_2_w1 q1_3_w1 B1_w1
 obtain ⟨q0_0_w2, q0_1_w2, q0_2_w2, q0_3_w2, _⟩ := Blk.four B0_w2
 obtain ⟨q1_0_w2, q1_1_w2, q1_2_w2, q1_3_w2, _⟩ := Blk.four B1_w2
 clear xa0_w1 xa1_w1 xa2_w1 xa3_w1 xb0_w1 xb1_w1 xb2_w1 xb3_w1
 obtain ⟨xa0_w2, xa1_w2, xa2_w2, xa3_w2⟩ := low4 (PSt.low PSTw2.out) XA0.out XA1.out XA2.out XA3.out
 obtain ⟨xb0_w2, xb1_w2, xb2_w2, xb3_w2⟩ := low4 (PSt.low PSTw2.out) XB0.out XB1.out XB2.out XB3.out
 have hlt_g_w2 : g < w2.heap.size := block_lt_of_cell xa0_w2
 clear htw2
 go_wp2_with fail
 refine Calls.mono ((ARGb.out) _ _ _ (PSt.fresh PSTw2.out (frA (Touch.refl _ _))) FITw2.out) ?_
 rintro _ w3 ⟨rfl, htw3⟩
 have PSTw3 := hid (PSt.add2 (PSt.fresh PSTw2.out (frA (Touch.refl _ _))) htw3)
 have ACCw3 := hid (PrAdd.app ACCw2.out (PrAdd.freshL (show Fresh w2 _ from (frA (Touch.refl _ _))) htw3))
 have B0_w3 : Blk w3 (w.heap.size) 26 #[.int .i64 (7 : Int), tx, cl, .slice (some ⟨g, o, none⟩) 2 cap] := PrAdd.blk htw3 (by first | exact blkN | assumption | exact blkA (by assumption)) (by have := PSt.lt PST0.out; have := PSt.hB PST0.out; omega) (by decide) (by decide)
 have B1_w3 : Blk w3 (w.heap.size + 1) 26 #[.int .i64 a.kind, .string (⟨a.text.toArray⟩ : ByteArray), .int .i64 a.cols, .slice Aa a.kids.length capa] := PrAdd.blk htw3 (by first | exact blkN | assumption | exact blkA (by assumption)) (by have := PSt.lt PST0.out; have := PSt.hB PST0.out; omega) (by decide) (by decide)
 clear q0_0_w2 q0_1_w2 q0_2_w2 q0_3_w2 B0_w2 q1_0_w2 q1_1_w2 q1_2_w2 q1_3_w2 B1_w2
 obtain ⟨q0_0_w3, q0_1_w3, q0_2_w3, q0_3_w3, _⟩ := Blk.four B0_w3
 obtain ⟨q1_0_w3, q1_1_w3, q1_2_w3, q1_3_w3, _⟩ := Blk.four B1_w3
 clear xa0_w2 xa1_w2 xa2_w2 xa3_w2 xb0_w2 xb1_w2 xb2_w2 xb3_w2
 obtain ⟨xa0_w3, xa1_w3, xa2_w3, xa3_w3⟩ := low4 (PSt.low PSTw3.out) XA0.out XA1.out XA2.out XA3.out
 obtain ⟨xb0_w3, xb1_w3, xb2_w3, xb3_w3⟩ := low4 (PSt.low PSTw3.out) XB0.out XB1.out XB2.out XB3.out
 have hlt_g_w3 : g < w3.heap.size := block_lt_of_cell xa0_w3
 clear htw3
 go_wp2_with fail
 first | go_end0 | refine bodyPost_ret (v := .tuple #[]) (results_none rfl _ _ _) rfl ?_
 exact ⟨rfl, PrAdd.cast ACCw3.out (by first | rfl | (simp only [List.append_assoc] <;> rfl))⟩
set_option maxRecDepth 100000 in
set_option maxHeartbeats 1000000 in
theorem scripts_8_row (W0 : World) (p B : Nat) (tx cl : Value) (a b : Nd) (x : Nd) (hx : a.kids = [x]) (hs : Tr.scripted x = false) (ha : RowE W0 p B a) (hb : ArgE W0 p B b) (sl : Value) (hsl : RepL W0 [a, b] sl) : Emits 101 #[pp p, .agg #[.int .i64 8, tx, cl, sl]] W0 p B (baseT a ++ ([Tr.mk7 94] ++ argT b)) := by
 intro w toks txt hp hf
 rw [baseT_row a x hx hs] at hf ⊢
 obtain ⟨g, o, cap, sa, sb, rfl, a0, a1, a2, a3, hra, b0, b1, b2, b3, hrb⟩ := hsl.two
 have ROWa := hid (ha sa hra)
 have ARGb := hid (hb sb hrb)
 rw [hx] at hra
 obtain ⟨gx, ox, cax, sx, rfl, x0, x1, x2, x3, hrx⟩ := hra.one
 have e1 : a.kids.length = 1 := by rw [hx]; rfl
 have HS := hid hs
 clear e1 hs hrx
 have PST0 := hid hp
 have FIT0 := hid hf
 clear hp hf ha hb hsl hra hrb hx
 have XA0 := hid a0
 have XA1 := hid a1
 have XA2 := hid a2
 have XA3 := hid a3
 have XB0 := hid b0
 have XB1 := hid b1
 have XB2 := hid b2
 have XB3 := hid b3
 have XX0 := hid x0
 have XX1 := hid x1
 have XX2 := hid x2
 have XX3 := hid x3
 clear a0 a1 a2 a3 b0 b1 b2 b3 x0 x1 x2 x3
 obtain ⟨xa0_w, xa1_w, xa2_w, xa3_w⟩ := low4 (PSt.low PST0.out) XA0.out XA1.out XA2.out XA3.out
 obtain ⟨xb0_w, xb1_w, xb2_w, xb3_w⟩ := low4 (PSt.low PST0.out) XB0.out XB1.out XB2.out XB3.out
 obtain ⟨xx0_w, xx1_w, xx2_w, xx3_w⟩ := low4 (PSt.low PST0.out) XX0.out XX1.out XX2.out XX3.out
 have hlt_g_w : g < w.heap.size := block_lt_of_cell xa0_w
 have hlt_gx_w : gx < w.heap.size := block_lt_of_cell xx0_w
 go_enter Tryz.func101, Tryz.ntmps101
 go_wp2_with fail
 refine Calls.mono (scripted_is x _ _ HS.out) ?_
 rintro _ w1 ⟨rfl, hfw1⟩
 have HF1 := hid (show Fresh w w1 from preA hfw1)
 have B0_w1 : Blk w1 (w.heap.size) 26 #[.int .i64 (8 : Int), tx, cl, .slice (some ⟨g, o, none⟩) 2 cap] := Touch.blk hfw1 (by first | exact blkN | assumption | exact blkA (by assumption)) (fun h => h)
 have B1_w1 : Blk w1 (w.heap.size + 1) 26 #[.int .i64 a.kind, .string (⟨a.text.toArray⟩ : ByteArray), .int .i64 a.cols, .slice (some ⟨gx, ox, none⟩) 1 cax] := Touch.blk hfw1 (by first | exact blkN | assumption | exact blkA (by assumption)) (fun h => h)
 obtain ⟨q0_0_w1, q0_1_w1, q0_2_w1, q0_3_w1, _⟩ := Blk.four B0_w1
 obtain ⟨q1_0_w1, q1_1_w1, q1_2_w1, q1_3_w1, _⟩ := Blk.four B1_w1
 obtain ⟨xa0_w1, xa1_w1, xa2_w1, xa3_w1⟩ := mv4 HF1.out xa0_w xa1_w xa2_w xa3_w
 obtain ⟨xb0_w1, xb1_w1, xb2_w1, xb3_w1⟩ := mv4 HF1.out xb0_w xb1_w xb2_w xb3_w
 obtain ⟨xx0_w1, xx1_w1, xx2_w1, xx3_w1⟩ := mv4 HF1.out xx0_w xx1_w xx2_w xx3_w
 clear xa0_w xa1_w xa2_w xa3_w xb0_w xb1_w xb2_w xb3_w xx0_w xx1_w xx2_w xx3_w
 have hlt_g_w1 : g < w1.heap.size := block_lt_of_cell xa0_w1
 have hlt_gx_w1 : gx < w1.heap.size := block_lt_of_cell xx0_w1
 have PSTw1 := hid (PSt.fresh PST0.out HF1.out)
 clear hfw1
 go_wp2_with fail
 refine Calls.mono ((ROWa.out) _ _ _ (PSt.fresh PSTw1.out (frA (Touch.refl _ _))) FIT0.out.left) ?_
 rintro _ w2 ⟨rfl, htw2⟩
 have PSTw2 := hid (PSt.add (PSt.fresh PSTw1.out (frA (Touch.refl _ _))) htw2)
 have ACCw2 := hid (PrAdd.freshL (show Fresh w _ from (frA HF1.out)) htw2)
 have FITw2 := hid (Fits.right FIT0.out)
 have B0_w2 : Blk w2 (w.heap.size) 26 #[.int .i64 (8 : Int), tx, cl, .slice (some ⟨g, o, none⟩) 2 cap] := PrAdd.blk htw2 (by first | exact blkN | assumption | exact blkA (by assumption)) (by have := PSt.lt PST0.out; have := PSt.hB PST0.out; omega) (by decide) (by decide)
 have B1_w2 : Blk w2 (w.heap.size + 1) 26 #[.int .i64 a.kind, .string (⟨a.text.toArray⟩ : ByteArray), .int .i64 a.cols, .slice (some ⟨gx, ox, none⟩) 1 cax] := PrAdd.blk htw2 (by first | exact blkN | assumption | exact blkA (by assumption)) (by have := PSt.lt PST0.out; have := PSt.hB PST0.out; omega) (by decide) (by decide)
 clear q0_0_w1 q0_1_w1 q0_2_w1 q0_3_w1 B0_w1 q1_0_w1 q1_1_w1 q1_2_w1 q1_3_w1 B1_w1
 obtain ⟨q0_0_w2, q0_1_w2, q0_2_w2, q0_3_w2, _⟩ := Blk.four B0_w2
 obtain ⟨q1_0_w2, q1_1_w2, q1_2_w2, q1_3_w2, _⟩ := Blk.four B1_w2
 clear xa0_w1 xa1_w1 xa2_w1 xa3_w1 xb0_w1 xb1_w1 xb2_w1 xb3_w1 xx0_w1 xx1_w1 xx2_w1 xx3_w1
 obtain ⟨xa0_w2, xa1_w2, xa2_w2, xa3_w2⟩ := low4 (PSt.low PSTw2.out) XA0.out XA1.out XA2.out XA3.out
 obtain ⟨xb0_w2, xb1_w2, xb2_w2, xb3_w2⟩ := low4 (PSt.low PSTw2.out) XB0.out XB1.out XB2.out XB3.out
 obtain ⟨xx0_w2, xx1_w2, xx2_w2, xx3_w2⟩ := low4 (PSt.low PSTw2.out) XX0.out XX1.out XX2.out XX3.out
 have hlt_g_w2 : g < w2.heap.size := block_lt_of_cell xa0_w2
 have hlt_gx_w2 : gx < w2.heap.size := block_lt_of_cell xx0_w2
 clear htw2
 go_wp2_with fail
 refine Calls.mono ((mark_em W0 p B [94]) _ _ _ (PSt.fresh PSTw2.out (frA (Touch.refl _ _))) FITw2.out.left) ?_
 rintro _ w3 ⟨rfl, htw3⟩
 have PSTw3 := hid (PSt.add2 (PSt.fresh PSTw2.out (frA (Touch.refl _ _))) htw3)
 have ACCw3 := hid (PrAdd.app ACCw2.out (PrAdd.freshL (show Fresh w2 _ from (frA (Touch.refl _ _))) htw3))
 have FITw3 := hid (Fits.right2 FITw2.out)
 have B0_w3 : Blk w3 (w.heap.size) 26 #[.int .i64 (8 : Int), tx, cl, .slice (some ⟨g, o, none⟩) 2 cap] := PrAdd.blk htw3 (by first | exact blkN | assumption | exact blkA (by assumption)) (by have := PSt.lt PST0.out; have := PSt.hB PST0.out; omega) (by decide) (by decide)
 have B1_w3 : Blk w3 (w.heap.size + 1) 26 #[.int .i64 a.kind, .string (⟨a.text.toArray⟩ : ByteArray), .int .i64 a.cols, .slice (some ⟨gx, ox, none⟩) 1 cax] := PrAdd.blk htw3 (by first | exact blkN | assumption | exact blkA (by assumption)) (by have := PSt.lt PST0.out; have := PSt.hB PST0.out; omega) (by decide) (by decide)
 clear q0_0_w2 q0_1_w2 q0_2_w2 q0_3_w2 B0_w2 q1_0_w2 q1_1_w2 q1_2_w2 q1_3_w2 B1_w2
 obtain ⟨q0_0_w3, q0_1_w3, q0_2_w3, q0_3_w3, _⟩ := Blk.four B0_w3
 obtain ⟨q1_0_w3, q1_1_w3, q1_2_w3, q1_3_w3, _⟩ := Blk.four B1_w3
 clear xa0_w2 xa1_w2 xa2_w2 xa3_w2 xb0_w2 xb1_w2 xb2_w2 xb3_w2 xx0_w2 xx1_w2 xx2_w2 xx3_w2
 obtain ⟨xa0_w3, xa1_w3, xa2_w3, xa3_w3⟩ := low4 (PSt.low PSTw3.out) XA0.out XA1.out XA2.out XA3.out
 obtain ⟨xb0_w3, xb1_w3, xb2_w3, xb3_w3⟩ := low4 (PSt.low PSTw3.out) XB0.out XB1.out XB2.out XB3.out
 obtain ⟨xx0_w3, xx1_w3, xx2_w3, xx3_w3⟩ := low4 (PSt.low PSTw3.out) XX0.out XX1.out XX2.out XX3.out
 have hlt_g_w3 : g < w3.heap.size := block_lt_of_cell xa0_w3
 have hlt_gx_w3 : gx < w3.heap.size := block_lt_of_cell xx0_w3
 clear htw3
 go_wp2_with fail
 refine Calls.mono ((ARGb.out) _ _ _ (PSt.fresh PSTw3.out (frA (Touch.refl _ _))) FITw3.out) ?_
 rintro _ w4 ⟨rfl, htw4⟩
 have PSTw4 := hid (PSt.add2 (PSt.fresh PSTw3.out (frA (Touch.refl _ _))) htw4)
 have ACCw4 := hid (PrAdd.app ACCw3.out (PrAdd.freshL (show Fresh w3 _ from (frA (Touch.refl _ _))) htw4))
 have B0_w4 : Blk w4 (w.heap.size) 26 #[.int .i64 (8 : Int), tx, cl, .slice (some ⟨g, o, none⟩) 2 cap] := PrAdd.blk htw4 (by first | exact blkN | assumption | exact blkA (by assumption)) (by have := PSt.lt PST0.out; have := PSt.hB PST0.out; omega) (by decide) (by decide)
 have B1_w4 : Blk w4 (w.heap.size + 1) 26 #[.int .i64 a.kind, .string (⟨a.text.toArray⟩ : ByteArray), .int .i64 a.cols, .slice (some ⟨gx, ox, none⟩) 1 cax] := PrAdd.blk htw4 (by first | exact blkN | assumption | exact blkA (by assumption)) (by have := PSt.lt PST0.out; have := PSt.hB PST0.out; omega) (by decide) (by decide)
 clear q0_0_w3 q0_1_w3 q0_2_w3 q0_3_w3 B0_w3 q1_0_w3 q1_1_w3 q1_2_w3 q1_3_w3 B1_w3
 obtain ⟨q0_0_w4, q0_1_w4, q0_2_w4, q0_3_w4, _⟩ := Blk.four B0_w4
 obtain ⟨q1_0_w4, q1_1_w4, q1_2_w4, q1_3_w4, _⟩ := Blk.four B1_w4
 clear xa0_w3 xa1_w3 xa2_w3 xa3_w3 xb0_w3 xb1_w3 xb2_w3 xb3_w3 xx0_w3 xx1_w3 xx2_w3 xx3_w3
 obtain ⟨xa0_w4, xa1_w4, xa2_w4, xa3_w4⟩ := low4 (PSt.low PSTw4.out) XA0.out XA1.out XA2.out XA3.out
 obtain ⟨xb0_w4, xb1_w4, xb2_w4, xb3_w4⟩ := low4 (PSt.low PSTw4.out) XB0.out XB1.out XB2.out XB3.out
 obtain ⟨xx0_w4, xx1_w4, xx2_w4, xx3_w4⟩ := low4 (PSt.low PSTw4.out) XX0.out XX1.out XX2.out XX3.out
 have hlt_g_w4 : g < w4.heap.size := block_lt_of_cell xa0_w4
 have hlt_gx_w4 : gx < w4.heap.size := block_lt_of_cell xx0_w4
 clear htw4
 go_wp2_with fail
 first | go_end0 | refine bodyPost_ret (v := .tuple #[]) (results_none rfl _ _ _) rfl ?_
 exact ⟨rfl, PrAdd.cast ACCw4.out (by first | rfl | (simp only [List.append_assoc] <;> rfl))⟩
set_option maxRecDepth 100000 in
set_option maxHeartbeats 1000000 in
theorem scripts_8_item (W0 : World) (p B : Nat) (tx cl : Value) (a b : Nd) (x : Nd) (hx : a.kids = [x]) (hs : Tr.scripted x = true) (ha : GroupE W0 p B a) (hb : ArgE W0 p B b) (sl : Value) (hsl : RepL W0 [a, b] sl) : Emits 101 #[pp p, .agg #[.int .i64 8, tx, cl, sl]] W0 p B (baseT a ++ ([Tr.mk7 94] ++ argT b)) := by
 intro w toks txt hp hf
 rw [baseT_grp a x hx hs] at hf ⊢
 obtain ⟨g, o, cap, sa, sb, rfl, a0, a1, a2, a3, hra, b0, b1, b2, b3, hrb⟩ := hsl.two
 have GRPa := hid (ha sa hra)
 have ARGb := hid (hb sb hrb)
 rw [hx] at hra
 obtain ⟨gx, ox, cax, sx, rfl, x0, x1, x2, x3, hrx⟩ := hra.one
 have e1 : a.kids.length = 1 := by rw [hx]; rfl
 have HS := hid hs
 clear e1 hs hrx
 have PST0 := hid hp
 have FIT0 := hid hf
 clear hp hf ha hb hsl hra hrb hx
 have XA0 := hid a0
 have XA1 := hid a1
 have XA2 := hid a2
 have XA3 := hid a3
 have XB0 := hid b0
 have XB1 := hid b1
 have XB2 := hid b2
 have XB3 := hid b3
 have XX0 := hid x0
 have XX1 := hid x1
 have XX2 := hid x2
 have XX3 := hid x3
 clear a0 a1 a2 a3 b0 b1 b2 b3 x0 x1 x2 x3
 obtain ⟨xa0_w, xa1_w, xa2_w, xa3_w⟩ := low4 (PSt.low PST0.out) XA0.out XA1.out XA2.out XA3.out
 obtain ⟨xb0_w, xb1_w, xb2_w, xb3_w⟩ := low4 (PSt.low PST0.out) XB0.out XB1.out XB2.out XB3.out
 obtain ⟨xx0_w, xx1_w, xx2_w, xx3_w⟩ := low4 (PSt.low PST0.out) XX0.out XX1.out XX2.out XX3.out
 have hlt_g_w : g < w.heap.size := block_lt_of_cell xa0_w
 have hlt_gx_w : gx < w.heap.size := block_lt_of_cell xx0_w
 go_enter Tryz.func101, Tryz.ntmps101
 go_wp2_with fail
 refine Calls.mono (scripted_is x _ _ HS.out) ?_
 rintro _ w1 ⟨rfl, hfw1⟩
 have HF1 := hid (show Fresh w w1 from preA hfw1)
 have B0_w1 : Blk w1 (w.heap.size) 26 #[.int .i64 (8 : Int), tx, cl, .slice (some ⟨g, o, none⟩) 2 cap] := Touch.blk hfw1 (by first | exact blkN | assumption | exact blkA (by assumption)) (fun h => h)
 have B1_w1 : Blk w1 (w.heap.size + 1) 26 #[.int .i64 a.kind, .string (⟨a.text.toArray⟩ : ByteArray), .int .i64 a.cols, .slice (some ⟨gx, ox, none⟩) 1 cax] := Touch.blk hfw1 (by first | exact blkN | assumption | exact blkA (by assumption)) (fun h => h)
 obtain ⟨q0_0_w1, q0_1_w1, q0_2_w1, q0_3_w1, _⟩ := Blk.four B0_w1
 obtain ⟨q1_0_w1, q1_1_w1, q1_2_w1, q1_3_w1, _⟩ := Blk.four B1_w1
 obtain ⟨xa0_w1, xa1_w1, xa2_w1, xa3_w1⟩ := mv4 HF1.out xa0_w xa1_w xa2_w xa3_w
 obtain ⟨xb0_w1, xb1_w1, xb2_w1, xb3_w1⟩ := mv4 HF1.out xb0_w xb1_w xb2_w xb3_w
 obtain ⟨xx0_w1, xx1_w1, xx2_w1, xx3_w1⟩ := mv4 HF1.out xx0_w xx1_w xx2_w xx3_w
 clear xa0_w xa1_w xa2_w xa3_w xb0_w xb1_w xb2_w xb3_w xx0_w xx1_w xx2_w xx3_w
 have hlt_g_w1 : g < w1.heap.size := block_lt_of_cell xa0_w1
 have hlt_gx_w1 : gx < w1.heap.size := block_lt_of_cell xx0_w1
 have PSTw1 := hid (PSt.fresh PST0.out HF1.out)
 clear hfw1
 go_wp2_with fail
 refine Calls.mono ((GRPa.out) _ _ _ (PSt.fresh PSTw1.out (frA (Touch.refl _ _))) FIT0.out.left) ?_
 rintro _ w2 ⟨rfl, htw2⟩
 have PSTw2 := hid (PSt.add (PSt.fresh PSTw1.out (frA (Touch.refl _ _))) htw2)
 have ACCw2 := hid (PrAdd.freshL (show Fresh w _ from (frA HF1.out)) htw2)
 have FITw2 := hid (Fits.right FIT0.out)
 have B0_w2 : Blk w2 (w.heap.size) 26 #[.int .i64 (8 : Int), tx, cl, .slice (some ⟨g, o, none⟩) 2 cap] := PrAdd.blk htw2 (by first | exact blkN | assumption | exact blkA (by assumption)) (by have := PSt.lt PST0.out; have := PSt.hB PST0.out; omega) (by decide) (by decide)
 have B1_w2 : Blk w2 (w.heap.size + 1) 26 #[.int .i64 a.kind, .string (⟨a.text.toArray⟩ : ByteArray), .int .i64 a.cols, .slice (some ⟨gx, ox, none⟩) 1 cax] := PrAdd.blk htw2 (by first | exact blkN | assumption | exact blkA (by assumption)) (by have := PSt.lt PST0.out; have := PSt.hB PST0.out; omega) (by decide) (by decide)
 clear q0_0_w1 q0_1_w1 q0_2_w1 q0_3_w1 B0_w1 q1_0_w1 q1_1_w1 q1_2_w1 q1_3_w1 B1_w1
 obtain ⟨q0_0_w2, q0_1_w2, q0_2_w2, q0_3_w2, _⟩ := Blk.four B0_w2
 obtain ⟨q1_0_w2, q1_1_w2, q1_2_w2, q1_3_w2, _⟩ := Blk.four B1_w2
 clear xa0_w1 xa1_w1 xa2_w1 xa3_w1 xb0_w1 xb1_w1 xb2_w1 xb3_w1 xx0_w1 xx1_w1 xx2_w1 xx3_w1
 obtain ⟨xa0_w2, xa1_w2, xa2_w2, xa3_w2⟩ := low4 (PSt.low PSTw2.out) XA0.out XA1.out XA2.out XA3.out
 obtain ⟨xb0_w2, xb1_w2, xb2_w2, xb3_w2⟩ := low4 (PSt.low PSTw2.out) XB0.out XB1.out XB2.out XB3.out
 obtain ⟨xx0_w2, xx1_w2, xx2_w2, xx3_w2⟩ := low4 (PSt.low PSTw2.out) XX0.out XX1.out XX2.out XX3.out
 have hlt_g_w2 : g < w2.heap.size := block_lt_of_cell xa0_w2
 have hlt_gx_w2 : gx < w2.heap.size := block_lt_of_cell xx0_w2
 clear htw2
 go_wp2_with fail
 refine Calls.mono ((mark_em W0 p B [94]) _ _ _ (PSt.fresh PSTw2.out (frA (Touch.refl _ _))) FITw2.out.left) ?_
 rintro _ w3 ⟨rfl, htw3⟩
 have PSTw3 := hid (PSt.add2 (PSt.fresh PSTw2.out (frA (Touch.refl _ _))) htw3)
 have ACCw3 := hid (PrAdd.app ACCw2.out (PrAdd.freshL (show Fresh w2 _ from (frA (Touch.refl _ _))) htw3))
 have FITw3 := hid (Fits.right2 FITw2.out)
 have B0_w3 : Blk w3 (w.heap.size) 26 #[.int .i64 (8 : Int), tx, cl, .slice (some ⟨g, o, none⟩) 2 cap] := PrAdd.blk htw3 (by first | exact blkN | assumption | exact blkA (by assumption)) (by have := PSt.lt PST0.out; have := PSt.hB PST0.out; omega) (by decide) (by decide)
 have B1_w3 : Blk w3 (w.heap.size + 1) 26 #[.int .i64 a.kind, .string (⟨a.text.toArray⟩ : ByteArray), .int .i64 a.cols, .slice (some ⟨gx, ox, none⟩) 1 cax] := PrAdd.blk htw3 (by first | exact blkN | assumption | exact blkA (by assumption)) (by have := PSt.lt PST0.out; have := PSt.hB PST0.out; omega) (by decide) (by decide)
 clear q0_0_w2 q0_1_w2 q0_2_w2 q0_3_w2 B0_w2 q1_0_w2 q1_1_w2 q1_2_w2 q1_3_w2 B1_w2
 obtain ⟨q0_0_w3, q0_1_w3, q0_2_w3, q0_3_w3, _⟩ := Blk.four B0_w3
 obtain ⟨q1_0_w3, q1_1_w3, q1_2_w3, q1_3_w3, _⟩ := Blk.four B1_w3
 clear xa0_w2 xa1_w2 xa2_w2 xa3_w2 xb0_w2 xb1_w2 xb2_w2 xb3_w2 xx0_w2 xx1_w2 xx2_w2 xx3_w2
 obtain ⟨xa0_w3, xa1_w3, xa2_w3, xa3_w3⟩ := low4 (PSt.low PSTw3.out) XA0.out XA1.out XA2.out XA3.out
 obtain ⟨xb0_w3, xb1_w3, xb2_w3, xb3_w3⟩ := low4 (PSt.low PSTw3.out) XB0.out XB1.out XB2.out XB3.out
 obtain ⟨xx0_w3, xx1_w3, xx2_w3, xx3_w3⟩ := low4 (PSt.low PSTw3.out) XX0.out XX1.out XX2.out XX3.out
 have hlt_g_w3 : g < w3.heap.size := block_lt_of_cell xa0_w3
 have hlt_gx_w3 : gx < w3.heap.size := block_lt_of_cell xx0_w3
 clear htw3
 go_wp2_with fail
 refine Calls.mono ((ARGb.out) _ _ _ (PSt.fresh PSTw3.out (frA (Touch.refl _ _))) FITw3.out) ?_
 rintro _ w4 ⟨rfl, htw4⟩
 have PSTw4 := hid (PSt.add2 (PSt.fresh PSTw3.out (frA (Touch.refl _ _))) htw4)
 have ACCw4 := hid (PrAdd.app ACCw3.out (PrAdd.freshL (show Fresh w3 _ from (frA (Touch.refl _ _))) htw4))
 have B0_w4 : Blk w4 (w.heap.size) 26 #[.int .i64 (8 : Int), tx, cl, .slice (some ⟨g, o, none⟩) 2 cap] := PrAdd.blk htw4 (by first | exact blkN | assumption | exact blkA (by assumption)) (by have := PSt.lt PST0.out; have := PSt.hB PST0.out; omega) (by decide) (by decide)
 have B1_w4 : Blk w4 (w.heap.size + 1) 26 #[.int .i64 a.kind, .string (⟨a.text.toArray⟩ : ByteArray), .int .i64 a.cols, .slice (some ⟨gx, ox, none⟩) 1 cax] := PrAdd.blk htw4 (by first | exact blkN | assumption | exact blkA (by assumption)) (by have := PSt.lt PST0.out; have := PSt.hB PST0.out; omega) (by decide) (by decide)
 clear q0_0_w3 q0_1_w3 q0_2_w3 q0_3_w3 B0_w3 q1_0_w3 q1_1_w3 q1_2_w3 q1_3_w3 B1_w3
 obtain ⟨q0_0_w4, q0_1_w4, q0_2_w4, q0_3_w4, _⟩ := Blk.four B0_w4
 obtain ⟨q1_0_w4, q1_1_w4, q1_2_w4, q1_3_w4, _⟩ := Blk.four B1_w4
 clear xa0_w3 xa1_w3 xa2_w3 xa3_w3 xb0_w3 xb1_w3 xb2_w3 xb3_w3 xx0_w3 xx1_w3 xx2_w3 xx3_w3
 obtain ⟨xa0_w4, xa1_w4, xa2_w4, xa3_w4⟩ := low4 (PSt.low PSTw4.out) XA0.out XA1.out XA2.out XA3.out
 obtain ⟨xb0_w4, xb1_w4, xb2_w4, xb3_w4⟩ := low4 (PSt.low PSTw4.out) XB0.out XB1.out XB2.out XB3.out
 obtain ⟨xx0_w4, xx1_w4, xx2_w4, xx3_w4⟩ := low4 (PSt.low PSTw4.out) XX0.out XX1.out XX2.out XX3.out
 have hlt_g_w4 : g < w4.heap.size := block_lt_of_cell xa0_w4
 have hlt_gx_w4 : gx < w4.heap.size := block_lt_of_cell xx0_w4
 clear htw4
 go_wp2_with fail
 first | go_end0 | refine bodyPost_ret (v := .tuple #[]) (results_none rfl _ _ _) rfl ?_
 exact ⟨rfl, PrAdd.cast ACCw4.out (by first | rfl | (simp only [List.append_assoc] <;> rfl))⟩
set_option maxRecDepth 100000 in
set_option maxHeartbeats 1000000 in
theorem scripts_8_len (W0 : World) (p B : Nat) (tx cl : Value) (a b : Nd) (hx : a.kids.length ≠ 1) (ha : GroupE W0 p B a) (hb : ArgE W0 p B b) (sl : Value) (hsl : RepL W0 [a, b] sl) : Emits 101 #[pp p, .agg #[.int .i64 8, tx, cl, sl]] W0 p B (baseT a ++ ([Tr.mk7 94] ++ argT b)) := by
 intro w toks txt hp hf
 rw [baseT_len1 a hx] at hf ⊢
 obtain ⟨g, o, cap, sa, sb, rfl, a0, a1, a2, a3, hra, b0, b1, b2, b3, hrb⟩ := hsl.two
 have GRPa := hid (ha sa hra)
 have ARGb := hid (hb sb hrb)
 obtain ⟨Aa, capa, rfl⟩ := hra.slice
 have f1 : ((a.kids.length : Int) == 1) = false := by simp only [beq_eq_false_iff_ne]; omega
 have f2 : ¬ (a.kids.length : Int) = 1 := by omega
 have PST0 := hid hp
 have FIT0 := hid hf
 clear hp hf ha hb hsl hra hrb hx
 have XA0 := hid a0
 have XA1 := hid a1
 have XA2 := hid a2
 have XA3 := hid a3
 have XB0 := hid b0
 have XB1 := hid b1
 have XB2 := hid b2
 have XB3 := hid b3
 clear a0 a1 a2 a3 b0 b1 b2 b3
 obtain ⟨xa0_w, xa1_w, xa2_w, xa3_w⟩ := low4 (PSt.low PST0.out) XA0.out XA1.out XA2.out XA3.out
 obtain ⟨xb0_w, xb1_w, xb2_w, xb3_w⟩ := low4 (PSt.low PST0.out) XB0.out XB1.out XB2.out XB3.out
 have hlt_g_w : g < w.heap.size := block_lt_of_cell xa0_w
 go_enter Tryz.func101, Tryz.ntmps101
 go_wp2_with fail
 refine Calls.mono ((GRPa.out) _ _ _ (PSt.fresh PST0.out (frA (Touch.refl _ _))) FIT0.out.left) ?_
 rintro _ w1 ⟨rfl, htw1⟩
 have PSTw1 := hid (PSt.add (PSt.fresh PST0.out (frA (Touch.refl _ _))) htw1)
 have ACCw1 := hid (PrAdd.freshL (show Fresh w _ from (frA (Touch.refl _ _))) htw1)
 have FITw1 := hid (Fits.right FIT0.out)
 have B0_w1 : Blk w1 (w.heap.size) 26 #[.int .i64 (8 : Int), tx, cl, .slice (some ⟨g, o, none⟩) 2 cap] := PrAdd.blk htw1 (by first | exact blkN | assumption | exact blkA (by assumption)) (by have := PSt.lt PST0.out; have := PSt.hB PST0.out; omega) (by decide) (by decide)
 have B1_w1 : Blk w1 (w.heap.size + 1) 26 #[.int .i64 a.kind, .string (⟨a.text.toArray⟩ : ByteArray), .int .i64 a.cols, .slice Aa a.kids.length capa] := PrAdd.blk htw1 (by first | exact blkN | assumption | exact blkA (by assumption)) (by have := PSt.lt PST0.out; have := PSt.hB PST0.out; omega) (by decide) (by decide)
 obtain ⟨q0_0_w1, q0_1_w1, q0_2_w1, q0_3_w1, _⟩ := Blk.four B0_w1
 obtain ⟨q1_0_w1, q1_1_w1, q1_2_w1, q1_3_w1, _⟩ := Blk.four B1_w1
 clear xa0_w xa1_w xa2_w xa3_w xb0_w xb1_w xb2_w xb3_w
 obtain ⟨xa0_w1, xa1_w1, xa2_w1, xa3_w1⟩ := low4 (PSt.low PSTw1.out) XA0.out XA1.out XA2.out XA3.out
 obtain ⟨xb0_w1, xb1_w1, xb2_w1, xb3_w1⟩ := low4 (PSt.low PSTw1.out) XB0.out XB1.out XB2.out XB3.out
 have hlt_g_w1 : g < w1.heap.size := block_lt_of_cell xa0_w1
 clear htw1
 go_wp2_with fail
 refine Calls.mono ((mark_em W0 p B [94]) _ _ _ (PSt.fresh PSTw1.out (frA (Touch.refl _ _))) FITw1.out.left) ?_
 rintro _ w2 ⟨rfl, htw2⟩
 have PSTw2 := hid (PSt.add2 (PSt.fresh PSTw1.out (frA (Touch.refl _ _))) htw2)
 have ACCw2 := hid (PrAdd.app ACCw1.out (PrAdd.freshL (show Fresh w1 _ from (frA (Touch.refl _ _))) htw2))
 have FITw2 := hid (Fits.right2 FITw1.out)
 have B0_w2 : Blk w2 (w.heap.size) 26 #[.int .i64 (8 : Int), tx, cl, .slice (some ⟨g, o, none⟩) 2 cap] := PrAdd.blk htw2 (by first | exact blkN | assumption | exact blkA (by assumption)) (by have := PSt.lt PST0.out; have := PSt.hB PST0.out; omega) (by decide) (by decide)
 have B1_w2 : Blk w2 (w.heap.size + 1) 26 #[.int .i64 a.kind, .string (⟨a.text.toArray⟩ : ByteArray), .int .i64 a.cols, .slice Aa a.kids.length capa] := PrAdd.blk htw2 (by first | exact blkN | assumption | exact blkA (by assumption)) (by have := PSt.lt PST0.out; have := PSt.hB PST0.out; omega) (by decide) (by decide)
 clear q0_0_w1 q0_1_w1 q0_2_w1 q0_3_w1 B0_w1 q1_0_w1 q1_1_w1 q1_2_w1 q1_3_w1 B1_w1
 obtain ⟨q0_0_w2, q0_1_w2, q0_2_w2, q0_3_w2, _⟩ := Blk.four B0_w2
 obtain ⟨q1_0_w2, q1_1_w2, q1_2_w2, q1_3_w2, _⟩ := Blk.four B1_w2
 clear xa0_w1 xa1_w1 xa2_w1 xa3_w1 xb0_w1 xb1_w1 xb2_w1 xb3_w1
 obtain ⟨xa0_w2, xa1_w2, xa2_w2, xa3_w2⟩ := low4 (PSt.low PSTw2.out) XA0.out XA1.out XA2.out XA3.out
 obtain ⟨xb0_w2, xb1_w2, xb2_w2, xb3_w2⟩ := low4 (PSt.low PSTw2.out) XB0.out XB1.out XB2.out XB3.out
 have hlt_g_w2 : g < w2.heap.size := block_lt_of_cell xa0_w2
 clear htw2
 go_wp2_with fail
 refine Calls.mono ((ARGb.out) _ _ _ (PSt.fresh PSTw2.out (frA (Touch.refl _ _))) FITw2.out) ?_
 rintro _ w3 ⟨rfl, htw3⟩
 have PSTw3 := hid (PSt.add2 (PSt.fresh PSTw2.out (frA (Touch.refl _ _))) htw3)
 have ACCw3 := hid (PrAdd.app ACCw2.out (PrAdd.freshL (show Fresh w2 _ from (frA (Touch.refl _ _))) htw3))
 have B0_w3 : Blk w3 (w.heap.size) 26 #[.int .i64 (8 : Int), tx, cl, .slice (some ⟨g, o, none⟩) 2 cap] := PrAdd.blk htw3 (by first | exact blkN | assumption | exact blkA (by assumption)) (by have := PSt.lt PST0.out; have := PSt.hB PST0.out; omega) (by decide) (by decide)
 have B1_w3 : Blk w3 (w.heap.size + 1) 26 #[.int .i64 a.kind, .string (⟨a.text.toArray⟩ : ByteArray), .int .i64 a.cols, .slice Aa a.kids.length capa] := PrAdd.blk htw3 (by first | exact blkN | assumption | exact blkA (by assumption)) (by have := PSt.lt PST0.out; have := PSt.hB PST0.out; omega) (by decide) (by decide)
 clear q0_0_w2 q0_1_w2 q0_2_w2 q0_3_w2 B0_w2 q1_0_w2 q1_1_w2 q1_2_w2 q1_3_w2 B1_w2
 obtain ⟨q0_0_w3, q0_1_w3, q0_2_w3, q0_3_w3, _⟩ := Blk.four B0_w3
 obtain ⟨q1_0_w3, q1_1_w3, q1_2_w3, q1_3_w3, _⟩ := Blk.four B1_w3
 clear xa0_w2 xa1_w2 xa2_w2 xa3_w2 xb0_w2 xb1_w2 xb2_w2 xb3_w2
 obtain ⟨xa0_w3, xa1_w3, xa2_w3, xa3_w3⟩ := low4 (PSt.low PSTw3.out) XA0.out XA1.out XA2.out XA3.out
 obtain ⟨xb0_w3, xb1_w3, xb2_w3, xb3_w3⟩ := low4 (PSt.low PSTw3.out) XB0.out XB1.out XB2.out XB3.out
 have hlt_g_w3 : g < w3.heap.size := block_lt_of_cell xa0_w3
 clear htw3
 go_wp2_with fail
 first | go_end0 | refine bodyPost_ret (v := .tuple #[]) (results_none rfl _ _ _) rfl ?_
 exact ⟨rfl, PrAdd.cast ACCw3.out (by first | rfl | (simp only [List.append_assoc] <;> rfl))⟩
set_option maxRecDepth 100000 in
set_option maxHeartbeats 1000000 in
theorem scripts_9_row (W0 : World) (p B : Nat) (tx cl : Value) (a b d : Nd) (x : Nd) (hx : a.kids = [x]) (hs : Tr.scripted x = false) (ha : RowE W0 p B a) (hb : ArgE W0 p B b) (hd : ArgE W0 p B d) (sl : Value) (hsl : RepL W0 [a, b, d] sl) : Emits 101 #[pp p, .agg #[.int .i64 9, tx, cl, sl]] W0 p B (baseT a ++ ([Tr.mk7 95] ++ (argT b ++ ([Tr.mk7 94] ++ argT d)))) := by
 intro w toks txt hp hf
 rw [baseT_row a x hx hs] at hf ⊢
 obtain ⟨g, o, cap, sa, sb, sd, rfl, a0, a1, a2, a3, hra, b0, b1, b2, b3, hrb, d0, d1, d2, d3, hrd⟩ := hsl.three
 have ROWa := hid (ha sa hra)
 have ARGb := hid (hb sb hrb)
 have ARGd := hid (hd sd hrd)
 rw [hx] at hra
 obtain ⟨gx, ox, cax, sx, rfl, x0, x1, x2, x3, hrx⟩ := hra.one
 have e1 : a.kids.length = 1 := by rw [hx]; rfl
 have HS := hid hs
 clear e1 hs hrx
 have PST0 := hid hp
 have FIT0 := hid hf
 clear hp hf ha hb hd hsl hra hrb hrd hx
 have XA0 := hid a0
 have XA1 := hid a1
 have XA2 := hid a2
 have XA3 := hid a3
 have XB0 := hid b0
 have XB1 := hid b1
 have XB2 := hid b2
 have XB3 := hid b3
 have XD0 := hid d0
 have XD1 := hid d1
 have XD2 := hid d2
 have XD3 := hid d3
 have XX0 := hid x0
 have XX1 := hid x1
 have XX2 := hid x2
 have XX3 := hid x3
 clear a0 a1 a2 a3 b0 b1 b2 b3 d0 d1 d2 d3 x0 x1 x2 x3
 obtain ⟨xa0_w, xa1_w, xa2_w, xa3_w⟩ := low4 (PSt.low PST0.out) XA0.out XA1.out XA2.out XA3.out
 obtain ⟨xb0_w, xb1_w, xb2_w, xb3_w⟩ := low4 (PSt.low PST0.out) XB0.out XB1.out XB2.out XB3.out
 obtain ⟨xd0_w, xd1_w, xd2_w, xd3_w⟩ := low4 (PSt.low PST0.out) XD0.out XD1.out XD2.out XD3.out
 obtain ⟨xx0_w, xx1_w, xx2_w, xx3_w⟩ := low4 (PSt.low PST0.out) XX0.out XX1.out XX2.out XX3.out
 have hlt_g_w : g < w.heap.size := block_lt_of_cell xa0_w
 have hlt_gx_w : gx < w.heap.size := block_lt_of_cell xx0_w
 go_enter Tryz.func101, Tryz.ntmps101
 go_wp2_with fail
 refine Calls.mono (scripted_is x _ _ HS.out) ?_
 rintro _ w1 ⟨rfl, hfw1⟩
 have HF1 := hid (show Fresh w w1 from preA hfw1)
 have B0_w1 : Blk w1 (w.heap.size) 26 #[.int .i64 (9 : Int), tx, cl, .slice (some ⟨g, o, none⟩) 3 cap] := Touch.blk hfw1 (by first | exact blkN | assumption | exact blkA (by assumption)) (fun h => h)
 have B1_w1 : Blk w1 (w.heap.size + 1) 26 #[.int .i64 a.kind, .string (⟨a.text.toArray⟩ : ByteArray), .int .i64 a.cols, .slice (some ⟨gx, ox, none⟩) 1 cax] := Touch.blk hfw1 (by first | exact blkN | assumption | exact blkA (by assumption)) (fun h => h)
 obtain ⟨q0_0_w1, q0_1_w1, q0_2_w1, q0_3_w1, _⟩ := Blk.four B0_w1
 obtain ⟨q1_0_w1, q1_1_w1, q1_2_w1, q1_3_w1, _⟩ := Blk.four B1_w1
 obtain ⟨xa0_w1, xa1_w1, xa2_w1, xa3_w1⟩ := mv4 HF1.out xa0_w xa1_w xa2_w xa3_w
 obtain ⟨xb0_w1, xb1_w1, xb2_w1, xb3_w1⟩ := mv4 HF1.out xb0_w xb1_w xb2_w xb3_w
 obtain ⟨xd0_w1, xd1_w1, xd2_w1, xd3_w1⟩ := mv4 HF1.out xd0_w xd1_w xd2_w xd3_w
 obtain ⟨xx0_w1, xx1_w1, xx2_w1, xx3_w1⟩ := mv4 HF1.out xx0_w xx1_w xx2_w xx3_w
 clear xa0_w xa1_w xa2_w xa3_w xb0_w xb1_w xb2_w xb3_w xd0_w xd1_w xd2_w xd3_w xx0_w xx1_w xx2_w xx3_w
 have hlt_g_w1 : g < w1.heap.size := block_lt_of_cell xa0_w1
 have hlt_gx_w1 : gx < w1.heap.size := block_lt_of_cell xx0_w1
 have PSTw1 := hid (PSt.fresh PST0.out HF1.out)
 clear hfw1
 go_wp2_with fail
 refine Calls.mono ((ROWa.out) _ _ _ (PSt.fresh PSTw1.out (frA (Touch.refl _ _))) FIT0.out.left) ?_
 rintro _ w2 ⟨rfl, htw2⟩
 have PSTw2 := hid (PSt.add (PSt.fresh PSTw1.out (frA (Touch.refl _ _))) htw2)
 have ACCw2 := hid (PrAdd.freshL (show Fresh w _ from (frA HF1.out)) htw2)
 have FITw2 := hid (Fits.right FIT0.out)
 have B0_w2 : Blk w2 (w.heap.size) 26 #[.int .i64 (9 : Int), tx, cl, .slice (some ⟨g, o, none⟩) 3 cap] := PrAdd.blk htw2 (by first | exact blkN | assumption | exact blkA (by assumption)) (by have := PSt.lt PST0.out; have := PSt.hB PST0.out; omega) (by decide) (by decide)
 have B1_w2 : Blk w2 (w.heap.size + 1) 26 #[.int .i64 a.kind, .string (⟨a.text.toArray⟩ : ByteArray), .int .i64 a.cols, .slice (some ⟨gx, ox, none⟩) 1 cax] := PrAdd.blk htw2 (by first | exact blkN | assumption | exact blkA (by assumption)) (by have := PSt.lt PST0.out; have := PSt.hB PST0.out; omega) (by decide) (by decide)
 clear q0_0_w1 q0_1_w1 q0_2_w1 q0_3_w1 B0_w1 q1_0_w1 q1_1_w1 q1_2_w1 q1_3_w1 B1_w1
 obtain ⟨q0_0_w2, q0_1_w2, q0_2_w2, q0_3_w2, _⟩ := Blk.four B0_w2
 obtain ⟨q1_0_w2, q1_1_w2, q1_2_w2, q1_3_w2, _⟩ := Blk.four B1_w2
 clear xa0_w1 xa1_w1 xa2_w1 xa3_w1 xb0_w1 xb1_w1 xb2_w1 xb3_w1 xd0_w1 xd1_w1 xd2_w1 xd3_w1 xx0_w1 xx1_w1 xx2_w1 xx3_w1
 obtain ⟨xa0_w2, xa1_w2, xa2_w2, xa3_w2⟩ := low4 (PSt.low PSTw2.out) XA0.out XA1.out XA2.out XA3.out
 obtain ⟨xb0_w2, xb1_w2, xb2_w2, xb3_w2⟩ := low4 (PSt.low PSTw2.out) XB0.out XB1.out XB2.out XB3.out
 obtain ⟨xd0_w2, xd1_w2, xd2_w2, xd3_w2⟩ := low4 (PSt.low PSTw2.out) XD0.out XD1.out XD2.out XD3.out
 obtain ⟨xx0_w2, xx1_w2, xx2_w2, xx3_w2⟩ := low4 (PSt.low PSTw2.out) XX0.out XX1.out XX2.out XX3.out
 have hlt_g_w2 : g < w2.heap.size := block_lt_of_cell xa0_w2
 have hlt_gx_w2 : gx < w2.heap.size := block_lt_of_cell xx0_w2
 clear htw2
 go_wp2_with fail
 refine Calls.mono ((mark_em W0 p B [95]) _ _ _ (PSt.fresh PSTw2.out (frA (Touch.refl _ _))) FITw2.out.left) ?_
 rintro _ w3 ⟨rfl, htw3⟩
 have PSTw3 := hid (PSt.add2 (PSt.fresh PSTw2.out (frA (Touch.refl _ _))) htw3)
 have ACCw3 := hid (PrAdd.app ACCw2.out (PrAdd.freshL (show Fresh w2 _ from (frA (Touch.refl _ _))) htw3))
 have FITw3 := hid (Fits.right2 FITw2.out)
 have B0_w3 : Blk w3 (w.heap.size) 26 #[.int .i64 (9 : Int), tx, cl, .slice (some ⟨g, o, none⟩) 3 cap] := PrAdd.blk htw3 (by first | exact blkN | assumption | exact blkA (by assumption)) (by have := PSt.lt PST0.out; have := PSt.hB PST0.out; omega) (by decide) (by decide)
 have B1_w3 : Blk w3 (w.heap.size + 1) 26 #[.int .i64 a.kind, .string (⟨a.text.toArray⟩ : ByteArray), .int .i64 a.cols, .slice (some ⟨gx, ox, none⟩) 1 cax] := PrAdd.blk htw3 (by first | exact blkN | assumption | exact blkA (by assumption)) (by have := PSt.lt PST0.out; have := PSt.hB PST0.out; omega) (by decide) (by decide)
 clear q0_0_w2 q0_1_w2 q0_2_w2 q0_3_w2 B0_w2 q1_0_w2 q1_1_w2 q1_2_w2 q1_3_w2 B1_w2
 obtain ⟨q0_0_w3, q0_1_w3, q0_2_w3, q0_3_w3, _⟩ := Blk.four B0_w3
 obtain ⟨q1_0_w3, q1_1_w3, q1_2_w3, q1_3_w3, _⟩ := Blk.four B1_w3
 clear xa0_w2 xa1_w2 xa2_w2 xa3_w2 xb0_w2 xb1_w2 xb2_w2 xb3_w2 xd0_w2 xd1_w2 xd2_w2 xd3_w2 xx0_w2 xx1_w2 xx2_w2 xx3_w2
 obtain ⟨xa0_w3, xa1_w3, xa2_w3, xa3_w3⟩ := low4 (PSt.low PSTw3.out) XA0.out XA1.out XA2.out XA3.out
 obtain ⟨xb0_w3, xb1_w3, xb2_w3, xb3_w3⟩ := low4 (PSt.low PSTw3.out) XB0.out XB1.out XB2.out XB3.out
 obtain ⟨xd0_w3, xd1_w3, xd2_w3, xd3_w3⟩ := low4 (PSt.low PSTw3.out) XD0.out XD1.out XD2.out XD3.out
 obtain ⟨xx0_w3, xx1_w3, xx2_w3, xx3_w3⟩ := low4 (PSt.low PSTw3.out) XX0.out XX1.out XX2.out XX3.out
 have hlt_g_w3 : g < w3.heap.size := block_lt_of_cell xa0_w3
 have hlt_gx_w3 : gx < w3.heap.size := block_lt_of_cell xx0_w3
 clear htw3
 go_wp2_with fail
 refine Calls.mono ((ARGb.out) _ _ _ (PSt.fresh PSTw3.out (frA (Touch.refl _ _))) FITw3.out.left) ?_
 rintro _ w4 ⟨rfl, htw4⟩
 have PSTw4 := hid (PSt.add2 (PSt.fresh PSTw3.out (frA (Touch.refl _ _))) htw4)
 have ACCw4 := hid (PrAdd.app ACCw3.out (PrAdd.freshL (show Fresh w3 _ from (frA (Touch.refl _ _))) htw4))
 have FITw4 := hid (Fits.right2 FITw3.out)
 have B0_w4 : Blk w4 (w.heap.size) 26 #[.int .i64 (9 : Int), tx, cl, .slice (some ⟨g, o, none⟩) 3 cap] := PrAdd.blk htw4 (by first | exact blkN | assumption | exact blkA (by assumption)) (by have := PSt.lt PST0.out; have := PSt.hB PST0.out; omega) (by decide) (by decide)
 have B1_w4 : Blk w4 (w.heap.size + 1) 26 #[.int .i64 a.kind, .string (⟨a.text.toArray⟩ : ByteArray), .int .i64 a.cols, .slice (some ⟨gx, ox, none⟩) 1 cax] := PrAdd.blk htw4 (by first | exact blkN | assumption | exact blkA (by assumption)) (by have := PSt.lt PST0.out; have := PSt.hB PST0.out; omega) (by decide) (by decide)
 clear q0_0_w3 q0_1_w3 q0_2_w3 q0_3_w3 B0_w3 q1_0_w3 q1_1_w3 q1_2_w3 q1_3_w3 B1_w3
 obtain ⟨q0_0_w4, q0_1_w4, q0_2_w4, q0_3_w4, _⟩ := Blk.four B0_w4
 obtain ⟨q1_0_w4, q1_1_w4, q1_2_w4, q1_3_w4, _⟩ := Blk.four B1_w4
 clear xa0_w3 xa1_w3 xa2_w3 xa3_w3 xb0_w3 xb1_w3 xb2_w3 xb3_w3 xd0_w3 xd1_w3 xd2_w3 xd3_w3 xx0_w3 xx1_w3 xx2_w3 xx3_w3
 obtain ⟨xa0_w4, xa1_w4, xa2_w4, xa3_w4⟩ := low4 (PSt.low PSTw4.out) XA0.out XA1.out XA2.out XA3.out
 obtain ⟨xb0_w4, xb1_w4, xb2_w4, xb3_w4⟩ := low4 (PSt.low PSTw4.out) XB0.out XB1.out XB2.out XB3.out
 obtain ⟨xd0_w4, xd1_w4, xd2_w4, xd3_w4⟩ := low4 (PSt.low PSTw4.out) XD0.out XD1.out XD2.out XD3.out
 obtain ⟨xx0_w4, xx1_w4, xx2_w4, xx3_w4⟩ := low4 (PSt.low PSTw4.out) XX0.out XX1.out XX2.out XX3.out
 have hlt_g_w4 : g < w4.heap.size := block_lt_of_cell xa0_w4
 have hlt_gx_w4 : gx < w4.heap.size := block_lt_of_cell xx0_w4
 clear htw4
 go_wp2_with fail
 refine Calls.mono ((mark_em W0 p B [94]) _ _ _ (PSt.fresh PSTw4.out (frA (Touch.refl _ _))) FITw4.out.left) ?_
 rintro _ w5 ⟨rfl, htw5⟩
 have PSTw5 := hid (PSt.add2 (PSt.fresh PSTw4.out (frA (Touch.refl _ _))) htw5)
 have ACCw5 := hid (PrAdd.app ACCw4.out (PrAdd.freshL (show Fresh w4 _ from (frA (Touch.refl _ _))) htw5))
 have FITw5 := hid (Fits.right2 FITw4.out)
 have B0_w5 : Blk w5 (w.heap.size) 26 #[.int .i64 (9 : Int), tx, cl, .slice (some ⟨g, o, none⟩) 3 cap] := PrAdd.blk htw5 (by first | exact blkN | assumption | exact blkA (by assumption)) (by have := PSt.lt PST0.out; have := PSt.hB PST0.out; omega) (by decide) (by decide)
 have B1_w5 : Blk w5 (w.heap.size + 1) 26 #[.int .i64 a.kind, .string (⟨a.text.toArray⟩ : ByteArray), .int .i64 a.cols, .slice (some ⟨gx, ox, none⟩) 1 cax] := PrAdd.blk htw5 (by first | exact blkN | assumption | exact blkA (by assumption)) (by have := PSt.lt PST0.out; have := PSt.hB PST0.out; omega) (by decide) (by decide)
 clear q0_0_w4 q0_1_w4 q0_2_w4 q0_3_w4 B0_w4 q1_0_w4 q1_1_w4 q1_2_w4 q1_3_w4 B1_w4
 obtain ⟨q0_0_w5, q0_1_w5, q0_2_w5, q0_3_w5, _⟩ := Blk.four B0_w5
 obtain ⟨q1_0_w5, q1_1_w5, q1_2_w5, q1_3_w5, _⟩ := Blk.four B1_w5
 clear xa0_w4 xa1_w4 xa2_w4 xa3_w4 xb0_w4 xb1_w4 xb2_w4 xb3_w4 xd0_w4 xd1_w4 xd2_w4 xd3_w4 xx0_w4 xx1_w4 xx2_w4 xx3_w4
 obtain ⟨xa0_w5, xa1_w5, xa2_w5, xa3_w5⟩ := low4 (PSt.low PSTw5.out) XA0.out XA1.out XA2.out XA3.out
 obtain ⟨xb0_w5, xb1_w5, xb2_w5, xb3_w5⟩ := low4 (PSt.low PSTw5.out) XB0.out XB1.out XB2.out XB3.out
 obtain ⟨xd0_w5, xd1_w5, xd2_w5, xd3_w5⟩ := low4 (PSt.low PSTw5.out) XD0.out XD1.out XD2.out XD3.out
 obtain ⟨xx0_w5, xx1_w5, xx2_w5, xx3_w5⟩ := low4 (PSt.low PSTw5.out) XX0.out XX1.out XX2.out XX3.out
 have hlt_g_w5 : g < w5.heap.size := block_lt_of_cell xa0_w5
 have hlt_gx_w5 : gx < w5.heap.size := block_lt_of_cell xx0_w5
 clear htw5
 go_wp2_with fail
 refine Calls.mono ((ARGd.out) _ _ _ (PSt.fresh PSTw5.out (frA (Touch.refl _ _))) FITw5.out) ?_
 rintro _ w6 ⟨rfl, htw6⟩
 have PSTw6 := hid (PSt.add2 (PSt.fresh PSTw5.out (frA (Touch.refl _ _))) htw6)
 have ACCw6 := hid (PrAdd.app ACCw5.out (PrAdd.freshL (show Fresh w5 _ from (frA (Touch.refl _ _))) htw6))
 have B0_w6 : Blk w6 (w.heap.size) 26 #[.int .i64 (9 : Int), tx, cl, .slice (some ⟨g, o, none⟩) 3 cap] := PrAdd.blk htw6 (by first | exact blkN | assumption | exact blkA (by assumption)) (by have := PSt.lt PST0.out; have := PSt.hB PST0.out; omega) (by decide) (by decide)
 have B1_w6 : Blk w6 (w.heap.size + 1) 26 #[.int .i64 a.kind, .string (⟨a.text.toArray⟩ : ByteArray), .int .i64 a.cols, .slice (some ⟨gx, ox, none⟩) 1 cax] := PrAdd.blk htw6 (by first | exact blkN | assumption | exact blkA (by assumption)) (by have := PSt.lt PST0.out; have := PSt.hB PST0.out; omega) (by decide) (by decide)
 clear q0_0_w5 q0_1_w5 q0_2_w5 q0_3_w5 B0_w5 q1_0_w5 q1_1_w5 q1_2_w5 q1_3_w5 B1_w5
 obtain ⟨q0_0_w6, q0_1_w6, q0_2_w6, q0_3_w6, _⟩ := Blk.four B0_w6
 obtain ⟨q1_0_w6, q1_1_w6, q1_2_w6, q1_3_w6, _⟩ := Blk.four B1_w6
 clear xa0_w5 xa1_w5 xa2_w5 xa3_w5 xb0_w5 xb1_w5 xb2_w5 xb3_w5 xd0_w5 xd1_w5 xd2_w5 xd3_w5 xx0_w5 xx1_w5 xx2_w5 xx3_w5
 obtain ⟨xa0_w6, xa1_w6, xa2_w6, xa3_w6⟩ := low4 (PSt.low PSTw6.out) XA0.out XA1.out XA2.out XA3.out
 obtain ⟨xb0_w6, xb1_w6, xb2_w6, xb3_w6⟩ := low4 (PSt.low PSTw6.out) XB0.out XB1.out XB2.out XB3.out
 obtain ⟨xd0_w6, xd1_w6, xd2_w6, xd3_w6⟩ := low4 (PSt.low PSTw6.out) XD0.out XD1.out XD2.out XD3.out
 obtain ⟨xx0_w6, xx1_w6, xx2_w6, xx3_w6⟩ := low4 (PSt.low PSTw6.out) XX0.out XX1.out XX2.out XX3.out
 have hlt_g_w6 : g < w6.heap.size := block_lt_of_cell xa0_w6
 have hlt_gx_w6 : gx < w6.heap.size := block_lt_of_cell xx0_w6
 clear htw6
 go_wp2_with fail
 first | go_end0 | refine bodyPost_ret (v := .tuple #[]) (results_none rfl _ _ _) rfl ?_
 exact ⟨rfl, PrAdd.cast ACCw6.out (by first | rfl | (simp only [List.append_assoc] <;> rfl))⟩
set_option maxRecDepth 100000 in
set_option maxHeartbeats 1000000 in
theorem scripts_9_item (W0 : World) (p B : Nat) (tx cl : Value) (a b d : Nd) (x : Nd) (hx : a.kids = [x]) (hs : Tr.scripted x = true) (ha : GroupE W0 p B a) (hb : ArgE W0 p B b) (hd : ArgE W0 p B d) (sl : Value) (hsl : RepL W0 [a, b, d] sl) : Emits 101 #[pp p, .agg #[.int .i64 9, tx, cl, sl]] W0 p B (baseT a ++ ([Tr.mk7 95] ++ (argT b ++ ([Tr.mk7 94] ++ argT d)))) := by
 intro w toks txt hp hf
 rw [baseT_grp a x hx hs] at hf ⊢
 obtain ⟨g, o, cap, sa, sb, sd, rfl, a0, a1, a2, a3, hra, b0, b1, b2, b3, hrb, d0, d1, d2, d3, hrd⟩ := hsl.three
 have GRPa := hid (ha sa hra)
 have ARGb := hid (hb sb hrb)
 have ARGd := hid (hd sd hrd)
 rw [hx] at hra
 obtain ⟨gx, ox, cax, sx, rfl, x0, x1, x2, x3, hrx⟩ := hra.one
 have e1 : a.kids.length = 1 := by rw [hx]; rfl
 have HS := hid hs
 clear e1 hs hrx
 have PST0 := hid hp
 have FIT0 := hid hf
 clear hp hf ha hb hd hsl hra hrb hrd hx
 have XA0 := hid a0
 have XA1 := hid a1
 have XA2 := hid a2
 have XA3 := hid a3
 have XB0 := hid b0
 have XB1 := hid b1
 have XB2 := hid b2
 have XB3 := hid b3
 have XD0 := hid d0
 have XD1 := hid d1
 have XD2 := hid d2
 have XD3 := hid d3
 have XX0 := hid x0
 have XX1 := hid x1
 have XX2 := hid x2
 have XX3 := hid x3
 clear a0 a1 a2 a3 b0 b1 b2 b3 d0 d1 d2 d3 x0 x1 x2 x3
 obtain ⟨xa0_w, xa1_w, xa2_w, xa3_w⟩ := low4 (PSt.low PST0.out) XA0.out XA1.out XA2.out XA3.out
 obtain ⟨xb0_w, xb1_w, xb2_w, xb3_w⟩ := low4 (PSt.low PST0.out) XB0.out XB1.out XB2.out XB3.out
 obtain ⟨xd0_w, xd1_w, xd2_w, xd3_w⟩ := low4 (PSt.low PST0.out) XD0.out XD1.out XD2.out XD3.out
 obtain ⟨xx0_w, xx1_w, xx2_w, xx3_w⟩ := low4 (PSt.low PST0.out) XX0.out XX1.out XX2.out XX3.out
 have hlt_g_w : g < w.heap.size := block_lt_of_cell xa0_w
 have hlt_gx_w : gx < w.heap.size := block_lt_of_cell xx0_w
 go_enter Tryz.func101, Tryz.ntmps101
 go_wp2_with fail
 refine Calls.mono (scripted_is x _ _ HS.out) ?_
 rintro _ w1 ⟨rfl, hfw1⟩
 have HF1 := hid (show Fresh w w1 from preA hfw1)
 have B0_w1 : Blk w1 (w.heap.size) 26 #[.int .i64 (9 : Int), tx, cl, .slice (some ⟨g, o, none⟩) 3 cap] := Touch.blk hfw1 (by first | exact blkN | assumption | exact blkA (by assumption)) (fun h => h)
 have B1_w1 : Blk w1 (w.heap.size + 1) 26 #[.int .i64 a.kind, .string (⟨a.text.toArray⟩ : ByteArray), .int .i64 a.cols, .slice (some ⟨gx, ox, none⟩) 1 cax] := Touch.blk hfw1 (by first | exact blkN | assumption | exact blkA (by assumption)) (fun h => h)
 obtain ⟨q0_0_w1, q0_1_w1, q0_2_w1, q0_3_w1, _⟩ := Blk.four B0_w1
 obtain ⟨q1_0_w1, q1_1_w1, q1_2_w1, q1_3_w1, _⟩ := Blk.four B1_w1
 obtain ⟨xa0_w1, xa1_w1, xa2_w1, xa3_w1⟩ := mv4 HF1.out xa0_w xa1_w xa2_w xa3_w
 obtain ⟨xb0_w1, xb1_w1, xb2_w1, xb3_w1⟩ := mv4 HF1.out xb0_w xb1_w xb2_w xb3_w
 obtain ⟨xd0_w1, xd1_w1, xd2_w1, xd3_w1⟩ := mv4 HF1.out xd0_w xd1_w xd2_w xd3_w
 obtain ⟨xx0_w1, xx1_w1, xx2_w1, xx3_w1⟩ := mv4 HF1.out xx0_w xx1_w xx2_w xx3_w
 clear xa0_w xa1_w xa2_w xa3_w xb0_w xb1_w xb2_w xb3_w xd0_w xd1_w xd2_w xd3_w xx0_w xx1_w xx2_w xx3_w
 have hlt_g_w1 : g < w1.heap.size := block_lt_of_cell xa0_w1
 have hlt_gx_w1 : gx < w1.heap.size := block_lt_of_cell xx0_w1
 have PSTw1 := hid (PSt.fresh PST0.out HF1.out)
 clear hfw1
 go_wp2_with fail
 refine Calls.mono ((GRPa.out) _ _ _ (PSt.fresh PSTw1.out (frA (Touch.refl _ _))) FIT0.out.left) ?_
 rintro _ w2 ⟨rfl, htw2⟩
 have PSTw2 := hid (PSt.add (PSt.fresh PSTw1.out (frA (Touch.refl _ _))) htw2)
 have ACCw2 := hid (PrAdd.freshL (show Fresh w _ from (frA HF1.out)) htw2)
 have FITw2 := hid (Fits.right FIT0.out)
 have B0_w2 : Blk w2 (w.heap.size) 26 #[.int .i64 (9 : Int), tx, cl, .slice (some ⟨g, o, none⟩) 3 cap] := PrAdd.blk htw2 (by first | exact blkN | assumption | exact blkA (by assumption)) (by have := PSt.lt PST0.out; have := PSt.hB PST0.out; omega) (by decide) (by decide)
 have B1_w2 : Blk w2 (w.heap.size + 1) 26 #[.int .i64 a.kind, .string (⟨a.text.toArray⟩ : ByteArray), .int .i64 a.cols, .slice (some ⟨gx, ox, none⟩) 1 cax] := PrAdd.blk htw2 (by first | exact blkN | assumption | exact blkA (by assumption)) (by have := PSt.lt PST0.out; have := PSt.hB PST0.out; omega) (by decide) (by decide)
 clear q0_0_w1 q0_1_w1 q0_2_w1 q0_3_w1 B0_w1 q1_0_w1 q1_1_w1 q1_2_w1 q1_3_w1 B1_w1
 obtain ⟨q0_0_w2, q0_1_w2, q0_2_w2, q0_3_w2, _⟩ := Blk.four B0_w2
 obtain ⟨q1_0_w2, q1_1_w2, q1_2_w2, q1_3_w2, _⟩ := Blk.four B1_w2
 clear xa0_w1 xa1_w1 xa2_w1 xa3_w1 xb0_w1 xb1_w1 xb2_w1 xb3_w1 xd0_w1 xd1_w1 xd2_w1 xd3_w1 xx0_w1 xx1_w1 xx2_w1 xx3_w1
 obtain ⟨xa0_w2, xa1_w2, xa2_w2, xa3_w2⟩ := low4 (PSt.low PSTw2.out) XA0.out XA1.out XA2.out XA3.out
 obtain ⟨xb0_w2, xb1_w2, xb2_w2, xb3_w2⟩ := low4 (PSt.low PSTw2.out) XB0.out XB1.out XB2.out XB3.out
 obtain ⟨xd0_w2, xd1_w2, xd2_w2, xd3_w2⟩ := low4 (PSt.low PSTw2.out) XD0.out XD1.out XD2.out XD3.out
 obtain ⟨xx0_w2, xx1_w2, xx2_w2, xx3_w2⟩ := low4 (PSt.low PSTw2.out) XX0.out XX1.out XX2.out XX3.out
 have hlt_g_w2 : g < w2.heap.size := block_lt_of_cell xa0_w2
 have hlt_gx_w2 : gx < w2.heap.size := block_lt_of_cell xx0_w2
 clear htw2
 go_wp2_with fail
 refine Calls.mono ((mark_em W0 p B [95]) _ _ _ (PSt.fresh PSTw2.out (frA (Touch.refl _ _))) FITw2.out.left) ?_
 rintro _ w3 ⟨rfl, htw3⟩
 have PSTw3 := hid (PSt.add2 (PSt.fresh PSTw2.out (frA (Touch.refl _ _))) htw3)
 have ACCw3 := hid (PrAdd.app ACCw2.out (PrAdd.freshL (show Fresh w2 _ from (frA (Touch.refl _ _))) htw3))
 have FITw3 := hid (Fits.right2 FITw2.out)
 have B0_w3 : Blk w3 (w.heap.size) 26 #[.int .i64 (9 : Int), tx, cl, .slice (some ⟨g, o, none⟩) 3 cap] := PrAdd.blk htw3 (by first | exact blkN | assumption | exact blkA (by assumption)) (by have := PSt.lt PST0.out; have := PSt.hB PST0.out; omega) (by decide) (by decide)
 have B1_w3 : Blk w3 (w.heap.size + 1) 26 #[.int .i64 a.kind, .string (⟨a.text.toArray⟩ : ByteArray), .int .i64 a.cols, .slice (some ⟨gx, ox, none⟩) 1 cax] := PrAdd.blk htw3 (by first | exact blkN | assumption | exact blkA (by assumption)) (by have := PSt.lt PST0.out; have := PSt.hB PST0.out; omega) (by decide) (by decide)
 clear q0_0_w2 q0_1_w2 q0_2_w2 q0_3_w2 B0_w2 q1_0_w2 q1_1_w2 q1_2_w2 q1_3_w2 B1_w2
 obtain ⟨q0_0_w3, q0_1_w3, q0_2_w3, q0_3_w3, _⟩ := Blk.four B0_w3
 obtain ⟨q1_0_w3, q1_1_w3, q1_2_w3, q1_3_w3, _⟩ := Blk.four B1_w3
 clear xa0_w2 xa1_w2 xa2_w2 xa3_w2 xb0_w2 xb1_w2 xb2_w2 xb3_w2 xd0_w2 xd1_w2 xd2_w2 xd3_w2 xx0_w2 xx1_w2 xx2_w2 xx3_w2
 obtain ⟨xa0_w3, xa1_w3, xa2_w3, xa3_w3⟩ := low4 (PSt.low PSTw3.out) XA0.out XA1.out XA2.out XA3.out
 obtain ⟨xb0_w3, xb1_w3, xb2_w3, xb3_w3⟩ := low4 (PSt.low PSTw3.out) XB0.out XB1.out XB2.out XB3.out
 obtain ⟨xd0_w3, xd1_w3, xd2_w3, xd3_w3⟩ := low4 (PSt.low PSTw3.out) XD0.out XD1.out XD2.out XD3.out
 obtain ⟨xx0_w3, xx1_w3, xx2_w3, xx3_w3⟩ := low4 (PSt.low PSTw3.out) XX0.out XX1.out XX2.out XX3.out
 have hlt_g_w3 : g < w3.heap.size := block_lt_of_cell xa0_w3
 have hlt_gx_w3 : gx < w3.heap.size := block_lt_of_cell xx0_w3
 clear htw3
 go_wp2_with fail
 refine Calls.mono ((ARGb.out) _ _ _ (PSt.fresh PSTw3.out (frA (Touch.refl _ _))) FITw3.out.left) ?_
 rintro _ w4 ⟨rfl, htw4⟩
 have PSTw4 := hid (PSt.add2 (PSt.fresh PSTw3.out (frA (Touch.refl _ _))) htw4)
 have ACCw4 := hid (PrAdd.app ACCw3.out (PrAdd.freshL (show Fresh w3 _ from (frA (Touch.refl _ _))) htw4))
 have FITw4 := hid (Fits.right2 FITw3.out)
 have B0_w4 : Blk w4 (w.heap.size) 26 #[.int .i64 (9 : Int), tx, cl, .slice (some ⟨g, o, none⟩) 3 cap] := PrAdd.blk htw4 (by first | exact blkN | assumption | exact blkA (by assumption)) (by have := PSt.lt PST0.out; have := PSt.hB PST0.out; omega) (by decide) (by decide)
 have B1_w4 : Blk w4 (w.heap.size + 1) 26 #[.int .i64 a.kind, .string (⟨a.text.toArray⟩ : ByteArray), .int .i64 a.cols, .slice (some ⟨gx, ox, none⟩) 1 cax] := PrAdd.blk htw4 (by first | exact blkN | assumption | exact blkA (by assumption)) (by have := PSt.lt PST0.out; have := PSt.hB PST0.out; omega) (by decide) (by decide)
 clear q0_0_w3 q0_1_w3 q0_2_w3 q0_3_w3 B0_w3 q1_0_w3 q1_1_w3 q1_2_w3 q1_3_w3 B1_w3
 obtain ⟨q0_0_w4, q0_1_w4, q0_2_w4, q0_3_w4, _⟩ := Blk.four B0_w4
 obtain ⟨q1_0_w4, q1_1_w4, q1_2_w4, q1_3_w4, _⟩ := Blk.four B1_w4
 clear xa0_w3 xa1_w3 xa2_w3 xa3_w3 xb0_w3 xb1_w3 xb2_w3 xb3_w3 xd0_w3 xd1_w3 xd2_w3 xd3_w3 xx0_w3 xx1_w3 xx2_w3 xx3_w3
 obtain ⟨xa0_w4, xa1_w4, xa2_w4, xa3_w4⟩ := low4 (PSt.low PSTw4.out) XA0.out XA1.out XA2.out XA3.out
 obtain ⟨xb0_w4, xb1_w4, xb2_w4, xb3_w4⟩ := low4 (PSt.low PSTw4.out) XB0.out XB1.out XB2.out XB3.out
 obtain ⟨xd0_w4, xd1_w4, xd2_w4, xd3_w4⟩ := low4 (PSt.low PSTw4.out) XD0.out XD1.out XD2.out XD3.out
 obtain ⟨xx0_w4, xx1_w4, xx2_w4, xx3_w4⟩ := low4 (PSt.low PSTw4.out) XX0.out XX1.out XX2.out XX3.out
 have hlt_g_w4 : g < w4.heap.size := block_lt_of_cell xa0_w4
 have hlt_gx_w4 : gx < w4.heap.size := block_lt_of_cell xx0_w4
 clear htw4
 go_wp2_with fail
 refine Calls.mono ((mark_em W0 p B [94]) _ _ _ (PSt.fresh PSTw4.out (frA (Touch.refl _ _))) FITw4.out.left) ?_
 rintro _ w5 ⟨rfl, htw5⟩
 have PSTw5 := hid (PSt.add2 (PSt.fresh PSTw4.out (frA (Touch.refl _ _))) htw5)
 have ACCw5 := hid (PrAdd.app ACCw4.out (PrAdd.freshL (show Fresh w4 _ from (frA (Touch.refl _ _))) htw5))
 have FITw5 := hid (Fits.right2 FITw4.out)
 have B0_w5 : Blk w5 (w.heap.size) 26 #[.int .i64 (9 : Int), tx, cl, .slice (some ⟨g, o, none⟩) 3 cap] := PrAdd.blk htw5 (by first | exact blkN | assumption | exact blkA (by assumption)) (by have := PSt.lt PST0.out; have := PSt.hB PST0.out; omega) (by decide) (by decide)
 have B1_w5 : Blk w5 (w.heap.size + 1) 26 #[.int .i64 a.kind, .string (⟨a.text.toArray⟩ : ByteArray), .int .i64 a.cols, .slice (some ⟨gx, ox, none⟩) 1 cax] := PrAdd.blk htw5 (by first | exact blkN | assumption | exact blkA (by assumption)) (by have := PSt.lt PST0.out; have := PSt.hB PST0.out; omega) (by decide) (by decide)
 clear q0_0_w4 q0_1_w4 q0_2_w4 q0_3_w4 B0_w4 q1_0_w4 q1_1_w4 q1_2_w4 q1_3_w4 B1_w4
 obtain ⟨q0_0_w5, q0_1_w5, q0_2_w5, q0_3_w5, _⟩ := Blk.four B0_w5
 obtain ⟨q1_0_w5, q1_1_w5, q1_2_w5, q1_3_w5, _⟩ := Blk.four B1_w5
 clear xa0_w4 xa1_w4 xa2_w4 xa3_w4 xb0_w4 xb1_w4 xb2_w4 xb3_w4 xd0_w4 xd1_w4 xd2_w4 xd3_w4 xx0_w4 xx1_w4 xx2_w4 xx3_w4
 obtain ⟨xa0_w5, xa1_w5, xa2_w5, xa3_w5⟩ := low4 (PSt.low PSTw5.out) XA0.out XA1.out XA2.out XA3.out
 obtain ⟨xb0_w5, xb1_w5, xb2_w5, xb3_w5⟩ := low4 (PSt.low PSTw5.out) XB0.out XB1.out XB2.out XB3.out
 obtain ⟨xd0_w5, xd1_w5, xd2_w5, xd3_w5⟩ := low4 (PSt.low PSTw5.out) XD0.out XD1.out XD2.out XD3.out
 obtain ⟨xx0_w5, xx1_w5, xx2_w5, xx3_w5⟩ := low4 (PSt.low PSTw5.out) XX0.out XX1.out XX2.out XX3.out
 have hlt_g_w5 : g < w5.heap.size := block_lt_of_cell xa0_w5
 have hlt_gx_w5 : gx < w5.heap.size := block_lt_of_cell xx0_w5
 clear htw5
 go_wp2_with fail
 refine Calls.mono ((ARGd.out) _ _ _ (PSt.fresh PSTw5.out (frA (Touch.refl _ _))) FITw5.out) ?_
 rintro _ w6 ⟨rfl, htw6⟩
 have PSTw6 := hid (PSt.add2 (PSt.fresh PSTw5.out (frA (Touch.refl _ _))) htw6)
 have ACCw6 := hid (PrAdd.app ACCw5.out (PrAdd.freshL (show Fresh w5 _ from (frA (Touch.refl _ _))) htw6))
 have B0_w6 : Blk w6 (w.heap.size) 26 #[.int .i64 (9 : Int), tx, cl, .slice (some ⟨g, o, none⟩) 3 cap] := PrAdd.blk htw6 (by first | exact blkN | assumption | exact blkA (by assumption)) (by have := PSt.lt PST0.out; have := PSt.hB PST0.out; omega) (by decide) (by decide)
 have B1_w6 : Blk w6 (w.heap.size + 1) 26 #[.int .i64 a.kind, .string (⟨a.text.toArray⟩ : ByteArray), .int .i64 a.cols, .slice (some ⟨gx, ox, none⟩) 1 cax] := PrAdd.blk htw6 (by first | exact blkN | assumption | exact blkA (by assumption)) (by have := PSt.lt PST0.out; have := PSt.hB PST0.out; omega) (by decide) (by decide)
 clear q0_0_w5 q0_1_w5 q0_2_w5 q0_3_w5 B0_w5 q1_0_w5 q1_1_w5 q1_2_w5 q1_3_w5 B1_w5
 obtain ⟨q0_0_w6, q0_1_w6, q0_2_w6, q0_3_w6, _⟩ := Blk.four B0_w6
 obtain ⟨q1_0_w6, q1_1_w6, q1_2_w6, q1_3_w6, _⟩ := Blk.four B1_w6
 clear xa0_w5 xa1_w5 xa2_w5 xa3_w5 xb0_w5 xb1_w5 xb2_w5 xb3_w5 xd0_w5 xd1_w5 xd2_w5 xd3_w5 xx0_w5 xx1_w5 xx2_w5 xx3_w5
 obtain ⟨xa0_w6, xa1_w6, xa2_w6, xa3_w6⟩ := low4 (PSt.low PSTw6.out) XA0.out XA1.out XA2.out XA3.out
 obtain ⟨xb0_w6, xb1_w6, xb2_w6, xb3_w6⟩ := low4 (PSt.low PSTw6.out) XB0.out XB1.out XB2.out XB3.out
 obtain ⟨xd0_w6, xd1_w6, xd2_w6, xd3_w6⟩ := low4 (PSt.low PSTw6.out) XD0.out XD1.out XD2.out XD3.out
 obtain ⟨xx0_w6, xx1_w6, xx2_w6, xx3_w6⟩ := low4 (PSt.low PSTw6.out) XX0.out XX1.out XX2.out XX3.out
 have hlt_g_w6 : g < w6.heap.size := block_lt_of_cell xa0_w6
 have hlt_gx_w6 : gx < w6.heap.size := block_lt_of_cell xx0_w6
 clear htw6
 go_wp2_with fail
 first | go_end0 | refine bodyPost_ret (v := .tuple #[]) (results_none rfl _ _ _) rfl ?_
 exact ⟨rfl, PrAdd.cast ACCw6.out (by first | rfl | (simp only [List.append_assoc] <;> rfl))⟩
set_option maxRecDepth 100000 in
set_option maxHeartbeats 1000000 in
theorem scripts_9_len (W0 : World) (p B : Nat) (tx cl : Value) (a b d : Nd) (hx : a.kids.length ≠ 1) (ha : GroupE W0 p B a) (hb : ArgE W0 p B b) (hd : ArgE W0 p B d) (sl : Value) (hsl : RepL W0 [a, b, d] sl) : Emits 101 #[pp p, .agg #[.int .i64 9, tx, cl, sl]] W0 p B (baseT a ++ ([Tr.mk7 95] ++ (argT b ++ ([Tr.mk7 94] ++ argT d)))) := by
 intro w toks txt hp hf
 rw [baseT_len1 a hx] at hf ⊢
 obtain ⟨g, o, cap, sa, sb, sd, rfl, a0, a1, a2, a3, hra, b0, b1, b2, b3, hrb, d0, d1, d2, d3, hrd⟩ := hsl.three
 have GRPa := hid (ha sa hra)
 have ARGb := hid (hb sb hrb)
 have ARGd := hid (hd sd hrd)
 obtain ⟨Aa, capa, rfl⟩ := hra.slice
 have f1 : ((a.kids.length : Int) == 1) = false := by simp only [beq_eq_false_iff_ne]; omega
 have f2 : ¬ (a.kids.length : Int) = 1 := by omega
 have PST0 := hid hp
 have FIT0 := hid hf
 clear hp hf ha hb hd hsl hra hrb hrd hx
 have XA0 := hid a0
 have XA1 := hid a1
 have XA2 := hid a2
 have XA3 := hid a3
 have XB0 := hid b0
 have XB1 := hid b1
 have XB2 := hid b2
 have XB3 := hid b3
 have XD0 := hid d0
 have XD1 := hid d1
 have XD2 := hid d2
 have XD3 := hid d3
 clear a0 a1 a2 a3 b0 b1 b2 b3 d0 d1 d2 d3
 obtain ⟨xa0_w, xa1_w, xa2_w, xa3_w⟩ := low4 (PSt.low PST0.out) XA0.out XA1.out XA2.out XA3.out
 obtain ⟨xb0_w, xb1_w, xb2_w, xb3_w⟩ := low4 (PSt.low PST0.out) XB0.out XB1.out XB2.out XB3.out
 obtain ⟨xd0_w, xd1_w, xd2_w, xd3_w⟩ := low4 (PSt.low PST0.out) XD0.out XD1.out XD2.out XD3.out
 have hlt_g_w : g < w.heap.size := block_lt_of_cell xa0_w
 go_enter Tryz.func101, Tryz.ntmps101
 go_wp2_with fail
 refine Calls.mono ((GRPa.out) _ _ _ (PSt.fresh PST0.out (frA (Touch.refl _ _))) FIT0.out.left) ?_
 rintro _ w1 ⟨rfl, htw1⟩
 have PSTw1 := hid (PSt.add (PSt.fresh PST0.out (frA (Touch.refl _ _))) htw1)
 have ACCw1 := hid (PrAdd.freshL (show Fresh w _ from (frA (Touch.refl _ _))) htw1)
 have FITw1 := hid (Fits.right FIT0.out)
 have B0_w1 : Blk w1 (w.heap.size) 26 #[.int .i64 (9 : Int), tx, cl, .slice (some ⟨g, o, none⟩) 3 cap] := PrAdd.blk htw1 (by first | exact blkN | assumption | exact blkA (by assumption)) (by have := PSt.lt PST0.out; have := PSt.hB PST0.out; omega) (by decide) (by decide)
 have B1_w1 : Blk w1 (w.heap.size + 1) 26 #[.int .i64 a.kind, .string (⟨a.text.toArray⟩ : ByteArray), .int .i64 a.cols, .slice Aa a.kids.length capa] := PrAdd.blk htw1 (by first | exact blkN | assumption | exact blkA (by assumption)) (by have := PSt.lt PST0.out; have := PSt.hB PST0.out; omega) (by decide) (by decide)
 obtain ⟨q0_0_w1, q0_1_w1, q0_2_w1, q0_3_w1, _⟩ := Blk.four B0_w1
 obtain ⟨q1_0_w1, q1_1_w1, q1_2_w1, q1_3_w1, _⟩ := Blk.four B1_w1
 clear xa0_w xa1_w xa2_w xa3_w xb0_w xb1_w xb2_w xb3_w xd0_w xd1_w xd2_w xd3_w
 obtain ⟨xa0_w1, xa1_w1, xa2_w1, xa3_w1⟩ := low4 (PSt.low PSTw1.out) XA0.out XA1.out XA2.out XA3.out
 obtain ⟨xb0_w1, xb1_w1, xb2_w1, xb3_w1⟩ := low4 (PSt.low PSTw1.out) XB0.out XB1.out XB2.out XB3.out
 obtain ⟨xd0_w1, xd1_w1, xd2_w1, xd3_w1⟩ := low4 (PSt.low PSTw1.out) XD0.out XD1.out XD2.out XD3.out
 have hlt_g_w1 : g < w1.heap.size := block_lt_of_cell xa0_w1
 clear htw1
 go_wp2_with fail
 refine Calls.mono ((mark_em W0 p B [95]) _ _ _ (PSt.fresh PSTw1.out (frA (Touch.refl _ _))) FITw1.out.left) ?_
 rintro _ w2 ⟨rfl, htw2⟩
 have PSTw2 := hid (PSt.add2 (PSt.fresh PSTw1.out (frA (Touch.refl _ _))) htw2)
 have ACCw2 := hid (PrAdd.app ACCw1.out (PrAdd.freshL (show Fresh w1 _ from (frA (Touch.refl _ _))) htw2))
 have FITw2 := hid (Fits.right2 FITw1.out)
 have B0_w2 : Blk w2 (w.heap.size) 26 #[.int .i64 (9 : Int), tx, cl, .slice (some ⟨g, o, none⟩) 3 cap] := PrAdd.blk htw2 (by first | exact blkN | assumption | exact blkA (by assumption)) (by have := PSt.lt PST0.out; have := PSt.hB PST0.out; omega) (by decide) (by decide)
 have B1_w2 : Blk w2 (w.heap.size + 1) 26 #[.int .i64 a.kind, .string (⟨a.text.toArray⟩ : ByteArray), .int .i64 a.cols, .slice Aa a.kids.length capa] := PrAdd.blk htw2 (by first | exact blkN | assumption | exact blkA (by assumption)) (by have := PSt.lt PST0.out; have := PSt.hB PST0.out; omega) (by decide) (by decide)
 clear q0_0_w1 q0_1_w1 q0_2_w1 q0_3_w1 B0_w1 q1_0_w1 q1_1_w1 q1_2_w1 q1_3_w1 B1_w1
 obtain ⟨q0_0_w2, q0_1_w2, q0_2_w2, q0_3_w2, _⟩ := Blk.four B0_w2
 obtain ⟨q1_0_w2, q1_1_w2, q1_2_w2, q1_3_w2, _⟩ := Blk.four B1_w2
 clear xa0_w1 xa1_w1 xa2_w1 xa3_w1 xb0_w1 xb1_w1 xb2_w1 xb3_w1 xd0_w1 xd1_w1 xd2_w1 xd3_w1
 obtain ⟨xa0_w2, xa1_w2, xa2_w2, xa3_w2⟩ := low4 (PSt.low PSTw2.out) XA0.out XA1.out XA2.out XA3.out
 obtain ⟨xb0_w2, xb1_w2, xb2_w2, xb3_w2⟩ := low4 (PSt.low PSTw2.out) XB0.out XB1.out XB2.out XB3.out
 obtain ⟨xd0_w2, xd1_w2, xd2_w2, xd3_w2⟩ := low4 (PSt.low PSTw2.out) XD0.out XD1.out XD2.out XD3.out
 have hlt_g_w2 : g < w2.heap.size := block_lt_of_cell xa0_w2
 clear htw2
 go_wp2_with fail
 refine Calls.mono ((ARGb.out) _ _ _ (PSt.fresh PSTw2.out (frA (Touch.refl _ _))) FITw2.out.left) ?_
 rintro _ w3 ⟨rfl, htw3⟩
 have PSTw3 := hid (PSt.add2 (PSt.fresh PSTw2.out (frA (Touch.refl _ _))) htw3)
 have ACCw3 := hid (PrAdd.app ACCw2.out (PrAdd.freshL (show Fresh w2 _ from (frA (Touch.refl _ _))) htw3))
 have FITw3 := hid (Fits.right2 FITw2.out)
 have B0_w3 : Blk w3 (w.heap.size) 26 #[.int .i64 (9 : Int), tx, cl, .slice (some ⟨g, o, none⟩) 3 cap] := PrAdd.blk htw3 (by first | exact blkN | assumption | exact blkA (by assumption)) (by have := PSt.lt PST0.out; have := PSt.hB PST0.out; omega) (by decide) (by decide)
 have B1_w3 : Blk w3 (w.heap.size + 1) 26 #[.int .i64 a.kind, .string (⟨a.text.toArray⟩ : ByteArray), .int .i64 a.cols, .slice Aa a.kids.length capa] := PrAdd.blk htw3 (by first | exact blkN | assumption | exact blkA (by assumption)) (by have := PSt.lt PST0.out; have := PSt.hB PST0.out; omega) (by decide) (by decide)
 clear q0_0_w2 q0_1_w2 q0_2_w2 q0_3_w2 B0_w2 q1_0_w2 q1_1_w2 q1_2_w2 q1_3_w2 B1_w2
 obtain ⟨q0_0_w3, q0_1_w3, q0_2_w3, q0_3_w3, _⟩ := Blk.four B0_w3
 obtain ⟨q1_0_w3, q1_1_w3, q1_2_w3, q1_3_w3, _⟩ := Blk.four B1_w3
 clear xa0_w2 xa1_w2 xa2_w2 xa3_w2 xb0_w2 xb1_w2 xb2_w2 xb3_w2 xd0_w2 xd1_w2 xd2_w2 xd3_w2
 obtain ⟨xa0_w3, xa1_w3, xa2_w3, xa3_w3⟩ := low4 (PSt.low PSTw3.out) XA0.out XA1.out XA2.out XA3.out
 obtain ⟨xb0_w3, xb1_w3, xb2_w3, xb3_w3⟩ := low4 (PSt.low PSTw3.out) XB0.out XB1.out XB2.out XB3.out
 obtain ⟨xd0_w3, xd1_w3, xd2_w3, xd3_w3⟩ := low4 (PSt.low PSTw3.out) XD0.out XD1.out XD2.out XD3.out
 have hlt_g_w3 : g < w3.heap.size := block_lt_of_cell xa0_w3
 clear htw3
 go_wp2_with fail
 refine Calls.mono ((mark_em W0 p B [94]) _ _ _ (PSt.fresh PSTw3.out (frA (Touch.refl _ _))) FITw3.out.left) ?_
 rintro _ w4 ⟨rfl, htw4⟩
 have PSTw4 := hid (PSt.add2 (PSt.fresh PSTw3.out (frA (Touch.refl _ _))) htw4)
 have ACCw4 := hid (PrAdd.app ACCw3.out (PrAdd.freshL (show Fresh w3 _ from (frA (Touch.refl _ _))) htw4))
 have FITw4 := hid (Fits.right2 FITw3.out)
 have B0_w4 : Blk w4 (w.heap.size) 26 #[.int .i64 (9 : Int), tx, cl, .slice (some ⟨g, o, none⟩) 3 cap] := PrAdd.blk htw4 (by first | exact blkN | assumption | exact blkA (by assumption)) (by have := PSt.lt PST0.out; have := PSt.hB PST0.out; omega) (by decide) (by decide)
 have B1_w4 : Blk w4 (w.heap.size + 1) 26 #[.int .i64 a.kind, .string (⟨a.text.toArray⟩ : ByteArray), .int .i64 a.cols, .slice Aa a.kids.length capa] := PrAdd.blk htw4 (by first | exact blkN | assumption | exact blkA (by assumption)) (by have := PSt.lt PST0.out; have := PSt.hB PST0.out; omega) (by decide) (by decide)
 clear q0_0_w3 q0_1_w3 q0_2_w3 q0_3_w3 B0_w3 q1_0_w3 q1_1_w3 q1_2_w3 q1_3_w3 B1_w3
 obtain ⟨q0_0_w4, q0_1_w4, q0_2_w4, q0_3_w4, _⟩ := Blk.four B0_w4
 obtain ⟨q1_0_w4, q1_1_w4, q1_2_w4, q1_3_w4, _⟩ := Blk.four B1_w4
 clear xa0_w3 xa1_w3 xa2_w3 xa3_w3 xb0_w3 xb1_w3 xb2_w3 xb3_w3 xd0_w3 xd1_w3 xd2_w3 xd3_w3
 obtain ⟨xa0_w4, xa1_w4, xa2_w4, xa3_w4⟩ := low4 (PSt.low PSTw4.out) XA0.out XA1.out XA2.out XA3.out
 obtain ⟨xb0_w4, xb1_w4, xb2_w4, xb3_w4⟩ := low4 (PSt.low PSTw4.out) XB0.out XB1.out XB2.out XB3.out
 obtain ⟨xd0_w4, xd1_w4, xd2_w4, xd3_w4⟩ := low4 (PSt.low PSTw4.out) XD0.out XD1.out XD2.out XD3.out
 have hlt_g_w4 : g < w4.heap.size := block_lt_of_cell xa0_w4
 clear htw4
 go_wp2_with fail
 refine Calls.mono ((ARGd.out) _ _ _ (PSt.fresh PSTw4.out (frA (Touch.refl _ _))) FITw4.out) ?_
 rintro _ w5 ⟨rfl, htw5⟩
 have PSTw5 := hid (PSt.add2 (PSt.fresh PSTw4.out (frA (Touch.refl _ _))) htw5)
 have ACCw5 := hid (PrAdd.app ACCw4.out (PrAdd.freshL (show Fresh w4 _ from (frA (Touch.refl _ _))) htw5))
 have B0_w5 : Blk w5 (w.heap.size) 26 #[.int .i64 (9 : Int), tx, cl, .slice (some ⟨g, o, none⟩) 3 cap] := PrAdd.blk htw5 (by first | exact blkN | assumption | exact blkA (by assumption)) (by have := PSt.lt PST0.out; have := PSt.hB PST0.out; omega) (by decide) (by decide)
 have B1_w5 : Blk w5 (w.heap.size + 1) 26 #[.int .i64 a.kind, .string (⟨a.text.toArray⟩ : ByteArray), .int .i64 a.cols, .slice Aa a.kids.length capa] := PrAdd.blk htw5 (by first | exact blkN | assumption | exact blkA (by assumption)) (by have := PSt.lt PST0.out; have := PSt.hB PST0.out; omega) (by decide) (by decide)
 clear q0_0_w4 q0_1_w4 q0_2_w4 q0_3_w4 B0_w4 q1_0_w4 q1_1_w4 q1_2_w4 q1_3_w4 B1_w4
 obtain ⟨q0_0_w5, q0_1_w5, q0_2_w5, q0_3_w5, _⟩ := Blk.four B0_w5
 obtain ⟨q1_0_w5, q1_1_w5, q1_2_w5, q1_3_w5, _⟩ := Blk.four B1_w5
 clear xa0_w4 xa1_w4 xa2_w4 xa3_w4 xb0_w4 xb1_w4 xb2_w4 xb3_w4 xd0_w4 xd1_w4 xd2_w4 xd3_w4
 obtain ⟨xa0_w5, xa1_w5, xa2_w5, xa3_w5⟩ := low4 (PSt.low PSTw5.out) XA0.out XA1.out XA2.out XA3.out
 obtain ⟨xb0_w5, xb1_w5, xb2_w5, xb3_w5⟩ := low4 (PSt.low PSTw5.out) XB0.out XB1.out XB2.out XB3.out
 obtain ⟨xd0_w5, xd1_w5, xd2_w5, xd3_w5⟩ := low4 (PSt.low PSTw5.out) XD0.out XD1.out XD2.out XD3.out
 have hlt_g_w5 : g < w5.heap.size := block_lt_of_cell xa0_w5
 clear htw5
 go_wp2_with fail
 first | go_end0 | refine bodyPost_ret (v := .tuple #[]) (results_none rfl _ _ _) rfl ?_
 exact ⟨rfl, PrAdd.cast ACCw5.out (by first | rfl | (simp only [List.append_assoc] <;> rfl))⟩
end Go.Proofs.YtgfhlfbcoimojaaGreat
