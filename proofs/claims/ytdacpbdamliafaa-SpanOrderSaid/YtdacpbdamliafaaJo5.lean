/- Part 5 of 11 of a proof; its texts, joined: PrP. No condition. -/
import Derived.Test.YtdacpbdamliafaaJo4

/- The printer's scripts and fence. -/
namespace Go.Proofs.Ytdacpbdamliafaa
open Go.RowKit
open Tr (Nd argT baseT rowT itemT)

theorem scripted_is {b : Bool} (n : Nd) (sl : Value) (w : World) (h : Tr.scripted n = b) : Calls Try.prog 86 #[nv n sl] w fun e w' => e = .returned (.bool b) ∧ Fresh w w' := by
  have := scripted_any n sl w
  rw [h] at this
  exact this

set_option maxRecDepth 100000 in
set_option maxHeartbeats 1000000 in
theorem scripts_7_row (W0 : World) (p B : Nat) (tx cl : Value) (a b : Nd) (x : Nd) (hx : a.kids = [x]) (hs : Tr.scripted x = false) (ha : RowE W0 p B a) (hb : ArgE W0 p B b) (sl : Value) (hsl : RepL W0 [a, b] sl) : Emits 62 #[pp p, .agg #[.int .i64 7, tx, cl, sl]] W0 p B (baseT a ++ ([Tr.mk7 95] ++ argT b)) := by
  intro w toks txt hp hf
  rw [baseT_row a x hx hs] at hf ⊢
  obtain ⟨g, o, cap, sa, sb, rfl, a0, a1, a2, a3, hra, b0, b1, b2, b3, hrb⟩ := hsl.two
  have ROWa := hid (ha sa hra)
  have ARGb := hid (hb sb hrb)
  rw [hx] at hra
  obtain ⟨gx, ox, cax, sx, rfl, x0, x1, x2, x3, hrx⟩ := hra.one
  have e1 : a.kids.length = 1 := by rw [hx]; rfl
  have HS := hid hs
  clear e1 hs hrx
  have PST0 := hid hp
  have FIT0 := hid hf
  clear hp hf ha hb hsl hra hrb hx
  have XA0 := hid a0
  have XA1 := hid a1
  have XA2 := hid a2
  have XA3 := hid a3
  have XB0 := hid b0
  have XB1 := hid b1
  have XB2 := hid b2
  have XB3 := hid b3
  have XX0 := hid x0
  have XX1 := hid x1
  have XX2 := hid x2
  have XX3 := hid x3
  clear a0 a1 a2 a3 b0 b1 b2 b3 x0 x1 x2 x3
  have xa0_w : World.cell? w ⟨g, o, none⟩ = some (.int .i64 a.kind) := Low.cell (PSt.low PST0.out) XA0.out
  have xa1_w : World.cell? w ⟨g, o + 1, none⟩ = some (.string (⟨a.text.toArray⟩ : ByteArray)) := Low.cell (PSt.low PST0.out) XA1.out
  have xa2_w : World.cell? w ⟨g, o + 2, none⟩ = some (.int .i64 a.cols) := Low.cell (PSt.low PST0.out) XA2.out
  have xa3_w : World.cell? w ⟨g, o + 3, none⟩ = some (.slice (some ⟨gx, ox, none⟩) 1 cax) := Low.cell (PSt.low PST0.out) XA3.out
  have xb0_w : World.cell? w ⟨g, o + 4, none⟩ = some (.int .i64 b.kind) := Low.cell (PSt.low PST0.out) XB0.out
  have xb1_w : World.cell? w ⟨g, o + 4 + 1, none⟩ = some (.string (⟨b.text.toArray⟩ : ByteArray)) := Low.cell (PSt.low PST0.out) XB1.out
  have xb2_w : World.cell? w ⟨g, o + 4 + 2, none⟩ = some (.int .i64 b.cols) := Low.cell (PSt.low PST0.out) XB2.out
  have xb3_w : World.cell? w ⟨g, o + 4 + 3, none⟩ = some (sb) := Low.cell (PSt.low PST0.out) XB3.out
  have xx0_w : World.cell? w ⟨gx, ox, none⟩ = some (.int .i64 x.kind) := Low.cell (PSt.low PST0.out) XX0.out
  have xx1_w : World.cell? w ⟨gx, ox + 1, none⟩ = some (.string (⟨x.text.toArray⟩ : ByteArray)) := Low.cell (PSt.low PST0.out) XX1.out
  have xx2_w : World.cell? w ⟨gx, ox + 2, none⟩ = some (.int .i64 x.cols) := Low.cell (PSt.low PST0.out) XX2.out
  have xx3_w : World.cell? w ⟨gx, ox + 3, none⟩ = some (sx) := Low.cell (PSt.low PST0.out) XX3.out
  have hlt_g_w : g < w.heap.size := block_lt_of_cell xa0_w
  have hlt_gx_w : gx < w.heap.size := block_lt_of_cell xx0_w
  go_enter Try.func62, Try.ntmps62
  go_wp2_with fail
  refine Calls.mono (scripted_is x _ _ HS.out) ?_
  rintro _ w1 ⟨rfl, hfw1⟩
  have HF1 := hid (show Fresh w w1 from by first | exact hfw1 | exact Touch.pre hfw1 | exact Touch.pre (Touch.pre hfw1) | exact Touch.ofN hfw1 | exact Touch.preN hfw1 | exact Touch.pre (Touch.pre (Touch.pre hfw1)))
  have B0_w1 : Blk w1 (w.heap.size) 24 #[.int .i64 (7 : Int), tx, cl, .slice (some ⟨g, o, none⟩) 2 cap] := Touch.blk hfw1 (by first | exact Blk.new _ _ _ | exact (Blk.new _ _ _).alloc _ | exact Blk.new2 _ _ _ _ | exact ((Blk.new _ _ _).alloc _).alloc _ | exact (Blk.new2 _ _ _ _).alloc _ | exact Blk.new3 _ _ _ _ _ | assumption | exact Blk.alloc (by assumption) _ | exact (Blk.alloc (Blk.alloc (by assumption) _) _)) (fun h => h)
  have B1_w1 : Blk w1 (w.heap.size + 1) 24 #[.int .i64 a.kind, .string (⟨a.text.toArray⟩ : ByteArray), .int .i64 a.cols, .slice (some ⟨gx, ox, none⟩) 1 cax] := Touch.blk hfw1 (by first | exact Blk.new _ _ _ | exact (Blk.new _ _ _).alloc _ | exact Blk.new2 _ _ _ _ | exact ((Blk.new _ _ _).alloc _).alloc _ | exact (Blk.new2 _ _ _ _).alloc _ | exact Blk.new3 _ _ _ _ _ | assumption | exact Blk.alloc (by assumption) _ | exact (Blk.alloc (Blk.alloc (by assumption) _) _)) (fun h => h)
  have q0_0_w1 : World.cell? w1 ⟨w.heap.size, 0, none⟩ = some (.int .i64 (7 : Int)) := Blk.cell B0_w1 0
  have q0_1_w1 : World.cell? w1 ⟨w.heap.size, 1, none⟩ = some (tx) := Blk.cell B0_w1 1
  have q0_2_w1 : World.cell? w1 ⟨w.heap.size, 2, none⟩ = some (cl) := Blk.cell B0_w1 2
  have q0_3_w1 : World.cell? w1 ⟨w.heap.size, 3, none⟩ = some (.slice (some ⟨g, o, none⟩) 2 cap) := Blk.cell B0_w1 3
  have q1_0_w1 : World.cell? w1 ⟨w.heap.size + 1, 0, none⟩ = some (.int .i64 a.kind) := Blk.cell B1_w1 0
  have q1_1_w1 : World.cell? w1 ⟨w.heap.size + 1, 1, none⟩ = some (.string (⟨a.text.toArray⟩ : ByteArray)) := Blk.cell B1_w1 1
  have q1_2_w1 : World.cell? w1 ⟨w.heap.size + 1, 2, none⟩ = some (.int .i64 a.cols) := Blk.cell B1_w1 2
  have q1_3_w1 : World.cell? w1 ⟨w.heap.size + 1, 3, none⟩ = some (.slice (some ⟨gx, ox, none⟩) 1 cax) := Blk.cell B1_w1 3
  have xa0_w1 : World.cell? w1 ⟨g, o, none⟩ = some (.int .i64 a.kind) := Touch.cell HF1.out xa0_w (fun h => h)
  have xa1_w1 : World.cell? w1 ⟨g, o + 1, none⟩ = some (.string (⟨a.text.toArray⟩ : ByteArray)) := Touch.cell HF1.out xa1_w (fun h => h)
  have xa2_w1 : World.cell? w1 ⟨g, o + 2, none⟩ = some (.int .i64 a.cols) := Touch.cell HF1.out xa2_w (fun h => h)
  have xa3_w1 : World.cell? w1 ⟨g, o + 3, none⟩ = some (.slice (some ⟨gx, ox, none⟩) 1 cax) := Touch.cell HF1.out xa3_w (fun h => h)
  have xb0_w1 : World.cell? w1 ⟨g, o + 4, none⟩ = some (.int .i64 b.kind) := Touch.cell HF1.out xb0_w (fun h => h)
  have xb1_w1 : World.cell? w1 ⟨g, o + 4 + 1, none⟩ = some (.string (⟨b.text.toArray⟩ : ByteArray)) := Touch.cell HF1.out xb1_w (fun h => h)
  have xb2_w1 : World.cell? w1 ⟨g, o + 4 + 2, none⟩ = some (.int .i64 b.cols) := Touch.cell HF1.out xb2_w (fun h => h)
  have xb3_w1 : World.cell? w1 ⟨g, o + 4 + 3, none⟩ = some (sb) := Touch.cell HF1.out xb3_w (fun h => h)
  have xx0_w1 : World.cell? w1 ⟨gx, ox, none⟩ = some (.int .i64 x.kind) := Touch.cell HF1.out xx0_w (fun h => h)
  have xx1_w1 : World.cell? w1 ⟨gx, ox + 1, none⟩ = some (.string (⟨x.text.toArray⟩ : ByteArray)) := Touch.cell HF1.out xx1_w (fun h => h)
  have xx2_w1 : World.cell? w1 ⟨gx, ox + 2, none⟩ = some (.int .i64 x.cols) := Touch.cell HF1.out xx2_w (fun h => h)
  have xx3_w1 : World.cell? w1 ⟨gx, ox + 3, none⟩ = some (sx) := Touch.cell HF1.out xx3_w (fun h => h)
  clear xa0_w xa1_w xa2_w xa3_w xb0_w xb1_w xb2_w xb3_w xx0_w xx1_w xx2_w xx3_w
  have hlt_g_w1 : g < w1.heap.size := block_lt_of_cell xa0_w1
  have hlt_gx_w1 : gx < w1.heap.size := block_lt_of_cell xx0_w1
  have PSTw1 := hid (PSt.fresh PST0.out HF1.out)
  clear hfw1
  go_wp2_with fail
  refine Calls.mono ((ROWa.out) _ _ _ (PSt.fresh PSTw1.out (by first | exact (Touch.refl _ _) | exact (Touch.refl _ _).alloc _ | exact ((Touch.refl _ _).alloc _).alloc _ | exact (((Touch.refl _ _).alloc _).alloc _).alloc _ | exact (Touch.refl _ _).drewN _ | exact ((Touch.refl _ _).alloc _).drewN _ | exact (((Touch.refl _ _).alloc _).alloc _).drewN _)) FIT0.out.left) ?_
  rintro _ w2 ⟨rfl, htw2⟩
  have PSTw2 := hid (PSt.add (PSt.fresh PSTw1.out (by first | exact (Touch.refl _ _) | exact (Touch.refl _ _).alloc _ | exact ((Touch.refl _ _).alloc _).alloc _ | exact (((Touch.refl _ _).alloc _).alloc _).alloc _ | exact (Touch.refl _ _).drewN _ | exact ((Touch.refl _ _).alloc _).drewN _ | exact (((Touch.refl _ _).alloc _).alloc _).drewN _)) htw2)
  have ACCw2 := hid (PrAdd.freshL (show Fresh w _ from (by first | exact HF1.out | exact HF1.out.alloc _ | exact (HF1.out.alloc _).alloc _ | exact ((HF1.out.alloc _).alloc _).alloc _ | exact HF1.out.drewN _ | exact (HF1.out.alloc _).drewN _ | exact ((HF1.out.alloc _).alloc _).drewN _)) htw2)
  have FITw2 := hid (Fits.right FIT0.out)
  have B0_w2 : Blk w2 (w.heap.size) 24 #[.int .i64 (7 : Int), tx, cl, .slice (some ⟨g, o, none⟩) 2 cap] := PrAdd.blk htw2 (by first | exact Blk.new _ _ _ | exact (Blk.new _ _ _).alloc _ | exact Blk.new2 _ _ _ _ | exact ((Blk.new _ _ _).alloc _).alloc _ | exact (Blk.new2 _ _ _ _).alloc _ | exact Blk.new3 _ _ _ _ _ | assumption | exact Blk.alloc (by assumption) _ | exact (Blk.alloc (Blk.alloc (by assumption) _) _)) (by have := PSt.lt PST0.out; have := PSt.hB PST0.out; omega) (by decide) (by decide)
  have B1_w2 : Blk w2 (w.heap.size + 1) 24 #[.int .i64 a.kind, .string (⟨a.text.toArray⟩ : ByteArray), .int .i64 a.cols, .slice (some ⟨gx, ox, none⟩) 1 cax] := PrAdd.blk htw2 (by first | exact Blk.new _ _ _ | exact (Blk.new _ _ _).alloc _ | exact Blk.new2 _ _ _ _ | exact ((Blk.new _ _ _).alloc _).alloc _ | exact (Blk.new2 _ _ _ _).alloc _ | exact Blk.new3 _ _ _ _ _ | assumption | exact Blk.alloc (by assumption) _ | exact (Blk.alloc (Blk.alloc (by assumption) _) _)) (by have := PSt.lt PST0.out; have := PSt.hB PST0.out; omega) (by decide) (by decide)
  clear q0_0_w1 q0_1_w1 q0_2_w1 q0_3_w1 B0_w1 q1_0_w1 q1_1_w1 q1_2_w1 q1_3_w1 B1_w1
  have q0_0_w2 : World.cell? w2 ⟨w.heap.size, 0, none⟩ = some (.int .i64 (7 : Int)) := Blk.cell B0_w2 0
  have q0_1_w2 : World.cell? w2 ⟨w.heap.size, 1, none⟩ = some (tx) := Blk.cell B0_w2 1
  have q0_2_w2 : World.cell? w2 ⟨w.heap.size, 2, none⟩ = some (cl) := Blk.cell B0_w2 2
  have q0_3_w2 : World.cell? w2 ⟨w.heap.size, 3, none⟩ = some (.slice (some ⟨g, o, none⟩) 2 cap) := Blk.cell B0_w2 3
  have q1_0_w2 : World.cell? w2 ⟨w.heap.size + 1, 0, none⟩ = some (.int .i64 a.kind) := Blk.cell B1_w2 0
  have q1_1_w2 : World.cell? w2 ⟨w.heap.size + 1, 1, none⟩ = some (.string (⟨a.text.toArray⟩ : ByteArray)) := Blk.cell B1_w2 1
  have q1_2_w2 : World.cell? w2 ⟨w.heap.size + 1, 2, none⟩ = some (.int .i64 a.cols) := Blk.cell B1_w2 2
  have q1_3_w2 : World.cell? w2 ⟨w.heap.size + 1, 3, none⟩ = some (.slice (some ⟨gx, ox, none⟩) 1 cax) := Blk.cell B1_w2 3
  clear xa0_w1 xa1_w1 xa2_w1 xa3_w1 xb0_w1 xb1_w1 xb2_w1 xb3_w1 xx0_w1 xx1_w1 xx2_w1 xx3_w1
  have xa0_w2 : World.cell? w2 ⟨g, o, none⟩ = some (.int .i64 a.kind) := Low.cell (PSt.low PSTw2.out) XA0.out
  have xa1_w2 : World.cell? w2 ⟨g, o + 1, none⟩ = some (.string (⟨a.text.toArray⟩ : ByteArray)) := Low.cell (PSt.low PSTw2.out) XA1.out
  have xa2_w2 : World.cell? w2 ⟨g, o + 2, none⟩ = some (.int .i64 a.cols) := Low.cell (PSt.low PSTw2.out) XA2.out
  have xa3_w2 : World.cell? w2 ⟨g, o + 3, none⟩ = some (.slice (some ⟨gx, ox, none⟩) 1 cax) := Low.cell (PSt.low PSTw2.out) XA3.out
  have xb0_w2 : World.cell? w2 ⟨g, o + 4, none⟩ = some (.int .i64 b.kind) := Low.cell (PSt.low PSTw2.out) XB0.out
  have xb1_w2 : World.cell? w2 ⟨g, o + 4 + 1, none⟩ = some (.string (⟨b.text.toArray⟩ : ByteArray)) := Low.cell (PSt.low PSTw2.out) XB1.out
  have xb2_w2 : World.cell? w2 ⟨g, o + 4 + 2, none⟩ = some (.int .i64 b.cols) := Low.cell (PSt.low PSTw2.out) XB2.out
  have xb3_w2 : World.cell? w2 ⟨g, o + 4 + 3, none⟩ = some (sb) := Low.cell (PSt.low PSTw2.out) XB3.out
  have xx0_w2 : World.cell? w2 ⟨gx, ox, none⟩ = some (.int .i64 x.kind) := Low.cell (PSt.low PSTw2.out) XX0.out
  have xx1_w2 : World.cell? w2 ⟨gx, ox + 1, none⟩ = some (.string (⟨x.text.toArray⟩ : ByteArray)) := Low.cell (PSt.low PSTw2.out) XX1.out
  have xx2_w2 : World.cell? w2 ⟨gx, ox + 2, none⟩ = some (.int .i64 x.cols) := Low.cell (PSt.low PSTw2.out) XX2.out
  have xx3_w2 : World.cell? w2 ⟨gx, ox + 3, none⟩ = some (sx) := Low.cell (PSt.low PSTw2.out) XX3.out
  have hlt_g_w2 : g < w2.heap.size := block_lt_of_cell xa0_w2
  have hlt_gx_w2 : gx < w2.heap.size := block_lt_of_cell xx0_w2
  clear htw2
  go_wp2_with fail
  refine Calls.mono ((mark_em W0 p B [95]) _ _ _ (PSt.fresh PSTw2.out (by first | exact (Touch.refl _ _) | exact (Touch.refl _ _).alloc _ | exact ((Touch.refl _ _).alloc _).alloc _ | exact (((Touch.refl _ _).alloc _).alloc _).alloc _ | exact (Touch.refl _ _).drewN _ | exact ((Touch.refl _ _).alloc _).drewN _ | exact (((Touch.refl _ _).alloc _).alloc _).drewN _)) FITw2.out.left) ?_
  rintro _ w3 ⟨rfl, htw3⟩
  have PSTw3 := hid (PSt.add2 (PSt.fresh PSTw2.out (by first | exact (Touch.refl _ _) | exact (Touch.refl _ _).alloc _ | exact ((Touch.refl _ _).alloc _).alloc _ | exact (((Touch.refl _ _).alloc _).alloc _).alloc _ | exact (Touch.refl _ _).drewN _ | exact ((Touch.refl _ _).alloc _).drewN _ | exact (((Touch.refl _ _).alloc _).alloc _).drewN _)) htw3)
  have ACCw3 := hid (PrAdd.app ACCw2.out (PrAdd.freshL (show Fresh w2 _ from (by first | exact (Touch.refl _ _) | exact (Touch.refl _ _).alloc _ | exact ((Touch.refl _ _).alloc _).alloc _ | exact (((Touch.refl _ _).alloc _).alloc _).alloc _ | exact (Touch.refl _ _).drewN _ | exact ((Touch.refl _ _).alloc _).drewN _ | exact (((Touch.refl _ _).alloc _).alloc _).drewN _)) htw3))
  have FITw3 := hid (Fits.right2 FITw2.out)
  have B0_w3 : Blk w3 (w.heap.size) 24 #[.int .i64 (7 : Int), tx, cl, .slice (some ⟨g, o, none⟩) 2 cap] := PrAdd.blk htw3 (by first | exact Blk.new _ _ _ | exact (Blk.new _ _ _).alloc _ | exact Blk.new2 _ _ _ _ | exact ((Blk.new _ _ _).alloc _).alloc _ | exact (Blk.new2 _ _ _ _).alloc _ | exact Blk.new3 _ _ _ _ _ | assumption | exact Blk.alloc (by assumption) _ | exact (Blk.alloc (Blk.alloc (by assumption) _) _)) (by have := PSt.lt PST0.out; have := PSt.hB PST0.out; omega) (by decide) (by decide)
  have B1_w3 : Blk w3 (w.heap.size + 1) 24 #[.int .i64 a.kind, .string (⟨a.text.toArray⟩ : ByteArray), .int .i64 a.cols, .slice (some ⟨gx, ox, none⟩) 1 cax] := PrAdd.blk htw3 (by first | exact Blk.new _ _ _ | exact (Blk.new _ _ _).alloc _ | exact Blk.new2 _ _ _ _ | exact ((Blk.new _ _ _).alloc _).alloc _ | exact (Blk.new2 _ _ _ _).alloc _ | exact Blk.new3 _ _ _ _ _ | assumption | exact Blk.alloc (by assumption) _ | exact (Blk.alloc (Blk.alloc (by assumption) _) _)) (by have := PSt.lt PST0.out; have := PSt.hB PST0.out; omega) (by decide) (by decide)
  clear q0_0_w2 q0_1_w2 q0_2_w2 q0_3_w2 B0_w2 q1_0_w2 q1_1_w2 q1_2_w2 q1_3_w2 B1_w2
  have q0_0_w3 : World.cell? w3 ⟨w.heap.size, 0, none⟩ = some (.int .i64 (7 : Int)) := Blk.cell B0_w3 0
  have q0_1_w3 : World.cell? w3 ⟨w.heap.size, 1, none⟩ = some (tx) := Blk.cell B0_w3 1
  have q0_2_w3 : World.cell? w3 ⟨w.heap.size, 2, none⟩ = some (cl) := Blk.cell B0_w3 2
  have q0_3_w3 : World.cell? w3 ⟨w.heap.size, 3, none⟩ = some (.slice (some ⟨g, o, none⟩) 2 cap) := Blk.cell B0_w3 3
  have q1_0_w3 : World.cell? w3 ⟨w.heap.size + 1, 0, none⟩ = some (.int .i64 a.kind) := Blk.cell B1_w3 0
  have q1_1_w3 : World.cell? w3 ⟨w.heap.size + 1, 1, none⟩ = some (.string (⟨a.text.toArray⟩ : ByteArray)) := Blk.cell B1_w3 1
  have q1_2_w3 : World.cell? w3 ⟨w.heap.size + 1, 2, none⟩ = some (.int .i64 a.cols) := Blk.cell B1_w3 2
  have q1_3_w3 : World.cell? w3 ⟨w.heap.size + 1, 3, none⟩ = some (.slice (some ⟨gx, ox, none⟩) 1 cax) := Blk.cell B1_w3 3
  clear xa0_w2 xa1_w2 xa2_w2 xa3_w2 xb0_w2 xb1_w2 xb2_w2 xb3_w2 xx0_w2 xx1_w2 xx2_w2 xx3_w2
  have xa0_w3 : World.cell? w3 ⟨g, o, none⟩ = some (.int .i64 a.kind) := Low.cell (PSt.low PSTw3.out) XA0.out
  have xa1_w3 : World.cell? w3 ⟨g, o + 1, none⟩ = some (.string (⟨a.text.toArray⟩ : ByteArray)) := Low.cell (PSt.low PSTw3.out) XA1.out
  have xa2_w3 : World.cell? w3 ⟨g, o + 2, none⟩ = some (.int .i64 a.cols) := Low.cell (PSt.low PSTw3.out) XA2.out
  have xa3_w3 : World.cell? w3 ⟨g, o + 3, none⟩ = some (.slice (some ⟨gx, ox, none⟩) 1 cax) := Low.cell (PSt.low PSTw3.out) XA3.out
  have xb0_w3 : World.cell? w3 ⟨g, o + 4, none⟩ = some (.int .i64 b.kind) := Low.cell (PSt.low PSTw3.out) XB0.out
  have xb1_w3 : World.cell? w3 ⟨g, o + 4 + 1, none⟩ = some (.string (⟨b.text.toArray⟩ : ByteArray)) := Low.cell (PSt.low PSTw3.out) XB1.out
  have xb2_w3 : World.cell? w3 ⟨g, o + 4 + 2, none⟩ = some (.int .i64 b.cols) := Low.cell (PSt.low PSTw3.out) XB2.out
  have xb3_w3 : World.cell? w3 ⟨g, o + 4 + 3, none⟩ = some (sb) := Low.cell (PSt.low PSTw3.out) XB3.out
  have xx0_w3 : World.cell? w3 ⟨gx, ox, none⟩ = some (.int .i64 x.kind) := Low.cell (PSt.low PSTw3.out) XX0.out
  have xx1_w3 : World.cell? w3 ⟨gx, ox + 1, none⟩ = some (.string (⟨x.text.toArray⟩ : ByteArray)) := Low.cell (PSt.low PSTw3.out) XX1.out
  have xx2_w3 : World.cell? w3 ⟨gx, ox + 2, none⟩ = some (.int .i64 x.cols) := Low.cell (PSt.low PSTw3.out) XX2.out
  have xx3_w3 : World.cell? w3 ⟨gx, ox + 3, none⟩ = some (sx) := Low.cell (PSt.low PSTw3.out) XX3.out
  have hlt_g_w3 : g < w3.heap.size := block_lt_of_cell xa0_w3
  have hlt_gx_w3 : gx < w3.heap.size := block_lt_of_cell xx0_w3
  clear htw3
  go_wp2_with fail
  refine Calls.mono ((ARGb.out) _ _ _ (PSt.fresh PSTw3.out (by first | exact (Touch.refl _ _) | exact (Touch.refl _ _).alloc _ | exact ((Touch.refl _ _).alloc _).alloc _ | exact (((Touch.refl _ _).alloc _).alloc _).alloc _ | exact (Touch.refl _ _).drewN _ | exact ((Touch.refl _ _).alloc _).drewN _ | exact (((Touch.refl _ _).alloc _).alloc _).drewN _)) FITw3.out) ?_
  rintro _ w4 ⟨rfl, htw4⟩
  have PSTw4 := hid (PSt.add2 (PSt.fresh PSTw3.out (by first | exact (Touch.refl _ _) | exact (Touch.refl _ _).alloc _ | exact ((Touch.refl _ _).alloc _).alloc _ | exact (((Touch.refl _ _).alloc _).alloc _).alloc _ | exact (Touch.refl _ _).drewN _ | exact ((Touch.refl _ _).alloc _).drewN _ | exact (((Touch.refl _ _).alloc _).alloc _).drewN _)) htw4)
  have ACCw4 := hid (PrAdd.app ACCw3.out (PrAdd.freshL (show Fresh w3 _ from (by first | exact (Touch.refl _ _) | exact (Touch.refl _ _).alloc _ | exact ((Touch.refl _ _).alloc _).alloc _ | exact (((Touch.refl _ _).alloc _).alloc _).alloc _ | exact (Touch.refl _ _).drewN _ | exact ((Touch.refl _ _).alloc _).drewN _ | exact (((Touch.refl _ _).alloc _).alloc _).drewN _)) htw4))
  have B0_w4 : Blk w4 (w.heap.size) 24 #[.int .i64 (7 : Int), tx, cl, .slice (some ⟨g, o, none⟩) 2 cap] := PrAdd.blk htw4 (by first | exact Blk.new _ _ _ | exact (Blk.new _ _ _).alloc _ | exact Blk.new2 _ _ _ _ | exact ((Blk.new _ _ _).alloc _).alloc _ | exact (Blk.new2 _ _ _ _).alloc _ | exact Blk.new3 _ _ _ _ _ | assumption | exact Blk.alloc (by assumption) _ | exact (Blk.alloc (Blk.alloc (by assumption) _) _)) (by have := PSt.lt PST0.out; have := PSt.hB PST0.out; omega) (by decide) (by decide)
  have B1_w4 : Blk w4 (w.heap.size + 1) 24 #[.int .i64 a.kind, .string (⟨a.text.toArray⟩ : ByteArray), .int .i64 a.cols, .slice (some ⟨gx, ox, none⟩) 1 cax] := PrAdd.blk htw4 (by first | exact Blk.new _ _ _ | exact (Blk.new _ _ _).alloc _ | exact Blk.new2 _ _ _ _ | exact ((Blk.new _ _ _).alloc _).alloc _ | exact (Blk.new2 _ _ _ _).alloc _ | exact Blk.new3 _ _ _ _ _ | assumption | exact Blk.alloc (by assumption) _ | exact (Blk.alloc (Blk.alloc (by assumption) _) _)) (by have := PSt.lt PST0.out; have := PSt.hB PST0.out; omega) (by decide) (by decide)
  clear q0_0_w3 q0_1_w3 q0_2_w3 q0_3_w3 B0_w3 q1_0_w3 q1_1_w3 q1_2_w3 q1_3_w3 B1_w3
  have q0_0_w4 : World.cell? w4 ⟨w.heap.size, 0, none⟩ = some (.int .i64 (7 : Int)) := Blk.cell B0_w4 0
  have q0_1_w4 : World.cell? w4 ⟨w.heap.size, 1, none⟩ = some (tx) := Blk.cell B0_w4 1
  have q0_2_w4 : World.cell? w4 ⟨w.heap.size, 2, none⟩ = some (cl) := Blk.cell B0_w4 2
  have q0_3_w4 : World.cell? w4 ⟨w.heap.size, 3, none⟩ = some (.slice (some ⟨g, o, none⟩) 2 cap) := Blk.cell B0_w4 3
  have q1_0_w4 : World.cell? w4 ⟨w.heap.size + 1, 0, none⟩ = some (.int .i64 a.kind) := Blk.cell B1_w4 0
  have q1_1_w4 : World.cell? w4 ⟨w.heap.size + 1, 1, none⟩ = some (.string (⟨a.text.toArray⟩ : ByteArray)) := Blk.cell B1_w4 1
  have q1_2_w4 : World.cell? w4 ⟨w.heap.size + 1, 2, none⟩ = some (.int .i64 a.cols) := Blk.cell B1_w4 2
  have q1_3_w4 : World.cell? w4 ⟨w.heap.size + 1, 3, none⟩ = some (.slice (some ⟨gx, ox, none⟩) 1 cax) := Blk.cell B1_w4 3
  clear xa0_w3 xa1_w3 xa2_w3 xa3_w3 xb0_w3 xb1_w3 xb2_w3 xb3_w3 xx0_w3 xx1_w3 xx2_w3 xx3_w3
  have xa0_w4 : World.cell? w4 ⟨g, o, none⟩ = some (.int .i64 a.kind) := Low.cell (PSt.low PSTw4.out) XA0.out
  have xa1_w4 : World.cell? w4 ⟨g, o + 1, none⟩ = some (.string (⟨a.text.toArray⟩ : ByteArray)) := Low.cell (PSt.low PSTw4.out) XA1.out
  have xa2_w4 : World.cell? w4 ⟨g, o + 2, none⟩ = some (.int .i64 a.cols) := Low.cell (PSt.low PSTw4.out) XA2.out
  have xa3_w4 : World.cell? w4 ⟨g, o + 3, none⟩ = some (.slice (some ⟨gx, ox, none⟩) 1 cax) := Low.cell (PSt.low PSTw4.out) XA3.out
  have xb0_w4 : World.cell? w4 ⟨g, o + 4, none⟩ = some (.int .i64 b.kind) := Low.cell (PSt.low PSTw4.out) XB0.out
  have xb1_w4 : World.cell? w4 ⟨g, o + 4 + 1, none⟩ = some (.string (⟨b.text.toArray⟩ : ByteArray)) := Low.cell (PSt.low PSTw4.out) XB1.out
  have xb2_w4 : World.cell? w4 ⟨g, o + 4 + 2, none⟩ = some (.int .i64 b.cols) := Low.cell (PSt.low PSTw4.out) XB2.out
  have xb3_w4 : World.cell? w4 ⟨g, o + 4 + 3, none⟩ = some (sb) := Low.cell (PSt.low PSTw4.out) XB3.out
  have xx0_w4 : World.cell? w4 ⟨gx, ox, none⟩ = some (.int .i64 x.kind) := Low.cell (PSt.low PSTw4.out) XX0.out
  have xx1_w4 : World.cell? w4 ⟨gx, ox + 1, none⟩ = some (.string (⟨x.text.toArray⟩ : ByteArray)) := Low.cell (PSt.low PSTw4.out) XX1.out
  have xx2_w4 : World.cell? w4 ⟨gx, ox + 2, none⟩ = some (.int .i64 x.cols) := Low.cell (PSt.low PSTw4.out) XX2.out
  have xx3_w4 : World.cell? w4 ⟨gx, ox + 3, none⟩ = some (sx) := Low.cell (PSt.low PSTw4.out) XX3.out
  have hlt_g_w4 : g < w4.heap.size := block_lt_of_cell xa0_w4
  have hlt_gx_w4 : gx < w4.heap.size := block_lt_of_cell xx0_w4
  clear htw4
  go_wp2_with fail
  first | go_end0 | refine bodyPost_ret (v := .tuple #[]) (results_none rfl _ _ _) rfl ?_
  exact ⟨rfl, PrAdd.cast ACCw4.out (by first | rfl | (simp only [List.append_assoc] <;> rfl))⟩

set_option maxRecDepth 100000 in
set_option maxHeartbeats 1000000 in
theorem scripts_7_item (W0 : World) (p B : Nat) (tx cl : Value) (a b : Nd) (x : Nd) (hx : a.kids = [x]) (hs : Tr.scripted x = true) (ha : GroupE W0 p B a) (hb : ArgE W0 p B b) (sl : Value) (hsl : RepL W0 [a, b] sl) : Emits 62 #[pp p, .agg #[.int .i64 7, tx, cl, sl]] W0 p B (baseT a ++ ([Tr.mk7 95] ++ argT b)) := by
  intro w toks txt hp hf
  rw [baseT_grp a x hx hs] at hf ⊢
  obtain ⟨g, o, cap, sa, sb, rfl, a0, a1, a2, a3, hra, b0, b1, b2, b3, hrb⟩ := hsl.two
  have GRPa := hid (ha sa hra)
  have ARGb := hid (hb sb hrb)
  rw [hx] at hra
  obtain ⟨gx, ox, cax, sx, rfl, x0, x1, x2, x3, hrx⟩ := hra.one
  have e1 : a.kids.length = 1 := by rw [hx]; rfl
  have HS := hid hs
  clear e1 hs hrx
  have PST0 := hid hp
  have FIT0 := hid hf
  clear hp hf ha hb hsl hra hrb hx
  have XA0 := hid a0
  have XA1 := hid a1
  have XA2 := hid a2
  have XA3 := hid a3
  have XB0 := hid b0
  have XB1 := hid b1
  have XB2 := hid b2
  have XB3 := hid b3
  have XX0 := hid x0
  have XX1 := hid x1
  have XX2 := hid x2
  have XX3 := hid x3
  clear a0 a1 a2 a3 b0 b1 b2 b3 x0 x1 x2 x3
  have xa0_w : World.cell? w ⟨g, o, none⟩ = some (.int .i64 a.kind) := Low.cell (PSt.low PST0.out) XA0.out
  have xa1_w : World.cell? w ⟨g, o + 1, none⟩ = some (.string (⟨a.text.toArray⟩ : ByteArray)) := Low.cell (PSt.low PST0.out) XA1.out
  have xa2_w : World.cell? w ⟨g, o + 2, none⟩ = some (.int .i64 a.cols) := Low.cell (PSt.low PST0.out) XA2.out
  have xa3_w : World.cell? w ⟨g, o + 3, none⟩ = some (.slice (some ⟨gx, ox, none⟩) 1 cax) := Low.cell (PSt.low PST0.out) XA3.out
  have xb0_w : World.cell? w ⟨g, o + 4, none⟩ = some (.int .i64 b.kind) := Low.cell (PSt.low PST0.out) XB0.out
  have xb1_w : World.cell? w ⟨g, o + 4 + 1, none⟩ = some (.string (⟨b.text.toArray⟩ : ByteArray)) := Low.cell (PSt.low PST0.out) XB1.out
  have xb2_w : World.cell? w ⟨g, o + 4 + 2, none⟩ = some (.int .i64 b.cols) := Low.cell (PSt.low PST0.out) XB2.out
  have xb3_w : World.cell? w ⟨g, o + 4 + 3, none⟩ = some (sb) := Low.cell (PSt.low PST0.out) XB3.out
  have xx0_w : World.cell? w ⟨gx, ox, none⟩ = some (.int .i64 x.kind) := Low.cell (PSt.low PST0.out) XX0.out
  have xx1_w : World.cell? w ⟨gx, ox + 1, none⟩ = some (.string (⟨x.text.toArray⟩ : ByteArray)) := Low.cell (PSt.low PST0.out) XX1.out
  have xx2_w : World.cell? w ⟨gx, ox + 2, none⟩ = some (.int .i64 x.cols) := Low.cell (PSt.low PST0.out) XX2.out
  have xx3_w : World.cell? w ⟨gx, ox + 3, none⟩ = some (sx) := Low.cell (PSt.low PST0.out) XX3.out
  have hlt_g_w : g < w.heap.size := block_lt_of_cell xa0_w
  have hlt_gx_w : gx < w.heap.size := block_lt_of_cell xx0_w
  go_enter Try.func62, Try.ntmps62
  go_wp2_with fail
  refine Calls.mono (scripted_is x _ _ HS.out) ?_
  rintro _ w1 ⟨rfl, hfw1⟩
  have HF1 := hid (show Fresh w w1 from by first | exact hfw1 | exact Touch.pre hfw1 | exact Touch.pre (Touch.pre hfw1) | exact Touch.ofN hfw1 | exact Touch.preN hfw1 | exact Touch.pre (Touch.pre (Touch.pre hfw1)))
  have B0_w1 : Blk w1 (w.heap.size) 24 #[.int .i64 (7 : Int), tx, cl, .slice (some ⟨g, o, none⟩) 2 cap] := Touch.blk hfw1 (by first | exact Blk.new _ _ _ | exact (Blk.new _ _ _).alloc _ | exact Blk.new2 _ _ _ _ | exact ((Blk.new _ _ _).alloc _).alloc _ | exact (Blk.new2 _ _ _ _).alloc _ | exact Blk.new3 _ _ _ _ _ | assumption | exact Blk.alloc (by assumption) _ | exact (Blk.alloc (Blk.alloc (by assumption) _) _)) (fun h => h)
  have B1_w1 : Blk w1 (w.heap.size + 1) 24 #[.int .i64 a.kind, .string (⟨a.text.toArray⟩ : ByteArray), .int .i64 a.cols, .slice (some ⟨gx, ox, none⟩) 1 cax] := Touch.blk hfw1 (by first | exact Blk.new _ _ _ | exact (Blk.new _ _ _).alloc _ | exact Blk.new2 _ _ _ _ | exact ((Blk.new _ _ _).alloc _).alloc _ | exact (Blk.new2 _ _ _ _).alloc _ | exact Blk.new3 _ _ _ _ _ | assumption | exact Blk.alloc (by assumption) _ | exact (Blk.alloc (Blk.alloc (by assumption) _) _)) (fun h => h)
  have q0_0_w1 : World.cell? w1 ⟨w.heap.size, 0, none⟩ = some (.int .i64 (7 : Int)) := Blk.cell B0_w1 0
  have q0_1_w1 : World.cell? w1 ⟨w.heap.size, 1, none⟩ = some (tx) := Blk.cell B0_w1 1
  have q0_2_w1 : World.cell? w1 ⟨w.heap.size, 2, none⟩ = some (cl) := Blk.cell B0_w1 2
  have q0_3_w1 : World.cell? w1 ⟨w.heap.size, 3, none⟩ = some (.slice (some ⟨g, o, none⟩) 2 cap) := Blk.cell B0_w1 3
  have q1_0_w1 : World.cell? w1 ⟨w.heap.size + 1, 0, none⟩ = some (.int .i64 a.kind) := Blk.cell B1_w1 0
  have q1_1_w1 : World.cell? w1 ⟨w.heap.size + 1, 1, none⟩ = some (.string (⟨a.text.toArray⟩ : ByteArray)) := Blk.cell B1_w1 1
  have q1_2_w1 : World.cell? w1 ⟨w.heap.size + 1, 2, none⟩ = some (.int .i64 a.cols) := Blk.cell B1_w1 2
  have q1_3_w1 : World.cell? w1 ⟨w.heap.size + 1, 3, none⟩ = some (.slice (some ⟨gx, ox, none⟩) 1 cax) := Blk.cell B1_w1 3
  have xa0_w1 : World.cell? w1 ⟨g, o, none⟩ = some (.int .i64 a.kind) := Touch.cell HF1.out xa0_w (fun h => h)
  have xa1_w1 : World.cell? w1 ⟨g, o + 1, none⟩ = some (.string (⟨a.text.toArray⟩ : ByteArray)) := Touch.cell HF1.out xa1_w (fun h => h)
  have xa2_w1 : World.cell? w1 ⟨g, o + 2, none⟩ = some (.int .i64 a.cols) := Touch.cell HF1.out xa2_w (fun h => h)
  have xa3_w1 : World.cell? w1 ⟨g, o + 3, none⟩ = some (.slice (some ⟨gx, ox, none⟩) 1 cax) := Touch.cell HF1.out xa3_w (fun h => h)
  have xb0_w1 : World.cell? w1 ⟨g, o + 4, none⟩ = some (.int .i64 b.kind) := Touch.cell HF1.out xb0_w (fun h => h)
  have xb1_w1 : World.cell? w1 ⟨g, o + 4 + 1, none⟩ = some (.string (⟨b.text.toArray⟩ : ByteArray)) := Touch.cell HF1.out xb1_w (fun h => h)
  have xb2_w1 : World.cell? w1 ⟨g, o + 4 + 2, none⟩ = some (.int .i64 b.cols) := Touch.cell HF1.out xb2_w (fun h => h)
  have xb3_w1 : World.cell? w1 ⟨g, o + 4 + 3, none⟩ = some (sb) := Touch.cell HF1.out xb3_w (fun h => h)
  have xx0_w1 : World.cell? w1 ⟨gx, ox, none⟩ = some (.int .i64 x.kind) := Touch.cell HF1.out xx0_w (fun h => h)
  have xx1_w1 : World.cell? w1 ⟨gx, ox + 1, none⟩ = some (.string (⟨x.text.toArray⟩ : ByteArray)) := Touch.cell HF1.out xx1_w (fun h => h)
  have xx2_w1 : World.cell? w1 ⟨gx, ox + 2, none⟩ = some (.int .i64 x.cols) := Touch.cell HF1.out xx2_w (fun h => h)
  have xx3_w1 : World.cell? w1 ⟨gx, ox + 3, none⟩ = some (sx) := Touch.cell HF1.out xx3_w (fun h => h)
  clear xa0_w xa1_w xa2_w xa3_w xb0_w xb1_w xb2_w xb3_w xx0_w xx1_w xx2_w xx3_w
  have hlt_g_w1 : g < w1.heap.size := block_lt_of_cell xa0_w1
  have hlt_gx_w1 : gx < w1.heap.size := block_lt_of_cell xx0_w1
  have PSTw1 := hid (PSt.fresh PST0.out HF1.out)
  clear hfw1
  go_wp2_with fail
  refine Calls.mono ((GRPa.out) _ _ _ (PSt.fresh PSTw1.out (by first | exact (Touch.refl _ _) | exact (Touch.refl _ _).alloc _ | exact ((Touch.refl _ _).alloc _).alloc _ | exact (((Touch.refl _ _).alloc _).alloc _).alloc _ | exact (Touch.refl _ _).drewN _ | exact ((Touch.refl _ _).alloc _).drewN _ | exact (((Touch.refl _ _).alloc _).alloc _).drewN _)) FIT0.out.left) ?_
  rintro _ w2 ⟨rfl, htw2⟩
  have PSTw2 := hid (PSt.add (PSt.fresh PSTw1.out (by first | exact (Touch.refl _ _) | exact (Touch.refl _ _).alloc _ | exact ((Touch.refl _ _).alloc _).alloc _ | exact (((Touch.refl _ _).alloc _).alloc _).alloc _ | exact (Touch.refl _ _).drewN _ | exact ((Touch.refl _ _).alloc _).drewN _ | exact (((Touch.refl _ _).alloc _).alloc _).drewN _)) htw2)
  have ACCw2 := hid (PrAdd.freshL (show Fresh w _ from (by first | exact HF1.out | exact HF1.out.alloc _ | exact (HF1.out.alloc _).alloc _ | exact ((HF1.out.alloc _).alloc _).alloc _ | exact HF1.out.drewN _ | exact (HF1.out.alloc _).drewN _ | exact ((HF1.out.alloc _).alloc _).drewN _)) htw2)
  have FITw2 := hid (Fits.right FIT0.out)
  have B0_w2 : Blk w2 (w.heap.size) 24 #[.int .i64 (7 : Int), tx, cl, .slice (some ⟨g, o, none⟩) 2 cap] := PrAdd.blk htw2 (by first | exact Blk.new _ _ _ | exact (Blk.new _ _ _).alloc _ | exact Blk.new2 _ _ _ _ | exact ((Blk.new _ _ _).alloc _).alloc _ | exact (Blk.new2 _ _ _ _).alloc _ | exact Blk.new3 _ _ _ _ _ | assumption | exact Blk.alloc (by assumption) _ | exact (Blk.alloc (Blk.alloc (by assumption) _) _)) (by have := PSt.lt PST0.out; have := PSt.hB PST0.out; omega) (by decide) (by decide)
  have B1_w2 : Blk w2 (w.heap.size + 1) 24 #[.int .i64 a.kind, .string (⟨a.text.toArray⟩ : ByteArray), .int .i64 a.cols, .slice (some ⟨gx, ox, none⟩) 1 cax] := PrAdd.blk htw2 (by first | exact Blk.new _ _ _ | exact (Blk.new _ _ _).alloc _ | exact Blk.new2 _ _ _ _ | exact ((Blk.new _ _ _).alloc _).alloc _ | exact (Blk.new2 _ _ _ _).alloc _ | exact Blk.new3 _ _ _ _ _ | assumption | exact Blk.alloc (by assumption) _ | exact (Blk.alloc (Blk.alloc (by assumption) _) _)) (by have := PSt.lt PST0.out; have := PSt.hB PST0.out; omega) (by decide) (by decide)
  clear q0_0_w1 q0_1_w1 q0_2_w1 q0_3_w1 B0_w1 q1_0_w1 q1_1_w1 q1_2_w1 q1_3_w1 B1_w1
  have q0_0_w2 : World.cell? w2 ⟨w.heap.size, 0, none⟩ = some (.int .i64 (7 : Int)) := Blk.cell B0_w2 0
  have q0_1_w2 : World.cell? w2 ⟨w.heap.size, 1, none⟩ = some (tx) := Blk.cell B0_w2 1
  have q0_2_w2 : World.cell? w2 ⟨w.heap.size, 2, none⟩ = some (cl) := Blk.cell B0_w2 2
  have q0_3_w2 : World.cell? w2 ⟨w.heap.size, 3, none⟩ = some (.slice (some ⟨g, o, none⟩) 2 cap) := Blk.cell B0_w2 3
  have q1_0_w2 : World.cell? w2 ⟨w.heap.size + 1, 0, none⟩ = some (.int .i64 a.kind) := Blk.cell B1_w2 0
  have q1_1_w2 : World.cell? w2 ⟨w.heap.size + 1, 1, none⟩ = some (.string (⟨a.text.toArray⟩ : ByteArray)) := Blk.cell B1_w2 1
  have q1_2_w2 : World.cell? w2 ⟨w.heap.size + 1, 2, none⟩ = some (.int .i64 a.cols) := Blk.cell B1_w2 2
  have q1_3_w2 : World.cell? w2 ⟨w.heap.size + 1, 3, none⟩ = some (.slice (some ⟨gx, ox, none⟩) 1 cax) := Blk.cell B1_w2 3
  clear xa0_w1 xa1_w1 xa2_w1 xa3_w1 xb0_w1 xb1_w1 xb2_w1 xb3_w1 xx0_w1 xx1_w1 xx2_w1 xx3_w1
  have xa0_w2 : World.cell? w2 ⟨g, o, none⟩ = some (.int .i64 a.kind) := Low.cell (PSt.low PSTw2.out) XA0.out
  have xa1_w2 : World.cell? w2 ⟨g, o + 1, none⟩ = some (.string (⟨a.text.toArray⟩ : ByteArray)) := Low.cell (PSt.low PSTw2.out) XA1.out
  have xa2_w2 : World.cell? w2 ⟨g, o + 2, none⟩ = some (.int .i64 a.cols) := Low.cell (PSt.low PSTw2.out) XA2.out
  have xa3_w2 : World.cell? w2 ⟨g, o + 3, none⟩ = some (.slice (some ⟨gx, ox, none⟩) 1 cax) := Low.cell (PSt.low PSTw2.out) XA3.out
  have xb0_w2 : World.cell? w2 ⟨g, o + 4, none⟩ = some (.int .i64 b.kind) := Low.cell (PSt.low PSTw2.out) XB0.out
  have xb1_w2 : World.cell? w2 ⟨g, o + 4 + 1, none⟩ = some (.string (⟨b.text.toArray⟩ : ByteArray)) := Low.cell (PSt.low PSTw2.out) XB1.out
  have xb2_w2 : World.cell? w2 ⟨g, o + 4 + 2, none⟩ = some (.int .i64 b.cols) := Low.cell (PSt.low PSTw2.out) XB2.out
  have xb3_w2 : World.cell? w2 ⟨g, o + 4 + 3, none⟩ = some (sb) := Low.cell (PSt.low PSTw2.out) XB3.out
  have xx0_w2 : World.cell? w2 ⟨gx, ox, none⟩ = some (.int .i64 x.kind) := Low.cell (PSt.low PSTw2.out) XX0.out
  have xx1_w2 : World.cell? w2 ⟨gx, ox + 1, none⟩ = some (.string (⟨x.text.toArray⟩ : ByteArray)) := Low.cell (PSt.low PSTw2.out) XX1.out
  have xx2_w2 : World.cell? w2 ⟨gx, ox + 2, none⟩ = some (.int .i64 x.cols) := Low.cell (PSt.low PSTw2.out) XX2.out
  have xx3_w2 : World.cell? w2 ⟨gx, ox + 3, none⟩ = some (sx) := Low.cell (PSt.low PSTw2.out) XX3.out
  have hlt_g_w2 : g < w2.heap.size := block_lt_of_cell xa0_w2
  have hlt_gx_w2 : gx < w2.heap.size := block_lt_of_cell xx0_w2
  clear htw2
  go_wp2_with fail
  refine Calls.mono ((mark_em W0 p B [95]) _ _ _ (PSt.fresh PSTw2.out (by first | exact (Touch.refl _ _) | exact (Touch.refl _ _).alloc _ | exact ((Touch.refl _ _).alloc _).alloc _ | exact (((Touch.refl _ _).alloc _).alloc _).alloc _ | exact (Touch.refl _ _).drewN _ | exact ((Touch.refl _ _).alloc _).drewN _ | exact (((Touch.refl _ _).alloc _).alloc _).drewN _)) FITw2.out.left) ?_
  rintro _ w3 ⟨rfl, htw3⟩
  have PSTw3 := hid (PSt.add2 (PSt.fresh PSTw2.out (by first | exact (Touch.refl _ _) | exact (Touch.refl _ _).alloc _ | exact ((Touch.refl _ _).alloc _).alloc _ | exact (((Touch.refl _ _).alloc _).alloc _).alloc _ | exact (Touch.refl _ _).drewN _ | exact ((Touch.refl _ _).alloc _).drewN _ | exact (((Touch.refl _ _).alloc _).alloc _).drewN _)) htw3)
  have ACCw3 := hid (PrAdd.app ACCw2.out (PrAdd.freshL (show Fresh w2 _ from (by first | exact (Touch.refl _ _) | exact (Touch.refl _ _).alloc _ | exact ((Touch.refl _ _).alloc _).alloc _ | exact (((Touch.refl _ _).alloc _).alloc _).alloc _ | exact (Touch.refl _ _).drewN _ | exact ((Touch.refl _ _).alloc _).drewN _ | exact (((Touch.refl _ _).alloc _).alloc _).drewN _)) htw3))
  have FITw3 := hid (Fits.right2 FITw2.out)
  have B0_w3 : Blk w3 (w.heap.size) 24 #[.int .i64 (7 : Int), tx, cl, .slice (some ⟨g, o, none⟩) 2 cap] := PrAdd.blk htw3 (by first | exact Blk.new _ _ _ | exact (Blk.new _ _ _).alloc _ | exact Blk.new2 _ _ _ _ | exact ((Blk.new _ _ _).alloc _).alloc _ | exact (Blk.new2 _ _ _ _).alloc _ | exact Blk.new3 _ _ _ _ _ | assumption | exact Blk.alloc (by assumption) _ | exact (Blk.alloc (Blk.alloc (by assumption) _) _)) (by have := PSt.lt PST0.out; have := PSt.hB PST0.out; omega) (by decide) (by decide)
  have B1_w3 : Blk w3 (w.heap.size + 1) 24 #[.int .i64 a.kind, .string (⟨a.text.toArray⟩ : ByteArray), .int .i64 a.cols, .slice (some ⟨gx, ox, none⟩) 1 cax] := PrAdd.blk htw3 (by first | exact Blk.new _ _ _ | exact (Blk.new _ _ _).alloc _ | exact Blk.new2 _ _ _ _ | exact ((Blk.new _ _ _).alloc _).alloc _ | exact (Blk.new2 _ _ _ _).alloc _ | exact Blk.new3 _ _ _ _ _ | assumption | exact Blk.alloc (by assumption) _ | exact (Blk.alloc (Blk.alloc (by assumption) _) _)) (by have := PSt.lt PST0.out; have := PSt.hB PST0.out; omega) (by decide) (by decide)
  clear q0_0_w2 q0_1_w2 q0_2_w2 q0_3_w2 B0_w2 q1_0_w2 q1_1_w2 q1_2_w2 q1_3_w2 B1_w2
  have q0_0_w3 : World.cell? w3 ⟨w.heap.size, 0, none⟩ = some (.int .i64 (7 : Int)) := Blk.cell B0_w3 0
  have q0_1_w3 : World.cell? w3 ⟨w.heap.size, 1, none⟩ = some (tx) := Blk.cell B0_w3 1
  have q0_2_w3 : World.cell? w3 ⟨w.heap.size, 2, none⟩ = some (cl) := Blk.cell B0_w3 2
  have q0_3_w3 : World.cell? w3 ⟨w.heap.size, 3, none⟩ = some (.slice (some ⟨g, o, none⟩) 2 cap) := Blk.cell B0_w3 3
  have q1_0_w3 : World.cell? w3 ⟨w.heap.size + 1, 0, none⟩ = some (.int .i64 a.kind) := Blk.cell B1_w3 0
  have q1_1_w3 : World.cell? w3 ⟨w.heap.size + 1, 1, none⟩ = some (.string (⟨a.text.toArray⟩ : ByteArray)) := Blk.cell B1_w3 1
  have q1_2_w3 : World.cell? w3 ⟨w.heap.size + 1, 2, none⟩ = some (.int .i64 a.cols) := Blk.cell B1_w3 2
  have q1_3_w3 : World.cell? w3 ⟨w.heap.size + 1, 3, none⟩ = some (.slice (some ⟨gx, ox, none⟩) 1 cax) := Blk.cell B1_w3 3
  clear xa0_w2 xa1_w2 xa2_w2 xa3_w2 xb0_w2 xb1_w2 xb2_w2 xb3_w2 xx0_w2 xx1_w2 xx2_w2 xx3_w2
  have xa0_w3 : World.cell? w3 ⟨g, o, none⟩ = some (.int .i64 a.kind) := Low.cell (PSt.low PSTw3.out) XA0.out
  have xa1_w3 : World.cell? w3 ⟨g, o + 1, none⟩ = some (.string (⟨a.text.toArray⟩ : ByteArray)) := Low.cell (PSt.low PSTw3.out) XA1.out
  have xa2_w3 : World.cell? w3 ⟨g, o + 2, none⟩ = some (.int .i64 a.cols) := Low.cell (PSt.low PSTw3.out) XA2.out
  have xa3_w3 : World.cell? w3 ⟨g, o + 3, none⟩ = some (.slice (some ⟨gx, ox, none⟩) 1 cax) := Low.cell (PSt.low PSTw3.out) XA3.out
  have xb0_w3 : World.cell? w3 ⟨g, o + 4, none⟩ = some (.int .i64 b.kind) := Low.cell (PSt.low PSTw3.out) XB0.out
  have xb1_w3 : World.cell? w3 ⟨g, o + 4 + 1, none⟩ = some (.string (⟨b.text.toArray⟩ : ByteArray)) := Low.cell (PSt.low PSTw3.out) XB1.out
  have xb2_w3 : World.cell? w3 ⟨g, o + 4 + 2, none⟩ = some (.int .i64 b.cols) := Low.cell (PSt.low PSTw3.out) XB2.out
  have xb3_w3 : World.cell? w3 ⟨g, o + 4 + 3, none⟩ = some (sb) := Low.cell (PSt.low PSTw3.out) XB3.out
  have xx0_w3 : World.cell? w3 ⟨gx, ox, none⟩ = some (.int .i64 x.kind) := Low.cell (PSt.low PSTw3.out) XX0.out
  have xx1_w3 : World.cell? w3 ⟨gx, ox + 1, none⟩ = some (.string (⟨x.text.toArray⟩ : ByteArray)) := Low.cell (PSt.low PSTw3.out) XX1.out
  have xx2_w3 : World.cell? w3 ⟨gx, ox + 2, none⟩ = some (.int .i64 x.cols) := Low.cell (PSt.low PSTw3.out) XX2.out
  have xx3_w3 : World.cell? w3 ⟨gx, ox + 3, none⟩ = some (sx) := Low.cell (PSt.low PSTw3.out) XX3.out
  have hlt_g_w3 : g < w3.heap.size := block_lt_of_cell xa0_w3
  have hlt_gx_w3 : gx < w3.heap.size := block_lt_of_cell xx0_w3
  clear htw3
  go_wp2_with fail
  refine Calls.mono ((ARGb.out) _ _ _ (PSt.fresh PSTw3.out (by first | exact (Touch.refl _ _) | exact (Touch.refl _ _).alloc _ | exact ((Touch.refl _ _).alloc _).alloc _ | exact (((Touch.refl _ _).alloc _).alloc _).alloc _ | exact (Touch.refl _ _).drewN _ | exact ((Touch.refl _ _).alloc _).drewN _ | exact (((Touch.refl _ _).alloc _).alloc _).drewN _)) FITw3.out) ?_
  rintro _ w4 ⟨rfl, htw4⟩
  have PSTw4 := hid (PSt.add2 (PSt.fresh PSTw3.out (by first | exact (Touch.refl _ _) | exact (Touch.refl _ _).alloc _ | exact ((Touch.refl _ _).alloc _).alloc _ | exact (((Touch.refl _ _).alloc _).alloc _).alloc _ | exact (Touch.refl _ _).drewN _ | exact ((Touch.refl _ _).alloc _).drewN _ | exact (((Touch.refl _ _).alloc _).alloc _).drewN _)) htw4)
  have ACCw4 := hid (PrAdd.app ACCw3.out (PrAdd.freshL (show Fresh w3 _ from (by first | exact (Touch.refl _ _) | exact (Touch.refl _ _).alloc _ | exact ((Touch.refl _ _).alloc _).alloc _ | exact (((Touch.refl _ _).alloc _).alloc _).alloc _ | exact (Touch.refl _ _).drewN _ | exact ((Touch.refl _ _).alloc _).drewN _ | exact (((Touch.refl _ _).alloc _).alloc _).drewN _)) htw4))
  have B0_w4 : Blk w4 (w.heap.size) 24 #[.int .i64 (7 : Int), tx, cl, .slice (some ⟨g, o, none⟩) 2 cap] := PrAdd.blk htw4 (by first | exact Blk.new _ _ _ | exact (Blk.new _ _ _).alloc _ | exact Blk.new2 _ _ _ _ | exact ((Blk.new _ _ _).alloc _).alloc _ | exact (Blk.new2 _ _ _ _).alloc _ | exact Blk.new3 _ _ _ _ _ | assumption | exact Blk.alloc (by assumption) _ | exact (Blk.alloc (Blk.alloc (by assumption) _) _)) (by have := PSt.lt PST0.out; have := PSt.hB PST0.out; omega) (by decide) (by decide)
  have B1_w4 : Blk w4 (w.heap.size + 1) 24 #[.int .i64 a.kind, .string (⟨a.text.toArray⟩ : ByteArray), .int .i64 a.cols, .slice (some ⟨gx, ox, none⟩) 1 cax] := PrAdd.blk htw4 (by first | exact Blk.new _ _ _ | exact (Blk.new _ _ _).alloc _ | exact Blk.new2 _ _ _ _ | exact ((Blk.new _ _ _).alloc _).alloc _ | exact (Blk.new2 _ _ _ _).alloc _ | exact Blk.new3 _ _ _ _ _ | assumption | exact Blk.alloc (by assumption) _ | exact (Blk.alloc (Blk.alloc (by assumption) _) _)) (by have := PSt.lt PST0.out; have := PSt.hB PST0.out; omega) (by decide) (by decide)
  clear q0_0_w3 q0_1_w3 q0_2_w3 q0_3_w3 B0_w3 q1_0_w3 q1_1_w3 q1_2_w3 q1_3_w3 B1_w3
  have q0_0_w4 : World.cell? w4 ⟨w.heap.size, 0, none⟩ = some (.int .i64 (7 : Int)) := Blk.cell B0_w4 0
  have q0_1_w4 : World.cell? w4 ⟨w.heap.size, 1, none⟩ = some (tx) := Blk.cell B0_w4 1
  have q0_2_w4 : World.cell? w4 ⟨w.heap.size, 2, none⟩ = some (cl) := Blk.cell B0_w4 2
  have q0_3_w4 : World.cell? w4 ⟨w.heap.size, 3, none⟩ = some (.slice (some ⟨g, o, none⟩) 2 cap) := Blk.cell B0_w4 3
  have q1_0_w4 : World.cell? w4 ⟨w.heap.size + 1, 0, none⟩ = some (.int .i64 a.kind) := Blk.cell B1_w4 0
  have q1_1_w4 : World.cell? w4 ⟨w.heap.size + 1, 1, none⟩ = some (.string (⟨a.text.toArray⟩ : ByteArray)) := Blk.cell B1_w4 1
  have q1_2_w4 : World.cell? w4 ⟨w.heap.size + 1, 2, none⟩ = some (.int .i64 a.cols) := Blk.cell B1_w4 2
  have q1_3_w4 : World.cell? w4 ⟨w.heap.size + 1, 3, none⟩ = some (.slice (some ⟨gx, ox, none⟩) 1 cax) := Blk.cell B1_w4 3
  clear xa0_w3 xa1_w3 xa2_w3 xa3_w3 xb0_w3 xb1_w3 xb2_w3 xb3_w3 xx0_w3 xx1_w3 xx2_w3 xx3_w3
  have xa0_w4 : World.cell? w4 ⟨g, o, none⟩ = some (.int .i64 a.kind) := Low.cell (PSt.low PSTw4.out) XA0.out
  have xa1_w4 : World.cell? w4 ⟨g, o + 1, none⟩ = some (.string (⟨a.text.toArray⟩ : ByteArray)) := Low.cell (PSt.low PSTw4.out) XA1.out
  have xa2_w4 : World.cell? w4 ⟨g, o + 2, none⟩ = some (.int .i64 a.cols) := Low.cell (PSt.low PSTw4.out) XA2.out
  have xa3_w4 : World.cell? w4 ⟨g, o + 3, none⟩ = some (.slice (some ⟨gx, ox, none⟩) 1 cax) := Low.cell (PSt.low PSTw4.out) XA3.out
  have xb0_w4 : World.cell? w4 ⟨g, o + 4, none⟩ = some (.int .i64 b.kind) := Low.cell (PSt.low PSTw4.out) XB0.out
  have xb1_w4 : World.cell? w4 ⟨g, o + 4 + 1, none⟩ = some (.string (⟨b.text.toArray⟩ : ByteArray)) := Low.cell (PSt.low PSTw4.out) XB1.out
  have xb2_w4 : World.cell? w4 ⟨g, o + 4 + 2, none⟩ = some (.int .i64 b.cols) := Low.cell (PSt.low PSTw4.out) XB2.out
  have xb3_w4 : World.cell? w4 ⟨g, o + 4 + 3, none⟩ = some (sb) := Low.cell (PSt.low PSTw4.out) XB3.out
  have xx0_w4 : World.cell? w4 ⟨gx, ox, none⟩ = some (.int .i64 x.kind) := Low.cell (PSt.low PSTw4.out) XX0.out
  have xx1_w4 : World.cell? w4 ⟨gx, ox + 1, none⟩ = some (.string (⟨x.text.toArray⟩ : ByteArray)) := Low.cell (PSt.low PSTw4.out) XX1.out
  have xx2_w4 : World.cell? w4 ⟨gx, ox + 2, none⟩ = some (.int .i64 x.cols) := Low.cell (PSt.low PSTw4.out) XX2.out
  have xx3_w4 : World.cell? w4 ⟨gx, ox + 3, none⟩ = some (sx) := Low.cell (PSt.low PSTw4.out) XX3.out
  have hlt_g_w4 : g < w4.heap.size := block_lt_of_cell xa0_w4
  have hlt_gx_w4 : gx < w4.heap.size := block_lt_of_cell xx0_w4
  clear htw4
  go_wp2_with fail
  first | go_end0 | refine bodyPost_ret (v := .tuple #[]) (results_none rfl _ _ _) rfl ?_
  exact ⟨rfl, PrAdd.cast ACCw4.out (by first | rfl | (simp only [List.append_assoc] <;> rfl))⟩

set_option maxRecDepth 100000 in
set_option maxHeartbeats 1000000 in
theorem scripts_7_len (W0 : World) (p B : Nat) (tx cl : Value) (a b : Nd) (hx : a.kids.length ≠ 1) (ha : GroupE W0 p B a) (hb : ArgE W0 p B b) (sl : Value) (hsl : RepL W0 [a, b] sl) : Emits 62 #[pp p, .agg #[.int .i64 7, tx, cl, sl]] W0 p B (baseT a ++ ([Tr.mk7 95] ++ argT b)) := by
  intro w toks txt hp hf
  rw [baseT_len1 a hx] at hf ⊢
  obtain ⟨g, o, cap, sa, sb, rfl, a0, a1, a2, a3, hra, b0, b1, b2, b3, hrb⟩ := hsl.two
  have GRPa := hid (ha sa hra)
  have ARGb := hid (hb sb hrb)
  obtain ⟨Aa, capa, rfl⟩ := hra.slice
  have f1 : ((a.kids.length : Int) == 1) = false := by simp only [beq_eq_false_iff_ne]; omega
  have f2 : ¬ (a.kids.length : Int) = 1 := by omega
  have PST0 := hid hp
  have FIT0 := hid hf
  clear hp hf ha hb hsl hra hrb hx
  have XA0 := hid a0
  have XA1 := hid a1
  have XA2 := hid a2
  have XA3 := hid a3
  have XB0 := hid b0
  have XB1 := hid b1
  have XB2 := hid b2
  have XB3 := hid b3
  clear a0 a1 a2 a3 b0 b1 b2 b3
  have xa0_w : World.cell? w ⟨g, o, none⟩ = some (.int .i64 a.kind) := Low.cell (PSt.low PST0.out) XA0.out
  have xa1_w : World.cell? w ⟨g, o + 1, none⟩ = some (.string (⟨a.text.toArray⟩ : ByteArray)) := Low.cell (PSt.low PST0.out) XA1.out
  have xa2_w : World.cell? w ⟨g, o + 2, none⟩ = some (.int .i64 a.cols) := Low.cell (PSt.low PST0.out) XA2.out
  have xa3_w : World.cell? w ⟨g, o + 3, none⟩ = some (.slice Aa a.kids.length capa) := Low.cell (PSt.low PST0.out) XA3.out
  have xb0_w : World.cell? w ⟨g, o + 4, none⟩ = some (.int .i64 b.kind) := Low.cell (PSt.low PST0.out) XB0.out
  have xb1_w : World.cell? w ⟨g, o + 4 + 1, none⟩ = some (.string (⟨b.text.toArray⟩ : ByteArray)) := Low.cell (PSt.low PST0.out) XB1.out
  have xb2_w : World.cell? w ⟨g, o + 4 + 2, none⟩ = some (.int .i64 b.cols) := Low.cell (PSt.low PST0.out) XB2.out
  have xb3_w : World.cell? w ⟨g, o + 4 + 3, none⟩ = some (sb) := Low.cell (PSt.low PST0.out) XB3.out
  have hlt_g_w : g < w.heap.size := block_lt_of_cell xa0_w
  go_enter Try.func62, Try.ntmps62
  go_wp2_with fail
  refine Calls.mono ((GRPa.out) _ _ _ (PSt.fresh PST0.out (by first | exact (Touch.refl _ _) | exact (Touch.refl _ _).alloc _ | exact ((Touch.refl _ _).alloc _).alloc _ | exact (((Touch.refl _ _).alloc _).alloc _).alloc _ | exact (Touch.refl _ _).drewN _ | exact ((Touch.refl _ _).alloc _).drewN _ | exact (((Touch.refl _ _).alloc _).alloc _).drewN _)) FIT0.out.left) ?_
  rintro _ w1 ⟨rfl, htw1⟩
  have PSTw1 := hid (PSt.add (PSt.fresh PST0.out (by first | exact (Touch.refl _ _) | exact (Touch.refl _ _).alloc _ | exact ((Touch.refl _ _).alloc _).alloc _ | exact (((Touch.refl _ _).alloc _).alloc _).alloc _ | exact (Touch.refl _ _).drewN _ | exact ((Touch.refl _ _).alloc _).drewN _ | exact (((Touch.refl _ _).alloc _).alloc _).drewN _)) htw1)
  have ACCw1 := hid (PrAdd.freshL (show Fresh w _ from (by first | exact (Touch.refl _ _) | exact (Touch.refl _ _).alloc _ | exact ((Touch.refl _ _).alloc _).alloc _ | exact (((Touch.refl _ _).alloc _).alloc _).alloc _ | exact (Touch.refl _ _).drewN _ | exact ((Touch.refl _ _).alloc _).drewN _ | exact (((Touch.refl _ _).alloc _).alloc _).drewN _)) htw1)
  have FITw1 := hid (Fits.right FIT0.out)
  have B0_w1 : Blk w1 (w.heap.size) 24 #[.int .i64 (7 : Int), tx, cl, .slice (some ⟨g, o, none⟩) 2 cap] := PrAdd.blk htw1 (by first | exact Blk.new _ _ _ | exact (Blk.new _ _ _).alloc _ | exact Blk.new2 _ _ _ _ | exact ((Blk.new _ _ _).alloc _).alloc _ | exact (Blk.new2 _ _ _ _).alloc _ | exact Blk.new3 _ _ _ _ _ | assumption | exact Blk.alloc (by assumption) _ | exact (Blk.alloc (Blk.alloc (by assumption) _) _)) (by have := PSt.lt PST0.out; have := PSt.hB PST0.out; omega) (by decide) (by decide)
  have B1_w1 : Blk w1 (w.heap.size + 1) 24 #[.int .i64 a.kind, .string (⟨a.text.toArray⟩ : ByteArray), .int .i64 a.cols, .slice Aa a.kids.length capa] := PrAdd.blk htw1 (by first | exact Blk.new _ _ _ | exact (Blk.new _ _ _).alloc _ | exact Blk.new2 _ _ _ _ | exact ((Blk.new _ _ _).alloc _).alloc _ | exact (Blk.new2 _ _ _ _).alloc _ | exact Blk.new3 _ _ _ _ _ | assumption | exact Blk.alloc (by assumption) _ | exact (Blk.alloc (Blk.alloc (by assumption) _) _)) (by have := PSt.lt PST0.out; have := PSt.hB PST0.out; omega) (by decide) (by decide)
  have q0_0_w1 : World.cell? w1 ⟨w.heap.size, 0, none⟩ = some (.int .i64 (7 : Int)) := Blk.cell B0_w1 0
  have q0_1_w1 : World.cell? w1 ⟨w.heap.size, 1, none⟩ = some (tx) := Blk.cell B0_w1 1
  have q0_2_w1 : World.cell? w1 ⟨w.heap.size, 2, none⟩ = some (cl) := Blk.cell B0_w1 2
  have q0_3_w1 : World.cell? w1 ⟨w.heap.size, 3, none⟩ = some (.slice (some ⟨g, o, none⟩) 2 cap) := Blk.cell B0_w1 3
  have q1_0_w1 : World.cell? w1 ⟨w.heap.size + 1, 0, none⟩ = some (.int .i64 a.kind) := Blk.cell B1_w1 0
  have q1_1_w1 : World.cell? w1 ⟨w.heap.size + 1, 1, none⟩ = some (.string (⟨a.text.toArray⟩ : ByteArray)) := Blk.cell B1_w1 1
  have q1_2_w1 : World.cell? w1 ⟨w.heap.size + 1, 2, none⟩ = some (.int .i64 a.cols) := Blk.cell B1_w1 2
  have q1_3_w1 : World.cell? w1 ⟨w.heap.size + 1, 3, none⟩ = some (.slice Aa a.kids.length capa) := Blk.cell B1_w1 3
  clear xa0_w xa1_w xa2_w xa3_w xb0_w xb1_w xb2_w xb3_w
  have xa0_w1 : World.cell? w1 ⟨g, o, none⟩ = some (.int .i64 a.kind) := Low.cell (PSt.low PSTw1.out) XA0.out
  have xa1_w1 : World.cell? w1 ⟨g, o + 1, none⟩ = some (.string (⟨a.text.toArray⟩ : ByteArray)) := Low.cell (PSt.low PSTw1.out) XA1.out
  have xa2_w1 : World.cell? w1 ⟨g, o + 2, none⟩ = some (.int .i64 a.cols) := Low.cell (PSt.low PSTw1.out) XA2.out
  have xa3_w1 : World.cell? w1 ⟨g, o + 3, none⟩ = some (.slice Aa a.kids.length capa) := Low.cell (PSt.low PSTw1.out) XA3.out
  have xb0_w1 : World.cell? w1 ⟨g, o + 4, none⟩ = some (.int .i64 b.kind) := Low.cell (PSt.low PSTw1.out) XB0.out
  have xb1_w1 : World.cell? w1 ⟨g, o + 4 + 1, none⟩ = some (.string (⟨b.text.toArray⟩ : ByteArray)) := Low.cell (PSt.low PSTw1.out) XB1.out
  have xb2_w1 : World.cell? w1 ⟨g, o + 4 + 2, none⟩ = some (.int .i64 b.cols) := Low.cell (PSt.low PSTw1.out) XB2.out
  have xb3_w1 : World.cell? w1 ⟨g, o + 4 + 3, none⟩ = some (sb) := Low.cell (PSt.low PSTw1.out) XB3.out
  have hlt_g_w1 : g < w1.heap.size := block_lt_of_cell xa0_w1
  clear htw1
  go_wp2_with fail
  refine Calls.mono ((mark_em W0 p B [95]) _ _ _ (PSt.fresh PSTw1.out (by first | exact (Touch.refl _ _) | exact (Touch.refl _ _).alloc _ | exact ((Touch.refl _ _).alloc _).alloc _ | exact (((Touch.refl _ _).alloc _).alloc _).alloc _ | exact (Touch.refl _ _).drewN _ | exact ((Touch.refl _ _).alloc _).drewN _ | exact (((Touch.refl _ _).alloc _).alloc _).drewN _)) FITw1.out.left) ?_
  rintro _ w2 ⟨rfl, htw2⟩
  have PSTw2 := hid (PSt.add2 (PSt.fresh PSTw1.out (by first | exact (Touch.refl _ _) | exact (Touch.refl _ _).alloc _ | exact ((Touch.refl _ _).alloc _).alloc _ | exact (((Touch.refl _ _).alloc _).alloc _).alloc _ | exact (Touch.refl _ _).drewN _ | exact ((Touch.refl _ _).alloc _).drewN _ | exact (((Touch.refl _ _).alloc _).alloc _).drewN _)) htw2)
  have ACCw2 := hid (PrAdd.app ACCw1.out (PrAdd.freshL (show Fresh w1 _ from (by first | exact (Touch.refl _ _) | exact (Touch.refl _ _).alloc _ | exact ((Touch.refl _ _).alloc _).alloc _ | exact (((Touch.refl _ _).alloc _).alloc _).alloc _ | exact (Touch.refl _ _).drewN _ | exact ((Touch.refl _ _).alloc _).drewN _ | exact (((Touch.refl _ _).alloc _).alloc _).drewN _)) htw2))
  have FITw2 := hid (Fits.right2 FITw1.out)
  have B0_w2 : Blk w2 (w.heap.size) 24 #[.int .i64 (7 : Int), tx, cl, .slice (some ⟨g, o, none⟩) 2 cap] := PrAdd.blk htw2 (by first | exact Blk.new _ _ _ | exact (Blk.new _ _ _).alloc _ | exact Blk.new2 _ _ _ _ | exact ((Blk.new _ _ _).alloc _).alloc _ | exact (Blk.new2 _ _ _ _).alloc _ | exact Blk.new3 _ _ _ _ _ | assumption | exact Blk.alloc (by assumption) _ | exact (Blk.alloc (Blk.alloc (by assumption) _) _)) (by have := PSt.lt PST0.out; have := PSt.hB PST0.out; omega) (by decide) (by decide)
  have B1_w2 : Blk w2 (w.heap.size + 1) 24 #[.int .i64 a.kind, .string (⟨a.text.toArray⟩ : ByteArray), .int .i64 a.cols, .slice Aa a.kids.length capa] := PrAdd.blk htw2 (by first | exact Blk.new _ _ _ | exact (Blk.new _ _ _).alloc _ | exact Blk.new2 _ _ _ _ | exact ((Blk.new _ _ _).alloc _).alloc _ | exact (Blk.new2 _ _ _ _).alloc _ | exact Blk.new3 _ _ _ _ _ | assumption | exact Blk.alloc (by assumption) _ | exact (Blk.alloc (Blk.alloc (by assumption) _) _)) (by have := PSt.lt PST0.out; have := PSt.hB PST0.out; omega) (by decide) (by decide)
  clear q0_0_w1 q0_1_w1 q0_2_w1 q0_3_w1 B0_w1 q1_0_w1 q1_1_w1 q1_2_w1 q1_3_w1 B1_w1
  have q0_0_w2 : World.cell? w2 ⟨w.heap.size, 0, none⟩ = some (.int .i64 (7 : Int)) := Blk.cell B0_w2 0
  have q0_1_w2 : World.cell? w2 ⟨w.heap.size, 1, none⟩ = some (tx) := Blk.cell B0_w2 1
  have q0_2_w2 : World.cell? w2 ⟨w.heap.size, 2, none⟩ = some (cl) := Blk.cell B0_w2 2
  have q0_3_w2 : World.cell? w2 ⟨w.heap.size, 3, none⟩ = some (.slice (some ⟨g, o, none⟩) 2 cap) := Blk.cell B0_w2 3
  have q1_0_w2 : World.cell? w2 ⟨w.heap.size + 1, 0, none⟩ = some (.int .i64 a.kind) := Blk.cell B1_w2 0
  have q1_1_w2 : World.cell? w2 ⟨w.heap.size + 1, 1, none⟩ = some (.string (⟨a.text.toArray⟩ : ByteArray)) := Blk.cell B1_w2 1
  have q1_2_w2 : World.cell? w2 ⟨w.heap.size + 1, 2, none⟩ = some (.int .i64 a.cols) := Blk.cell B1_w2 2
  have q1_3_w2 : World.cell? w2 ⟨w.heap.size + 1, 3, none⟩ = some (.slice Aa a.kids.length capa) := Blk.cell B1_w2 3
  clear xa0_w1 xa1_w1 xa2_w1 xa3_w1 xb0_w1 xb1_w1 xb2_w1 xb3_w1
  have xa0_w2 : World.cell? w2 ⟨g, o, none⟩ = some (.int .i64 a.kind) := Low.cell (PSt.low PSTw2.out) XA0.out
  have xa1_w2 : World.cell? w2 ⟨g, o + 1, none⟩ = some (.string (⟨a.text.toArray⟩ : ByteArray)) := Low.cell (PSt.low PSTw2.out) XA1.out
  have xa2_w2 : World.cell? w2 ⟨g, o + 2, none⟩ = some (.int .i64 a.cols) := Low.cell (PSt.low PSTw2.out) XA2.out
  have xa3_w2 : World.cell? w2 ⟨g, o + 3, none⟩ = some (.slice Aa a.kids.length capa) := Low.cell (PSt.low PSTw2.out) XA3.out
  have xb0_w2 : World.cell? w2 ⟨g, o + 4, none⟩ = some (.int .i64 b.kind) := Low.cell (PSt.low PSTw2.out) XB0.out
  have xb1_w2 : World.cell? w2 ⟨g, o + 4 + 1, none⟩ = some (.string (⟨b.text.toArray⟩ : ByteArray)) := Low.cell (PSt.low PSTw2.out) XB1.out
  have xb2_w2 : World.cell? w2 ⟨g, o + 4 + 2, none⟩ = some (.int .i64 b.cols) := Low.cell (PSt.low PSTw2.out) XB2.out
  have xb3_w2 : World.cell? w2 ⟨g, o + 4 + 3, none⟩ = some (sb) := Low.cell (PSt.low PSTw2.out) XB3.out
  have hlt_g_w2 : g < w2.heap.size := block_lt_of_cell xa0_w2
  clear htw2
  go_wp2_with fail
  refine Calls.mono ((ARGb.out) _ _ _ (PSt.fresh PSTw2.out (by first | exact (Touch.refl _ _) | exact (Touch.refl _ _).alloc _ | exact ((Touch.refl _ _).alloc _).alloc _ | exact (((Touch.refl _ _).alloc _).alloc _).alloc _ | exact (Touch.refl _ _).drewN _ | exact ((Touch.refl _ _).alloc _).drewN _ | exact (((Touch.refl _ _).alloc _).alloc _).drewN _)) FITw2.out) ?_
  rintro _ w3 ⟨rfl, htw3⟩
  have PSTw3 := hid (PSt.add2 (PSt.fresh PSTw2.out (by first | exact (Touch.refl _ _) | exact (Touch.refl _ _).alloc _ | exact ((Touch.refl _ _).alloc _).alloc _ | exact (((Touch.refl _ _).alloc _).alloc _).alloc _ | exact (Touch.refl _ _).drewN _ | exact ((Touch.refl _ _).alloc _).drewN _ | exact (((Touch.refl _ _).alloc _).alloc _).drewN _)) htw3)
  have ACCw3 := hid (PrAdd.app ACCw2.out (PrAdd.freshL (show Fresh w2 _ from (by first | exact (Touch.refl _ _) | exact (Touch.refl _ _).alloc _ | exact ((Touch.refl _ _).alloc _).alloc _ | exact (((Touch.refl _ _).alloc _).alloc _).alloc _ | exact (Touch.refl _ _).drewN _ | exact ((Touch.refl _ _).alloc _).drewN _ | exact (((Touch.refl _ _).alloc _).alloc _).drewN _)) htw3))
  have B0_w3 : Blk w3 (w.heap.size) 24 #[.int .i64 (7 : Int), tx, cl, .slice (some ⟨g, o, none⟩) 2 cap] := PrAdd.blk htw3 (by first | exact Blk.new _ _ _ | exact (Blk.new _ _ _).alloc _ | exact Blk.new2 _ _ _ _ | exact ((Blk.new _ _ _).alloc _).alloc _ | exact (Blk.new2 _ _ _ _).alloc _ | exact Blk.new3 _ _ _ _ _ | assumption | exact Blk.alloc (by assumption) _ | exact (Blk.alloc (Blk.alloc (by assumption) _) _)) (by have := PSt.lt PST0.out; have := PSt.hB PST0.out; omega) (by decide) (by decide)
  have B1_w3 : Blk w3 (w.heap.size + 1) 24 #[.int .i64 a.kind, .string (⟨a.text.toArray⟩ : ByteArray), .int .i64 a.cols, .slice Aa a.kids.length capa] := PrAdd.blk htw3 (by first | exact Blk.new _ _ _ | exact (Blk.new _ _ _).alloc _ | exact Blk.new2 _ _ _ _ | exact ((Blk.new _ _ _).alloc _).alloc _ | exact (Blk.new2 _ _ _ _).alloc _ | exact Blk.new3 _ _ _ _ _ | assumption | exact Blk.alloc (by assumption) _ | exact (Blk.alloc (Blk.alloc (by assumption) _) _)) (by have := PSt.lt PST0.out; have := PSt.hB PST0.out; omega) (by decide) (by decide)
  clear q0_0_w2 q0_1_w2 q0_2_w2 q0_3_w2 B0_w2 q1_0_w2 q1_1_w2 q1_2_w2 q1_3_w2 B1_w2
  have q0_0_w3 : World.cell? w3 ⟨w.heap.size, 0, none⟩ = some (.int .i64 (7 : Int)) := Blk.cell B0_w3 0
  have q0_1_w3 : World.cell? w3 ⟨w.heap.size, 1, none⟩ = some (tx) := Blk.cell B0_w3 1
  have q0_2_w3 : World.cell? w3 ⟨w.heap.size, 2, none⟩ = some (cl) := Blk.cell B0_w3 2
  have q0_3_w3 : World.cell? w3 ⟨w.heap.size, 3, none⟩ = some (.slice (some ⟨g, o, none⟩) 2 cap) := Blk.cell B0_w3 3
  have q1_0_w3 : World.cell? w3 ⟨w.heap.size + 1, 0, none⟩ = some (.int .i64 a.kind) := Blk.cell B1_w3 0
  have q1_1_w3 : World.cell? w3 ⟨w.heap.size + 1, 1, none⟩ = some (.string (⟨a.text.toArray⟩ : ByteArray)) := Blk.cell B1_w3 1
  have q1_2_w3 : World.cell? w3 ⟨w.heap.size + 1, 2, none⟩ = some (.int .i64 a.cols) := Blk.cell B1_w3 2
  have q1_3_w3 : World.cell? w3 ⟨w.heap.size + 1, 3, none⟩ = some (.slice Aa a.kids.length capa) := Blk.cell B1_w3 3
  clear xa0_w2 xa1_w2 xa2_w2 xa3_w2 xb0_w2 xb1_w2 xb2_w2 xb3_w2
  have xa0_w3 : World.cell? w3 ⟨g, o, none⟩ = some (.int .i64 a.kind) := Low.cell (PSt.low PSTw3.out) XA0.out
  have xa1_w3 : World.cell? w3 ⟨g, o + 1, none⟩ = some (.string (⟨a.text.toArray⟩ : ByteArray)) := Low.cell (PSt.low PSTw3.out) XA1.out
  have xa2_w3 : World.cell? w3 ⟨g, o + 2, none⟩ = some (.int .i64 a.cols) := Low.cell (PSt.low PSTw3.out) XA2.out
  have xa3_w3 : World.cell? w3 ⟨g, o + 3, none⟩ = some (.slice Aa a.kids.length capa) := Low.cell (PSt.low PSTw3.out) XA3.out
  have xb0_w3 : World.cell? w3 ⟨g, o + 4, none⟩ = some (.int .i64 b.kind) := Low.cell (PSt.low PSTw3.out) XB0.out
  have xb1_w3 : World.cell? w3 ⟨g, o + 4 + 1, none⟩ = some (.string (⟨b.text.toArray⟩ : ByteArray)) := Low.cell (PSt.low PSTw3.out) XB1.out
  have xb2_w3 : World.cell? w3 ⟨g, o + 4 + 2, none⟩ = some (.int .i64 b.cols) := Low.cell (PSt.low PSTw3.out) XB2.out
  have xb3_w3 : World.cell? w3 ⟨g, o + 4 + 3, none⟩ = some (sb) := Low.cell (PSt.low PSTw3.out) XB3.out
  have hlt_g_w3 : g < w3.heap.size := block_lt_of_cell xa0_w3
  clear htw3
  go_wp2_with fail
  first | go_end0 | refine bodyPost_ret (v := .tuple #[]) (results_none rfl _ _ _) rfl ?_
  exact ⟨rfl, PrAdd.cast ACCw3.out (by first | rfl | (simp only [List.append_assoc] <;> rfl))⟩

set_option maxRecDepth 100000 in
set_option maxHeartbeats 1000000 in
theorem scripts_8_row (W0 : World) (p B : Nat) (tx cl : Value) (a b : Nd) (x : Nd) (hx : a.kids = [x]) (hs : Tr.scripted x = false) (ha : RowE W0 p B a) (hb : ArgE W0 p B b) (sl : Value) (hsl : RepL W0 [a, b] sl) : Emits 62 #[pp p, .agg #[.int .i64 8, tx, cl, sl]] W0 p B (baseT a ++ ([Tr.mk7 94] ++ argT b)) := by
  intro w toks txt hp hf
  rw [baseT_row a x hx hs] at hf ⊢
  obtain ⟨g, o, cap, sa, sb, rfl, a0, a1, a2, a3, hra, b0, b1, b2, b3, hrb⟩ := hsl.two
  have ROWa := hid (ha sa hra)
  have ARGb := hid (hb sb hrb)
  rw [hx] at hra
  obtain ⟨gx, ox, cax, sx, rfl, x0, x1, x2, x3, hrx⟩ := hra.one
  have e1 : a.kids.length = 1 := by rw [hx]; rfl
  have HS := hid hs
  clear e1 hs hrx
  have PST0 := hid hp
  have FIT0 := hid hf
  clear hp hf ha hb hsl hra hrb hx
  have XA0 := hid a0
  have XA1 := hid a1
  have XA2 := hid a2
  have XA3 := hid a3
  have XB0 := hid b0
  have XB1 := hid b1
  have XB2 := hid b2
  have XB3 := hid b3
  have XX0 := hid x0
  have XX1 := hid x1
  have XX2 := hid x2
  have XX3 := hid x3
  clear a0 a1 a2 a3 b0 b1 b2 b3 x0 x1 x2 x3
  have xa0_w : World.cell? w ⟨g, o, none⟩ = some (.int .i64 a.kind) := Low.cell (PSt.low PST0.out) XA0.out
  have xa1_w : World.cell? w ⟨g, o + 1, none⟩ = some (.string (⟨a.text.toArray⟩ : ByteArray)) := Low.cell (PSt.low PST0.out) XA1.out
  have xa2_w : World.cell? w ⟨g, o + 2, none⟩ = some (.int .i64 a.cols) := Low.cell (PSt.low PST0.out) XA2.out
  have xa3_w : World.cell? w ⟨g, o + 3, none⟩ = some (.slice (some ⟨gx, ox, none⟩) 1 cax) := Low.cell (PSt.low PST0.out) XA3.out
  have xb0_w : World.cell? w ⟨g, o + 4, none⟩ = some (.int .i64 b.kind) := Low.cell (PSt.low PST0.out) XB0.out
  have xb1_w : World.cell? w ⟨g, o + 4 + 1, none⟩ = some (.string (⟨b.text.toArray⟩ : ByteArray)) := Low.cell (PSt.low PST0.out) XB1.out
  have xb2_w : World.cell? w ⟨g, o + 4 + 2, none⟩ = some (.int .i64 b.cols) := Low.cell (PSt.low PST0.out) XB2.out
  have xb3_w : World.cell? w ⟨g, o + 4 + 3, none⟩ = some (sb) := Low.cell (PSt.low PST0.out) XB3.out
  have xx0_w : World.cell? w ⟨gx, ox, none⟩ = some (.int .i64 x.kind) := Low.cell (PSt.low PST0.out) XX0.out
  have xx1_w : World.cell? w ⟨gx, ox + 1, none⟩ = some (.string (⟨x.text.toArray⟩ : ByteArray)) := Low.cell (PSt.low PST0.out) XX1.out
  have xx2_w : World.cell? w ⟨gx, ox + 2, none⟩ = some (.int .i64 x.cols) := Low.cell (PSt.low PST0.out) XX2.out
  have xx3_w : World.cell? w ⟨gx, ox + 3, none⟩ = some (sx) := Low.cell (PSt.low PST0.out) XX3.out
  have hlt_g_w : g < w.heap.size := block_lt_of_cell xa0_w
  have hlt_gx_w : gx < w.heap.size := block_lt_of_cell xx0_w
  go_enter Try.func62, Try.ntmps62
  go_wp2_with fail
  refine Calls.mono (scripted_is x _ _ HS.out) ?_
  rintro _ w1 ⟨rfl, hfw1⟩
  have HF1 := hid (show Fresh w w1 from by first | exact hfw1 | exact Touch.pre hfw1 | exact Touch.pre (Touch.pre hfw1) | exact Touch.ofN hfw1 | exact Touch.preN hfw1 | exact Touch.pre (Touch.pre (Touch.pre hfw1)))
  have B0_w1 : Blk w1 (w.heap.size) 24 #[.int .i64 (8 : Int), tx, cl, .slice (some ⟨g, o, none⟩) 2 cap] := Touch.blk hfw1 (by first | exact Blk.new _ _ _ | exact (Blk.new _ _ _).alloc _ | exact Blk.new2 _ _ _ _ | exact ((Blk.new _ _ _).alloc _).alloc _ | exact (Blk.new2 _ _ _ _).alloc _ | exact Blk.new3 _ _ _ _ _ | assumption | exact Blk.alloc (by assumption) _ | exact (Blk.alloc (Blk.alloc (by assumption) _) _)) (fun h => h)
  have B1_w1 : Blk w1 (w.heap.size + 1) 24 #[.int .i64 a.kind, .string (⟨a.text.toArray⟩ : ByteArray), .int .i64 a.cols, .slice (some ⟨gx, ox, none⟩) 1 cax] := Touch.blk hfw1 (by first | exact Blk.new _ _ _ | exact (Blk.new _ _ _).alloc _ | exact Blk.new2 _ _ _ _ | exact ((Blk.new _ _ _).alloc _).alloc _ | exact (Blk.new2 _ _ _ _).alloc _ | exact Blk.new3 _ _ _ _ _ | assumption | exact Blk.alloc (by assumption) _ | exact (Blk.alloc (Blk.alloc (by assumption) _) _)) (fun h => h)
  have q0_0_w1 : World.cell? w1 ⟨w.heap.size, 0, none⟩ = some (.int .i64 (8 : Int)) := Blk.cell B0_w1 0
  have q0_1_w1 : World.cell? w1 ⟨w.heap.size, 1, none⟩ = some (tx) := Blk.cell B0_w1 1
  have q0_2_w1 : World.cell? w1 ⟨w.heap.size, 2, none⟩ = some (cl) := Blk.cell B0_w1 2
  have q0_3_w1 : World.cell? w1 ⟨w.heap.size, 3, none⟩ = some (.slice (some ⟨g, o, none⟩) 2 cap) := Blk.cell B0_w1 3
  have q1_0_w1 : World.cell? w1 ⟨w.heap.size + 1, 0, none⟩ = some (.int .i64 a.kind) := Blk.cell B1_w1 0
  have q1_1_w1 : World.cell? w1 ⟨w.heap.size + 1, 1, none⟩ = some (.string (⟨a.text.toArray⟩ : ByteArray)) := Blk.cell B1_w1 1
  have q1_2_w1 : World.cell? w1 ⟨w.heap.size + 1, 2, none⟩ = some (.int .i64 a.cols) := Blk.cell B1_w1 2
  have q1_3_w1 : World.cell? w1 ⟨w.heap.size + 1, 3, none⟩ = some (.slice (some ⟨gx, ox, none⟩) 1 cax) := Blk.cell B1_w1 3
  have xa0_w1 : World.cell? w1 ⟨g, o, none⟩ = some (.int .i64 a.kind) := Touch.cell HF1.out xa0_w (fun h => h)
  have xa1_w1 : World.cell? w1 ⟨g, o + 1, none⟩ = some (.string (⟨a.text.toArray⟩ : ByteArray)) := Touch.cell HF1.out xa1_w (fun h => h)
  have xa2_w1 : World.cell? w1 ⟨g, o + 2, none⟩ = some (.int .i64 a.cols) := Touch.cell HF1.out xa2_w (fun h => h)
  have xa3_w1 : World.cell? w1 ⟨g, o + 3, none⟩ = some (.slice (some ⟨gx, ox, none⟩) 1 cax) := Touch.cell HF1.out xa3_w (fun h => h)
  have xb0_w1 : World.cell? w1 ⟨g, o + 4, none⟩ = some (.int .i64 b.kind) := Touch.cell HF1.out xb0_w (fun h => h)
  have xb1_w1 : World.cell? w1 ⟨g, o + 4 + 1, none⟩ = some (.string (⟨b.text.toArray⟩ : ByteArray)) := Touch.cell HF1.out xb1_w (fun h => h)
  have xb2_w1 : World.cell? w1 ⟨g, o + 4 + 2, none⟩ = some (.int .i64 b.cols) := Touch.cell HF1.out xb2_w (fun h => h)
  have xb3_w1 : World.cell? w1 ⟨g, o + 4 + 3, none⟩ = some (sb) := Touch.cell HF1.out xb3_w (fun h => h)
  have xx0_w1 : World.cell? w1 ⟨gx, ox, none⟩ = some (.int .i64 x.kind) := Touch.cell HF1.out xx0_w (fun h => h)
  have xx1_w1 : World.cell? w1 ⟨gx, ox + 1, none⟩ = some (.string (⟨x.text.toArray⟩ : ByteArray)) := Touch.cell HF1.out xx1_w (fun h => h)
  have xx2_w1 : World.cell? w1 ⟨gx, ox + 2, none⟩ = some (.int .i64 x.cols) := Touch.cell HF1.out xx2_w (fun h => h)
  have xx3_w1 : World.cell? w1 ⟨gx, ox + 3, none⟩ = some (sx) := Touch.cell HF1.out xx3_w (fun h => h)
  clear xa0_w xa1_w xa2_w xa3_w xb0_w xb1_w xb2_w xb3_w xx0_w xx1_w xx2_w xx3_w
  have hlt_g_w1 : g < w1.heap.size := block_lt_of_cell xa0_w1
  have hlt_gx_w1 : gx < w1.heap.size := block_lt_of_cell xx0_w1
  have PSTw1 := hid (PSt.fresh PST0.out HF1.out)
  clear hfw1
  go_wp2_with fail
  refine Calls.mono ((ROWa.out) _ _ _ (PSt.fresh PSTw1.out (by first | exact (Touch.refl _ _) | exact (Touch.refl _ _).alloc _ | exact ((Touch.refl _ _).alloc _).alloc _ | exact (((Touch.refl _ _).alloc _).alloc _).alloc _ | exact (Touch.refl _ _).drewN _ | exact ((Touch.refl _ _).alloc _).drewN _ | exact (((Touch.refl _ _).alloc _).alloc _).drewN _)) FIT0.out.left) ?_
  rintro _ w2 ⟨rfl, htw2⟩
  have PSTw2 := hid (PSt.add (PSt.fresh PSTw1.out (by first | exact (Touch.refl _ _) | exact (Touch.refl _ _).alloc _ | exact ((Touch.refl _ _).alloc _).alloc _ | exact (((Touch.refl _ _).alloc _).alloc _).alloc _ | exact (Touch.refl _ _).drewN _ | exact ((Touch.refl _ _).alloc _).drewN _ | exact (((Touch.refl _ _).alloc _).alloc _).drewN _)) htw2)
  have ACCw2 := hid (PrAdd.freshL (show Fresh w _ from (by first | exact HF1.out | exact HF1.out.alloc _ | exact (HF1.out.alloc _).alloc _ | exact ((HF1.out.alloc _).alloc _).alloc _ | exact HF1.out.drewN _ | exact (HF1.out.alloc _).drewN _ | exact ((HF1.out.alloc _).alloc _).drewN _)) htw2)
  have FITw2 := hid (Fits.right FIT0.out)
  have B0_w2 : Blk w2 (w.heap.size) 24 #[.int .i64 (8 : Int), tx, cl, .slice (some ⟨g, o, none⟩) 2 cap] := PrAdd.blk htw2 (by first | exact Blk.new _ _ _ | exact (Blk.new _ _ _).alloc _ | exact Blk.new2 _ _ _ _ | exact ((Blk.new _ _ _).alloc _).alloc _ | exact (Blk.new2 _ _ _ _).alloc _ | exact Blk.new3 _ _ _ _ _ | assumption | exact Blk.alloc (by assumption) _ | exact (Blk.alloc (Blk.alloc (by assumption) _) _)) (by have := PSt.lt PST0.out; have := PSt.hB PST0.out; omega) (by decide) (by decide)
  have B1_w2 : Blk w2 (w.heap.size + 1) 24 #[.int .i64 a.kind, .string (⟨a.text.toArray⟩ : ByteArray), .int .i64 a.cols, .slice (some ⟨gx, ox, none⟩) 1 cax] := PrAdd.blk htw2 (by first | exact Blk.new _ _ _ | exact (Blk.new _ _ _).alloc _ | exact Blk.new2 _ _ _ _ | exact ((Blk.new _ _ _).alloc _).alloc _ | exact (Blk.new2 _ _ _ _).alloc _ | exact Blk.new3 _ _ _ _ _ | assumption | exact Blk.alloc (by assumption) _ | exact (Blk.alloc (Blk.alloc (by assumption) _) _)) (by have := PSt.lt PST0.out; have := PSt.hB PST0.out; omega) (by decide) (by decide)
  clear q0_0_w1 q0_1_w1 q0_2_w1 q0_3_w1 B0_w1 q1_0_w1 q1_1_w1 q1_2_w1 q1_3_w1 B1_w1
  have q0_0_w2 : World.cell? w2 ⟨w.heap.size, 0, none⟩ = some (.int .i64 (8 : Int)) := Blk.cell B0_w2 0
  have q0_1_w2 : World.cell? w2 ⟨w.heap.size, 1, none⟩ = some (tx) := Blk.cell B0_w2 1
  have q0_2_w2 : World.cell? w2 ⟨w.heap.size, 2, none⟩ = some (cl) := Blk.cell B0_w2 2
  have q0_3_w2 : World.cell? w2 ⟨w.heap.size, 3, none⟩ = some (.slice (some ⟨g, o, none⟩) 2 cap) := Blk.cell B0_w2 3
  have q1_0_w2 : World.cell? w2 ⟨w.heap.size + 1, 0, none⟩ = some (.int .i64 a.kind) := Blk.cell B1_w2 0
  have q1_1_w2 : World.cell? w2 ⟨w.heap.size + 1, 1, none⟩ = some (.string (⟨a.text.toArray⟩ : ByteArray)) := Blk.cell B1_w2 1
  have q1_2_w2 : World.cell? w2 ⟨w.heap.size + 1, 2, none⟩ = some (.int .i64 a.cols) := Blk.cell B1_w2 2
  have q1_3_w2 : World.cell? w2 ⟨w.heap.size + 1, 3, none⟩ = some (.slice (some ⟨gx, ox, none⟩) 1 cax) := Blk.cell B1_w2 3
  clear xa0_w1 xa1_w1 xa2_w1 xa3_w1 xb0_w1 xb1_w1 xb2_w1 xb3_w1 xx0_w1 xx1_w1 xx2_w1 xx3_w1
  have xa0_w2 : World.cell? w2 ⟨g, o, none⟩ = some (.int .i64 a.kind) := Low.cell (PSt.low PSTw2.out) XA0.out
  have xa1_w2 : World.cell? w2 ⟨g, o + 1, none⟩ = some (.string (⟨a.text.toArray⟩ : ByteArray)) := Low.cell (PSt.low PSTw2.out) XA1.out
  have xa2_w2 : World.cell? w2 ⟨g, o + 2, none⟩ = some (.int .i64 a.cols) := Low.cell (PSt.low PSTw2.out) XA2.out
  have xa3_w2 : World.cell? w2 ⟨g, o + 3, none⟩ = some (.slice (some ⟨gx, ox, none⟩) 1 cax) := Low.cell (PSt.low PSTw2.out) XA3.out
  have xb0_w2 : World.cell? w2 ⟨g, o + 4, none⟩ = some (.int .i64 b.kind) := Low.cell (PSt.low PSTw2.out) XB0.out
  have xb1_w2 : World.cell? w2 ⟨g, o + 4 + 1, none⟩ = some (.string (⟨b.text.toArray⟩ : ByteArray)) := Low.cell (PSt.low PSTw2.out) XB1.out
  have xb2_w2 : World.cell? w2 ⟨g, o + 4 + 2, none⟩ = some (.int .i64 b.cols) := Low.cell (PSt.low PSTw2.out) XB2.out
  have xb3_w2 : World.cell? w2 ⟨g, o + 4 + 3, none⟩ = some (sb) := Low.cell (PSt.low PSTw2.out) XB3.out
  have xx0_w2 : World.cell? w2 ⟨gx, ox, none⟩ = some (.int .i64 x.kind) := Low.cell (PSt.low PSTw2.out) XX0.out
  have xx1_w2 : World.cell? w2 ⟨gx, ox + 1, none⟩ = some (.string (⟨x.text.toArray⟩ : ByteArray)) := Low.cell (PSt.low PSTw2.out) XX1.out
  have xx2_w2 : World.cell? w2 ⟨gx, ox + 2, none⟩ = some (.int .i64 x.cols) := Low.cell (PSt.low PSTw2.out) XX2.out
  have xx3_w2 : World.cell? w2 ⟨gx, ox + 3, none⟩ = some (sx) := Low.cell (PSt.low PSTw2.out) XX3.out
  have hlt_g_w2 : g < w2.heap.size := block_lt_of_cell xa0_w2
  have hlt_gx_w2 : gx < w2.heap.size := block_lt_of_cell xx0_w2
  clear htw2
  go_wp2_with fail
  refine Calls.mono ((mark_em W0 p B [94]) _ _ _ (PSt.fresh PSTw2.out (by first | exact (Touch.refl _ _) | exact (Touch.refl _ _).alloc _ | exact ((Touch.refl _ _).alloc _).alloc _ | exact (((Touch.refl _ _).alloc _).alloc _).alloc _ | exact (Touch.refl _ _).drewN _ | exact ((Touch.refl _ _).alloc _).drewN _ | exact (((Touch.refl _ _).alloc _).alloc _).drewN _)) FITw2.out.left) ?_
  rintro _ w3 ⟨rfl, htw3⟩
  have PSTw3 := hid (PSt.add2 (PSt.fresh PSTw2.out (by first | exact (Touch.refl _ _) | exact (Touch.refl _ _).alloc _ | exact ((Touch.refl _ _).alloc _).alloc _ | exact (((Touch.refl _ _).alloc _).alloc _).alloc _ | exact (Touch.refl _ _).drewN _ | exact ((Touch.refl _ _).alloc _).drewN _ | exact (((Touch.refl _ _).alloc _).alloc _).drewN _)) htw3)
  have ACCw3 := hid (PrAdd.app ACCw2.out (PrAdd.freshL (show Fresh w2 _ from (by first | exact (Touch.refl _ _) | exact (Touch.refl _ _).alloc _ | exact ((Touch.refl _ _).alloc _).alloc _ | exact (((Touch.refl _ _).alloc _).alloc _).alloc _ | exact (Touch.refl _ _).drewN _ | exact ((Touch.refl _ _).alloc _).drewN _ | exact (((Touch.refl _ _).alloc _).alloc _).drewN _)) htw3))
  have FITw3 := hid (Fits.right2 FITw2.out)
  have B0_w3 : Blk w3 (w.heap.size) 24 #[.int .i64 (8 : Int), tx, cl, .slice (some ⟨g, o, none⟩) 2 cap] := PrAdd.blk htw3 (by first | exact Blk.new _ _ _ | exact (Blk.new _ _ _).alloc _ | exact Blk.new2 _ _ _ _ | exact ((Blk.new _ _ _).alloc _).alloc _ | exact (Blk.new2 _ _ _ _).alloc _ | exact Blk.new3 _ _ _ _ _ | assumption | exact Blk.alloc (by assumption) _ | exact (Blk.alloc (Blk.alloc (by assumption) _) _)) (by have := PSt.lt PST0.out; have := PSt.hB PST0.out; omega) (by decide) (by decide)
  have B1_w3 : Blk w3 (w.heap.size + 1) 24 #[.int .i64 a.kind, .string (⟨a.text.toArray⟩ : ByteArray), .int .i64 a.cols, .slice (some ⟨gx, ox, none⟩) 1 cax] := PrAdd.blk htw3 (by first | exact Blk.new _ _ _ | exact (Blk.new _ _ _).alloc _ | exact Blk.new2 _ _ _ _ | exact ((Blk.new _ _ _).alloc _).alloc _ | exact (Blk.new2 _ _ _ _).alloc _ | exact Blk.new3 _ _ _ _ _ | assumption | exact Blk.alloc (by assumption) _ | exact (Blk.alloc (Blk.alloc (by assumption) _) _)) (by have := PSt.lt PST0.out; have := PSt.hB PST0.out; omega) (by decide) (by decide)
  clear q0_0_w2 q0_1_w2 q0_2_w2 q0_3_w2 B0_w2 q1_0_w2 q1_1_w2 q1_2_w2 q1_3_w2 B1_w2
  have q0_0_w3 : World.cell? w3 ⟨w.heap.size, 0, none⟩ = some (.int .i64 (8 : Int)) := Blk.cell B0_w3 0
  have q0_1_w3 : World.cell? w3 ⟨w.heap.size, 1, none⟩ = some (tx) := Blk.cell B0_w3 1
  have q0_2_w3 : World.cell? w3 ⟨w.heap.size, 2, none⟩ = some (cl) := Blk.cell B0_w3 2
  have q0_3_w3 : World.cell? w3 ⟨w.heap.size, 3, none⟩ = some (.slice (some ⟨g, o, none⟩) 2 cap) := Blk.cell B0_w3 3
  have q1_0_w3 : World.cell? w3 ⟨w.heap.size + 1, 0, none⟩ = some (.int .i64 a.kind) := Blk.cell B1_w3 0
  have q1_1_w3 : World.cell? w3 ⟨w.heap.size + 1, 1, none⟩ = some (.string (⟨a.text.toArray⟩ : ByteArray)) := Blk.cell B1_w3 1
  have q1_2_w3 : World.cell? w3 ⟨w.heap.size + 1, 2, none⟩ = some (.int .i64 a.cols) := Blk.cell B1_w3 2
  have q1_3_w3 : World.cell? w3 ⟨w.heap.size + 1, 3, none⟩ = some (.slice (some ⟨gx, ox, none⟩) 1 cax) := Blk.cell B1_w3 3
  clear xa0_w2 xa1_w2 xa2_w2 xa3_w2 xb0_w2 xb1_w2 xb2_w2 xb3_w2 xx0_w2 xx1_w2 xx2_w2 xx3_w2
  have xa0_w3 : World.cell? w3 ⟨g, o, none⟩ = some (.int .i64 a.kind) := Low.cell (PSt.low PSTw3.out) XA0.out
  have xa1_w3 : World.cell? w3 ⟨g, o + 1, none⟩ = some (.string (⟨a.text.toArray⟩ : ByteArray)) := Low.cell (PSt.low PSTw3.out) XA1.out
  have xa2_w3 : World.cell? w3 ⟨g, o + 2, none⟩ = some (.int .i64 a.cols) := Low.cell (PSt.low PSTw3.out) XA2.out
  have xa3_w3 : World.cell? w3 ⟨g, o + 3, none⟩ = some (.slice (some ⟨gx, ox, none⟩) 1 cax) := Low.cell (PSt.low PSTw3.out) XA3.out
  have xb0_w3 : World.cell? w3 ⟨g, o + 4, none⟩ = some (.int .i64 b.kind) := Low.cell (PSt.low PSTw3.out) XB0.out
  have xb1_w3 : World.cell? w3 ⟨g, o + 4 + 1, none⟩ = some (.string (⟨b.text.toArray⟩ : ByteArray)) := Low.cell (PSt.low PSTw3.out) XB1.out
  have xb2_w3 : World.cell? w3 ⟨g, o + 4 + 2, none⟩ = some (.int .i64 b.cols) := Low.cell (PSt.low PSTw3.out) XB2.out
  have xb3_w3 : World.cell? w3 ⟨g, o + 4 + 3, none⟩ = some (sb) := Low.cell (PSt.low PSTw3.out) XB3.out
  have xx0_w3 : World.cell? w3 ⟨gx, ox, none⟩ = some (.int .i64 x.kind) := Low.cell (PSt.low PSTw3.out) XX0.out
  have xx1_w3 : World.cell? w3 ⟨gx, ox + 1, none⟩ = some (.string (⟨x.text.toArray⟩ : ByteArray)) := Low.cell (PSt.low PSTw3.out) XX1.out
  have xx2_w3 : World.cell? w3 ⟨gx, ox + 2, none⟩ = some (.int .i64 x.cols) := Low.cell (PSt.low PSTw3.out) XX2.out
  have xx3_w3 : World.cell? w3 ⟨gx, ox + 3, none⟩ = some (sx) := Low.cell (PSt.low PSTw3.out) XX3.out
  have hlt_g_w3 : g < w3.heap.size := block_lt_of_cell xa0_w3
  have hlt_gx_w3 : gx < w3.heap.size := block_lt_of_cell xx0_w3
  clear htw3
  go_wp2_with fail
  refine Calls.mono ((ARGb.out) _ _ _ (PSt.fresh PSTw3.out (by first | exact (Touch.refl _ _) | exact (Touch.refl _ _).alloc _ | exact ((Touch.refl _ _).alloc _).alloc _ | exact (((Touch.refl _ _).alloc _).alloc _).alloc _ | exact (Touch.refl _ _).drewN _ | exact ((Touch.refl _ _).alloc _).drewN _ | exact (((Touch.refl _ _).alloc _).alloc _).drewN _)) FITw3.out) ?_
  rintro _ w4 ⟨rfl, htw4⟩
  have PSTw4 := hid (PSt.add2 (PSt.fresh PSTw3.out (by first | exact (Touch.refl _ _) | exact (Touch.refl _ _).alloc _ | exact ((Touch.refl _ _).alloc _).alloc _ | exact (((Touch.refl _ _).alloc _).alloc _).alloc _ | exact (Touch.refl _ _).drewN _ | exact ((Touch.refl _ _).alloc _).drewN _ | exact (((Touch.refl _ _).alloc _).alloc _).drewN _)) htw4)
  have ACCw4 := hid (PrAdd.app ACCw3.out (PrAdd.freshL (show Fresh w3 _ from (by first | exact (Touch.refl _ _) | exact (Touch.refl _ _).alloc _ | exact ((Touch.refl _ _).alloc _).alloc _ | exact (((Touch.refl _ _).alloc _).alloc _).alloc _ | exact (Touch.refl _ _).drewN _ | exact ((Touch.refl _ _).alloc _).drewN _ | exact (((Touch.refl _ _).alloc _).alloc _).drewN _)) htw4))
  have B0_w4 : Blk w4 (w.heap.size) 24 #[.int .i64 (8 : Int), tx, cl, .slice (some ⟨g, o, none⟩) 2 cap] := PrAdd.blk htw4 (by first | exact Blk.new _ _ _ | exact (Blk.new _ _ _).alloc _ | exact Blk.new2 _ _ _ _ | exact ((Blk.new _ _ _).alloc _).alloc _ | exact (Blk.new2 _ _ _ _).alloc _ | exact Blk.new3 _ _ _ _ _ | assumption | exact Blk.alloc (by assumption) _ | exact (Blk.alloc (Blk.alloc (by assumption) _) _)) (by have := PSt.lt PST0.out; have := PSt.hB PST0.out; omega) (by decide) (by decide)
  have B1_w4 : Blk w4 (w.heap.size + 1) 24 #[.int .i64 a.kind, .string (⟨a.text.toArray⟩ : ByteArray), .int .i64 a.cols, .slice (some ⟨gx, ox, none⟩) 1 cax] := PrAdd.blk htw4 (by first | exact Blk.new _ _ _ | exact (Blk.new _ _ _).alloc _ | exact Blk.new2 _ _ _ _ | exact ((Blk.new _ _ _).alloc _).alloc _ | exact (Blk.new2 _ _ _ _).alloc _ | exact Blk.new3 _ _ _ _ _ | assumption | exact Blk.alloc (by assumption) _ | exact (Blk.alloc (Blk.alloc (by assumption) _) _)) (by have := PSt.lt PST0.out; have := PSt.hB PST0.out; omega) (by decide) (by decide)
  clear q0_0_w3 q0_1_w3 q0_2_w3 q0_3_w3 B0_w3 q1_0_w3 q1_1_w3 q1_2_w3 q1_3_w3 B1_w3
  have q0_0_w4 : World.cell? w4 ⟨w.heap.size, 0, none⟩ = some (.int .i64 (8 : Int)) := Blk.cell B0_w4 0
  have q0_1_w4 : World.cell? w4 ⟨w.heap.size, 1, none⟩ = some (tx) := Blk.cell B0_w4 1
  have q0_2_w4 : World.cell? w4 ⟨w.heap.size, 2, none⟩ = some (cl) := Blk.cell B0_w4 2
  have q0_3_w4 : World.cell? w4 ⟨w.heap.size, 3, none⟩ = some (.slice (some ⟨g, o, none⟩) 2 cap) := Blk.cell B0_w4 3
  have q1_0_w4 : World.cell? w4 ⟨w.heap.size + 1, 0, none⟩ = some (.int .i64 a.kind) := Blk.cell B1_w4 0
  have q1_1_w4 : World.cell? w4 ⟨w.heap.size + 1, 1, none⟩ = some (.string (⟨a.text.toArray⟩ : ByteArray)) := Blk.cell B1_w4 1
  have q1_2_w4 : World.cell? w4 ⟨w.heap.size + 1, 2, none⟩ = some (.int .i64 a.cols) := Blk.cell B1_w4 2
  have q1_3_w4 : World.cell? w4 ⟨w.heap.size + 1, 3, none⟩ = some (.slice (some ⟨gx, ox, none⟩) 1 cax) := Blk.cell B1_w4 3
  clear xa0_w3 xa1_w3 xa2_w3 xa3_w3 xb0_w3 xb1_w3 xb2_w3 xb3_w3 xx0_w3 xx1_w3 xx2_w3 xx3_w3
  have xa0_w4 : World.cell? w4 ⟨g, o, none⟩ = some (.int .i64 a.kind) := Low.cell (PSt.low PSTw4.out) XA0.out
  have xa1_w4 : World.cell? w4 ⟨g, o + 1, none⟩ = some (.string (⟨a.text.toArray⟩ : ByteArray)) := Low.cell (PSt.low PSTw4.out) XA1.out
  have xa2_w4 : World.cell? w4 ⟨g, o + 2, none⟩ = some (.int .i64 a.cols) := Low.cell (PSt.low PSTw4.out) XA2.out
  have xa3_w4 : World.cell? w4 ⟨g, o + 3, none⟩ = some (.slice (some ⟨gx, ox, none⟩) 1 cax) := Low.cell (PSt.low PSTw4.out) XA3.out
  have xb0_w4 : World.cell? w4 ⟨g, o + 4, none⟩ = some (.int .i64 b.kind) := Low.cell (PSt.low PSTw4.out) XB0.out
  have xb1_w4 : World.cell? w4 ⟨g, o + 4 + 1, none⟩ = some (.string (⟨b.text.toArray⟩ : ByteArray)) := Low.cell (PSt.low PSTw4.out) XB1.out
  have xb2_w4 : World.cell? w4 ⟨g, o + 4 + 2, none⟩ = some (.int .i64 b.cols) := Low.cell (PSt.low PSTw4.out) XB2.out
  have xb3_w4 : World.cell? w4 ⟨g, o + 4 + 3, none⟩ = some (sb) := Low.cell (PSt.low PSTw4.out) XB3.out
  have xx0_w4 : World.cell? w4 ⟨gx, ox, none⟩ = some (.int .i64 x.kind) := Low.cell (PSt.low PSTw4.out) XX0.out
  have xx1_w4 : World.cell? w4 ⟨gx, ox + 1, none⟩ = some (.string (⟨x.text.toArray⟩ : ByteArray)) := Low.cell (PSt.low PSTw4.out) XX1.out
  have xx2_w4 : World.cell? w4 ⟨gx, ox + 2, none⟩ = some (.int .i64 x.cols) := Low.cell (PSt.low PSTw4.out) XX2.out
  have xx3_w4 : World.cell? w4 ⟨gx, ox + 3, none⟩ = some (sx) := Low.cell (PSt.low PSTw4.out) XX3.out
  have hlt_g_w4 : g < w4.heap.size := block_lt_of_cell xa0_w4
  have hlt_gx_w4 : gx < w4.heap.size := block_lt_of_cell xx0_w4
  clear htw4
  go_wp2_with fail
  first | go_end0 | refine bodyPost_ret (v := .tuple #[]) (results_none rfl _ _ _) rfl ?_
  exact ⟨rfl, PrAdd.cast ACCw4.out (by first | rfl | (simp only [List.append_assoc] <;> rfl))⟩

set_option maxRecDepth 100000 in
set_option maxHeartbeats 1000000 in
theorem scripts_8_item (W0 : World) (p B : Nat) (tx cl : Value) (a b : Nd) (x : Nd) (hx : a.kids = [x]) (hs : Tr.scripted x = true) (ha : GroupE W0 p B a) (hb : ArgE W0 p B b) (sl : Value) (hsl : RepL W0 [a, b] sl) : Emits 62 #[pp p, .agg #[.int .i64 8, tx, cl, sl]] W0 p B (baseT a ++ ([Tr.mk7 94] ++ argT b)) := by
  intro w toks txt hp hf
  rw [baseT_grp a x hx hs] at hf ⊢
  obtain ⟨g, o, cap, sa, sb, rfl, a0, a1, a2, a3, hra, b0, b1, b2, b3, hrb⟩ := hsl.two
  have GRPa := hid (ha sa hra)
  have ARGb := hid (hb sb hrb)
  rw [hx] at hra
  obtain ⟨gx, ox, cax, sx, rfl, x0, x1, x2, x3, hrx⟩ := hra.one
  have e1 : a.kids.length = 1 := by rw [hx]; rfl
  have HS := hid hs
  clear e1 hs hrx
  have PST0 := hid hp
  have FIT0 := hid hf
  clear hp hf ha hb hsl hra hrb hx
  have XA0 := hid a0
  have XA1 := hid a1
  have XA2 := hid a2
  have XA3 := hid a3
  have XB0 := hid b0
  have XB1 := hid b1
  have XB2 := hid b2
  have XB3 := hid b3
  have XX0 := hid x0
  have XX1 := hid x1
  have XX2 := hid x2
  have XX3 := hid x3
  clear a0 a1 a2 a3 b0 b1 b2 b3 x0 x1 x2 x3
  have xa0_w : World.cell? w ⟨g, o, none⟩ = some (.int .i64 a.kind) := Low.cell (PSt.low PST0.out) XA0.out
  have xa1_w : World.cell? w ⟨g, o + 1, none⟩ = some (.string (⟨a.text.toArray⟩ : ByteArray)) := Low.cell (PSt.low PST0.out) XA1.out
  have xa2_w : World.cell? w ⟨g, o + 2, none⟩ = some (.int .i64 a.cols) := Low.cell (PSt.low PST0.out) XA2.out
  have xa3_w : World.cell? w ⟨g, o + 3, none⟩ = some (.slice (some ⟨gx, ox, none⟩) 1 cax) := Low.cell (PSt.low PST0.out) XA3.out
  have xb0_w : World.cell? w ⟨g, o + 4, none⟩ = some (.int .i64 b.kind) := Low.cell (PSt.low PST0.out) XB0.out
  have xb1_w : World.cell? w ⟨g, o + 4 + 1, none⟩ = some (.string (⟨b.text.toArray⟩ : ByteArray)) := Low.cell (PSt.low PST0.out) XB1.out
  have xb2_w : World.cell? w ⟨g, o + 4 + 2, none⟩ = some (.int .i64 b.cols) := Low.cell (PSt.low PST0.out) XB2.out
  have xb3_w : World.cell? w ⟨g, o + 4 + 3, none⟩ = some (sb) := Low.cell (PSt.low PST0.out) XB3.out
  have xx0_w : World.cell? w ⟨gx, ox, none⟩ = some (.int .i64 x.kind) := Low.cell (PSt.low PST0.out) XX0.out
  have xx1_w : World.cell? w ⟨gx, ox + 1, none⟩ = some (.string (⟨x.text.toArray⟩ : ByteArray)) := Low.cell (PSt.low PST0.out) XX1.out
  have xx2_w : World.cell? w ⟨gx, ox + 2, none⟩ = some (.int .i64 x.cols) := Low.cell (PSt.low PST0.out) XX2.out
  have xx3_w : World.cell? w ⟨gx, ox + 3, none⟩ = some (sx) := Low.cell (PSt.low PST0.out) XX3.out
  have hlt_g_w : g < w.heap.size := block_lt_of_cell xa0_w
  have hlt_gx_w : gx < w.heap.size := block_lt_of_cell xx0_w
  go_enter Try.func62, Try.ntmps62
  go_wp2_with fail
  refine Calls.mono (scripted_is x _ _ HS.out) ?_
  rintro _ w1 ⟨rfl, hfw1⟩
  have HF1 := hid (show Fresh w w1 from by first | exact hfw1 | exact Touch.pre hfw1 | exact Touch.pre (Touch.pre hfw1) | exact Touch.ofN hfw1 | exact Touch.preN hfw1 | exact Touch.pre (Touch.pre (Touch.pre hfw1)))
  have B0_w1 : Blk w1 (w.heap.size) 24 #[.int .i64 (8 : Int), tx, cl, .slice (some ⟨g, o, none⟩) 2 cap] := Touch.blk hfw1 (by first | exact Blk.new _ _ _ | exact (Blk.new _ _ _).alloc _ | exact Blk.new2 _ _ _ _ | exact ((Blk.new _ _ _).alloc _).alloc _ | exact (Blk.new2 _ _ _ _).alloc _ | exact Blk.new3 _ _ _ _ _ | assumption | exact Blk.alloc (by assumption) _ | exact (Blk.alloc (Blk.alloc (by assumption) _) _)) (fun h => h)
  have B1_w1 : Blk w1 (w.heap.size + 1) 24 #[.int .i64 a.kind, .string (⟨a.text.toArray⟩ : ByteArray), .int .i64 a.cols, .slice (some ⟨gx, ox, none⟩) 1 cax] := Touch.blk hfw1 (by first | exact Blk.new _ _ _ | exact (Blk.new _ _ _).alloc _ | exact Blk.new2 _ _ _ _ | exact ((Blk.new _ _ _).alloc _).alloc _ | exact (Blk.new2 _ _ _ _).alloc _ | exact Blk.new3 _ _ _ _ _ | assumption | exact Blk.alloc (by assumption) _ | exact (Blk.alloc (Blk.alloc (by assumption) _) _)) (fun h => h)
  have q0_0_w1 : World.cell? w1 ⟨w.heap.size, 0, none⟩ = some (.int .i64 (8 : Int)) := Blk.cell B0_w1 0
  have q0_1_w1 : World.cell? w1 ⟨w.heap.size, 1, none⟩ = some (tx) := Blk.cell B0_w1 1
  have q0_2_w1 : World.cell? w1 ⟨w.heap.size, 2, none⟩ = some (cl) := Blk.cell B0_w1 2
  have q0_3_w1 : World.cell? w1 ⟨w.heap.size, 3, none⟩ = some (.slice (some ⟨g, o, none⟩) 2 cap) := Blk.cell B0_w1 3
  have q1_0_w1 : World.cell? w1 ⟨w.heap.size + 1, 0, none⟩ = some (.int .i64 a.kind) := Blk.cell B1_w1 0
  have q1_1_w1 : World.cell? w1 ⟨w.heap.size + 1, 1, none⟩ = some (.string (⟨a.text.toArray⟩ : ByteArray)) := Blk.cell B1_w1 1
  have q1_2_w1 : World.cell? w1 ⟨w.heap.size + 1, 2, none⟩ = some (.int .i64 a.cols) := Blk.cell B1_w1 2
  have q1_3_w1 : World.cell? w1 ⟨w.heap.size + 1, 3, none⟩ = some (.slice (some ⟨gx, ox, none⟩) 1 cax) := Blk.cell B1_w1 3
  have xa0_w1 : World.cell? w1 ⟨g, o, none⟩ = some (.int .i64 a.kind) := Touch.cell HF1.out xa0_w (fun h => h)
  have xa1_w1 : World.cell? w1 ⟨g, o + 1, none⟩ = some (.string (⟨a.text.toArray⟩ : ByteArray)) := Touch.cell HF1.out xa1_w (fun h => h)
  have xa2_w1 : World.cell? w1 ⟨g, o + 2, none⟩ = some (.int .i64 a.cols) := Touch.cell HF1.out xa2_w (fun h => h)
  have xa3_w1 : World.cell? w1 ⟨g, o + 3, none⟩ = some (.slice (some ⟨gx, ox, none⟩) 1 cax) := Touch.cell HF1.out xa3_w (fun h => h)
  have xb0_w1 : World.cell? w1 ⟨g, o + 4, none⟩ = some (.int .i64 b.kind) := Touch.cell HF1.out xb0_w (fun h => h)
  have xb1_w1 : World.cell? w1 ⟨g, o + 4 + 1, none⟩ = some (.string (⟨b.text.toArray⟩ : ByteArray)) := Touch.cell HF1.out xb1_w (fun h => h)
  have xb2_w1 : World.cell? w1 ⟨g, o + 4 + 2, none⟩ = some (.int .i64 b.cols) := Touch.cell HF1.out xb2_w (fun h => h)
  have xb3_w1 : World.cell? w1 ⟨g, o + 4 + 3, none⟩ = some (sb) := Touch.cell HF1.out xb3_w (fun h => h)
  have xx0_w1 : World.cell? w1 ⟨gx, ox, none⟩ = some (.int .i64 x.kind) := Touch.cell HF1.out xx0_w (fun h => h)
  have xx1_w1 : World.cell? w1 ⟨gx, ox + 1, none⟩ = some (.string (⟨x.text.toArray⟩ : ByteArray)) := Touch.cell HF1.out xx1_w (fun h => h)
  have xx2_w1 : World.cell? w1 ⟨gx, ox + 2, none⟩ = some (.int .i64 x.cols) := Touch.cell HF1.out xx2_w (fun h => h)
  have xx3_w1 : World.cell? w1 ⟨gx, ox + 3, none⟩ = some (sx) := Touch.cell HF1.out xx3_w (fun h => h)
  clear xa0_w xa1_w xa2_w xa3_w xb0_w xb1_w xb2_w xb3_w xx0_w xx1_w xx2_w xx3_w
  have hlt_g_w1 : g < w1.heap.size := block_lt_of_cell xa0_w1
  have hlt_gx_w1 : gx < w1.heap.size := block_lt_of_cell xx0_w1
  have PSTw1 := hid (PSt.fresh PST0.out HF1.out)
  clear hfw1
  go_wp2_with fail
  refine Calls.mono ((GRPa.out) _ _ _ (PSt.fresh PSTw1.out (by first | exact (Touch.refl _ _) | exact (Touch.refl _ _).alloc _ | exact ((Touch.refl _ _).alloc _).alloc _ | exact (((Touch.refl _ _).alloc _).alloc _).alloc _ | exact (Touch.refl _ _).drewN _ | exact ((Touch.refl _ _).alloc _).drewN _ | exact (((Touch.refl _ _).alloc _).alloc _).drewN _)) FIT0.out.left) ?_
  rintro _ w2 ⟨rfl, htw2⟩
  have PSTw2 := hid (PSt.add (PSt.fresh PSTw1.out (by first | exact (Touch.refl _ _) | exact (Touch.refl _ _).alloc _ | exact ((Touch.refl _ _).alloc _).alloc _ | exact (((Touch.refl _ _).alloc _).alloc _).alloc _ | exact (Touch.refl _ _).drewN _ | exact ((Touch.refl _ _).alloc _).drewN _ | exact (((Touch.refl _ _).alloc _).alloc _).drewN _)) htw2)
  have ACCw2 := hid (PrAdd.freshL (show Fresh w _ from (by first | exact HF1.out | exact HF1.out.alloc _ | exact (HF1.out.alloc _).alloc _ | exact ((HF1.out.alloc _).alloc _).alloc _ | exact HF1.out.drewN _ | exact (HF1.out.alloc _).drewN _ | exact ((HF1.out.alloc _).alloc _).drewN _)) htw2)
  have FITw2 := hid (Fits.right FIT0.out)
  have B0_w2 : Blk w2 (w.heap.size) 24 #[.int .i64 (8 : Int), tx, cl, .slice (some ⟨g, o, none⟩) 2 cap] := PrAdd.blk htw2 (by first | exact Blk.new _ _ _ | exact (Blk.new _ _ _).alloc _ | exact Blk.new2 _ _ _ _ | exact ((Blk.new _ _ _).alloc _).alloc _ | exact (Blk.new2 _ _ _ _).alloc _ | exact Blk.new3 _ _ _ _ _ | assumption | exact Blk.alloc (by assumption) _ | exact (Blk.alloc (Blk.alloc (by assumption) _) _)) (by have := PSt.lt PST0.out; have := PSt.hB PST0.out; omega) (by decide) (by decide)
  have B1_w2 : Blk w2 (w.heap.size + 1) 24 #[.int .i64 a.kind, .string (⟨a.text.toArray⟩ : ByteArray), .int .i64 a.cols, .slice (some ⟨gx, ox, none⟩) 1 cax] := PrAdd.blk htw2 (by first | exact Blk.new _ _ _ | exact (Blk.new _ _ _).alloc _ | exact Blk.new2 _ _ _ _ | exact ((Blk.new _ _ _).alloc _).alloc _ | exact (Blk.new2 _ _ _ _).alloc _ | exact Blk.new3 _ _ _ _ _ | assumption | exact Blk.alloc (by assumption) _ | exact (Blk.alloc (Blk.alloc (by assumption) _) _)) (by have := PSt.lt PST0.out; have := PSt.hB PST0.out; omega) (by decide) (by decide)
  clear q0_0_w1 q0_1_w1 q0_2_w1 q0_3_w1 B0_w1 q1_0_w1 q1_1_w1 q1_2_w1 q1_3_w1 B1_w1
  have q0_0_w2 : World.cell? w2 ⟨w.heap.size, 0, none⟩ = some (.int .i64 (8 : Int)) := Blk.cell B0_w2 0
  have q0_1_w2 : World.cell? w2 ⟨w.heap.size, 1, none⟩ = some (tx) := Blk.cell B0_w2 1
  have q0_2_w2 : World.cell? w2 ⟨w.heap.size, 2, none⟩ = some (cl) := Blk.cell B0_w2 2
  have q0_3_w2 : World.cell? w2 ⟨w.heap.size, 3, none⟩ = some (.slice (some ⟨g, o, none⟩) 2 cap) := Blk.cell B0_w2 3
  have q1_0_w2 : World.cell? w2 ⟨w.heap.size + 1, 0, none⟩ = some (.int .i64 a.kind) := Blk.cell B1_w2 0
  have q1_1_w2 : World.cell? w2 ⟨w.heap.size + 1, 1, none⟩ = some (.string (⟨a.text.toArray⟩ : ByteArray)) := Blk.cell B1_w2 1
  have q1_2_w2 : World.cell? w2 ⟨w.heap.size + 1, 2, none⟩ = some (.int .i64 a.cols) := Blk.cell B1_w2 2
  have q1_3_w2 : World.cell? w2 ⟨w.heap.size + 1, 3, none⟩ = some (.slice (some ⟨gx, ox, none⟩) 1 cax) := Blk.cell B1_w2 3
  clear xa0_w1 xa1_w1 xa2_w1 xa3_w1 xb0_w1 xb1_w1 xb2_w1 xb3_w1 xx0_w1 xx1_w1 xx2_w1 xx3_w1
  have xa0_w2 : World.cell? w2 ⟨g, o, none⟩ = some (.int .i64 a.kind) := Low.cell (PSt.low PSTw2.out) XA0.out
  have xa1_w2 : World.cell? w2 ⟨g, o + 1, none⟩ = some (.string (⟨a.text.toArray⟩ : ByteArray)) := Low.cell (PSt.low PSTw2.out) XA1.out
  have xa2_w2 : World.cell? w2 ⟨g, o + 2, none⟩ = some (.int .i64 a.cols) := Low.cell (PSt.low PSTw2.out) XA2.out
  have xa3_w2 : World.cell? w2 ⟨g, o + 3, none⟩ = some (.slice (some ⟨gx, ox, none⟩) 1 cax) := Low.cell (PSt.low PSTw2.out) XA3.out
  have xb0_w2 : World.cell? w2 ⟨g, o + 4, none⟩ = some (.int .i64 b.kind) := Low.cell (PSt.low PSTw2.out) XB0.out
  have xb1_w2 : World.cell? w2 ⟨g, o + 4 + 1, none⟩ = some (.string (⟨b.text.toArray⟩ : ByteArray)) := Low.cell (PSt.low PSTw2.out) XB1.out
  have xb2_w2 : World.cell? w2 ⟨g, o + 4 + 2, none⟩ = some (.int .i64 b.cols) := Low.cell (PSt.low PSTw2.out) XB2.out
  have xb3_w2 : World.cell? w2 ⟨g, o + 4 + 3, none⟩ = some (sb) := Low.cell (PSt.low PSTw2.out) XB3.out
  have xx0_w2 : World.cell? w2 ⟨gx, ox, none⟩ = some (.int .i64 x.kind) := Low.cell (PSt.low PSTw2.out) XX0.out
  have xx1_w2 : World.cell? w2 ⟨gx, ox + 1, none⟩ = some (.string (⟨x.text.toArray⟩ : ByteArray)) := Low.cell (PSt.low PSTw2.out) XX1.out
  have xx2_w2 : World.cell? w2 ⟨gx, ox + 2, none⟩ = some (.int .i64 x.cols) := Low.cell (PSt.low PSTw2.out) XX2.out
  have xx3_w2 : World.cell? w2 ⟨gx, ox + 3, none⟩ = some (sx) := Low.cell (PSt.low PSTw2.out) XX3.out
  have hlt_g_w2 : g < w2.heap.size := block_lt_of_cell xa0_w2
  have hlt_gx_w2 : gx < w2.heap.size := block_lt_of_cell xx0_w2
  clear htw2
  go_wp2_with fail
  refine Calls.mono ((mark_em W0 p B [94]) _ _ _ (PSt.fresh PSTw2.out (by first | exact (Touch.refl _ _) | exact (Touch.refl _ _).alloc _ | exact ((Touch.refl _ _).alloc _).alloc _ | exact (((Touch.refl _ _).alloc _).alloc _).alloc _ | exact (Touch.refl _ _).drewN _ | exact ((Touch.refl _ _).alloc _).drewN _ | exact (((Touch.refl _ _).alloc _).alloc _).drewN _)) FITw2.out.left) ?_
  rintro _ w3 ⟨rfl, htw3⟩
  have PSTw3 := hid (PSt.add2 (PSt.fresh PSTw2.out (by first | exact (Touch.refl _ _) | exact (Touch.refl _ _).alloc _ | exact ((Touch.refl _ _).alloc _).alloc _ | exact (((Touch.refl _ _).alloc _).alloc _).alloc _ | exact (Touch.refl _ _).drewN _ | exact ((Touch.refl _ _).alloc _).drewN _ | exact (((Touch.refl _ _).alloc _).alloc _).drewN _)) htw3)
  have ACCw3 := hid (PrAdd.app ACCw2.out (PrAdd.freshL (show Fresh w2 _ from (by first | exact (Touch.refl _ _) | exact (Touch.refl _ _).alloc _ | exact ((Touch.refl _ _).alloc _).alloc _ | exact (((Touch.refl _ _).alloc _).alloc _).alloc _ | exact (Touch.refl _ _).drewN _ | exact ((Touch.refl _ _).alloc _).drewN _ | exact (((Touch.refl _ _).alloc _).alloc _).drewN _)) htw3))
  have FITw3 := hid (Fits.right2 FITw2.out)
  have B0_w3 : Blk w3 (w.heap.size) 24 #[.int .i64 (8 : Int), tx, cl, .slice (some ⟨g, o, none⟩) 2 cap] := PrAdd.blk htw3 (by first | exact Blk.new _ _ _ | exact (Blk.new _ _ _).alloc _ | exact Blk.new2 _ _ _ _ | exact ((Blk.new _ _ _).alloc _).alloc _ | exact (Blk.new2 _ _ _ _).alloc _ | exact Blk.new3 _ _ _ _ _ | assumption | exact Blk.alloc (by assumption) _ | exact (Blk.alloc (Blk.alloc (by assumption) _) _)) (by have := PSt.lt PST0.out; have := PSt.hB PST0.out; omega) (by decide) (by decide)
  have B1_w3 : Blk w3 (w.heap.size + 1) 24 #[.int .i64 a.kind, .string (⟨a.text.toArray⟩ : ByteArray), .int .i64 a.cols, .slice (some ⟨gx, ox, none⟩) 1 cax] := PrAdd.blk htw3 (by first | exact Blk.new _ _ _ | exact (Blk.new _ _ _).alloc _ | exact Blk.new2 _ _ _ _ | exact ((Blk.new _ _ _).alloc _).alloc _ | exact (Blk.new2 _ _ _ _).alloc _ | exact Blk.new3 _ _ _ _ _ | assumption | exact Blk.alloc (by assumption) _ | exact (Blk.alloc (Blk.alloc (by assumption) _) _)) (by have := PSt.lt PST0.out; have := PSt.hB PST0.out; omega) (by decide) (by decide)
  clear q0_0_w2 q0_1_w2 q0_2_w2 q0_3_w2 B0_w2 q1_0_w2 q1_1_w2 q1_2_w2 q1_3_w2 B1_w2
  have q0_0_w3 : World.cell? w3 ⟨w.heap.size, 0, none⟩ = some (.int .i64 (8 : Int)) := Blk.cell B0_w3 0
  have q0_1_w3 : World.cell? w3 ⟨w.heap.size, 1, none⟩ = some (tx) := Blk.cell B0_w3 1
  have q0_2_w3 : World.cell? w3 ⟨w.heap.size, 2, none⟩ = some (cl) := Blk.cell B0_w3 2
  have q0_3_w3 : World.cell? w3 ⟨w.heap.size, 3, none⟩ = some (.slice (some ⟨g, o, none⟩) 2 cap) := Blk.cell B0_w3 3
  have q1_0_w3 : World.cell? w3 ⟨w.heap.size + 1, 0, none⟩ = some (.int .i64 a.kind) := Blk.cell B1_w3 0
  have q1_1_w3 : World.cell? w3 ⟨w.heap.size + 1, 1, none⟩ = some (.string (⟨a.text.toArray⟩ : ByteArray)) := Blk.cell B1_w3 1
  have q1_2_w3 : World.cell? w3 ⟨w.heap.size + 1, 2, none⟩ = some (.int .i64 a.cols) := Blk.cell B1_w3 2
  have q1_3_w3 : World.cell? w3 ⟨w.heap.size + 1, 3, none⟩ = some (.slice (some ⟨gx, ox, none⟩) 1 cax) := Blk.cell B1_w3 3
  clear xa0_w2 xa1_w2 xa2_w2 xa3_w2 xb0_w2 xb1_w2 xb2_w2 xb3_w2 xx0_w2 xx1_w2 xx2_w2 xx3_w2
  have xa0_w3 : World.cell? w3 ⟨g, o, none⟩ = some (.int .i64 a.kind) := Low.cell (PSt.low PSTw3.out) XA0.out
  have xa1_w3 : World.cell? w3 ⟨g, o + 1, none⟩ = some (.string (⟨a.text.toArray⟩ : ByteArray)) := Low.cell (PSt.low PSTw3.out) XA1.out
  have xa2_w3 : World.cell? w3 ⟨g, o + 2, none⟩ = some (.int .i64 a.cols) := Low.cell (PSt.low PSTw3.out) XA2.out
  have xa3_w3 : World.cell? w3 ⟨g, o + 3, none⟩ = some (.slice (some ⟨gx, ox, none⟩) 1 cax) := Low.cell (PSt.low PSTw3.out) XA3.out
  have xb0_w3 : World.cell? w3 ⟨g, o + 4, none⟩ = some (.int .i64 b.kind) := Low.cell (PSt.low PSTw3.out) XB0.out
  have xb1_w3 : World.cell? w3 ⟨g, o + 4 + 1, none⟩ = some (.string (⟨b.text.toArray⟩ : ByteArray)) := Low.cell (PSt.low PSTw3.out) XB1.out
  have xb2_w3 : World.cell? w3 ⟨g, o + 4 + 2, none⟩ = some (.int .i64 b.cols) := Low.cell (PSt.low PSTw3.out) XB2.out
  have xb3_w3 : World.cell? w3 ⟨g, o + 4 + 3, none⟩ = some (sb) := Low.cell (PSt.low PSTw3.out) XB3.out
  have xx0_w3 : World.cell? w3 ⟨gx, ox, none⟩ = some (.int .i64 x.kind) := Low.cell (PSt.low PSTw3.out) XX0.out
  have xx1_w3 : World.cell? w3 ⟨gx, ox + 1, none⟩ = some (.string (⟨x.text.toArray⟩ : ByteArray)) := Low.cell (PSt.low PSTw3.out) XX1.out
  have xx2_w3 : World.cell? w3 ⟨gx, ox + 2, none⟩ = some (.int .i64 x.cols) := Low.cell (PSt.low PSTw3.out) XX2.out
  have xx3_w3 : World.cell? w3 ⟨gx, ox + 3, none⟩ = some (sx) := Low.cell (PSt.low PSTw3.out) XX3.out
  have hlt_g_w3 : g < w3.heap.size := block_lt_of_cell xa0_w3
  have hlt_gx_w3 : gx < w3.heap.size := block_lt_of_cell xx0_w3
  clear htw3
  go_wp2_with fail
  refine Calls.mono ((ARGb.out) _ _ _ (PSt.fresh PSTw3.out (by first | exact (Touch.refl _ _) | exact (Touch.refl _ _).alloc _ | exact ((Touch.refl _ _).alloc _).alloc _ | exact (((Touch.refl _ _).alloc _).alloc _).alloc _ | exact (Touch.refl _ _).drewN _ | exact ((Touch.refl _ _).alloc _).drewN _ | exact (((Touch.refl _ _).alloc _).alloc _).drewN _)) FITw3.out) ?_
  rintro _ w4 ⟨rfl, htw4⟩
  have PSTw4 := hid (PSt.add2 (PSt.fresh PSTw3.out (by first | exact (Touch.refl _ _) | exact (Touch.refl _ _).alloc _ | exact ((Touch.refl _ _).alloc _).alloc _ | exact (((Touch.refl _ _).alloc _).alloc _).alloc _ | exact (Touch.refl _ _).drewN _ | exact ((Touch.refl _ _).alloc _).drewN _ | exact (((Touch.refl _ _).alloc _).alloc _).drewN _)) htw4)
  have ACCw4 := hid (PrAdd.app ACCw3.out (PrAdd.freshL (show Fresh w3 _ from (by first | exact (Touch.refl _ _) | exact (Touch.refl _ _).alloc _ | exact ((Touch.refl _ _).alloc _).alloc _ | exact (((Touch.refl _ _).alloc _).alloc _).alloc _ | exact (Touch.refl _ _).drewN _ | exact ((Touch.refl _ _).alloc _).drewN _ | exact (((Touch.refl _ _).alloc _).alloc _).drewN _)) htw4))
  have B0_w4 : Blk w4 (w.heap.size) 24 #[.int .i64 (8 : Int), tx, cl, .slice (some ⟨g, o, none⟩) 2 cap] := PrAdd.blk htw4 (by first | exact Blk.new _ _ _ | exact (Blk.new _ _ _).alloc _ | exact Blk.new2 _ _ _ _ | exact ((Blk.new _ _ _).alloc _).alloc _ | exact (Blk.new2 _ _ _ _).alloc _ | exact Blk.new3 _ _ _ _ _ | assumption | exact Blk.alloc (by assumption) _ | exact (Blk.alloc (Blk.alloc (by assumption) _) _)) (by have := PSt.lt PST0.out; have := PSt.hB PST0.out; omega) (by decide) (by decide)
  have B1_w4 : Blk w4 (w.heap.size + 1) 24 #[.int .i64 a.kind, .string (⟨a.text.toArray⟩ : ByteArray), .int .i64 a.cols, .slice (some ⟨gx, ox, none⟩) 1 cax] := PrAdd.blk htw4 (by first | exact Blk.new _ _ _ | exact (Blk.new _ _ _).alloc _ | exact Blk.new2 _ _ _ _ | exact ((Blk.new _ _ _).alloc _).alloc _ | exact (Blk.new2 _ _ _ _).alloc _ | exact Blk.new3 _ _ _ _ _ | assumption | exact Blk.alloc (by assumption) _ | exact (Blk.alloc (Blk.alloc (by assumption) _) _)) (by have := PSt.lt PST0.out; have := PSt.hB PST0.out; omega) (by decide) (by decide)
  clear q0_0_w3 q0_1_w3 q0_2_w3 q0_3_w3 B0_w3 q1_0_w3 q1_1_w3 q1_2_w3 q1_3_w3 B1_w3
  have q0_0_w4 : World.cell? w4 ⟨w.heap.size, 0, none⟩ = some (.int .i64 (8 : Int)) := Blk.cell B0_w4 0
  have q0_1_w4 : World.cell? w4 ⟨w.heap.size, 1, none⟩ = some (tx) := Blk.cell B0_w4 1
  have q0_2_w4 : World.cell? w4 ⟨w.heap.size, 2, none⟩ = some (cl) := Blk.cell B0_w4 2
  have q0_3_w4 : World.cell? w4 ⟨w.heap.size, 3, none⟩ = some (.slice (some ⟨g, o, none⟩) 2 cap) := Blk.cell B0_w4 3
  have q1_0_w4 : World.cell? w4 ⟨w.heap.size + 1, 0, none⟩ = some (.int .i64 a.kind) := Blk.cell B1_w4 0
  have q1_1_w4 : World.cell? w4 ⟨w.heap.size + 1, 1, none⟩ = some (.string (⟨a.text.toArray⟩ : ByteArray)) := Blk.cell B1_w4 1
  have q1_2_w4 : World.cell? w4 ⟨w.heap.size + 1, 2, none⟩ = some (.int .i64 a.cols) := Blk.cell B1_w4 2
  have q1_3_w4 : World.cell? w4 ⟨w.heap.size + 1, 3, none⟩ = some (.slice (some ⟨gx, ox, none⟩) 1 cax) := Blk.cell B1_w4 3
  clear xa0_w3 xa1_w3 xa2_w3 xa3_w3 xb0_w3 xb1_w3 xb2_w3 xb3_w3 xx0_w3 xx1_w3 xx2_w3 xx3_w3
  have xa0_w4 : World.cell? w4 ⟨g, o, none⟩ = some (.int .i64 a.kind) := Low.cell (PSt.low PSTw4.out) XA0.out
  have xa1_w4 : World.cell? w4 ⟨g, o + 1, none⟩ = some (.string (⟨a.text.toArray⟩ : ByteArray)) := Low.cell (PSt.low PSTw4.out) XA1.out
  have xa2_w4 : World.cell? w4 ⟨g, o + 2, none⟩ = some (.int .i64 a.cols) := Low.cell (PSt.low PSTw4.out) XA2.out
  have xa3_w4 : World.cell? w4 ⟨g, o + 3, none⟩ = some (.slice (some ⟨gx, ox, none⟩) 1 cax) := Low.cell (PSt.low PSTw4.out) XA3.out
  have xb0_w4 : World.cell? w4 ⟨g, o + 4, none⟩ = some (.int .i64 b.kind) := Low.cell (PSt.low PSTw4.out) XB0.out
  have xb1_w4 : World.cell? w4 ⟨g, o + 4 + 1, none⟩ = some (.string (⟨b.text.toArray⟩ : ByteArray)) := Low.cell (PSt.low PSTw4.out) XB1.out
  have xb2_w4 : World.cell? w4 ⟨g, o + 4 + 2, none⟩ = some (.int .i64 b.cols) := Low.cell (PSt.low PSTw4.out) XB2.out
  have xb3_w4 : World.cell? w4 ⟨g, o + 4 + 3, none⟩ = some (sb) := Low.cell (PSt.low PSTw4.out) XB3.out
  have xx0_w4 : World.cell? w4 ⟨gx, ox, none⟩ = some (.int .i64 x.kind) := Low.cell (PSt.low PSTw4.out) XX0.out
  have xx1_w4 : World.cell? w4 ⟨gx, ox + 1, none⟩ = some (.string (⟨x.text.toArray⟩ : ByteArray)) := Low.cell (PSt.low PSTw4.out) XX1.out
  have xx2_w4 : World.cell? w4 ⟨gx, ox + 2, none⟩ = some (.int .i64 x.cols) := Low.cell (PSt.low PSTw4.out) XX2.out
  have xx3_w4 : World.cell? w4 ⟨gx, ox + 3, none⟩ = some (sx) := Low.cell (PSt.low PSTw4.out) XX3.out
  have hlt_g_w4 : g < w4.heap.size := block_lt_of_cell xa0_w4
  have hlt_gx_w4 : gx < w4.heap.size := block_lt_of_cell xx0_w4
  clear htw4
  go_wp2_with fail
  first | go_end0 | refine bodyPost_ret (v := .tuple #[]) (results_none rfl _ _ _) rfl ?_
  exact ⟨rfl, PrAdd.cast ACCw4.out (by first | rfl | (simp only [List.append_assoc] <;> rfl))⟩

set_option maxRecDepth 100000 in
set_option maxHeartbeats 1000000 in
theorem scripts_8_len (W0 : World) (p B : Nat) (tx cl : Value) (a b : Nd) (hx : a.kids.length ≠ 1) (ha : GroupE W0 p B a) (hb : ArgE W0 p B b) (sl : Value) (hsl : RepL W0 [a, b] sl) : Emits 62 #[pp p, .agg #[.int .i64 8, tx, cl, sl]] W0 p B (baseT a ++ ([Tr.mk7 94] ++ argT b)) := by
  intro w toks txt hp hf
  rw [baseT_len1 a hx] at hf ⊢
  obtain ⟨g, o, cap, sa, sb, rfl, a0, a1, a2, a3, hra, b0, b1, b2, b3, hrb⟩ := hsl.two
  have GRPa := hid (ha sa hra)
  have ARGb := hid (hb sb hrb)
  obtain ⟨Aa, capa, rfl⟩ := hra.slice
  have f1 : ((a.kids.length : Int) == 1) = false := by simp only [beq_eq_false_iff_ne]; omega
  have f2 : ¬ (a.kids.length : Int) = 1 := by omega
  have PST0 := hid hp
  have FIT0 := hid hf
  clear hp hf ha hb hsl hra hrb hx
  have XA0 := hid a0
  have XA1 := hid a1
  have XA2 := hid a2
  have XA3 := hid a3
  have XB0 := hid b0
  have XB1 := hid b1
  have XB2 := hid b2
  have XB3 := hid b3
  clear a0 a1 a2 a3 b0 b1 b2 b3
  have xa0_w : World.cell? w ⟨g, o, none⟩ = some (.int .i64 a.kind) := Low.cell (PSt.low PST0.out) XA0.out
  have xa1_w : World.cell? w ⟨g, o + 1, none⟩ = some (.string (⟨a.text.toArray⟩ : ByteArray)) := Low.cell (PSt.low PST0.out) XA1.out
  have xa2_w : World.cell? w ⟨g, o + 2, none⟩ = some (.int .i64 a.cols) := Low.cell (PSt.low PST0.out) XA2.out
  have xa3_w : World.cell? w ⟨g, o + 3, none⟩ = some (.slice Aa a.kids.length capa) := Low.cell (PSt.low PST0.out) XA3.out
  have xb0_w : World.cell? w ⟨g, o + 4, none⟩ = some (.int .i64 b.kind) := Low.cell (PSt.low PST0.out) XB0.out
  have xb1_w : World.cell? w ⟨g, o + 4 + 1, none⟩ = some (.string (⟨b.text.toArray⟩ : ByteArray)) := Low.cell (PSt.low PST0.out) XB1.out
  have xb2_w : World.cell? w ⟨g, o + 4 + 2, none⟩ = some (.int .i64 b.cols) := Low.cell (PSt.low PST0.out) XB2.out
  have xb3_w : World.cell? w ⟨g, o + 4 + 3, none⟩ = some (sb) := Low.cell (PSt.low PST0.out) XB3.out
  have hlt_g_w : g < w.heap.size := block_lt_of_cell xa0_w
  go_enter Try.func62, Try.ntmps62
  go_wp2_with fail
  refine Calls.mono ((GRPa.out) _ _ _ (PSt.fresh PST0.out (by first | exact (Touch.refl _ _) | exact (Touch.refl _ _).alloc _ | exact ((Touch.refl _ _).alloc _).alloc _ | exact (((Touch.refl _ _).alloc _).alloc _).alloc _ | exact (Touch.refl _ _).drewN _ | exact ((Touch.refl _ _).alloc _).drewN _ | exact (((Touch.refl _ _).alloc _).alloc _).drewN _)) FIT0.out.left) ?_
  rintro _ w1 ⟨rfl, htw1⟩
  have PSTw1 := hid (PSt.add (PSt.fresh PST0.out (by first | exact (Touch.refl _ _) | exact (Touch.refl _ _).alloc _ | exact ((Touch.refl _ _).alloc _).alloc _ | exact (((Touch.refl _ _).alloc _).alloc _).alloc _ | exact (Touch.refl _ _).drewN _ | exact ((Touch.refl _ _).alloc _).drewN _ | exact (((Touch.refl _ _).alloc _).alloc _).drewN _)) htw1)
  have ACCw1 := hid (PrAdd.freshL (show Fresh w _ from (by first | exact (Touch.refl _ _) | exact (Touch.refl _ _).alloc _ | exact ((Touch.refl _ _).alloc _).alloc _ | exact (((Touch.refl _ _).alloc _).alloc _).alloc _ | exact (Touch.refl _ _).drewN _ | exact ((Touch.refl _ _).alloc _).drewN _ | exact (((Touch.refl _ _).alloc _).alloc _).drewN _)) htw1)
  have FITw1 := hid (Fits.right FIT0.out)
  have B0_w1 : Blk w1 (w.heap.size) 24 #[.int .i64 (8 : Int), tx, cl, .slice (some ⟨g, o, none⟩) 2 cap] := PrAdd.blk htw1 (by first | exact Blk.new _ _ _ | exact (Blk.new _ _ _).alloc _ | exact Blk.new2 _ _ _ _ | exact ((Blk.new _ _ _).alloc _).alloc _ | exact (Blk.new2 _ _ _ _).alloc _ | exact Blk.new3 _ _ _ _ _ | assumption | exact Blk.alloc (by assumption) _ | exact (Blk.alloc (Blk.alloc (by assumption) _) _)) (by have := PSt.lt PST0.out; have := PSt.hB PST0.out; omega) (by decide) (by decide)
  have B1_w1 : Blk w1 (w.heap.size + 1) 24 #[.int .i64 a.kind, .string (⟨a.text.toArray⟩ : ByteArray), .int .i64 a.cols, .slice Aa a.kids.length capa] := PrAdd.blk htw1 (by first | exact Blk.new _ _ _ | exact (Blk.new _ _ _).alloc _ | exact Blk.new2 _ _ _ _ | exact ((Blk.new _ _ _).alloc _).alloc _ | exact (Blk.new2 _ _ _ _).alloc _ | exact Blk.new3 _ _ _ _ _ | assumption | exact Blk.alloc (by assumption) _ | exact (Blk.alloc (Blk.alloc (by assumption) _) _)) (by have := PSt.lt PST0.out; have := PSt.hB PST0.out; omega) (by decide) (by decide)
  have q0_0_w1 : World.cell? w1 ⟨w.heap.size, 0, none⟩ = some (.int .i64 (8 : Int)) := Blk.cell B0_w1 0
  have q0_1_w1 : World.cell? w1 ⟨w.heap.size, 1, none⟩ = some (tx) := Blk.cell B0_w1 1
  have q0_2_w1 : World.cell? w1 ⟨w.heap.size, 2, none⟩ = some (cl) := Blk.cell B0_w1 2
  have q0_3_w1 : World.cell? w1 ⟨w.heap.size, 3, none⟩ = some (.slice (some ⟨g, o, none⟩) 2 cap) := Blk.cell B0_w1 3
  have q1_0_w1 : World.cell? w1 ⟨w.heap.size + 1, 0, none⟩ = some (.int .i64 a.kind) := Blk.cell B1_w1 0
  have q1_1_w1 : World.cell? w1 ⟨w.heap.size + 1, 1, none⟩ = some (.string (⟨a.text.toArray⟩ : ByteArray)) := Blk.cell B1_w1 1
  have q1_2_w1 : World.cell? w1 ⟨w.heap.size + 1, 2, none⟩ = some (.int .i64 a.cols) := Blk.cell B1_w1 2
  have q1_3_w1 : World.cell? w1 ⟨w.heap.size + 1, 3, none⟩ = some (.slice Aa a.kids.length capa) := Blk.cell B1_w1 3
  clear xa0_w xa1_w xa2_w xa3_w xb0_w xb1_w xb2_w xb3_w
  have xa0_w1 : World.cell? w1 ⟨g, o, none⟩ = some (.int .i64 a.kind) := Low.cell (PSt.low PSTw1.out) XA0.out
  have xa1_w1 : World.cell? w1 ⟨g, o + 1, none⟩ = some (.string (⟨a.text.toArray⟩ : ByteArray)) := Low.cell (PSt.low PSTw1.out) XA1.out
  have xa2_w1 : World.cell? w1 ⟨g, o + 2, none⟩ = some (.int .i64 a.cols) := Low.cell (PSt.low PSTw1.out) XA2.out
  have xa3_w1 : World.cell? w1 ⟨g, o + 3, none⟩ = some (.slice Aa a.kids.length capa) := Low.cell (PSt.low PSTw1.out) XA3.out
  have xb0_w1 : World.cell? w1 ⟨g, o + 4, none⟩ = some (.int .i64 b.kind) := Low.cell (PSt.low PSTw1.out) XB0.out
  have xb1_w1 : World.cell? w1 ⟨g, o + 4 + 1, none⟩ = some (.string (⟨b.text.toArray⟩ : ByteArray)) := Low.cell (PSt.low PSTw1.out) XB1.out
  have xb2_w1 : World.cell? w1 ⟨g, o + 4 + 2, none⟩ = some (.int .i64 b.cols) := Low.cell (PSt.low PSTw1.out) XB2.out
  have xb3_w1 : World.cell? w1 ⟨g, o + 4 + 3, none⟩ = some (sb) := Low.cell (PSt.low PSTw1.out) XB3.out
  have hlt_g_w1 : g < w1.heap.size := block_lt_of_cell xa0_w1
  clear htw1
  go_wp2_with fail
  refine Calls.mono ((mark_em W0 p B [94]) _ _ _ (PSt.fresh PSTw1.out (by first | exact (Touch.refl _ _) | exact (Touch.refl _ _).alloc _ | exact ((Touch.refl _ _).alloc _).alloc _ | exact (((Touch.refl _ _).alloc _).alloc _).alloc _ | exact (Touch.refl _ _).drewN _ | exact ((Touch.refl _ _).alloc _).drewN _ | exact (((Touch.refl _ _).alloc _).alloc _).drewN _)) FITw1.out.left) ?_
  rintro _ w2 ⟨rfl, htw2⟩
  have PSTw2 := hid (PSt.add2 (PSt.fresh PSTw1.out (by first | exact (Touch.refl _ _) | exact (Touch.refl _ _).alloc _ | exact ((Touch.refl _ _).alloc _).alloc _ | exact (((Touch.refl _ _).alloc _).alloc _).alloc _ | exact (Touch.refl _ _).drewN _ | exact ((Touch.refl _ _).alloc _).drewN _ | exact (((Touch.refl _ _).alloc _).alloc _).drewN _)) htw2)
  have ACCw2 := hid (PrAdd.app ACCw1.out (PrAdd.freshL (show Fresh w1 _ from (by first | exact (Touch.refl _ _) | exact (Touch.refl _ _).alloc _ | exact ((Touch.refl _ _).alloc _).alloc _ | exact (((Touch.refl _ _).alloc _).alloc _).alloc _ | exact (Touch.refl _ _).drewN _ | exact ((Touch.refl _ _).alloc _).drewN _ | exact (((Touch.refl _ _).alloc _).alloc _).drewN _)) htw2))
  have FITw2 := hid (Fits.right2 FITw1.out)
  have B0_w2 : Blk w2 (w.heap.size) 24 #[.int .i64 (8 : Int), tx, cl, .slice (some ⟨g, o, none⟩) 2 cap] := PrAdd.blk htw2 (by first | exact Blk.new _ _ _ | exact (Blk.new _ _ _).alloc _ | exact Blk.new2 _ _ _ _ | exact ((Blk.new _ _ _).alloc _).alloc _ | exact (Blk.new2 _ _ _ _).alloc _ | exact Blk.new3 _ _ _ _ _ | assumption | exact Blk.alloc (by assumption) _ | exact (Blk.alloc (Blk.alloc (by assumption) _) _)) (by have := PSt.lt PST0.out; have := PSt.hB PST0.out; omega) (by decide) (by decide)
  have B1_w2 : Blk w2 (w.heap.size + 1) 24 #[.int .i64 a.kind, .string (⟨a.text.toArray⟩ : ByteArray), .int .i64 a.cols, .slice Aa a.kids.length capa] := PrAdd.blk htw2 (by first | exact Blk.new _ _ _ | exact (Blk.new _ _ _).alloc _ | exact Blk.new2 _ _ _ _ | exact ((Blk.new _ _ _).alloc _).alloc _ | exact (Blk.new2 _ _ _ _).alloc _ | exact Blk.new3 _ _ _ _ _ | assumption | exact Blk.alloc (by assumption) _ | exact (Blk.alloc (Blk.alloc (by assumption) _) _)) (by have := PSt.lt PST0.out; have := PSt.hB PST0.out; omega) (by decide) (by decide)
  clear q0_0_w1 q0_1_w1 q0_2_w1 q0_3_w1 B0_w1 q1_0_w1 q1_1_w1 q1_2_w1 q1_3_w1 B1_w1
  have q0_0_w2 : World.cell? w2 ⟨w.heap.size, 0, none⟩ = some (.int .i64 (8 : Int)) := Blk.cell B0_w2 0
  have q0_1_w2 : World.cell? w2 ⟨w.heap.size, 1, none⟩ = some (tx) := Blk.cell B0_w2 1
  have q0_2_w2 : World.cell? w2 ⟨w.heap.size, 2, none⟩ = some (cl) := Blk.cell B0_w2 2
  have q0_3_w2 : World.cell? w2 ⟨w.heap.size, 3, none⟩ = some (.slice (some ⟨g, o, none⟩) 2 cap) := Blk.cell B0_w2 3
  have q1_0_w2 : World.cell? w2 ⟨w.heap.size + 1, 0, none⟩ = some (.int .i64 a.kind) := Blk.cell B1_w2 0
  have q1_1_w2 : World.cell? w2 ⟨w.heap.size + 1, 1, none⟩ = some (.string (⟨a.text.toArray⟩ : ByteArray)) := Blk.cell B1_w2 1
  have q1_2_w2 : World.cell? w2 ⟨w.heap.size + 1, 2, none⟩ = some (.int .i64 a.cols) := Blk.cell B1_w2 2
  have q1_3_w2 : World.cell? w2 ⟨w.heap.size + 1, 3, none⟩ = some (.slice Aa a.kids.length capa) := Blk.cell B1_w2 3
  clear xa0_w1 xa1_w1 xa2_w1 xa3_w1 xb0_w1 xb1_w1 xb2_w1 xb3_w1
  have xa0_w2 : World.cell? w2 ⟨g, o, none⟩ = some (.int .i64 a.kind) := Low.cell (PSt.low PSTw2.out) XA0.out
  have xa1_w2 : World.cell? w2 ⟨g, o + 1, none⟩ = some (.string (⟨a.text.toArray⟩ : ByteArray)) := Low.cell (PSt.low PSTw2.out) XA1.out
  have xa2_w2 : World.cell? w2 ⟨g, o + 2, none⟩ = some (.int .i64 a.cols) := Low.cell (PSt.low PSTw2.out) XA2.out
  have xa3_w2 : World.cell? w2 ⟨g, o + 3, none⟩ = some (.slice Aa a.kids.length capa) := Low.cell (PSt.low PSTw2.out) XA3.out
  have xb0_w2 : World.cell? w2 ⟨g, o + 4, none⟩ = some (.int .i64 b.kind) := Low.cell (PSt.low PSTw2.out) XB0.out
  have xb1_w2 : World.cell? w2 ⟨g, o + 4 + 1, none⟩ = some (.string (⟨b.text.toArray⟩ : ByteArray)) := Low.cell (PSt.low PSTw2.out) XB1.out
  have xb2_w2 : World.cell? w2 ⟨g, o + 4 + 2, none⟩ = some (.int .i64 b.cols) := Low.cell (PSt.low PSTw2.out) XB2.out
  have xb3_w2 : World.cell? w2 ⟨g, o + 4 + 3, none⟩ = some (sb) := Low.cell (PSt.low PSTw2.out) XB3.out
  have hlt_g_w2 : g < w2.heap.size := block_lt_of_cell xa0_w2
  clear htw2
  go_wp2_with fail
  refine Calls.mono ((ARGb.out) _ _ _ (PSt.fresh PSTw2.out (by first | exact (Touch.refl _ _) | exact (Touch.refl _ _).alloc _ | exact ((Touch.refl _ _).alloc _).alloc _ | exact (((Touch.refl _ _).alloc _).alloc _).alloc _ | exact (Touch.refl _ _).drewN _ | exact ((Touch.refl _ _).alloc _).drewN _ | exact (((Touch.refl _ _).alloc _).alloc _).drewN _)) FITw2.out) ?_
  rintro _ w3 ⟨rfl, htw3⟩
  have PSTw3 := hid (PSt.add2 (PSt.fresh PSTw2.out (by first | exact (Touch.refl _ _) | exact (Touch.refl _ _).alloc _ | exact ((Touch.refl _ _).alloc _).alloc _ | exact (((Touch.refl _ _).alloc _).alloc _).alloc _ | exact (Touch.refl _ _).drewN _ | exact ((Touch.refl _ _).alloc _).drewN _ | exact (((Touch.refl _ _).alloc _).alloc _).drewN _)) htw3)
  have ACCw3 := hid (PrAdd.app ACCw2.out (PrAdd.freshL (show Fresh w2 _ from (by first | exact (Touch.refl _ _) | exact (Touch.refl _ _).alloc _ | exact ((Touch.refl _ _).alloc _).alloc _ | exact (((Touch.refl _ _).alloc _).alloc _).alloc _ | exact (Touch.refl _ _).drewN _ | exact ((Touch.refl _ _).alloc _).drewN _ | exact (((Touch.refl _ _).alloc _).alloc _).drewN _)) htw3))
  have B0_w3 : Blk w3 (w.heap.size) 24 #[.int .i64 (8 : Int), tx, cl, .slice (some ⟨g, o, none⟩) 2 cap] := PrAdd.blk htw3 (by first | exact Blk.new _ _ _ | exact (Blk.new _ _ _).alloc _ | exact Blk.new2 _ _ _ _ | exact ((Blk.new _ _ _).alloc _).alloc _ | exact (Blk.new2 _ _ _ _).alloc _ | exact Blk.new3 _ _ _ _ _ | assumption | exact Blk.alloc (by assumption) _ | exact (Blk.alloc (Blk.alloc (by assumption) _) _)) (by have := PSt.lt PST0.out; have := PSt.hB PST0.out; omega) (by decide) (by decide)
  have B1_w3 : Blk w3 (w.heap.size + 1) 24 #[.int .i64 a.kind, .string (⟨a.text.toArray⟩ : ByteArray), .int .i64 a.cols, .slice Aa a.kids.length capa] := PrAdd.blk htw3 (by first | exact Blk.new _ _ _ | exact (Blk.new _ _ _).alloc _ | exact Blk.new2 _ _ _ _ | exact ((Blk.new _ _ _).alloc _).alloc _ | exact (Blk.new2 _ _ _ _).alloc _ | exact Blk.new3 _ _ _ _ _ | assumption | exact Blk.alloc (by assumption) _ | exact (Blk.alloc (Blk.alloc (by assumption) _) _)) (by have := PSt.lt PST0.out; have := PSt.hB PST0.out; omega) (by decide) (by decide)
  clear q0_0_w2 q0_1_w2 q0_2_w2 q0_3_w2 B0_w2 q1_0_w2 q1_1_w2 q1_2_w2 q1_3_w2 B1_w2
  have q0_0_w3 : World.cell? w3 ⟨w.heap.size, 0, none⟩ = some (.int .i64 (8 : Int)) := Blk.cell B0_w3 0
  have q0_1_w3 : World.cell? w3 ⟨w.heap.size, 1, none⟩ = some (tx) := Blk.cell B0_w3 1
  have q0_2_w3 : World.cell? w3 ⟨w.heap.size, 2, none⟩ = some (cl) := Blk.cell B0_w3 2
  have q0_3_w3 : World.cell? w3 ⟨w.heap.size, 3, none⟩ = some (.slice (some ⟨g, o, none⟩) 2 cap) := Blk.cell B0_w3 3
  have q1_0_w3 : World.cell? w3 ⟨w.heap.size + 1, 0, none⟩ = some (.int .i64 a.kind) := Blk.cell B1_w3 0
  have q1_1_w3 : World.cell? w3 ⟨w.heap.size + 1, 1, none⟩ = some (.string (⟨a.text.toArray⟩ : ByteArray)) := Blk.cell B1_w3 1
  have q1_2_w3 : World.cell? w3 ⟨w.heap.size + 1, 2, none⟩ = some (.int .i64 a.cols) := Blk.cell B1_w3 2
  have q1_3_w3 : World.cell? w3 ⟨w.heap.size + 1, 3, none⟩ = some (.slice Aa a.kids.length capa) := Blk.cell B1_w3 3
  clear xa0_w2 xa1_w2 xa2_w2 xa3_w2 xb0_w2 xb1_w2 xb2_w2 xb3_w2
  have xa0_w3 : World.cell? w3 ⟨g, o, none⟩ = some (.int .i64 a.kind) := Low.cell (PSt.low PSTw3.out) XA0.out
  have xa1_w3 : World.cell? w3 ⟨g, o + 1, none⟩ = some (.string (⟨a.text.toArray⟩ : ByteArray)) := Low.cell (PSt.low PSTw3.out) XA1.out
  have xa2_w3 : World.cell? w3 ⟨g, o + 2, none⟩ = some (.int .i64 a.cols) := Low.cell (PSt.low PSTw3.out) XA2.out
  have xa3_w3 : World.cell? w3 ⟨g, o + 3, none⟩ = some (.slice Aa a.kids.length capa) := Low.cell (PSt.low PSTw3.out) XA3.out
  have xb0_w3 : World.cell? w3 ⟨g, o + 4, none⟩ = some (.int .i64 b.kind) := Low.cell (PSt.low PSTw3.out) XB0.out
  have xb1_w3 : World.cell? w3 ⟨g, o + 4 + 1, none⟩ = some (.string (⟨b.text.toArray⟩ : ByteArray)) := Low.cell (PSt.low PSTw3.out) XB1.out
  have xb2_w3 : World.cell? w3 ⟨g, o + 4 + 2, none⟩ = some (.int .i64 b.cols) := Low.cell (PSt.low PSTw3.out) XB2.out
  have xb3_w3 : World.cell? w3 ⟨g, o + 4 + 3, none⟩ = some (sb) := Low.cell (PSt.low PSTw3.out) XB3.out
  have hlt_g_w3 : g < w3.heap.size := block_lt_of_cell xa0_w3
  clear htw3
  go_wp2_with fail
  first | go_end0 | refine bodyPost_ret (v := .tuple #[]) (results_none rfl _ _ _) rfl ?_
  exact ⟨rfl, PrAdd.cast ACCw3.out (by first | rfl | (simp only [List.append_assoc] <;> rfl))⟩

set_option maxRecDepth 100000 in
set_option maxHeartbeats 1000000 in
theorem scripts_9_row (W0 : World) (p B : Nat) (tx cl : Value) (a b d : Nd) (x : Nd) (hx : a.kids = [x]) (hs : Tr.scripted x = false) (ha : RowE W0 p B a) (hb : ArgE W0 p B b) (hd : ArgE W0 p B d) (sl : Value) (hsl : RepL W0 [a, b, d] sl) : Emits 62 #[pp p, .agg #[.int .i64 9, tx, cl, sl]] W0 p B (baseT a ++ ([Tr.mk7 95] ++ (argT b ++ ([Tr.mk7 94] ++ argT d)))) := by
  intro w toks txt hp hf
  rw [baseT_row a x hx hs] at hf ⊢
  obtain ⟨g, o, cap, sa, sb, sd, rfl, a0, a1, a2, a3, hra, b0, b1, b2, b3, hrb, d0, d1, d2, d3, hrd⟩ := hsl.three
  have ROWa := hid (ha sa hra)
  have ARGb := hid (hb sb hrb)
  have ARGd := hid (hd sd hrd)
  rw [hx] at hra
  obtain ⟨gx, ox, cax, sx, rfl, x0, x1, x2, x3, hrx⟩ := hra.one
  have e1 : a.kids.length = 1 := by rw [hx]; rfl
  have HS := hid hs
  clear e1 hs hrx
  have PST0 := hid hp
  have FIT0 := hid hf
  clear hp hf ha hb hd hsl hra hrb hrd hx
  have XA0 := hid a0
  have XA1 := hid a1
  have XA2 := hid a2
  have XA3 := hid a3
  have XB0 := hid b0
  have XB1 := hid b1
  have XB2 := hid b2
  have XB3 := hid b3
  have XD0 := hid d0
  have XD1 := hid d1
  have XD2 := hid d2
  have XD3 := hid d3
  have XX0 := hid x0
  have XX1 := hid x1
  have XX2 := hid x2
  have XX3 := hid x3
  clear a0 a1 a2 a3 b0 b1 b2 b3 d0 d1 d2 d3 x0 x1 x2 x3
  have xa0_w : World.cell? w ⟨g, o, none⟩ = some (.int .i64 a.kind) := Low.cell (PSt.low PST0.out) XA0.out
  have xa1_w : World.cell? w ⟨g, o + 1, none⟩ = some (.string (⟨a.text.toArray⟩ : ByteArray)) := Low.cell (PSt.low PST0.out) XA1.out
  have xa2_w : World.cell? w ⟨g, o + 2, none⟩ = some (.int .i64 a.cols) := Low.cell (PSt.low PST0.out) XA2.out
  have xa3_w : World.cell? w ⟨g, o + 3, none⟩ = some (.slice (some ⟨gx, ox, none⟩) 1 cax) := Low.cell (PSt.low PST0.out) XA3.out
  have xb0_w : World.cell? w ⟨g, o + 4, none⟩ = some (.int .i64 b.kind) := Low.cell (PSt.low PST0.out) XB0.out
  have xb1_w : World.cell? w ⟨g, o + 4 + 1, none⟩ = some (.string (⟨b.text.toArray⟩ : ByteArray)) := Low.cell (PSt.low PST0.out) XB1.out
  have xb2_w : World.cell? w ⟨g, o + 4 + 2, none⟩ = some (.int .i64 b.cols) := Low.cell (PSt.low PST0.out) XB2.out
  have xb3_w : World.cell? w ⟨g, o + 4 + 3, none⟩ = some (sb) := Low.cell (PSt.low PST0.out) XB3.out
  have xd0_w : World.cell? w ⟨g, o + 8, none⟩ = some (.int .i64 d.kind) := Low.cell (PSt.low PST0.out) XD0.out
  have xd1_w : World.cell? w ⟨g, o + 8 + 1, none⟩ = some (.string (⟨d.text.toArray⟩ : ByteArray)) := Low.cell (PSt.low PST0.out) XD1.out
  have xd2_w : World.cell? w ⟨g, o + 8 + 2, none⟩ = some (.int .i64 d.cols) := Low.cell (PSt.low PST0.out) XD2.out
  have xd3_w : World.cell? w ⟨g, o + 8 + 3, none⟩ = some (sd) := Low.cell (PSt.low PST0.out) XD3.out
  have xx0_w : World.cell? w ⟨gx, ox, none⟩ = some (.int .i64 x.kind) := Low.cell (PSt.low PST0.out) XX0.out
  have xx1_w : World.cell? w ⟨gx, ox + 1, none⟩ = some (.string (⟨x.text.toArray⟩ : ByteArray)) := Low.cell (PSt.low PST0.out) XX1.out
  have xx2_w : World.cell? w ⟨gx, ox + 2, none⟩ = some (.int .i64 x.cols) := Low.cell (PSt.low PST0.out) XX2.out
  have xx3_w : World.cell? w ⟨gx, ox + 3, none⟩ = some (sx) := Low.cell (PSt.low PST0.out) XX3.out
  have hlt_g_w : g < w.heap.size := block_lt_of_cell xa0_w
  have hlt_gx_w : gx < w.heap.size := block_lt_of_cell xx0_w
  go_enter Try.func62, Try.ntmps62
  go_wp2_with fail
  refine Calls.mono (scripted_is x _ _ HS.out) ?_
  rintro _ w1 ⟨rfl, hfw1⟩
  have HF1 := hid (show Fresh w w1 from by first | exact hfw1 | exact Touch.pre hfw1 | exact Touch.pre (Touch.pre hfw1) | exact Touch.ofN hfw1 | exact Touch.preN hfw1 | exact Touch.pre (Touch.pre (Touch.pre hfw1)))
  have B0_w1 : Blk w1 (w.heap.size) 24 #[.int .i64 (9 : Int), tx, cl, .slice (some ⟨g, o, none⟩) 3 cap] := Touch.blk hfw1 (by first | exact Blk.new _ _ _ | exact (Blk.new _ _ _).alloc _ | exact Blk.new2 _ _ _ _ | exact ((Blk.new _ _ _).alloc _).alloc _ | exact (Blk.new2 _ _ _ _).alloc _ | exact Blk.new3 _ _ _ _ _ | assumption | exact Blk.alloc (by assumption) _ | exact (Blk.alloc (Blk.alloc (by assumption) _) _)) (fun h => h)
  have B1_w1 : Blk w1 (w.heap.size + 1) 24 #[.int .i64 a.kind, .string (⟨a.text.toArray⟩ : ByteArray), .int .i64 a.cols, .slice (some ⟨gx, ox, none⟩) 1 cax] := Touch.blk hfw1 (by first | exact Blk.new _ _ _ | exact (Blk.new _ _ _).alloc _ | exact Blk.new2 _ _ _ _ | exact ((Blk.new _ _ _).alloc _).alloc _ | exact (Blk.new2 _ _ _ _).alloc _ | exact Blk.new3 _ _ _ _ _ | assumption | exact Blk.alloc (by assumption) _ | exact (Blk.alloc (Blk.alloc (by assumption) _) _)) (fun h => h)
  have q0_0_w1 : World.cell? w1 ⟨w.heap.size, 0, none⟩ = some (.int .i64 (9 : Int)) := Blk.cell B0_w1 0
  have q0_1_w1 : World.cell? w1 ⟨w.heap.size, 1, none⟩ = some (tx) := Blk.cell B0_w1 1
  have q0_2_w1 : World.cell? w1 ⟨w.heap.size, 2, none⟩ = some (cl) := Blk.cell B0_w1 2
  have q0_3_w1 : World.cell? w1 ⟨w.heap.size, 3, none⟩ = some (.slice (some ⟨g, o, none⟩) 3 cap) := Blk.cell B0_w1 3
  have q1_0_w1 : World.cell? w1 ⟨w.heap.size + 1, 0, none⟩ = some (.int .i64 a.kind) := Blk.cell B1_w1 0
  have q1_1_w1 : World.cell? w1 ⟨w.heap.size + 1, 1, none⟩ = some (.string (⟨a.text.toArray⟩ : ByteArray)) := Blk.cell B1_w1 1
  have q1_2_w1 : World.cell? w1 ⟨w.heap.size + 1, 2, none⟩ = some (.int .i64 a.cols) := Blk.cell B1_w1 2
  have q1_3_w1 : World.cell? w1 ⟨w.heap.size + 1, 3, none⟩ = some (.slice (some ⟨gx, ox, none⟩) 1 cax) := Blk.cell B1_w1 3
  have xa0_w1 : World.cell? w1 ⟨g, o, none⟩ = some (.int .i64 a.kind) := Touch.cell HF1.out xa0_w (fun h => h)
  have xa1_w1 : World.cell? w1 ⟨g, o + 1, none⟩ = some (.string (⟨a.text.toArray⟩ : ByteArray)) := Touch.cell HF1.out xa1_w (fun h => h)
  have xa2_w1 : World.cell? w1 ⟨g, o + 2, none⟩ = some (.int .i64 a.cols) := Touch.cell HF1.out xa2_w (fun h => h)
  have xa3_w1 : World.cell? w1 ⟨g, o + 3, none⟩ = some (.slice (some ⟨gx, ox, none⟩) 1 cax) := Touch.cell HF1.out xa3_w (fun h => h)
  have xb0_w1 : World.cell? w1 ⟨g, o + 4, none⟩ = some (.int .i64 b.kind) := Touch.cell HF1.out xb0_w (fun h => h)
  have xb1_w1 : World.cell? w1 ⟨g, o + 4 + 1, none⟩ = some (.string (⟨b.text.toArray⟩ : ByteArray)) := Touch.cell HF1.out xb1_w (fun h => h)
  have xb2_w1 : World.cell? w1 ⟨g, o + 4 + 2, none⟩ = some (.int .i64 b.cols) := Touch.cell HF1.out xb2_w (fun h => h)
  have xb3_w1 : World.cell? w1 ⟨g, o + 4 + 3, none⟩ = some (sb) := Touch.cell HF1.out xb3_w (fun h => h)
  have xd0_w1 : World.cell? w1 ⟨g, o + 8, none⟩ = some (.int .i64 d.kind) := Touch.cell HF1.out xd0_w (fun h => h)
  have xd1_w1 : World.cell? w1 ⟨g, o + 8 + 1, none⟩ = some (.string (⟨d.text.toArray⟩ : ByteArray)) := Touch.cell HF1.out xd1_w (fun h => h)
  have xd2_w1 : World.cell? w1 ⟨g, o + 8 + 2, none⟩ = some (.int .i64 d.cols) := Touch.cell HF1.out xd2_w (fun h => h)
  have xd3_w1 : World.cell? w1 ⟨g, o + 8 + 3, none⟩ = some (sd) := Touch.cell HF1.out xd3_w (fun h => h)
  have xx0_w1 : World.cell? w1 ⟨gx, ox, none⟩ = some (.int .i64 x.kind) := Touch.cell HF1.out xx0_w (fun h => h)
  have xx1_w1 : World.cell? w1 ⟨gx, ox + 1, none⟩ = some (.string (⟨x.text.toArray⟩ : ByteArray)) := Touch.cell HF1.out xx1_w (fun h => h)
  have xx2_w1 : World.cell? w1 ⟨gx, ox + 2, none⟩ = some (.int .i64 x.cols) := Touch.cell HF1.out xx2_w (fun h => h)
  have xx3_w1 : World.cell? w1 ⟨gx, ox + 3, none⟩ = some (sx) := Touch.cell HF1.out xx3_w (fun h => h)
  clear xa0_w xa1_w xa2_w xa3_w xb0_w xb1_w xb2_w xb3_w xd0_w xd1_w xd2_w xd3_w xx0_w xx1_w xx2_w xx3_w
  have hlt_g_w1 : g < w1.heap.size := block_lt_of_cell xa0_w1
  have hlt_gx_w1 : gx < w1.heap.size := block_lt_of_cell xx0_w1
  have PSTw1 := hid (PSt.fresh PST0.out HF1.out)
  clear hfw1
  go_wp2_with fail
  refine Calls.mono ((ROWa.out) _ _ _ (PSt.fresh PSTw1.out (by first | exact (Touch.refl _ _) | exact (Touch.refl _ _).alloc _ | exact ((Touch.refl _ _).alloc _).alloc _ | exact (((Touch.refl _ _).alloc _).alloc _).alloc _ | exact (Touch.refl _ _).drewN _ | exact ((Touch.refl _ _).alloc _).drewN _ | exact (((Touch.refl _ _).alloc _).alloc _).drewN _)) FIT0.out.left) ?_
  rintro _ w2 ⟨rfl, htw2⟩
  have PSTw2 := hid (PSt.add (PSt.fresh PSTw1.out (by first | exact (Touch.refl _ _) | exact (Touch.refl _ _).alloc _ | exact ((Touch.refl _ _).alloc _).alloc _ | exact (((Touch.refl _ _).alloc _).alloc _).alloc _ | exact (Touch.refl _ _).drewN _ | exact ((Touch.refl _ _).alloc _).drewN _ | exact (((Touch.refl _ _).alloc _).alloc _).drewN _)) htw2)
  have ACCw2 := hid (PrAdd.freshL (show Fresh w _ from (by first | exact HF1.out | exact HF1.out.alloc _ | exact (HF1.out.alloc _).alloc _ | exact ((HF1.out.alloc _).alloc _).alloc _ | exact HF1.out.drewN _ | exact (HF1.out.alloc _).drewN _ | exact ((HF1.out.alloc _).alloc _).drewN _)) htw2)
  have FITw2 := hid (Fits.right FIT0.out)
  have B0_w2 : Blk w2 (w.heap.size) 24 #[.int .i64 (9 : Int), tx, cl, .slice (some ⟨g, o, none⟩) 3 cap] := PrAdd.blk htw2 (by first | exact Blk.new _ _ _ | exact (Blk.new _ _ _).alloc _ | exact Blk.new2 _ _ _ _ | exact ((Blk.new _ _ _).alloc _).alloc _ | exact (Blk.new2 _ _ _ _).alloc _ | exact Blk.new3 _ _ _ _ _ | assumption | exact Blk.alloc (by assumption) _ | exact (Blk.alloc (Blk.alloc (by assumption) _) _)) (by have := PSt.lt PST0.out; have := PSt.hB PST0.out; omega) (by decide) (by decide)
  have B1_w2 : Blk w2 (w.heap.size + 1) 24 #[.int .i64 a.kind, .string (⟨a.text.toArray⟩ : ByteArray), .int .i64 a.cols, .slice (some ⟨gx, ox, none⟩) 1 cax] := PrAdd.blk htw2 (by first | exact Blk.new _ _ _ | exact (Blk.new _ _ _).alloc _ | exact Blk.new2 _ _ _ _ | exact ((Blk.new _ _ _).alloc _).alloc _ | exact (Blk.new2 _ _ _ _).alloc _ | exact Blk.new3 _ _ _ _ _ | assumption | exact Blk.alloc (by assumption) _ | exact (Blk.alloc (Blk.alloc (by assumption) _) _)) (by have := PSt.lt PST0.out; have := PSt.hB PST0.out; omega) (by decide) (by decide)
  clear q0_0_w1 q0_1_w1 q0_2_w1 q0_3_w1 B0_w1 q1_0_w1 q1_1_w1 q1_2_w1 q1_3_w1 B1_w1
  have q0_0_w2 : World.cell? w2 ⟨w.heap.size, 0, none⟩ = some (.int .i64 (9 : Int)) := Blk.cell B0_w2 0
  have q0_1_w2 : World.cell? w2 ⟨w.heap.size, 1, none⟩ = some (tx) := Blk.cell B0_w2 1
  have q0_2_w2 : World.cell? w2 ⟨w.heap.size, 2, none⟩ = some (cl) := Blk.cell B0_w2 2
  have q0_3_w2 : World.cell? w2 ⟨w.heap.size, 3, none⟩ = some (.slice (some ⟨g, o, none⟩) 3 cap) := Blk.cell B0_w2 3
  have q1_0_w2 : World.cell? w2 ⟨w.heap.size + 1, 0, none⟩ = some (.int .i64 a.kind) := Blk.cell B1_w2 0
  have q1_1_w2 : World.cell? w2 ⟨w.heap.size + 1, 1, none⟩ = some (.string (⟨a.text.toArray⟩ : ByteArray)) := Blk.cell B1_w2 1
  have q1_2_w2 : World.cell? w2 ⟨w.heap.size + 1, 2, none⟩ = some (.int .i64 a.cols) := Blk.cell B1_w2 2
  have q1_3_w2 : World.cell? w2 ⟨w.heap.size + 1, 3, none⟩ = some (.slice (some ⟨gx, ox, none⟩) 1 cax) := Blk.cell B1_w2 3
  clear xa0_w1 xa1_w1 xa2_w1 xa3_w1 xb0_w1 xb1_w1 xb2_w1 xb3_w1 xd0_w1 xd1_w1 xd2_w1 xd3_w1 xx0_w1 xx1_w1 xx2_w1 xx3_w1
  have xa0_w2 : World.cell? w2 ⟨g, o, none⟩ = some (.int .i64 a.kind) := Low.cell (PSt.low PSTw2.out) XA0.out
  have xa1_w2 : World.cell? w2 ⟨g, o + 1, none⟩ = some (.string (⟨a.text.toArray⟩ : ByteArray)) := Low.cell (PSt.low PSTw2.out) XA1.out
  have xa2_w2 : World.cell? w2 ⟨g, o + 2, none⟩ = some (.int .i64 a.cols) := Low.cell (PSt.low PSTw2.out) XA2.out
  have xa3_w2 : World.cell? w2 ⟨g, o + 3, none⟩ = some (.slice (some ⟨gx, ox, none⟩) 1 cax) := Low.cell (PSt.low PSTw2.out) XA3.out
  have xb0_w2 : World.cell? w2 ⟨g, o + 4, none⟩ = some (.int .i64 b.kind) := Low.cell (PSt.low PSTw2.out) XB0.out
  have xb1_w2 : World.cell? w2 ⟨g, o + 4 + 1, none⟩ = some (.string (⟨b.text.toArray⟩ : ByteArray)) := Low.cell (PSt.low PSTw2.out) XB1.out
  have xb2_w2 : World.cell? w2 ⟨g, o + 4 + 2, none⟩ = some (.int .i64 b.cols) := Low.cell (PSt.low PSTw2.out) XB2.out
  have xb3_w2 : World.cell? w2 ⟨g, o + 4 + 3, none⟩ = some (sb) := Low.cell (PSt.low PSTw2.out) XB3.out
  have xd0_w2 : World.cell? w2 ⟨g, o + 8, none⟩ = some (.int .i64 d.kind) := Low.cell (PSt.low PSTw2.out) XD0.out
  have xd1_w2 : World.cell? w2 ⟨g, o + 8 + 1, none⟩ = some (.string (⟨d.text.toArray⟩ : ByteArray)) := Low.cell (PSt.low PSTw2.out) XD1.out
  have xd2_w2 : World.cell? w2 ⟨g, o + 8 + 2, none⟩ = some (.int .i64 d.cols) := Low.cell (PSt.low PSTw2.out) XD2.out
  have xd3_w2 : World.cell? w2 ⟨g, o + 8 + 3, none⟩ = some (sd) := Low.cell (PSt.low PSTw2.out) XD3.out
  have xx0_w2 : World.cell? w2 ⟨gx, ox, none⟩ = some (.int .i64 x.kind) := Low.cell (PSt.low PSTw2.out) XX0.out
  have xx1_w2 : World.cell? w2 ⟨gx, ox + 1, none⟩ = some (.string (⟨x.text.toArray⟩ : ByteArray)) := Low.cell (PSt.low PSTw2.out) XX1.out
  have xx2_w2 : World.cell? w2 ⟨gx, ox + 2, none⟩ = some (.int .i64 x.cols) := Low.cell (PSt.low PSTw2.out) XX2.out
  have xx3_w2 : World.cell? w2 ⟨gx, ox + 3, none⟩ = some (sx) := Low.cell (PSt.low PSTw2.out) XX3.out
  have hlt_g_w2 : g < w2.heap.size := block_lt_of_cell xa0_w2
  have hlt_gx_w2 : gx < w2.heap.size := block_lt_of_cell xx0_w2
  clear htw2
  go_wp2_with fail
  refine Calls.mono ((mark_em W0 p B [95]) _ _ _ (PSt.fresh PSTw2.out (by first | exact (Touch.refl _ _) | exact (Touch.refl _ _).alloc _ | exact ((Touch.refl _ _).alloc _).alloc _ | exact (((Touch.refl _ _).alloc _).alloc _).alloc _ | exact (Touch.refl _ _).drewN _ | exact ((Touch.refl _ _).alloc _).drewN _ | exact (((Touch.refl _ _).alloc _).alloc _).drewN _)) FITw2.out.left) ?_
  rintro _ w3 ⟨rfl, htw3⟩
  have PSTw3 := hid (PSt.add2 (PSt.fresh PSTw2.out (by first | exact (Touch.refl _ _) | exact (Touch.refl _ _).alloc _ | exact ((Touch.refl _ _).alloc _).alloc _ | exact (((Touch.refl _ _).alloc _).alloc _).alloc _ | exact (Touch.refl _ _).drewN _ | exact ((Touch.refl _ _).alloc _).drewN _ | exact (((Touch.refl _ _).alloc _).alloc _).drewN _)) htw3)
  have ACCw3 := hid (PrAdd.app ACCw2.out (PrAdd.freshL (show Fresh w2 _ from (by first | exact (Touch.refl _ _) | exact (Touch.refl _ _).alloc _ | exact ((Touch.refl _ _).alloc _).alloc _ | exact (((Touch.refl _ _).alloc _).alloc _).alloc _ | exact (Touch.refl _ _).drewN _ | exact ((Touch.refl _ _).alloc _).drewN _ | exact (((Touch.refl _ _).alloc _).alloc _).drewN _)) htw3))
  have FITw3 := hid (Fits.right2 FITw2.out)
  have B0_w3 : Blk w3 (w.heap.size) 24 #[.int .i64 (9 : Int), tx, cl, .slice (some ⟨g, o, none⟩) 3 cap] := PrAdd.blk htw3 (by first | exact Blk.new _ _ _ | exact (Blk.new _ _ _).alloc _ | exact Blk.new2 _ _ _ _ | exact ((Blk.new _ _ _).alloc _).alloc _ | exact (Blk.new2 _ _ _ _).alloc _ | exact Blk.new3 _ _ _ _ _ | assumption | exact Blk.alloc (by assumption) _ | exact (Blk.alloc (Blk.alloc (by assumption) _) _)) (by have := PSt.lt PST0.out; have := PSt.hB PST0.out; omega) (by decide) (by decide)
  have B1_w3 : Blk w3 (w.heap.size + 1) 24 #[.int .i64 a.kind, .string (⟨a.text.toArray⟩ : ByteArray), .int .i64 a.cols, .slice (some ⟨gx, ox, none⟩) 1 cax] := PrAdd.blk htw3 (by first | exact Blk.new _ _ _ | exact (Blk.new _ _ _).alloc _ | exact Blk.new2 _ _ _ _ | exact ((Blk.new _ _ _).alloc _).alloc _ | exact (Blk.new2 _ _ _ _).alloc _ | exact Blk.new3 _ _ _ _ _ | assumption | exact Blk.alloc (by assumption) _ | exact (Blk.alloc (Blk.alloc (by assumption) _) _)) (by have := PSt.lt PST0.out; have := PSt.hB PST0.out; omega) (by decide) (by decide)
  clear q0_0_w2 q0_1_w2 q0_2_w2 q0_3_w2 B0_w2 q1_0_w2 q1_1_w2 q1_2_w2 q1_3_w2 B1_w2
  have q0_0_w3 : World.cell? w3 ⟨w.heap.size, 0, none⟩ = some (.int .i64 (9 : Int)) := Blk.cell B0_w3 0
  have q0_1_w3 : World.cell? w3 ⟨w.heap.size, 1, none⟩ = some (tx) := Blk.cell B0_w3 1
  have q0_2_w3 : World.cell? w3 ⟨w.heap.size, 2, none⟩ = some (cl) := Blk.cell B0_w3 2
  have q0_3_w3 : World.cell? w3 ⟨w.heap.size, 3, none⟩ = some (.slice (some ⟨g, o, none⟩) 3 cap) := Blk.cell B0_w3 3
  have q1_0_w3 : World.cell? w3 ⟨w.heap.size + 1, 0, none⟩ = some (.int .i64 a.kind) := Blk.cell B1_w3 0
  have q1_1_w3 : World.cell? w3 ⟨w.heap.size + 1, 1, none⟩ = some (.string (⟨a.text.toArray⟩ : ByteArray)) := Blk.cell B1_w3 1
  have q1_2_w3 : World.cell? w3 ⟨w.heap.size + 1, 2, none⟩ = some (.int .i64 a.cols) := Blk.cell B1_w3 2
  have q1_3_w3 : World.cell? w3 ⟨w.heap.size + 1, 3, none⟩ = some (.slice (some ⟨gx, ox, none⟩) 1 cax) := Blk.cell B1_w3 3
  clear xa0_w2 xa1_w2 xa2_w2 xa3_w2 xb0_w2 xb1_w2 xb2_w2 xb3_w2 xd0_w2 xd1_w2 xd2_w2 xd3_w2 xx0_w2 xx1_w2 xx2_w2 xx3_w2
  have xa0_w3 : World.cell? w3 ⟨g, o, none⟩ = some (.int .i64 a.kind) := Low.cell (PSt.low PSTw3.out) XA0.out
  have xa1_w3 : World.cell? w3 ⟨g, o + 1, none⟩ = some (.string (⟨a.text.toArray⟩ : ByteArray)) := Low.cell (PSt.low PSTw3.out) XA1.out
  have xa2_w3 : World.cell? w3 ⟨g, o + 2, none⟩ = some (.int .i64 a.cols) := Low.cell (PSt.low PSTw3.out) XA2.out
  have xa3_w3 : World.cell? w3 ⟨g, o + 3, none⟩ = some (.slice (some ⟨gx, ox, none⟩) 1 cax) := Low.cell (PSt.low PSTw3.out) XA3.out
  have xb0_w3 : World.cell? w3 ⟨g, o + 4, none⟩ = some (.int .i64 b.kind) := Low.cell (PSt.low PSTw3.out) XB0.out
  have xb1_w3 : World.cell? w3 ⟨g, o + 4 + 1, none⟩ = some (.string (⟨b.text.toArray⟩ : ByteArray)) := Low.cell (PSt.low PSTw3.out) XB1.out
  have xb2_w3 : World.cell? w3 ⟨g, o + 4 + 2, none⟩ = some (.int .i64 b.cols) := Low.cell (PSt.low PSTw3.out) XB2.out
  have xb3_w3 : World.cell? w3 ⟨g, o + 4 + 3, none⟩ = some (sb) := Low.cell (PSt.low PSTw3.out) XB3.out
  have xd0_w3 : World.cell? w3 ⟨g, o + 8, none⟩ = some (.int .i64 d.kind) := Low.cell (PSt.low PSTw3.out) XD0.out
  have xd1_w3 : World.cell? w3 ⟨g, o + 8 + 1, none⟩ = some (.string (⟨d.text.toArray⟩ : ByteArray)) := Low.cell (PSt.low PSTw3.out) XD1.out
  have xd2_w3 : World.cell? w3 ⟨g, o + 8 + 2, none⟩ = some (.int .i64 d.cols) := Low.cell (PSt.low PSTw3.out) XD2.out
  have xd3_w3 : World.cell? w3 ⟨g, o + 8 + 3, none⟩ = some (sd) := Low.cell (PSt.low PSTw3.out) XD3.out
  have xx0_w3 : World.cell? w3 ⟨gx, ox, none⟩ = some (.int .i64 x.kind) := Low.cell (PSt.low PSTw3.out) XX0.out
  have xx1_w3 : World.cell? w3 ⟨gx, ox + 1, none⟩ = some (.string (⟨x.text.toArray⟩ : ByteArray)) := Low.cell (PSt.low PSTw3.out) XX1.out
  have xx2_w3 : World.cell? w3 ⟨gx, ox + 2, none⟩ = some (.int .i64 x.cols) := Low.cell (PSt.low PSTw3.out) XX2.out
  have xx3_w3 : World.cell? w3 ⟨gx, ox + 3, none⟩ = some (sx) := Low.cell (PSt.low PSTw3.out) XX3.out
  have hlt_g_w3 : g < w3.heap.size := block_lt_of_cell xa0_w3
  have hlt_gx_w3 : gx < w3.heap.size := block_lt_of_cell xx0_w3
  clear htw3
  go_wp2_with fail
  refine Calls.mono ((ARGb.out) _ _ _ (PSt.fresh PSTw3.out (by first | exact (Touch.refl _ _) | exact (Touch.refl _ _).alloc _ | exact ((Touch.refl _ _).alloc _).alloc _ | exact (((Touch.refl _ _).alloc _).alloc _).alloc _ | exact (Touch.refl _ _).drewN _ | exact ((Touch.refl _ _).alloc _).drewN _ | exact (((Touch.refl _ _).alloc _).alloc _).drewN _)) FITw3.out.left) ?_
  rintro _ w4 ⟨rfl, htw4⟩
  have PSTw4 := hid (PSt.add2 (PSt.fresh PSTw3.out (by first | exact (Touch.refl _ _) | exact (Touch.refl _ _).alloc _ | exact ((Touch.refl _ _).alloc _).alloc _ | exact (((Touch.refl _ _).alloc _).alloc _).alloc _ | exact (Touch.refl _ _).drewN _ | exact ((Touch.refl _ _).alloc _).drewN _ | exact (((Touch.refl _ _).alloc _).alloc _).drewN _)) htw4)
  have ACCw4 := hid (PrAdd.app ACCw3.out (PrAdd.freshL (show Fresh w3 _ from (by first | exact (Touch.refl _ _) | exact (Touch.refl _ _).alloc _ | exact ((Touch.refl _ _).alloc _).alloc _ | exact (((Touch.refl _ _).alloc _).alloc _).alloc _ | exact (Touch.refl _ _).drewN _ | exact ((Touch.refl _ _).alloc _).drewN _ | exact (((Touch.refl _ _).alloc _).alloc _).drewN _)) htw4))
  have FITw4 := hid (Fits.right2 FITw3.out)
  have B0_w4 : Blk w4 (w.heap.size) 24 #[.int .i64 (9 : Int), tx, cl, .slice (some ⟨g, o, none⟩) 3 cap] := PrAdd.blk htw4 (by first | exact Blk.new _ _ _ | exact (Blk.new _ _ _).alloc _ | exact Blk.new2 _ _ _ _ | exact ((Blk.new _ _ _).alloc _).alloc _ | exact (Blk.new2 _ _ _ _).alloc _ | exact Blk.new3 _ _ _ _ _ | assumption | exact Blk.alloc (by assumption) _ | exact (Blk.alloc (Blk.alloc (by assumption) _) _)) (by have := PSt.lt PST0.out; have := PSt.hB PST0.out; omega) (by decide) (by decide)
  have B1_w4 : Blk w4 (w.heap.size + 1) 24 #[.int .i64 a.kind, .string (⟨a.text.toArray⟩ : ByteArray), .int .i64 a.cols, .slice (some ⟨gx, ox, none⟩) 1 cax] := PrAdd.blk htw4 (by first | exact Blk.new _ _ _ | exact (Blk.new _ _ _).alloc _ | exact Blk.new2 _ _ _ _ | exact ((Blk.new _ _ _).alloc _).alloc _ | exact (Blk.new2 _ _ _ _).alloc _ | exact Blk.new3 _ _ _ _ _ | assumption | exact Blk.alloc (by assumption) _ | exact (Blk.alloc (Blk.alloc (by assumption) _) _)) (by have := PSt.lt PST0.out; have := PSt.hB PST0.out; omega) (by decide) (by decide)
  clear q0_0_w3 q0_1_w3 q0_2_w3 q0_3_w3 B0_w3 q1_0_w3 q1_1_w3 q1_2_w3 q1_3_w3 B1_w3
  have q0_0_w4 : World.cell? w4 ⟨w.heap.size, 0, none⟩ = some (.int .i64 (9 : Int)) := Blk.cell B0_w4 0
  have q0_1_w4 : World.cell? w4 ⟨w.heap.size, 1, none⟩ = some (tx) := Blk.cell B0_w4 1
  have q0_2_w4 : World.cell? w4 ⟨w.heap.size, 2, none⟩ = some (cl) := Blk.cell B0_w4 2
  have q0_3_w4 : World.cell? w4 ⟨w.heap.size, 3, none⟩ = some (.slice (some ⟨g, o, none⟩) 3 cap) := Blk.cell B0_w4 3
  have q1_0_w4 : World.cell? w4 ⟨w.heap.size + 1, 0, none⟩ = some (.int .i64 a.kind) := Blk.cell B1_w4 0
  have q1_1_w4 : World.cell? w4 ⟨w.heap.size + 1, 1, none⟩ = some (.string (⟨a.text.toArray⟩ : ByteArray)) := Blk.cell B1_w4 1
  have q1_2_w4 : World.cell? w4 ⟨w.heap.size + 1, 2, none⟩ = some (.int .i64 a.cols) := Blk.cell B1_w4 2
  have q1_3_w4 : World.cell? w4 ⟨w.heap.size + 1, 3, none⟩ = some (.slice (some ⟨gx, ox, none⟩) 1 cax) := Blk.cell B1_w4 3
  clear xa0_w3 xa1_w3 xa2_w3 xa3_w3 xb0_w3 xb1_w3 xb2_w3 xb3_w3 xd0_w3 xd1_w3 xd2_w3 xd3_w3 xx0_w3 xx1_w3 xx2_w3 xx3_w3
  have xa0_w4 : World.cell? w4 ⟨g, o, none⟩ = some (.int .i64 a.kind) := Low.cell (PSt.low PSTw4.out) XA0.out
  have xa1_w4 : World.cell? w4 ⟨g, o + 1, none⟩ = some (.string (⟨a.text.toArray⟩ : ByteArray)) := Low.cell (PSt.low PSTw4.out) XA1.out
  have xa2_w4 : World.cell? w4 ⟨g, o + 2, none⟩ = some (.int .i64 a.cols) := Low.cell (PSt.low PSTw4.out) XA2.out
  have xa3_w4 : World.cell? w4 ⟨g, o + 3, none⟩ = some (.slice (some ⟨gx, ox, none⟩) 1 cax) := Low.cell (PSt.low PSTw4.out) XA3.out
  have xb0_w4 : World.cell? w4 ⟨g, o + 4, none⟩ = some (.int .i64 b.kind) := Low.cell (PSt.low PSTw4.out) XB0.out
  have xb1_w4 : World.cell? w4 ⟨g, o + 4 + 1, none⟩ = some (.string (⟨b.text.toArray⟩ : ByteArray)) := Low.cell (PSt.low PSTw4.out) XB1.out
  have xb2_w4 : World.cell? w4 ⟨g, o + 4 + 2, none⟩ = some (.int .i64 b.cols) := Low.cell (PSt.low PSTw4.out) XB2.out
  have xb3_w4 : World.cell? w4 ⟨g, o + 4 + 3, none⟩ = some (sb) := Low.cell (PSt.low PSTw4.out) XB3.out
  have xd0_w4 : World.cell? w4 ⟨g, o + 8, none⟩ = some (.int .i64 d.kind) := Low.cell (PSt.low PSTw4.out) XD0.out
  have xd1_w4 : World.cell? w4 ⟨g, o + 8 + 1, none⟩ = some (.string (⟨d.text.toArray⟩ : ByteArray)) := Low.cell (PSt.low PSTw4.out) XD1.out
  have xd2_w4 : World.cell? w4 ⟨g, o + 8 + 2, none⟩ = some (.int .i64 d.cols) := Low.cell (PSt.low PSTw4.out) XD2.out
  have xd3_w4 : World.cell? w4 ⟨g, o + 8 + 3, none⟩ = some (sd) := Low.cell (PSt.low PSTw4.out) XD3.out
  have xx0_w4 : World.cell? w4 ⟨gx, ox, none⟩ = some (.int .i64 x.kind) := Low.cell (PSt.low PSTw4.out) XX0.out
  have xx1_w4 : World.cell? w4 ⟨gx, ox + 1, none⟩ = some (.string (⟨x.text.toArray⟩ : ByteArray)) := Low.cell (PSt.low PSTw4.out) XX1.out
  have xx2_w4 : World.cell? w4 ⟨gx, ox + 2, none⟩ = some (.int .i64 x.cols) := Low.cell (PSt.low PSTw4.out) XX2.out
  have xx3_w4 : World.cell? w4 ⟨gx, ox + 3, none⟩ = some (sx) := Low.cell (PSt.low PSTw4.out) XX3.out
  have hlt_g_w4 : g < w4.heap.size := block_lt_of_cell xa0_w4
  have hlt_gx_w4 : gx < w4.heap.size := block_lt_of_cell xx0_w4
  clear htw4
  go_wp2_with fail
  refine Calls.mono ((mark_em W0 p B [94]) _ _ _ (PSt.fresh PSTw4.out (by first | exact (Touch.refl _ _) | exact (Touch.refl _ _).alloc _ | exact ((Touch.refl _ _).alloc _).alloc _ | exact (((Touch.refl _ _).alloc _).alloc _).alloc _ | exact (Touch.refl _ _).drewN _ | exact ((Touch.refl _ _).alloc _).drewN _ | exact (((Touch.refl _ _).alloc _).alloc _).drewN _)) FITw4.out.left) ?_
  rintro _ w5 ⟨rfl, htw5⟩
  have PSTw5 := hid (PSt.add2 (PSt.fresh PSTw4.out (by first | exact (Touch.refl _ _) | exact (Touch.refl _ _).alloc _ | exact ((Touch.refl _ _).alloc _).alloc _ | exact (((Touch.refl _ _).alloc _).alloc _).alloc _ | exact (Touch.refl _ _).drewN _ | exact ((Touch.refl _ _).alloc _).drewN _ | exact (((Touch.refl _ _).alloc _).alloc _).drewN _)) htw5)
  have ACCw5 := hid (PrAdd.app ACCw4.out (PrAdd.freshL (show Fresh w4 _ from (by first | exact (Touch.refl _ _) | exact (Touch.refl _ _).alloc _ | exact ((Touch.refl _ _).alloc _).alloc _ | exact (((Touch.refl _ _).alloc _).alloc _).alloc _ | exact (Touch.refl _ _).drewN _ | exact ((Touch.refl _ _).alloc _).drewN _ | exact (((Touch.refl _ _).alloc _).alloc _).drewN _)) htw5))
  have FITw5 := hid (Fits.right2 FITw4.out)
  have B0_w5 : Blk w5 (w.heap.size) 24 #[.int .i64 (9 : Int), tx, cl, .slice (some ⟨g, o, none⟩) 3 cap] := PrAdd.blk htw5 (by first | exact Blk.new _ _ _ | exact (Blk.new _ _ _).alloc _ | exact Blk.new2 _ _ _ _ | exact ((Blk.new _ _ _).alloc _).alloc _ | exact (Blk.new2 _ _ _ _).alloc _ | exact Blk.new3 _ _ _ _ _ | assumption | exact Blk.alloc (by assumption) _ | exact (Blk.alloc (Blk.alloc (by assumption) _) _)) (by have := PSt.lt PST0.out; have := PSt.hB PST0.out; omega) (by decide) (by decide)
  have B1_w5 : Blk w5 (w.heap.size + 1) 24 #[.int .i64 a.kind, .string (⟨a.text.toArray⟩ : ByteArray), .int .i64 a.cols, .slice (some ⟨gx, ox, none⟩) 1 cax] := PrAdd.blk htw5 (by first | exact Blk.new _ _ _ | exact (Blk.new _ _ _).alloc _ | exact Blk.new2 _ _ _ _ | exact ((Blk.new _ _ _).alloc _).alloc _ | exact (Blk.new2 _ _ _ _).alloc _ | exact Blk.new3 _ _ _ _ _ | assumption | exact Blk.alloc (by assumption) _ | exact (Blk.alloc (Blk.alloc (by assumption) _) _)) (by have := PSt.lt PST0.out; have := PSt.hB PST0.out; omega) (by decide) (by decide)
  clear q0_0_w4 q0_1_w4 q0_2_w4 q0_3_w4 B0_w4 q1_0_w4 q1_1_w4 q1_2_w4 q1_3_w4 B1_w4
  have q0_0_w5 : World.cell? w5 ⟨w.heap.size, 0, none⟩ = some (.int .i64 (9 : Int)) := Blk.cell B0_w5 0
  have q0_1_w5 : World.cell? w5 ⟨w.heap.size, 1, none⟩ = some (tx) := Blk.cell B0_w5 1
  have q0_2_w5 : World.cell? w5 ⟨w.heap.size, 2, none⟩ = some (cl) := Blk.cell B0_w5 2
  have q0_3_w5 : World.cell? w5 ⟨w.heap.size, 3, none⟩ = some (.slice (some ⟨g, o, none⟩) 3 cap) := Blk.cell B0_w5 3
  have q1_0_w5 : World.cell? w5 ⟨w.heap.size + 1, 0, none⟩ = some (.int .i64 a.kind) := Blk.cell B1_w5 0
  have q1_1_w5 : World.cell? w5 ⟨w.heap.size + 1, 1, none⟩ = some (.string (⟨a.text.toArray⟩ : ByteArray)) := Blk.cell B1_w5 1
  have q1_2_w5 : World.cell? w5 ⟨w.heap.size + 1, 2, none⟩ = some (.int .i64 a.cols) := Blk.cell B1_w5 2
  have q1_3_w5 : World.cell? w5 ⟨w.heap.size + 1, 3, none⟩ = some (.slice (some ⟨gx, ox, none⟩) 1 cax) := Blk.cell B1_w5 3
  clear xa0_w4 xa1_w4 xa2_w4 xa3_w4 xb0_w4 xb1_w4 xb2_w4 xb3_w4 xd0_w4 xd1_w4 xd2_w4 xd3_w4 xx0_w4 xx1_w4 xx2_w4 xx3_w4
  have xa0_w5 : World.cell? w5 ⟨g, o, none⟩ = some (.int .i64 a.kind) := Low.cell (PSt.low PSTw5.out) XA0.out
  have xa1_w5 : World.cell? w5 ⟨g, o + 1, none⟩ = some (.string (⟨a.text.toArray⟩ : ByteArray)) := Low.cell (PSt.low PSTw5.out) XA1.out
  have xa2_w5 : World.cell? w5 ⟨g, o + 2, none⟩ = some (.int .i64 a.cols) := Low.cell (PSt.low PSTw5.out) XA2.out
  have xa3_w5 : World.cell? w5 ⟨g, o + 3, none⟩ = some (.slice (some ⟨gx, ox, none⟩) 1 cax) := Low.cell (PSt.low PSTw5.out) XA3.out
  have xb0_w5 : World.cell? w5 ⟨g, o + 4, none⟩ = some (.int .i64 b.kind) := Low.cell (PSt.low PSTw5.out) XB0.out
  have xb1_w5 : World.cell? w5 ⟨g, o + 4 + 1, none⟩ = some (.string (⟨b.text.toArray⟩ : ByteArray)) := Low.cell (PSt.low PSTw5.out) XB1.out
  have xb2_w5 : World.cell? w5 ⟨g, o + 4 + 2, none⟩ = some (.int .i64 b.cols) := Low.cell (PSt.low PSTw5.out) XB2.out
  have xb3_w5 : World.cell? w5 ⟨g, o + 4 + 3, none⟩ = some (sb) := Low.cell (PSt.low PSTw5.out) XB3.out
  have xd0_w5 : World.cell? w5 ⟨g, o + 8, none⟩ = some (.int .i64 d.kind) := Low.cell (PSt.low PSTw5.out) XD0.out
  have xd1_w5 : World.cell? w5 ⟨g, o + 8 + 1, none⟩ = some (.string (⟨d.text.toArray⟩ : ByteArray)) := Low.cell (PSt.low PSTw5.out) XD1.out
  have xd2_w5 : World.cell? w5 ⟨g, o + 8 + 2, none⟩ = some (.int .i64 d.cols) := Low.cell (PSt.low PSTw5.out) XD2.out
  have xd3_w5 : World.cell? w5 ⟨g, o + 8 + 3, none⟩ = some (sd) := Low.cell (PSt.low PSTw5.out) XD3.out
  have xx0_w5 : World.cell? w5 ⟨gx, ox, none⟩ = some (.int .i64 x.kind) := Low.cell (PSt.low PSTw5.out) XX0.out
  have xx1_w5 : World.cell? w5 ⟨gx, ox + 1, none⟩ = some (.string (⟨x.text.toArray⟩ : ByteArray)) := Low.cell (PSt.low PSTw5.out) XX1.out
  have xx2_w5 : World.cell? w5 ⟨gx, ox + 2, none⟩ = some (.int .i64 x.cols) := Low.cell (PSt.low PSTw5.out) XX2.out
  have xx3_w5 : World.cell? w5 ⟨gx, ox + 3, none⟩ = some (sx) := Low.cell (PSt.low PSTw5.out) XX3.out
  have hlt_g_w5 : g < w5.heap.size := block_lt_of_cell xa0_w5
  have hlt_gx_w5 : gx < w5.heap.size := block_lt_of_cell xx0_w5
  clear htw5
  go_wp2_with fail
  refine Calls.mono ((ARGd.out) _ _ _ (PSt.fresh PSTw5.out (by first | exact (Touch.refl _ _) | exact (Touch.refl _ _).alloc _ | exact ((Touch.refl _ _).alloc _).alloc _ | exact (((Touch.refl _ _).alloc _).alloc _).alloc _ | exact (Touch.refl _ _).drewN _ | exact ((Touch.refl _ _).alloc _).drewN _ | exact (((Touch.refl _ _).alloc _).alloc _).drewN _)) FITw5.out) ?_
  rintro _ w6 ⟨rfl, htw6⟩
  have PSTw6 := hid (PSt.add2 (PSt.fresh PSTw5.out (by first | exact (Touch.refl _ _) | exact (Touch.refl _ _).alloc _ | exact ((Touch.refl _ _).alloc _).alloc _ | exact (((Touch.refl _ _).alloc _).alloc _).alloc _ | exact (Touch.refl _ _).drewN _ | exact ((Touch.refl _ _).alloc _).drewN _ | exact (((Touch.refl _ _).alloc _).alloc _).drewN _)) htw6)
  have ACCw6 := hid (PrAdd.app ACCw5.out (PrAdd.freshL (show Fresh w5 _ from (by first | exact (Touch.refl _ _) | exact (Touch.refl _ _).alloc _ | exact ((Touch.refl _ _).alloc _).alloc _ | exact (((Touch.refl _ _).alloc _).alloc _).alloc _ | exact (Touch.refl _ _).drewN _ | exact ((Touch.refl _ _).alloc _).drewN _ | exact (((Touch.refl _ _).alloc _).alloc _).drewN _)) htw6))
  have B0_w6 : Blk w6 (w.heap.size) 24 #[.int .i64 (9 : Int), tx, cl, .slice (some ⟨g, o, none⟩) 3 cap] := PrAdd.blk htw6 (by first | exact Blk.new _ _ _ | exact (Blk.new _ _ _).alloc _ | exact Blk.new2 _ _ _ _ | exact ((Blk.new _ _ _).alloc _).alloc _ | exact (Blk.new2 _ _ _ _).alloc _ | exact Blk.new3 _ _ _ _ _ | assumption | exact Blk.alloc (by assumption) _ | exact (Blk.alloc (Blk.alloc (by assumption) _) _)) (by have := PSt.lt PST0.out; have := PSt.hB PST0.out; omega) (by decide) (by decide)
  have B1_w6 : Blk w6 (w.heap.size + 1) 24 #[.int .i64 a.kind, .string (⟨a.text.toArray⟩ : ByteArray), .int .i64 a.cols, .slice (some ⟨gx, ox, none⟩) 1 cax] := PrAdd.blk htw6 (by first | exact Blk.new _ _ _ | exact (Blk.new _ _ _).alloc _ | exact Blk.new2 _ _ _ _ | exact ((Blk.new _ _ _).alloc _).alloc _ | exact (Blk.new2 _ _ _ _).alloc _ | exact Blk.new3 _ _ _ _ _ | assumption | exact Blk.alloc (by assumption) _ | exact (Blk.alloc (Blk.alloc (by assumption) _) _)) (by have := PSt.lt PST0.out; have := PSt.hB PST0.out; omega) (by decide) (by decide)
  clear q0_0_w5 q0_1_w5 q0_2_w5 q0_3_w5 B0_w5 q1_0_w5 q1_1_w5 q1_2_w5 q1_3_w5 B1_w5
  have q0_0_w6 : World.cell? w6 ⟨w.heap.size, 0, none⟩ = some (.int .i64 (9 : Int)) := Blk.cell B0_w6 0
  have q0_1_w6 : World.cell? w6 ⟨w.heap.size, 1, none⟩ = some (tx) := Blk.cell B0_w6 1
  have q0_2_w6 : World.cell? w6 ⟨w.heap.size, 2, none⟩ = some (cl) := Blk.cell B0_w6 2
  have q0_3_w6 : World.cell? w6 ⟨w.heap.size, 3, none⟩ = some (.slice (some ⟨g, o, none⟩) 3 cap) := Blk.cell B0_w6 3
  have q1_0_w6 : World.cell? w6 ⟨w.heap.size + 1, 0, none⟩ = some (.int .i64 a.kind) := Blk.cell B1_w6 0
  have q1_1_w6 : World.cell? w6 ⟨w.heap.size + 1, 1, none⟩ = some (.string (⟨a.text.toArray⟩ : ByteArray)) := Blk.cell B1_w6 1
  have q1_2_w6 : World.cell? w6 ⟨w.heap.size + 1, 2, none⟩ = some (.int .i64 a.cols) := Blk.cell B1_w6 2
  have q1_3_w6 : World.cell? w6 ⟨w.heap.size + 1, 3, none⟩ = some (.slice (some ⟨gx, ox, none⟩) 1 cax) := Blk.cell B1_w6 3
  clear xa0_w5 xa1_w5 xa2_w5 xa3_w5 xb0_w5 xb1_w5 xb2_w5 xb3_w5 xd0_w5 xd1_w5 xd2_w5 xd3_w5 xx0_w5 xx1_w5 xx2_w5 xx3_w5
  have xa0_w6 : World.cell? w6 ⟨g, o, none⟩ = some (.int .i64 a.kind) := Low.cell (PSt.low PSTw6.out) XA0.out
  have xa1_w6 : World.cell? w6 ⟨g, o + 1, none⟩ = some (.string (⟨a.text.toArray⟩ : ByteArray)) := Low.cell (PSt.low PSTw6.out) XA1.out
  have xa2_w6 : World.cell? w6 ⟨g, o + 2, none⟩ = some (.int .i64 a.cols) := Low.cell (PSt.low PSTw6.out) XA2.out
  have xa3_w6 : World.cell? w6 ⟨g, o + 3, none⟩ = some (.slice (some ⟨gx, ox, none⟩) 1 cax) := Low.cell (PSt.low PSTw6.out) XA3.out
  have xb0_w6 : World.cell? w6 ⟨g, o + 4, none⟩ = some (.int .i64 b.kind) := Low.cell (PSt.low PSTw6.out) XB0.out
  have xb1_w6 : World.cell? w6 ⟨g, o + 4 + 1, none⟩ = some (.string (⟨b.text.toArray⟩ : ByteArray)) := Low.cell (PSt.low PSTw6.out) XB1.out
  have xb2_w6 : World.cell? w6 ⟨g, o + 4 + 2, none⟩ = some (.int .i64 b.cols) := Low.cell (PSt.low PSTw6.out) XB2.out
  have xb3_w6 : World.cell? w6 ⟨g, o + 4 + 3, none⟩ = some (sb) := Low.cell (PSt.low PSTw6.out) XB3.out
  have xd0_w6 : World.cell? w6 ⟨g, o + 8, none⟩ = some (.int .i64 d.kind) := Low.cell (PSt.low PSTw6.out) XD0.out
  have xd1_w6 : World.cell? w6 ⟨g, o + 8 + 1, none⟩ = some (.string (⟨d.text.toArray⟩ : ByteArray)) := Low.cell (PSt.low PSTw6.out) XD1.out
  have xd2_w6 : World.cell? w6 ⟨g, o + 8 + 2, none⟩ = some (.int .i64 d.cols) := Low.cell (PSt.low PSTw6.out) XD2.out
  have xd3_w6 : World.cell? w6 ⟨g, o + 8 + 3, none⟩ = some (sd) := Low.cell (PSt.low PSTw6.out) XD3.out
  have xx0_w6 : World.cell? w6 ⟨gx, ox, none⟩ = some (.int .i64 x.kind) := Low.cell (PSt.low PSTw6.out) XX0.out
  have xx1_w6 : World.cell? w6 ⟨gx, ox + 1, none⟩ = some (.string (⟨x.text.toArray⟩ : ByteArray)) := Low.cell (PSt.low PSTw6.out) XX1.out
  have xx2_w6 : World.cell? w6 ⟨gx, ox + 2, none⟩ = some (.int .i64 x.cols) := Low.cell (PSt.low PSTw6.out) XX2.out
  have xx3_w6 : World.cell? w6 ⟨gx, ox + 3, none⟩ = some (sx) := Low.cell (PSt.low PSTw6.out) XX3.out
  have hlt_g_w6 : g < w6.heap.size := block_lt_of_cell xa0_w6
  have hlt_gx_w6 : gx < w6.heap.size := block_lt_of_cell xx0_w6
  clear htw6
  go_wp2_with fail
  first | go_end0 | refine bodyPost_ret (v := .tuple #[]) (results_none rfl _ _ _) rfl ?_
  exact ⟨rfl, PrAdd.cast ACCw6.out (by first | rfl | (simp only [List.append_assoc] <;> rfl))⟩

set_option maxRecDepth 100000 in
set_option maxHeartbeats 1000000 in
theorem scripts_9_item (W0 : World) (p B : Nat) (tx cl : Value) (a b d : Nd) (x : Nd) (hx : a.kids = [x]) (hs : Tr.scripted x = true) (ha : GroupE W0 p B a) (hb : ArgE W0 p B b) (hd : ArgE W0 p B d) (sl : Value) (hsl : RepL W0 [a, b, d] sl) : Emits 62 #[pp p, .agg #[.int .i64 9, tx, cl, sl]] W0 p B (baseT a ++ ([Tr.mk7 95] ++ (argT b ++ ([Tr.mk7 94] ++ argT d)))) := by
  intro w toks txt hp hf
  rw [baseT_grp a x hx hs] at hf ⊢
  obtain ⟨g, o, cap, sa, sb, sd, rfl, a0, a1, a2, a3, hra, b0, b1, b2, b3, hrb, d0, d1, d2, d3, hrd⟩ := hsl.three
  have GRPa := hid (ha sa hra)
  have ARGb := hid (hb sb hrb)
  have ARGd := hid (hd sd hrd)
  rw [hx] at hra
  obtain ⟨gx, ox, cax, sx, rfl, x0, x1, x2, x3, hrx⟩ := hra.one
  have e1 : a.kids.length = 1 := by rw [hx]; rfl
  have HS := hid hs
  clear e1 hs hrx
  have PST0 := hid hp
  have FIT0 := hid hf
  clear hp hf ha hb hd hsl hra hrb hrd hx
  have XA0 := hid a0
  have XA1 := hid a1
  have XA2 := hid a2
  have XA3 := hid a3
  have XB0 := hid b0
  have XB1 := hid b1
  have XB2 := hid b2
  have XB3 := hid b3
  have XD0 := hid d0
  have XD1 := hid d1
  have XD2 := hid d2
  have XD3 := hid d3
  have XX0 := hid x0
  have XX1 := hid x1
  have XX2 := hid x2
  have XX3 := hid x3
  clear a0 a1 a2 a3 b0 b1 b2 b3 d0 d1 d2 d3 x0 x1 x2 x3
  have xa0_w : World.cell? w ⟨g, o, none⟩ = some (.int .i64 a.kind) := Low.cell (PSt.low PST0.out) XA0.out
  have xa1_w : World.cell? w ⟨g, o + 1, none⟩ = some (.string (⟨a.text.toArray⟩ : ByteArray)) := Low.cell (PSt.low PST0.out) XA1.out
  have xa2_w : World.cell? w ⟨g, o + 2, none⟩ = some (.int .i64 a.cols) := Low.cell (PSt.low PST0.out) XA2.out
  have xa3_w : World.cell? w ⟨g, o + 3, none⟩ = some (.slice (some ⟨gx, ox, none⟩) 1 cax) := Low.cell (PSt.low PST0.out) XA3.out
  have xb0_w : World.cell? w ⟨g, o + 4, none⟩ = some (.int .i64 b.kind) := Low.cell (PSt.low PST0.out) XB0.out
  have xb1_w : World.cell? w ⟨g, o + 4 + 1, none⟩ = some (.string (⟨b.text.toArray⟩ : ByteArray)) := Low.cell (PSt.low PST0.out) XB1.out
  have xb2_w : World.cell? w ⟨g, o + 4 + 2, none⟩ = some (.int .i64 b.cols) := Low.cell (PSt.low PST0.out) XB2.out
  have xb3_w : World.cell? w ⟨g, o + 4 + 3, none⟩ = some (sb) := Low.cell (PSt.low PST0.out) XB3.out
  have xd0_w : World.cell? w ⟨g, o + 8, none⟩ = some (.int .i64 d.kind) := Low.cell (PSt.low PST0.out) XD0.out
  have xd1_w : World.cell? w ⟨g, o + 8 + 1, none⟩ = some (.string (⟨d.text.toArray⟩ : ByteArray)) := Low.cell (PSt.low PST0.out) XD1.out
  have xd2_w : World.cell? w ⟨g, o + 8 + 2, none⟩ = some (.int .i64 d.cols) := Low.cell (PSt.low PST0.out) XD2.out
  have xd3_w : World.cell? w ⟨g, o + 8 + 3, none⟩ = some (sd) := Low.cell (PSt.low PST0.out) XD3.out
  have xx0_w : World.cell? w ⟨gx, ox, none⟩ = some (.int .i64 x.kind) := Low.cell (PSt.low PST0.out) XX0.out
  have xx1_w : World.cell? w ⟨gx, ox + 1, none⟩ = some (.string (⟨x.text.toArray⟩ : ByteArray)) := Low.cell (PSt.low PST0.out) XX1.out
  have xx2_w : World.cell? w ⟨gx, ox + 2, none⟩ = some (.int .i64 x.cols) := Low.cell (PSt.low PST0.out) XX2.out
  have xx3_w : World.cell? w ⟨gx, ox + 3, none⟩ = some (sx) := Low.cell (PSt.low PST0.out) XX3.out
  have hlt_g_w : g < w.heap.size := block_lt_of_cell xa0_w
  have hlt_gx_w : gx < w.heap.size := block_lt_of_cell xx0_w
  go_enter Try.func62, Try.ntmps62
  go_wp2_with fail
  refine Calls.mono (scripted_is x _ _ HS.out) ?_
  rintro _ w1 ⟨rfl, hfw1⟩
  have HF1 := hid (show Fresh w w1 from by first | exact hfw1 | exact Touch.pre hfw1 | exact Touch.pre (Touch.pre hfw1) | exact Touch.ofN hfw1 | exact Touch.preN hfw1 | exact Touch.pre (Touch.pre (Touch.pre hfw1)))
  have B0_w1 : Blk w1 (w.heap.size) 24 #[.int .i64 (9 : Int), tx, cl, .slice (some ⟨g, o, none⟩) 3 cap] := Touch.blk hfw1 (by first | exact Blk.new _ _ _ | exact (Blk.new _ _ _).alloc _ | exact Blk.new2 _ _ _ _ | exact ((Blk.new _ _ _).alloc _).alloc _ | exact (Blk.new2 _ _ _ _).alloc _ | exact Blk.new3 _ _ _ _ _ | assumption | exact Blk.alloc (by assumption) _ | exact (Blk.alloc (Blk.alloc (by assumption) _) _)) (fun h => h)
  have B1_w1 : Blk w1 (w.heap.size + 1) 24 #[.int .i64 a.kind, .string (⟨a.text.toArray⟩ : ByteArray), .int .i64 a.cols, .slice (some ⟨gx, ox, none⟩) 1 cax] := Touch.blk hfw1 (by first | exact Blk.new _ _ _ | exact (Blk.new _ _ _).alloc _ | exact Blk.new2 _ _ _ _ | exact ((Blk.new _ _ _).alloc _).alloc _ | exact (Blk.new2 _ _ _ _).alloc _ | exact Blk.new3 _ _ _ _ _ | assumption | exact Blk.alloc (by assumption) _ | exact (Blk.alloc (Blk.alloc (by assumption) _) _)) (fun h => h)
  have q0_0_w1 : World.cell? w1 ⟨w.heap.size, 0, none⟩ = some (.int .i64 (9 : Int)) := Blk.cell B0_w1 0
  have q0_1_w1 : World.cell? w1 ⟨w.heap.size, 1, none⟩ = some (tx) := Blk.cell B0_w1 1
  have q0_2_w1 : World.cell? w1 ⟨w.heap.size, 2, none⟩ = some (cl) := Blk.cell B0_w1 2
  have q0_3_w1 : World.cell? w1 ⟨w.heap.size, 3, none⟩ = some (.slice (some ⟨g, o, none⟩) 3 cap) := Blk.cell B0_w1 3
  have q1_0_w1 : World.cell? w1 ⟨w.heap.size + 1, 0, none⟩ = some (.int .i64 a.kind) := Blk.cell B1_w1 0
  have q1_1_w1 : World.cell? w1 ⟨w.heap.size + 1, 1, none⟩ = some (.string (⟨a.text.toArray⟩ : ByteArray)) := Blk.cell B1_w1 1
  have q1_2_w1 : World.cell? w1 ⟨w.heap.size + 1, 2, none⟩ = some (.int .i64 a.cols) := Blk.cell B1_w1 2
  have q1_3_w1 : World.cell? w1 ⟨w.heap.size + 1, 3, none⟩ = some (.slice (some ⟨gx, ox, none⟩) 1 cax) := Blk.cell B1_w1 3
  have xa0_w1 : World.cell? w1 ⟨g, o, none⟩ = some (.int .i64 a.kind) := Touch.cell HF1.out xa0_w (fun h => h)
  have xa1_w1 : World.cell? w1 ⟨g, o + 1, none⟩ = some (.string (⟨a.text.toArray⟩ : ByteArray)) := Touch.cell HF1.out xa1_w (fun h => h)
  have xa2_w1 : World.cell? w1 ⟨g, o + 2, none⟩ = some (.int .i64 a.cols) := Touch.cell HF1.out xa2_w (fun h => h)
  have xa3_w1 : World.cell? w1 ⟨g, o + 3, none⟩ = some (.slice (some ⟨gx, ox, none⟩) 1 cax) := Touch.cell HF1.out xa3_w (fun h => h)
  have xb0_w1 : World.cell? w1 ⟨g, o + 4, none⟩ = some (.int .i64 b.kind) := Touch.cell HF1.out xb0_w (fun h => h)
  have xb1_w1 : World.cell? w1 ⟨g, o + 4 + 1, none⟩ = some (.string (⟨b.text.toArray⟩ : ByteArray)) := Touch.cell HF1.out xb1_w (fun h => h)
  have xb2_w1 : World.cell? w1 ⟨g, o + 4 + 2, none⟩ = some (.int .i64 b.cols) := Touch.cell HF1.out xb2_w (fun h => h)
  have xb3_w1 : World.cell? w1 ⟨g, o + 4 + 3, none⟩ = some (sb) := Touch.cell HF1.out xb3_w (fun h => h)
  have xd0_w1 : World.cell? w1 ⟨g, o + 8, none⟩ = some (.int .i64 d.kind) := Touch.cell HF1.out xd0_w (fun h => h)
  have xd1_w1 : World.cell? w1 ⟨g, o + 8 + 1, none⟩ = some (.string (⟨d.text.toArray⟩ : ByteArray)) := Touch.cell HF1.out xd1_w (fun h => h)
  have xd2_w1 : World.cell? w1 ⟨g, o + 8 + 2, none⟩ = some (.int .i64 d.cols) := Touch.cell HF1.out xd2_w (fun h => h)
  have xd3_w1 : World.cell? w1 ⟨g, o + 8 + 3, none⟩ = some (sd) := Touch.cell HF1.out xd3_w (fun h => h)
  have xx0_w1 : World.cell? w1 ⟨gx, ox, none⟩ = some (.int .i64 x.kind) := Touch.cell HF1.out xx0_w (fun h => h)
  have xx1_w1 : World.cell? w1 ⟨gx, ox + 1, none⟩ = some (.string (⟨x.text.toArray⟩ : ByteArray)) := Touch.cell HF1.out xx1_w (fun h => h)
  have xx2_w1 : World.cell? w1 ⟨gx, ox + 2, none⟩ = some (.int .i64 x.cols) := Touch.cell HF1.out xx2_w (fun h => h)
  have xx3_w1 : World.cell? w1 ⟨gx, ox + 3, none⟩ = some (sx) := Touch.cell HF1.out xx3_w (fun h => h)
  clear xa0_w xa1_w xa2_w xa3_w xb0_w xb1_w xb2_w xb3_w xd0_w xd1_w xd2_w xd3_w xx0_w xx1_w xx2_w xx3_w
  have hlt_g_w1 : g < w1.heap.size := block_lt_of_cell xa0_w1
  have hlt_gx_w1 : gx < w1.heap.size := block_lt_of_cell xx0_w1
  have PSTw1 := hid (PSt.fresh PST0.out HF1.out)
  clear hfw1
  go_wp2_with fail
  refine Calls.mono ((GRPa.out) _ _ _ (PSt.fresh PSTw1.out (by first | exact (Touch.refl _ _) | exact (Touch.refl _ _).alloc _ | exact ((Touch.refl _ _).alloc _).alloc _ | exact (((Touch.refl _ _).alloc _).alloc _).alloc _ | exact (Touch.refl _ _).drewN _ | exact ((Touch.refl _ _).alloc _).drewN _ | exact (((Touch.refl _ _).alloc _).alloc _).drewN _)) FIT0.out.left) ?_
  rintro _ w2 ⟨rfl, htw2⟩
  have PSTw2 := hid (PSt.add (PSt.fresh PSTw1.out (by first | exact (Touch.refl _ _) | exact (Touch.refl _ _).alloc _ | exact ((Touch.refl _ _).alloc _).alloc _ | exact (((Touch.refl _ _).alloc _).alloc _).alloc _ | exact (Touch.refl _ _).drewN _ | exact ((Touch.refl _ _).alloc _).drewN _ | exact (((Touch.refl _ _).alloc _).alloc _).drewN _)) htw2)
  have ACCw2 := hid (PrAdd.freshL (show Fresh w _ from (by first | exact HF1.out | exact HF1.out.alloc _ | exact (HF1.out.alloc _).alloc _ | exact ((HF1.out.alloc _).alloc _).alloc _ | exact HF1.out.drewN _ | exact (HF1.out.alloc _).drewN _ | exact ((HF1.out.alloc _).alloc _).drewN _)) htw2)
  have FITw2 := hid (Fits.right FIT0.out)
  have B0_w2 : Blk w2 (w.heap.size) 24 #[.int .i64 (9 : Int), tx, cl, .slice (some ⟨g, o, none⟩) 3 cap] := PrAdd.blk htw2 (by first | exact Blk.new _ _ _ | exact (Blk.new _ _ _).alloc _ | exact Blk.new2 _ _ _ _ | exact ((Blk.new _ _ _).alloc _).alloc _ | exact (Blk.new2 _ _ _ _).alloc _ | exact Blk.new3 _ _ _ _ _ | assumption | exact Blk.alloc (by assumption) _ | exact (Blk.alloc (Blk.alloc (by assumption) _) _)) (by have := PSt.lt PST0.out; have := PSt.hB PST0.out; omega) (by decide) (by decide)
  have B1_w2 : Blk w2 (w.heap.size + 1) 24 #[.int .i64 a.kind, .string (⟨a.text.toArray⟩ : ByteArray), .int .i64 a.cols, .slice (some ⟨gx, ox, none⟩) 1 cax] := PrAdd.blk htw2 (by first | exact Blk.new _ _ _ | exact (Blk.new _ _ _).alloc _ | exact Blk.new2 _ _ _ _ | exact ((Blk.new _ _ _).alloc _).alloc _ | exact (Blk.new2 _ _ _ _).alloc _ | exact Blk.new3 _ _ _ _ _ | assumption | exact Blk.alloc (by assumption) _ | exact (Blk.alloc (Blk.alloc (by assumption) _) _)) (by have := PSt.lt PST0.out; have := PSt.hB PST0.out; omega) (by decide) (by decide)
  clear q0_0_w1 q0_1_w1 q0_2_w1 q0_3_w1 B0_w1 q1_0_w1 q1_1_w1 q1_2_w1 q1_3_w1 B1_w1
  have q0_0_w2 : World.cell? w2 ⟨w.heap.size, 0, none⟩ = some (.int .i64 (9 : Int)) := Blk.cell B0_w2 0
  have q0_1_w2 : World.cell? w2 ⟨w.heap.size, 1, none⟩ = some (tx) := Blk.cell B0_w2 1
  have q0_2_w2 : World.cell? w2 ⟨w.heap.size, 2, none⟩ = some (cl) := Blk.cell B0_w2 2
  have q0_3_w2 : World.cell? w2 ⟨w.heap.size, 3, none⟩ = some (.slice (some ⟨g, o, none⟩) 3 cap) := Blk.cell B0_w2 3
  have q1_0_w2 : World.cell? w2 ⟨w.heap.size + 1, 0, none⟩ = some (.int .i64 a.kind) := Blk.cell B1_w2 0
  have q1_1_w2 : World.cell? w2 ⟨w.heap.size + 1, 1, none⟩ = some (.string (⟨a.text.toArray⟩ : ByteArray)) := Blk.cell B1_w2 1
  have q1_2_w2 : World.cell? w2 ⟨w.heap.size + 1, 2, none⟩ = some (.int .i64 a.cols) := Blk.cell B1_w2 2
  have q1_3_w2 : World.cell? w2 ⟨w.heap.size + 1, 3, none⟩ = some (.slice (some ⟨gx, ox, none⟩) 1 cax) := Blk.cell B1_w2 3
  clear xa0_w1 xa1_w1 xa2_w1 xa3_w1 xb0_w1 xb1_w1 xb2_w1 xb3_w1 xd0_w1 xd1_w1 xd2_w1 xd3_w1 xx0_w1 xx1_w1 xx2_w1 xx3_w1
  have xa0_w2 : World.cell? w2 ⟨g, o, none⟩ = some (.int .i64 a.kind) := Low.cell (PSt.low PSTw2.out) XA0.out
  have xa1_w2 : World.cell? w2 ⟨g, o + 1, none⟩ = some (.string (⟨a.text.toArray⟩ : ByteArray)) := Low.cell (PSt.low PSTw2.out) XA1.out
  have xa2_w2 : World.cell? w2 ⟨g, o + 2, none⟩ = some (.int .i64 a.cols) := Low.cell (PSt.low PSTw2.out) XA2.out
  have xa3_w2 : World.cell? w2 ⟨g, o + 3, none⟩ = some (.slice (some ⟨gx, ox, none⟩) 1 cax) := Low.cell (PSt.low PSTw2.out) XA3.out
  have xb0_w2 : World.cell? w2 ⟨g, o + 4, none⟩ = some (.int .i64 b.kind) := Low.cell (PSt.low PSTw2.out) XB0.out
  have xb1_w2 : World.cell? w2 ⟨g, o + 4 + 1, none⟩ = some (.string (⟨b.text.toArray⟩ : ByteArray)) := Low.cell (PSt.low PSTw2.out) XB1.out
  have xb2_w2 : World.cell? w2 ⟨g, o + 4 + 2, none⟩ = some (.int .i64 b.cols) := Low.cell (PSt.low PSTw2.out) XB2.out
  have xb3_w2 : World.cell? w2 ⟨g, o + 4 + 3, none⟩ = some (sb) := Low.cell (PSt.low PSTw2.out) XB3.out
  have xd0_w2 : World.cell? w2 ⟨g, o + 8, none⟩ = some (.int .i64 d.kind) := Low.cell (PSt.low PSTw2.out) XD0.out
  have xd1_w2 : World.cell? w2 ⟨g, o + 8 + 1, none⟩ = some (.string (⟨d.text.toArray⟩ : ByteArray)) := Low.cell (PSt.low PSTw2.out) XD1.out
  have xd2_w2 : World.cell? w2 ⟨g, o + 8 + 2, none⟩ = some (.int .i64 d.cols) := Low.cell (PSt.low PSTw2.out) XD2.out
  have xd3_w2 : World.cell? w2 ⟨g, o + 8 + 3, none⟩ = some (sd) := Low.cell (PSt.low PSTw2.out) XD3.out
  have xx0_w2 : World.cell? w2 ⟨gx, ox, none⟩ = some (.int .i64 x.kind) := Low.cell (PSt.low PSTw2.out) XX0.out
  have xx1_w2 : World.cell? w2 ⟨gx, ox + 1, none⟩ = some (.string (⟨x.text.toArray⟩ : ByteArray)) := Low.cell (PSt.low PSTw2.out) XX1.out
  have xx2_w2 : World.cell? w2 ⟨gx, ox + 2, none⟩ = some (.int .i64 x.cols) := Low.cell (PSt.low PSTw2.out) XX2.out
  have xx3_w2 : World.cell? w2 ⟨gx, ox + 3, none⟩ = some (sx) := Low.cell (PSt.low PSTw2.out) XX3.out
  have hlt_g_w2 : g < w2.heap.size := block_lt_of_cell xa0_w2
  have hlt_gx_w2 : gx < w2.heap.size := block_lt_of_cell xx0_w2
  clear htw2
  go_wp2_with fail
  refine Calls.mono ((mark_em W0 p B [95]) _ _ _ (PSt.fresh PSTw2.out (by first | exact (Touch.refl _ _) | exact (Touch.refl _ _).alloc _ | exact ((Touch.refl _ _).alloc _).alloc _ | exact (((Touch.refl _ _).alloc _).alloc _).alloc _ | exact (Touch.refl _ _).drewN _ | exact ((Touch.refl _ _).alloc _).drewN _ | exact (((Touch.refl _ _).alloc _).alloc _).drewN _)) FITw2.out.left) ?_
  rintro _ w3 ⟨rfl, htw3⟩
  have PSTw3 := hid (PSt.add2 (PSt.fresh PSTw2.out (by first | exact (Touch.refl _ _) | exact (Touch.refl _ _).alloc _ | exact ((Touch.refl _ _).alloc _).alloc _ | exact (((Touch.refl _ _).alloc _).alloc _).alloc _ | exact (Touch.refl _ _).drewN _ | exact ((Touch.refl _ _).alloc _).drewN _ | exact (((Touch.refl _ _).alloc _).alloc _).drewN _)) htw3)
  have ACCw3 := hid (PrAdd.app ACCw2.out (PrAdd.freshL (show Fresh w2 _ from (by first | exact (Touch.refl _ _) | exact (Touch.refl _ _).alloc _ | exact ((Touch.refl _ _).alloc _).alloc _ | exact (((Touch.refl _ _).alloc _).alloc _).alloc _ | exact (Touch.refl _ _).drewN _ | exact ((Touch.refl _ _).alloc _).drewN _ | exact (((Touch.refl _ _).alloc _).alloc _).drewN _)) htw3))
  have FITw3 := hid (Fits.right2 FITw2.out)
  have B0_w3 : Blk w3 (w.heap.size) 24 #[.int .i64 (9 : Int), tx, cl, .slice (some ⟨g, o, none⟩) 3 cap] := PrAdd.blk htw3 (by first | exact Blk.new _ _ _ | exact (Blk.new _ _ _).alloc _ | exact Blk.new2 _ _ _ _ | exact ((Blk.new _ _ _).alloc _).alloc _ | exact (Blk.new2 _ _ _ _).alloc _ | exact Blk.new3 _ _ _ _ _ | assumption | exact Blk.alloc (by assumption) _ | exact (Blk.alloc (Blk.alloc (by assumption) _) _)) (by have := PSt.lt PST0.out; have := PSt.hB PST0.out; omega) (by decide) (by decide)
  have B1_w3 : Blk w3 (w.heap.size + 1) 24 #[.int .i64 a.kind, .string (⟨a.text.toArray⟩ : ByteArray), .int .i64 a.cols, .slice (some ⟨gx, ox, none⟩) 1 cax] := PrAdd.blk htw3 (by first | exact Blk.new _ _ _ | exact (Blk.new _ _ _).alloc _ | exact Blk.new2 _ _ _ _ | exact ((Blk.new _ _ _).alloc _).alloc _ | exact (Blk.new2 _ _ _ _).alloc _ | exact Blk.new3 _ _ _ _ _ | assumption | exact Blk.alloc (by assumption) _ | exact (Blk.alloc (Blk.alloc (by assumption) _) _)) (by have := PSt.lt PST0.out; have := PSt.hB PST0.out; omega) (by decide) (by decide)
  clear q0_0_w2 q0_1_w2 q0_2_w2 q0_3_w2 B0_w2 q1_0_w2 q1_1_w2 q1_2_w2 q1_3_w2 B1_w2
  have q0_0_w3 : World.cell? w3 ⟨w.heap.size, 0, none⟩ = some (.int .i64 (9 : Int)) := Blk.cell B0_w3 0
  have q0_1_w3 : World.cell? w3 ⟨w.heap.size, 1, none⟩ = some (tx) := Blk.cell B0_w3 1
  have q0_2_w3 : World.cell? w3 ⟨w.heap.size, 2, none⟩ = some (cl) := Blk.cell B0_w3 2
  have q0_3_w3 : World.cell? w3 ⟨w.heap.size, 3, none⟩ = some (.slice (some ⟨g, o, none⟩) 3 cap) := Blk.cell B0_w3 3
  have q1_0_w3 : World.cell? w3 ⟨w.heap.size + 1, 0, none⟩ = some (.int .i64 a.kind) := Blk.cell B1_w3 0
  have q1_1_w3 : World.cell? w3 ⟨w.heap.size + 1, 1, none⟩ = some (.string (⟨a.text.toArray⟩ : ByteArray)) := Blk.cell B1_w3 1
  have q1_2_w3 : World.cell? w3 ⟨w.heap.size + 1, 2, none⟩ = some (.int .i64 a.cols) := Blk.cell B1_w3 2
  have q1_3_w3 : World.cell? w3 ⟨w.heap.size + 1, 3, none⟩ = some (.slice (some ⟨gx, ox, none⟩) 1 cax) := Blk.cell B1_w3 3
  clear xa0_w2 xa1_w2 xa2_w2 xa3_w2 xb0_w2 xb1_w2 xb2_w2 xb3_w2 xd0_w2 xd1_w2 xd2_w2 xd3_w2 xx0_w2 xx1_w2 xx2_w2 xx3_w2
  have xa0_w3 : World.cell? w3 ⟨g, o, none⟩ = some (.int .i64 a.kind) := Low.cell (PSt.low PSTw3.out) XA0.out
  have xa1_w3 : World.cell? w3 ⟨g, o + 1, none⟩ = some (.string (⟨a.text.toArray⟩ : ByteArray)) := Low.cell (PSt.low PSTw3.out) XA1.out
  have xa2_w3 : World.cell? w3 ⟨g, o + 2, none⟩ = some (.int .i64 a.cols) := Low.cell (PSt.low PSTw3.out) XA2.out
  have xa3_w3 : World.cell? w3 ⟨g, o + 3, none⟩ = some (.slice (some ⟨gx, ox, none⟩) 1 cax) := Low.cell (PSt.low PSTw3.out) XA3.out
  have xb0_w3 : World.cell? w3 ⟨g, o + 4, none⟩ = some (.int .i64 b.kind) := Low.cell (PSt.low PSTw3.out) XB0.out
  have xb1_w3 : World.cell? w3 ⟨g, o + 4 + 1, none⟩ = some (.string (⟨b.text.toArray⟩ : ByteArray)) := Low.cell (PSt.low PSTw3.out) XB1.out
  have xb2_w3 : World.cell? w3 ⟨g, o + 4 + 2, none⟩ = some (.int .i64 b.cols) := Low.cell (PSt.low PSTw3.out) XB2.out
  have xb3_w3 : World.cell? w3 ⟨g, o + 4 + 3, none⟩ = some (sb) := Low.cell (PSt.low PSTw3.out) XB3.out
  have xd0_w3 : World.cell? w3 ⟨g, o + 8, none⟩ = some (.int .i64 d.kind) := Low.cell (PSt.low PSTw3.out) XD0.out
  have xd1_w3 : World.cell? w3 ⟨g, o + 8 + 1, none⟩ = some (.string (⟨d.text.toArray⟩ : ByteArray)) := Low.cell (PSt.low PSTw3.out) XD1.out
  have xd2_w3 : World.cell? w3 ⟨g, o + 8 + 2, none⟩ = some (.int .i64 d.cols) := Low.cell (PSt.low PSTw3.out) XD2.out
  have xd3_w3 : World.cell? w3 ⟨g, o + 8 + 3, none⟩ = some (sd) := Low.cell (PSt.low PSTw3.out) XD3.out
  have xx0_w3 : World.cell? w3 ⟨gx, ox, none⟩ = some (.int .i64 x.kind) := Low.cell (PSt.low PSTw3.out) XX0.out
  have xx1_w3 : World.cell? w3 ⟨gx, ox + 1, none⟩ = some (.string (⟨x.text.toArray⟩ : ByteArray)) := Low.cell (PSt.low PSTw3.out) XX1.out
  have xx2_w3 : World.cell? w3 ⟨gx, ox + 2, none⟩ = some (.int .i64 x.cols) := Low.cell (PSt.low PSTw3.out) XX2.out
  have xx3_w3 : World.cell? w3 ⟨gx, ox + 3, none⟩ = some (sx) := Low.cell (PSt.low PSTw3.out) XX3.out
  have hlt_g_w3 : g < w3.heap.size := block_lt_of_cell xa0_w3
  have hlt_gx_w3 : gx < w3.heap.size := block_lt_of_cell xx0_w3
  clear htw3
  go_wp2_with fail
  refine Calls.mono ((ARGb.out) _ _ _ (PSt.fresh PSTw3.out (by first | exact (Touch.refl _ _) | exact (Touch.refl _ _).alloc _ | exact ((Touch.refl _ _).alloc _).alloc _ | exact (((Touch.refl _ _).alloc _).alloc _).alloc _ | exact (Touch.refl _ _).drewN _ | exact ((Touch.refl _ _).alloc _).drewN _ | exact (((Touch.refl _ _).alloc _).alloc _).drewN _)) FITw3.out.left) ?_
  rintro _ w4 ⟨rfl, htw4⟩
  have PSTw4 := hid (PSt.add2 (PSt.fresh PSTw3.out (by first | exact (Touch.refl _ _) | exact (Touch.refl _ _).alloc _ | exact ((Touch.refl _ _).alloc _).alloc _ | exact (((Touch.refl _ _).alloc _).alloc _).alloc _ | exact (Touch.refl _ _).drewN _ | exact ((Touch.refl _ _).alloc _).drewN _ | exact (((Touch.refl _ _).alloc _).alloc _).drewN _)) htw4)
  have ACCw4 := hid (PrAdd.app ACCw3.out (PrAdd.freshL (show Fresh w3 _ from (by first | exact (Touch.refl _ _) | exact (Touch.refl _ _).alloc _ | exact ((Touch.refl _ _).alloc _).alloc _ | exact (((Touch.refl _ _).alloc _).alloc _).alloc _ | exact (Touch.refl _ _).drewN _ | exact ((Touch.refl _ _).alloc _).drewN _ | exact (((Touch.refl _ _).alloc _).alloc _).drewN _)) htw4))
  have FITw4 := hid (Fits.right2 FITw3.out)
  have B0_w4 : Blk w4 (w.heap.size) 24 #[.int .i64 (9 : Int), tx, cl, .slice (some ⟨g, o, none⟩) 3 cap] := PrAdd.blk htw4 (by first | exact Blk.new _ _ _ | exact (Blk.new _ _ _).alloc _ | exact Blk.new2 _ _ _ _ | exact ((Blk.new _ _ _).alloc _).alloc _ | exact (Blk.new2 _ _ _ _).alloc _ | exact Blk.new3 _ _ _ _ _ | assumption | exact Blk.alloc (by assumption) _ | exact (Blk.alloc (Blk.alloc (by assumption) _) _)) (by have := PSt.lt PST0.out; have := PSt.hB PST0.out; omega) (by decide) (by decide)
  have B1_w4 : Blk w4 (w.heap.size + 1) 24 #[.int .i64 a.kind, .string (⟨a.text.toArray⟩ : ByteArray), .int .i64 a.cols, .slice (some ⟨gx, ox, none⟩) 1 cax] := PrAdd.blk htw4 (by first | exact Blk.new _ _ _ | exact (Blk.new _ _ _).alloc _ | exact Blk.new2 _ _ _ _ | exact ((Blk.new _ _ _).alloc _).alloc _ | exact (Blk.new2 _ _ _ _).alloc _ | exact Blk.new3 _ _ _ _ _ | assumption | exact Blk.alloc (by assumption) _ | exact (Blk.alloc (Blk.alloc (by assumption) _) _)) (by have := PSt.lt PST0.out; have := PSt.hB PST0.out; omega) (by decide) (by decide)
  clear q0_0_w3 q0_1_w3 q0_2_w3 q0_3_w3 B0_w3 q1_0_w3 q1_1_w3 q1_2_w3 q1_3_w3 B1_w3
  have q0_0_w4 : World.cell? w4 ⟨w.heap.size, 0, none⟩ = some (.int .i64 (9 : Int)) := Blk.cell B0_w4 0
  have q0_1_w4 : World.cell? w4 ⟨w.heap.size, 1, none⟩ = some (tx) := Blk.cell B0_w4 1
  have q0_2_w4 : World.cell? w4 ⟨w.heap.size, 2, none⟩ = some (cl) := Blk.cell B0_w4 2
  have q0_3_w4 : World.cell? w4 ⟨w.heap.size, 3, none⟩ = some (.slice (some ⟨g, o, none⟩) 3 cap) := Blk.cell B0_w4 3
  have q1_0_w4 : World.cell? w4 ⟨w.heap.size + 1, 0, none⟩ = some (.int .i64 a.kind) := Blk.cell B1_w4 0
  have q1_1_w4 : World.cell? w4 ⟨w.heap.size + 1, 1, none⟩ = some (.string (⟨a.text.toArray⟩ : ByteArray)) := Blk.cell B1_w4 1
  have q1_2_w4 : World.cell? w4 ⟨w.heap.size + 1, 2, none⟩ = some (.int .i64 a.cols) := Blk.cell B1_w4 2
  have q1_3_w4 : World.cell? w4 ⟨w.heap.size + 1, 3, none⟩ = some (.slice (some ⟨gx, ox, none⟩) 1 cax) := Blk.cell B1_w4 3
  clear xa0_w3 xa1_w3 xa2_w3 xa3_w3 xb0_w3 xb1_w3 xb2_w3 xb3_w3 xd0_w3 xd1_w3 xd2_w3 xd3_w3 xx0_w3 xx1_w3 xx2_w3 xx3_w3
  have xa0_w4 : World.cell? w4 ⟨g, o, none⟩ = some (.int .i64 a.kind) := Low.cell (PSt.low PSTw4.out) XA0.out
  have xa1_w4 : World.cell? w4 ⟨g, o + 1, none⟩ = some (.string (⟨a.text.toArray⟩ : ByteArray)) := Low.cell (PSt.low PSTw4.out) XA1.out
  have xa2_w4 : World.cell? w4 ⟨g, o + 2, none⟩ = some (.int .i64 a.cols) := Low.cell (PSt.low PSTw4.out) XA2.out
  have xa3_w4 : World.cell? w4 ⟨g, o + 3, none⟩ = some (.slice (some ⟨gx, ox, none⟩) 1 cax) := Low.cell (PSt.low PSTw4.out) XA3.out
  have xb0_w4 : World.cell? w4 ⟨g, o + 4, none⟩ = some (.int .i64 b.kind) := Low.cell (PSt.low PSTw4.out) XB0.out
  have xb1_w4 : World.cell? w4 ⟨g, o + 4 + 1, none⟩ = some (.string (⟨b.text.toArray⟩ : ByteArray)) := Low.cell (PSt.low PSTw4.out) XB1.out
  have xb2_w4 : World.cell? w4 ⟨g, o + 4 + 2, none⟩ = some (.int .i64 b.cols) := Low.cell (PSt.low PSTw4.out) XB2.out
  have xb3_w4 : World.cell? w4 ⟨g, o + 4 + 3, none⟩ = some (sb) := Low.cell (PSt.low PSTw4.out) XB3.out
  have xd0_w4 : World.cell? w4 ⟨g, o + 8, none⟩ = some (.int .i64 d.kind) := Low.cell (PSt.low PSTw4.out) XD0.out
  have xd1_w4 : World.cell? w4 ⟨g, o + 8 + 1, none⟩ = some (.string (⟨d.text.toArray⟩ : ByteArray)) := Low.cell (PSt.low PSTw4.out) XD1.out
  have xd2_w4 : World.cell? w4 ⟨g, o + 8 + 2, none⟩ = some (.int .i64 d.cols) := Low.cell (PSt.low PSTw4.out) XD2.out
  have xd3_w4 : World.cell? w4 ⟨g, o + 8 + 3, none⟩ = some (sd) := Low.cell (PSt.low PSTw4.out) XD3.out
  have xx0_w4 : World.cell? w4 ⟨gx, ox, none⟩ = some (.int .i64 x.kind) := Low.cell (PSt.low PSTw4.out) XX0.out
  have xx1_w4 : World.cell? w4 ⟨gx, ox + 1, none⟩ = some (.string (⟨x.text.toArray⟩ : ByteArray)) := Low.cell (PSt.low PSTw4.out) XX1.out
  have xx2_w4 : World.cell? w4 ⟨gx, ox + 2, none⟩ = some (.int .i64 x.cols) := Low.cell (PSt.low PSTw4.out) XX2.out
  have xx3_w4 : World.cell? w4 ⟨gx, ox + 3, none⟩ = some (sx) := Low.cell (PSt.low PSTw4.out) XX3.out
  have hlt_g_w4 : g < w4.heap.size := block_lt_of_cell xa0_w4
  have hlt_gx_w4 : gx < w4.heap.size := block_lt_of_cell xx0_w4
  clear htw4
  go_wp2_with fail
  refine Calls.mono ((mark_em W0 p B [94]) _ _ _ (PSt.fresh PSTw4.out (by first | exact (Touch.refl _ _) | exact (Touch.refl _ _).alloc _ | exact ((Touch.refl _ _).alloc _).alloc _ | exact (((Touch.refl _ _).alloc _).alloc _).alloc _ | exact (Touch.refl _ _).drewN _ | exact ((Touch.refl _ _).alloc _).drewN _ | exact (((Touch.refl _ _).alloc _).alloc _).drewN _)) FITw4.out.left) ?_
  rintro _ w5 ⟨rfl, htw5⟩
  have PSTw5 := hid (PSt.add2 (PSt.fresh PSTw4.out (by first | exact (Touch.refl _ _) | exact (Touch.refl _ _).alloc _ | exact ((Touch.refl _ _).alloc _).alloc _ | exact (((Touch.refl _ _).alloc _).alloc _).alloc _ | exact (Touch.refl _ _).drewN _ | exact ((Touch.refl _ _).alloc _).drewN _ | exact (((Touch.refl _ _).alloc _).alloc _).drewN _)) htw5)
  have ACCw5 := hid (PrAdd.app ACCw4.out (PrAdd.freshL (show Fresh w4 _ from (by first | exact (Touch.refl _ _) | exact (Touch.refl _ _).alloc _ | exact ((Touch.refl _ _).alloc _).alloc _ | exact (((Touch.refl _ _).alloc _).alloc _).alloc _ | exact (Touch.refl _ _).drewN _ | exact ((Touch.refl _ _).alloc _).drewN _ | exact (((Touch.refl _ _).alloc _).alloc _).drewN _)) htw5))
  have FITw5 := hid (Fits.right2 FITw4.out)
  have B0_w5 : Blk w5 (w.heap.size) 24 #[.int .i64 (9 : Int), tx, cl, .slice (some ⟨g, o, none⟩) 3 cap] := PrAdd.blk htw5 (by first | exact Blk.new _ _ _ | exact (Blk.new _ _ _).alloc _ | exact Blk.new2 _ _ _ _ | exact ((Blk.new _ _ _).alloc _).alloc _ | exact (Blk.new2 _ _ _ _).alloc _ | exact Blk.new3 _ _ _ _ _ | assumption | exact Blk.alloc (by assumption) _ | exact (Blk.alloc (Blk.alloc (by assumption) _) _)) (by have := PSt.lt PST0.out; have := PSt.hB PST0.out; omega) (by decide) (by decide)
  have B1_w5 : Blk w5 (w.heap.size + 1) 24 #[.int .i64 a.kind, .string (⟨a.text.toArray⟩ : ByteArray), .int .i64 a.cols, .slice (some ⟨gx, ox, none⟩) 1 cax] := PrAdd.blk htw5 (by first | exact Blk.new _ _ _ | exact (Blk.new _ _ _).alloc _ | exact Blk.new2 _ _ _ _ | exact ((Blk.new _ _ _).alloc _).alloc _ | exact (Blk.new2 _ _ _ _).alloc _ | exact Blk.new3 _ _ _ _ _ | assumption | exact Blk.alloc (by assumption) _ | exact (Blk.alloc (Blk.alloc (by assumption) _) _)) (by have := PSt.lt PST0.out; have := PSt.hB PST0.out; omega) (by decide) (by decide)
  clear q0_0_w4 q0_1_w4 q0_2_w4 q0_3_w4 B0_w4 q1_0_w4 q1_1_w4 q1_2_w4 q1_3_w4 B1_w4
  have q0_0_w5 : World.cell? w5 ⟨w.heap.size, 0, none⟩ = some (.int .i64 (9 : Int)) := Blk.cell B0_w5 0
  have q0_1_w5 : World.cell? w5 ⟨w.heap.size, 1, none⟩ = some (tx) := Blk.cell B0_w5 1
  have q0_2_w5 : World.cell? w5 ⟨w.heap.size, 2, none⟩ = some (cl) := Blk.cell B0_w5 2
  have q0_3_w5 : World.cell? w5 ⟨w.heap.size, 3, none⟩ = some (.slice (some ⟨g, o, none⟩) 3 cap) := Blk.cell B0_w5 3
  have q1_0_w5 : World.cell? w5 ⟨w.heap.size + 1, 0, none⟩ = some (.int .i64 a.kind) := Blk.cell B1_w5 0
  have q1_1_w5 : World.cell? w5 ⟨w.heap.size + 1, 1, none⟩ = some (.string (⟨a.text.toArray⟩ : ByteArray)) := Blk.cell B1_w5 1
  have q1_2_w5 : World.cell? w5 ⟨w.heap.size + 1, 2, none⟩ = some (.int .i64 a.cols) := Blk.cell B1_w5 2
  have q1_3_w5 : World.cell? w5 ⟨w.heap.size + 1, 3, none⟩ = some (.slice (some ⟨gx, ox, none⟩) 1 cax) := Blk.cell B1_w5 3
  clear xa0_w4 xa1_w4 xa2_w4 xa3_w4 xb0_w4 xb1_w4 xb2_w4 xb3_w4 xd0_w4 xd1_w4 xd2_w4 xd3_w4 xx0_w4 xx1_w4 xx2_w4 xx3_w4
  have xa0_w5 : World.cell? w5 ⟨g, o, none⟩ = some (.int .i64 a.kind) := Low.cell (PSt.low PSTw5.out) XA0.out
  have xa1_w5 : World.cell? w5 ⟨g, o + 1, none⟩ = some (.string (⟨a.text.toArray⟩ : ByteArray)) := Low.cell (PSt.low PSTw5.out) XA1.out
  have xa2_w5 : World.cell? w5 ⟨g, o + 2, none⟩ = some (.int .i64 a.cols) := Low.cell (PSt.low PSTw5.out) XA2.out
  have xa3_w5 : World.cell? w5 ⟨g, o + 3, none⟩ = some (.slice (some ⟨gx, ox, none⟩) 1 cax) := Low.cell (PSt.low PSTw5.out) XA3.out
  have xb0_w5 : World.cell? w5 ⟨g, o + 4, none⟩ = some (.int .i64 b.kind) := Low.cell (PSt.low PSTw5.out) XB0.out
  have xb1_w5 : World.cell? w5 ⟨g, o + 4 + 1, none⟩ = some (.string (⟨b.text.toArray⟩ : ByteArray)) := Low.cell (PSt.low PSTw5.out) XB1.out
  have xb2_w5 : World.cell? w5 ⟨g, o + 4 + 2, none⟩ = some (.int .i64 b.cols) := Low.cell (PSt.low PSTw5.out) XB2.out
  have xb3_w5 : World.cell? w5 ⟨g, o + 4 + 3, none⟩ = some (sb) := Low.cell (PSt.low PSTw5.out) XB3.out
  have xd0_w5 : World.cell? w5 ⟨g, o + 8, none⟩ = some (.int .i64 d.kind) := Low.cell (PSt.low PSTw5.out) XD0.out
  have xd1_w5 : World.cell? w5 ⟨g, o + 8 + 1, none⟩ = some (.string (⟨d.text.toArray⟩ : ByteArray)) := Low.cell (PSt.low PSTw5.out) XD1.out
  have xd2_w5 : World.cell? w5 ⟨g, o + 8 + 2, none⟩ = some (.int .i64 d.cols) := Low.cell (PSt.low PSTw5.out) XD2.out
  have xd3_w5 : World.cell? w5 ⟨g, o + 8 + 3, none⟩ = some (sd) := Low.cell (PSt.low PSTw5.out) XD3.out
  have xx0_w5 : World.cell? w5 ⟨gx, ox, none⟩ = some (.int .i64 x.kind) := Low.cell (PSt.low PSTw5.out) XX0.out
  have xx1_w5 : World.cell? w5 ⟨gx, ox + 1, none⟩ = some (.string (⟨x.text.toArray⟩ : ByteArray)) := Low.cell (PSt.low PSTw5.out) XX1.out
  have xx2_w5 : World.cell? w5 ⟨gx, ox + 2, none⟩ = some (.int .i64 x.cols) := Low.cell (PSt.low PSTw5.out) XX2.out
  have xx3_w5 : World.cell? w5 ⟨gx, ox + 3, none⟩ = some (sx) := Low.cell (PSt.low PSTw5.out) XX3.out
  have hlt_g_w5 : g < w5.heap.size := block_lt_of_cell xa0_w5
  have hlt_gx_w5 : gx < w5.heap.size := block_lt_of_cell xx0_w5
  clear htw5
  go_wp2_with fail
  refine Calls.mono ((ARGd.out) _ _ _ (PSt.fresh PSTw5.out (by first | exact (Touch.refl _ _) | exact (Touch.refl _ _).alloc _ | exact ((Touch.refl _ _).alloc _).alloc _ | exact (((Touch.refl _ _).alloc _).alloc _).alloc _ | exact (Touch.refl _ _).drewN _ | exact ((Touch.refl _ _).alloc _).drewN _ | exact (((Touch.refl _ _).alloc _).alloc _).drewN _)) FITw5.out) ?_
  rintro _ w6 ⟨rfl, htw6⟩
  have PSTw6 := hid (PSt.add2 (PSt.fresh PSTw5.out (by first | exact (Touch.refl _ _) | exact (Touch.refl _ _).alloc _ | exact ((Touch.refl _ _).alloc _).alloc _ | exact (((Touch.refl _ _).alloc _).alloc _).alloc _ | exact (Touch.refl _ _).drewN _ | exact ((Touch.refl _ _).alloc _).drewN _ | exact (((Touch.refl _ _).alloc _).alloc _).drewN _)) htw6)
  have ACCw6 := hid (PrAdd.app ACCw5.out (PrAdd.freshL (show Fresh w5 _ from (by first | exact (Touch.refl _ _) | exact (Touch.refl _ _).alloc _ | exact ((Touch.refl _ _).alloc _).alloc _ | exact (((Touch.refl _ _).alloc _).alloc _).alloc _ | exact (Touch.refl _ _).drewN _ | exact ((Touch.refl _ _).alloc _).drewN _ | exact (((Touch.refl _ _).alloc _).alloc _).drewN _)) htw6))
  have B0_w6 : Blk w6 (w.heap.size) 24 #[.int .i64 (9 : Int), tx, cl, .slice (some ⟨g, o, none⟩) 3 cap] := PrAdd.blk htw6 (by first | exact Blk.new _ _ _ | exact (Blk.new _ _ _).alloc _ | exact Blk.new2 _ _ _ _ | exact ((Blk.new _ _ _).alloc _).alloc _ | exact (Blk.new2 _ _ _ _).alloc _ | exact Blk.new3 _ _ _ _ _ | assumption | exact Blk.alloc (by assumption) _ | exact (Blk.alloc (Blk.alloc (by assumption) _) _)) (by have := PSt.lt PST0.out; have := PSt.hB PST0.out; omega) (by decide) (by decide)
  have B1_w6 : Blk w6 (w.heap.size + 1) 24 #[.int .i64 a.kind, .string (⟨a.text.toArray⟩ : ByteArray), .int .i64 a.cols, .slice (some ⟨gx, ox, none⟩) 1 cax] := PrAdd.blk htw6 (by first | exact Blk.new _ _ _ | exact (Blk.new _ _ _).alloc _ | exact Blk.new2 _ _ _ _ | exact ((Blk.new _ _ _).alloc _).alloc _ | exact (Blk.new2 _ _ _ _).alloc _ | exact Blk.new3 _ _ _ _ _ | assumption | exact Blk.alloc (by assumption) _ | exact (Blk.alloc (Blk.alloc (by assumption) _) _)) (by have := PSt.lt PST0.out; have := PSt.hB PST0.out; omega) (by decide) (by decide)
  clear q0_0_w5 q0_1_w5 q0_2_w5 q0_3_w5 B0_w5 q1_0_w5 q1_1_w5 q1_2_w5 q1_3_w5 B1_w5
  have q0_0_w6 : World.cell? w6 ⟨w.heap.size, 0, none⟩ = some (.int .i64 (9 : Int)) := Blk.cell B0_w6 0
  have q0_1_w6 : World.cell? w6 ⟨w.heap.size, 1, none⟩ = some (tx) := Blk.cell B0_w6 1
  have q0_2_w6 : World.cell? w6 ⟨w.heap.size, 2, none⟩ = some (cl) := Blk.cell B0_w6 2
  have q0_3_w6 : World.cell? w6 ⟨w.heap.size, 3, none⟩ = some (.slice (some ⟨g, o, none⟩) 3 cap) := Blk.cell B0_w6 3
  have q1_0_w6 : World.cell? w6 ⟨w.heap.size + 1, 0, none⟩ = some (.int .i64 a.kind) := Blk.cell B1_w6 0
  have q1_1_w6 : World.cell? w6 ⟨w.heap.size + 1, 1, none⟩ = some (.string (⟨a.text.toArray⟩ : ByteArray)) := Blk.cell B1_w6 1
  have q1_2_w6 : World.cell? w6 ⟨w.heap.size + 1, 2, none⟩ = some (.int .i64 a.cols) := Blk.cell B1_w6 2
  have q1_3_w6 : World.cell? w6 ⟨w.heap.size + 1, 3, none⟩ = some (.slice (some ⟨gx, ox, none⟩) 1 cax) := Blk.cell B1_w6 3
  clear xa0_w5 xa1_w5 xa2_w5 xa3_w5 xb0_w5 xb1_w5 xb2_w5 xb3_w5 xd0_w5 xd1_w5 xd2_w5 xd3_w5 xx0_w5 xx1_w5 xx2_w5 xx3_w5
  have xa0_w6 : World.cell? w6 ⟨g, o, none⟩ = some (.int .i64 a.kind) := Low.cell (PSt.low PSTw6.out) XA0.out
  have xa1_w6 : World.cell? w6 ⟨g, o + 1, none⟩ = some (.string (⟨a.text.toArray⟩ : ByteArray)) := Low.cell (PSt.low PSTw6.out) XA1.out
  have xa2_w6 : World.cell? w6 ⟨g, o + 2, none⟩ = some (.int .i64 a.cols) := Low.cell (PSt.low PSTw6.out) XA2.out
  have xa3_w6 : World.cell? w6 ⟨g, o + 3, none⟩ = some (.slice (some ⟨gx, ox, none⟩) 1 cax) := Low.cell (PSt.low PSTw6.out) XA3.out
  have xb0_w6 : World.cell? w6 ⟨g, o + 4, none⟩ = some (.int .i64 b.kind) := Low.cell (PSt.low PSTw6.out) XB0.out
  have xb1_w6 : World.cell? w6 ⟨g, o + 4 + 1, none⟩ = some (.string (⟨b.text.toArray⟩ : ByteArray)) := Low.cell (PSt.low PSTw6.out) XB1.out
  have xb2_w6 : World.cell? w6 ⟨g, o + 4 + 2, none⟩ = some (.int .i64 b.cols) := Low.cell (PSt.low PSTw6.out) XB2.out
  have xb3_w6 : World.cell? w6 ⟨g, o + 4 + 3, none⟩ = some (sb) := Low.cell (PSt.low PSTw6.out) XB3.out
  have xd0_w6 : World.cell? w6 ⟨g, o + 8, none⟩ = some (.int .i64 d.kind) := Low.cell (PSt.low PSTw6.out) XD0.out
  have xd1_w6 : World.cell? w6 ⟨g, o + 8 + 1, none⟩ = some (.string (⟨d.text.toArray⟩ : ByteArray)) := Low.cell (PSt.low PSTw6.out) XD1.out
  have xd2_w6 : World.cell? w6 ⟨g, o + 8 + 2, none⟩ = some (.int .i64 d.cols) := Low.cell (PSt.low PSTw6.out) XD2.out
  have xd3_w6 : World.cell? w6 ⟨g, o + 8 + 3, none⟩ = some (sd) := Low.cell (PSt.low PSTw6.out) XD3.out
  have xx0_w6 : World.cell? w6 ⟨gx, ox, none⟩ = some (.int .i64 x.kind) := Low.cell (PSt.low PSTw6.out) XX0.out
  have xx1_w6 : World.cell? w6 ⟨gx, ox + 1, none⟩ = some (.string (⟨x.text.toArray⟩ : ByteArray)) := Low.cell (PSt.low PSTw6.out) XX1.out
  have xx2_w6 : World.cell? w6 ⟨gx, ox + 2, none⟩ = some (.int .i64 x.cols) := Low.cell (PSt.low PSTw6.out) XX2.out
  have xx3_w6 : World.cell? w6 ⟨gx, ox + 3, none⟩ = some (sx) := Low.cell (PSt.low PSTw6.out) XX3.out
  have hlt_g_w6 : g < w6.heap.size := block_lt_of_cell xa0_w6
  have hlt_gx_w6 : gx < w6.heap.size := block_lt_of_cell xx0_w6
  clear htw6
  go_wp2_with fail
  first | go_end0 | refine bodyPost_ret (v := .tuple #[]) (results_none rfl _ _ _) rfl ?_
  exact ⟨rfl, PrAdd.cast ACCw6.out (by first | rfl | (simp only [List.append_assoc] <;> rfl))⟩

set_option maxRecDepth 100000 in
set_option maxHeartbeats 1000000 in
theorem scripts_9_len (W0 : World) (p B : Nat) (tx cl : Value) (a b d : Nd) (hx : a.kids.length ≠ 1) (ha : GroupE W0 p B a) (hb : ArgE W0 p B b) (hd : ArgE W0 p B d) (sl : Value) (hsl : RepL W0 [a, b, d] sl) : Emits 62 #[pp p, .agg #[.int .i64 9, tx, cl, sl]] W0 p B (baseT a ++ ([Tr.mk7 95] ++ (argT b ++ ([Tr.mk7 94] ++ argT d)))) := by
  intro w toks txt hp hf
  rw [baseT_len1 a hx] at hf ⊢
  obtain ⟨g, o, cap, sa, sb, sd, rfl, a0, a1, a2, a3, hra, b0, b1, b2, b3, hrb, d0, d1, d2, d3, hrd⟩ := hsl.three
  have GRPa := hid (ha sa hra)
  have ARGb := hid (hb sb hrb)
  have ARGd := hid (hd sd hrd)
  obtain ⟨Aa, capa, rfl⟩ := hra.slice
  have f1 : ((a.kids.length : Int) == 1) = false := by simp only [beq_eq_false_iff_ne]; omega
  have f2 : ¬ (a.kids.length : Int) = 1 := by omega
  have PST0 := hid hp
  have FIT0 := hid hf
  clear hp hf ha hb hd hsl hra hrb hrd hx
  have XA0 := hid a0
  have XA1 := hid a1
  have XA2 := hid a2
  have XA3 := hid a3
  have XB0 := hid b0
  have XB1 := hid b1
  have XB2 := hid b2
  have XB3 := hid b3
  have XD0 := hid d0
  have XD1 := hid d1
  have XD2 := hid d2
  have XD3 := hid d3
  clear a0 a1 a2 a3 b0 b1 b2 b3 d0 d1 d2 d3
  have xa0_w : World.cell? w ⟨g, o, none⟩ = some (.int .i64 a.kind) := Low.cell (PSt.low PST0.out) XA0.out
  have xa1_w : World.cell? w ⟨g, o + 1, none⟩ = some (.string (⟨a.text.toArray⟩ : ByteArray)) := Low.cell (PSt.low PST0.out) XA1.out
  have xa2_w : World.cell? w ⟨g, o + 2, none⟩ = some (.int .i64 a.cols) := Low.cell (PSt.low PST0.out) XA2.out
  have xa3_w : World.cell? w ⟨g, o + 3, none⟩ = some (.slice Aa a.kids.length capa) := Low.cell (PSt.low PST0.out) XA3.out
  have xb0_w : World.cell? w ⟨g, o + 4, none⟩ = some (.int .i64 b.kind) := Low.cell (PSt.low PST0.out) XB0.out
  have xb1_w : World.cell? w ⟨g, o + 4 + 1, none⟩ = some (.string (⟨b.text.toArray⟩ : ByteArray)) := Low.cell (PSt.low PST0.out) XB1.out
  have xb2_w : World.cell? w ⟨g, o + 4 + 2, none⟩ = some (.int .i64 b.cols) := Low.cell (PSt.low PST0.out) XB2.out
  have xb3_w : World.cell? w ⟨g, o + 4 + 3, none⟩ = some (sb) := Low.cell (PSt.low PST0.out) XB3.out
  have xd0_w : World.cell? w ⟨g, o + 8, none⟩ = some (.int .i64 d.kind) := Low.cell (PSt.low PST0.out) XD0.out
  have xd1_w : World.cell? w ⟨g, o + 8 + 1, none⟩ = some (.string (⟨d.text.toArray⟩ : ByteArray)) := Low.cell (PSt.low PST0.out) XD1.out
  have xd2_w : World.cell? w ⟨g, o + 8 + 2, none⟩ = some (.int .i64 d.cols) := Low.cell (PSt.low PST0.out) XD2.out
  have xd3_w : World.cell? w ⟨g, o + 8 + 3, none⟩ = some (sd) := Low.cell (PSt.low PST0.out) XD3.out
  have hlt_g_w : g < w.heap.size := block_lt_of_cell xa0_w
  go_enter Try.func62, Try.ntmps62
  go_wp2_with fail
  refine Calls.mono ((GRPa.out) _ _ _ (PSt.fresh PST0.out (by first | exact (Touch.refl _ _) | exact (Touch.refl _ _).alloc _ | exact ((Touch.refl _ _).alloc _).alloc _ | exact (((Touch.refl _ _).alloc _).alloc _).alloc _ | exact (Touch.refl _ _).drewN _ | exact ((Touch.refl _ _).alloc _).drewN _ | exact (((Touch.refl _ _).alloc _).alloc _).drewN _)) FIT0.out.left) ?_
  rintro _ w1 ⟨rfl, htw1⟩
  have PSTw1 := hid (PSt.add (PSt.fresh PST0.out (by first | exact (Touch.refl _ _) | exact (Touch.refl _ _).alloc _ | exact ((Touch.refl _ _).alloc _).alloc _ | exact (((Touch.refl _ _).alloc _).alloc _).alloc _ | exact (Touch.refl _ _).drewN _ | exact ((Touch.refl _ _).alloc _).drewN _ | exact (((Touch.refl _ _).alloc _).alloc _).drewN _)) htw1)
  have ACCw1 := hid (PrAdd.freshL (show Fresh w _ from (by first | exact (Touch.refl _ _) | exact (Touch.refl _ _).alloc _ | exact ((Touch.refl _ _).alloc _).alloc _ | exact (((Touch.refl _ _).alloc _).alloc _).alloc _ | exact (Touch.refl _ _).drewN _ | exact ((Touch.refl _ _).alloc _).drewN _ | exact (((Touch.refl _ _).alloc _).alloc _).drewN _)) htw1)
  have FITw1 := hid (Fits.right FIT0.out)
  have B0_w1 : Blk w1 (w.heap.size) 24 #[.int .i64 (9 : Int), tx, cl, .slice (some ⟨g, o, none⟩) 3 cap] := PrAdd.blk htw1 (by first | exact Blk.new _ _ _ | exact (Blk.new _ _ _).alloc _ | exact Blk.new2 _ _ _ _ | exact ((Blk.new _ _ _).alloc _).alloc _ | exact (Blk.new2 _ _ _ _).alloc _ | exact Blk.new3 _ _ _ _ _ | assumption | exact Blk.alloc (by assumption) _ | exact (Blk.alloc (Blk.alloc (by assumption) _) _)) (by have := PSt.lt PST0.out; have := PSt.hB PST0.out; omega) (by decide) (by decide)
  have B1_w1 : Blk w1 (w.heap.size + 1) 24 #[.int .i64 a.kind, .string (⟨a.text.toArray⟩ : ByteArray), .int .i64 a.cols, .slice Aa a.kids.length capa] := PrAdd.blk htw1 (by first | exact Blk.new _ _ _ | exact (Blk.new _ _ _).alloc _ | exact Blk.new2 _ _ _ _ | exact ((Blk.new _ _ _).alloc _).alloc _ | exact (Blk.new2 _ _ _ _).alloc _ | exact Blk.new3 _ _ _ _ _ | assumption | exact Blk.alloc (by assumption) _ | exact (Blk.alloc (Blk.alloc (by assumption) _) _)) (by have := PSt.lt PST0.out; have := PSt.hB PST0.out; omega) (by decide) (by decide)
  have q0_0_w1 : World.cell? w1 ⟨w.heap.size, 0, none⟩ = some (.int .i64 (9 : Int)) := Blk.cell B0_w1 0
  have q0_1_w1 : World.cell? w1 ⟨w.heap.size, 1, none⟩ = some (tx) := Blk.cell B0_w1 1
  have q0_2_w1 : World.cell? w1 ⟨w.heap.size, 2, none⟩ = some (cl) := Blk.cell B0_w1 2
  have q0_3_w1 : World.cell? w1 ⟨w.heap.size, 3, none⟩ = some (.slice (some ⟨g, o, none⟩) 3 cap) := Blk.cell B0_w1 3
  have q1_0_w1 : World.cell? w1 ⟨w.heap.size + 1, 0, none⟩ = some (.int .i64 a.kind) := Blk.cell B1_w1 0
  have q1_1_w1 : World.cell? w1 ⟨w.heap.size + 1, 1, none⟩ = some (.string (⟨a.text.toArray⟩ : ByteArray)) := Blk.cell B1_w1 1
  have q1_2_w1 : World.cell? w1 ⟨w.heap.size + 1, 2, none⟩ = some (.int .i64 a.cols) := Blk.cell B1_w1 2
  have q1_3_w1 : World.cell? w1 ⟨w.heap.size + 1, 3, none⟩ = some (.slice Aa a.kids.length capa) := Blk.cell B1_w1 3
  clear xa0_w xa1_w xa2_w xa3_w xb0_w xb1_w xb2_w xb3_w xd0_w xd1_w xd2_w xd3_w
  have xa0_w1 : World.cell? w1 ⟨g, o, none⟩ = some (.int .i64 a.kind) := Low.cell (PSt.low PSTw1.out) XA0.out
  have xa1_w1 : World.cell? w1 ⟨g, o + 1, none⟩ = some (.string (⟨a.text.toArray⟩ : ByteArray)) := Low.cell (PSt.low PSTw1.out) XA1.out
  have xa2_w1 : World.cell? w1 ⟨g, o + 2, none⟩ = some (.int .i64 a.cols) := Low.cell (PSt.low PSTw1.out) XA2.out
  have xa3_w1 : World.cell? w1 ⟨g, o + 3, none⟩ = some (.slice Aa a.kids.length capa) := Low.cell (PSt.low PSTw1.out) XA3.out
  have xb0_w1 : World.cell? w1 ⟨g, o + 4, none⟩ = some (.int .i64 b.kind) := Low.cell (PSt.low PSTw1.out) XB0.out
  have xb1_w1 : World.cell? w1 ⟨g, o + 4 + 1, none⟩ = some (.string (⟨b.text.toArray⟩ : ByteArray)) := Low.cell (PSt.low PSTw1.out) XB1.out
  have xb2_w1 : World.cell? w1 ⟨g, o + 4 + 2, none⟩ = some (.int .i64 b.cols) := Low.cell (PSt.low PSTw1.out) XB2.out
  have xb3_w1 : World.cell? w1 ⟨g, o + 4 + 3, none⟩ = some (sb) := Low.cell (PSt.low PSTw1.out) XB3.out
  have xd0_w1 : World.cell? w1 ⟨g, o + 8, none⟩ = some (.int .i64 d.kind) := Low.cell (PSt.low PSTw1.out) XD0.out
  have xd1_w1 : World.cell? w1 ⟨g, o + 8 + 1, none⟩ = some (.string (⟨d.text.toArray⟩ : ByteArray)) := Low.cell (PSt.low PSTw1.out) XD1.out
  have xd2_w1 : World.cell? w1 ⟨g, o + 8 + 2, none⟩ = some (.int .i64 d.cols) := Low.cell (PSt.low PSTw1.out) XD2.out
  have xd3_w1 : World.cell? w1 ⟨g, o + 8 + 3, none⟩ = some (sd) := Low.cell (PSt.low PSTw1.out) XD3.out
  have hlt_g_w1 : g < w1.heap.size := block_lt_of_cell xa0_w1
  clear htw1
  go_wp2_with fail
  refine Calls.mono ((mark_em W0 p B [95]) _ _ _ (PSt.fresh PSTw1.out (by first | exact (Touch.refl _ _) | exact (Touch.refl _ _).alloc _ | exact ((Touch.refl _ _).alloc _).alloc _ | exact (((Touch.refl _ _).alloc _).alloc _).alloc _ | exact (Touch.refl _ _).drewN _ | exact ((Touch.refl _ _).alloc _).drewN _ | exact (((Touch.refl _ _).alloc _).alloc _).drewN _)) FITw1.out.left) ?_
  rintro _ w2 ⟨rfl, htw2⟩
  have PSTw2 := hid (PSt.add2 (PSt.fresh PSTw1.out (by first | exact (Touch.refl _ _) | exact (Touch.refl _ _).alloc _ | exact ((Touch.refl _ _).alloc _).alloc _ | exact (((Touch.refl _ _).alloc _).alloc _).alloc _ | exact (Touch.refl _ _).drewN _ | exact ((Touch.refl _ _).alloc _).drewN _ | exact (((Touch.refl _ _).alloc _).alloc _).drewN _)) htw2)
  have ACCw2 := hid (PrAdd.app ACCw1.out (PrAdd.freshL (show Fresh w1 _ from (by first | exact (Touch.refl _ _) | exact (Touch.refl _ _).alloc _ | exact ((Touch.refl _ _).alloc _).alloc _ | exact (((Touch.refl _ _).alloc _).alloc _).alloc _ | exact (Touch.refl _ _).drewN _ | exact ((Touch.refl _ _).alloc _).drewN _ | exact (((Touch.refl _ _).alloc _).alloc _).drewN _)) htw2))
  have FITw2 := hid (Fits.right2 FITw1.out)
  have B0_w2 : Blk w2 (w.heap.size) 24 #[.int .i64 (9 : Int), tx, cl, .slice (some ⟨g, o, none⟩) 3 cap] := PrAdd.blk htw2 (by first | exact Blk.new _ _ _ | exact (Blk.new _ _ _).alloc _ | exact Blk.new2 _ _ _ _ | exact ((Blk.new _ _ _).alloc _).alloc _ | exact (Blk.new2 _ _ _ _).alloc _ | exact Blk.new3 _ _ _ _ _ | assumption | exact Blk.alloc (by assumption) _ | exact (Blk.alloc (Blk.alloc (by assumption) _) _)) (by have := PSt.lt PST0.out; have := PSt.hB PST0.out; omega) (by decide) (by decide)
  have B1_w2 : Blk w2 (w.heap.size + 1) 24 #[.int .i64 a.kind, .string (⟨a.text.toArray⟩ : ByteArray), .int .i64 a.cols, .slice Aa a.kids.length capa] := PrAdd.blk htw2 (by first | exact Blk.new _ _ _ | exact (Blk.new _ _ _).alloc _ | exact Blk.new2 _ _ _ _ | exact ((Blk.new _ _ _).alloc _).alloc _ | exact (Blk.new2 _ _ _ _).alloc _ | exact Blk.new3 _ _ _ _ _ | assumption | exact Blk.alloc (by assumption) _ | exact (Blk.alloc (Blk.alloc (by assumption) _) _)) (by have := PSt.lt PST0.out; have := PSt.hB PST0.out; omega) (by decide) (by decide)
  clear q0_0_w1 q0_1_w1 q0_2_w1 q0_3_w1 B0_w1 q1_0_w1 q1_1_w1 q1_2_w1 q1_3_w1 B1_w1
  have q0_0_w2 : World.cell? w2 ⟨w.heap.size, 0, none⟩ = some (.int .i64 (9 : Int)) := Blk.cell B0_w2 0
  have q0_1_w2 : World.cell? w2 ⟨w.heap.size, 1, none⟩ = some (tx) := Blk.cell B0_w2 1
  have q0_2_w2 : World.cell? w2 ⟨w.heap.size, 2, none⟩ = some (cl) := Blk.cell B0_w2 2
  have q0_3_w2 : World.cell? w2 ⟨w.heap.size, 3, none⟩ = some (.slice (some ⟨g, o, none⟩) 3 cap) := Blk.cell B0_w2 3
  have q1_0_w2 : World.cell? w2 ⟨w.heap.size + 1, 0, none⟩ = some (.int .i64 a.kind) := Blk.cell B1_w2 0
  have q1_1_w2 : World.cell? w2 ⟨w.heap.size + 1, 1, none⟩ = some (.string (⟨a.text.toArray⟩ : ByteArray)) := Blk.cell B1_w2 1
  have q1_2_w2 : World.cell? w2 ⟨w.heap.size + 1, 2, none⟩ = some (.int .i64 a.cols) := Blk.cell B1_w2 2
  have q1_3_w2 : World.cell? w2 ⟨w.heap.size + 1, 3, none⟩ = some (.slice Aa a.kids.length capa) := Blk.cell B1_w2 3
  clear xa0_w1 xa1_w1 xa2_w1 xa3_w1 xb0_w1 xb1_w1 xb2_w1 xb3_w1 xd0_w1 xd1_w1 xd2_w1 xd3_w1
  have xa0_w2 : World.cell? w2 ⟨g, o, none⟩ = some (.int .i64 a.kind) := Low.cell (PSt.low PSTw2.out) XA0.out
  have xa1_w2 : World.cell? w2 ⟨g, o + 1, none⟩ = some (.string (⟨a.text.toArray⟩ : ByteArray)) := Low.cell (PSt.low PSTw2.out) XA1.out
  have xa2_w2 : World.cell? w2 ⟨g, o + 2, none⟩ = some (.int .i64 a.cols) := Low.cell (PSt.low PSTw2.out) XA2.out
  have xa3_w2 : World.cell? w2 ⟨g, o + 3, none⟩ = some (.slice Aa a.kids.length capa) := Low.cell (PSt.low PSTw2.out) XA3.out
  have xb0_w2 : World.cell? w2 ⟨g, o + 4, none⟩ = some (.int .i64 b.kind) := Low.cell (PSt.low PSTw2.out) XB0.out
  have xb1_w2 : World.cell? w2 ⟨g, o + 4 + 1, none⟩ = some (.string (⟨b.text.toArray⟩ : ByteArray)) := Low.cell (PSt.low PSTw2.out) XB1.out
  have xb2_w2 : World.cell? w2 ⟨g, o + 4 + 2, none⟩ = some (.int .i64 b.cols) := Low.cell (PSt.low PSTw2.out) XB2.out
  have xb3_w2 : World.cell? w2 ⟨g, o + 4 + 3, none⟩ = some (sb) := Low.cell (PSt.low PSTw2.out) XB3.out
  have xd0_w2 : World.cell? w2 ⟨g, o + 8, none⟩ = some (.int .i64 d.kind) := Low.cell (PSt.low PSTw2.out) XD0.out
  have xd1_w2 : World.cell? w2 ⟨g, o + 8 + 1, none⟩ = some (.string (⟨d.text.toArray⟩ : ByteArray)) := Low.cell (PSt.low PSTw2.out) XD1.out
  have xd2_w2 : World.cell? w2 ⟨g, o + 8 + 2, none⟩ = some (.int .i64 d.cols) := Low.cell (PSt.low PSTw2.out) XD2.out
  have xd3_w2 : World.cell? w2 ⟨g, o + 8 + 3, none⟩ = some (sd) := Low.cell (PSt.low PSTw2.out) XD3.out
  have hlt_g_w2 : g < w2.heap.size := block_lt_of_cell xa0_w2
  clear htw2
  go_wp2_with fail
  refine Calls.mono ((ARGb.out) _ _ _ (PSt.fresh PSTw2.out (by first | exact (Touch.refl _ _) | exact (Touch.refl _ _).alloc _ | exact ((Touch.refl _ _).alloc _).alloc _ | exact (((Touch.refl _ _).alloc _).alloc _).alloc _ | exact (Touch.refl _ _).drewN _ | exact ((Touch.refl _ _).alloc _).drewN _ | exact (((Touch.refl _ _).alloc _).alloc _).drewN _)) FITw2.out.left) ?_
  rintro _ w3 ⟨rfl, htw3⟩
  have PSTw3 := hid (PSt.add2 (PSt.fresh PSTw2.out (by first | exact (Touch.refl _ _) | exact (Touch.refl _ _).alloc _ | exact ((Touch.refl _ _).alloc _).alloc _ | exact (((Touch.refl _ _).alloc _).alloc _).alloc _ | exact (Touch.refl _ _).drewN _ | exact ((Touch.refl _ _).alloc _).drewN _ | exact (((Touch.refl _ _).alloc _).alloc _).drewN _)) htw3)
  have ACCw3 := hid (PrAdd.app ACCw2.out (PrAdd.freshL (show Fresh w2 _ from (by first | exact (Touch.refl _ _) | exact (Touch.refl _ _).alloc _ | exact ((Touch.refl _ _).alloc _).alloc _ | exact (((Touch.refl _ _).alloc _).alloc _).alloc _ | exact (Touch.refl _ _).drewN _ | exact ((Touch.refl _ _).alloc _).drewN _ | exact (((Touch.refl _ _).alloc _).alloc _).drewN _)) htw3))
  have FITw3 := hid (Fits.right2 FITw2.out)
  have B0_w3 : Blk w3 (w.heap.size) 24 #[.int .i64 (9 : Int), tx, cl, .slice (some ⟨g, o, none⟩) 3 cap] := PrAdd.blk htw3 (by first | exact Blk.new _ _ _ | exact (Blk.new _ _ _).alloc _ | exact Blk.new2 _ _ _ _ | exact ((Blk.new _ _ _).alloc _).alloc _ | exact (Blk.new2 _ _ _ _).alloc _ | exact Blk.new3 _ _ _ _ _ | assumption | exact Blk.alloc (by assumption) _ | exact (Blk.alloc (Blk.alloc (by assumption) _) _)) (by have := PSt.lt PST0.out; have := PSt.hB PST0.out; omega) (by decide) (by decide)
  have B1_w3 : Blk w3 (w.heap.size + 1) 24 #[.int .i64 a.kind, .string (⟨a.text.toArray⟩ : ByteArray), .int .i64 a.cols, .slice Aa a.kids.length capa] := PrAdd.blk htw3 (by first | exact Blk.new _ _ _ | exact (Blk.new _ _ _).alloc _ | exact Blk.new2 _ _ _ _ | exact ((Blk.new _ _ _).alloc _).alloc _ | exact (Blk.new2 _ _ _ _).alloc _ | exact Blk.new3 _ _ _ _ _ | assumption | exact Blk.alloc (by assumption) _ | exact (Blk.alloc (Blk.alloc (by assumption) _) _)) (by have := PSt.lt PST0.out; have := PSt.hB PST0.out; omega) (by decide) (by decide)
  clear q0_0_w2 q0_1_w2 q0_2_w2 q0_3_w2 B0_w2 q1_0_w2 q1_1_w2 q1_2_w2 q1_3_w2 B1_w2
  have q0_0_w3 : World.cell? w3 ⟨w.heap.size, 0, none⟩ = some (.int .i64 (9 : Int)) := Blk.cell B0_w3 0
  have q0_1_w3 : World.cell? w3 ⟨w.heap.size, 1, none⟩ = some (tx) := Blk.cell B0_w3 1
  have q0_2_w3 : World.cell? w3 ⟨w.heap.size, 2, none⟩ = some (cl) := Blk.cell B0_w3 2
  have q0_3_w3 : World.cell? w3 ⟨w.heap.size, 3, none⟩ = some (.slice (some ⟨g, o, none⟩) 3 cap) := Blk.cell B0_w3 3
  have q1_0_w3 : World.cell? w3 ⟨w.heap.size + 1, 0, none⟩ = some (.int .i64 a.kind) := Blk.cell B1_w3 0
  have q1_1_w3 : World.cell? w3 ⟨w.heap.size + 1, 1, none⟩ = some (.string (⟨a.text.toArray⟩ : ByteArray)) := Blk.cell B1_w3 1
  have q1_2_w3 : World.cell? w3 ⟨w.heap.size + 1, 2, none⟩ = some (.int .i64 a.cols) := Blk.cell B1_w3 2
  have q1_3_w3 : World.cell? w3 ⟨w.heap.size + 1, 3, none⟩ = some (.slice Aa a.kids.length capa) := Blk.cell B1_w3 3
  clear xa0_w2 xa1_w2 xa2_w2 xa3_w2 xb0_w2 xb1_w2 xb2_w2 xb3_w2 xd0_w2 xd1_w2 xd2_w2 xd3_w2
  have xa0_w3 : World.cell? w3 ⟨g, o, none⟩ = some (.int .i64 a.kind) := Low.cell (PSt.low PSTw3.out) XA0.out
  have xa1_w3 : World.cell? w3 ⟨g, o + 1, none⟩ = some (.string (⟨a.text.toArray⟩ : ByteArray)) := Low.cell (PSt.low PSTw3.out) XA1.out
  have xa2_w3 : World.cell? w3 ⟨g, o + 2, none⟩ = some (.int .i64 a.cols) := Low.cell (PSt.low PSTw3.out) XA2.out
  have xa3_w3 : World.cell? w3 ⟨g, o + 3, none⟩ = some (.slice Aa a.kids.length capa) := Low.cell (PSt.low PSTw3.out) XA3.out
  have xb0_w3 : World.cell? w3 ⟨g, o + 4, none⟩ = some (.int .i64 b.kind) := Low.cell (PSt.low PSTw3.out) XB0.out
  have xb1_w3 : World.cell? w3 ⟨g, o + 4 + 1, none⟩ = some (.string (⟨b.text.toArray⟩ : ByteArray)) := Low.cell (PSt.low PSTw3.out) XB1.out
  have xb2_w3 : World.cell? w3 ⟨g, o + 4 + 2, none⟩ = some (.int .i64 b.cols) := Low.cell (PSt.low PSTw3.out) XB2.out
  have xb3_w3 : World.cell? w3 ⟨g, o + 4 + 3, none⟩ = some (sb) := Low.cell (PSt.low PSTw3.out) XB3.out
  have xd0_w3 : World.cell? w3 ⟨g, o + 8, none⟩ = some (.int .i64 d.kind) := Low.cell (PSt.low PSTw3.out) XD0.out
  have xd1_w3 : World.cell? w3 ⟨g, o + 8 + 1, none⟩ = some (.string (⟨d.text.toArray⟩ : ByteArray)) := Low.cell (PSt.low PSTw3.out) XD1.out
  have xd2_w3 : World.cell? w3 ⟨g, o + 8 + 2, none⟩ = some (.int .i64 d.cols) := Low.cell (PSt.low PSTw3.out) XD2.out
  have xd3_w3 : World.cell? w3 ⟨g, o + 8 + 3, none⟩ = some (sd) := Low.cell (PSt.low PSTw3.out) XD3.out
  have hlt_g_w3 : g < w3.heap.size := block_lt_of_cell xa0_w3
  clear htw3
  go_wp2_with fail
  refine Calls.mono ((mark_em W0 p B [94]) _ _ _ (PSt.fresh PSTw3.out (by first | exact (Touch.refl _ _) | exact (Touch.refl _ _).alloc _ | exact ((Touch.refl _ _).alloc _).alloc _ | exact (((Touch.refl _ _).alloc _).alloc _).alloc _ | exact (Touch.refl _ _).drewN _ | exact ((Touch.refl _ _).alloc _).drewN _ | exact (((Touch.refl _ _).alloc _).alloc _).drewN _)) FITw3.out.left) ?_
  rintro _ w4 ⟨rfl, htw4⟩
  have PSTw4 := hid (PSt.add2 (PSt.fresh PSTw3.out (by first | exact (Touch.refl _ _) | exact (Touch.refl _ _).alloc _ | exact ((Touch.refl _ _).alloc _).alloc _ | exact (((Touch.refl _ _).alloc _).alloc _).alloc _ | exact (Touch.refl _ _).drewN _ | exact ((Touch.refl _ _).alloc _).drewN _ | exact (((Touch.refl _ _).alloc _).alloc _).drewN _)) htw4)
  have ACCw4 := hid (PrAdd.app ACCw3.out (PrAdd.freshL (show Fresh w3 _ from (by first | exact (Touch.refl _ _) | exact (Touch.refl _ _).alloc _ | exact ((Touch.refl _ _).alloc _).alloc _ | exact (((Touch.refl _ _).alloc _).alloc _).alloc _ | exact (Touch.refl _ _).drewN _ | exact ((Touch.refl _ _).alloc _).drewN _ | exact (((Touch.refl _ _).alloc _).alloc _).drewN _)) htw4))
  have FITw4 := hid (Fits.right2 FITw3.out)
  have B0_w4 : Blk w4 (w.heap.size) 24 #[.int .i64 (9 : Int), tx, cl, .slice (some ⟨g, o, none⟩) 3 cap] := PrAdd.blk htw4 (by first | exact Blk.new _ _ _ | exact (Blk.new _ _ _).alloc _ | exact Blk.new2 _ _ _ _ | exact ((Blk.new _ _ _).alloc _).alloc _ | exact (Blk.new2 _ _ _ _).alloc _ | exact Blk.new3 _ _ _ _ _ | assumption | exact Blk.alloc (by assumption) _ | exact (Blk.alloc (Blk.alloc (by assumption) _) _)) (by have := PSt.lt PST0.out; have := PSt.hB PST0.out; omega) (by decide) (by decide)
  have B1_w4 : Blk w4 (w.heap.size + 1) 24 #[.int .i64 a.kind, .string (⟨a.text.toArray⟩ : ByteArray), .int .i64 a.cols, .slice Aa a.kids.length capa] := PrAdd.blk htw4 (by first | exact Blk.new _ _ _ | exact (Blk.new _ _ _).alloc _ | exact Blk.new2 _ _ _ _ | exact ((Blk.new _ _ _).alloc _).alloc _ | exact (Blk.new2 _ _ _ _).alloc _ | exact Blk.new3 _ _ _ _ _ | assumption | exact Blk.alloc (by assumption) _ | exact (Blk.alloc (Blk.alloc (by assumption) _) _)) (by have := PSt.lt PST0.out; have := PSt.hB PST0.out; omega) (by decide) (by decide)
  clear q0_0_w3 q0_1_w3 q0_2_w3 q0_3_w3 B0_w3 q1_0_w3 q1_1_w3 q1_2_w3 q1_3_w3 B1_w3
  have q0_0_w4 : World.cell? w4 ⟨w.heap.size, 0, none⟩ = some (.int .i64 (9 : Int)) := Blk.cell B0_w4 0
  have q0_1_w4 : World.cell? w4 ⟨w.heap.size, 1, none⟩ = some (tx) := Blk.cell B0_w4 1
  have q0_2_w4 : World.cell? w4 ⟨w.heap.size, 2, none⟩ = some (cl) := Blk.cell B0_w4 2
  have q0_3_w4 : World.cell? w4 ⟨w.heap.size, 3, none⟩ = some (.slice (some ⟨g, o, none⟩) 3 cap) := Blk.cell B0_w4 3
  have q1_0_w4 : World.cell? w4 ⟨w.heap.size + 1, 0, none⟩ = some (.int .i64 a.kind) := Blk.cell B1_w4 0
  have q1_1_w4 : World.cell? w4 ⟨w.heap.size + 1, 1, none⟩ = some (.string (⟨a.text.toArray⟩ : ByteArray)) := Blk.cell B1_w4 1
  have q1_2_w4 : World.cell? w4 ⟨w.heap.size + 1, 2, none⟩ = some (.int .i64 a.cols) := Blk.cell B1_w4 2
  have q1_3_w4 : World.cell? w4 ⟨w.heap.size + 1, 3, none⟩ = some (.slice Aa a.kids.length capa) := Blk.cell B1_w4 3
  clear xa0_w3 xa1_w3 xa2_w3 xa3_w3 xb0_w3 xb1_w3 xb2_w3 xb3_w3 xd0_w3 xd1_w3 xd2_w3 xd3_w3
  have xa0_w4 : World.cell? w4 ⟨g, o, none⟩ = some (.int .i64 a.kind) := Low.cell (PSt.low PSTw4.out) XA0.out
  have xa1_w4 : World.cell? w4 ⟨g, o + 1, none⟩ = some (.string (⟨a.text.toArray⟩ : ByteArray)) := Low.cell (PSt.low PSTw4.out) XA1.out
  have xa2_w4 : World.cell? w4 ⟨g, o + 2, none⟩ = some (.int .i64 a.cols) := Low.cell (PSt.low PSTw4.out) XA2.out
  have xa3_w4 : World.cell? w4 ⟨g, o + 3, none⟩ = some (.slice Aa a.kids.length capa) := Low.cell (PSt.low PSTw4.out) XA3.out
  have xb0_w4 : World.cell? w4 ⟨g, o + 4, none⟩ = some (.int .i64 b.kind) := Low.cell (PSt.low PSTw4.out) XB0.out
  have xb1_w4 : World.cell? w4 ⟨g, o + 4 + 1, none⟩ = some (.string (⟨b.text.toArray⟩ : ByteArray)) := Low.cell (PSt.low PSTw4.out) XB1.out
  have xb2_w4 : World.cell? w4 ⟨g, o + 4 + 2, none⟩ = some (.int .i64 b.cols) := Low.cell (PSt.low PSTw4.out) XB2.out
  have xb3_w4 : World.cell? w4 ⟨g, o + 4 + 3, none⟩ = some (sb) := Low.cell (PSt.low PSTw4.out) XB3.out
  have xd0_w4 : World.cell? w4 ⟨g, o + 8, none⟩ = some (.int .i64 d.kind) := Low.cell (PSt.low PSTw4.out) XD0.out
  have xd1_w4 : World.cell? w4 ⟨g, o + 8 + 1, none⟩ = some (.string (⟨d.text.toArray⟩ : ByteArray)) := Low.cell (PSt.low PSTw4.out) XD1.out
  have xd2_w4 : World.cell? w4 ⟨g, o + 8 + 2, none⟩ = some (.int .i64 d.cols) := Low.cell (PSt.low PSTw4.out) XD2.out
  have xd3_w4 : World.cell? w4 ⟨g, o + 8 + 3, none⟩ = some (sd) := Low.cell (PSt.low PSTw4.out) XD3.out
  have hlt_g_w4 : g < w4.heap.size := block_lt_of_cell xa0_w4
  clear htw4
  go_wp2_with fail
  refine Calls.mono ((ARGd.out) _ _ _ (PSt.fresh PSTw4.out (by first | exact (Touch.refl _ _) | exact (Touch.refl _ _).alloc _ | exact ((Touch.refl _ _).alloc _).alloc _ | exact (((Touch.refl _ _).alloc _).alloc _).alloc _ | exact (Touch.refl _ _).drewN _ | exact ((Touch.refl _ _).alloc _).drewN _ | exact (((Touch.refl _ _).alloc _).alloc _).drewN _)) FITw4.out) ?_
  rintro _ w5 ⟨rfl, htw5⟩
  have PSTw5 := hid (PSt.add2 (PSt.fresh PSTw4.out (by first | exact (Touch.refl _ _) | exact (Touch.refl _ _).alloc _ | exact ((Touch.refl _ _).alloc _).alloc _ | exact (((Touch.refl _ _).alloc _).alloc _).alloc _ | exact (Touch.refl _ _).drewN _ | exact ((Touch.refl _ _).alloc _).drewN _ | exact (((Touch.refl _ _).alloc _).alloc _).drewN _)) htw5)
  have ACCw5 := hid (PrAdd.app ACCw4.out (PrAdd.freshL (show Fresh w4 _ from (by first | exact (Touch.refl _ _) | exact (Touch.refl _ _).alloc _ | exact ((Touch.refl _ _).alloc _).alloc _ | exact (((Touch.refl _ _).alloc _).alloc _).alloc _ | exact (Touch.refl _ _).drewN _ | exact ((Touch.refl _ _).alloc _).drewN _ | exact (((Touch.refl _ _).alloc _).alloc _).drewN _)) htw5))
  have B0_w5 : Blk w5 (w.heap.size) 24 #[.int .i64 (9 : Int), tx, cl, .slice (some ⟨g, o, none⟩) 3 cap] := PrAdd.blk htw5 (by first | exact Blk.new _ _ _ | exact (Blk.new _ _ _).alloc _ | exact Blk.new2 _ _ _ _ | exact ((Blk.new _ _ _).alloc _).alloc _ | exact (Blk.new2 _ _ _ _).alloc _ | exact Blk.new3 _ _ _ _ _ | assumption | exact Blk.alloc (by assumption) _ | exact (Blk.alloc (Blk.alloc (by assumption) _) _)) (by have := PSt.lt PST0.out; have := PSt.hB PST0.out; omega) (by decide) (by decide)
  have B1_w5 : Blk w5 (w.heap.size + 1) 24 #[.int .i64 a.kind, .string (⟨a.text.toArray⟩ : ByteArray), .int .i64 a.cols, .slice Aa a.kids.length capa] := PrAdd.blk htw5 (by first | exact Blk.new _ _ _ | exact (Blk.new _ _ _).alloc _ | exact Blk.new2 _ _ _ _ | exact ((Blk.new _ _ _).alloc _).alloc _ | exact (Blk.new2 _ _ _ _).alloc _ | exact Blk.new3 _ _ _ _ _ | assumption | exact Blk.alloc (by assumption) _ | exact (Blk.alloc (Blk.alloc (by assumption) _) _)) (by have := PSt.lt PST0.out; have := PSt.hB PST0.out; omega) (by decide) (by decide)
  clear q0_0_w4 q0_1_w4 q0_2_w4 q0_3_w4 B0_w4 q1_0_w4 q1_1_w4 q1_2_w4 q1_3_w4 B1_w4
  have q0_0_w5 : World.cell? w5 ⟨w.heap.size, 0, none⟩ = some (.int .i64 (9 : Int)) := Blk.cell B0_w5 0
  have q0_1_w5 : World.cell? w5 ⟨w.heap.size, 1, none⟩ = some (tx) := Blk.cell B0_w5 1
  have q0_2_w5 : World.cell? w5 ⟨w.heap.size, 2, none⟩ = some (cl) := Blk.cell B0_w5 2
  have q0_3_w5 : World.cell? w5 ⟨w.heap.size, 3, none⟩ = some (.slice (some ⟨g, o, none⟩) 3 cap) := Blk.cell B0_w5 3
  have q1_0_w5 : World.cell? w5 ⟨w.heap.size + 1, 0, none⟩ = some (.int .i64 a.kind) := Blk.cell B1_w5 0
  have q1_1_w5 : World.cell? w5 ⟨w.heap.size + 1, 1, none⟩ = some (.string (⟨a.text.toArray⟩ : ByteArray)) := Blk.cell B1_w5 1
  have q1_2_w5 : World.cell? w5 ⟨w.heap.size + 1, 2, none⟩ = some (.int .i64 a.cols) := Blk.cell B1_w5 2
  have q1_3_w5 : World.cell? w5 ⟨w.heap.size + 1, 3, none⟩ = some (.slice Aa a.kids.length capa) := Blk.cell B1_w5 3
  clear xa0_w4 xa1_w4 xa2_w4 xa3_w4 xb0_w4 xb1_w4 xb2_w4 xb3_w4 xd0_w4 xd1_w4 xd2_w4 xd3_w4
  have xa0_w5 : World.cell? w5 ⟨g, o, none⟩ = some (.int .i64 a.kind) := Low.cell (PSt.low PSTw5.out) XA0.out
  have xa1_w5 : World.cell? w5 ⟨g, o + 1, none⟩ = some (.string (⟨a.text.toArray⟩ : ByteArray)) := Low.cell (PSt.low PSTw5.out) XA1.out
  have xa2_w5 : World.cell? w5 ⟨g, o + 2, none⟩ = some (.int .i64 a.cols) := Low.cell (PSt.low PSTw5.out) XA2.out
  have xa3_w5 : World.cell? w5 ⟨g, o + 3, none⟩ = some (.slice Aa a.kids.length capa) := Low.cell (PSt.low PSTw5.out) XA3.out
  have xb0_w5 : World.cell? w5 ⟨g, o + 4, none⟩ = some (.int .i64 b.kind) := Low.cell (PSt.low PSTw5.out) XB0.out
  have xb1_w5 : World.cell? w5 ⟨g, o + 4 + 1, none⟩ = some (.string (⟨b.text.toArray⟩ : ByteArray)) := Low.cell (PSt.low PSTw5.out) XB1.out
  have xb2_w5 : World.cell? w5 ⟨g, o + 4 + 2, none⟩ = some (.int .i64 b.cols) := Low.cell (PSt.low PSTw5.out) XB2.out
  have xb3_w5 : World.cell? w5 ⟨g, o + 4 + 3, none⟩ = some (sb) := Low.cell (PSt.low PSTw5.out) XB3.out
  have xd0_w5 : World.cell? w5 ⟨g, o + 8, none⟩ = some (.int .i64 d.kind) := Low.cell (PSt.low PSTw5.out) XD0.out
  have xd1_w5 : World.cell? w5 ⟨g, o + 8 + 1, none⟩ = some (.string (⟨d.text.toArray⟩ : ByteArray)) := Low.cell (PSt.low PSTw5.out) XD1.out
  have xd2_w5 : World.cell? w5 ⟨g, o + 8 + 2, none⟩ = some (.int .i64 d.cols) := Low.cell (PSt.low PSTw5.out) XD2.out
  have xd3_w5 : World.cell? w5 ⟨g, o + 8 + 3, none⟩ = some (sd) := Low.cell (PSt.low PSTw5.out) XD3.out
  have hlt_g_w5 : g < w5.heap.size := block_lt_of_cell xa0_w5
  clear htw5
  go_wp2_with fail
  first | go_end0 | refine bodyPost_ret (v := .tuple #[]) (results_none rfl _ _ _) rfl ?_
  exact ⟨rfl, PrAdd.cast ACCw5.out (by first | rfl | (simp only [List.append_assoc] <;> rfl))⟩

end Go.Proofs.Ytdacpbdamliafaa
