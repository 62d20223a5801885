/- The reference printer's Argument and base. -/
import Derived.Test.YtilgpmpiidccjaaPqA
import Derived.Test.YtilgpmpiidccjaaPp10
namespace Go.Proofs.Ytilgpmpiidccjaa
open Go.RowKit
open Tr (Nd argT baseT rowT itemT)

def RowR (n : Nd) : Prop := ∀ (w : World) (sl : Value), RepL w n.kids sl → Calls Try.prog 34 #[nv n sl] w (TokRes w (rowT n.kids))
def ItemR (n : Nd) : Prop := ∀ (w : World) (sl : Value), RepL w n.kids sl → Calls Try.prog 53 #[nv n sl] w (TokRes w (itemT n))
def ArgR (n : Nd) : Prop := ∀ (w : World) (sl : Value), RepL w n.kids sl → Calls Try.prog 87 #[nv n sl] w (TokRes w (argT n))
def BaseR (n : Nd) : Prop := ∀ (w : World) (sl : Value), RepL w n.kids sl → Calls Try.prog 128 #[nv n sl] w (TokRes w (baseT n))

theorem itemT_row (n x : Nd) (h : n.kids = [x]) : rowT n.kids = itemT x := by rw [h, Tr.rowT_cons, Tr.rowT_nil, List.append_nil]

set_option maxRecDepth 100000 in
set_option maxHeartbeats 2000000 in
theorem argument_one_r (n x : Nd) (hx : n.kids = [x]) (hl : Tr.leaf x = true) (hi : ItemR x) : ArgR n := by
  intro w sl hsl
  rw [argT_leaf n x hx hl, itemT_row n x hx]
  rw [hx] at hsl
  obtain ⟨g, o, cap, sx, rfl, x0, x1, x2, x3, hrx⟩ := hsl.one
  have ITMx := hid hi
  have HRx := hid hrx
  clear hi hsl hrx
  have XX0 := hid x0
  have XX1 := hid x1
  have XX2 := hid x2
  have XX3 := hid x3
  clear x0 x1 x2 x3
  simp only [Tr.leaf, Bool.or_eq_true, beq_iff_eq] at hl
  rcases hl with (hl | hl) | hl
  · have k2 : x.kind = 2 := hl
    clear hl
    have d2 : (x.kind == (2 : Int)) = true := by rw [k2]; rfl
    have d3 : (x.kind == (3 : Int)) = false := by rw [k2]; rfl
    have d4 : (x.kind == (4 : Int)) = false := by rw [k2]; rfl
    clear k2
    have xx0_w : World.cell? w ⟨g, o, none⟩ = some (.int .i64 x.kind) := XX0.out
    have xx1_w : World.cell? w ⟨g, o + 1, none⟩ = some (.string (⟨x.text.toArray⟩ : ByteArray)) := XX1.out
    have xx2_w : World.cell? w ⟨g, o + 2, none⟩ = some (.int .i64 x.cols) := XX2.out
    have xx3_w : World.cell? w ⟨g, o + 3, none⟩ = some (sx) := XX3.out
    have hlt_g_w : g < w.heap.size := block_lt_of_cell xx0_w
    go_enter Try.func87, Try.ntmps87
    go_wp2_with fail
    refine Calls.mono (ITMx.out _ _ (HRx.out.fresh (by first | exact (Touch.refl _ _) | exact (Touch.refl _ _).alloc _ | exact ((Touch.refl _ _).alloc _).alloc _ | exact (((Touch.refl _ _).alloc _).alloc _).alloc _ | exact (Touch.refl _ _).drewN _ | exact ((Touch.refl _ _).alloc _).drewN _ | exact (((Touch.refl _ _).alloc _).alloc _).drewN _))) ?_
    rintro _ w1 ⟨v1, rfl, how1, hfw1⟩
    have O1_w1 := hid (ownsRow_base (B' := w.heap.size) how1 (by first | exact Nat.le_refl _ | assumption | (simp only [World.size_alloc]; omega)))
    clear how1
    have HF1 := hid (show Fresh w w1 from by first | exact hfw1 | exact Touch.pre hfw1 | exact Touch.pre (Touch.pre hfw1) | exact Touch.ofN hfw1 | exact Touch.preN hfw1 | exact Touch.pre (Touch.pre (Touch.pre hfw1)))
    have B0_w1 : Blk w1 (w.heap.size) 24 #[.int .i64 n.kind, .string (⟨n.text.toArray⟩ : ByteArray), .int .i64 n.cols, .slice (some ⟨g, o, none⟩) 1 cap] := Touch.blk hfw1 (by first | exact Blk.new _ _ _ | exact (Blk.new _ _ _).alloc _ | exact Blk.new2 _ _ _ _ | exact ((Blk.new _ _ _).alloc _).alloc _ | exact (Blk.new2 _ _ _ _).alloc _ | exact Blk.new3 _ _ _ _ _ | assumption | exact Blk.alloc (by assumption) _ | exact (Blk.alloc (Blk.alloc (by assumption) _) _)) (fun h => h)
    have q0_0_w1 : World.cell? w1 ⟨w.heap.size, 0, none⟩ = some (.int .i64 n.kind) := Blk.cell B0_w1 0
    have q0_1_w1 : World.cell? w1 ⟨w.heap.size, 1, none⟩ = some (.string (⟨n.text.toArray⟩ : ByteArray)) := Blk.cell B0_w1 1
    have q0_2_w1 : World.cell? w1 ⟨w.heap.size, 2, none⟩ = some (.int .i64 n.cols) := Blk.cell B0_w1 2
    have q0_3_w1 : World.cell? w1 ⟨w.heap.size, 3, none⟩ = some (.slice (some ⟨g, o, none⟩) 1 cap) := Blk.cell B0_w1 3
    have hltb0_w1 : w.heap.size < w1.heap.size := Blk.lt B0_w1
    have xx0_w1 : World.cell? w1 ⟨g, o, none⟩ = some (.int .i64 x.kind) := Touch.cell HF1.out xx0_w (fun h => h)
    have xx1_w1 : World.cell? w1 ⟨g, o + 1, none⟩ = some (.string (⟨x.text.toArray⟩ : ByteArray)) := Touch.cell HF1.out xx1_w (fun h => h)
    have xx2_w1 : World.cell? w1 ⟨g, o + 2, none⟩ = some (.int .i64 x.cols) := Touch.cell HF1.out xx2_w (fun h => h)
    have xx3_w1 : World.cell? w1 ⟨g, o + 3, none⟩ = some (sx) := Touch.cell HF1.out xx3_w (fun h => h)
    clear xx0_w xx1_w xx2_w xx3_w
    have hsz_w1 : w.heap.size ≤ w1.heap.size := Touch.size HF1.out
    clear hfw1
    go_wp2_with fail
    go_ret
    exact ⟨v1, rfl, ownCast (O1_w1.out) (by first | rfl | (simp only [List.append_assoc] <;> rfl) | (simp <;> rfl)), (by first | exact HF1.out | exact HF1.out.alloc _ | exact (HF1.out.alloc _).alloc _ | exact ((HF1.out.alloc _).alloc _).alloc _ | exact HF1.out.drewN _ | exact (HF1.out.alloc _).drewN _ | exact ((HF1.out.alloc _).alloc _).drewN _)⟩
  · have k2 : x.kind = 3 := hl
    clear hl
    have d2 : (x.kind == (2 : Int)) = false := by rw [k2]; rfl
    have d3 : (x.kind == (3 : Int)) = true := by rw [k2]; rfl
    have d4 : (x.kind == (4 : Int)) = false := by rw [k2]; rfl
    clear k2
    have xx0_w : World.cell? w ⟨g, o, none⟩ = some (.int .i64 x.kind) := XX0.out
    have xx1_w : World.cell? w ⟨g, o + 1, none⟩ = some (.string (⟨x.text.toArray⟩ : ByteArray)) := XX1.out
    have xx2_w : World.cell? w ⟨g, o + 2, none⟩ = some (.int .i64 x.cols) := XX2.out
    have xx3_w : World.cell? w ⟨g, o + 3, none⟩ = some (sx) := XX3.out
    have hlt_g_w : g < w.heap.size := block_lt_of_cell xx0_w
    go_enter Try.func87, Try.ntmps87
    go_wp2_with fail
    refine Calls.mono (ITMx.out _ _ (HRx.out.fresh (by first | exact (Touch.refl _ _) | exact (Touch.refl _ _).alloc _ | exact ((Touch.refl _ _).alloc _).alloc _ | exact (((Touch.refl _ _).alloc _).alloc _).alloc _ | exact (Touch.refl _ _).drewN _ | exact ((Touch.refl _ _).alloc _).drewN _ | exact (((Touch.refl _ _).alloc _).alloc _).drewN _))) ?_
    rintro _ w1 ⟨v1, rfl, how1, hfw1⟩
    have O1_w1 := hid (ownsRow_base (B' := w.heap.size) how1 (by first | exact Nat.le_refl _ | assumption | (simp only [World.size_alloc]; omega)))
    clear how1
    have HF1 := hid (show Fresh w w1 from by first | exact hfw1 | exact Touch.pre hfw1 | exact Touch.pre (Touch.pre hfw1) | exact Touch.ofN hfw1 | exact Touch.preN hfw1 | exact Touch.pre (Touch.pre (Touch.pre hfw1)))
    have B0_w1 : Blk w1 (w.heap.size) 24 #[.int .i64 n.kind, .string (⟨n.text.toArray⟩ : ByteArray), .int .i64 n.cols, .slice (some ⟨g, o, none⟩) 1 cap] := Touch.blk hfw1 (by first | exact Blk.new _ _ _ | exact (Blk.new _ _ _).alloc _ | exact Blk.new2 _ _ _ _ | exact ((Blk.new _ _ _).alloc _).alloc _ | exact (Blk.new2 _ _ _ _).alloc _ | exact Blk.new3 _ _ _ _ _ | assumption | exact Blk.alloc (by assumption) _ | exact (Blk.alloc (Blk.alloc (by assumption) _) _)) (fun h => h)
    have q0_0_w1 : World.cell? w1 ⟨w.heap.size, 0, none⟩ = some (.int .i64 n.kind) := Blk.cell B0_w1 0
    have q0_1_w1 : World.cell? w1 ⟨w.heap.size, 1, none⟩ = some (.string (⟨n.text.toArray⟩ : ByteArray)) := Blk.cell B0_w1 1
    have q0_2_w1 : World.cell? w1 ⟨w.heap.size, 2, none⟩ = some (.int .i64 n.cols) := Blk.cell B0_w1 2
    have q0_3_w1 : World.cell? w1 ⟨w.heap.size, 3, none⟩ = some (.slice (some ⟨g, o, none⟩) 1 cap) := Blk.cell B0_w1 3
    have hltb0_w1 : w.heap.size < w1.heap.size := Blk.lt B0_w1
    have xx0_w1 : World.cell? w1 ⟨g, o, none⟩ = some (.int .i64 x.kind) := Touch.cell HF1.out xx0_w (fun h => h)
    have xx1_w1 : World.cell? w1 ⟨g, o + 1, none⟩ = some (.string (⟨x.text.toArray⟩ : ByteArray)) := Touch.cell HF1.out xx1_w (fun h => h)
    have xx2_w1 : World.cell? w1 ⟨g, o + 2, none⟩ = some (.int .i64 x.cols) := Touch.cell HF1.out xx2_w (fun h => h)
    have xx3_w1 : World.cell? w1 ⟨g, o + 3, none⟩ = some (sx) := Touch.cell HF1.out xx3_w (fun h => h)
    clear xx0_w xx1_w xx2_w xx3_w
    have hsz_w1 : w.heap.size ≤ w1.heap.size := Touch.size HF1.out
    clear hfw1
    go_wp2_with fail
    go_ret
    exact ⟨v1, rfl, ownCast (O1_w1.out) (by first | rfl | (simp only [List.append_assoc] <;> rfl) | (simp <;> rfl)), (by first | exact HF1.out | exact HF1.out.alloc _ | exact (HF1.out.alloc _).alloc _ | exact ((HF1.out.alloc _).alloc _).alloc _ | exact HF1.out.drewN _ | exact (HF1.out.alloc _).drewN _ | exact ((HF1.out.alloc _).alloc _).drewN _)⟩
  · have k2 : x.kind = 4 := hl
    clear hl
    have d2 : (x.kind == (2 : Int)) = false := by rw [k2]; rfl
    have d3 : (x.kind == (3 : Int)) = false := by rw [k2]; rfl
    have d4 : (x.kind == (4 : Int)) = true := by rw [k2]; rfl
    clear k2
    have xx0_w : World.cell? w ⟨g, o, none⟩ = some (.int .i64 x.kind) := XX0.out
    have xx1_w : World.cell? w ⟨g, o + 1, none⟩ = some (.string (⟨x.text.toArray⟩ : ByteArray)) := XX1.out
    have xx2_w : World.cell? w ⟨g, o + 2, none⟩ = some (.int .i64 x.cols) := XX2.out
    have xx3_w : World.cell? w ⟨g, o + 3, none⟩ = some (sx) := XX3.out
    have hlt_g_w : g < w.heap.size := block_lt_of_cell xx0_w
    go_enter Try.func87, Try.ntmps87
    go_wp2_with fail
    refine Calls.mono (ITMx.out _ _ (HRx.out.fresh (by first | exact (Touch.refl _ _) | exact (Touch.refl _ _).alloc _ | exact ((Touch.refl _ _).alloc _).alloc _ | exact (((Touch.refl _ _).alloc _).alloc _).alloc _ | exact (Touch.refl _ _).drewN _ | exact ((Touch.refl _ _).alloc _).drewN _ | exact (((Touch.refl _ _).alloc _).alloc _).drewN _))) ?_
    rintro _ w1 ⟨v1, rfl, how1, hfw1⟩
    have O1_w1 := hid (ownsRow_base (B' := w.heap.size) how1 (by first | exact Nat.le_refl _ | assumption | (simp only [World.size_alloc]; omega)))
    clear how1
    have HF1 := hid (show Fresh w w1 from by first | exact hfw1 | exact Touch.pre hfw1 | exact Touch.pre (Touch.pre hfw1) | exact Touch.ofN hfw1 | exact Touch.preN hfw1 | exact Touch.pre (Touch.pre (Touch.pre hfw1)))
    have B0_w1 : Blk w1 (w.heap.size) 24 #[.int .i64 n.kind, .string (⟨n.text.toArray⟩ : ByteArray), .int .i64 n.cols, .slice (some ⟨g, o, none⟩) 1 cap] := Touch.blk hfw1 (by first | exact Blk.new _ _ _ | exact (Blk.new _ _ _).alloc _ | exact Blk.new2 _ _ _ _ | exact ((Blk.new _ _ _).alloc _).alloc _ | exact (Blk.new2 _ _ _ _).alloc _ | exact Blk.new3 _ _ _ _ _ | assumption | exact Blk.alloc (by assumption) _ | exact (Blk.alloc (Blk.alloc (by assumption) _) _)) (fun h => h)
    have q0_0_w1 : World.cell? w1 ⟨w.heap.size, 0, none⟩ = some (.int .i64 n.kind) := Blk.cell B0_w1 0
    have q0_1_w1 : World.cell? w1 ⟨w.heap.size, 1, none⟩ = some (.string (⟨n.text.toArray⟩ : ByteArray)) := Blk.cell B0_w1 1
    have q0_2_w1 : World.cell? w1 ⟨w.heap.size, 2, none⟩ = some (.int .i64 n.cols) := Blk.cell B0_w1 2
    have q0_3_w1 : World.cell? w1 ⟨w.heap.size, 3, none⟩ = some (.slice (some ⟨g, o, none⟩) 1 cap) := Blk.cell B0_w1 3
    have hltb0_w1 : w.heap.size < w1.heap.size := Blk.lt B0_w1
    have xx0_w1 : World.cell? w1 ⟨g, o, none⟩ = some (.int .i64 x.kind) := Touch.cell HF1.out xx0_w (fun h => h)
    have xx1_w1 : World.cell? w1 ⟨g, o + 1, none⟩ = some (.string (⟨x.text.toArray⟩ : ByteArray)) := Touch.cell HF1.out xx1_w (fun h => h)
    have xx2_w1 : World.cell? w1 ⟨g, o + 2, none⟩ = some (.int .i64 x.cols) := Touch.cell HF1.out xx2_w (fun h => h)
    have xx3_w1 : World.cell? w1 ⟨g, o + 3, none⟩ = some (sx) := Touch.cell HF1.out xx3_w (fun h => h)
    clear xx0_w xx1_w xx2_w xx3_w
    have hsz_w1 : w.heap.size ≤ w1.heap.size := Touch.size HF1.out
    clear hfw1
    go_wp2_with fail
    go_ret
    exact ⟨v1, rfl, ownCast (O1_w1.out) (by first | rfl | (simp only [List.append_assoc] <;> rfl) | (simp <;> rfl)), (by first | exact HF1.out | exact HF1.out.alloc _ | exact (HF1.out.alloc _).alloc _ | exact ((HF1.out.alloc _).alloc _).alloc _ | exact HF1.out.drewN _ | exact (HF1.out.alloc _).drewN _ | exact ((HF1.out.alloc _).alloc _).drewN _)⟩
set_option maxRecDepth 100000 in
set_option maxHeartbeats 2000000 in
theorem argument_grp_r (n x : Nd) (hx : n.kids = [x]) (hl : Tr.leaf x = false) (hi : RowR n) (hn : (rowT n.kids).length ≤ 50000) : ArgR n := by
  intro w sl hsl
  rw [argT_grp n x hx hl]
  have HRn := hid hsl
  rw [hx] at hsl
  obtain ⟨g, o, cap, sx, rfl, x0, x1, x2, x3, hrx⟩ := hsl.one
  have ROWn := hid hi
  have HLEN := hid hn
  obtain ⟨i0, hi, hz0, hz1, hz2⟩ := info_parts infoRTok
  clear hi hsl hrx hn
  have XX0 := hid x0
  have XX1 := hid x1
  have XX2 := hid x2
  have XX3 := hid x3
  clear x0 x1 x2 x3
  simp only [Tr.leaf, Bool.or_eq_false_iff] at hl
  obtain ⟨⟨d2, d3⟩, d4⟩ := hl
  have xx0_w : World.cell? w ⟨g, o, none⟩ = some (.int .i64 x.kind) := XX0.out
  have xx1_w : World.cell? w ⟨g, o + 1, none⟩ = some (.string (⟨x.text.toArray⟩ : ByteArray)) := XX1.out
  have xx2_w : World.cell? w ⟨g, o + 2, none⟩ = some (.int .i64 x.cols) := XX2.out
  have xx3_w : World.cell? w ⟨g, o + 3, none⟩ = some (sx) := XX3.out
  have hlt_g_w : g < w.heap.size := block_lt_of_cell xx0_w
  go_enter Try.func87, Try.ntmps87
  go_wp2_with fail
  refine Calls.mono (ROWn.out _ _ (HRn.out.fresh (by first | exact (Touch.refl _ _) | exact (Touch.refl _ _).alloc _ | exact ((Touch.refl _ _).alloc _).alloc _ | exact (((Touch.refl _ _).alloc _).alloc _).alloc _ | exact (Touch.refl _ _).drewN _ | exact ((Touch.refl _ _).alloc _).drewN _ | exact (((Touch.refl _ _).alloc _).alloc _).drewN _))) ?_
  rintro _ w1 ⟨v1, rfl, how1, hfw1⟩
  have O1_w1 := hid (ownsRow_base (B' := w.heap.size) how1 (by first | exact Nat.le_refl _ | assumption | (simp only [World.size_alloc]; omega)))
  clear how1
  have HF1 := hid (show Fresh w w1 from by first | exact hfw1 | exact Touch.pre hfw1 | exact Touch.pre (Touch.pre hfw1) | exact Touch.ofN hfw1 | exact Touch.preN hfw1 | exact Touch.pre (Touch.pre (Touch.pre hfw1)))
  have B0_w1 : Blk w1 (w.heap.size) 24 #[.int .i64 n.kind, .string (⟨n.text.toArray⟩ : ByteArray), .int .i64 n.cols, .slice (some ⟨g, o, none⟩) 1 cap] := Touch.blk hfw1 (by first | exact Blk.new _ _ _ | exact (Blk.new _ _ _).alloc _ | exact Blk.new2 _ _ _ _ | exact ((Blk.new _ _ _).alloc _).alloc _ | exact (Blk.new2 _ _ _ _).alloc _ | exact Blk.new3 _ _ _ _ _ | assumption | exact Blk.alloc (by assumption) _ | exact (Blk.alloc (Blk.alloc (by assumption) _) _)) (fun h => h)
  have q0_0_w1 : World.cell? w1 ⟨w.heap.size, 0, none⟩ = some (.int .i64 n.kind) := Blk.cell B0_w1 0
  have q0_1_w1 : World.cell? w1 ⟨w.heap.size, 1, none⟩ = some (.string (⟨n.text.toArray⟩ : ByteArray)) := Blk.cell B0_w1 1
  have q0_2_w1 : World.cell? w1 ⟨w.heap.size, 2, none⟩ = some (.int .i64 n.cols) := Blk.cell B0_w1 2
  have q0_3_w1 : World.cell? w1 ⟨w.heap.size, 3, none⟩ = some (.slice (some ⟨g, o, none⟩) 1 cap) := Blk.cell B0_w1 3
  have hltb0_w1 : w.heap.size < w1.heap.size := Blk.lt B0_w1
  have xx0_w1 : World.cell? w1 ⟨g, o, none⟩ = some (.int .i64 x.kind) := Touch.cell HF1.out xx0_w (fun h => h)
  have xx1_w1 : World.cell? w1 ⟨g, o + 1, none⟩ = some (.string (⟨x.text.toArray⟩ : ByteArray)) := Touch.cell HF1.out xx1_w (fun h => h)
  have xx2_w1 : World.cell? w1 ⟨g, o + 2, none⟩ = some (.int .i64 x.cols) := Touch.cell HF1.out xx2_w (fun h => h)
  have xx3_w1 : World.cell? w1 ⟨g, o + 3, none⟩ = some (sx) := Touch.cell HF1.out xx3_w (fun h => h)
  clear xx0_w xx1_w xx2_w xx3_w
  have hsz_w1 : w.heap.size ≤ w1.heap.size := Touch.size HF1.out
  clear hfw1
  go_wp2_with fail
  refine Calls.mono (rin_any [123] [125] ((rowT n.kids)) _ _ (Src.of_own O1_w1.out) (by have := HLEN.out; (try simp at this); (try simp); omega)) ?_
  rintro _ w2 ⟨v2, rfl, how2, hfw2⟩
  have O2_w2 := hid (ownsRow_base (B' := w.heap.size) how2 (by first | exact Nat.le_refl _ | assumption | (simp only [World.size_alloc]; omega)))
  clear how2
  have HF2 := hid (show Fresh w1 w2 from by first | exact hfw2 | exact Touch.pre hfw2 | exact Touch.pre (Touch.pre hfw2) | exact Touch.ofN hfw2 | exact Touch.preN hfw2 | exact Touch.pre (Touch.pre (Touch.pre hfw2)))
  have B0_w2 : Blk w2 (w.heap.size) 24 #[.int .i64 n.kind, .string (⟨n.text.toArray⟩ : ByteArray), .int .i64 n.cols, .slice (some ⟨g, o, none⟩) 1 cap] := Touch.blk hfw2 (by first | exact Blk.new _ _ _ | exact (Blk.new _ _ _).alloc _ | exact Blk.new2 _ _ _ _ | exact ((Blk.new _ _ _).alloc _).alloc _ | exact (Blk.new2 _ _ _ _).alloc _ | exact Blk.new3 _ _ _ _ _ | assumption | exact Blk.alloc (by assumption) _ | exact (Blk.alloc (Blk.alloc (by assumption) _) _)) (fun h => h)
  clear q0_0_w1 q0_1_w1 q0_2_w1 q0_3_w1 B0_w1
  have q0_0_w2 : World.cell? w2 ⟨w.heap.size, 0, none⟩ = some (.int .i64 n.kind) := Blk.cell B0_w2 0
  have q0_1_w2 : World.cell? w2 ⟨w.heap.size, 1, none⟩ = some (.string (⟨n.text.toArray⟩ : ByteArray)) := Blk.cell B0_w2 1
  have q0_2_w2 : World.cell? w2 ⟨w.heap.size, 2, none⟩ = some (.int .i64 n.cols) := Blk.cell B0_w2 2
  have q0_3_w2 : World.cell? w2 ⟨w.heap.size, 3, none⟩ = some (.slice (some ⟨g, o, none⟩) 1 cap) := Blk.cell B0_w2 3
  have hltb0_w2 : w.heap.size < w2.heap.size := Blk.lt B0_w2
  have xx0_w2 : World.cell? w2 ⟨g, o, none⟩ = some (.int .i64 x.kind) := Touch.cell HF2.out xx0_w1 (fun h => h)
  have xx1_w2 : World.cell? w2 ⟨g, o + 1, none⟩ = some (.string (⟨x.text.toArray⟩ : ByteArray)) := Touch.cell HF2.out xx1_w1 (fun h => h)
  have xx2_w2 : World.cell? w2 ⟨g, o + 2, none⟩ = some (.int .i64 x.cols) := Touch.cell HF2.out xx2_w1 (fun h => h)
  have xx3_w2 : World.cell? w2 ⟨g, o + 3, none⟩ = some (sx) := Touch.cell HF2.out xx3_w1 (fun h => h)
  clear xx0_w1 xx1_w1 xx2_w1 xx3_w1
  have hsz_w2 : w.heap.size ≤ w2.heap.size := Touch.size (HF1.out.trans HF2.out)
  clear hfw2
  go_wp2_with fail
  go_ret
  exact ⟨v2, rfl, ownCast (O2_w2.out) (by first | rfl | (simp only [List.append_assoc] <;> rfl) | (simp <;> rfl)), (by first | exact (HF1.out.trans HF2.out) | exact (HF1.out.trans HF2.out).alloc _ | exact ((HF1.out.trans HF2.out).alloc _).alloc _ | exact (((HF1.out.trans HF2.out).alloc _).alloc _).alloc _ | exact (HF1.out.trans HF2.out).drewN _ | exact ((HF1.out.trans HF2.out).alloc _).drewN _ | exact (((HF1.out.trans HF2.out).alloc _).alloc _).drewN _)⟩
set_option maxRecDepth 100000 in
set_option maxHeartbeats 2000000 in
theorem argument_len_r (n : Nd) (hx : n.kids.length ≠ 1) (hi : RowR n) (hn : (rowT n.kids).length ≤ 50000) : ArgR n := by
  intro w sl hsl
  rw [argT_len1 n hx]
  have HRn := hid hsl
  obtain ⟨A, cap, rfl⟩ := hsl.slice
  have ROWn := hid hi
  have HLEN := hid hn
  obtain ⟨i0, hi, hz0, hz1, hz2⟩ := info_parts infoRTok
  have d1 : ((n.kids.length : Int) == 1) = false := by simp only [beq_eq_false_iff_ne]; omega
  have d2 : ¬ (n.kids.length : Int) = 1 := by omega
  clear hi hsl hn
  go_enter Try.func87, Try.ntmps87
  go_wp2_with fail
  refine Calls.mono (ROWn.out _ _ (HRn.out.fresh (by first | exact (Touch.refl _ _) | exact (Touch.refl _ _).alloc _ | exact ((Touch.refl _ _).alloc _).alloc _ | exact (((Touch.refl _ _).alloc _).alloc _).alloc _ | exact (Touch.refl _ _).drewN _ | exact ((Touch.refl _ _).alloc _).drewN _ | exact (((Touch.refl _ _).alloc _).alloc _).drewN _))) ?_
  rintro _ w1 ⟨v1, rfl, how1, hfw1⟩
  have O1_w1 := hid (ownsRow_base (B' := w.heap.size) how1 (by first | exact Nat.le_refl _ | assumption | (simp only [World.size_alloc]; omega)))
  clear how1
  have HF1 := hid (show Fresh w w1 from by first | exact hfw1 | exact Touch.pre hfw1 | exact Touch.pre (Touch.pre hfw1) | exact Touch.ofN hfw1 | exact Touch.preN hfw1 | exact Touch.pre (Touch.pre (Touch.pre hfw1)))
  have B0_w1 : Blk w1 (w.heap.size) 24 #[.int .i64 n.kind, .string (⟨n.text.toArray⟩ : ByteArray), .int .i64 n.cols, .slice A n.kids.length cap] := Touch.blk hfw1 (by first | exact Blk.new _ _ _ | exact (Blk.new _ _ _).alloc _ | exact Blk.new2 _ _ _ _ | exact ((Blk.new _ _ _).alloc _).alloc _ | exact (Blk.new2 _ _ _ _).alloc _ | exact Blk.new3 _ _ _ _ _ | assumption | exact Blk.alloc (by assumption) _ | exact (Blk.alloc (Blk.alloc (by assumption) _) _)) (fun h => h)
  have q0_0_w1 : World.cell? w1 ⟨w.heap.size, 0, none⟩ = some (.int .i64 n.kind) := Blk.cell B0_w1 0
  have q0_1_w1 : World.cell? w1 ⟨w.heap.size, 1, none⟩ = some (.string (⟨n.text.toArray⟩ : ByteArray)) := Blk.cell B0_w1 1
  have q0_2_w1 : World.cell? w1 ⟨w.heap.size, 2, none⟩ = some (.int .i64 n.cols) := Blk.cell B0_w1 2
  have q0_3_w1 : World.cell? w1 ⟨w.heap.size, 3, none⟩ = some (.slice A n.kids.length cap) := Blk.cell B0_w1 3
  have hltb0_w1 : w.heap.size < w1.heap.size := Blk.lt B0_w1
  have hsz_w1 : w.heap.size ≤ w1.heap.size := Touch.size HF1.out
  clear hfw1
  go_wp2_with fail
  refine Calls.mono (rin_any [123] [125] ((rowT n.kids)) _ _ (Src.of_own O1_w1.out) (by have := HLEN.out; (try simp at this); (try simp); omega)) ?_
  rintro _ w2 ⟨v2, rfl, how2, hfw2⟩
  have O2_w2 := hid (ownsRow_base (B' := w.heap.size) how2 (by first | exact Nat.le_refl _ | assumption | (simp only [World.size_alloc]; omega)))
  clear how2
  have HF2 := hid (show Fresh w1 w2 from by first | exact hfw2 | exact Touch.pre hfw2 | exact Touch.pre (Touch.pre hfw2) | exact Touch.ofN hfw2 | exact Touch.preN hfw2 | exact Touch.pre (Touch.pre (Touch.pre hfw2)))
  have B0_w2 : Blk w2 (w.heap.size) 24 #[.int .i64 n.kind, .string (⟨n.text.toArray⟩ : ByteArray), .int .i64 n.cols, .slice A n.kids.length cap] := Touch.blk hfw2 (by first | exact Blk.new _ _ _ | exact (Blk.new _ _ _).alloc _ | exact Blk.new2 _ _ _ _ | exact ((Blk.new _ _ _).alloc _).alloc _ | exact (Blk.new2 _ _ _ _).alloc _ | exact Blk.new3 _ _ _ _ _ | assumption | exact Blk.alloc (by assumption) _ | exact (Blk.alloc (Blk.alloc (by assumption) _) _)) (fun h => h)
  clear q0_0_w1 q0_1_w1 q0_2_w1 q0_3_w1 B0_w1
  have q0_0_w2 : World.cell? w2 ⟨w.heap.size, 0, none⟩ = some (.int .i64 n.kind) := Blk.cell B0_w2 0
  have q0_1_w2 : World.cell? w2 ⟨w.heap.size, 1, none⟩ = some (.string (⟨n.text.toArray⟩ : ByteArray)) := Blk.cell B0_w2 1
  have q0_2_w2 : World.cell? w2 ⟨w.heap.size, 2, none⟩ = some (.int .i64 n.cols) := Blk.cell B0_w2 2
  have q0_3_w2 : World.cell? w2 ⟨w.heap.size, 3, none⟩ = some (.slice A n.kids.length cap) := Blk.cell B0_w2 3
  have hltb0_w2 : w.heap.size < w2.heap.size := Blk.lt B0_w2
  have hsz_w2 : w.heap.size ≤ w2.heap.size := Touch.size (HF1.out.trans HF2.out)
  clear hfw2
  go_wp2_with fail
  go_ret
  exact ⟨v2, rfl, ownCast (O2_w2.out) (by first | rfl | (simp only [List.append_assoc] <;> rfl) | (simp <;> rfl)), (by first | exact (HF1.out.trans HF2.out) | exact (HF1.out.trans HF2.out).alloc _ | exact ((HF1.out.trans HF2.out).alloc _).alloc _ | exact (((HF1.out.trans HF2.out).alloc _).alloc _).alloc _ | exact (HF1.out.trans HF2.out).drewN _ | exact ((HF1.out.trans HF2.out).alloc _).drewN _ | exact (((HF1.out.trans HF2.out).alloc _).alloc _).drewN _)⟩
theorem argument_r (n : Nd) (hr : RowR n) (hi : ∀ x ∈ n.kids, ItemR x) (hn : (rowT n.kids).length ≤ 50000) : ArgR n := by
  by_cases h1 : n.kids.length = 1
  · obtain ⟨x, hx⟩ := List.length_eq_one_iff.1 h1
    cases hl : Tr.leaf x with
    | true => exact argument_one_r n x hx hl (hi x (by simp [hx]))
    | false => exact argument_grp_r n x hx hl hr hn
  · exact argument_len_r n h1 hr hn

set_option maxRecDepth 100000 in
set_option maxHeartbeats 2000000 in
theorem base_one_r (n x : Nd) (hx : n.kids = [x]) (hl : Tr.scripted x = false) (hi : ItemR x) : BaseR n := by
  intro w sl hsl
  rw [baseT_row n x hx hl, itemT_row n x hx]
  rw [hx] at hsl
  obtain ⟨g, o, cap, sx, rfl, x0, x1, x2, x3, hrx⟩ := hsl.one
  obtain ⟨Ax, capx, rfl⟩ := hrx.slice
  have ITMx := hid hi
  have HRx := hid hrx
  clear hi hsl hrx
  have XX0 := hid x0
  have XX1 := hid x1
  have XX2 := hid x2
  have XX3 := hid x3
  clear x0 x1 x2 x3
  have xx0_w : World.cell? w ⟨g, o, none⟩ = some (.int .i64 x.kind) := XX0.out
  have xx1_w : World.cell? w ⟨g, o + 1, none⟩ = some (.string (⟨x.text.toArray⟩ : ByteArray)) := XX1.out
  have xx2_w : World.cell? w ⟨g, o + 2, none⟩ = some (.int .i64 x.cols) := XX2.out
  have xx3_w : World.cell? w ⟨g, o + 3, none⟩ = some (.slice Ax x.kids.length capx) := XX3.out
  have hlt_g_w : g < w.heap.size := block_lt_of_cell xx0_w
  go_enter Try.func128, Try.ntmps128
  go_wp2_with fail
  refine Calls.mono (rscript_any x (.slice Ax x.kids.length capx) _) ?_
  rintro _ w1 ⟨rfl, hfw1⟩
  have HF1 := hid (show Fresh w w1 from by first | exact hfw1 | exact Touch.pre hfw1 | exact Touch.pre (Touch.pre hfw1) | exact Touch.ofN hfw1 | exact Touch.preN hfw1 | exact Touch.pre (Touch.pre (Touch.pre hfw1)))
  have B0_w1 : Blk w1 (w.heap.size) 24 #[.int .i64 n.kind, .string (⟨n.text.toArray⟩ : ByteArray), .int .i64 n.cols, .slice (some ⟨g, o, none⟩) 1 cap] := Touch.blk hfw1 (by first | exact Blk.new _ _ _ | exact (Blk.new _ _ _).alloc _ | exact Blk.new2 _ _ _ _ | exact ((Blk.new _ _ _).alloc _).alloc _ | exact (Blk.new2 _ _ _ _).alloc _ | exact Blk.new3 _ _ _ _ _ | assumption | exact Blk.alloc (by assumption) _ | exact (Blk.alloc (Blk.alloc (by assumption) _) _)) (fun h => h)
  have q0_0_w1 : World.cell? w1 ⟨w.heap.size, 0, none⟩ = some (.int .i64 n.kind) := Blk.cell B0_w1 0
  have q0_1_w1 : World.cell? w1 ⟨w.heap.size, 1, none⟩ = some (.string (⟨n.text.toArray⟩ : ByteArray)) := Blk.cell B0_w1 1
  have q0_2_w1 : World.cell? w1 ⟨w.heap.size, 2, none⟩ = some (.int .i64 n.cols) := Blk.cell B0_w1 2
  have q0_3_w1 : World.cell? w1 ⟨w.heap.size, 3, none⟩ = some (.slice (some ⟨g, o, none⟩) 1 cap) := Blk.cell B0_w1 3
  have hltb0_w1 : w.heap.size < w1.heap.size := Blk.lt B0_w1
  have xx0_w1 : World.cell? w1 ⟨g, o, none⟩ = some (.int .i64 x.kind) := Touch.cell HF1.out xx0_w (fun h => h)
  have xx1_w1 : World.cell? w1 ⟨g, o + 1, none⟩ = some (.string (⟨x.text.toArray⟩ : ByteArray)) := Touch.cell HF1.out xx1_w (fun h => h)
  have xx2_w1 : World.cell? w1 ⟨g, o + 2, none⟩ = some (.int .i64 x.cols) := Touch.cell HF1.out xx2_w (fun h => h)
  have xx3_w1 : World.cell? w1 ⟨g, o + 3, none⟩ = some (.slice Ax x.kids.length capx) := Touch.cell HF1.out xx3_w (fun h => h)
  clear xx0_w xx1_w xx2_w xx3_w
  have hsz_w1 : w.heap.size ≤ w1.heap.size := Touch.size HF1.out
  clear hfw1
  go_wp2_with fail
  refine Calls.mono (ITMx.out _ _ (HRx.out.fresh (by first | exact HF1.out | exact HF1.out.alloc _ | exact (HF1.out.alloc _).alloc _ | exact ((HF1.out.alloc _).alloc _).alloc _ | exact HF1.out.drewN _ | exact (HF1.out.alloc _).drewN _ | exact ((HF1.out.alloc _).alloc _).drewN _))) ?_
  rintro _ w2 ⟨v1, rfl, how2, hfw2⟩
  have O1_w2 := hid (ownsRow_base (B' := w.heap.size) how2 (by first | exact Nat.le_refl _ | assumption | (simp only [World.size_alloc]; omega)))
  clear how2
  have HF2 := hid (show Fresh w1 w2 from by first | exact hfw2 | exact Touch.pre hfw2 | exact Touch.pre (Touch.pre hfw2) | exact Touch.ofN hfw2 | exact Touch.preN hfw2 | exact Touch.pre (Touch.pre (Touch.pre hfw2)))
  have B0_w2 : Blk w2 (w.heap.size) 24 #[.int .i64 n.kind, .string (⟨n.text.toArray⟩ : ByteArray), .int .i64 n.cols, .slice (some ⟨g, o, none⟩) 1 cap] := Touch.blk hfw2 (by first | exact Blk.new _ _ _ | exact (Blk.new _ _ _).alloc _ | exact Blk.new2 _ _ _ _ | exact ((Blk.new _ _ _).alloc _).alloc _ | exact (Blk.new2 _ _ _ _).alloc _ | exact Blk.new3 _ _ _ _ _ | assumption | exact Blk.alloc (by assumption) _ | exact (Blk.alloc (Blk.alloc (by assumption) _) _)) (fun h => h)
  clear q0_0_w1 q0_1_w1 q0_2_w1 q0_3_w1 B0_w1
  have q0_0_w2 : World.cell? w2 ⟨w.heap.size, 0, none⟩ = some (.int .i64 n.kind) := Blk.cell B0_w2 0
  have q0_1_w2 : World.cell? w2 ⟨w.heap.size, 1, none⟩ = some (.string (⟨n.text.toArray⟩ : ByteArray)) := Blk.cell B0_w2 1
  have q0_2_w2 : World.cell? w2 ⟨w.heap.size, 2, none⟩ = some (.int .i64 n.cols) := Blk.cell B0_w2 2
  have q0_3_w2 : World.cell? w2 ⟨w.heap.size, 3, none⟩ = some (.slice (some ⟨g, o, none⟩) 1 cap) := Blk.cell B0_w2 3
  have hltb0_w2 : w.heap.size < w2.heap.size := Blk.lt B0_w2
  have xx0_w2 : World.cell? w2 ⟨g, o, none⟩ = some (.int .i64 x.kind) := Touch.cell HF2.out xx0_w1 (fun h => h)
  have xx1_w2 : World.cell? w2 ⟨g, o + 1, none⟩ = some (.string (⟨x.text.toArray⟩ : ByteArray)) := Touch.cell HF2.out xx1_w1 (fun h => h)
  have xx2_w2 : World.cell? w2 ⟨g, o + 2, none⟩ = some (.int .i64 x.cols) := Touch.cell HF2.out xx2_w1 (fun h => h)
  have xx3_w2 : World.cell? w2 ⟨g, o + 3, none⟩ = some (.slice Ax x.kids.length capx) := Touch.cell HF2.out xx3_w1 (fun h => h)
  clear xx0_w1 xx1_w1 xx2_w1 xx3_w1
  have hsz_w2 : w.heap.size ≤ w2.heap.size := Touch.size (HF1.out.trans HF2.out)
  clear hfw2
  go_wp2_with fail
  go_ret
  exact ⟨v1, rfl, ownCast (O1_w2.out) (by first | rfl | (simp only [List.append_assoc] <;> rfl) | (simp <;> rfl)), (by first | exact (HF1.out.trans HF2.out) | exact (HF1.out.trans HF2.out).alloc _ | exact ((HF1.out.trans HF2.out).alloc _).alloc _ | exact (((HF1.out.trans HF2.out).alloc _).alloc _).alloc _ | exact (HF1.out.trans HF2.out).drewN _ | exact ((HF1.out.trans HF2.out).alloc _).drewN _ | exact (((HF1.out.trans HF2.out).alloc _).alloc _).drewN _)⟩
set_option maxRecDepth 100000 in
set_option maxHeartbeats 2000000 in
theorem base_grp_r (n x : Nd) (hx : n.kids = [x]) (hl : Tr.scripted x = true) (hi : RowR n) (hn : (rowT n.kids).length ≤ 50000) : BaseR n := by
  intro w sl hsl
  rw [baseT_grp n x hx hl]
  have HRn := hid hsl
  rw [hx] at hsl
  obtain ⟨g, o, cap, sx, rfl, x0, x1, x2, x3, hrx⟩ := hsl.one
  obtain ⟨Ax, capx, rfl⟩ := hrx.slice
  have ROWn := hid hi
  have HLEN := hid hn
  obtain ⟨i0, hi, hz0, hz1, hz2⟩ := info_parts infoRTok
  clear hi hsl hrx hn
  have XX0 := hid x0
  have XX1 := hid x1
  have XX2 := hid x2
  have XX3 := hid x3
  clear x0 x1 x2 x3
  have xx0_w : World.cell? w ⟨g, o, none⟩ = some (.int .i64 x.kind) := XX0.out
  have xx1_w : World.cell? w ⟨g, o + 1, none⟩ = some (.string (⟨x.text.toArray⟩ : ByteArray)) := XX1.out
  have xx2_w : World.cell? w ⟨g, o + 2, none⟩ = some (.int .i64 x.cols) := XX2.out
  have xx3_w : World.cell? w ⟨g, o + 3, none⟩ = some (.slice Ax x.kids.length capx) := XX3.out
  have hlt_g_w : g < w.heap.size := block_lt_of_cell xx0_w
  go_enter Try.func128, Try.ntmps128
  go_wp2_with fail
  refine Calls.mono (rscript_any x (.slice Ax x.kids.length capx) _) ?_
  rintro _ w1 ⟨rfl, hfw1⟩
  have HF1 := hid (show Fresh w w1 from by first | exact hfw1 | exact Touch.pre hfw1 | exact Touch.pre (Touch.pre hfw1) | exact Touch.ofN hfw1 | exact Touch.preN hfw1 | exact Touch.pre (Touch.pre (Touch.pre hfw1)))
  have B0_w1 : Blk w1 (w.heap.size) 24 #[.int .i64 n.kind, .string (⟨n.text.toArray⟩ : ByteArray), .int .i64 n.cols, .slice (some ⟨g, o, none⟩) 1 cap] := Touch.blk hfw1 (by first | exact Blk.new _ _ _ | exact (Blk.new _ _ _).alloc _ | exact Blk.new2 _ _ _ _ | exact ((Blk.new _ _ _).alloc _).alloc _ | exact (Blk.new2 _ _ _ _).alloc _ | exact Blk.new3 _ _ _ _ _ | assumption | exact Blk.alloc (by assumption) _ | exact (Blk.alloc (Blk.alloc (by assumption) _) _)) (fun h => h)
  have q0_0_w1 : World.cell? w1 ⟨w.heap.size, 0, none⟩ = some (.int .i64 n.kind) := Blk.cell B0_w1 0
  have q0_1_w1 : World.cell? w1 ⟨w.heap.size, 1, none⟩ = some (.string (⟨n.text.toArray⟩ : ByteArray)) := Blk.cell B0_w1 1
  have q0_2_w1 : World.cell? w1 ⟨w.heap.size, 2, none⟩ = some (.int .i64 n.cols) := Blk.cell B0_w1 2
  have q0_3_w1 : World.cell? w1 ⟨w.heap.size, 3, none⟩ = some (.slice (some ⟨g, o, none⟩) 1 cap) := Blk.cell B0_w1 3
  have hltb0_w1 : w.heap.size < w1.heap.size := Blk.lt B0_w1
  have xx0_w1 : World.cell? w1 ⟨g, o, none⟩ = some (.int .i64 x.kind) := Touch.cell HF1.out xx0_w (fun h => h)
  have xx1_w1 : World.cell? w1 ⟨g, o + 1, none⟩ = some (.string (⟨x.text.toArray⟩ : ByteArray)) := Touch.cell HF1.out xx1_w (fun h => h)
  have xx2_w1 : World.cell? w1 ⟨g, o + 2, none⟩ = some (.int .i64 x.cols) := Touch.cell HF1.out xx2_w (fun h => h)
  have xx3_w1 : World.cell? w1 ⟨g, o + 3, none⟩ = some (.slice Ax x.kids.length capx) := Touch.cell HF1.out xx3_w (fun h => h)
  clear xx0_w xx1_w xx2_w xx3_w
  have hsz_w1 : w.heap.size ≤ w1.heap.size := Touch.size HF1.out
  clear hfw1
  go_wp2_with fail
  refine Calls.mono (ROWn.out _ _ (HRn.out.fresh (by first | exact HF1.out | exact HF1.out.alloc _ | exact (HF1.out.alloc _).alloc _ | exact ((HF1.out.alloc _).alloc _).alloc _ | exact HF1.out.drewN _ | exact (HF1.out.alloc _).drewN _ | exact ((HF1.out.alloc _).alloc _).drewN _))) ?_
  rintro _ w2 ⟨v1, rfl, how2, hfw2⟩
  have O1_w2 := hid (ownsRow_base (B' := w.heap.size) how2 (by first | exact Nat.le_refl _ | assumption | (simp only [World.size_alloc]; omega)))
  clear how2
  have HF2 := hid (show Fresh w1 w2 from by first | exact hfw2 | exact Touch.pre hfw2 | exact Touch.pre (Touch.pre hfw2) | exact Touch.ofN hfw2 | exact Touch.preN hfw2 | exact Touch.pre (Touch.pre (Touch.pre hfw2)))
  have B0_w2 : Blk w2 (w.heap.size) 24 #[.int .i64 n.kind, .string (⟨n.text.toArray⟩ : ByteArray), .int .i64 n.cols, .slice (some ⟨g, o, none⟩) 1 cap] := Touch.blk hfw2 (by first | exact Blk.new _ _ _ | exact (Blk.new _ _ _).alloc _ | exact Blk.new2 _ _ _ _ | exact ((Blk.new _ _ _).alloc _).alloc _ | exact (Blk.new2 _ _ _ _).alloc _ | exact Blk.new3 _ _ _ _ _ | assumption | exact Blk.alloc (by assumption) _ | exact (Blk.alloc (Blk.alloc (by assumption) _) _)) (fun h => h)
  clear q0_0_w1 q0_1_w1 q0_2_w1 q0_3_w1 B0_w1
  have q0_0_w2 : World.cell? w2 ⟨w.heap.size, 0, none⟩ = some (.int .i64 n.kind) := Blk.cell B0_w2 0
  have q0_1_w2 : World.cell? w2 ⟨w.heap.size, 1, none⟩ = some (.string (⟨n.text.toArray⟩ : ByteArray)) := Blk.cell B0_w2 1
  have q0_2_w2 : World.cell? w2 ⟨w.heap.size, 2, none⟩ = some (.int .i64 n.cols) := Blk.cell B0_w2 2
  have q0_3_w2 : World.cell? w2 ⟨w.heap.size, 3, none⟩ = some (.slice (some ⟨g, o, none⟩) 1 cap) := Blk.cell B0_w2 3
  have hltb0_w2 : w.heap.size < w2.heap.size := Blk.lt B0_w2
  have xx0_w2 : World.cell? w2 ⟨g, o, none⟩ = some (.int .i64 x.kind) := Touch.cell HF2.out xx0_w1 (fun h => h)
  have xx1_w2 : World.cell? w2 ⟨g, o + 1, none⟩ = some (.string (⟨x.text.toArray⟩ : ByteArray)) := Touch.cell HF2.out xx1_w1 (fun h => h)
  have xx2_w2 : World.cell? w2 ⟨g, o + 2, none⟩ = some (.int .i64 x.cols) := Touch.cell HF2.out xx2_w1 (fun h => h)
  have xx3_w2 : World.cell? w2 ⟨g, o + 3, none⟩ = some (.slice Ax x.kids.length capx) := Touch.cell HF2.out xx3_w1 (fun h => h)
  clear xx0_w1 xx1_w1 xx2_w1 xx3_w1
  have hsz_w2 : w.heap.size ≤ w2.heap.size := Touch.size (HF1.out.trans HF2.out)
  clear hfw2
  go_wp2_with fail
  refine Calls.mono (rin_any [123] [125] ((rowT n.kids)) _ _ (Src.of_own O1_w2.out) (by have := HLEN.out; (try simp at this); (try simp); omega)) ?_
  rintro _ w3 ⟨v2, rfl, how3, hfw3⟩
  have O2_w3 := hid (ownsRow_base (B' := w.heap.size) how3 (by first | exact Nat.le_refl _ | assumption | (simp only [World.size_alloc]; omega)))
  clear how3
  have HF3 := hid (show Fresh w2 w3 from by first | exact hfw3 | exact Touch.pre hfw3 | exact Touch.pre (Touch.pre hfw3) | exact Touch.ofN hfw3 | exact Touch.preN hfw3 | exact Touch.pre (Touch.pre (Touch.pre hfw3)))
  have B0_w3 : Blk w3 (w.heap.size) 24 #[.int .i64 n.kind, .string (⟨n.text.toArray⟩ : ByteArray), .int .i64 n.cols, .slice (some ⟨g, o, none⟩) 1 cap] := Touch.blk hfw3 (by first | exact Blk.new _ _ _ | exact (Blk.new _ _ _).alloc _ | exact Blk.new2 _ _ _ _ | exact ((Blk.new _ _ _).alloc _).alloc _ | exact (Blk.new2 _ _ _ _).alloc _ | exact Blk.new3 _ _ _ _ _ | assumption | exact Blk.alloc (by assumption) _ | exact (Blk.alloc (Blk.alloc (by assumption) _) _)) (fun h => h)
  clear q0_0_w2 q0_1_w2 q0_2_w2 q0_3_w2 B0_w2
  have q0_0_w3 : World.cell? w3 ⟨w.heap.size, 0, none⟩ = some (.int .i64 n.kind) := Blk.cell B0_w3 0
  have q0_1_w3 : World.cell? w3 ⟨w.heap.size, 1, none⟩ = some (.string (⟨n.text.toArray⟩ : ByteArray)) := Blk.cell B0_w3 1
  have q0_2_w3 : World.cell? w3 ⟨w.heap.size, 2, none⟩ = some (.int .i64 n.cols) := Blk.cell B0_w3 2
  have q0_3_w3 : World.cell? w3 ⟨w.heap.size, 3, none⟩ = some (.slice (some ⟨g, o, none⟩) 1 cap) := Blk.cell B0_w3 3
  have hltb0_w3 : w.heap.size < w3.heap.size := Blk.lt B0_w3
  have xx0_w3 : World.cell? w3 ⟨g, o, none⟩ = some (.int .i64 x.kind) := Touch.cell HF3.out xx0_w2 (fun h => h)
  have xx1_w3 : World.cell? w3 ⟨g, o + 1, none⟩ = some (.string (⟨x.text.toArray⟩ : ByteArray)) := Touch.cell HF3.out xx1_w2 (fun h => h)
  have xx2_w3 : World.cell? w3 ⟨g, o + 2, none⟩ = some (.int .i64 x.cols) := Touch.cell HF3.out xx2_w2 (fun h => h)
  have xx3_w3 : World.cell? w3 ⟨g, o + 3, none⟩ = some (.slice Ax x.kids.length capx) := Touch.cell HF3.out xx3_w2 (fun h => h)
  clear xx0_w2 xx1_w2 xx2_w2 xx3_w2
  have hsz_w3 : w.heap.size ≤ w3.heap.size := Touch.size ((HF1.out.trans HF2.out).trans HF3.out)
  clear hfw3
  go_wp2_with fail
  go_ret
  exact ⟨v2, rfl, ownCast (O2_w3.out) (by first | rfl | (simp only [List.append_assoc] <;> rfl) | (simp <;> rfl)), (by first | exact (HF1.out.trans (HF2.out.trans HF3.out)) | exact (HF1.out.trans (HF2.out.trans HF3.out)).alloc _ | exact ((HF1.out.trans (HF2.out.trans HF3.out)).alloc _).alloc _ | exact (((HF1.out.trans (HF2.out.trans HF3.out)).alloc _).alloc _).alloc _ | exact (HF1.out.trans (HF2.out.trans HF3.out)).drewN _ | exact ((HF1.out.trans (HF2.out.trans HF3.out)).alloc _).drewN _ | exact (((HF1.out.trans (HF2.out.trans HF3.out)).alloc _).alloc _).drewN _)⟩
set_option maxRecDepth 100000 in
set_option maxHeartbeats 2000000 in
theorem base_len_r (n : Nd) (hx : n.kids.length ≠ 1) (hi : RowR n) (hn : (rowT n.kids).length ≤ 50000) : BaseR n := by
  intro w sl hsl
  rw [baseT_len1 n hx]
  have HRn := hid hsl
  obtain ⟨A, cap, rfl⟩ := hsl.slice
  have ROWn := hid hi
  have HLEN := hid hn
  obtain ⟨i0, hi, hz0, hz1, hz2⟩ := info_parts infoRTok
  have d1 : ((n.kids.length : Int) == 1) = false := by simp only [beq_eq_false_iff_ne]; omega
  have d2 : ¬ (n.kids.length : Int) = 1 := by omega
  clear hi hsl hn
  go_enter Try.func128, Try.ntmps128
  go_wp2_with fail
  refine Calls.mono (ROWn.out _ _ (HRn.out.fresh (by first | exact (Touch.refl _ _) | exact (Touch.refl _ _).alloc _ | exact ((Touch.refl _ _).alloc _).alloc _ | exact (((Touch.refl _ _).alloc _).alloc _).alloc _ | exact (Touch.refl _ _).drewN _ | exact ((Touch.refl _ _).alloc _).drewN _ | exact (((Touch.refl _ _).alloc _).alloc _).drewN _))) ?_
  rintro _ w1 ⟨v1, rfl, how1, hfw1⟩
  have O1_w1 := hid (ownsRow_base (B' := w.heap.size) how1 (by first | exact Nat.le_refl _ | assumption | (simp only [World.size_alloc]; omega)))
  clear how1
  have HF1 := hid (show Fresh w w1 from by first | exact hfw1 | exact Touch.pre hfw1 | exact Touch.pre (Touch.pre hfw1) | exact Touch.ofN hfw1 | exact Touch.preN hfw1 | exact Touch.pre (Touch.pre (Touch.pre hfw1)))
  have B0_w1 : Blk w1 (w.heap.size) 24 #[.int .i64 n.kind, .string (⟨n.text.toArray⟩ : ByteArray), .int .i64 n.cols, .slice A n.kids.length cap] := Touch.blk hfw1 (by first | exact Blk.new _ _ _ | exact (Blk.new _ _ _).alloc _ | exact Blk.new2 _ _ _ _ | exact ((Blk.new _ _ _).alloc _).alloc _ | exact (Blk.new2 _ _ _ _).alloc _ | exact Blk.new3 _ _ _ _ _ | assumption | exact Blk.alloc (by assumption) _ | exact (Blk.alloc (Blk.alloc (by assumption) _) _)) (fun h => h)
  have q0_0_w1 : World.cell? w1 ⟨w.heap.size, 0, none⟩ = some (.int .i64 n.kind) := Blk.cell B0_w1 0
  have q0_1_w1 : World.cell? w1 ⟨w.heap.size, 1, none⟩ = some (.string (⟨n.text.toArray⟩ : ByteArray)) := Blk.cell B0_w1 1
  have q0_2_w1 : World.cell? w1 ⟨w.heap.size, 2, none⟩ = some (.int .i64 n.cols) := Blk.cell B0_w1 2
  have q0_3_w1 : World.cell? w1 ⟨w.heap.size, 3, none⟩ = some (.slice A n.kids.length cap) := Blk.cell B0_w1 3
  have hltb0_w1 : w.heap.size < w1.heap.size := Blk.lt B0_w1
  have hsz_w1 : w.heap.size ≤ w1.heap.size := Touch.size HF1.out
  clear hfw1
  go_wp2_with fail
  refine Calls.mono (rin_any [123] [125] ((rowT n.kids)) _ _ (Src.of_own O1_w1.out) (by have := HLEN.out; (try simp at this); (try simp); omega)) ?_
  rintro _ w2 ⟨v2, rfl, how2, hfw2⟩
  have O2_w2 := hid (ownsRow_base (B' := w.heap.size) how2 (by first | exact Nat.le_refl _ | assumption | (simp only [World.size_alloc]; omega)))
  clear how2
  have HF2 := hid (show Fresh w1 w2 from by first | exact hfw2 | exact Touch.pre hfw2 | exact Touch.pre (Touch.pre hfw2) | exact Touch.ofN hfw2 | exact Touch.preN hfw2 | exact Touch.pre (Touch.pre (Touch.pre hfw2)))
  have B0_w2 : Blk w2 (w.heap.size) 24 #[.int .i64 n.kind, .string (⟨n.text.toArray⟩ : ByteArray), .int .i64 n.cols, .slice A n.kids.length cap] := Touch.blk hfw2 (by first | exact Blk.new _ _ _ | exact (Blk.new _ _ _).alloc _ | exact Blk.new2 _ _ _ _ | exact ((Blk.new _ _ _).alloc _).alloc _ | exact (Blk.new2 _ _ _ _).alloc _ | exact Blk.new3 _ _ _ _ _ | assumption | exact Blk.alloc (by assumption) _ | exact (Blk.alloc (Blk.alloc (by assumption) _) _)) (fun h => h)
  clear q0_0_w1 q0_1_w1 q0_2_w1 q0_3_w1 B0_w1
  have q0_0_w2 : World.cell? w2 ⟨w.heap.size, 0, none⟩ = some (.int .i64 n.kind) := Blk.cell B0_w2 0
  have q0_1_w2 : World.cell? w2 ⟨w.heap.size, 1, none⟩ = some (.string (⟨n.text.toArray⟩ : ByteArray)) := Blk.cell B0_w2 1
  have q0_2_w2 : World.cell? w2 ⟨w.heap.size, 2, none⟩ = some (.int .i64 n.cols) := Blk.cell B0_w2 2
  have q0_3_w2 : World.cell? w2 ⟨w.heap.size, 3, none⟩ = some (.slice A n.kids.length cap) := Blk.cell B0_w2 3
  have hltb0_w2 : w.heap.size < w2.heap.size := Blk.lt B0_w2
  have hsz_w2 : w.heap.size ≤ w2.heap.size := Touch.size (HF1.out.trans HF2.out)
  clear hfw2
  go_wp2_with fail
  go_ret
  exact ⟨v2, rfl, ownCast (O2_w2.out) (by first | rfl | (simp only [List.append_assoc] <;> rfl) | (simp <;> rfl)), (by first | exact (HF1.out.trans HF2.out) | exact (HF1.out.trans HF2.out).alloc _ | exact ((HF1.out.trans HF2.out).alloc _).alloc _ | exact (((HF1.out.trans HF2.out).alloc _).alloc _).alloc _ | exact (HF1.out.trans HF2.out).drewN _ | exact ((HF1.out.trans HF2.out).alloc _).drewN _ | exact (((HF1.out.trans HF2.out).alloc _).alloc _).drewN _)⟩
theorem base_r (n : Nd) (hr : RowR n) (hi : ∀ x ∈ n.kids, ItemR x) (hn : (rowT n.kids).length ≤ 50000) : BaseR n := by
  by_cases h1 : n.kids.length = 1
  · obtain ⟨x, hx⟩ := List.length_eq_one_iff.1 h1
    cases hl : Tr.scripted x with
    | false => exact base_one_r n x hx hl (hi x (by simp [hx]))
    | true => exact base_grp_r n x hx hl hr hn
  · exact base_len_r n h1 hr hn

end Go.Proofs.Ytilgpmpiidccjaa
