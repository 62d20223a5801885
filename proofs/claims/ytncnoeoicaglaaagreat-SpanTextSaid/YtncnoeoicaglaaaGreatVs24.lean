/- Part 24 of 42 of a proof; its texts, joined: PrQ, PrS, PrN, PrT. No condition. -/
import Derived.Test.YtncnoeoicaglaaaGreatVs23
import Derived.Test.YtncnoeoicaglaaaGreatVs20
import Derived.Test.YtncnoeoicaglaaaGreatVs22
set_option maxRecDepth 100000
set_option maxHeartbeats 4000000
namespace Go.Proofs.YtncnoeoicaglaaaGreat
open Go.RowKit
open Tr (Nd argT baseT rowT itemT)
theorem fence_round (W0 : World) (p B : Nat) (kd cl : Value) (a : Nd) (ha : RowE W0 p B a) (sl : Value) (hsl : RepL W0 [a] sl) : Emits 97 #[pp p, .agg #[kd, .string ⟨#[40, 41]⟩, cl, sl]] W0 p B ([Tr.mk7 40] ++ (rowT a.kids ++ [Tr.mk7 41])) := by
 intro w toks txt hp hf;obtain ⟨g, o, cap, sa, rfl, a0, a1, a2, a3, hra⟩ := hsl.one;have ROWa := hid (ha sa hra);have PST0 := hid hp;have FIT0 := hid hf;clear hp hf ha hsl hra;have e1 : (⟨#[40, 41]⟩ : ByteArray).extract 0 1 = ⟨#[40]⟩ := by decide
 have e2 : (⟨#[40, 41]⟩ : ByteArray).extract 1 2 = ⟨#[41]⟩ := by decide
 have e3 : (⟨#[40, 41]⟩ : ByteArray).toList = [40, 41] := by rw [ByteArray.toList_eq]
 have e4 : (⟨#[40, 41]⟩ : ByteArray).size = 2 := rfl;have XA0 := hid a0;have XA1 := hid a1;have XA2 := hid a2;have XA3 := hid a3;clear a0 a1 a2 a3;obtain ⟨xa0_w, xa1_w, xa2_w, xa3_w⟩ := low4 (PSt.low PST0.out) XA0.out XA1.out XA2.out XA3.out;have hlt_g_w : g < w.heap.size := bL xa0_w;go_enter Tryz.func97, Tryz.ntmps97;go_wp2_with fail
 refine Calls.mono ((mark_em W0 p B [40]) _ _ _ (PSt.fresh PST0.out frR) FIT0.out.left) ?_;rintro _ w1 ⟨rfl, htw1⟩;have PSTw1 := hid (PSt.add (PSt.fresh PST0.out frR) htw1);have ACCw1 := hid (PrAdd.freshL (show Fresh w _ from frR) htw1);have FITw1 := hid (Fits.right FIT0.out);have B0_w1 : Blk w1 (w.heap.size) 26 #[kd, .string (⟨#[40, 41]⟩ : ByteArray), cl, .slice (some ⟨g, o, none⟩) 1 cap] := PrAdd.bk htw1 (by first | exact blkN | assumption | exact blkA (by assumption)) PST0.out (by omega);obtain ⟨q0_0_w1, q0_1_w1, q0_2_w1, q0_3_w1, _⟩ := Blk.four B0_w1;clear xa0_w xa1_w xa2_w xa3_w;obtain ⟨xa0_w1, xa1_w1, xa2_w1, xa3_w1⟩ := low4 (PSt.low PSTw1.out) XA0.out XA1.out XA2.out XA3.out;have hlt_g_w1 : g < w1.heap.size := bL xa0_w1;clear htw1;go_wp2_with fail
 refine Calls.mono ((ROWa.out) _ _ _ (PSt.fresh PSTw1.out frR) FITw1.out.left) ?_;rintro _ w2 ⟨rfl, htw2⟩;have PSTw2 := hid (PSt.add2 (PSt.fresh PSTw1.out frR) htw2);have ACCw2 := hid (PrAdd.app ACCw1.out (PrAdd.freshL (show Fresh w1 _ from frR) htw2));have FITw2 := hid (Fits.right2 FITw1.out);have B0_w2 : Blk w2 (w.heap.size) 26 #[kd, .string (⟨#[40, 41]⟩ : ByteArray), cl, .slice (some ⟨g, o, none⟩) 1 cap] := PrAdd.bk htw2 (by first | exact blkN | assumption | exact blkA (by assumption)) PST0.out (by omega);clear q0_0_w1 q0_1_w1 q0_2_w1 q0_3_w1 B0_w1;obtain ⟨q0_0_w2, q0_1_w2, q0_2_w2, q0_3_w2, _⟩ := Blk.four B0_w2;clear xa0_w1 xa1_w1 xa2_w1 xa3_w1;obtain ⟨xa0_w2, xa1_w2, xa2_w2, xa3_w2⟩ := low4 (PSt.low PSTw2.out) XA0.out XA1.out XA2.out XA3.out;have hlt_g_w2 : g < w2.heap.size := bL xa0_w2;clear htw2;go_wp2_with fail
 refine Calls.mono ((mark_em W0 p B [41]) _ _ _ (PSt.fresh PSTw2.out frR) FITw2.out) ?_;rintro _ w3 ⟨rfl, htw3⟩;have PSTw3 := hid (PSt.add2 (PSt.fresh PSTw2.out frR) htw3);have ACCw3 := hid (PrAdd.app ACCw2.out (PrAdd.freshL (show Fresh w2 _ from frR) htw3));have B0_w3 : Blk w3 (w.heap.size) 26 #[kd, .string (⟨#[40, 41]⟩ : ByteArray), cl, .slice (some ⟨g, o, none⟩) 1 cap] := PrAdd.bk htw3 (by first | exact blkN | assumption | exact blkA (by assumption)) PST0.out (by omega);clear q0_0_w2 q0_1_w2 q0_2_w2 q0_3_w2 B0_w2;obtain ⟨q0_0_w3, q0_1_w3, q0_2_w3, q0_3_w3, _⟩ := Blk.four B0_w3;clear xa0_w2 xa1_w2 xa2_w2 xa3_w2;obtain ⟨xa0_w3, xa1_w3, xa2_w3, xa3_w3⟩ := low4 (PSt.low PSTw3.out) XA0.out XA1.out XA2.out XA3.out;have hlt_g_w3 : g < w3.heap.size := bL xa0_w3;clear htw3;go_wp2_with fail
 first | go_end0 | refine bodyPost_ret (v := .tuple #[]) (results_none rfl _ _ _) rfl ?_
 exact ⟨rfl, PrAdd.cast ACCw3.out (by first | rfl | (simp only [List.append_assoc] <;> rfl))⟩
theorem fence_square (W0 : World) (p B : Nat) (kd cl : Value) (a : Nd) (ha : RowE W0 p B a) (sl : Value) (hsl : RepL W0 [a] sl) : Emits 97 #[pp p, .agg #[kd, .string ⟨#[91, 93]⟩, cl, sl]] W0 p B ([Tr.mk7 91] ++ (rowT a.kids ++ [Tr.mk7 93])) := by
 intro w toks txt hp hf;obtain ⟨g, o, cap, sa, rfl, a0, a1, a2, a3, hra⟩ := hsl.one;have ROWa := hid (ha sa hra);have PST0 := hid hp;have FIT0 := hid hf;clear hp hf ha hsl hra;have e1 : (⟨#[91, 93]⟩ : ByteArray).extract 0 1 = ⟨#[91]⟩ := by decide
 have e2 : (⟨#[91, 93]⟩ : ByteArray).extract 1 2 = ⟨#[93]⟩ := by decide
 have e3 : (⟨#[91, 93]⟩ : ByteArray).toList = [91, 93] := by rw [ByteArray.toList_eq]
 have e4 : (⟨#[91, 93]⟩ : ByteArray).size = 2 := rfl;have XA0 := hid a0;have XA1 := hid a1;have XA2 := hid a2;have XA3 := hid a3;clear a0 a1 a2 a3;obtain ⟨xa0_w, xa1_w, xa2_w, xa3_w⟩ := low4 (PSt.low PST0.out) XA0.out XA1.out XA2.out XA3.out;have hlt_g_w : g < w.heap.size := bL xa0_w;go_enter Tryz.func97, Tryz.ntmps97;go_wp2_with fail
 refine Calls.mono ((mark_em W0 p B [91]) _ _ _ (PSt.fresh PST0.out frR) FIT0.out.left) ?_;rintro _ w1 ⟨rfl, htw1⟩;have PSTw1 := hid (PSt.add (PSt.fresh PST0.out frR) htw1);have ACCw1 := hid (PrAdd.freshL (show Fresh w _ from frR) htw1);have FITw1 := hid (Fits.right FIT0.out);have B0_w1 : Blk w1 (w.heap.size) 26 #[kd, .string (⟨#[91, 93]⟩ : ByteArray), cl, .slice (some ⟨g, o, none⟩) 1 cap] := PrAdd.bk htw1 (by first | exact blkN | assumption | exact blkA (by assumption)) PST0.out (by omega);obtain ⟨q0_0_w1, q0_1_w1, q0_2_w1, q0_3_w1, _⟩ := Blk.four B0_w1;clear xa0_w xa1_w xa2_w xa3_w;obtain ⟨xa0_w1, xa1_w1, xa2_w1, xa3_w1⟩ := low4 (PSt.low PSTw1.out) XA0.out XA1.out XA2.out XA3.out;have hlt_g_w1 : g < w1.heap.size := bL xa0_w1;clear htw1;go_wp2_with fail
 refine Calls.mono ((ROWa.out) _ _ _ (PSt.fresh PSTw1.out frR) FITw1.out.left) ?_;rintro _ w2 ⟨rfl, htw2⟩;have PSTw2 := hid (PSt.add2 (PSt.fresh PSTw1.out frR) htw2);have ACCw2 := hid (PrAdd.app ACCw1.out (PrAdd.freshL (show Fresh w1 _ from frR) htw2));have FITw2 := hid (Fits.right2 FITw1.out);have B0_w2 : Blk w2 (w.heap.size) 26 #[kd, .string (⟨#[91, 93]⟩ : ByteArray), cl, .slice (some ⟨g, o, none⟩) 1 cap] := PrAdd.bk htw2 (by first | exact blkN | assumption | exact blkA (by assumption)) PST0.out (by omega);clear q0_0_w1 q0_1_w1 q0_2_w1 q0_3_w1 B0_w1;obtain ⟨q0_0_w2, q0_1_w2, q0_2_w2, q0_3_w2, _⟩ := Blk.four B0_w2;clear xa0_w1 xa1_w1 xa2_w1 xa3_w1;obtain ⟨xa0_w2, xa1_w2, xa2_w2, xa3_w2⟩ := low4 (PSt.low PSTw2.out) XA0.out XA1.out XA2.out XA3.out;have hlt_g_w2 : g < w2.heap.size := bL xa0_w2;clear htw2;go_wp2_with fail
 refine Calls.mono ((mark_em W0 p B [93]) _ _ _ (PSt.fresh PSTw2.out frR) FITw2.out) ?_;rintro _ w3 ⟨rfl, htw3⟩;have PSTw3 := hid (PSt.add2 (PSt.fresh PSTw2.out frR) htw3);have ACCw3 := hid (PrAdd.app ACCw2.out (PrAdd.freshL (show Fresh w2 _ from frR) htw3));have B0_w3 : Blk w3 (w.heap.size) 26 #[kd, .string (⟨#[91, 93]⟩ : ByteArray), cl, .slice (some ⟨g, o, none⟩) 1 cap] := PrAdd.bk htw3 (by first | exact blkN | assumption | exact blkA (by assumption)) PST0.out (by omega);clear q0_0_w2 q0_1_w2 q0_2_w2 q0_3_w2 B0_w2;obtain ⟨q0_0_w3, q0_1_w3, q0_2_w3, q0_3_w3, _⟩ := Blk.four B0_w3;clear xa0_w2 xa1_w2 xa2_w2 xa3_w2;obtain ⟨xa0_w3, xa1_w3, xa2_w3, xa3_w3⟩ := low4 (PSt.low PSTw3.out) XA0.out XA1.out XA2.out XA3.out;have hlt_g_w3 : g < w3.heap.size := bL xa0_w3;clear htw3;go_wp2_with fail
 first | go_end0 | refine bodyPost_ret (v := .tuple #[]) (results_none rfl _ _ _) rfl ?_
 exact ⟨rfl, PrAdd.cast ACCw3.out (by first | rfl | (simp only [List.append_assoc] <;> rfl))⟩
theorem fence_other (W0 : World) (p B : Nat) (kd cl : Value) (t : List UInt8) (h1 : t ≠ [40, 41]) (h2 : t ≠ [91, 93]) (a : Nd) (ha : ArgE W0 p B a) (sl : Value) (hsl : RepL W0 [a] sl) : Emits 97 #[pp p, .agg #[kd, .string ⟨t.toArray⟩, cl, sl]] W0 p B ([⟨5, t⟩] ++ argT a) := by
 intro w toks txt hp hf;obtain ⟨g, o, cap, sa, rfl, a0, a1, a2, a3, hra⟩ := hsl.one;have ARGa := hid (ha sa hra);have PST0 := hid hp;have FIT0 := hid hf;clear hp hf ha hsl hra;have t1 : (ByteArray.toList ⟨t.toArray⟩ == [40, 41]) = false := by rw [ByteArray.toList_eq]; simpa using h1
 have t2 : (ByteArray.toList ⟨t.toArray⟩ == [91, 93]) = false := by rw [ByteArray.toList_eq]; simpa using h2
 have s1 : ((⟨t.toArray⟩ : ByteArray) == (⟨#[40, 41]⟩ : ByteArray)) = false := by rw [str_eq']; simpa using h1
 have s2 : ((⟨t.toArray⟩ : ByteArray) == (⟨#[91, 93]⟩ : ByteArray)) = false := by rw [str_eq']; simpa using h2
 have u1 : (t == [40, 41]) = false := by simpa using h1
 have u2 : (t == [91, 93]) = false := by simpa using h2
 have XA0 := hid a0;have XA1 := hid a1;have XA2 := hid a2;have XA3 := hid a3;clear a0 a1 a2 a3;obtain ⟨xa0_w, xa1_w, xa2_w, xa3_w⟩ := low4 (PSt.low PST0.out) XA0.out XA1.out XA2.out XA3.out;have hlt_g_w : g < w.heap.size := bL xa0_w;go_enter Tryz.func97, Tryz.ntmps97;go_wp2_with fail
 refine Calls.mono ((add_em W0 p B 5 t) _ _ _ (PSt.fresh PST0.out frR) FIT0.out.left) ?_;rintro _ w1 ⟨rfl, htw1⟩;have PSTw1 := hid (PSt.add (PSt.fresh PST0.out frR) htw1);have ACCw1 := hid (PrAdd.freshL (show Fresh w _ from frR) htw1);have FITw1 := hid (Fits.right FIT0.out);have B0_w1 : Blk w1 (w.heap.size) 26 #[kd, .string (⟨t.toArray⟩ : ByteArray), cl, .slice (some ⟨g, o, none⟩) 1 cap] := PrAdd.bk htw1 (by first | exact blkN | assumption | exact blkA (by assumption)) PST0.out (by omega);obtain ⟨q0_0_w1, q0_1_w1, q0_2_w1, q0_3_w1, _⟩ := Blk.four B0_w1;clear xa0_w xa1_w xa2_w xa3_w;obtain ⟨xa0_w1, xa1_w1, xa2_w1, xa3_w1⟩ := low4 (PSt.low PSTw1.out) XA0.out XA1.out XA2.out XA3.out;have hlt_g_w1 : g < w1.heap.size := bL xa0_w1;clear htw1;go_wp2_with fail
 refine Calls.mono ((ARGa.out) _ _ _ (PSt.fresh PSTw1.out frR) FITw1.out) ?_;rintro _ w2 ⟨rfl, htw2⟩;have PSTw2 := hid (PSt.add2 (PSt.fresh PSTw1.out frR) htw2);have ACCw2 := hid (PrAdd.app ACCw1.out (PrAdd.freshL (show Fresh w1 _ from frR) htw2));have B0_w2 : Blk w2 (w.heap.size) 26 #[kd, .string (⟨t.toArray⟩ : ByteArray), cl, .slice (some ⟨g, o, none⟩) 1 cap] := PrAdd.bk htw2 (by first | exact blkN | assumption | exact blkA (by assumption)) PST0.out (by omega);clear q0_0_w1 q0_1_w1 q0_2_w1 q0_3_w1 B0_w1;obtain ⟨q0_0_w2, q0_1_w2, q0_2_w2, q0_3_w2, _⟩ := Blk.four B0_w2;clear xa0_w1 xa1_w1 xa2_w1 xa3_w1;obtain ⟨xa0_w2, xa1_w2, xa2_w2, xa3_w2⟩ := low4 (PSt.low PSTw2.out) XA0.out XA1.out XA2.out XA3.out;have hlt_g_w2 : g < w2.heap.size := bL xa0_w2;clear htw2;go_wp2_with fail
 first | go_end0 | refine bodyPost_ret (v := .tuple #[]) (results_none rfl _ _ _) rfl ?_
 exact ⟨rfl, PrAdd.cast ACCw2.out (by first | rfl | (simp only [List.append_assoc] <;> rfl))⟩
theorem Fits.mid {a b c : List Lx.Tok} {toks : List Lx.PTok} {txt : List UInt8} (h : Fits (a ++ (b ++ c)) toks txt) : Fits b (adds a toks txt).1 (adds a toks txt).2 := h.right.left
def ItemE (W0 : World) (p B : Nat) (x : Nd) : Prop :=
 ∃ fid : Nat, (∀ w : World, (Instr.index 121 (.agg visitCells) (.int .i64 x.kind)).run Tryz.prog w = .ok (.func (.func fid) #[] #[]) w) ∧
  (∀ (a : Array Value) (w : World), (callFunc fid a).run Tryz.prog w = .ok (.enter fid a) w) ∧
  ∀ sx, RepL W0 x.kids sx → Emits fid #[pp p, nv x sx] W0 p B (itemT x)
theorem rowT_take (l : List Nd) (j : Nat) (h : j < l.length) : rowT (l.take (j + 1)) = rowT (l.take j) ++ itemT l[j] := by
 induction l generalizing j with
 | nil => simp at h
 | cons x l ih =>
  cases j with
  | zero => simp [Tr.rowT_cons, Tr.rowT_nil]
  | succ j =>
   simp only [List.take_succ_cons, Tr.rowT_cons, List.getElem_cons_succ];rw [ih j (by simpa using h), List.append_assoc]
theorem rowT_split (l : List Nd) (j : Nat) (h : j < l.length) : ∃ r, rowT l = rowT (l.take j) ++ (itemT l[j] ++ r) := by
 induction l generalizing j with
 | nil => simp at h
 | cons x l ih =>
  cases j with
  | zero => exact ⟨rowT l, by simp [Tr.rowT_cons, Tr.rowT_nil]⟩
  | succ j =>
   obtain ⟨r, hr⟩ := ih j (by simpa using h);refine ⟨r, ?_⟩;simp only [List.take_succ_cons, Tr.rowT_cons, List.getElem_cons_succ];rw [hr, List.append_assoc]
theorem row_em (W0 : World) (p B : Nat) (n : Nd) (hi : ∀ x ∈ n.kids, ItemE W0 p B x) : RowE W0 p B n := by
 intro sl hsl w toks txt hp hf;obtain ⟨A, cap, rfl⟩ := hsl.slice;have hlen := hsl.len;unfold maxLen at hlen;have HI := hid hi;have HSL := hid hsl;have PST0 := hid hp;have FIT0 := hid hf;have hfw : Fresh w (w.alloc (.cells #[.int .i64 n.kind, .string ⟨n.text.toArray⟩, .int .i64 n.cols, .slice A n.kids.length cap] 26)) := (Touch.refl _ _).alloc _;have HFW := hid hfw;clear hi hsl hp hf hfw;go_enter Tryz.func36, Tryz.ntmps36;go_wp2_with fail
 go_loopw [9] (fun i wr => ∃ j : Nat, i = .int .i64 j ∧ j ≤ n.kids.length ∧ Hid (PSt W0 p B wr (adds (rowT (n.kids.take j)) toks txt).1 (adds (rowT (n.kids.take j)) toks txt).2) ∧ Hid (PrAdd w wr p B toks txt (rowT (n.kids.take j)))) (fun i _ => n.kids.length - (intOf i).toNat)
 case atStart => exact ⟨0, rfl, Nat.zero_le _, by rw [List.take_zero, Tr.rowT_nil]; exact PST0.out.fresh HFW.out, by
   rw [List.take_zero, Tr.rowT_nil];obtain ⟨vt, vb, cs, hpr⟩ := PST0.out.pr;exact ⟨vt, vb, cs, hpr.fresh HFW.out, PS.fresh HFW.out⟩⟩
 case round =>
  obtain ⟨j, rfl, hj, PSTR, ACCR⟩ := hrel
  by_cases c1 : j < n.kids.length
  ·have d1 : decide ((j : Int) < (n.kids.length : Int)) = true := dT (by omega)
   have d1n : decide (j < n.kids.length) = true := dT (by omega);have d1' : (j : Int) < (n.kids.length : Int) := by omega
   obtain ⟨g, o, sx, rfl, hg, m0, m1, m2, m3, hrk⟩ := HSL.out.get j c1;obtain ⟨Ax, capx, rfl⟩ := hrk.slice;obtain ⟨fid, hix, hcf, hem⟩ := HI.out n.kids[j] (List.getElem_mem c1);obtain ⟨r, hr⟩ := rowT_split n.kids j c1;have HTK := hid (rowT_take n.kids j c1);have FIT := hid (Fits.mid (show Fits (rowT (n.kids.take j) ++ (itemT n.kids[j] ++ r)) toks txt by rw [← hr]; exact FIT0.out));have EM := hid (hem _ hrk);have a0 := Low.cell (PSt.low PSTR.out) m0;have a1 := Low.cell (PSt.low PSTR.out) m1;have a2 := Low.cell (PSt.low PSTR.out) m2;have a3 := Low.cell (PSt.low PSTR.out) m3;have hgw : g < wr.heap.size := bL a0;clear m0 m1 m2 m3 hrk hem hr hg HI HSL;generalize n.kids[j] = x at *;go_wp2_with fail
   refine forget_world (fun W => Fresh wr W ∧ Blk W wr.heap.size 26 #[.int .i64 x.kind, .string ⟨x.text.toArray⟩, .int .i64 x.cols, .slice Ax x.kids.length capx]) ⟨(Touch.refl _ _).alloc _, Blk.new _ _ _⟩ ?_;rintro W4 ⟨hf4, hb4⟩;obtain ⟨q0, q1, q2, q3, _, _, _, _, hg4⟩ := Blk.four hb4;have g0 := cR q0;have g1 := cR q1;have g2 := cR q2;have g3 := cR q3;have HF4 := hid hf4;have CV := hid (calmF (P := Tryz.prog) W4 (fun w _ => visitors_any w));clear hf4 hb4 a0 a1 a2 a3;refine wp_region_segs_below [([0, 1, 2, 3, 4, 5], 6)] [] (by kernel_rfl) (by kernel_rfl) ?_;simp only [wpSegsC, pick, List.getElem?_cons_zero, List.getElem?_cons_succ]
   repeat (quiet_step (with_reducible exact CV.out _ _))
   refine wpQuiet_nil ?_;rintro W5 ⟨⟨_, _⟩, hW5⟩;have hf5 : Fresh W4 W5 := by rw [hW5]; exact fresh_of_below (below_regrown _ _ _)
   have HF5 := hid hf5;clear hW5 hf5 q0 q1 q2 q3 g0 g1 g2 g3;go_wp2_with fail
   refine (EM.out _ _ _ (PSTR.out.fresh (Touch.trans HF4.out HF5.out)) FIT.out).mono ?_;rintro _ w6 ⟨rfl, h6⟩;have PST6 := hid (PSt.add2 (PSTR.out.fresh (Touch.trans HF4.out HF5.out)) h6);have ACC6 := hid (PrAdd.app ACCR.out (PrAdd.freshL (Touch.trans HF4.out HF5.out) h6));clear h6;go_wp2_with fail
   refine wpQuiet_nil ?_;rintro W7 ⟨⟨_, _⟩, hW7⟩;have hf7 : Fresh w6 W7 := by rw [hW7]; exact fresh_of_below (below_regrown _ _ _)
   have HF7 := hid hf7;clear hW7 hf7;go_wp2_with fail
   go_roundw
   case rel => exact ⟨j + 1, by go_num, c1, by rw [HTK.out]; exact PST6.out.fresh HF7.out, by rw [HTK.out]; exact ACC6.out.freshR HF7.out⟩
   case measure => simp [intOf]; omega
  ·have d1 : decide ((j : Int) < (n.kids.length : Int)) = false := dF (by omega)
   have d1n : decide (j < n.kids.length) = false := dF (by omega);obtain rfl : j = n.kids.length := by omega
   have HA := hid (show PrAdd w wr p B toks txt (rowT n.kids) by
    have := ACCR.out
    rwa [List.take_length] at this)
   go_wp2_with fail
   go_end0
   exact ⟨rfl, HA.out⟩
end Go.Proofs.YtncnoeoicaglaaaGreat
namespace Go.Proofs.YtncnoeoicaglaaaGreat
open Tr (Nd View IsRow itemT rowT argT baseT cellsT count countL AllOK)
def cost : List Lx.Tok → Nat
 | [] => 0
 | t :: l => (Lx.spell t).length + 1 + cost l
theorem adds_len : ∀ (l : List Lx.Tok) (toks : List Lx.PTok) (txt : List UInt8), (adds l toks txt).1.length = toks.length + l.length ∧ (adds l toks txt).2.length ≤ txt.length + cost l
 | [], _, _ => ⟨rfl, Nat.le_refl _⟩
 | t :: l, toks, txt => by
  have h := adds_len l (added toks txt t) (txt ++ gap toks t ++ Lx.spell t);have hg : (gap toks t).length ≤ 1 := by unfold gap; split <;> simp
  simp only [adds, added, List.length_append, List.length_nil, List.length_cons, cost] at h ⊢;omega
theorem ok_text (t : Lx.Tok) (h : Lx.TokOK t) : t.text.length ≤ 200 := by
 rcases h with ⟨_, c, h, _⟩ | ⟨_, h, _⟩ | ⟨_, h, _⟩ | ⟨_, h, _⟩ | ⟨_, a, b, h, _⟩ | ⟨_, c, h, _⟩ | ⟨_, c, h, _⟩ | ⟨_, h⟩
 ·rw [h]; simp
 ·omega
 ·exact h
 ·omega
 ·rw [h]; simp
 ·rw [h]; simp
 ·rw [h]; simp
 ·rw [h]; simp
theorem ok_cost : ∀ l : List Lx.Tok, AllOK l → cost l ≤ 407 * l.length
 | [], _ => Nat.le_refl _
 | t :: l, h => by
  have h1 := ok_cost l fun x hx => h x (by simp [hx])
  have h2 := ok_text t (h t (by simp));have h3 := spellL_le t.kind t.text;have h4 : (Lx.spell t).length ≤ 2 * t.text.length + 6 := h3;simp only [cost, List.length_cons];omega
theorem rowT_len (ks : List Nd) (h : ∀ x ∈ ks, (itemT x).length ≤ 3 * count x) : (rowT ks).length ≤ 3 * countL ks := by
 induction ks with
 | nil => rw [Tr.rowT_nil]; simp
 | cons x ks ih =>
  rw [Tr.rowT_cons, List.length_append, countL];have h1 := h x (by simp);have h2 := ih fun y hy => h y (by simp [hy])
  omega
theorem argT_len (a : Nd) (h : ∀ x ∈ a.kids, (itemT x).length ≤ 3 * count x) : (argT a).length ≤ 3 * count a - 1 := by
 have hc := Tr.count_kids a;have hr := rowT_len a.kids h;rw [Tr.argT_eq];split
 ·rename_i x hx
  rw [hx] at h hc hr;have h1 := h x (by simp);simp only [countL] at hc;split
  ·omega
  ·simp only [List.length_cons, List.length_append, List.length_nil, countL] at hr ⊢; omega
 ·simp only [List.length_cons, List.length_append, List.length_nil]; omega
theorem baseT_len (a : Nd) (h : ∀ x ∈ a.kids, (itemT x).length ≤ 3 * count x) : (baseT a).length ≤ 3 * count a - 1 := by
 have hc := Tr.count_kids a;have hr := rowT_len a.kids h;rw [Tr.baseT_eq];split
 ·rename_i x hx
  rw [hx] at h hc hr;have h1 := h x (by simp);simp only [countL] at hc;split
  ·simp only [List.length_cons, List.length_append, List.length_nil, countL] at hr ⊢; omega
  ·omega
 ·simp only [List.length_cons, List.length_append, List.length_nil]; omega
theorem cellsT_len (c : Int) : ∀ (ks : List Nd) (i : Nat), (∀ k ∈ ks, ∀ x ∈ k.kids, (itemT x).length ≤ 3 * count x) → (cellsT c i ks).length ≤ 3 * countL ks
 | [], _, _ => by rw [cellsT]; simp
 | k :: ks, i, h => by
  have h1 := cellsT_len c ks (i + 1) fun y hy => h y (by simp [hy])
  have h2 := rowT_len k.kids (h k (by simp));have h3 := Tr.count_kids k;rw [cellsT, List.length_append, List.length_append, countL]
  have h4 : (if i = 0 then [] else if (i : Int) % c = 0 then [(⟨8, [92, 92]⟩ : Lx.Tok)] else [Tr.mk7 38]).length ≤ 1 := by
   split
   ·simp
   ·split <;> simp
  omega
theorem item_len (m : Nat) : ∀ n, count n ≤ m → View n → (itemT n).length ≤ 3 * count n := by
 induction m with
 | zero => intro n h; have := Tr.count_pos n; omega
 | succ m ih =>
  intro n hc v
  have hk : ∀ (k : Int) (t : Tr.Bytes) (c : Int) (ks : List Nd), n = .mk k t c ks → ∀ a ∈ ks, IsRow a → ∀ x ∈ a.kids, (itemT x).length ≤ 3 * count x := fun k t c ks e a ha hr x hx => by
   have h1 := Tr.count_mem hx;have h2 := Tr.count_kids a;have h3 := Tr.count_mem ha;rw [e, count] at hc;exact ih x (by omega) (hr.views x hx)
  cases v with
  | sym t h => rw [Tr.itemT_sym]; simp [count]; omega
  | num t h => rw [Tr.itemT_num]; simp [count]; omega
  | text t h => rw [Tr.itemT_text]; simp [count]; omega
  | frac a b ha hb =>
   have h1 := argT_len a (hk _ _ _ _ rfl a (by simp) ha);have h2 := argT_len b (hk _ _ _ _ rfl b (by simp) hb);have h3 := Tr.count_pos a;have h4 := Tr.count_pos b;rw [Tr.itemT_frac];simp only [List.length_cons, List.length_append, count, countL];omega
  | root a b ha hb =>
   have h1 := rowT_len a.kids (hk _ _ _ _ rfl a (by simp) ha);have h2 := argT_len b (hk _ _ _ _ rfl b (by simp) hb);have h3 := Tr.count_kids a;have h4 := Tr.count_pos b;rw [Tr.itemT_root];simp only [List.length_cons, List.length_append, count, countL];split
   ·simp only [List.length_nil]; omega
   ·simp only [List.length_cons, List.length_append, List.length_nil]; omega
  | sub a b ha hb =>
   have h1 := baseT_len a (hk _ _ _ _ rfl a (by simp) ha);have h2 := argT_len b (hk _ _ _ _ rfl b (by simp) hb);have h3 := Tr.count_pos a;have h4 := Tr.count_pos b;rw [Tr.itemT_sub];simp only [List.length_cons, List.length_append, count, countL];omega
  | sup a b ha hb =>
   have h1 := baseT_len a (hk _ _ _ _ rfl a (by simp) ha);have h2 := argT_len b (hk _ _ _ _ rfl b (by simp) hb);have h3 := Tr.count_pos a;have h4 := Tr.count_pos b;rw [Tr.itemT_sup];simp only [List.length_cons, List.length_append, count, countL];omega
  | both a b d ha hb hd =>
   have h1 := baseT_len a (hk _ _ _ _ rfl a (by simp) ha);have h2 := argT_len b (hk _ _ _ _ rfl b (by simp) hb);have h3 := argT_len d (hk _ _ _ _ rfl d (by simp) hd);have h4 := Tr.count_pos a;have h5 := Tr.count_pos b;have h6 := Tr.count_pos d;rw [Tr.itemT_both];simp only [List.length_cons, List.length_append, count, countL];omega
  | accent t a h ha =>
   have h1 := argT_len a (hk _ _ _ _ rfl a (by simp) ha);rw [Tr.itemT_accent];simp only [List.length_cons, count, countL];omega
  | fence t a h ha =>
   have h1 := argT_len a (hk _ _ _ _ rfl a (by simp) ha);have h2 := rowT_len a.kids (hk _ _ _ _ rfl a (by simp) ha);have h3 := Tr.count_kids a;rw [Tr.itemT_fence];split
   ·simp only [List.length_cons, List.length_append, List.length_nil, count, countL]; omega
   ·simp only [List.length_cons, count, countL]; omega
  | matrix c ks hc1 hn hm h =>
   have h1 := cellsT_len c ks 0 fun k hk' => hk _ _ _ _ rfl k hk' (h k hk')
   rw [Tr.itemT_matrix c ks (by rintro rfl; simp at hn)];simp only [List.length_cons, List.length_append, List.length_nil, count];omega
theorem row_len (a : Nd) (ha : IsRow a) : (rowT a.kids).length ≤ 3 * count a := by
 have := rowT_len a.kids fun x hx => item_len _ x (Nat.le_refl _) (ha.views x hx)
 have := Tr.count_kids a;omega
theorem row_fits (a : Nd) (ha : IsRow a) (hc : count a ≤ 1000) : Fits (rowT a.kids) [] [] := by
 have h1 := row_len a ha;have h2 := ok_cost _ (Tr.row_ok a ha);have h3 := adds_len (rowT a.kids) [] [];simp only [List.length_nil] at h3;unfold Fits;omega
end Go.Proofs.YtncnoeoicaglaaaGreat
namespace Go.Proofs.YtncnoeoicaglaaaGreat
open Go.RowKit
open Tr (Nd argT baseT rowT itemT cellsT View IsRow)
def sepT (c : Int) (i : Nat) : List Lx.Tok := if i = 0 then [] else if (i : Int) % c = 0 then [⟨8, [92, 92]⟩] else [Tr.mk7 38]
theorem cellsT_eq (c : Int) (i : Nat) (n : Nd) (ns : List Nd) : cellsT c i (n :: ns) = sepT c i ++ (rowT n.kids ++ cellsT c (i + 1) ns) := by rw [cellsT]; rfl
theorem cellsT_nil (c : Int) (i : Nat) : cellsT c i [] = [] := by rw [cellsT]
theorem cellsT_take (c : Int) (l : List Nd) : ∀ (i j : Nat) (h : j < l.length), cellsT c i (l.take (j + 1)) = cellsT c i (l.take j) ++ (sepT c (i + j) ++ rowT l[j].kids) := by
 induction l with
 | nil => intro i j h; simp at h
 | cons x l ih =>
  intro i j h;cases j with
  | zero => simp [cellsT_eq, cellsT_nil]
  | succ j =>
   simp only [List.take_succ_cons, cellsT_eq, List.getElem_cons_succ];rw [ih (i + 1) j (by simpa using h), show i + 1 + j = i + (j + 1) by omega];simp only [List.append_assoc]
theorem cellsT_split (c : Int) (l : List Nd) : ∀ (i j : Nat) (h : j < l.length), ∃ r, cellsT c i l = cellsT c i (l.take j) ++ (sepT c (i + j) ++ (rowT l[j].kids ++ r)) := by
 induction l with
 | nil => intro i j h; simp at h
 | cons x l ih =>
  intro i j h;cases j with
  | zero => exact ⟨cellsT c (i + 1) l, by simp [cellsT_eq, cellsT_nil]⟩
  | succ j =>
   obtain ⟨r, hr⟩ := ih (i + 1) j (by simpa using h);refine ⟨r, ?_⟩;simp only [List.take_succ_cons, cellsT_eq, List.getElem_cons_succ];rw [hr, show i + 1 + j = i + (j + 1) by omega];simp only [List.append_assoc]
theorem matrix_em (W0 : World) (p B : Nat) (kd tx : Value) (c : Int) (ks : List Nd) (hc : 1 ≤ c) (hc' : c ≤ 1000000) (hk : ∀ x ∈ ks, RowE W0 p B x) (sl : Value) (hsl : RepL W0 ks sl) :
  Emits 98 #[pp p, .agg #[kd, tx, .int .i64 c, sl]] W0 p B ([Tr.name Tr.sMatrix] ++ ([Tr.mk7 123] ++ (cellsT c 0 ks ++ [Tr.mk7 125]))) := by
 intro w toks txt hp hf;obtain ⟨A, cap, rfl⟩ := hsl.slice;have hlen := hsl.len;unfold maxLen at hlen;have HK := hid hk;have HSL := hid hsl;have PST0 := hid hp;have FIT0 := hid hf;have hc0 : (c == 0) = false := by rw [beq_eq_false_iff_ne]; omega
 have hc1 : 0 < c := by omega
 have hc2 : 0 ≤ c := by omega
 clear hk hsl hp hf;go_enter Tryz.func98, Tryz.ntmps98;go_wp2_with fail
 refine Calls.mono ((add_em W0 p B 4 [109, 97, 116, 114, 105, 120]) _ _ _ (PSt.fresh PST0.out frR) FIT0.out.left) ?_;rintro _ w1 ⟨rfl, htw1⟩;have PSTw1 := hid (PSt.add (PSt.fresh PST0.out frR) htw1);have ACCw1 := hid (PrAdd.freshL (show Fresh w _ from frR) htw1);have FITw1 := hid (Fits.right FIT0.out);have B0_w1 : Blk w1 (w.heap.size) 26 #[kd, tx, .int .i64 c, .slice A ks.length cap] := PrAdd.bk htw1 (by first | exact blkN | assumption | exact blkA (by assumption)) PST0.out (by omega);obtain ⟨q0_0_w1, q0_1_w1, q0_2_w1, q0_3_w1, _⟩ := Blk.four B0_w1;clear htw1;go_wp2_with fail
 refine Calls.mono ((mark_em W0 p B [123]) _ _ _ (PSt.fresh PSTw1.out frR) FITw1.out.left) ?_;rintro _ w2 ⟨rfl, htw2⟩;have PSTw2 := hid (PSt.add2 (PSt.fresh PSTw1.out frR) htw2);have ACCw2 := hid (PrAdd.app ACCw1.out (PrAdd.freshL (show Fresh w1 _ from frR) htw2));have FITw2 := hid (Fits.right2 FITw1.out);have B0_w2 : Blk w2 (w.heap.size) 26 #[kd, tx, .int .i64 c, .slice A ks.length cap] := PrAdd.bk htw2 (by first | exact blkN | assumption | exact blkA (by assumption)) PST0.out (by omega);clear q0_0_w1 q0_1_w1 q0_2_w1 q0_3_w1 B0_w1;obtain ⟨q0_0_w2, q0_1_w2, q0_2_w2, q0_3_w2, _⟩ := Blk.four B0_w2;clear htw2;go_wp2_with fail
 go_loopw [13] (fun i wr => ∃ j : Nat, i = .int .i64 j ∧ j ≤ ks.length ∧ Hid (PSt W0 p B wr (adds ([Tr.name Tr.sMatrix] ++ [Tr.mk7 123] ++ cellsT c 0 (ks.take j)) toks txt).1 (adds ([Tr.name Tr.sMatrix] ++ [Tr.mk7 123] ++ cellsT c 0 (ks.take j)) toks txt).2) ∧ Hid (PrAdd w wr p B toks txt ([Tr.name Tr.sMatrix] ++ [Tr.mk7 123] ++ cellsT c 0 (ks.take j))) ∧ Hid (Blk wr w.heap.size 26 #[kd, tx, .int .i64 c, .slice A ks.length cap])) (fun i _ => ks.length - (intOf i).toNat)
 case atStart => exact ⟨0, rfl, Nat.zero_le _, by rw [List.take_zero, cellsT_nil, List.append_nil]; exact PSTw2.out, by rw [List.take_zero, cellsT_nil, List.append_nil]; exact ACCw2.out, B0_w2⟩
 case round =>
  obtain ⟨j, rfl, hj, PSTR, ACCR, HB⟩ := hrel
  by_cases c1 : j < ks.length
  ·have d1 : decide ((j : Int) < (ks.length : Int)) = true := dT (by omega)
   have hlt_w_wr : w.heap.size < wr.heap.size := Blk.lt HB.out;have d1n : decide (j < ks.length) = true := dT (by omega);have d1' : (j : Int) < (ks.length : Int) := by omega
   obtain ⟨g, o, sx, rfl, hg, m0, m1, m2, m3, hrk⟩ := HSL.out.get j c1;obtain ⟨Ax, capx, rfl⟩ := hrk.slice;have ROWx := hid (HK.out ks[j] (List.getElem_mem c1) _ hrk);obtain ⟨r, hr⟩ := cellsT_split c ks 0 j c1;have HTK := hid (cellsT_take c ks 0 j c1);rw [Nat.zero_add] at hr HTK
   have FITX := hid (show Fits (([Tr.name Tr.sMatrix] ++ [Tr.mk7 123] ++ cellsT c 0 (ks.take j)) ++ ((sepT c j ++ rowT ks[j].kids) ++ (r ++ [Tr.mk7 125]))) toks txt by
    have := FIT0.out;rw [hr] at this;simpa only [List.append_assoc] using this)
   have XX0 := hid m0;have XX1 := hid m1;have XX2 := hid m2;have XX3 := hid m3;have xx0_wr := Low.cell (PSt.low PSTR.out) m0;have xx1_wr := Low.cell (PSt.low PSTR.out) m1;have xx2_wr := Low.cell (PSt.low PSTR.out) m2;have xx3_wr := Low.cell (PSt.low PSTR.out) m3;have hlt_g_wr : g < wr.heap.size := bL xx0_wr;clear m0 m1 m2 m3 hrk hr hg HK HSL;generalize ks[j] = x at *;obtain ⟨q0_0_wr, q0_1_wr, q0_2_wr, q0_3_wr, _⟩ := Blk.four HB.out;have B0_wr : Blk wr w.heap.size 26 #[kd, tx, .int .i64 c, .slice (some ⟨g, o, none⟩) ks.length cap] := HB.out
   by_cases j0 : j = 0
   ·subst j0
    have HSEP := hid (show sepT c 0 = [] from by rfl)
    have FITR := hid (show Fits (rowT x.kids) (adds ([Tr.name Tr.sMatrix] ++ [Tr.mk7 123] ++ cellsT c 0 (ks.take 0)) toks txt).1 (adds ([Tr.name Tr.sMatrix] ++ [Tr.mk7 123] ++ cellsT c 0 (ks.take 0)) toks txt).2 by
     have := FITX.out.mid;rw [HSEP.out] at this;exact this)
    rw [Nat.zero_mul, Nat.add_zero] at xx0_wr xx1_wr xx2_wr xx3_wr;have XY0 : Hid (W0.cell? ⟨g, o, none⟩ = some (.int .i64 x.kind)) := by have := XX0.out; rw [Nat.zero_mul, Nat.add_zero] at this; exact this
    have XY1 : Hid (W0.cell? ⟨g, o + 1, none⟩ = some (.string (⟨x.text.toArray⟩ : ByteArray))) := by have := XX1.out; rw [Nat.zero_mul, Nat.add_zero] at this; exact this
    have XY2 : Hid (W0.cell? ⟨g, o + 2, none⟩ = some (.int .i64 x.cols)) := by have := XX2.out; rw [Nat.zero_mul, Nat.add_zero] at this; exact this
    have XY3 : Hid (W0.cell? ⟨g, o + 3, none⟩ = some (.slice Ax x.kids.length capx)) := by have := XX3.out; rw [Nat.zero_mul, Nat.add_zero] at this; exact this
    go_wp2_with fail
    refine Calls.mono ((ROWx.out) _ _ _ (PSt.fresh PSTR.out frR) FITR.out) ?_;rintro _ w3 ⟨rfl, htw3⟩;have PSTw3 := hid (PSt.add2 (PSt.fresh PSTR.out frR) htw3);have ACCw3 := hid (PrAdd.app ACCR.out (PrAdd.freshL (show Fresh wr _ from frR) htw3));have B0_w3 : Blk w3 (w.heap.size) 26 #[kd, tx, .int .i64 c, .slice (some ⟨g, o, none⟩) ks.length cap] := PrAdd.bk htw3 (by first | exact blkN | assumption | exact blkA (by assumption)) PST0.out (by omega);have B1_w3 : Blk w3 (wr.heap.size) 26 #[.int .i64 x.kind, .string (⟨x.text.toArray⟩ : ByteArray), .int .i64 x.cols, .slice Ax x.kids.length capx] := PrAdd.blk htw3 (by first | exact blkN | assumption | exact blkA (by assumption)) (by have := PSt.lt PSTR.out; have := PSt.hB PSTR.out; omega) (by decide) (by decide);clear q0_0_wr q0_1_wr q0_2_wr q0_3_wr B0_wr;obtain ⟨q0_0_w3, q0_1_w3, q0_2_w3, q0_3_w3, _⟩ := Blk.four B0_w3;obtain ⟨q1_0_w3, q1_1_w3, q1_2_w3, q1_3_w3, _⟩ := Blk.four B1_w3;clear xx0_wr xx1_wr xx2_wr xx3_wr;obtain ⟨xy0_w3, xy1_w3, xy2_w3, xy3_w3⟩ := low4 (PSt.low PSTw3.out) XY0.out XY1.out XY2.out XY3.out;have hlt_g_w3 : g < w3.heap.size := bL xy0_w3;clear htw3;go_wp2_with fail
    go_roundw
    case rel =>
     have HE := hid (show [Tr.name Tr.sMatrix] ++ [Tr.mk7 123] ++ cellsT c 0 (ks.take 0) ++ rowT x.kids = [Tr.name Tr.sMatrix] ++ [Tr.mk7 123] ++ cellsT c 0 (ks.take (0 + 1)) from by have h := HTK.out; rw [HSEP.out] at h; rw [h]; simp only [List.append_assoc, List.nil_append]);have hpst := PSTw3.out;have hacc := ACCw3.out;rw [HE.out] at hpst hacc;exact ⟨0 + 1, by go_num, by omega, hpst, hacc, B0_w3⟩
    case measure => simp [intOf]; omega
   ·have e0 : ((j : Int) == 0) = false := by rw [beq_eq_false_iff_ne]; omega
    have e0n : (j == 0) = false := by rw [beq_eq_false_iff_ne]; omega
    by_cases jc : (j : Int) % c = 0
    ·have e1 : ((j : Int) % c == 0) = true := by rw [beq_iff_eq]; exact jc
     have HSEP := hid (show sepT c j = [⟨8, [92, 92]⟩] from by unfold sepT; rw [if_neg j0, if_pos jc])
     have FITR := hid (show Fits ([⟨8, [92, 92]⟩] ++ rowT x.kids) (adds ([Tr.name Tr.sMatrix] ++ [Tr.mk7 123] ++ cellsT c 0 (ks.take j)) toks txt).1 (adds ([Tr.name Tr.sMatrix] ++ [Tr.mk7 123] ++ cellsT c 0 (ks.take j)) toks txt).2 by
      have := FITX.out.mid;rw [HSEP.out] at this;exact this)
     clear j0 jc;go_wp2_with fail
     refine Calls.mono ((add_em W0 p B 8 [92, 92]) _ _ _ (PSt.fresh PSTR.out frR) FITR.out.left) ?_;rintro _ w4 ⟨rfl, htw4⟩;have PSTw4 := hid (PSt.add2 (PSt.fresh PSTR.out frR) htw4);have ACCw4 := hid (PrAdd.app ACCR.out (PrAdd.freshL (show Fresh wr _ from frR) htw4));have FITw4 := hid (Fits.right2 FITR.out);have B0_w4 : Blk w4 (w.heap.size) 26 #[kd, tx, .int .i64 c, .slice (some ⟨g, o, none⟩) ks.length cap] := PrAdd.bk htw4 (by first | exact blkN | assumption | exact blkA (by assumption)) PST0.out (by omega);have B1_w4 : Blk w4 (wr.heap.size) 26 #[.int .i64 x.kind, .string (⟨x.text.toArray⟩ : ByteArray), .int .i64 x.cols, .slice Ax x.kids.length capx] := PrAdd.blk htw4 (by first | exact blkN | assumption | exact blkA (by assumption)) (by have := PSt.lt PSTR.out; have := PSt.hB PSTR.out; omega) (by decide) (by decide);clear q0_0_wr q0_1_wr q0_2_wr q0_3_wr B0_wr;obtain ⟨q0_0_w4, q0_1_w4, q0_2_w4, q0_3_w4, _⟩ := Blk.four B0_w4;obtain ⟨q1_0_w4, q1_1_w4, q1_2_w4, q1_3_w4, _⟩ := Blk.four B1_w4;clear xx0_wr xx1_wr xx2_wr xx3_wr;obtain ⟨xx0_w4, xx1_w4, xx2_w4, xx3_w4⟩ := low4 (PSt.low PSTw4.out) XX0.out XX1.out XX2.out XX3.out;have hlt_g_w4 : g < w4.heap.size := bL xx0_w4;clear htw4;go_wp2_with fail
     refine Calls.mono ((ROWx.out) _ _ _ (PSt.fresh PSTw4.out frR) FITw4.out) ?_;rintro _ w5 ⟨rfl, htw5⟩;have PSTw5 := hid (PSt.add2 (PSt.fresh PSTw4.out frR) htw5);have ACCw5 := hid (PrAdd.app ACCw4.out (PrAdd.freshL (show Fresh w4 _ from frR) htw5));have B0_w5 : Blk w5 (w.heap.size) 26 #[kd, tx, .int .i64 c, .slice (some ⟨g, o, none⟩) ks.length cap] := PrAdd.bk htw5 (by first | exact blkN | assumption | exact blkA (by assumption)) PST0.out (by omega);have B1_w5 : Blk w5 (wr.heap.size) 26 #[.int .i64 x.kind, .string (⟨x.text.toArray⟩ : ByteArray), .int .i64 x.cols, .slice Ax x.kids.length capx] := PrAdd.blk htw5 (by first | exact blkN | assumption | exact blkA (by assumption)) (by have := PSt.lt PSTR.out; have := PSt.hB PSTR.out; omega) (by decide) (by decide);clear q0_0_w4 q0_1_w4 q0_2_w4 q0_3_w4 B0_w4 q1_0_w4 q1_1_w4 q1_2_w4 q1_3_w4 B1_w4;obtain ⟨q0_0_w5, q0_1_w5, q0_2_w5, q0_3_w5, _⟩ := Blk.four B0_w5;obtain ⟨q1_0_w5, q1_1_w5, q1_2_w5, q1_3_w5, _⟩ := Blk.four B1_w5;clear xx0_w4 xx1_w4 xx2_w4 xx3_w4;obtain ⟨xx0_w5, xx1_w5, xx2_w5, xx3_w5⟩ := low4 (PSt.low PSTw5.out) XX0.out XX1.out XX2.out XX3.out;have hlt_g_w5 : g < w5.heap.size := bL xx0_w5;clear htw5;go_wp2_with fail
     go_roundw
     case rel =>
      have HE := hid (show [Tr.name Tr.sMatrix] ++ [Tr.mk7 123] ++ cellsT c 0 (ks.take j) ++ [⟨8, [92, 92]⟩] ++ rowT x.kids = [Tr.name Tr.sMatrix] ++ [Tr.mk7 123] ++ cellsT c 0 (ks.take (j + 1)) from by have h := HTK.out; rw [HSEP.out] at h; rw [h]; simp only [List.append_assoc]);have hpst := PSTw5.out;have hacc := ACCw5.out;rw [HE.out] at hpst hacc;exact ⟨j + 1, by go_num, by omega, hpst, hacc, B0_w5⟩
     case measure => simp [intOf]; omega
    ·have e1 : ((j : Int) % c == 0) = false := by rw [beq_eq_false_iff_ne]; exact jc
     have HSEP := hid (show sepT c j = [⟨7, [38]⟩] from by unfold sepT; rw [if_neg j0, if_neg jc]; rfl)
     have FITR := hid (show Fits ([⟨7, [38]⟩] ++ rowT x.kids) (adds ([Tr.name Tr.sMatrix] ++ [Tr.mk7 123] ++ cellsT c 0 (ks.take j)) toks txt).1 (adds ([Tr.name Tr.sMatrix] ++ [Tr.mk7 123] ++ cellsT c 0 (ks.take j)) toks txt).2 by
      have := FITX.out.mid;rw [HSEP.out] at this;exact this)
     clear j0 jc;go_wp2_with fail
     refine Calls.mono ((mark_em W0 p B [38]) _ _ _ (PSt.fresh PSTR.out frR) FITR.out.left) ?_;rintro _ w6 ⟨rfl, htw6⟩;have PSTw6 := hid (PSt.add2 (PSt.fresh PSTR.out frR) htw6);have ACCw6 := hid (PrAdd.app ACCR.out (PrAdd.freshL (show Fresh wr _ from frR) htw6));have FITw6 := hid (Fits.right2 FITR.out);have B0_w6 : Blk w6 (w.heap.size) 26 #[kd, tx, .int .i64 c, .slice (some ⟨g, o, none⟩) ks.length cap] := PrAdd.bk htw6 (by first | exact blkN | assumption | exact blkA (by assumption)) PST0.out (by omega);have B1_w6 : Blk w6 (wr.heap.size) 26 #[.int .i64 x.kind, .string (⟨x.text.toArray⟩ : ByteArray), .int .i64 x.cols, .slice Ax x.kids.length capx] := PrAdd.blk htw6 (by first | exact blkN | assumption | exact blkA (by assumption)) (by have := PSt.lt PSTR.out; have := PSt.hB PSTR.out; omega) (by decide) (by decide);clear q0_0_wr q0_1_wr q0_2_wr q0_3_wr B0_wr;obtain ⟨q0_0_w6, q0_1_w6, q0_2_w6, q0_3_w6, _⟩ := Blk.four B0_w6;obtain ⟨q1_0_w6, q1_1_w6, q1_2_w6, q1_3_w6, _⟩ := Blk.four B1_w6;clear xx0_wr xx1_wr xx2_wr xx3_wr;obtain ⟨xx0_w6, xx1_w6, xx2_w6, xx3_w6⟩ := low4 (PSt.low PSTw6.out) XX0.out XX1.out XX2.out XX3.out;have hlt_g_w6 : g < w6.heap.size := bL xx0_w6;clear htw6;go_wp2_with fail
     refine Calls.mono ((ROWx.out) _ _ _ (PSt.fresh PSTw6.out frR) FITw6.out) ?_;rintro _ w7 ⟨rfl, htw7⟩;have PSTw7 := hid (PSt.add2 (PSt.fresh PSTw6.out frR) htw7);have ACCw7 := hid (PrAdd.app ACCw6.out (PrAdd.freshL (show Fresh w6 _ from frR) htw7));have B0_w7 : Blk w7 (w.heap.size) 26 #[kd, tx, .int .i64 c, .slice (some ⟨g, o, none⟩) ks.length cap] := PrAdd.bk htw7 (by first | exact blkN | assumption | exact blkA (by assumption)) PST0.out (by omega);have B1_w7 : Blk w7 (wr.heap.size) 26 #[.int .i64 x.kind, .string (⟨x.text.toArray⟩ : ByteArray), .int .i64 x.cols, .slice Ax x.kids.length capx] := PrAdd.blk htw7 (by first | exact blkN | assumption | exact blkA (by assumption)) (by have := PSt.lt PSTR.out; have := PSt.hB PSTR.out; omega) (by decide) (by decide);clear q0_0_w6 q0_1_w6 q0_2_w6 q0_3_w6 B0_w6 q1_0_w6 q1_1_w6 q1_2_w6 q1_3_w6 B1_w6;obtain ⟨q0_0_w7, q0_1_w7, q0_2_w7, q0_3_w7, _⟩ := Blk.four B0_w7;obtain ⟨q1_0_w7, q1_1_w7, q1_2_w7, q1_3_w7, _⟩ := Blk.four B1_w7;clear xx0_w6 xx1_w6 xx2_w6 xx3_w6;obtain ⟨xx0_w7, xx1_w7, xx2_w7, xx3_w7⟩ := low4 (PSt.low PSTw7.out) XX0.out XX1.out XX2.out XX3.out;have hlt_g_w7 : g < w7.heap.size := bL xx0_w7;clear htw7;go_wp2_with fail
     go_roundw
     case rel =>
      have HE := hid (show [Tr.name Tr.sMatrix] ++ [Tr.mk7 123] ++ cellsT c 0 (ks.take j) ++ [⟨7, [38]⟩] ++ rowT x.kids = [Tr.name Tr.sMatrix] ++ [Tr.mk7 123] ++ cellsT c 0 (ks.take (j + 1)) from by have h := HTK.out; rw [HSEP.out] at h; rw [h]; simp only [List.append_assoc]);have hpst := PSTw7.out;have hacc := ACCw7.out;rw [HE.out] at hpst hacc;exact ⟨j + 1, by go_num, by omega, hpst, hacc, B0_w7⟩
     case measure => simp [intOf]; omega
  ·have d1 : decide ((j : Int) < (ks.length : Int)) = false := dF (by omega)
   have hlt_w_wr : w.heap.size < wr.heap.size := Blk.lt HB.out;have d1n : decide (j < ks.length) = false := dF (by omega);obtain rfl : j = ks.length := by omega
   obtain ⟨q0_0_wr, q0_1_wr, q0_2_wr, q0_3_wr, _⟩ := Blk.four HB.out;have B0_wr : Blk wr w.heap.size 26 #[kd, tx, .int .i64 c, .slice A ks.length cap] := HB.out
   have ACCE := hid (show PrAdd w wr p B toks txt ([Tr.name Tr.sMatrix] ++ [Tr.mk7 123] ++ cellsT c 0 ks) by
    have := ACCR.out
    rwa [List.take_length] at this)
   have PSTE := hid (show PSt W0 p B wr (adds ([Tr.name Tr.sMatrix] ++ [Tr.mk7 123] ++ cellsT c 0 ks) toks txt).1 (adds ([Tr.name Tr.sMatrix] ++ [Tr.mk7 123] ++ cellsT c 0 ks) toks txt).2 by
    have := PSTR.out
    rwa [List.take_length] at this)
   have FITE := hid (Fits.right (l := [Tr.name Tr.sMatrix] ++ [Tr.mk7 123] ++ cellsT c 0 ks) (m := [Tr.mk7 125]) (by have := FIT0.out; simpa only [List.append_assoc] using this));go_wp2_with fail
   refine Calls.mono ((mark_em W0 p B [125]) _ _ _ (PSt.fresh PSTE.out frR) FITE.out) ?_;rintro _ w8 ⟨rfl, htw8⟩;have PSTw8 := hid (PSt.add2 (PSt.fresh PSTE.out frR) htw8);have ACCw8 := hid (PrAdd.app ACCE.out (PrAdd.freshL (show Fresh wr _ from frR) htw8));have B0_w8 : Blk w8 (w.heap.size) 26 #[kd, tx, .int .i64 c, .slice A ks.length cap] := PrAdd.bk htw8 (by first | exact blkN | assumption | exact blkA (by assumption)) PST0.out (by omega);clear q0_0_wr q0_1_wr q0_2_wr q0_3_wr B0_wr;obtain ⟨q0_0_w8, q0_1_w8, q0_2_w8, q0_3_w8, _⟩ := Blk.four B0_w8;clear htw8;go_wp2_with fail
   first | go_end0 | refine bodyPost_ret (v := .tuple #[]) (results_none rfl _ _ _) rfl ?_
   exact ⟨rfl, PrAdd.cast ACCw8.out (by first | rfl | (simp only [List.append_assoc] <;> rfl))⟩
end Go.Proofs.YtncnoeoicaglaaaGreat
