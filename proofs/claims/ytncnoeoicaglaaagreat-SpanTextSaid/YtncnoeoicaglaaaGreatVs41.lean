/- Part 41 of 42 of a proof; its texts, joined: SxE, SnB, PrV, SnE, NuP, NuQ. No condition. -/
import Derived.Test.YtncnoeoicaglaaaGreatVs40
import Derived.Test.YtncnoeoicaglaaaGreatVs28
import Derived.Test.YtncnoeoicaglaaaGreatVs25
import Derived.Test.YtncnoeoicaglaaaGreatVs9
import Derived.Test.YtncnoeoicaglaaaGreatVs4
set_option maxRecDepth 100000
set_option maxHeartbeats 2000000
namespace Go.Proofs.YtncnoeoicaglaaaGreat
open Go.RowKit
open Tr (Nd)
theorem row09_any (p : List Nat) (n r : Nd) (sl v : Value) (w0 w : World) (hf0 : Fresh w0 w) (hv : Tr.valid n = true) (hc : Tr.count n ≤ 100000) (ht : n.text.length ≤ maxLen) (hp : rowAt n p = some r) (hr : RepL w0 n.kids sl) (hi : Ints w v (up p)) (hrm : Roomy v p.length) (hl : p.length ≤ 100000) :
  Calls Tryz.prog 38 #[nv n sl, v] w fun e w' => ∃ A cap, e = .returned (.tuple #[nv r (.slice A r.kids.length cap), .int .i64 0]) ∧ RepL w0 r.kids (.slice A r.kids.length cap) ∧ Fresh w w' := by
 obtain ⟨A0, cap0, rfl⟩ := hr.slice;have HFI := hid (fun (w' : World) (hf : Fresh w w') => find_any p n r _ v w0 w' (hf0.trans hf) hp hr (hi.fresh hf) hrm hl);have HVA := hid (fun (w' : World) (hf : Fresh w w') => rValid_any n _ w' (hr.fresh (hf0.trans hf)) ht (by omega));obtain ⟨Av, cv, rfl, _, _⟩ := hrm;have HV := hid hv;have HF0 := hid (((Touch.refl (fun _ => False) w).alloc (.cells #[.int .i64 n.kind, .string ⟨n.text.toArray⟩, .int .i64 n.cols, .slice A0 n.kids.length cap0] 26)).alloc (.cells #[.int .i64 0, .string ⟨#[]⟩, .int .i64 0, .slice none 0 0] 26));have HB0 := hid ((Blk.new w 26 #[.int .i64 n.kind, .string ⟨n.text.toArray⟩, .int .i64 n.cols, .slice A0 n.kids.length cap0]).alloc (.cells #[.int .i64 0, .string ⟨#[]⟩, .int .i64 0, .slice none 0 0] 26));have HZ0 := hid (Blk.new2 w (.cells #[.int .i64 n.kind, .string ⟨n.text.toArray⟩, .int .i64 n.cols, .slice A0 n.kids.length cap0] 26) 26 #[.int .i64 0, .string ⟨#[]⟩, .int .i64 0, .slice none 0 0]);clear hp hr hi hv hc;go_enter Tryz.func38, Tryz.ntmps38;go_wp2_with fail
 refine (HVA.out _ HF0.out).mono ?_;rintro _ w1 ⟨rfl, hf1⟩;rw [HV.out];have HF1 := hid (HF0.out.trans hf1);have HB1 := hid (hf1.blk HB0.out fun h => h);have HZ1 := hid (hf1.blk HZ0.out fun h => h);clear hf1 HF0 HB0 HZ0;obtain ⟨p0, p1, p2, p3, _, _, _, _, hlt⟩ := Blk.four HB1.out;go_wp2_with fail
 refine (HFI.out _ HF1.out).mono ?_;rintro _ w2 ⟨A, cap, rfl, hr2, hf2⟩;have HF2 := hid (HF1.out.trans hf2);have HZ2 := hid (hf2.blk HZ1.out fun h => h);have HR2 := hid hr2;clear hf2 hr2 p0 p1 p2 p3 hlt HB1 HF1 HZ1;obtain ⟨z0, z1, z2, z3, y0, y1, y2, y3, hlz⟩ := Blk.four HZ2.out;go_wp2_with fail
 have hb5 := (HZ2.out.self4 (.int .i64 r.kind) (.string ⟨r.text.toArray⟩) (.int .i64 r.cols) (.slice A r.kids.length cap)).alloc (.cells #[.int .i64 r.kind, .string ⟨r.text.toArray⟩, .int .i64 r.cols, .slice A r.kids.length cap] 26);obtain ⟨x0, x1, x2, x3, _, _, _, _, _⟩ := Blk.four hb5;simp only [put4] at x0 x1 x2 x3;refine bodyPost_ret (v := .tuple #[nv r (.slice A r.kids.length cap), .int .i64 0]) (by simp [results, Tryz.results38, go_sem, x0, x1, x2, x3]) rfl ?_;exact ⟨A, cap, rfl, HR2.out, (Touch.put4 HF2.out (.inr (Nat.le_succ _)) _ _ _ _).alloc _⟩
theorem item09_any (p : List Nat) (i : Nat) (n r y : Nd) (sl v : Value) (w0 w : World) (hf0 : Fresh w0 w) (hv : Tr.valid n = true) (hc : Tr.count n ≤ 100000) (ht : n.text.length ≤ maxLen) (hp : rowAt n p = some r) (hy : r.kids[i]? = some y) (hr : RepL w0 n.kids sl) (hi : Ints w v (up p)) (hrm : Roomy v p.length) (hl : p.length ≤ 100000) :
  Calls Tryz.prog 15 #[nv n sl, v, .int .i64 (i : Int)] w fun e w' => ∃ A cap, e = .returned (.tuple #[nv y (.slice A y.kids.length cap), .int .i64 0]) ∧ RepL w0 y.kids (.slice A y.kids.length cap) ∧ Fresh w w' := by
 obtain ⟨A0, cap0, rfl⟩ := hr.slice;have HRO := hid (fun (w' : World) (hf : Fresh w w') => row09_any p n r _ v w0 w' (hf0.trans hf) hv hc ht hp hr (hi.fresh hf) hrm hl);obtain ⟨Av, cv, rfl, _, _⟩ := hrm;obtain ⟨hy1, hy2⟩ := List.getElem?_eq_some_iff.1 hy;have HFF := hid hf0;have HF0 := hid (((Touch.refl (fun _ => False) w).alloc (.cells #[.int .i64 n.kind, .string ⟨n.text.toArray⟩, .int .i64 n.cols, .slice A0 n.kids.length cap0] 26)).alloc (.cells #[.int .i64 0, .string ⟨#[]⟩, .int .i64 0, .slice none 0 0] 26));have HB0 := hid ((Blk.new w 26 #[.int .i64 n.kind, .string ⟨n.text.toArray⟩, .int .i64 n.cols, .slice A0 n.kids.length cap0]).alloc (.cells #[.int .i64 0, .string ⟨#[]⟩, .int .i64 0, .slice none 0 0] 26));have HZ0 := hid (Blk.new2 w (.cells #[.int .i64 n.kind, .string ⟨n.text.toArray⟩, .int .i64 n.cols, .slice A0 n.kids.length cap0] 26) 26 #[.int .i64 0, .string ⟨#[]⟩, .int .i64 0, .slice none 0 0]);clear hp hr hi hv hc hy hf0;go_enter Tryz.func15, Tryz.ntmps15;go_wp2_with fail
 refine (HRO.out _ HF0.out).mono ?_;rintro _ w2 ⟨A, cap, rfl, hr2, hf2⟩;have hrl := hr2.len;unfold maxLen at hrl;obtain ⟨g, o, sy, hA, hg, a0, a1, a2, a3, hry⟩ := hr2.get i hy1;cases hA;rw [hy2] at a0 a1 a2 hry;obtain ⟨Ay, cy, rfl⟩ := hry.slice;have HRY := hid hry;have HF2 := hid (HF0.out.trans hf2);have HZ2 := hid (hf2.blk HZ0.out fun h => h);have e0 := ((HFF.out.trans HF0.out).trans hf2).cell a0 (fun h => h);have e1 := ((HFF.out.trans HF0.out).trans hf2).cell a1 (fun h => h);have e2 := ((HFF.out.trans HF0.out).trans hf2).cell a2 (fun h => h);have e3 := ((HFF.out.trans HF0.out).trans hf2).cell a3 (fun h => h);have hgl : g < w2.heap.size := Nat.lt_of_lt_of_le hg ((HFF.out.trans HF0.out).trans hf2).size;have di : decide ((r.kids.length : Int) ≤ (i : Int)) = false := dF (by omega);have din : decide (r.kids.length ≤ i) = false := dF (by omega);have ci : decide ((i : Int) < 0) = false := dF (by omega);have hi1 : (i : Int) < (r.kids.length : Int) := by omega
 clear hf2 hr2 hry HF0 HB0 HZ0 a0 a1 a2 a3 hy2;obtain ⟨z0, z1, z2, z3, y0, y1, y2, y3, hlz⟩ := Blk.four HZ2.out;go_wp2_with fail
 have hb5 := (HZ2.out.self4 (.int .i64 y.kind) (.string ⟨y.text.toArray⟩) (.int .i64 y.cols) (.slice Ay y.kids.length cy)).alloc (.cells #[.int .i64 r.kind, .string ⟨r.text.toArray⟩, .int .i64 r.cols, .slice (some ⟨g, o, none⟩) r.kids.length cap] 26);obtain ⟨x0, x1, x2, x3, _, _, _, _, _⟩ := Blk.four hb5;simp only [put4] at x0 x1 x2 x3;refine bodyPost_ret (v := .tuple #[nv y (.slice Ay y.kids.length cy), .int .i64 0]) (by simp [results, Tryz.results15, go_sem, x0, x1, x2, x3]) rfl ?_;exact ⟨Ay, cy, rfl, HRY.out, (Touch.put4 HF2.out (.inr (Nat.le_succ _)) _ _ _ _).alloc _⟩
end Go.Proofs.YtncnoeoicaglaaaGreat
namespace Go.Proofs.YtncnoeoicaglaaaGreat
open Go.RowKit
open Tr (Nd Clo runRow rowT offC atG posRow)
theorem cmpI_up : ∀ p q : List Nat, cmpI (up p) (up q) = Tr.cmp p q
 | [], [] => rfl
 | [], _ :: _ => rfl
 | _ :: _, [] => rfl
 | a :: p, b :: q => by
  simp only [List.map_cons, cmpI, Tr.cmp]
  by_cases h1 : a < b
  ·rw [if_pos (by omega), if_pos h1]
  ·rw [if_neg (by omega), if_neg h1]
   by_cases h2 : b < a
   ·rw [if_pos (by omega), if_pos h2]
   ·rw [if_neg (by omega), if_neg h2]
    exact cmpI_up p q
structure AtSt (W0 : World) (B mb bb ob : Nat) (k : Int) (g tg : Nat) (s : List Nat × Int) (S : Nat → Prop) (w : World) : Prop where
 own : ∀ b, S b ↔ b = mb ∨ b = bb
 most : Blk w mb 3 #[.int .i64 s.2]
 best : ∃ bv, Blk w bb 46 #[bv] ∧ PathIn g S w bv s.1 ∧ s.1.length ≤ 1000
 offc : w.cell? ⟨ob, 0, none⟩ = some (.int .i64 k)
 lo : W0.heap.size ≤ mb ∧ W0.heap.size ≤ bb ∧ mb < B ∧ bb < B ∧ ob < B ∧ mb ≠ bb ∧ ob ≠ mb ∧ ob ≠ bb ∧ W0.heap.size ≤ B
 hg : B ≤ g
 htg : B ≤ tg
 glt : g < w.heap.size
theorem AtSt.touch {W0 : World} {B mb bb ob : Nat} {k : Int} {g tg : Nat} {s : List Nat × Int} {S : Nat → Prop} {w w' : World} (h : AtSt W0 B mb bb ob k g tg s S w) (ht : Touch (fun b => b = g) w w') : AtSt W0 B mb bb ob k g tg s S w' := by
 obtain ⟨h1, h2, h3, h4, h5, h6, h7⟩ := h.lo;have hg := h.hg;obtain ⟨bv, hb, hp, hl⟩ := h.best;exact ⟨h.own, ht.blk h.most fun e => by have : mb = g := e; omega, ⟨bv, ht.blk hb fun e => by have : bb = g := e; omega, hp.mv ⟨ht.mono fun _ => .inr, fun _ h => .inl h⟩, hl⟩, ht.cell h.offc fun e => by have : ob = g := e; omega, h.lo, h.hg, h.htg, Nat.lt_of_lt_of_le h.glt ht.size⟩
theorem AtSt.put {W0 : World} {B mb bb ob : Nat} {k : Int} {g tg : Nat} {s : List Nat × Int} {S : Nat → Prop} {w w1 : World} (h : AtSt W0 B mb bb ob k g tg s S w) (hf : Fresh w w1) {v : Value} {p : List Nat} (hl : p.length ≤ 1000) (hr : w1.ownsRow w.heap.size 3 1 v (up p).length (intVs (up p))) (pl : Int) :
  AtSt W0 B mb bb ob k g tg (p, pl) S ((w1.setCell ⟨bb, 0, none⟩ v).setCell ⟨mb, 0, none⟩ (.int .i64 pl)) ∧ Mc S S w ((w1.setCell ⟨bb, 0, none⟩ v).setCell ⟨mb, 0, none⟩ (.int .i64 pl)) := by
 obtain ⟨l1, l2, l3, l4, l5, l6, l7, l8, l9⟩ := h.lo
 have hS : ∀ b, S b → b < w.heap.size := fun b hb => by
  have h1 := h.most.lt;obtain ⟨bv, h2, _⟩ := h.best;have h2 := h2.lt
  rcases (h.own b).1 hb with rfl | rfl <;> assumption
 have ht : Touch S w1 ((w1.setCell ⟨bb, 0, none⟩ v).setCell ⟨mb, 0, none⟩ (.int .i64 pl)) := ((Touch.refl S w1).setCell (p := ⟨bb, 0, none⟩) (.inl ((h.own bb).2 (.inr rfl))) _).setCell (p := ⟨mb, 0, none⟩) (.inl ((h.own mb).2 (.inl rfl))) _;have hp := PathIn.new (g := g) (S := S) (p := p) hS h.glt hr;obtain ⟨bv, hb, _, _⟩ := h.best;have hm1 : Mv g S S w1 ((w1.setCell ⟨bb, 0, none⟩ v).setCell ⟨mb, 0, none⟩ (.int .i64 pl)) := ⟨ht.mono fun _ => .inl, fun _ h => .inl h⟩;refine ⟨⟨h.own, ((hf.blk h.most (fun h => h)).far (p := ⟨bb, 0, none⟩) l6 _).put 0 _, ⟨v, ((hf.blk hb (fun h => h)).put 0 _).far (p := ⟨mb, 0, none⟩) (Ne.symm l6) _, hp.mv hm1, hl⟩, ht.cell (hf.cell h.offc (fun h => h)) fun e => ((h.own _).1 e).elim l7 l8, h.lo, h.hg, h.htg, Nat.lt_of_lt_of_le h.glt (Nat.le_trans hf.size ht.size)⟩, ⟨(hf.mono fun _ h => h.elim).trans ht, fun _ h => .inl h⟩⟩
theorem at1_any {W0 : World} {B mb bb ob : Nat} {k : Int} {g tg : Nat} {s : List Nat × Int} {S : Nat → Prop} {w : World} (h : AtSt W0 B mb bb ob k g tg s S w) {p : List Nat} {v : Value} (pl : Nat) (hp : PathIn g S w v p) (hpl : p.length ≤ 1000) :
  Calls Tryz.prog 57 (#[v, .int .i64 (pl : Int)] ++ #[.pointer (some ⟨ob, 0, none⟩), .pointer (some ⟨mb, 0, none⟩), .pointer (some ⟨bb, 0, none⟩)]) w
   fun e w' => e = .returned (.tuple #[]) ∧ ∃ S', AtSt W0 B mb bb ob k g tg (atG k s p pl) S' w' ∧ Mc S S' w w' := by
 have e : (#[v, .int .i64 (pl : Int)] ++ #[.pointer (some ⟨ob, 0, none⟩), .pointer (some ⟨mb, 0, none⟩), .pointer (some ⟨bb, 0, none⟩)] : Array Value) = #[v, .int .i64 (pl : Int), .pointer (some ⟨ob, 0, none⟩), .pointer (some ⟨mb, 0, none⟩), .pointer (some ⟨bb, 0, none⟩)] := by simp
 rw [e];clear e;obtain ⟨best, most⟩ := s;have HS := hid h;obtain ⟨bv, hbb, hbp, hbl⟩ := h.best;obtain ⟨Ab, capb, rfl⟩ := hbp.slice;have q0 : w.cell? ⟨mb, 0, none⟩ = some (.int .i64 most) := h.most.cell 0;have z0 : w.frozen? ⟨mb, 0, none⟩ = false := h.most.frozen 0;have q1 : w.cell? ⟨bb, 0, none⟩ = some (.slice Ab best.length capb) := hbb.cell 0;have z1 : w.frozen? ⟨bb, 0, none⟩ = false := hbb.frozen 0;have q2 := h.offc;obtain ⟨_, _, _, _, _, hne, _⟩ := h.lo;have HP := hid hp;have HPL := hid hpl;have HBP := hid hbp;have HBL := hid hbl;obtain ⟨Ap, capp, rfl⟩ := hp.slice;have hput : ∀ (W1 : World) (v' : Value), Fresh w W1 → W1.ownsRow w.heap.size 3 1 v' (up p).length (intVs (up p)) → AtSt W0 B mb bb ob k g tg (p, (pl : Int)) S ((W1.setCell ⟨bb, 0, none⟩ v').setCell ⟨mb, 0, none⟩ (.int .i64 (pl : Int))) ∧ Mc S S w ((W1.setCell ⟨bb, 0, none⟩ v').setCell ⟨mb, 0, none⟩ (.int .i64 (pl : Int))) := fun W1 v' hf hr => h.put hf hpl hr (pl : Int)
 have HPUT := hid hput;have h1 := h.most.lt;have h2 := hbb.lt;clear h hp hpl hbb hbp hbl hput
 by_cases c1 : k < (pl : Int)
 ·have b1 : decide (k < (pl : Int)) = true := by simp [c1]
  have HR := hid (show atG k (best, most) p pl = (best, most) from by unfold atG; rw [if_pos (.inl c1)]);go_enter Tryz.func57, Tryz.ntmps57;go_wp2_with fail
  first | go_end0 | refine bodyPost_ret (v := .tuple #[]) (results_none rfl _ _ _) rfl ?_
  exact ⟨rfl, S, by rw [HR.out]; exact HS.out, Mc.refl _ _⟩
 ·have b1 : decide (k < (pl : Int)) = false := by simp; omega
  by_cases c2 : (pl : Int) < most
  ·have b2 : decide ((pl : Int) < most) = true := by simp [c2]
   have HR := hid (show atG k (best, most) p pl = (best, most) from by unfold atG; rw [if_pos (.inr c2)]);go_enter Tryz.func57, Tryz.ntmps57;go_wp2_with fail
   first | go_end0 | refine bodyPost_ret (v := .tuple #[]) (results_none rfl _ _ _) rfl ?_
   exact ⟨rfl, S, by rw [HR.out]; exact HS.out, Mc.refl _ _⟩
  ·have b2 : decide ((pl : Int) < most) = false := by simp; omega
   by_cases c3 : most < (pl : Int)
   ·have b3 : decide (most < (pl : Int)) = true := by simp [c3]
    have HR := hid (show atG k (best, most) p pl = (p, (pl : Int)) from by unfold atG; rw [if_neg (by simp; omega), if_pos (.inl c3)]);go_enter Tryz.func57, Tryz.ntmps57;go_wp2_with fail
    refine (ints_any (up p) _ _ HP.out.ints (by have := HPL.out; simp only [List.length_map]; omega)).mono ?_;rintro _ w1 ⟨v', rfl, ho, hf⟩;have HX := hid (HPUT.out w1 v' hf ho);have q0' := hf.cell q0 (fun h => h);have q1' := hf.cell q1 (fun h => h);have z0' := (hf.frozen (p := ⟨mb, 0, none⟩) h1 (fun h => h)).trans z0;have z1' := (hf.frozen (p := ⟨bb, 0, none⟩) h2 (fun h => h)).trans z1;obtain ⟨Av, capv, rfl⟩ : ∃ A c, v' = .slice A (up p).length c := (Ints.own ho).slice;clear q0 q1 q2 z0 z1 ho hf;go_wp2_with fail
    first | go_end0 | refine bodyPost_ret (v := .tuple #[]) (results_none rfl _ _ _) rfl ?_
    exact ⟨rfl, S, by rw [HR.out]; have := HX.out.1; rw [List.length_map] at this; exact this, by have := HX.out.2; rw [List.length_map] at this; exact this⟩
   ·have b3 : decide (most < (pl : Int)) = false := by simp; omega
    by_cases c4 : Tr.cmp p best < 0
    ·have HR := hid (show atG k (best, most) p pl = (p, (pl : Int)) from by unfold atG; rw [if_neg (by simp; omega), if_pos (.inr c4)])
     have b4 : decide (Tr.cmp p best < 0) = true := by simp [c4]
     go_enter Tryz.func57, Tryz.ntmps57;go_wp2_with fail
     refine (pcompare_ints (up p) (up best) _ _ _ HP.out.ints HBP.out.ints (by have := HPL.out; simp only [List.length_map]; unfold maxLen; omega) (by have := HBL.out; simp only [List.length_map]; unfold maxLen; omega)).mono ?_;rw [cmpI_up];rintro _ w0 ⟨rfl, hf0⟩;have HF0 := hid hf0;have HP0 := hid (HP.out.mv (Mv.fresh hf0));have q0' := hf0.cell q0 (fun h => h);have q1' := hf0.cell q1 (fun h => h);have z0' := (hf0.frozen (p := ⟨mb, 0, none⟩) h1 (fun h => h)).trans z0;have z1' := (hf0.frozen (p := ⟨bb, 0, none⟩) h2 (fun h => h)).trans z1;have h1' := Nat.lt_of_lt_of_le h1 hf0.size;have h2' := Nat.lt_of_lt_of_le h2 hf0.size;clear q0 q1 q2 z0 z1 hf0;go_wp2_with fail
     refine (ints_any (up p) _ _ HP0.out.ints (by have := HPL.out; simp only [List.length_map]; omega)).mono ?_;rintro _ w1 ⟨v', rfl, ho, hf⟩;have HX := hid (HPUT.out w1 v' (HF0.out.trans hf) (ownsRow_low ho HF0.out.size));have q0'' := hf.cell q0' (fun h => h);have q1'' := hf.cell q1' (fun h => h);have z0'' := (hf.frozen (p := ⟨mb, 0, none⟩) h1' (fun h => h)).trans z0';have z1'' := (hf.frozen (p := ⟨bb, 0, none⟩) h2' (fun h => h)).trans z1';obtain ⟨Av, capv, rfl⟩ : ∃ A c, v' = .slice A (up p).length c := (Ints.own ho).slice;clear q0' q1' z0' z1' ho hf;go_wp2_with fail
     first | go_end0 | refine bodyPost_ret (v := .tuple #[]) (results_none rfl _ _ _) rfl ?_
     exact ⟨rfl, S, by rw [HR.out]; have := HX.out.1; rw [List.length_map] at this; exact this, by have := HX.out.2; rw [List.length_map] at this; exact this⟩
    ·have HR := hid (show atG k (best, most) p pl = (best, most) from by unfold atG; rw [if_neg (by simp; omega), if_neg (by simp; omega)])
     have b4 : decide (Tr.cmp p best < 0) = false := by simp; omega
     go_enter Tryz.func57, Tryz.ntmps57;go_wp2_with fail
     refine (pcompare_ints (up p) (up best) _ _ _ HP.out.ints HBP.out.ints (by have := HPL.out; simp only [List.length_map]; unfold maxLen; omega) (by have := HBL.out; simp only [List.length_map]; unfold maxLen; omega)).mono ?_;rw [cmpI_up];rintro _ w0 ⟨rfl, hf0⟩;have HF0 := hid hf0;clear hf0;go_wp2_with fail
     first | go_end0 | refine bodyPost_ret (v := .tuple #[]) (results_none rfl _ _ _) rfl ?_
     exact ⟨rfl, S, by rw [HR.out]; exact HS.out.touch (HF0.out.mono fun _ h => h.elim), ⟨HF0.out.mono fun _ h => h.elim, fun _ h => .inl h⟩⟩
def atCls (W0 : World) (B mb bb ob : Nat) (k : Int) : Cls (List Nat × Int) Unit :=
 ⟨offC (atG k), 56, #[], 57, #[.pointer (some ⟨ob, 0, none⟩), .pointer (some ⟨mb, 0, none⟩), .pointer (some ⟨bb, 0, none⟩)], AtSt W0 B mb bb ob k, fun _ _ _ _ _ d cd => d = 85 ∧ cd = #[], fun _ => True, fun _ _ => True⟩
theorem atCls_good (W0 : World) (B mb bb ob : Nat) (k : Int) (n : Nd) (hc : Tr.count n ≤ 1000) (g tg : Nat) (tv : Value) (hg : W0.heap.size ≤ g) : ((atCls W0 B mb bb ob k).wk W0 g tg tv (printT n)).Good where
 len := printT_len_le n hc
 place := printT_place n hc
 far := hg
 lt := fun s S w b h hb => by
  have h' : AtSt W0 B mb bb ob k g tg s S w := h;obtain ⟨l1, l2, l3, l4, _⟩ := h'.lo;have h1 := h'.most.lt;obtain ⟨bv, h2, _⟩ := h'.best;have h2 := h2.lt;have h3 := h'.hg;have h4 := h'.htg;show W0.heap.size ≤ b ∧ b < w.heap.size ∧ b ≠ g ∧ b ≠ tg
  rcases (h'.own b).1 hb with rfl | rfl <;> omega
 stmv := fun s S w w' h ht => by
  have h' : AtSt W0 B mb bb ob k g tg s S w := h;exact h'.touch ht
 dnmv := fun q S S' w w' d cd h _ => h
 off := fun s S w p v pl h hp hpl _ _ => at1_any h pl hp hpl
 item := fun s S w p v pl h hp hpl _ _ => (noItem_any v pl w).mono fun e w' ⟨he, hw⟩ => by
  subst hw;exact ⟨_, _, S, he, h, Mc.refl _ _, rfl, rfl⟩
 done := fun s S w q d cd pl h hd _ _ _ => by
  obtain ⟨rfl, rfl⟩ := hd;exact (noItem1_any pl w).mono fun e w' ⟨he, hw⟩ => by subst hw; exact ⟨he, S, h, Mc.refl _ _⟩
 kp0 := fun _ _ _ => trivial
 kpo := fun _ _ _ _ _ => trivial
 kpi := fun _ _ _ _ _ => trivial
 kpd := fun _ _ _ _ _ => trivial
 limo := fun _ _ _ _ => trivial
 limi := fun _ _ _ _ => trivial
 limd := fun _ _ _ _ => trivial
 callo := fun _ _ => by kernel_rfl
 calli := fun _ _ => by kernel_rfl
 calld := fun q S w d cd hd => by
  obtain ⟨rfl, rfl⟩ := hd;exact fun _ _ => by kernel_rfl
def atP (n : Nd) (k : Int) : List Nat := if Tr.valid n = true ∧ 0 ≤ k ∧ k ≤ (printS n).length then ((posRow (printT n) n.kids [] 0 0).foldl (fun s x => atG k s x.1 x.2) ([], -1)).1 else []
def atE (n : Nd) (k : Int) : Int := if Tr.valid n = true then (if 0 ≤ k ∧ k ≤ (printS n).length then 0 else 2) else 1
def AtOf (n : Nd) (k : Int) (w : World) (e : Ending) (w' : World) : Prop := ∃ v, e = .returned (.tuple #[v, .int .i64 (atE n k)]) ∧ Ints w' v (up (atP n k)) ∧ Fresh w w'
theorem printS_le (n : Nd) (hc : Tr.count n ≤ 1000) : (printS n).length ≤ 2000000 := by
 unfold printS;split
 ·rename_i h
  have hf := (row_fits n (Tr.valid_row n h) (by omega)).2;rw [adds_wtext] at hf;exact hf
 ·simp
theorem at_any (n : Nd) (sl : Value) (k : Int) (w : World) (hsl : RepL w n.kids sl) (ht : n.text.length ≤ maxLen) (hc : Tr.count n ≤ 1000) :
  Calls Tryz.prog 28 #[nv n sl, .int .i64 k] w (AtOf n k w) := by
 obtain ⟨A, cap, rfl⟩ := hsl.slice;have HSL := hid hsl;have HC := hid hc;have HPR := hid (fun (w : World) (hr : RepL w n.kids (.slice A n.kids.length cap)) => print_any n _ w hr ht hc);have HPL := hid (printS_le n hc);have hmf : ∀ (fn : Fn) (first cap : Array Value) (w : World), (Instr.makeFunc fn first cap).run Tryz.prog w = .ok (.func fn first cap) w := fun _ _ _ _ => rfl
 clear hsl hc;cases hv : Tr.valid n with
 | false =>
  have HE := hid (show printE n = 1 from by unfold printE; rw [hv]; rfl);have HA := hid (show atE n k = 1 ∧ atP n k = [] from by unfold atE atP; rw [hv]; simp);clear hv;go_enter Tryz.func28, Tryz.ntmps28;go_wp2_with fail
  refine (HPR.out _ (HSL.out.fresh (((Touch.refl _ _).alloc _).alloc _))).mono ?_;rintro _ w1 ⟨rfl, hf⟩;have HF := hid (show Fresh w w1 from Touch.pre (Touch.pre hf));clear hf;rw [HE.out];go_wp2_with fail
  go_ret2;exact ⟨.slice none 0 0, by rw [HA.out.1]; rfl, by rw [HA.out.2]; exact Ints.nil _ _ _, HF.out⟩
 | true =>
  have HV := hid hv;have HE := hid (show printE n = 0 from by unfold printE; rw [hv]; rfl);clear hv;have hsz : (⟨(printS n).toArray⟩ : ByteArray).size = (printS n).length := by simp [ByteArray.size]
  by_cases c1 : k < 0
  ·have b1 : decide (k < 0) = true := by simp [c1]
   have HA := hid (show atE n k = 2 ∧ atP n k = [] from by unfold atE atP; rw [if_pos HV.out, if_neg (by omega), if_neg (by omega)]; exact ⟨rfl, rfl⟩);go_enter Tryz.func28, Tryz.ntmps28;go_wp2_with fail
   refine (HPR.out _ (HSL.out.fresh (((Touch.refl _ _).alloc _).alloc _))).mono ?_;rintro _ w1 ⟨rfl, hf⟩;have HF := hid (show Fresh w w1 from Touch.pre (Touch.pre hf));have q1 : w1.cell? ⟨w.heap.size + 1, 0, none⟩ = some (.int .i64 k) := (hf.blk (Blk.new2 w _ _ _) (fun h => h)).cell 0;clear hf;rw [HE.out];go_wp2_with fail
   go_ret2;exact ⟨.slice none 0 0, by rw [HA.out.1]; rfl, by rw [HA.out.2]; exact Ints.nil _ _ _, HF.out⟩
  ·have b1 : decide (k < 0) = false := by simp; omega
   by_cases c2 : ((printS n).length : Int) < k
   ·have b2 : decide (((printS n).length : Int) < k) = true := by simp [c2]
    have HA := hid (show atE n k = 2 ∧ atP n k = [] from by unfold atE atP; rw [if_pos HV.out, if_neg (by omega), if_neg (by omega)]; exact ⟨rfl, rfl⟩);go_enter Tryz.func28, Tryz.ntmps28;go_wp2_with fail
    refine (HPR.out _ (HSL.out.fresh (((Touch.refl _ _).alloc _).alloc _))).mono ?_;rintro _ w1 ⟨rfl, hf⟩;have HF := hid (show Fresh w w1 from Touch.pre (Touch.pre hf));have q1 : w1.cell? ⟨w.heap.size + 1, 0, none⟩ = some (.int .i64 k) := (hf.blk (Blk.new2 w _ _ _) (fun h => h)).cell 0;clear hf;rw [HE.out];go_wp2_with fail
    go_ret2;exact ⟨.slice none 0 0, by rw [HA.out.1]; rfl, by rw [HA.out.2]; exact Ints.nil _ _ _, HF.out⟩
   ·have b2 : decide (((printS n).length : Int) < k) = false := by simp; omega
    have HA := hid (show atE n k = 0 ∧ atP n k = ((posRow (printT n) n.kids [] 0 0).foldl (fun s x => atG k s x.1 x.2) ([], -1)).1 from by unfold atE atP; rw [if_pos HV.out, if_pos (by omega), if_pos ⟨HV.out, by omega⟩]; exact ⟨rfl, rfl⟩);go_enter Tryz.func28, Tryz.ntmps28;go_wp2_with fail
    refine (HPR.out _ (HSL.out.fresh (((Touch.refl _ _).alloc _).alloc _))).mono ?_;rintro _ w1 ⟨rfl, hf⟩;have HF := hid (show Fresh w w1 from Touch.pre (Touch.pre hf));have q1 : w1.cell? ⟨w.heap.size + 1, 0, none⟩ = some (.int .i64 k) := (hf.blk (Blk.new2 w _ _ _) (fun h => h)).cell 0;obtain ⟨p0, p1, p2, p3, _, _, _, _, hp4⟩ := Blk.four (hf.blk ((Blk.new w _ _).alloc _) (fun h => h));have hg1 : w.heap.size + 1 < w1.heap.size := (hf.blk (Blk.new2 w _ _ _) (fun h => h)).lt;clear hf;rw [HE.out];go_wp2_with fail
    have hf2 : Fresh w1 ((w1.alloc (.cells #[.slice none 0 0] 46)).alloc (.cells #[.int .i64 (-1)] 3)) := ((Touch.refl _ _).alloc _).alloc _;have hbm : Blk ((w1.alloc (.cells #[.slice none 0 0] 46)).alloc (.cells #[.int .i64 (-1)] 3)) (w1.heap.size + 1) 3 #[.int .i64 (-1)] := Blk.new2 _ _ _ _;have hbb : Blk ((w1.alloc (.cells #[.slice none 0 0] 46)).alloc (.cells #[.int .i64 (-1)] 3)) w1.heap.size 46 #[.slice none 0 0] := (Blk.new _ _ _).alloc _;generalize ((w1.alloc (.cells #[.slice none 0 0] 46)).alloc (.cells #[.int .i64 (-1)] 3)) = W2 at hf2 hbm hbb ⊢;have HF2 := hid (HF.out.trans hf2);have q2 := hf2.cell q1 (fun h => h)
    have HOS := hid (fun (g tg : Nat) (w' : World) (h1 : W2.heap.size ≤ g) (h2 : W2.heap.size ≤ tg) (h3 : g < w'.heap.size) (hf : Fresh W2 w') => (show AtSt w W2.heap.size (w1.heap.size + 1) w1.heap.size (w.heap.size + 1) k g tg ([], -1) (fun b => b = w1.heap.size + 1 ∨ b = w1.heap.size) w' from
     ⟨fun b => Iff.rfl, hf.blk hbm (fun h => h), ⟨_, hf.blk hbb (fun h => h), PathIn.nil _ _ _, by simp⟩, hf.cell q2 (fun h => h), by have := hbm.lt; have := HF.out.size; refine ⟨?_, ?_, ?_, ?_, ?_, ?_, ?_, ?_, ?_⟩ <;> omega, h1, h2, h3⟩))
    clear hf2 hbm hbb;refine (walk_ok (atCls w W2.heap.size (w1.heap.size + 1) w1.heap.size (w.heap.size + 1) k) w n _ W2 ([], -1) _ HV.out HC.out ht ((Low.fresh (Touch.refl _ _) HF2.out)) HSL.out (fun g tg tv hg => atCls_good _ _ _ _ _ _ n HC.out g tg tv hg) (fun g tg w' h1 h2 h3 _ hf => HOS.out g tg w' h1 h2 h3 hf) trivial).mono ?_;rintro _ w3 ⟨rfl, g, tg, S3, hg, hst, hlow, hmv⟩;have hst' : AtSt w W2.heap.size (w1.heap.size + 1) w1.heap.size (w.heap.size + 1) k g tg (runRow (offC (atG k)) (printT n) n.kids [] 0 0 ([], -1)) S3 w3 := hst;rw [(Tr.off_run (atG k) (printT n)).1] at hst';have HF3 := hid (low_fresh hlow);obtain ⟨bv, hbb3, hbp3, _⟩ := hst'.best;rw [← HA.out.2] at hbp3;have HI3 := hid hbp3.ints;obtain ⟨Ab, capb, rfl⟩ := hbp3.slice;have r0 : w3.cell? ⟨w1.heap.size, 0, none⟩ = some (.slice Ab (atP n k).length capb) := hbb3.cell 0;clear hst' hst hmv hlow hbb3 hbp3 q1 q2 p0 p1 p2 p3;go_wp2_with fail
    go_ret2;exact ⟨_, by rw [HA.out.1]; rfl, HI3.out, HF3.out⟩
end Go.Proofs.YtncnoeoicaglaaaGreat
namespace Go.Proofs.YtncnoeoicaglaaaGreat
open Go.RowKit
open Tr (Nd)
theorem RepL.leaf1 {W : World} {g : Nat} {k : Int} {s : List UInt8} (h : Blk W g 26 #[.int .i64 k, .string ⟨s.toArray⟩, .int .i64 0, .slice none 0 0]) (hs : s.length ≤ maxLen) : RepL W [.mk k s 0 []] (.slice (some ⟨g, 0, none⟩) 1 1) := by
 refine RepL.row g 0 1 [.mk k s 0 []] (fun _ => .slice none 0 0) h.lt (show 1 ≤ maxLen by decide) ?_ ?_ ?_ ?_ ?_ ?_
 all_goals (intro i hi; obtain rfl : i = 0 := by simpa using hi)
 ·exact hs
 ·exact h.cell 0
 ·exact h.cell 1
 ·exact h.cell 2
 ·exact h.cell 3
 ·exact .nil _ _
theorem RepL.kid1 {W : World} {g : Nat} {k c : Int} {s : List UInt8} {ks : List Nd} {v : Value} (h : Blk W g 26 #[.int .i64 k, .string ⟨s.toArray⟩, .int .i64 c, v]) (hs : s.length ≤ maxLen) (hk : RepL W ks v) : RepL W [.mk k s c ks] (.slice (some ⟨g, 0, none⟩) 1 1) := by
 refine RepL.row g 0 1 [.mk k s c ks] (fun _ => v) h.lt (show 1 ≤ maxLen by decide) ?_ ?_ ?_ ?_ ?_ ?_
 all_goals (intro i hi; obtain rfl : i = 0 := by simpa using hi)
 ·exact hs
 ·exact h.cell 0
 ·exact h.cell 1
 ·exact h.cell 2
 ·exact h.cell 3
 ·exact hk
theorem RepL.kid2 {W : World} {g : Nat} {k c k' c' : Int} {s s' : List UInt8} {ks ks' : List Nd} {v v' : Value} (h : Blk W g 26 #[.int .i64 k, .string ⟨s.toArray⟩, .int .i64 c, v, .int .i64 k', .string ⟨s'.toArray⟩, .int .i64 c', v']) (hs : s.length ≤ maxLen) (hs' : s'.length ≤ maxLen)
  (hk : RepL W ks v) (hk' : RepL W ks' v') : RepL W [.mk k s c ks, .mk k' s' c' ks'] (.slice (some ⟨g, 0, none⟩) 2 2) := by
 refine RepL.row g 0 2 [.mk k s c ks, .mk k' s' c' ks'] (fun i => if i = 0 then v else v') h.lt (show 2 ≤ maxLen by decide) ?_ ?_ ?_ ?_ ?_ ?_
 all_goals (intro i hi; have hi2 : i < 2 := (by simpa using hi); obtain rfl | rfl : i = 0 ∨ i = 1 := by omega)
 ·exact hs
 ·exact hs'
 ·exact h.cell 0
 ·exact h.cell 4
 ·exact h.cell 1
 ·exact h.cell 5
 ·exact h.cell 2
 ·exact h.cell 6
 ·exact h.cell 3
 ·exact h.cell 7
 ·exact hk
 ·exact hk'
theorem rcompare_ints (a b : List Int) (va vb : Value) (w : World) (h1 : Ints w va a) (h2 : Ints w vb b) (ha : a.length ≤ maxLen) (_hb : b.length ≤ maxLen) :
  Calls Tryz.prog 59 #[va, vb] w fun e w' => e = .returned (.int .i64 (cmpI a b)) ∧ Fresh w w' := by
 unfold maxLen at ha _hb;obtain ⟨A, cap, rfl⟩ := h1.slice;obtain ⟨B, cbp, rfl⟩ := h2.slice;have HA := hid h1;have HB := hid h2;clear h1 h2;go_enter Tryz.func59, Tryz.ntmps59;go_wp2_with fail
 go_loopw [5] (fun i wr => ∃ j : Nat, i = .int .i64 j ∧ j ≤ a.length ∧ j ≤ b.length ∧ Hid (cmpI (a.drop j) (b.drop j) = cmpI a b) ∧ Hid (Fresh w wr)) (fun i _ => a.length - (intOf i).toNat)
 case atStart => exact ⟨0, rfl, Nat.zero_le _, Nat.zero_le _, rfl, Touch.refl _ _⟩
 case round =>
  obtain ⟨j, rfl, hj, hjb, HT, HF⟩ := hrel
  by_cases c1 : j < a.length
  ·have d1 : decide ((j : Int) < (a.length : Int)) = true := by simp; omega
   have d1' : (j : Int) < (a.length : Int) := by omega
   by_cases c2 : j < b.length
   ·have d2 : decide ((j : Int) < (b.length : Int)) = true := by simp; omega
    have d2' : (j : Int) < (b.length : Int) := by omega
    obtain ⟨g, o, rfl, _, m0⟩ := HA.out.get j c1;obtain ⟨g', o', rfl, _, n0⟩ := HB.out.get j c2
    have HS := hid (show cmpI a b = if a[j] < b[j] then -1 else if b[j] < a[j] then 1 else cmpI (a.drop (j + 1)) (b.drop (j + 1)) by
     rw [← HT.out, List.drop_eq_getElem_cons c1, List.drop_eq_getElem_cons c2, cmpI])
    have a0 := HF.out.cell m0 (fun h => h);have b1 := HF.out.cell n0 (fun h => h);clear m0 n0;generalize a[j] = x at *;generalize b[j] = y at *
    by_cases c3 : x < y
    ·have d3 : decide (x < y) = true := by simp [c3]
     go_wp2_with fail
     go_quiet (fail)
     go_wp2_with fail
     go_ret;exact ⟨by rw [HS.out, if_pos (by omega)]; rfl, HF.out.drewN _⟩
    ·have d3 : decide (x < y) = false := by simp; omega
     by_cases c4 : y < x
     ·have d4 : decide (y < x) = true := by simp [c4]
      go_wp2_with fail
      go_quiet (fail)
      go_wp2_with fail
      go_quiet (fail)
      go_wp2_with fail
      go_ret;exact ⟨by rw [HS.out, if_neg (by omega), if_pos (by omega)]; rfl, by first | exact HF.out.drewN _ | exact (HF.out.drewN _).drewN _⟩
     ·have d4 : decide (y < x) = false := by simp; omega
      go_wp2_with fail
      go_quiet (fail)
      go_wp2_with fail
      go_quiet (fail)
      go_wp2_with fail
      go_roundw
      case rel => exact ⟨j + 1, by go_num, c1, c2, by unfold Hid; rw [HS.out, if_neg (by omega), if_neg (by omega)], by first | exact HF.out.drewN _ | exact (HF.out.drewN _).drewN _⟩
      case measure => simp [intOf]; omega
   ·have d2 : decide ((j : Int) < (b.length : Int)) = false := by simp; omega
    have HR := hid (show cmpI a b = 1 by
     rw [← HT.out, List.drop_eq_getElem_cons c1, List.drop_eq_nil_of_le (show b.length ≤ j by omega)]; rfl)
    have e1 : decide ((a.length : Int) < (b.length : Int)) = false := by simp; omega
    have e2 : decide ((b.length : Int) < (a.length : Int)) = true := by simp; omega
    have e1n : decide (a.length < b.length) = false := by simp; omega
    have e2n : decide (b.length < a.length) = true := by simp; omega
    go_wp2_with fail
    go_ret;exact ⟨by rw [HR.out]; rfl, HF.out⟩
  ·have d1 : decide ((j : Int) < (a.length : Int)) = false := by simp; omega
   obtain rfl : j = a.length := by omega
   by_cases c2 : a.length < b.length
   ·have d2 : decide ((a.length : Int) < (b.length : Int)) = true := by simp; omega
    have d2n : decide (a.length < b.length) = true := by simp; omega
    have HR := hid (show cmpI a b = -1 by
     rw [← HT.out, List.drop_eq_nil_of_le (Nat.le_refl _), List.drop_eq_getElem_cons c2]; rfl)
    go_wp2_with fail
    go_ret;exact ⟨by rw [HR.out]; rfl, HF.out⟩
   ·have d2 : decide ((a.length : Int) < (b.length : Int)) = false := by simp; omega
    have d2n : decide (a.length < b.length) = false := by simp; omega
    have d3 : decide ((b.length : Int) < (a.length : Int)) = false := by simp; omega
    have d3n : decide (b.length < a.length) = false := by simp; omega
    have HR := hid (show cmpI a b = 0 by
     rw [← HT.out, List.drop_eq_nil_of_le (Nat.le_refl _), List.drop_eq_nil_of_le (by omega)]; rfl)
    go_wp2_with fail
    go_ret;exact ⟨by rw [HR.out]; rfl, HF.out⟩
theorem cmpI_zero : ∀ a b : List Int, cmpI a b = 0 ↔ a = b
 | [], [] => by simp [cmpI]
 | [], _ :: _ => by simp [cmpI]
 | _ :: _, [] => by simp [cmpI]
 | a :: l, b :: m => by
  rw [cmpI]
  by_cases h1 : a < b
  ·rw [if_pos h1]; simp; intro e; omega
  ·rw [if_neg h1]
   by_cases h2 : b < a
   ·rw [if_pos h2]; simp; intro e; omega
   ·rw [if_neg h2, cmpI_zero l m, List.cons.injEq]
    have : a = b := by omega
    simp [this]
theorem rsame_ints (a b : List Int) (va vb : Value) (w : World) (h1 : Ints w va a) (h2 : Ints w vb b) (ha : a.length ≤ maxLen) (hb : b.length ≤ maxLen) :
  Calls Tryz.prog 29 #[va, vb] w fun e w' => e = .returned (.bool (decide (a = b))) ∧ Fresh w w' := by
 cases hd : (cmpI a b == 0) with
 | true =>
  have HD := hid (show decide (a = b) = true from by rw [decide_eq_true_eq, ← cmpI_zero]; simpa using hd);go_enter Tryz.func29, Tryz.ntmps29;go_wp2_with fail
  refine (rcompare_ints a b va vb _ h1 h2 ha hb).mono ?_;rintro _ w1 ⟨rfl, hf⟩;go_wp2_with fail
  go_ret;exact ⟨by rw [HD.out]; rfl, hf⟩
 | false =>
  have HD := hid (show decide (a = b) = false from by rw [decide_eq_false_iff_not, ← cmpI_zero]; simpa using hd);go_enter Tryz.func29, Tryz.ntmps29;go_wp2_with fail
  refine (rcompare_ints a b va vb _ h1 h2 ha hb).mono ?_;rintro _ w1 ⟨rfl, hf⟩;go_wp2_with fail
  go_ret;exact ⟨by rw [HD.out]; rfl, hf⟩
theorem few22_any (n : Tr.Nd) (sl : Value) (w : World) (hr : RepL w n.kids sl) :
  Calls Tryz.prog 12 #[nv n sl] w fun e w' => e = .returned (.bool (decide ((Tr.count n : Int) ≤ 60))) ∧ Fresh w w' := by
 have HR := hid hr;clear hr;go_enter Tryz.func12, Tryz.ntmps12;go_wp2_with fail
 refine (few_any n sl 60 _ (HR.out.fresh ((Touch.refl _ _).alloc _)) (by decide) (by decide)).mono ?_;rintro _ w1 ⟨rfl, hf⟩;have HF := hid (Touch.pre hf);clear hf;go_wp2_with fail
 go_ret;exact ⟨rfl, HF.out⟩
def rootTree : Nd := .mk 1 [] 0 [.mk 6 [] 0 [.mk 1 [] 0 [], .mk 1 [] 0 [.mk 2 [120] 0 []]]]
theorem root_off : offR rootTree [0, 0, 0] = (5, 0) := by decide +kernel
theorem root_at : atE rootTree 6 = 0 ∧ atP rootTree 6 = [0, 1, 0] := by decide +kernel
theorem awk22_any (A : Option Addr) (n cap : Nat) (w : World) :
  Calls Tryz.prog 26 #[.slice A n cap] w fun e w' => e = .returned (.agg #[.int .i64 1, .string ⟨#[]⟩, .int .i64 0, .slice A n cap]) ∧ Fresh w w' := by
 go_enter Tryz.func26, Tryz.ntmps26;go_wp2_with fail
 exact bodyPost_ret (v := .agg #[.int .i64 1, .string ⟨#[]⟩, .int .i64 0, .slice A n cap]) (by simp [results, Tryz.results26, go_sem]) rfl ⟨rfl, (Touch.refl _ _).alloc _⟩
theorem Ints.blk {w : World} {g : Nat} {t : TypeId} (l : List Int) (h : Blk w g t (intVs l).toArray) : Ints w (.slice (some ⟨g, 0, none⟩) l.length l.length) l :=
 ⟨_, _, rfl, .inr ⟨g, 0, rfl, h.lt, fun i hi => by rw [Nat.zero_add, h.cell]; simp [hi]⟩⟩
theorem awake22_any (w : World) : Calls Tryz.prog 11 #[] w fun e w' => e = .returned (.bool true) ∧ Fresh w w' := by
 have HO := hid root_off;have HA := hid root_at;go_enter Tryz.func11, Tryz.ntmps11;go_wp2_with fail
 refine (awk22_any _ _ _ _).mono ?_;rintro _ w1 ⟨rfl, hf1⟩;have HF1 := hid hf1;clear hf1;go_wp2_with fail
 have HB1 := hid (show Blk (w1.alloc (.cells #[.int .i64 2, .string ⟨#[120]⟩, .int .i64 0, .slice none 0 0] 26)) w1.heap.size 26 #[.int .i64 2, .string ⟨#[120]⟩, .int .i64 0, .slice none 0 0] from Blk.new _ _ _);have HF1' := hid (show Fresh w (w1.alloc (.cells #[.int .i64 2, .string ⟨#[120]⟩, .int .i64 0, .slice none 0 0] 26)) from HF1.out.alloc _);refine (awk22_any _ _ _ _).mono ?_;rintro _ w2 ⟨rfl, hf2⟩;have HF2 := hid (HF1'.out.trans hf2);have HB2 := hid (hf2.blk HB1.out (fun h => h));clear hf2;go_wp2_with fail
 have HB3 := hid (show RepL ((w2.alloc (.cells #[.int .i64 1, .string ⟨#[]⟩, .int .i64 0, .slice none 0 0, .int .i64 1, .string ⟨#[]⟩, .int .i64 0, .slice (some ⟨w1.heap.size, 0, none⟩) 1 1] 26)).alloc (.cells #[.int .i64 6, .string ⟨#[]⟩, .int .i64 0, .slice (some ⟨w2.heap.size, 0, none⟩) 2 2] 26)) rootTree.kids (.slice (some ⟨w2.heap.size + 1, 0, none⟩) 1 1) from
  RepL.kid1 (k := 6) (s := []) (c := 0) (ks := [.mk 1 [] 0 [], .mk 1 [] 0 [.mk 2 [120] 0 []]]) (Blk.new2 _ _ _ _) (by decide)
   (RepL.kid2 (k := 1) (s := []) (c := 0) (k' := 1) (s' := []) (c' := 0) (ks := []) (ks' := [.mk 2 [120] 0 []]) ((Blk.new _ _ _).alloc _) (by decide) (by decide) (.nil _ _) (RepL.leaf1 ((HB2.out.alloc _).alloc _) (by decide))))
 have HF3 := hid (show Fresh w ((w2.alloc (.cells #[.int .i64 1, .string ⟨#[]⟩, .int .i64 0, .slice none 0 0, .int .i64 1, .string ⟨#[]⟩, .int .i64 0, .slice (some ⟨w1.heap.size, 0, none⟩) 1 1] 26)).alloc (.cells #[.int .i64 6, .string ⟨#[]⟩, .int .i64 0, .slice (some ⟨w2.heap.size, 0, none⟩) 2 2] 26)) from (HF2.out.alloc _).alloc _);refine (awk22_any _ _ _ _).mono ?_;rintro _ w3 ⟨rfl, hf3⟩;have HR3 := hid (HB3.out.fresh hf3);have HF4 := hid (HF3.out.trans hf3);clear hf3;go_wp2_with fail
 generalize hW : ((w3.alloc (.cells #[.int .i64 1, .string ⟨#[]⟩, .int .i64 0, .slice (some ⟨w2.heap.size + 1, 0, none⟩) 1 1] 26)).alloc (.cells #[.int .i64 0, .int .i64 0, .int .i64 0] 3)) = W4;have hf4 : Fresh w3 W4 := by rw [← hW]; exact ((Touch.refl _ _).alloc _).alloc _
 have hb4 : Blk W4 w3.heap.size 26 #[.int .i64 1, .string ⟨#[]⟩, .int .i64 0, .slice (some ⟨w2.heap.size + 1, 0, none⟩) 1 1] := by rw [← hW]; exact (Blk.new _ _ _).alloc _
 have hi4 : Blk W4 (w3.heap.size + 1) 3 #[.int .i64 0, .int .i64 0, .int .i64 0] := by rw [← hW]; exact Blk.new2 _ _ _ _
 refine (offset_any rootTree _ _ [0, 0, 0] W4 (HR3.out.fresh hf4) (by decide) (by decide) (Ints.blk [0, 0, 0] hi4) (by decide)).mono ?_;rw [HO.out];rintro _ w5 ⟨rfl, hf5⟩;have HF5 := hid ((HF4.out.trans hf4).trans hf5);have HR5 := hid ((HR3.out.fresh hf4).fresh hf5);obtain ⟨q0, q1, q2, q3, _, _, _, _, hg5⟩ := Blk.four (hf5.blk hb4 (fun h => h));clear hW hf4 hb4 hi4 hf5;go_wp2_with fail
 refine (at_any rootTree _ 6 w5 HR5.out (by decide) (by decide)).mono ?_;rintro _ w6 ⟨v6, rfl, hi6, hf6⟩;rw [HA.out.1];rw [HA.out.2] at hi6;have HI6 := hid hi6;have HF6 := hid (HF5.out.trans hf6);obtain ⟨A6, cap6, rfl⟩ := hi6.slice;clear hi6 hf6 q0 q1 q2 q3;go_wp2_with fail
 refine (rsame_ints (up [0, 1, 0]) [0, 1, 0] _ _ _ (HI6.out.fresh ((Touch.refl _ _).alloc _)) (Ints.blk [0, 1, 0] (Blk.new _ _ _)) (by decide) (by decide)).mono ?_;rintro _ w7 ⟨rfl, hf7⟩;have HF7 := hid (HF6.out.trans (Touch.pre hf7));clear hf7;go_wp2_with fail
 go_ret;exact ⟨ret_bool' _ _ (by decide), HF7.out⟩
end Go.Proofs.YtncnoeoicaglaaaGreat
namespace Go.Proofs.YtncnoeoicaglaaaGreat
open Go.RowKit
open Tr (Nd)
open Np (R)
def noNd : Nd := .mk 0 [] 0 []
def pN : R (List Nd) → Nd
 | .ok items _ => if Tr.valid (Np.slot items) then Np.slot items else noNd
 | _ => noNd
def pI : R (List Nd) → Nat
 | .err i _ => i
 | _ => 0
def pE : R (List Nd) → Nat
 | .ok items _ => if Tr.valid (Np.slot items) then 0 else 6
 | .err _ e => e
 | .out => 0
theorem parse_call (s : ByteArray) (w : World) (hm : s.size ≤ 1000000000) (hc : (Lx.lexAll s.data.toList).1.length ≤ 8000) : Calls Tryz.prog 6 #[.string s, .pointer none] w fun e w' =>
  ∃ A cap, e = .returned (.tuple #[nv (pN (parseS s.data.toList)) (.slice A (pN (parseS s.data.toList)).kids.length cap), .int .i64 (pI (parseS s.data.toList) : Int), .int .i64 (pE (parseS s.data.toList) : Int)]) ∧ RepL w' (pN (parseS s.data.toList)).kids (.slice A (pN (parseS s.data.toList)).kids.length cap) ∧ Fresh w w' := by
 refine (parseX_any s w hm hc).mono ?_;intro e w' h;have hne := parseS_ends s.data.toList;generalize parseS s.data.toList = X at h hne;cases X with
 | out => exact absurd rfl hne
 | err i er =>
  obtain ⟨_, rfl, hf⟩ := h;exact ⟨none, 0, rfl, .nil _ _, hf⟩
 | ok items rest =>
  rcases h with ⟨hv, A, cp, rfl, htr, hf⟩ | ⟨hv, rfl, hf⟩
  ·have e1 : pN (.ok items rest) = Np.slot items := by simp [pN, hv]
   have e2 : pE (.ok items rest) = 0 := by simp [pE, hv]
   rw [e1, e2];exact ⟨A, cp, rfl, htr.rep, hf⟩
  ·have e1 : pN (.ok items rest) = noNd := by simp [pN, hv]
   have e2 : pE (.ok items rest) = 6 := by simp [pE, hv]
   rw [e1, e2];exact ⟨none, 0, rfl, .nil _ _, hf⟩
theorem count_rep {n : Nd} : Tr.eqN n n = true := (Tr.eqN_iff n n).2 rfl
theorem valid_count {n : Nd} (h : Tr.valid n = true) : Tr.count n ≤ 1000 := by
 unfold Tr.valid at h;simp only [Bool.and_eq_true, decide_eq_true_eq] at h;exact h.1.2
theorem parse_of_print (n : Nd) (w : World) (hv : Tr.valid n = true) (hc : Tr.count n ≤ 1000) : Calls Tryz.prog 6 #[.string ⟨(printS n).toArray⟩, .pointer none] w fun e w' =>
  ∃ A cap, e = .returned (.tuple #[nv n (.slice A n.kids.length cap), .int .i64 0, .int .i64 0]) ∧ RepL w' n.kids (.slice A n.kids.length cap) ∧ Fresh w w' := by
 have hr := Tr.valid_row n hv;have hp : printS n = Tr.wtext (Tr.rowT n.kids) := by unfold printS; rw [if_pos hv]
 have hx : parseS (printS n) = .ok n.kids [] := by rw [hp]; exact parse_printed n hr
 have hl := printed_len n hr;have ht := printed_toks n hr;rw [← hp] at hl ht;have h := parse_call ⟨(printS n).toArray⟩ w (by show (printS n).toArray.size ≤ _; rw [List.size_toArray]; omega) (by show (Lx.lexAll (printS n)).1.length ≤ _; omega);have e0 : (⟨(printS n).toArray⟩ : ByteArray).data.toList = printS n := rfl;rw [e0, hx] at h;have e1 : pN (.ok n.kids []) = n := by simp [pN, slot_row n hr, hv]
 have e2 : pE (.ok n.kids []) = 0 := by simp [pE, slot_row n hr, hv]
 rw [e1, e2] at h;exact h
end Go.Proofs.YtncnoeoicaglaaaGreat
