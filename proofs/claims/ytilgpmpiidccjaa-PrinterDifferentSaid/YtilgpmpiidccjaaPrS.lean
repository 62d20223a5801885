/- The printer's row. -/
import Derived.Test.YtilgpmpiidccjaaPrQ
import Derived.Test.YtilgpmpiidccjaaPrA
namespace Go.Proofs.Ytilgpmpiidccjaa
open Go.RowKit
open Tr (Nd argT baseT rowT itemT)

theorem Fits.mid {a b c : List Lx.Tok} {toks : List Lx.PTok} {txt : List UInt8} (h : Fits (a ++ (b ++ c)) toks txt) : Fits b (adds a toks txt).1 (adds a toks txt).2 := h.right.left

/-- The method of an item's kind adds the tokens of the item. -/
def ItemE (W0 : World) (p B : Nat) (x : Nd) : Prop :=
  ∃ fid : Nat, (∀ w : World, (Instr.index 105 (.agg visitCells) (.int .i64 x.kind)).run Try.prog w = .ok (.func (.func fid) #[] #[]) w) ∧
    (∀ (a : Array Value) (w : World), (callFunc fid a).run Try.prog w = .ok (.enter fid a) w) ∧
    ∀ sx, RepL W0 x.kids sx → Emits fid #[pp p, nv x sx] W0 p B (itemT x)

theorem rowT_take (l : List Nd) (j : Nat) (h : j < l.length) : rowT (l.take (j + 1)) = rowT (l.take j) ++ itemT l[j] := by
  induction l generalizing j with
  | nil => simp at h
  | cons x l ih =>
    cases j with
    | zero => simp [Tr.rowT_cons, Tr.rowT_nil]
    | succ j =>
      simp only [List.take_succ_cons, Tr.rowT_cons, List.getElem_cons_succ]
      rw [ih j (by simpa using h), List.append_assoc]
theorem rowT_split (l : List Nd) (j : Nat) (h : j < l.length) : ∃ r, rowT l = rowT (l.take j) ++ (itemT l[j] ++ r) := by
  induction l generalizing j with
  | nil => simp at h
  | cons x l ih =>
    cases j with
    | zero => exact ⟨rowT l, by simp [Tr.rowT_cons, Tr.rowT_nil]⟩
    | succ j =>
      obtain ⟨r, hr⟩ := ih j (by simpa using h)
      refine ⟨r, ?_⟩
      simp only [List.take_succ_cons, Tr.rowT_cons, List.getElem_cons_succ]
      rw [hr, List.append_assoc]

set_option maxRecDepth 100000 in
set_option maxHeartbeats 2000000 in
theorem row_em (W0 : World) (p B : Nat) (n : Nd) (hi : ∀ x ∈ n.kids, ItemE W0 p B x) : RowE W0 p B n := by
  intro sl hsl w toks txt hp hf
  obtain ⟨A, cap, rfl⟩ := hsl.slice
  have hlen := hsl.len
  unfold maxLen at hlen
  have HI := hid hi
  have HSL := hid hsl
  have PST0 := hid hp
  have FIT0 := hid hf
  have hfw : Fresh w (w.alloc (.cells #[.int .i64 n.kind, .string ⟨n.text.toArray⟩, .int .i64 n.cols, .slice A n.kids.length cap] 24)) := (Touch.refl _ _).alloc _
  have HFW := hid hfw
  clear hi hsl hp hf hfw
  go_enter Try.func30, Try.ntmps30
  go_wp2_with fail
  go_loopw [9] (fun i wr => ∃ j : Nat, i = .int .i64 j ∧ j ≤ n.kids.length ∧ Hid (PSt W0 p B wr (adds (rowT (n.kids.take j)) toks txt).1 (adds (rowT (n.kids.take j)) toks txt).2) ∧ Hid (PrAdd w wr p B toks txt (rowT (n.kids.take j)))) (fun i _ => n.kids.length - (intOf i).toNat)
  case atStart => exact ⟨0, rfl, Nat.zero_le _, by rw [List.take_zero, Tr.rowT_nil]; exact PST0.out.fresh HFW.out, by
      rw [List.take_zero, Tr.rowT_nil]
      obtain ⟨vt, vb, cs, hpr⟩ := PST0.out.pr
      exact ⟨vt, vb, cs, hpr.fresh HFW.out, PS.fresh HFW.out⟩⟩
  case round =>
    obtain ⟨j, rfl, hj, PSTR, ACCR⟩ := hrel
    by_cases c1 : j < n.kids.length
    · have d1 : decide ((j : Int) < (n.kids.length : Int)) = true := by simp only [decide_eq_true_eq]; omega
      have d1n : decide (j < n.kids.length) = true := by simp only [decide_eq_true_eq]; omega
      have d1' : (j : Int) < (n.kids.length : Int) := by omega
      obtain ⟨g, o, sx, rfl, hg, m0, m1, m2, m3, hrk⟩ := HSL.out.get j c1
      obtain ⟨Ax, capx, rfl⟩ := hrk.slice
      obtain ⟨fid, hix, hcf, hem⟩ := HI.out n.kids[j] (List.getElem_mem c1)
      obtain ⟨r, hr⟩ := rowT_split n.kids j c1
      have HTK := hid (rowT_take n.kids j c1)
      have FIT := hid (Fits.mid (show Fits (rowT (n.kids.take j) ++ (itemT n.kids[j] ++ r)) toks txt by rw [← hr]; exact FIT0.out))
      have EM := hid (hem _ hrk)
      have a0 := Low.cell (PSt.low PSTR.out) m0
      have a1 := Low.cell (PSt.low PSTR.out) m1
      have a2 := Low.cell (PSt.low PSTR.out) m2
      have a3 := Low.cell (PSt.low PSTR.out) m3
      have hgw : g < wr.heap.size := block_lt_of_cell a0
      clear m0 m1 m2 m3 hrk hem hr hg HI HSL
      generalize n.kids[j] = x at *
      go_wp2_with fail
      refine forget_world (fun W => Fresh wr W ∧ Blk W wr.heap.size 24 #[.int .i64 x.kind, .string ⟨x.text.toArray⟩, .int .i64 x.cols, .slice Ax x.kids.length capx]) ⟨(Touch.refl _ _).alloc _, Blk.new _ _ _⟩ ?_
      rintro W4 ⟨hf4, hb4⟩
      obtain ⟨q0, q1, q2, q3, _, _, _, _, hg4⟩ := Blk.four hb4
      have g0 := cell_regrown q0
      have g1 := cell_regrown q1
      have g2 := cell_regrown q2
      have g3 := cell_regrown q3
      have HF4 := hid hf4
      have CV := hid (calmF (P := Try.prog) W4 (fun w _ => visitors_any w))
      clear hf4 hb4 a0 a1 a2 a3
      refine wp_region_segs_below [([0, 1, 2, 3, 4, 5], 6)] [] (by kernel_rfl) (by kernel_rfl) ?_
      simp only [wpSegsC, pick, List.getElem?_cons_zero, List.getElem?_cons_succ]
      repeat (quiet_step (with_reducible exact CV.out _ _))
      refine wpQuiet_nil ?_
      rintro W5 ⟨⟨_, _⟩, hW5⟩
      have hf5 : Fresh W4 W5 := by rw [hW5]; exact fresh_of_below (below_regrown _ _ _)
      have HF5 := hid hf5
      clear hW5 hf5 q0 q1 q2 q3 g0 g1 g2 g3
      go_wp2_with fail
      refine (EM.out _ _ _ (PSTR.out.fresh (Touch.trans HF4.out HF5.out)) FIT.out).mono ?_
      rintro _ w6 ⟨rfl, h6⟩
      have PST6 := hid (PSt.add2 (PSTR.out.fresh (Touch.trans HF4.out HF5.out)) h6)
      have ACC6 := hid (PrAdd.app ACCR.out (PrAdd.freshL (Touch.trans HF4.out HF5.out) h6))
      clear h6
      go_wp2_with fail
      refine wpQuiet_nil ?_
      rintro W7 ⟨⟨_, _⟩, hW7⟩
      have hf7 : Fresh w6 W7 := by rw [hW7]; exact fresh_of_below (below_regrown _ _ _)
      have HF7 := hid hf7
      clear hW7 hf7
      go_wp2_with fail
      go_roundw
      case rel => exact ⟨j + 1, by go_num, c1, by rw [HTK.out]; exact PST6.out.fresh HF7.out, by rw [HTK.out]; exact ACC6.out.freshR HF7.out⟩
      case measure => simp [intOf]; omega
    · have d1 : decide ((j : Int) < (n.kids.length : Int)) = false := by simp only [decide_eq_false_iff_not]; omega
      have d1n : decide (j < n.kids.length) = false := by simp only [decide_eq_false_iff_not]; omega
      obtain rfl : j = n.kids.length := by omega
      have HA := hid (show PrAdd w wr p B toks txt (rowT n.kids) by
        have := ACCR.out
        rwa [List.take_length] at this)
      go_wp2_with fail
      go_end0
      exact ⟨rfl, HA.out⟩
end Go.Proofs.Ytilgpmpiidccjaa
