/- The reference's Write: tokens one after the other, with a space where two join. -/
import Derived.Test.YtilgpmpiidccjaaPqA
import Derived.Test.YtilgpmpiidccjaaPp10
namespace Go.Proofs.Ytilgpmpiidccjaa
open Go.RowKit

/-- The tokens ahead of the j-th with their places, and their text. -/
def aT (ts : List Lx.PTok) (j : Nat) : List Lx.PTok × List UInt8 := adds ((ts.take j).map Lx.tok) [] []
theorem aT_step (ts : List Lx.PTok) (j : Nat) (h : j < ts.length) : aT ts (j + 1) = (added (aT ts j).1 (aT ts j).2 (Lx.tok ts[j]), (aT ts j).2 ++ gap (aT ts j).1 (Lx.tok ts[j]) ++ Lx.spell (Lx.tok ts[j])) := by
  unfold aT
  rw [List.take_succ_eq_append_getElem h, List.map_append, adds_app]
  rfl
theorem aT_last (ts : List Lx.PTok) (j : Nat) : (aT ts j).1.map Lx.tok = (ts.take j).map Lx.tok := by
  unfold aT
  rw [adds_wtext, Lx.placed_toks, Tr.sepd_toks]
theorem aT_gap0 (ts : List Lx.PTok) (t : Lx.Tok) : gap (aT ts 0).1 t = [] := rfl
theorem aT_gap (ts : List Lx.PTok) (m : Nat) (h : m < ts.length) (t : Lx.Tok) : gap (aT ts (m + 1)).1 t = if Lx.join (Lx.tok ts[m]) t then [32] else [] := by
  have hl := aT_last ts (m + 1)
  rw [List.take_succ_eq_append_getElem h, List.map_append] at hl
  have hg : (aT ts (m + 1)).1.getLast?.map Lx.tok = some (Lx.tok ts[m]) := by
    rw [← List.getLast?_map, hl]; simp
  unfold gap joinLast
  cases hx : (aT ts (m + 1)).1.getLast? with
  | none => rw [hx] at hg; cases hg
  | some x =>
    rw [hx] at hg
    simp only [Option.map_some, Option.some.injEq] at hg
    simp only [hg]
theorem aT_zero (ts : List Lx.PTok) : aT ts 0 = ([], []) := rfl
theorem aT_all (ts : List Lx.PTok) : aT ts ts.length = (Lx.placed 0 (Tr.sepd none (ts.map Lx.tok)), Tr.wtext (ts.map Lx.tok)) := by
  unfold aT
  rw [List.take_length, adds_wtext]
theorem aT_len (ts : List Lx.PTok) (j : Nat) : (aT ts j).1.length = min j ts.length := by
  rw [← List.length_map (f := Lx.tok), aT_last, List.length_map, List.length_take]
theorem joinsL_tok' (a b : Lx.PTok) : joinsL a.kind b.kind (ByteArray.mk b.text.toArray).data.toList = Lx.join (Lx.tok a) (Lx.tok b) := by
  have h : ∀ (k m : Nat), ((k : Int) == (m : Int)) = (k == m) := fun k m => by rw [Bool.eq_iff_iff]; simp [Int.ofNat_inj]
  unfold joinsL Lx.join Lx.tok
  simp only
  rw [show ((a.kind : Int) == 2) = (a.kind == 2) from h a.kind 2, show ((b.kind : Int) == 2) = (b.kind == 2) from h b.kind 2, show ((a.kind : Int) == 4) = (a.kind == 4) from h a.kind 4, show ((b.kind : Int) == 1) = (b.kind == 1) from h b.kind 1]
  cases b.text <;> rfl
theorem str_app' (a b : List UInt8) : (⟨a.toArray⟩ : ByteArray) ++ ⟨b.toArray⟩ = ⟨(a ++ b).toArray⟩ := by
  apply ByteArray.ext
  simp
theorem rjoins_tok (a b : Lx.PTok) (w : World) : Calls Try.prog 51 #[.agg #[.int .i64 a.kind, .string ⟨a.text.toArray⟩, .int .i64 a.from_, .int .i64 a.to_], .agg #[.int .i64 b.kind, .string ⟨b.text.toArray⟩, .int .i64 b.from_, .int .i64 b.to_]] w fun e w' => e = .returned (.bool (Lx.join (Lx.tok a) (Lx.tok b))) ∧ Fresh w w' := by
  rw [← joinsL_tok']
  exact rJoins_any _ _ _ _ _ _ _ _ w
theorem rspell_tok (a : Lx.PTok) (w : World) (h : a.text.length ≤ 1000000000) : Calls Try.prog 52 #[.agg #[.int .i64 a.kind, .string ⟨a.text.toArray⟩, .int .i64 a.from_, .int .i64 a.to_]] w fun e w' => e = .returned (.string ⟨(Lx.spell (Lx.tok a)).toArray⟩) ∧ Fresh w w' :=
  rSpell_any _ _ _ _ w (by show a.text.toArray.size ≤ _; simpa using h)

theorem aT_size (ts : List Lx.PTok) (ht : ∀ t ∈ ts, t.text.length ≤ 1000) : ∀ j, j ≤ ts.length → (aT ts j).2.length ≤ 2007 * j
  | 0, _ => Nat.le_refl _
  | j + 1, h => by
    have ih := aT_size ts ht j (by omega)
    rw [aT_step ts j (by omega)]
    have h1 := spellL_le (ts[j].kind) (ts[j].text)
    have h2 := ht ts[j] (List.getElem_mem _)
    have h3 : (Lx.spell (Lx.tok ts[j])).length ≤ 2 * ts[j].text.length + 6 := h1
    have h4 : (gap (aT ts j).1 (Lx.tok ts[j])).length ≤ 1 := by unfold gap; split <;> simp
    simp only [List.length_append]
    omega
theorem spell_size (x : Lx.PTok) (h : x.text.length ≤ 1000) : (Lx.spell (Lx.tok x)).length ≤ 2006 := by
  have h1 := spellL_le x.kind x.text
  have h3 : (Lx.spell (Lx.tok x)).length ≤ 2 * x.text.length + 6 := h1
  omega

set_option maxRecDepth 100000 in
set_option maxHeartbeats 2000000 in
theorem rwrite_any (ts : List Lx.PTok) (v : Value) (w : World) (hv : TokRow w v ts) (hm : ts.length ≤ 4000) (ht : ∀ t ∈ ts, t.text.length ≤ 1000) :
    Calls Try.prog 33 #[v] w fun e w' => e = .returned (.string ⟨(Tr.wtext (ts.map Lx.tok)).toArray⟩) ∧ Fresh w w' := by
  obtain ⟨A, cap, rfl, hc⟩ := hv
  have HC := hid hc
  have HTX := hid ht
  have HALL := hid (aT_all ts)
  clear hc ht
  go_enter Try.func33, Try.ntmps33
  go_wp2_with fail
  go_loopw [3, 4] (fun s i wr => ∃ j : Nat, s = .string ⟨(aT ts j).2.toArray⟩ ∧ i = .int .i64 j ∧ j ≤ ts.length ∧ Hid (Fresh w wr)) (fun _ i _ => ts.length - (intOf i).toNat)
  case atStart => exact ⟨0, rfl, rfl, Nat.zero_le _, Touch.refl _ _⟩
  case round =>
    obtain ⟨j, rfl, rfl, hj, HF⟩ := hrel
    by_cases c1 : j < ts.length
    · have d1 : decide ((j : Int) < (ts.length : Int)) = true := by simp only [decide_eq_true_eq]; omega
      have d1n : decide (j < ts.length) = true := by simp only [decide_eq_true_eq]; omega
      have d1' : (j : Int) < (ts.length : Int) := by omega
      obtain ⟨g, o, rfl, hg, m0, m1, m2, m3⟩ := HC.out j c1
      have HST := hid (aT_step ts j c1)
      have hsz := aT_size ts HTX.out j hj
      have htx := HTX.out _ (List.getElem_mem c1)
      have hsp := spell_size ts[j] htx
      have x0 := HF.out.cell m0 (fun h => h)
      have x1 := HF.out.cell m1 (fun h => h)
      have x2 := HF.out.cell m2 (fun h => h)
      have x3 := HF.out.cell m3 (fun h => h)
      have hgr : g < wr.heap.size := block_lt_of_cell x0
      clear m0 m1 m2 m3 hg
      obtain ⟨acc, hacc⟩ : ∃ acc, (aT ts j).2 = acc := ⟨_, rfl⟩
      obtain ⟨P, hP⟩ : ∃ P, (aT ts j).1 = P := ⟨_, rfl⟩
      have HP := hid hP
      rw [hacc] at HST hsz
      rw [hP] at HST
      rw [hacc]
      clear hacc hP
      obtain ⟨x, hx⟩ : ∃ x, ts[j] = x := ⟨_, rfl⟩
      rw [hx] at HST htx hsp x0 x1 x2 x3
      clear hx
      by_cases j0 : j = 0
      · subst j0
        have HGAP := hid (show gap P (Lx.tok x) = [] by rw [← HP.out]; exact aT_gap0 ts _)
        rw [Nat.zero_mul, Nat.add_zero] at x0 x1 x2 x3
        go_wp2_with fail
        go_quiet (fail)
        have HFX := HF
        have hr2 := fun W : World => run_string_add_lists (P := Try.prog) W acc (Lx.spell (Lx.tok x)) (by first | omega | (simp only [List.length_append, List.length_cons, List.length_nil]; omega)) (by omega)
        go_wp2_with fail
        refine (rspell_tok x _ (by omega)).mono ?_
        rintro _ w9 ⟨rfl, hf9⟩
        have HF9 := hid (show Fresh w w9 from HFX.out.trans (by first | exact hf9 | exact Touch.ofN hf9 | exact Touch.pre hf9))
        clear hf9
        go_wp2_with fail
        go_roundw
        case rel => exact ⟨0 + 1, by rw [HST.out]; simp only [HGAP.out]; simp, by go_num, c1, HF9⟩
        case measure => simp [intOf]; omega
      · obtain ⟨m, rfl⟩ : ∃ m, j = m + 1 := ⟨j - 1, by omega⟩
        have e0 : decide ((0 : Int) < ((m + 1 : Nat) : Int)) = true := by simp only [decide_eq_true_eq]; omega
        have e0n : decide (0 < m + 1) = true := by simp
        have e0' : (0 : Int) < ((m + 1 : Nat) : Int) := by omega
        have e1 : IntKind.i64.wrap (m : Int) = (m : Int) := IntWalk.i64_in _ (by omega)
        have e2 : (m : Int) + 1 - 1 = (m : Int) := by omega
        have e3 : (m : Int) < (ts.length : Int) := by omega
        have e4 : (m : Int) + 1 < (ts.length : Int) := by omega
        have e5 : (0 : Int) < (m : Int) + 1 := by omega
        have e7 : (0 : Int) ≤ (m : Int) + 1 := by omega
        have e8 : ((m : Int) + 1).toNat = m + 1 := by omega
        have e6 : decide ((0 : Int) < (m : Int) + 1) = true := by simp only [decide_eq_true_eq]; omega
        obtain ⟨g', o', hA', hg', n0, n1, n2, n3⟩ := HC.out m (by omega)
        cases hA'
        have HGAP0 := hid (show gap P (Lx.tok x) = if Lx.join (Lx.tok (ts[m]'(by omega))) (Lx.tok x) then [32] else [] by rw [← HP.out]; exact aT_gap ts m (by omega) _)
        have z0 := HF.out.cell n0 (fun h => h)
        have z1 := HF.out.cell n1 (fun h => h)
        have z2 := HF.out.cell n2 (fun h => h)
        have z3 := HF.out.cell n3 (fun h => h)
        clear n0 n1 n2 n3 HC j0 hg'
        obtain ⟨y, hy⟩ : ∃ y, ts[m]'(by omega) = y := ⟨_, rfl⟩
        rw [hy] at HGAP0 z0 z1 z2 z3
        clear hy
        have gx0 := cell_regrown x0
        have gx1 := cell_regrown x1
        have gx2 := cell_regrown x2
        have gx3 := cell_regrown x3
        have gz0 := cell_regrown z0
        have gz1 := cell_regrown z1
        have gz2 := cell_regrown z2
        have gz3 := cell_regrown z3
        have CJ := hid (calmP (P := Try.prog) (fun w => rjoins_tok y x w) wr)
        cases hjn : Lx.join (Lx.tok y) (Lx.tok x) with
        | false =>
          rw [hjn] at CJ
          have HGAP := hid (show gap P (Lx.tok x) = [] by rw [HGAP0.out, hjn]; rfl)
          clear HGAP0 hjn
          go_wp2_with fail
          refine wp_region_quiet_below (by kernel_rfl) (by kernel_rfl) ?_
          repeat (quiet_step (with_reducible exact CJ.out _ _))
          refine wpQuiet_nil ?_
          rintro W3 ⟨⟨_, _⟩, hW3⟩
          have hf3 : Fresh wr W3 := by rw [hW3]; exact fresh_of_below (below_regrown _ _ _)
          have HFX := hid (HF.out.trans hf3)
          have u0 := hf3.cell x0 (fun h => h)
          have u1 := hf3.cell x1 (fun h => h)
          have u2 := hf3.cell x2 (fun h => h)
          have u3 := hf3.cell x3 (fun h => h)
          have hgr3 : g < W3.heap.size := block_lt_of_cell u0
          clear hW3 hf3 gx0 gx1 gx2 gx3 gz0 gz1 gz2 gz3 x0 x1 x2 x3 z0 z1 z2 z3
          have hr2 := fun W : World => run_string_add_lists (P := Try.prog) W acc (Lx.spell (Lx.tok x)) (by first | omega | (simp only [List.length_append, List.length_cons, List.length_nil]; omega)) (by omega)
          go_wp2_with fail
          refine (rspell_tok x _ (by omega)).mono ?_
          rintro _ w9 ⟨rfl, hf9⟩
          have HF9 := hid (show Fresh w w9 from HFX.out.trans (by first | exact hf9 | exact Touch.ofN hf9 | exact Touch.pre hf9))
          clear hf9
          go_wp2_with fail
          go_roundw
          case rel => exact ⟨m + 1 + 1, by rw [HST.out]; simp only [HGAP.out]; simp, by go_num, c1, HF9⟩
          case measure => simp [intOf]; omega
        | true =>
          rw [hjn] at CJ
          have HGAP := hid (show gap P (Lx.tok x) = [32] by rw [HGAP0.out, hjn]; rfl)
          clear HGAP0 hjn
          go_wp2_with fail
          refine wp_region_quiet_below (by kernel_rfl) (by kernel_rfl) ?_
          repeat (quiet_step (with_reducible exact CJ.out _ _))
          refine wpQuiet_nil ?_
          rintro W3 ⟨⟨_, _⟩, hW3⟩
          have hf3 : Fresh wr W3 := by rw [hW3]; exact fresh_of_below (below_regrown _ _ _)
          have HFX := hid (HF.out.trans hf3)
          have u0 := hf3.cell x0 (fun h => h)
          have u1 := hf3.cell x1 (fun h => h)
          have u2 := hf3.cell x2 (fun h => h)
          have u3 := hf3.cell x3 (fun h => h)
          have hgr3 : g < W3.heap.size := block_lt_of_cell u0
          clear hW3 hf3 gx0 gx1 gx2 gx3 gz0 gz1 gz2 gz3 x0 x1 x2 x3 z0 z1 z2 z3
          have hr1 := fun W : World => run_string_add_lists (P := Try.prog) W acc [32] (by omega) (by simp)
          have hr2 := fun W : World => run_string_add_lists (P := Try.prog) W (acc ++ [32]) (Lx.spell (Lx.tok x)) (by first | omega | (simp only [List.length_append, List.length_cons, List.length_nil]; omega)) (by omega)
          go_wp2_with fail
          refine (rspell_tok x _ (by omega)).mono ?_
          rintro _ w9 ⟨rfl, hf9⟩
          have HF9 := hid (show Fresh w w9 from HFX.out.trans (by first | exact hf9 | exact Touch.ofN hf9 | exact Touch.pre hf9))
          clear hf9
          go_wp2_with fail
          go_roundw
          case rel => exact ⟨m + 1 + 1, by rw [HST.out]; simp only [HGAP.out]; simp, by go_num, c1, HF9⟩
          case measure => simp [intOf]; omega
    · have d1 : decide ((j : Int) < (ts.length : Int)) = false := by simp only [decide_eq_false_iff_not]; omega
      have d1n : decide (j < ts.length) = false := by simp only [decide_eq_false_iff_not]; omega
      obtain rfl : j = ts.length := by omega
      go_wp2_with fail
      go_ret
      exact ⟨by rw [HALL.out]; rfl, HF.out⟩
end Go.Proofs.Ytilgpmpiidccjaa
