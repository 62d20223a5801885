/- The walk of LexerJoined. -/
import Derived.Test.YtleclhmdcdichaaWrB
import Derived.Test.YtleclhmdcdichaaRegB
import Derived.Test.YtleclhmdcdichaaSpH
import Derived.Test.YtleclhmdcdichaaSpE
namespace Go.Proofs.Ytleclhmdcdichaa
open Go.RowKit

theorem joinsL_tok (a b : Lx.PTok) : joinsL a.kind b.kind b.text = Lx.join (Lx.tok a) (Lx.tok b) := by
  have h : ∀ (k m : Nat), ((k : Int) == (m : Int)) = (k == m) := fun k m => by rw [Bool.eq_iff_iff]; simp [Int.ofNat_inj]
  unfold joinsL Lx.join Lx.tok
  simp only
  rw [show ((a.kind : Int) == 2) = (a.kind == 2) from h a.kind 2, show ((b.kind : Int) == 2) = (b.kind == 2) from h b.kind 2, show ((a.kind : Int) == 4) = (a.kind == 4) from h a.kind 4, show ((b.kind : Int) == 1) = (b.kind == 1) from h b.kind 1]
  cases b.text <;> rfl

theorem okFrom_spell_le {l : List UInt8} : ∀ {ts : List Lx.PTok} {a : Nat}, Lx.okFrom l a ts → ∀ t ∈ ts, (Lx.spell (Lx.tok t)).length ≤ l.length
  | [], _, _, t, ht => by cases ht
  | x :: ts, a, h, t, ht => by
    obtain ⟨_, _, h3, _, h5, h6⟩ := h
    rcases List.mem_cons.1 ht with rfl | ht
    · have : Lx.spell (Lx.tok t) = (l.drop t.from_).take (t.to_ - t.from_) := by rw [h5]; rfl
      rw [this, List.length_take, List.length_drop]; omega
    · exact okFrom_spell_le h6 t ht

theorem TokRow.sub {W : World} {g o cap : Nat} {x y : Lx.PTok} (hg : g < W.heap.size)
    (q0 : W.cell? ⟨g, o, none⟩ = some (.int .i64 x.kind)) (q1 : W.cell? ⟨g, o + 1, none⟩ = some (.string ⟨x.text.toArray⟩)) (q2 : W.cell? ⟨g, o + 2, none⟩ = some (.int .i64 x.from_)) (q3 : W.cell? ⟨g, o + 3, none⟩ = some (.int .i64 x.to_))
    (r0 : W.cell? ⟨g, o + 4, none⟩ = some (.int .i64 y.kind)) (r1 : W.cell? ⟨g, o + 4 + 1, none⟩ = some (.string ⟨y.text.toArray⟩)) (r2 : W.cell? ⟨g, o + 4 + 2, none⟩ = some (.int .i64 y.from_)) (r3 : W.cell? ⟨g, o + 4 + 3, none⟩ = some (.int .i64 y.to_)) :
    TokRow W (.slice (some ⟨g, o, none⟩) 2 cap) [x, y] := by
  refine ⟨_, _, rfl, fun i hi => ⟨g, o, rfl, hg, ?_⟩⟩
  match i, hi with
  | 0, _ => exact ⟨q0, q1, q2, q3⟩
  | 1, _ => exact ⟨r0, r1, r2, r3⟩

theorem str_app (a b : List UInt8) : (⟨a.toArray⟩ : ByteArray) ++ ⟨b.toArray⟩ = ⟨(a ++ b).toArray⟩ := by
  apply ByteArray.ext
  simp [ByteArray.data_append]

set_option maxRecDepth 100000 in
set_option maxHeartbeats 4000000 in
theorem lexerJoined_any (s : ByteArray) (w : World) : Calls Try.prog 6 #[.string s] w fun e w' => e = .returned (.bool true) ∧ Fresh w w' := by
  have hll : s.data.toList.length = s.size := by simp
  by_cases c1 : 2000 < s.size
  · have b1 : decide ((2000 : Int) < (s.size : Int)) = true := by simp; omega
    go_enter Try.func6, Try.ntmps6
    go_wp2_with fail
    refine (awake_any _).mono ?_
    rintro e1 w1 ⟨rfl, hf1⟩
    have HF1 := hid hf1
    clear hf1
    go_wp2_with fail
    refine (awake_any _).mono ?_
    rintro e2 w2 ⟨rfl, hf2⟩
    have HF2 := hid hf2
    clear hf2
    go_wp2_with fail
    go_ret
    exact ⟨rfl, HF1.out.trans HF2.out⟩
  · have b1 : decide ((2000 : Int) < (s.size : Int)) = false := by simp; omega
    have hcount := Lx.lexAll_count s.data.toList
    go_enter Try.func6, Try.ntmps6
    have HLL := hid hll
    clear hll
    go_wp2_with fail
    refine (awake_any _).mono ?_
    rintro e1 w1 ⟨rfl, hf1⟩
    have HF1 := hid hf1
    clear hf1
    go_wp2_with fail
    cases hr : (Lx.lexAll s.data.toList).2 with
    | some q =>
      obtain ⟨p, er⟩ := q
      refine (Tokens_err hr (by omega) (by rw [HLL.out] at hcount; omega)).mono ?_
      rintro e2 w2 ⟨hf2, rfl⟩
      have HF2 := hid hf2
      clear hf2 hr hcount
      go_wp2_with fail
      go_loopw [6] (fun x wr => x = .int .i64 1 ∧ Hid (Fresh w2 wr)) (fun _ _ => 0)
      case atStart => exact ⟨rfl, Touch.refl _ _⟩
      case round =>
        obtain ⟨rfl, HF⟩ := hrel
        go_wp2_with fail
        go_ret
        exact ⟨rfl, HF1.out.trans (HF2.out.trans HF.out)⟩
    | none =>
      have hok := Lx.lexAll_places _ hr
      have htok := Lx.lexGo_ok s.data.toList (s.data.toList.length + 1) 0
      obtain ⟨ts, hts⟩ : ∃ ts, (Lx.lexAll s.data.toList).1 = ts := ⟨_, rfl⟩
      have htok' : ∀ t ∈ ts, Lx.TokOK (Lx.tok t) := by rw [← hts]; exact htok
      rw [hts] at hok hcount
      have hle := okFrom_spell_le hok
      rw [HLL.out] at hcount hle
      have hlex : Lx.lexAll s.data.toList = (ts, none) := by rw [← hts, ← hr]
      refine (Tokens_ok hlex (by omega) (by omega)).mono ?_
      rintro e2 w2 ⟨hf2, v, rfl, hrow⟩
      obtain ⟨A, cap, rfl⟩ : ∃ A cap, v = .slice A ts.length cap := by
        rcases hrow.2 with ⟨h1, h2⟩ | ⟨g, cap, cur, h1, _⟩
        · exact ⟨none, 0, by rw [h1, h2]⟩
        · exact ⟨_, _, h1⟩
      have HCAP : ts.length ≤ cap := by
        rcases hrow.2 with ⟨h1, h2⟩ | ⟨g, cap', cur, h1, _, _, h2, _⟩
        · omega
        · cases h1; exact h2
      have HF2 := hid hf2
      have HTOK := hid htok'
      have HLE := hid hle
      have HROW := hid hrow
      clear hf2 hok hrow hlex hts hr htok htok' hle
      go_wp2_with fail
      go_loopw [6] (fun x wr => ∃ j : Nat, x = .int .i64 ((j : Int) + 1) ∧ j ≤ ts.length ∧ Hid (Fresh w2 wr)) (fun x _ => ts.length - (intOf x).toNat)
      case atStart => exact ⟨0, rfl, Nat.zero_le _, Touch.refl _ _⟩
      case round =>
        obtain ⟨j, rfl, hj, HFR⟩ := hrel
        by_cases c2 : j + 1 < ts.length
        · have d1 : decide ((j : Int) + 1 < (ts.length : Int)) = true := by simp; omega
          have d1' : (j : Int) + 1 < (ts.length : Int) := by omega
          obtain ⟨g, cap', hv, hg1, hg2, hcells⟩ := toks_cells HROW.out j (by omega)
          cases hv
          obtain ⟨g', cap', hv, _, _, hcells'⟩ := toks_cells HROW.out (j + 1) c2
          cases hv
          obtain ⟨q0, q1, q2, q3⟩ := tok_four hcells HFR.out
          obtain ⟨r0, r1, r2, r3⟩ := tok_four hcells' HFR.out
          clear hcells hcells'
          have ha := HTOK.out _ (List.getElem_mem (l := ts) (n := j) (by omega))
          have hb := HTOK.out _ (List.getElem_mem (l := ts) (n := j + 1) c2)
          have la := HLE.out _ (List.getElem_mem (l := ts) (n := j) (by omega))
          have lb := HLE.out _ (List.getElem_mem (l := ts) (n := j + 1) c2)
          generalize ts[j] = a at *
          generalize ts[j + 1] = b at *
          have hlen : (⟨(Lx.spell (Lx.tok a)).toArray⟩ ++ ⟨(Lx.spell (Lx.tok b)).toArray⟩ : ByteArray).data.toList = Lx.spell (Lx.tok a) ++ Lx.spell (Lx.tok b) := by rw [str_app]
          have hsz : (⟨(Lx.spell (Lx.tok a)).toArray⟩ ++ ⟨(Lx.spell (Lx.tok b)).toArray⟩ : ByteArray).size ≤ 4000 := by
            rw [str_app]; show (Lx.spell (Lx.tok a) ++ Lx.spell (Lx.tok b)).toArray.size ≤ _; simp; omega
          have ha2 : (⟨a.text.toArray⟩ : ByteArray).size ≤ 1000000000 := by
            have h1 := Lx.spellL_len a.kind a.text
            show a.text.toArray.size ≤ _
            have h2 : (Lx.spellL a.kind a.text).length ≤ s.size := la
            simp; omega
          have hb2 : (⟨b.text.toArray⟩ : ByteArray).size ≤ 1000000000 := by
            have h1 := Lx.spellL_len b.kind b.text
            show b.text.toArray.size ≤ _
            have h2 : (Lx.spellL b.kind b.text).length ≤ s.size := lb
            simp; omega
          have S1 : ∀ w, Calls Try.prog 10 #[.agg #[.int .i64 a.kind, .string ⟨a.text.toArray⟩, .int .i64 a.from_, .int .i64 a.to_]] w fun e w' => e = .returned (.string ⟨(Lx.spell (Lx.tok a)).toArray⟩) ∧ Fresh w w' := fun w => spell_any a.kind ⟨a.text.toArray⟩ a.from_ a.to_ w ha2
          have S2 : ∀ w, Calls Try.prog 10 #[.agg #[.int .i64 b.kind, .string ⟨b.text.toArray⟩, .int .i64 b.from_, .int .i64 b.to_]] w fun e w' => e = .returned (.string ⟨(Lx.spell (Lx.tok b)).toArray⟩) ∧ Fresh w w' := fun w => spell_any b.kind ⟨b.text.toArray⟩ b.from_ b.to_ w hb2
          have J1 : ∀ w, Calls Try.prog 12 #[.agg #[.int .i64 a.kind, .string ⟨a.text.toArray⟩, .int .i64 a.from_, .int .i64 a.to_], .agg #[.int .i64 b.kind, .string ⟨b.text.toArray⟩, .int .i64 b.from_, .int .i64 b.to_]] w fun e w' => e = .returned (.bool (Lx.join (Lx.tok a) (Lx.tok b))) ∧ Fresh w w' := fun w => by
            rw [← joinsL_tok]; exact joins_any a.kind a.from_ a.to_ b.kind b.from_ b.to_ ⟨a.text.toArray⟩ ⟨b.text.toArray⟩ w
          have C1 := hid (calm S1 wr)
          have C2 := hid (calm S2 wr)
          have hJ := hid (show Lx.join (Lx.tok a) (Lx.tok b) = false → _ from Lx.lexAll_two (Lx.tok a) (Lx.tok b) ha hb)
          have hK := hid (show Lx.join (Lx.tok a) (Lx.tok b) = true → _ from Lx.lexAll_joined (Lx.tok a) (Lx.tok b) ha hb)
          have hcnt := Lx.lexAll_count (Lx.spell (Lx.tok a) ++ Lx.spell (Lx.tok b))
          rw [List.length_append] at hcnt
          generalize Lx.spell (Lx.tok a) = sa at *
          generalize Lx.spell (Lx.tok b) = sb at *
          have HLEN := hid hlen
          have HS1 := hid J1
          clear S1 S2 J1 hlen
          have d2' : (j : Int) < (ts.length : Int) := by omega
          have hadd : ¬ 9223372036854775807 < sa.length + sb.length := by omega
          have hrun := fun W : World => run_string_add_lists (P := Try.prog) W sa sb (by omega) (by omega)
          have d3' : (0 : Int) ≤ (j : Int) + 1 := by omega
          have d4' : ((j : Int) + 1).toNat = j + 1 := by omega
          have d5' : ¬ (j : Int) + 1 < 0 := by omega
          have hwr : IntKind.i64.wrap (j : Int) = j := IntWalk.i64_in _ (by omega)
          have k0 := cell_regrown q0
          have k1 := cell_regrown q1
          have k2 := cell_regrown q2
          have k3 := cell_regrown q3
          have l0 := cell_regrown r0
          have l1 := cell_regrown r1
          have l2 := cell_regrown r2
          have l3 := cell_regrown r3
          go_wp2_with fail
          refine wp_region_segs_below [([0,1,2,3,4,5,6,7,8,9,10,11],12)] [13,14,15,16,17,18,19] (by kernel_rfl) (by kernel_rfl) ?_
          simp only [wpSegsC, pick, List.getElem?_cons_zero, List.getElem?_cons_succ]
          repeat (quiet_step (first | with_reducible exact C1.out _ _ | with_reducible exact C2.out _ _))
          refine wpQuiet_nil ?_
          rintro W3 ⟨⟨dq, osq⟩, hW3⟩
          have hf3 : Fresh wr W3 := by rw [hW3]; exact fresh_of_below (below_regrown _ _ _)
          have HF3 := hid hf3
          clear hW3 k0 k1 k2 k3 l0 l1 l2 l3 hf3
          go_wp2_with fail
          have HROW2 := hid (TokRow.sub (cap := cap - j) (x := a) (y := b) (show g < wr.heap.size from Nat.lt_of_lt_of_le hg2 HFR.out.size) q0 q1 q2 q3 (by rw [← Nat.succ_mul]; exact r0) (by rw [← Nat.succ_mul]; exact r1) (by rw [← Nat.succ_mul]; exact r2) (by rw [← Nat.succ_mul]; exact r3))
          cases hr2 : (Lx.lexAll (sa ++ sb)).2 with
          | some q =>
            obtain ⟨p, er⟩ := q
            have hJt : Lx.join (Lx.tok a) (Lx.tok b) = true := by
              cases hjj : Lx.join (Lx.tok a) (Lx.tok b) with
              | true => rfl
              | false =>
                obtain ⟨x, y, h1, _⟩ := hJ.out hjj
                rw [h1] at hr2; cases hr2
            have hne : ((er : Int) == 0) = false := by have := Lx.lexGo_err _ _ _ _ _ hr2; rw [beq_eq_false_iff_ne]; omega
            refine (Tokens_err (s := ⟨(sa ++ sb).toArray⟩) hr2 (by show (sa ++ sb).toArray.size ≤ _; simp; omega) (by show (Lx.lexAll (sa ++ sb)).1.length ≤ _; omega)).mono ?_
            rintro e4 w4 ⟨hf4, rfl⟩
            have hf5 : Fresh wr w4 := HF3.out.trans hf4
            have k0 := hf5.cell q0 (fun h => h)
            have k1 := hf5.cell q1 (fun h => h)
            have k2 := hf5.cell q2 (fun h => h)
            have k3 := hf5.cell q3 (fun h => h)
            have l0 := hf5.cell r0 (fun h => h)
            have l1 := hf5.cell r1 (fun h => h)
            have l2 := hf5.cell r2 (fun h => h)
            have l3 := hf5.cell r3 (fun h => h)
            have HF5 := hid hf5
            have HR2 := hid hr2
            clear hf4 hf5 hr2 q0 q1 q2 q3 r0 r1 r2 r3
            rw [hJt] at HS1
            go_wp2_with fail
            repeat (quiet_step (fail))
            refine wpQuiet_nil ?_
            rintro W5 ⟨⟨dq5, osq5⟩, hW5⟩
            have hf6 : Fresh w4 W5 := by rw [hW5]; exact fresh_of_below (below_regrown _ _ _)
            have m0 := hf6.cell k0 (fun h => h)
            have m1 := hf6.cell k1 (fun h => h)
            have m2 := hf6.cell k2 (fun h => h)
            have m3 := hf6.cell k3 (fun h => h)
            have n0 := hf6.cell l0 (fun h => h)
            have n1 := hf6.cell l1 (fun h => h)
            have n2 := hf6.cell l2 (fun h => h)
            have n3 := hf6.cell l3 (fun h => h)
            have HF6 := hid hf6
            clear hf6 hW5 k0 k1 k2 k3 l0 l1 l2 l3
            have k0 := cell_regrown m0
            have k1 := cell_regrown m1
            have k2 := cell_regrown m2
            have k3 := cell_regrown m3
            have l0 := cell_regrown n0
            have l1 := cell_regrown n1
            have l2 := cell_regrown n2
            have l3 := cell_regrown n3
            have C3 := hid (calm HS1.out W5)
            go_wp2_with fail
            refine wp_region_quiet_below (by kernel_rfl) (by kernel_rfl) ?_
            repeat (quiet_step (with_reducible exact C3.out _ _))
            refine wpQuiet_nil ?_
            rintro W7 ⟨⟨dq7, osq7⟩, hW7⟩
            have hf7 : Fresh W5 W7 := by rw [hW7]; exact fresh_of_below (below_regrown _ _ _)
            have HF7 := hid hf7
            clear hW7 hf7 k0 k1 k2 k3 l0 l1 l2 l3 m0 m1 m2 m3 n0 n1 n2 n3
            go_wp2_with fail
            go_roundw
            case rel => exact ⟨j + 1, by go_num, by omega, HFR.out.trans (HF5.out.trans (HF6.out.trans HF7.out))⟩
            case measure => simp [intOf]; omega
          | none =>
            obtain ⟨ys, hys⟩ : ∃ ys, (Lx.lexAll (sa ++ sb)).1 = ys := ⟨_, rfl⟩
            have hS : Lx.sameL [a, b] ys false = !(Lx.join (Lx.tok a) (Lx.tok b)) := by
              rw [Lx.sameL_iff]
              cases hjj : Lx.join (Lx.tok a) (Lx.tok b) with
              | true =>
                rcases hK.out hjj with h | h
                · exact absurd hr2 h
                · rw [hys] at h
                  simp only [Bool.not_true, decide_eq_false_iff_not]
                  intro h2
                  exact h h2.symm
              | false =>
                obtain ⟨x, y, h1, h2, h3⟩ := hJ.out hjj
                rw [h1] at hys
                subst hys
                simp [h2, h3]
            have hlex2 : Lx.lexAll (sa ++ sb) = (ys, none) := by rw [← hys, ← hr2]
            rw [hys] at hcnt
            generalize Lx.join (Lx.tok a) (Lx.tok b) = J at *
            refine (Tokens_ok (s := ⟨(sa ++ sb).toArray⟩) hlex2 (by show (sa ++ sb).toArray.size ≤ _; simp; omega) (by omega)).mono ?_
            rintro e4 w4 ⟨hf4, v4, rfl, hrow4⟩
            have hf5 : Fresh wr w4 := HF3.out.trans hf4
            have HF5 := hid hf5
            have HS := hid hS
            have HROW4 := hid (owns_row hrow4)
            have HHJ := hid hJ
            have HHK := hid hK
            clear hf4 hr2 hJ hK hS hrow4 hlex2 hys
            have d6 : (j : Int) ≤ (j : Int) + 1 + 1 := by omega
            have d7 : (j : Int) + 1 + 1 ≤ (cap : Int) := by omega
            go_wp2_with fail
            repeat (quiet_step (fail))
            refine wpQuiet_nil ?_
            rintro W5 ⟨⟨dq5, osq5⟩, hW5⟩
            have hf6 : Fresh w4 W5 := by rw [hW5]; exact fresh_of_below (below_regrown _ _ _)
            have HF6 := hid hf6
            clear hf6 hW5
            go_wp2_with fail
            rw [show j + 1 + 1 - j = 2 by omega]
            refine (from18_any _ [a, b] _ (HROW2.out.fresh (HF5.out.trans HF6.out)) (by simp)).mono ?_
            rintro e6 w6 ⟨v6, rfl, hf7, ho6⟩
            have HF7 := hid hf7
            have HR6 := hid (owns_row ho6)
            clear hf7 ho6
            go_wp2_with fail
            refine (from18_any _ ys _ (HROW4.out.fresh (HF6.out.trans HF7.out)) (by omega)).mono ?_
            rintro e7 w7 ⟨v7, rfl, hf8, ho7⟩
            have HF8 := hid hf8
            have HR7 := hid (owns_row ho7)
            clear hf8 ho7
            go_wp2_with fail
            refine (rSame_any _ _ [a, b] ys false _ (HR6.out.fresh HF8.out) HR7.out (by simp)).mono ?_
            rw [HS.out]
            rintro e8 w8 ⟨rfl, hf9⟩
            have hfa : Fresh wr w8 := HF5.out.trans (HF6.out.trans (HF7.out.trans (HF8.out.trans hf9)))
            have HFA := hid hfa
            have m0 := hfa.cell q0 (fun h => h)
            have m1 := hfa.cell q1 (fun h => h)
            have m2 := hfa.cell q2 (fun h => h)
            have m3 := hfa.cell q3 (fun h => h)
            have n0 := hfa.cell r0 (fun h => h)
            have n1 := hfa.cell r1 (fun h => h)
            have n2 := hfa.cell r2 (fun h => h)
            have n3 := hfa.cell r3 (fun h => h)
            clear hf9 hfa q0 q1 q2 q3 r0 r1 r2 r3
            have k0 := cell_regrown m0
            have k1 := cell_regrown m1
            have k2 := cell_regrown m2
            have k3 := cell_regrown m3
            have l0 := cell_regrown n0
            have l1 := cell_regrown n1
            have l2 := cell_regrown n2
            have l3 := cell_regrown n3
            have C3 := hid (calm HS1.out w8)
            have hbb : ((!J) == J) = false := by cases J <;> rfl
            go_wp2_with fail
            refine wp_region_quiet_below (by kernel_rfl) (by kernel_rfl) ?_
            repeat (quiet_step (with_reducible exact C3.out _ _))
            refine wpQuiet_nil ?_
            rintro W9 ⟨⟨dq9, osq9⟩, hW9⟩
            have hfb : Fresh w8 W9 := by rw [hW9]; exact fresh_of_below (below_regrown _ _ _)
            have HFB := hid hfb
            clear hW9 hfb k0 k1 k2 k3 l0 l1 l2 l3 m0 m1 m2 m3 n0 n1 n2 n3
            go_wp2_with fail
            go_roundw
            case rel => exact ⟨j + 1, by go_num, by omega, HFR.out.trans (HFA.out.trans HFB.out)⟩
            case measure => simp [intOf]; omega
        · have d1 : decide ((j : Int) + 1 < (ts.length : Int)) = false := by simp; omega
          go_wp2_with fail
          go_ret
          exact ⟨rfl, HF1.out.trans (HF2.out.trans HFR.out)⟩
end Go.Proofs.Ytleclhmdcdichaa
