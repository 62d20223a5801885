/- The walk of LexerPlaces. -/
import Derived.Test.YtleclhmdcdichaaSpD
import Derived.Test.YtleclhmdcdichaaPlM
namespace Go.Proofs.Ytleclhmdcdichaa
open Go.RowKit

theorem tok_four {W W' : World} {x : Lx.PTok} {g i : Nat} (h : ∀ j u, (ptokCells x)[j]? = some u → W.cell? ⟨g, 4 * i + j, none⟩ = some u) (ht : Fresh W W') :
    W'.cell? ⟨g, i * 4, none⟩ = some (.int .i64 x.kind) ∧ W'.cell? ⟨g, i * 4 + 1, none⟩ = some (.string ⟨x.text.toArray⟩) ∧ W'.cell? ⟨g, i * 4 + 2, none⟩ = some (.int .i64 x.from_) ∧ W'.cell? ⟨g, i * 4 + 3, none⟩ = some (.int .i64 x.to_) := by
  rw [Nat.mul_comm i 4]
  exact ⟨ht.cell (h 0 _ rfl) (fun h => h), ht.cell (h 1 _ rfl) (fun h => h), ht.cell (h 2 _ rfl) (fun h => h), ht.cell (h 3 _ rfl) (fun h => h)⟩

theorem blank_yes (s : ByteArray) (w : World) (hm : s.size ≤ 1000000000) (h : s.data.toList.all (Lx.isB 1) = true) :
    Calls Try.prog 9 #[.string s] w fun e w' => e = .returned (.bool true) ∧ w' = w := by
  have := blank_any s w hm
  rw [h] at this
  exact this

set_option maxRecDepth 100000 in
set_option maxHeartbeats 1000000 in
theorem places_any (s : ByteArray) (w : World) : Calls Try.prog 3 #[.string s] w fun e w' => e = .returned (.bool true) ∧ Fresh w w' := by
  have hll : s.data.toList.length = s.size := by simp
  by_cases c1 : 2000 < s.size
  · have b1 : decide ((2000 : Int) < (s.size : Int)) = true := by simp; omega
    go_enter Try.func3, Try.ntmps3
    go_wp2_with fail
    refine (awake_any _).mono ?_
    rintro e1 w1 ⟨rfl, hf1⟩
    have HF1 := hid hf1
    clear hf1
    go_wp2_with fail
    refine (awake_any _).mono ?_
    rintro e2 w2 ⟨rfl, hf2⟩
    have HF2 := hid hf2
    clear hf2
    go_wp2_with fail
    go_ret
    exact ⟨rfl, HF1.out.trans HF2.out⟩
  · have b1 : decide ((2000 : Int) < (s.size : Int)) = false := by simp; omega
    have hcount := Lx.lexAll_count s.data.toList
    go_enter Try.func3, Try.ntmps3
    have HLL := hid hll
    clear hll
    go_wp2_with fail
    refine (awake_any _).mono ?_
    rintro e1 w1 ⟨rfl, hf1⟩
    have HF1 := hid hf1
    clear hf1
    go_wp2_with fail
    cases hr : (Lx.lexAll s.data.toList).2 with
    | some q =>
      obtain ⟨p, er⟩ := q
      have hpl := Lx.lexAll_err_le _ _ _ hr
      rw [HLL.out] at hpl
      have hne : ((er : Int) != 0) = true := by have := Lx.lexGo_err _ _ _ _ _ hr; rw [bne_iff_ne]; omega
      have b2 : decide ((0 : Int) ≤ (p : Int)) = true := by simp
      have b3 : decide ((p : Int) ≤ (s.size : Int)) = true := by simp; omega
      refine (Tokens_err hr (by omega) (by rw [HLL.out] at hcount; omega)).mono ?_
      rintro e2 w2 ⟨hf2, rfl⟩
      have HF2 := hid hf2
      clear hf2 hr hcount
      go_wp2_with fail
      go_ret
      exact ⟨rfl, HF1.out.trans HF2.out⟩
    | none =>
      have hok := Lx.lexAll_places _ hr
      obtain ⟨ts, hts⟩ : ∃ ts, (Lx.lexAll s.data.toList).1 = ts := ⟨_, rfl⟩
      rw [hts] at hok hcount
      rw [HLL.out] at hcount
      have hlex : Lx.lexAll s.data.toList = (ts, none) := by rw [← hts, ← hr]
      refine (Tokens_ok hlex (by omega) (by omega)).mono ?_
      rintro e2 w2 ⟨hf2, v, rfl, hrow⟩
      obtain ⟨A, cap, rfl⟩ : ∃ A cap, v = .slice A ts.length cap := by
        rcases hrow.2 with ⟨h1, h2⟩ | ⟨g, cap, cur, h1, _⟩
        · exact ⟨none, 0, by rw [h1, h2]⟩
        · exact ⟨_, _, h1⟩
      have HF2 := hid hf2
      have HOK := hid hok
      have HROW := hid hrow
      clear hf2 hok hrow hlex hts hr
      go_wp2_with fail
      go_loopw [6, 40] (fun x y wr => ∃ (i e : Nat), x = .int .i64 e ∧ y = .int .i64 i ∧ i ≤ ts.length ∧ Hid (Lx.okFrom s.data.toList e (ts.drop i)) ∧ Hid (Fresh w2 wr)) (fun _ y _ => ts.length - (intOf y).toNat)
      case atStart => exact ⟨0, 0, rfl, rfl, Nat.zero_le _, HOK, Touch.refl _ _⟩
      case round =>
        obtain ⟨i, e, rfl, rfl, hi, HO, HFR⟩ := hrel
        by_cases c2 : i < ts.length
        · have d1 : decide ((i : Int) < (ts.length : Int)) = true := by simp; omega
          have d1' : (i : Int) < (ts.length : Int) := by omega
          obtain ⟨g, cap', hv, hg1, hg2, hcells⟩ := toks_cells HROW.out i c2
          cases hv
          obtain ⟨q0, q1, q2, q3⟩ := tok_four hcells HFR.out
          clear hcells
          have hO := HO.out
          rw [List.drop_eq_getElem_cons c2] at hO
          obtain ⟨o1, o2, o3, o4, o5, o6⟩ := hO
          generalize ts[i] = tk at *
          have H4 := hid o4
          have H5 := hid o5
          have H6 := hid o6
          clear o4 o5 o6 HO
          rw [HLL.out] at o3
          go_wp2_with fail
          refine (blank_yes _ _ (by simp; omega) (by rw [extract_list]; exact H4.out)).mono ?_
          rintro e3 w3 ⟨rfl, rfl⟩
          have hblk := Blk.new wr 28 #[.int .i64 tk.kind, .string ⟨tk.text.toArray⟩, .int .i64 tk.from_, .int .i64 tk.to_]
          have hfr3 : Fresh wr (wr.alloc (.cells #[.int .i64 tk.kind, .string ⟨tk.text.toArray⟩, .int .i64 tk.from_, .int .i64 tk.to_] 28)) := (Touch.refl _ wr).alloc _
          generalize (wr.alloc (.cells #[.int .i64 tk.kind, .string ⟨tk.text.toArray⟩, .int .i64 tk.from_, .int .i64 tk.to_] 28)) = W3 at *
          have hsp : (⟨(Lx.spellL tk.kind tk.text).toArray⟩ : ByteArray) = s.extract tk.from_ tk.to_ := by
            apply ByteArray.ext
            apply Array.toList_inj.1
            rw [extract_list, H5.out]
          have htl : (⟨tk.text.toArray⟩ : ByteArray).size ≤ 1000000000 := by
            have h1 := Lx.spellL_len tk.kind tk.text
            have h2 : (Lx.spellL tk.kind tk.text).length ≤ s.size := by
              rw [← H5.out, List.length_take, List.length_drop, HLL.out]; omega
            show tk.text.toArray.size ≤ _
            simp; omega
          have cS : ∀ d os, Calls Try.prog 10 #[.agg #[.int .i64 tk.kind, .string ⟨tk.text.toArray⟩, .int .i64 tk.from_, .int .i64 tk.to_]] (Go.Sort.grow (redrawn W3 d) os) fun e w'' => e = .returned (.string (s.extract tk.from_ tk.to_)) ∧ ∃ p : Regrown, w'' = Go.Sort.grow (redrawn W3 p.d) p.os :=
            fun d os => Calls.regrown_of ((spell_any tk.kind ⟨tk.text.toArray⟩ tk.from_ tk.to_ _ htl).mono fun e' w' h => ⟨by rw [h.1, hsp], h.2.below⟩)
          have CS := hid cS
          have o4 : tk.from_ ≤ tk.to_ := by omega
          have o5 : (tk.from_ : Int) ≤ (tk.to_ : Int) := by omega
          have o6 : (tk.to_ : Int) ≤ (s.size : Int) := by omega
          have HBLK := hid hblk
          have HFR3 := hid hfr3
          clear hsp cS q0 q1 q2 q3
          obtain ⟨q0, q1, q2, q3, z0, z1, z2, z3, hg⟩ := Blk.four hblk
          have k0 := cell_regrown q0
          have k1 := cell_regrown q1
          have k2 := cell_regrown q2
          have k3 := cell_regrown q3
          clear hblk hfr3
          go_wp2_with fail
          refine wp_region_quiet_below (by kernel_rfl) (by kernel_rfl) ?_
          repeat (quiet_step (exact CS.out _ _))
          refine wpQuiet_nil ?_
          intro _ hw'
          obtain ⟨⟨dq, osq⟩, hw''⟩ := hw'
          subst hw''
          go_wp2_with fail
          go_roundw
          case rel => exact ⟨i + 1, tk.to_, rfl, by go_num, c2, H6, HFR.out.trans (HFR3.out.trans (fresh_of_below (below_regrown _ _ _)))⟩
          case measure => simp [intOf]; omega
        · have d1 : decide ((i : Int) < (ts.length : Int)) = false := by simp; omega
          have hO := HO.out
          rw [List.drop_eq_nil_of_le (by omega)] at hO
          obtain ⟨o1, o2⟩ := hO
          have H2 := hid o2
          clear o2 HO
          rw [HLL.out] at o1
          go_wp2_with fail
          refine (blank_yes _ _ (by simp; omega) (by rw [extract_list, List.take_of_length_le (by rw [List.length_drop, HLL.out]; exact Nat.le_refl _)]; exact H2.out)).mono ?_
          rintro e3 w3 ⟨rfl, rfl⟩
          go_wp2_with fail
          go_ret
          exact ⟨rfl, HF1.out.trans (HF2.out.trans HFR.out)⟩
end Go.Proofs.Ytleclhmdcdichaa
