/- The reference printer's Place. -/
import Derived.Test.YtilgpmpiidccjaaPqH
import Derived.Test.YtilgpmpiidccjaaPqC
namespace Go.Proofs.Ytilgpmpiidccjaa
open Go.RowKit

theorem own_pcell {B i : Nat} (W : World) (k f t : Int) (s : ByteArray) (hi : W.heap.size = i) (hB : B ≤ W.heap.size) : (W.alloc (.cells #[.int .i64 k, .string s, .int .i64 f, .int .i64 t] 73)).ownsRow B 73 4 (.slice (some ⟨i, 0, none⟩) 1 1) 1 [.int .i64 k, .string s, .int .i64 f, .int .i64 t] := by
  subst hi
  exact ⟨rfl, .inr ⟨W.heap.size, 1, _, rfl, hB, Blk.new W _ _, Nat.le_refl _, by unfold maxLen; omega, rfl, rfl⟩⟩
theorem pcell_one (k f t : Int) (s : ByteArray) : ∀ u ∈ [Value.int .i64 k, .string s, .int .i64 f, .int .i64 t], u.oneCell' = true := by
  intro u hu
  simp only [List.mem_cons, List.not_mem_nil, or_false] at hu
  rcases hu with rfl | rfl | rfl | rfl <;> rfl
theorem added_cells (P : List Lx.PTok) (T gp : List UInt8) (x : Lx.PTok) (f t : Int) (hg : gap P (Lx.tok x) = gp) (hf : f = ((T ++ gp).length : Int)) (ht : t = ((T ++ gp ++ Lx.spell (Lx.tok x)).length : Int)) :
    P.flatMap ptokCells ++ [Value.int .i64 x.kind, .string ⟨x.text.toArray⟩, .int .i64 f, .int .i64 t] = (added P T (Lx.tok x)).flatMap ptokCells := by
  subst hg hf ht
  simp [added, ptokCells, Lx.tok]

set_option maxRecDepth 100000 in
set_option maxHeartbeats 2000000 in
theorem rplace_any (ts : List Lx.PTok) (v : Value) (w : World) (hv : TokRow w v ts) (hm : ts.length ≤ 4000) (ht : ∀ t ∈ ts, t.text.length ≤ 1000) :
    Calls Try.prog 35 #[v] w fun e w' => ∃ v', e = .returned v' ∧ w'.ownsRow w.heap.size 73 4 v' (aT ts ts.length).1.length ((aT ts ts.length).1.flatMap ptokCells) ∧ Fresh w w' := by
  obtain ⟨A, cap, rfl, hc⟩ := hv
  obtain ⟨i0, hi, hz0, hz1, hz2⟩ := info_parts infoRTok
  have HC := hid hc
  have HTX := hid ht
  clear hc ht
  go_enter Try.func35, Try.ntmps35
  go_wp2_with fail
  go_loopw [3, 4, 5] (fun acc p i wr => ∃ (j : Nat) (A0 : Option Addr) (c0 : Nat), acc = .slice A0 (aT ts j).1.length c0 ∧ p = .int .i64 ((aT ts j).2.length : Nat) ∧ i = .int .i64 j ∧ j ≤ ts.length ∧ Hid (wr.ownsRow w.heap.size 73 4 (.slice A0 (aT ts j).1.length c0) (aT ts j).1.length ((aT ts j).1.flatMap ptokCells)) ∧ Hid (Fresh w wr)) (fun _ _ i _ => ts.length - (intOf i).toNat)
  case atStart => exact ⟨0, none, 0, rfl, rfl, rfl, Nat.zero_le _, World.ownsRow_nil _ _ _ _, Touch.refl _ _⟩
  case round =>
    obtain ⟨j, A0, c0, rfl, rfl, rfl, hj, HO, HF⟩ := hrel
    by_cases c1 : j < ts.length
    · have d1 : decide ((j : Int) < (ts.length : Int)) = true := by simp only [decide_eq_true_eq]; omega
      have d1n : decide (j < ts.length) = true := by simp only [decide_eq_true_eq]; omega
      have d1' : (j : Int) < (ts.length : Int) := by omega
      obtain ⟨g, o, rfl, hg, m0, m1, m2, m3⟩ := HC.out j c1
      have HST := hid (aT_step ts j c1)
      have hsz := aT_size ts HTX.out j hj
      have hpl : (aT ts j).1.length ≤ 4000 := by rw [aT_len]; omega
      have htx := HTX.out _ (List.getElem_mem c1)
      have hsp := spell_size ts[j] htx
      have x0 := HF.out.cell m0 (fun h => h)
      have x1 := HF.out.cell m1 (fun h => h)
      have x2 := HF.out.cell m2 (fun h => h)
      have x3 := HF.out.cell m3 (fun h => h)
      have hgr : g < wr.heap.size := block_lt_of_cell x0
      have hsw : w.heap.size ≤ wr.heap.size := Touch.size HF.out
      clear m0 m1 m2 m3 hg
      obtain ⟨acc, hacc⟩ : ∃ acc, (aT ts j).2 = acc := ⟨_, rfl⟩
      obtain ⟨P, hP⟩ : ∃ P, (aT ts j).1 = P := ⟨_, rfl⟩
      have HP := hid hP
      rw [hacc] at HST hsz
      rw [hP] at HST HO hpl
      rw [hacc, hP]
      clear hacc hP
      obtain ⟨x, hx⟩ : ∃ x, ts[j] = x := ⟨_, rfl⟩
      rw [hx] at HST htx hsp x0 x1 x2 x3
      clear hx
      by_cases j0 : j = 0
      · subst j0
        have HGAP := hid (show gap P (Lx.tok x) = [] by rw [← HP.out]; exact aT_gap0 ts _)
        rw [Nat.zero_mul, Nat.add_zero] at x0 x1 x2 x3
        go_wp2_with fail
        go_quiet (fail)
        have HFX := HF
        rename_i nq
        have HFW : Fresh wr (wr.drewN nq) := (Touch.refl _ _).drewN _
        have hsW : wr.heap.size ≤ (wr.drewN nq).heap.size := Touch.size HFW
        have u0 := HFW.cell x0 (fun h => h)
        have u1 := HFW.cell x1 (fun h => h)
        have u2 := HFW.cell x2 (fun h => h)
        have u3 := HFW.cell x3 (fun h => h)
        replace HFX := hid (HF.out.trans HFW)
        clear x0 x1 x2 x3
        generalize wr.drewN nq = W3 at *
        have hgr3 : g < W3.heap.size := block_lt_of_cell u0
        go_wp2_with fail
        refine (show Calls Try.prog 52 _ _ (fun e w' => e = .returned (.string ⟨(Lx.spell (Lx.tok x)).toArray⟩) ∧ Fresh _ w') from rspell_tok ⟨x.kind, x.text, acc.length, x.to_⟩ _ (by show x.text.length ≤ _; omega)).mono ?_
        rintro _ w9 ⟨rfl, hf9⟩
        have hb9 := hf9.blk (Blk.new _ _ _) (fun h => h)
        obtain ⟨b0, b1, b2, b3, b4, b5, b6, b7, hb8⟩ := Blk.four hb9
        have HO9 := hid (ownsRow_touch (ownsRow_touch HO.out (show Fresh wr W3 from HFW) (fun _ _ h => h)) (Touch.pre hf9) (fun _ _ h => h))
        have HF9 := hid (HFX.out.trans (Touch.pre hf9))
        have hsw9 : w.heap.size ≤ w9.heap.size := Touch.size HF9.out
        have HOs := hid (ownsRow_touch HO9.out (Touch.setCell (S := (· = W3.heap.size)) (Touch.refl _ w9) (p := ⟨W3.heap.size, 3, none⟩) (.inl rfl) (.int .i64 ((acc.length : Int) + ((Lx.spell (Lx.tok x)).length : Int)))) (fun k hk hs => by have h1 := (HO.out.lt k hk).2; have h2 := Touch.size (show Fresh wr W3 from HFW); have h3 : k = W3.heap.size := hs; omega))
        have HFs := hid (show Fresh w (w9.setCell ⟨W3.heap.size, 3, none⟩ (.int .i64 ((acc.length : Int) + ((Lx.spell (Lx.tok x)).length : Int)))) from HF9.out.setCell (.inr (show w.heap.size ≤ W3.heap.size from by have := Touch.size (show Fresh wr W3 from HFW); omega)) _)
        clear hf9 hb9
        go_wp2_with (at_builtin; go_loud (refine wpList_append_src _ rfl (.tmp 42) (.tmp 44) 34 rfl w.heap.size 73 i0 _ 4 40 Try.underlying34 hi hz0 hz1 hz2 rfl (by decide) (.slice A0 P.length c0) P.length (P.flatMap ptokCells) (by simp [Act.eval]) (World.ownsRow.alloc HOs.out _) (.slice (some ⟨w9.heap.size, 0, none⟩) 1 1) 1 [.int .i64 x.kind, .string ⟨x.text.toArray⟩, .int .i64 (acc.length : Int), .int .i64 ((acc.length : Int) + ((Lx.spell (Lx.tok x)).length : Int))] (by simp [Act.eval]) (Src.of_own (own_pcell (B := w.heap.size) (i := w9.heap.size) _ _ _ _ _ (by simp [World.setCell]) (by simp [World.setCell]; omega))) (pcell_one _ _ _ _) (by unfold maxLen; omega) (by omega) (by simp [World.setCell]; omega) ?_; intro v10 w10 ho hgr10 _; refine Stay.mk ?_))
        have HF10 := hid (show Fresh w w10 from grown_fresh hgr10 (World.ownsRow.alloc HOs.out _) (HFs.out.alloc _))
        have e10 := added_cells P acc [] x (acc.length : Int) ((acc.length : Int) + ((Lx.spell (Lx.tok x)).length : Int)) HGAP.out (by simp <;> omega) (by simp <;> omega)
        rw [e10] at ho
        have hO9 : w10.ownsRow w.heap.size 73 4 v10 (aT ts (0 + 1)).1.length ((aT ts (0 + 1)).1.flatMap ptokCells) := by rw [HST.out]; simpa [added] using ho
        obtain ⟨A9, c9, rfl⟩ := own_slice hO9
        have HO10 := hid hO9
        clear hO9 ho hgr10 e10
        refine Stay.go ?_
        go_wp2_with fail
        go_roundw
        case rel => exact ⟨0 + 1, A9, c9, rfl, by rw [HST.out]; simp only [HGAP.out]; simp <;> go_num, by go_num, c1, HO10, HF10⟩
        case measure => simp [intOf]; omega
      · obtain ⟨m, rfl⟩ : ∃ m, j = m + 1 := ⟨j - 1, by omega⟩
        have e0 : decide ((0 : Int) < ((m + 1 : Nat) : Int)) = true := by simp only [decide_eq_true_eq]; omega
        have e0n : decide (0 < m + 1) = true := by simp
        have e0' : (0 : Int) < ((m + 1 : Nat) : Int) := by omega
        have e1 : IntKind.i64.wrap (m : Int) = (m : Int) := IntWalk.i64_in _ (by omega)
        have e2 : (m : Int) + 1 - 1 = (m : Int) := by omega
        have e3 : (m : Int) < (ts.length : Int) := by omega
        have e4 : (m : Int) + 1 < (ts.length : Int) := by omega
        have e5 : (0 : Int) < (m : Int) + 1 := by omega
        have e7 : (0 : Int) ≤ (m : Int) + 1 := by omega
        have e8 : ((m : Int) + 1).toNat = m + 1 := by omega
        have e6 : decide ((0 : Int) < (m : Int) + 1) = true := by simp only [decide_eq_true_eq]; omega
        obtain ⟨g', o', hA', hg', n0, n1, n2, n3⟩ := HC.out m (by omega)
        cases hA'
        have HGAP0 := hid (show gap P (Lx.tok x) = if Lx.join (Lx.tok (ts[m]'(by omega))) (Lx.tok x) then [32] else [] by rw [← HP.out]; exact aT_gap ts m (by omega) _)
        have z0 := HF.out.cell n0 (fun h => h)
        have z1 := HF.out.cell n1 (fun h => h)
        have z2 := HF.out.cell n2 (fun h => h)
        have z3 := HF.out.cell n3 (fun h => h)
        clear n0 n1 n2 n3 HC j0 hg'
        obtain ⟨y, hy⟩ : ∃ y, ts[m]'(by omega) = y := ⟨_, rfl⟩
        rw [hy] at HGAP0 z0 z1 z2 z3
        clear hy
        have gx0 := cell_regrown x0
        have gx1 := cell_regrown x1
        have gx2 := cell_regrown x2
        have gx3 := cell_regrown x3
        have gz0 := cell_regrown z0
        have gz1 := cell_regrown z1
        have gz2 := cell_regrown z2
        have gz3 := cell_regrown z3
        have CJ := hid (calmP (P := Try.prog) (fun w => rjoins_tok y x w) wr)
        cases hjn : Lx.join (Lx.tok y) (Lx.tok x) with
        | false =>
          rw [hjn] at CJ
          have HGAP := hid (show gap P (Lx.tok x) = [] by rw [HGAP0.out, hjn]; rfl)
          clear HGAP0 hjn
          go_wp2_with fail
          refine wp_region_quiet_below (by kernel_rfl) (by kernel_rfl) ?_
          repeat (quiet_step (with_reducible exact CJ.out _ _))
          refine wpQuiet_nil ?_
          rintro W3 ⟨⟨_, _⟩, hW3⟩
          have hf3 : Fresh wr W3 := by rw [hW3]; exact fresh_of_below (below_regrown _ _ _)
          have HFX := hid (HF.out.trans hf3)
          have HFW := hf3
          have u0 := hf3.cell x0 (fun h => h)
          have u1 := hf3.cell x1 (fun h => h)
          have u2 := hf3.cell x2 (fun h => h)
          have u3 := hf3.cell x3 (fun h => h)
          have hgr3 : g < W3.heap.size := block_lt_of_cell u0
          clear hW3 hf3 gx0 gx1 gx2 gx3 gz0 gz1 gz2 gz3 x0 x1 x2 x3 z0 z1 z2 z3
          go_wp2_with fail
          refine (show Calls Try.prog 52 _ _ (fun e w' => e = .returned (.string ⟨(Lx.spell (Lx.tok x)).toArray⟩) ∧ Fresh _ w') from rspell_tok ⟨x.kind, x.text, acc.length, x.to_⟩ _ (by show x.text.length ≤ _; omega)).mono ?_
          rintro _ w9 ⟨rfl, hf9⟩
          have hb9 := hf9.blk (Blk.new _ _ _) (fun h => h)
          obtain ⟨b0, b1, b2, b3, b4, b5, b6, b7, hb8⟩ := Blk.four hb9
          have HO9 := hid (ownsRow_touch (ownsRow_touch HO.out (show Fresh wr W3 from HFW) (fun _ _ h => h)) (Touch.pre hf9) (fun _ _ h => h))
          have HF9 := hid (HFX.out.trans (Touch.pre hf9))
          have hsw9 : w.heap.size ≤ w9.heap.size := Touch.size HF9.out
          have HOs := hid (ownsRow_touch HO9.out (Touch.setCell (S := (· = W3.heap.size)) (Touch.refl _ w9) (p := ⟨W3.heap.size, 3, none⟩) (.inl rfl) (.int .i64 ((acc.length : Int) + ((Lx.spell (Lx.tok x)).length : Int)))) (fun k hk hs => by have h1 := (HO.out.lt k hk).2; have h2 := Touch.size (show Fresh wr W3 from HFW); have h3 : k = W3.heap.size := hs; omega))
          have HFs := hid (show Fresh w (w9.setCell ⟨W3.heap.size, 3, none⟩ (.int .i64 ((acc.length : Int) + ((Lx.spell (Lx.tok x)).length : Int)))) from HF9.out.setCell (.inr (show w.heap.size ≤ W3.heap.size from by have := Touch.size (show Fresh wr W3 from HFW); omega)) _)
          clear hf9 hb9
          go_wp2_with (at_builtin; go_loud (refine wpList_append_src _ rfl (.tmp 42) (.tmp 44) 34 rfl w.heap.size 73 i0 _ 4 40 Try.underlying34 hi hz0 hz1 hz2 rfl (by decide) (.slice A0 P.length c0) P.length (P.flatMap ptokCells) (by simp [Act.eval]) (World.ownsRow.alloc HOs.out _) (.slice (some ⟨w9.heap.size, 0, none⟩) 1 1) 1 [.int .i64 x.kind, .string ⟨x.text.toArray⟩, .int .i64 (acc.length : Int), .int .i64 ((acc.length : Int) + ((Lx.spell (Lx.tok x)).length : Int))] (by simp [Act.eval]) (Src.of_own (own_pcell (B := w.heap.size) (i := w9.heap.size) _ _ _ _ _ (by simp [World.setCell]) (by simp [World.setCell]; omega))) (pcell_one _ _ _ _) (by unfold maxLen; omega) (by omega) (by simp [World.setCell]; omega) ?_; intro v10 w10 ho hgr10 _; refine Stay.mk ?_))
          have HF10 := hid (show Fresh w w10 from grown_fresh hgr10 (World.ownsRow.alloc HOs.out _) (HFs.out.alloc _))
          have e10 := added_cells P acc [] x (acc.length : Int) ((acc.length : Int) + ((Lx.spell (Lx.tok x)).length : Int)) HGAP.out (by simp <;> omega) (by simp <;> omega)
          rw [e10] at ho
          have hO9 : w10.ownsRow w.heap.size 73 4 v10 (aT ts (m + 1 + 1)).1.length ((aT ts (m + 1 + 1)).1.flatMap ptokCells) := by rw [HST.out]; simpa [added] using ho
          obtain ⟨A9, c9, rfl⟩ := own_slice hO9
          have HO10 := hid hO9
          clear hO9 ho hgr10 e10
          refine Stay.go ?_
          go_wp2_with fail
          go_roundw
          case rel => exact ⟨m + 1 + 1, A9, c9, rfl, by rw [HST.out]; simp only [HGAP.out]; simp <;> go_num, by go_num, c1, HO10, HF10⟩
          case measure => simp [intOf]; omega
        | true =>
          rw [hjn] at CJ
          have HGAP := hid (show gap P (Lx.tok x) = [32] by rw [HGAP0.out, hjn]; rfl)
          clear HGAP0 hjn
          go_wp2_with fail
          refine wp_region_quiet_below (by kernel_rfl) (by kernel_rfl) ?_
          repeat (quiet_step (with_reducible exact CJ.out _ _))
          refine wpQuiet_nil ?_
          rintro W3 ⟨⟨_, _⟩, hW3⟩
          have hf3 : Fresh wr W3 := by rw [hW3]; exact fresh_of_below (below_regrown _ _ _)
          have HFX := hid (HF.out.trans hf3)
          have HFW := hf3
          have u0 := hf3.cell x0 (fun h => h)
          have u1 := hf3.cell x1 (fun h => h)
          have u2 := hf3.cell x2 (fun h => h)
          have u3 := hf3.cell x3 (fun h => h)
          have hgr3 : g < W3.heap.size := block_lt_of_cell u0
          clear hW3 hf3 gx0 gx1 gx2 gx3 gz0 gz1 gz2 gz3 x0 x1 x2 x3 z0 z1 z2 z3
          go_wp2_with fail
          refine (show Calls Try.prog 52 _ _ (fun e w' => e = .returned (.string ⟨(Lx.spell (Lx.tok x)).toArray⟩) ∧ Fresh _ w') from rspell_tok ⟨x.kind, x.text, acc.length + 1, x.to_⟩ _ (by show x.text.length ≤ _; omega)).mono ?_
          rintro _ w9 ⟨rfl, hf9⟩
          have hb9 := hf9.blk (Blk.new _ _ _) (fun h => h)
          obtain ⟨b0, b1, b2, b3, b4, b5, b6, b7, hb8⟩ := Blk.four hb9
          have HO9 := hid (ownsRow_touch (ownsRow_touch HO.out (show Fresh wr W3 from HFW) (fun _ _ h => h)) (Touch.pre hf9) (fun _ _ h => h))
          have HF9 := hid (HFX.out.trans (Touch.pre hf9))
          have hsw9 : w.heap.size ≤ w9.heap.size := Touch.size HF9.out
          have HOs := hid (ownsRow_touch HO9.out (Touch.setCell (S := (· = W3.heap.size)) (Touch.refl _ w9) (p := ⟨W3.heap.size, 3, none⟩) (.inl rfl) (.int .i64 (((acc.length : Int) + 1) + ((Lx.spell (Lx.tok x)).length : Int)))) (fun k hk hs => by have h1 := (HO.out.lt k hk).2; have h2 := Touch.size (show Fresh wr W3 from HFW); have h3 : k = W3.heap.size := hs; omega))
          have HFs := hid (show Fresh w (w9.setCell ⟨W3.heap.size, 3, none⟩ (.int .i64 (((acc.length : Int) + 1) + ((Lx.spell (Lx.tok x)).length : Int)))) from HF9.out.setCell (.inr (show w.heap.size ≤ W3.heap.size from by have := Touch.size (show Fresh wr W3 from HFW); omega)) _)
          clear hf9 hb9
          go_wp2_with (at_builtin; go_loud (refine wpList_append_src _ rfl (.tmp 42) (.tmp 44) 34 rfl w.heap.size 73 i0 _ 4 40 Try.underlying34 hi hz0 hz1 hz2 rfl (by decide) (.slice A0 P.length c0) P.length (P.flatMap ptokCells) (by simp [Act.eval]) (World.ownsRow.alloc HOs.out _) (.slice (some ⟨w9.heap.size, 0, none⟩) 1 1) 1 [.int .i64 x.kind, .string ⟨x.text.toArray⟩, .int .i64 ((acc.length : Int) + 1), .int .i64 (((acc.length : Int) + 1) + ((Lx.spell (Lx.tok x)).length : Int))] (by simp [Act.eval]) (Src.of_own (own_pcell (B := w.heap.size) (i := w9.heap.size) _ _ _ _ _ (by simp [World.setCell]) (by simp [World.setCell]; omega))) (pcell_one _ _ _ _) (by unfold maxLen; omega) (by omega) (by simp [World.setCell]; omega) ?_; intro v10 w10 ho hgr10 _; refine Stay.mk ?_))
          have HF10 := hid (show Fresh w w10 from grown_fresh hgr10 (World.ownsRow.alloc HOs.out _) (HFs.out.alloc _))
          have e10 := added_cells P acc [32] x ((acc.length : Int) + 1) (((acc.length : Int) + 1) + ((Lx.spell (Lx.tok x)).length : Int)) HGAP.out (by simp <;> omega) (by simp <;> omega)
          rw [e10] at ho
          have hO9 : w10.ownsRow w.heap.size 73 4 v10 (aT ts (m + 1 + 1)).1.length ((aT ts (m + 1 + 1)).1.flatMap ptokCells) := by rw [HST.out]; simpa [added] using ho
          obtain ⟨A9, c9, rfl⟩ := own_slice hO9
          have HO10 := hid hO9
          clear hO9 ho hgr10 e10
          refine Stay.go ?_
          go_wp2_with fail
          go_roundw
          case rel => exact ⟨m + 1 + 1, A9, c9, rfl, by rw [HST.out]; simp only [HGAP.out]; simp <;> go_num, by go_num, c1, HO10, HF10⟩
          case measure => simp [intOf]; omega
    · have d1 : decide ((j : Int) < (ts.length : Int)) = false := by simp only [decide_eq_false_iff_not]; omega
      have d1n : decide (j < ts.length) = false := by simp only [decide_eq_false_iff_not]; omega
      obtain rfl : j = ts.length := by omega
      go_wp2_with fail
      go_ret
      exact ⟨_, rfl, HO.out, HF.out⟩
end Go.Proofs.Ytilgpmpiidccjaa
