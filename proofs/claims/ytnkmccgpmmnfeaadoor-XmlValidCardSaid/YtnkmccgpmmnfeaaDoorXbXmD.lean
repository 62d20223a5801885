/- xml.valid, xml.Valid walked. -/
import Derived.Test.YtnkmccgpmmnfeaaDoorXa7
import Derived.Test.YtnkmccgpmmnfeaaDoorXbEqE
namespace Go.Proofs.YtnkmccgpmmnfeaaDoor
open Go.RowKit
open El (E Attrs vald valdL)

/-- How xml.valid ends. -/
def ValidEnd (d k c : Nat) (e : E) (w : World) (x : Ending) (w' : World) : Prop := x = .returned (.bool (vald d k e)) ∧ Touch (fun b => b = c) w w' ∧ ∃ k' : Int, Blk w' c 3 #[.int .i64 k'] ∧ (vald d k e = true → k' = ((k + El.count e : Nat) : Int))
def XvalidC (e : E) : Prop := ∀ (g o c d k : Nat) (va vk : Value) (w : World), ElAt w g o e va vk → Blk w c 3 #[.int .i64 (k : Int)] → k ≤ 3000 → d ≤ 65 → Calls Tryd.prog 23 #[.pointer (some ⟨g, o, none⟩), .int .i64 (d : Int), .pointer (some ⟨c, 0, none⟩)] w (ValidEnd d k c e w)

theorem xname_list (l : List UInt8) (w : World) (h : l.length ≤ 9223372036854775807) : Calls Tryd.prog 31 #[.string ⟨l.toArray⟩] w fun e w' => e = .returned (.bool (El.nameOK l)) ∧ Fresh w w' :=
  (xname_any ⟨l.toArray⟩ w h).mono fun e w' ⟨h1, h2⟩ => ⟨h1, by rw [h2]; exact Touch.refl _ _⟩
theorem xvalue_list (l : List UInt8) (w : World) (h : l.length ≤ 9223372036854775807) : Calls Tryd.prog 32 #[.string ⟨l.toArray⟩] w fun e w' => e = .returned (.bool (El.valueOK l)) ∧ Fresh w w' :=
  (xvalue_any ⟨l.toArray⟩ w h).mono fun e w' ⟨h1, h2⟩ => ⟨h1, by rw [h2]; exact Touch.refl _ _⟩
theorem validEnd_false {d k c : Nat} {e : E} {w w' : World} {k' : Int} (hv : vald d k e = false) (ht : Touch (fun b => b = c) w w') (hb : Blk w' c 3 #[.int .i64 k']) : ValidEnd d k c e w (.returned (.bool false)) w' :=
  ⟨by rw [hv], ht, k', hb, fun h => by rw [hv] at h; cases h⟩

set_option maxRecDepth 100000 in
set_option maxHeartbeats 2000000 in
theorem xvalid_step (e : E) (ih : ∀ x ∈ e.kids, XvalidC x) : XvalidC e := by
  intro g o c d k va vk w he hc hk hd
  have HQ := hid (El.vald_eq d k e)
  obtain ⟨n, ats, ks, t⟩ := e
  obtain ⟨hg, h0, h1, h2, h3, ha, hks, hnl, htl⟩ := he
  have HE := hid (show ElAt w g o (.mk n ats ks t) va vk from ⟨hg, h0, h1, h2, h3, ha, hks, hnl, htl⟩)
  have hne : g ≠ c := HE.out.ne (NoStr.int hc)
  have HA := hid (show RepA w ats va from ha)
  have HK := hid (show RepE w ks vk from hks)
  have HIH := hid ih
  have hnl' : n.length ≤ maxLen := hnl
  have htl' : t.length ≤ maxLen := htl
  unfold maxLen at hnl' htl'
  have hl1 : ats.length ≤ maxLen := by obtain ⟨_, _, _, h, _⟩ := ha; exact h.1
  have hl2 : ks.length ≤ maxLen := hks.len
  unfold maxLen at hl1 hl2
  obtain ⟨A, ca, hva⟩ := ha.slice
  obtain ⟨B, cb, hvb⟩ := hks.slice
  replace hva : va = .slice A ats.length ca := hva
  replace hvb : vk = .slice B ks.length cb := hvb
  subst hva
  subst hvb
  replace h0 : w.cell? ⟨g, o, none⟩ = some (.string ⟨n.toArray⟩) := h0
  replace h3 : w.cell? ⟨g, o + 3, none⟩ = some (.string ⟨t.toArray⟩) := h3
  obtain ⟨q0⟩ : Nonempty (PLift (w.cell? ⟨c, 0, none⟩ = some (.int .i64 (k : Int)))) := ⟨⟨hc.cell 0⟩⟩
  have q0 := q0.down
  have qf : w.frozen? ⟨c, 0, none⟩ = false := hc.frozen 0
  have qg : c < w.heap.size := hc.lt
  have HC := hid hc
  clear ih ha hks hnl htl hc
  have HC1 := hid (show Blk (w.setCell ⟨c, 0, none⟩ (.int .i64 ((k : Int) + 1))) c 3 #[.int .i64 ((k : Int) + 1)] from HC.out.put 0 (.int .i64 ((k : Int) + 1)))
  have HT1 := hid ((Touch.refl (fun b => b = c) w).setCell (p := ⟨c, 0, none⟩) (.inl rfl) (.int .i64 ((k : Int) + 1)))
  have HE1 := hid (HE.out.turn HT1.out fun b hb => by rw [show b = c from hb]; exact NoStr.int HC.out)
  have hkw : (k : Int) ≤ 3000 := by omega
  have hdw : (d : Int) ≤ 65 := by omega
  by_cases hb1 : k + 1 ≤ 3000
  · by_cases hb2 : d ≤ 64
    · by_cases hb3 : ats.length ≤ 8
      · have d1 : decide ((3000 : Int) < (k : Int) + 1) = false := dF (by omega)
        have d2 : decide ((64 : Int) < (d : Int)) = false := dF (by omega)
        have d3 : decide ((8 : Int) < (ats.length : Int)) = false := dF (by omega)
        go_enter Tryd.func23, Tryd.ntmps23
        go_wp2_with fail
        generalize hW1 : w.setCell ⟨c, 0, none⟩ (.int .i64 ((k : Int) + 1)) = W1 at *
        clear hW1 h0 h1 h2 h3 q0 qf qg d1 d2 d3
        have HE0 := HE
        have HC0 := HC
        clear HE HC
        obtain ⟨hgW, h0, h1, h2, h3, _⟩ := HE1.out
        replace h0 : W1.cell? ⟨g, o, none⟩ = some (.string ⟨n.toArray⟩) := h0
        replace h3 : W1.cell? ⟨g, o + 3, none⟩ = some (.string ⟨t.toArray⟩) := h3
        have HOWN := hid (show El.ownOK (.mk n ats ks t) = (El.nameOK n && El.valueOK t && (t.isEmpty || ks.isEmpty) && decide (ats.length ≤ 8) && El.attrsOK ats) from rfl)
        refine (xname_any ⟨n.toArray⟩ _ (show n.length ≤ 9223372036854775807 by omega)).mono ?_
        rintro _ w2 ⟨rfl, hw⟩
        replace hw := hw.symm
        subst hw
        cases hnm : El.nameOK n with
        | false =>
          have HV := hid (show vald d k (.mk n ats ks t) = false by rw [HQ.out, HOWN.out, hnm]; simp)
          go_wp2_with fail
          go_ret
          exact validEnd_false HV.out HT1.out HC1.out
        | true =>
        go_wp2_with fail
        refine (xvalue_any ⟨t.toArray⟩ _ (show t.length ≤ 9223372036854775807 by omega)).mono ?_
        rintro _ w2 ⟨rfl, hw⟩
        replace hw := hw.symm
        subst hw
        cases hvl : El.valueOK t with
        | false =>
          have HV := hid (show vald d k (.mk n ats ks t) = false by rw [HQ.out, HOWN.out, hvl]; simp)
          go_wp2_with fail
          go_ret
          exact validEnd_false HV.out HT1.out HC1.out
        | true =>
        by_cases hk0 : 0 < ks.length ∧ t ≠ []
        · obtain ⟨hk0, ht0⟩ := hk0
          have HV := hid (show vald d k (.mk n ats ks t) = false by
            rw [HQ.out, HOWN.out, show t.isEmpty = false from List.isEmpty_eq_false_iff.2 ht0, show ks.isEmpty = false from List.isEmpty_eq_false_iff.2 (List.ne_nil_of_length_pos hk0)]; simp)
          have e0 : ((⟨t.toArray⟩ : ByteArray) != ⟨#[]⟩) = true := by rw [bne, str_eq']; simpa using ht0
          have d5 : decide ((0 : Int) < (ks.length : Int)) = true := dT (by omega)
          have et : (!t.isEmpty) = true := by rw [List.isEmpty_eq_false_iff.2 ht0]; rfl
          go_wp2_with fail
          go_ret
          exact validEnd_false HV.out HT1.out HC1.out
        have HTK := hid (show (t.isEmpty || ks.isEmpty) = true by
          rw [Bool.or_eq_true, List.isEmpty_iff, List.isEmpty_iff]
          by_cases ht : t = []
          · exact .inl ht
          · exact .inr (List.eq_nil_of_length_eq_zero (by have : ¬ 0 < ks.length := fun h => hk0 ⟨h, ht⟩; omega)))
        by_cases ht0 : t = []
        focus
          have et : (!t.isEmpty) = false := by rw [ht0]; rfl
          clear hk0
          go_wp2_with fail
        rotate_left
        focus
          have hk1 : ks.length = 0 := by have : ¬ 0 < ks.length := fun h => hk0 ⟨h, ht0⟩; omega
          have hk2 : ¬ 0 < ks.length := by omega
          have e0 : ((⟨t.toArray⟩ : ByteArray) != ⟨#[]⟩) = true := by rw [bne, str_eq']; simpa using ht0
          have d5 : decide ((0 : Int) < (ks.length : Int)) = false := dF (by omega)
          have et : (!t.isEmpty) = true := by rw [List.isEmpty_eq_false_iff.2 ht0]; rfl
          clear hk0 hk1
          go_wp2_with fail
        all_goals
          clear et ht0 h0 h1 h2 h3
          try clear hk2 e0 d5
          go_loopw [65] (fun i wr => ∃ j : Nat, i = .int .i64 j ∧ j ≤ ats.length ∧ Hid (El.attrsOK (ats.take j) = true) ∧ Hid (Touch (fun b => b = c) w wr) ∧ Hid (Fresh W1 wr) ∧ Hid (Blk wr c 3 #[.int .i64 ((k : Int) + 1)])) (fun i _ => ats.length - (intOf i).toNat)
          case atStart => exact ⟨0, rfl, Nat.zero_le _, El.attrsOK_nil, HT1, Touch.refl _ _, HC1⟩
          case round =>
            obtain ⟨j, rfl, hj, HOK, HT, HF, HC⟩ := hrel
            by_cases c1 : j < ats.length
            · have d1 : decide ((j : Int) < (ats.length : Int)) = true := dT (by omega)
              have d1' : (j : Int) < (ats.length : Int) := by omega
              have hjc : j ≤ ca := by have := HA.out.cap; omega
              have HA1 := hid (show RepA W1 ats _ from HE1.out.2.2.2.2.2.1)
              obtain ⟨ga, oa, rfl, hga, m0, m1, hx1, hx2⟩ := HA1.out.get j c1
              have HAJ := hid (HA1.out.take j hj)
              have HX1 := hid hx1
              have HX2 := hid hx2
              have e0 := HF.out.cell m0 (fun h => h)
              have f0 := HF.out.cell m1 (fun h => h)
              have h1r := (HE1.out.fresh HF.out).2.2.1
              have HS := hid (El.attrsOK_snoc ats j c1)
              clear m0 m1 hx1 hx2
              generalize ats[j] = x at *
              cases hA : El.nameOK x.1 with
              | false =>
                go_wp2_with fail
                refine forget_world (fun W => Fresh wr W ∧ Blk W wr.heap.size 40 #[.string ⟨x.1.toArray⟩, .string ⟨x.2.toArray⟩]) ⟨frR, blkN⟩ ?_
                rintro w4 ⟨hf4, hb4⟩
                have HF4 := hid hf4
                have HB4 := hid hb4
                have z0 := HF4.out.cell h1r (fun h => h)
                have zg := HF4.out.size
                clear hf4 hb4 e0 f0 h1r
                have g0 := cR z0
                have g1 := cR (show w4.cell? ⟨wr.heap.size, 0, none⟩ = some (.string ⟨x.1.toArray⟩) from HB4.out.cell 0)
                have g2 := cR (show w4.cell? ⟨wr.heap.size, 1, none⟩ = some (.string ⟨x.2.toArray⟩) from HB4.out.cell 1)
                have C0 := hid (calmF (P := Tryd.prog) w4 (fun w hw => (show Calls _ _ _ _ (fun e w' => e = .returned (.bool false) ∧ Fresh w w') from hA ▸ xname_list x.1 w (by have := HX1.out; unfold maxLen at this; omega))))
                refine wp_region_quiet_below (by kernel_rfl) (by kernel_rfl) ?_
                repeat (with_reducible refine wpQuiet_step (fun K hK => ?_); go_simp; first | (refine hK _ ?_; clear hK K) | (apply Exists.intro; refine ⟨fun _ => ?_, hK _ ?_⟩; (first | with_reducible exact C0.out _ _); clear hK K))
                refine wpQuiet_nil ?_
                rintro w5 ⟨⟨_, _⟩, hW5⟩
                have hf5 : Fresh w4 w5 := by rw [hW5]; exact fresh_of_below (below_regrown _ _ _)
                clear hW5 g0 g1 g2 z0
                have HF5 := hid (HF4.out.trans hf5)
                clear hf5
                have HV := hid (show vald d k (.mk n ats ks t) = false by rw [HQ.out, HOWN.out, El.attrsOK_no ats (j + 1) (by rw [HS.out, HOK.out, hA]; simp)]; simp)
                go_wp2_with fail
                go_ret
                exact validEnd_false HV.out (HT.out.trans (HF5.out.mono fun _ h => h.elim)) (HF5.out.blk HC.out fun h => h)
              | true =>
              cases hB : El.valueOK x.2 with
              | false =>
                go_wp2_with fail
                refine forget_world (fun W => Fresh wr W ∧ Blk W wr.heap.size 40 #[.string ⟨x.1.toArray⟩, .string ⟨x.2.toArray⟩]) ⟨frR, blkN⟩ ?_
                rintro w4 ⟨hf4, hb4⟩
                have HF4 := hid hf4
                have HB4 := hid hb4
                have z0 := HF4.out.cell h1r (fun h => h)
                have zg := HF4.out.size
                clear hf4 hb4 e0 f0 h1r
                have g0 := cR z0
                have g1 := cR (show w4.cell? ⟨wr.heap.size, 0, none⟩ = some (.string ⟨x.1.toArray⟩) from HB4.out.cell 0)
                have g2 := cR (show w4.cell? ⟨wr.heap.size, 1, none⟩ = some (.string ⟨x.2.toArray⟩) from HB4.out.cell 1)
                have C0 := hid (calmF (P := Tryd.prog) w4 (fun w hw => (show Calls _ _ _ _ (fun e w' => e = .returned (.bool true) ∧ Fresh w w') from hA ▸ xname_list x.1 w (by have := HX1.out; unfold maxLen at this; omega))))
                have C1 := hid (calmF (P := Tryd.prog) w4 (fun w hw => (show Calls _ _ _ _ (fun e w' => e = .returned (.bool false) ∧ Fresh w w') from hB ▸ xvalue_list x.2 w (by have := HX2.out; unfold maxLen at this; omega))))
                refine wp_region_quiet_below (by kernel_rfl) (by kernel_rfl) ?_
                repeat (with_reducible refine wpQuiet_step (fun K hK => ?_); go_simp; first | (refine hK _ ?_; clear hK K) | (apply Exists.intro; refine ⟨fun _ => ?_, hK _ ?_⟩; (first | with_reducible exact C0.out _ _ | with_reducible exact C1.out _ _); clear hK K))
                refine wpQuiet_nil ?_
                rintro w5 ⟨⟨_, _⟩, hW5⟩
                have hf5 : Fresh w4 w5 := by rw [hW5]; exact fresh_of_below (below_regrown _ _ _)
                clear hW5 g0 g1 g2 z0
                have HF5 := hid (HF4.out.trans hf5)
                clear hf5
                have HV := hid (show vald d k (.mk n ats ks t) = false by rw [HQ.out, HOWN.out, El.attrsOK_no ats (j + 1) (by rw [HS.out, HOK.out, hB]; simp)]; simp)
                go_wp2_with fail
                go_ret
                exact validEnd_false HV.out (HT.out.trans (HF5.out.mono fun _ h => h.elim)) (HF5.out.blk HC.out fun h => h)
              | true =>
              cases hC : (ats.take j).any (fun y => y.1 == x.1) with
              | true =>
                go_wp2_with fail
                refine forget_world (fun W => Fresh wr W ∧ Blk W wr.heap.size 40 #[.string ⟨x.1.toArray⟩, .string ⟨x.2.toArray⟩]) ⟨frR, blkN⟩ ?_
                rintro w4 ⟨hf4, hb4⟩
                have HF4 := hid hf4
                have HB4 := hid hb4
                have z0 := HF4.out.cell h1r (fun h => h)
                have zg := HF4.out.size
                clear hf4 hb4 e0 f0 h1r
                have g0 := cR z0
                have g1 := cR (show w4.cell? ⟨wr.heap.size, 0, none⟩ = some (.string ⟨x.1.toArray⟩) from HB4.out.cell 0)
                have g2 := cR (show w4.cell? ⟨wr.heap.size, 1, none⟩ = some (.string ⟨x.2.toArray⟩) from HB4.out.cell 1)
                have C0 := hid (calmF (P := Tryd.prog) w4 (fun w hw => (show Calls _ _ _ _ (fun e w' => e = .returned (.bool true) ∧ Fresh w w') from hA ▸ xname_list x.1 w (by have := HX1.out; unfold maxLen at this; omega))))
                have C1 := hid (calmF (P := Tryd.prog) w4 (fun w hw => (show Calls _ _ _ _ (fun e w' => e = .returned (.bool true) ∧ Fresh w w') from hB ▸ xvalue_list x.2 w (by have := HX2.out; unfold maxLen at this; omega))))
                have C2 := hid (calmF (P := Tryd.prog) w4 (fun w hw => (show Calls _ _ _ _ (fun e w' => e = .returned (.bool true) ∧ Fresh w w') from hC ▸ xhas_any (ats.take j) x.1 (.slice (some ⟨ga, oa, none⟩) j ca) w ((HAJ.out.fresh (HF.out.trans HF4.out)).fresh hw))))
                refine wp_region_quiet_below (by kernel_rfl) (by kernel_rfl) ?_
                repeat (with_reducible refine wpQuiet_step (fun K hK => ?_); go_simp; first | (refine hK _ ?_; clear hK K) | (apply Exists.intro; refine ⟨fun _ => ?_, hK _ ?_⟩; (first | with_reducible exact C0.out _ _ | with_reducible exact C1.out _ _ | with_reducible exact C2.out _ _); clear hK K))
                refine wpQuiet_nil ?_
                rintro w5 ⟨⟨_, _⟩, hW5⟩
                have hf5 : Fresh w4 w5 := by rw [hW5]; exact fresh_of_below (below_regrown _ _ _)
                clear hW5 g0 g1 g2 z0
                have HF5 := hid (HF4.out.trans hf5)
                clear hf5
                have HV := hid (show vald d k (.mk n ats ks t) = false by rw [HQ.out, HOWN.out, El.attrsOK_no ats (j + 1) (by rw [HS.out, HOK.out, hC]; simp)]; simp)
                go_wp2_with fail
                go_ret
                exact validEnd_false HV.out (HT.out.trans (HF5.out.mono fun _ h => h.elim)) (HF5.out.blk HC.out fun h => h)
              | false =>
                go_wp2_with fail
                refine forget_world (fun W => Fresh wr W ∧ Blk W wr.heap.size 40 #[.string ⟨x.1.toArray⟩, .string ⟨x.2.toArray⟩]) ⟨frR, blkN⟩ ?_
                rintro w4 ⟨hf4, hb4⟩
                have HF4 := hid hf4
                have HB4 := hid hb4
                have z0 := HF4.out.cell h1r (fun h => h)
                have zg := HF4.out.size
                clear hf4 hb4 e0 f0 h1r
                have g0 := cR z0
                have g1 := cR (show w4.cell? ⟨wr.heap.size, 0, none⟩ = some (.string ⟨x.1.toArray⟩) from HB4.out.cell 0)
                have g2 := cR (show w4.cell? ⟨wr.heap.size, 1, none⟩ = some (.string ⟨x.2.toArray⟩) from HB4.out.cell 1)
                have C0 := hid (calmF (P := Tryd.prog) w4 (fun w hw => (show Calls _ _ _ _ (fun e w' => e = .returned (.bool true) ∧ Fresh w w') from hA ▸ xname_list x.1 w (by have := HX1.out; unfold maxLen at this; omega))))
                have C1 := hid (calmF (P := Tryd.prog) w4 (fun w hw => (show Calls _ _ _ _ (fun e w' => e = .returned (.bool true) ∧ Fresh w w') from hB ▸ xvalue_list x.2 w (by have := HX2.out; unfold maxLen at this; omega))))
                have C2 := hid (calmF (P := Tryd.prog) w4 (fun w hw => (show Calls _ _ _ _ (fun e w' => e = .returned (.bool false) ∧ Fresh w w') from hC ▸ xhas_any (ats.take j) x.1 (.slice (some ⟨ga, oa, none⟩) j ca) w ((HAJ.out.fresh (HF.out.trans HF4.out)).fresh hw))))
                refine wp_region_quiet_below (by kernel_rfl) (by kernel_rfl) ?_
                repeat (with_reducible refine wpQuiet_step (fun K hK => ?_); go_simp; first | (refine hK _ ?_; clear hK K) | (apply Exists.intro; refine ⟨fun _ => ?_, hK _ ?_⟩; (first | with_reducible exact C0.out _ _ | with_reducible exact C1.out _ _ | with_reducible exact C2.out _ _); clear hK K))
                refine wpQuiet_nil ?_
                rintro w5 ⟨⟨_, _⟩, hW5⟩
                have hf5 : Fresh w4 w5 := by rw [hW5]; exact fresh_of_below (below_regrown _ _ _)
                clear hW5 g0 g1 g2 z0
                have HF5 := hid (HF4.out.trans hf5)
                clear hf5
                have HS2 := hid (show El.attrsOK (ats.take (j + 1)) = true by rw [HS.out, HOK.out, hA, hB, hC]; rfl)
                go_wp2_with fail
                go_roundw
                case rel => exact ⟨j + 1, by go_num, c1, HS2, hid (HT.out.trans (HF5.out.mono fun _ h => h.elim)), hid (HF.out.trans HF5.out), hid (HF5.out.blk HC.out fun h => h)⟩
                case measure => simp [intOf]; omega
            · have d1 : decide ((j : Int) < (ats.length : Int)) = false := dF (by omega)
              obtain rfl : j = ats.length := by omega
              have HAT := hid (show El.attrsOK ats = true by have := HOK.out; rwa [List.take_length] at this)
              have HVV := hid (show vald d k (.mk n ats ks t) = valdL (d + 1) (k + 1) ks by
                rw [HQ.out, HOWN.out, HAT.out, hnm, hvl, HTK.out, show decide (ats.length ≤ 8) = true from dT hb3, show decide (k + 1 ≤ 3000) = true from dT hb1, show decide (d ≤ 64) = true from dT hb2]; rfl)
              clear HAT HOK d1 hj
              have h2r : wr.cell? ⟨g, o + 2, none⟩ = some (.slice B ks.length cb) := (HE1.out.fresh HF.out).2.2.2.1
              go_wp2_with fail
              clear h2r
              go_loopw [97] (fun i wr => ∃ j : Nat, i = .int .i64 j ∧ j ≤ ks.length ∧ Hid (valdL (d + 1) (k + 1) (ks.take j) = true) ∧ Hid (Touch (fun b => b = c) w wr) ∧ Hid (Blk wr c 3 #[.int .i64 ((k + 1 + El.countL (ks.take j) : Nat) : Int)])) (fun i _ => ks.length - (intOf i).toNat)
              case atStart =>
                refine ⟨0, rfl, Nat.zero_le _, ?_, HT, ?_⟩
                · show valdL (d + 1) (k + 1) [] = true
                  unfold valdL
                  rw [El.properL, El.depthL, El.countL, dT (by omega), dT (by omega)]; rfl
                · have := HC.out
                  show Blk _ _ _ #[.int .i64 ((k + 1 + El.countL [] : Nat) : Int)]
                  rw [El.countL, Nat.add_zero]
                  exact this
              case round =>
                clear HT HC HF
                obtain ⟨j, rfl, hj, HV, HT, HC⟩ := hrel
                rename_i wr _
                have HE2 := hid (HE0.out.turn HT.out fun b hb => by rw [show b = c from hb]; exact NoStr.int HC0.out)
                by_cases c1 : j < ks.length
                · have d1 : decide ((j : Int) < (ks.length : Int)) = true := dT (by omega)
                  have d1' : (j : Int) < (ks.length : Int) := by omega
                  have h2r : wr.cell? ⟨g, o + 2, none⟩ = some (.slice B ks.length cb) := HE2.out.2.2.2.1
                  have hgr := HE2.out.1
                  obtain ⟨gk, ok, wa, wk, rfl, hek⟩ := (show RepE wr ks _ from HE2.out.2.2.2.2.2.2.1).elAt j c1
                  have hsm : k + 1 + El.countL (ks.take j) ≤ 3000 := by
                    have := HV.out
                    unfold valdL at this
                    rw [Bool.and_eq_true, decide_eq_true_eq] at this
                    exact this.2
                  have HS := hid (El.valdL_snoc (d + 1) (k + 1) ks j c1)
                  have HN := hid (El.valdL_no (d + 1) (k + 1) ks (j + 1))
                  have HCT := hid (El.countL_take ks j c1)
                  have hcall := HIH.out ks[j] (List.getElem_mem c1) gk (ok + j * 4) c (d + 1) _ wa wk wr hek HC.out hsm (by omega)
                  rw [show ((d + 1 : Nat) : Int) = (d : Int) + 1 by omega] at hcall
                  have HCALL := hid hcall
                  clear hek hcall
                  generalize ks[j] = x at *
                  go_wp2_with fail
                  refine HCALL.out.mono ?_
                  rintro _ w5 ⟨rfl, ht5, k5, hb5, hk5⟩
                  have HT5 := hid (HT.out.trans ht5)
                  have HB5 := hid hb5
                  have HK5 := hid hk5
                  clear ht5 hb5 hk5
                  cases hv : vald (d + 1) (k + 1 + El.countL (ks.take j)) x with
                  | false =>
                    have HVF := hid (show vald d k (.mk n ats ks t) = false by rw [HVV.out]; exact HN.out (by rw [HS.out, HV.out, hv]; rfl))
                    clear hv
                    go_wp2_with fail
                    go_ret
                    exact validEnd_false HVF.out HT5.out HB5.out
                  | true =>
                    have HVT := hid (show valdL (d + 1) (k + 1) (ks.take (j + 1)) = true by rw [HS.out, HV.out, hv]; rfl)
                    have HKK := hid (HK5.out hv)
                    clear hv
                    go_wp2_with fail
                    go_roundw
                    case rel => exact ⟨j + 1, by go_num, c1, HVT, HT5, hid (by rw [HCT.out]; have := HB5.out; rw [HKK.out] at this; rw [← Nat.add_assoc]; exact this)⟩
                    case measure => simp [intOf]; omega
                · have d1 : decide ((j : Int) < (ks.length : Int)) = false := dF (by omega)
                  obtain rfl : j = ks.length := by omega
                  have HVT := hid (show vald d k (.mk n ats ks t) = true by rw [HVV.out]; have := HV.out; rwa [List.take_length] at this)
                  go_wp2_with fail
                  go_ret
                  refine ⟨by rw [HVT.out]; rfl, HT.out, _, HC.out, fun _ => ?_⟩
                  rw [List.take_length, El.count, Nat.add_assoc]
      · have d1 : decide ((3000 : Int) < (k : Int) + 1) = false := dF (by omega)
        have d2 : decide ((64 : Int) < (d : Int)) = false := dF (by omega)
        have d3 : decide ((8 : Int) < (ats.length : Int)) = true := dT (by omega)
        have HV := hid (show vald d k (.mk n ats ks t) = false by rw [HQ.out]; unfold El.ownOK; rw [show decide ((E.attrs (.mk n ats ks t)).length ≤ 8) = false from dF hb3]; simp)
        go_enter Tryd.func23, Tryd.ntmps23
        go_wp2_with fail
        go_ret
        exact validEnd_false HV.out HT1.out HC1.out
    · have d1 : decide ((3000 : Int) < (k : Int) + 1) = false := dF (by omega)
      have d2 : decide ((64 : Int) < (d : Int)) = true := dT (by omega)
      have HV := hid (show vald d k (.mk n ats ks t) = false by rw [HQ.out, show decide (d ≤ 64) = false from dF hb2]; simp)
      go_enter Tryd.func23, Tryd.ntmps23
      go_wp2_with fail
      go_ret
      exact validEnd_false HV.out HT1.out HC1.out
  · have d1 : decide ((3000 : Int) < (k : Int) + 1) = true := dT (by omega)
    have HV := hid (show vald d k (.mk n ats ks t) = false by rw [HQ.out, show decide (k + 1 ≤ 3000) = false from dF hb1]; simp)
    go_enter Tryd.func23, Tryd.ntmps23
    go_wp2_with fail
    go_ret
    exact validEnd_false HV.out HT1.out HC1.out
theorem xvalid_any (e : E) : XvalidC e := El.E.ind (p := XvalidC) xvalid_step e
end Go.Proofs.YtnkmccgpmmnfeaaDoor
