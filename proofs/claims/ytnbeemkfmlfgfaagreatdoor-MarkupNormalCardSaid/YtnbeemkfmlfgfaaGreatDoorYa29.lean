/- Part 29 of 35 of a proof; its texts, joined: XmD, XmE, MnU, MoB, MnR. No condition. -/
import Derived.Test.YtnbeemkfmlfgfaaGreatDoorYa13
import Derived.Test.YtnbeemkfmlfgfaaGreatDoorYa28
import Derived.Test.YtnbeemkfmlfgfaaGreatDoorYa26
import Derived.Test.YtnbeemkfmlfgfaaGreatDoorYa21
set_option maxRecDepth 100000
set_option maxHeartbeats 2000000
namespace Go.Proofs.YtnbeemkfmlfgfaaGreatDoor
open Go.RowKit
open El (E Attrs vald valdL)
def ValidEnd (d k c : Nat) (e : E) (w : World) (x : Ending) (w' : World) : Prop := x = .returned (.bool (vald d k e)) ∧ Touch (fun b => b = c) w w' ∧ ∃ k' : Int, Blk w' c 3 #[.int .i64 k'] ∧ (vald d k e = true → k' = ((k + El.count e : Nat) : Int))
def XvalidC (e : E) : Prop := ∀ (g o c d k : Nat) (va vk : Value) (w : World), ElAt w g o e va vk → Blk w c 3 #[.int .i64 (k : Int)] → k ≤ 3000 → d ≤ 65 → Calls Tryz.prog 71 #[.pointer (some ⟨g, o, none⟩), .int .i64 (d : Int), .pointer (some ⟨c, 0, none⟩)] w (ValidEnd d k c e w)
theorem xname_list (l : List UInt8) (w : World) (h : l.length ≤ 9223372036854775807) : Calls Tryz.prog 133 #[.string ⟨l.toArray⟩] w fun e w' => e = .returned (.bool (El.nameOK l)) ∧ Fresh w w' :=
 (xname_any ⟨l.toArray⟩ w h).mono fun e w' ⟨h1, h2⟩ => ⟨h1, by rw [h2]; exact Touch.refl _ _⟩
theorem xvalue_list (l : List UInt8) (w : World) (h : l.length ≤ 9223372036854775807) : Calls Tryz.prog 134 #[.string ⟨l.toArray⟩] w fun e w' => e = .returned (.bool (El.valueOK l)) ∧ Fresh w w' :=
 (xvalue_any ⟨l.toArray⟩ w h).mono fun e w' ⟨h1, h2⟩ => ⟨h1, by rw [h2]; exact Touch.refl _ _⟩
theorem validEnd_false {d k c : Nat} {e : E} {w w' : World} {k' : Int} (hv : vald d k e = false) (ht : Touch (fun b => b = c) w w') (hb : Blk w' c 3 #[.int .i64 k']) : ValidEnd d k c e w (.returned (.bool false)) w' :=
 ⟨by rw [hv], ht, k', hb, fun h => by rw [hv] at h; cases h⟩
theorem xvalid_step (e : E) (ih : ∀ x ∈ e.kids, XvalidC x) : XvalidC e := by
 intro g o c d k va vk w he hc hk hd;have HQ := hid (El.vald_eq d k e);obtain ⟨n, ats, ks, t⟩ := e;obtain ⟨hg, h0, h1, h2, h3, ha, hks, hnl, htl⟩ := he;have HE := hid (show ElAt w g o (.mk n ats ks t) va vk from ⟨hg, h0, h1, h2, h3, ha, hks, hnl, htl⟩);have hne : g ≠ c := HE.out.ne (NoStr.int hc);have HA := hid (show RepA w ats va from ha);have HK := hid (show RepE w ks vk from hks);have HIH := hid ih;have hnl' : n.length ≤ maxLen := hnl;have htl' : t.length ≤ maxLen := htl;unfold maxLen at hnl' htl';have hl1 : ats.length ≤ maxLen := by obtain ⟨_, _, _, h, _⟩ := ha; exact h.1
 have hl2 : ks.length ≤ maxLen := hks.len;unfold maxLen at hl1 hl2;obtain ⟨A, ca, hva⟩ := ha.slice;obtain ⟨B, cb, hvb⟩ := hks.slice;replace hva : va = .slice A ats.length ca := hva;replace hvb : vk = .slice B ks.length cb := hvb;subst hva;subst hvb;replace h0 : w.cell? ⟨g, o, none⟩ = some (.string ⟨n.toArray⟩) := h0;replace h3 : w.cell? ⟨g, o + 3, none⟩ = some (.string ⟨t.toArray⟩) := h3;obtain ⟨q0⟩ : Nonempty (PLift (w.cell? ⟨c, 0, none⟩ = some (.int .i64 (k : Int)))) := ⟨⟨hc.cell 0⟩⟩;have q0 := q0.down;have qf : w.frozen? ⟨c, 0, none⟩ = false := hc.frozen 0;have qg : c < w.heap.size := hc.lt;have HC := hid hc;clear ih ha hks hnl htl hc;have HC1 := hid (show Blk (w.setCell ⟨c, 0, none⟩ (.int .i64 ((k : Int) + 1))) c 3 #[.int .i64 ((k : Int) + 1)] from HC.out.put 0 (.int .i64 ((k : Int) + 1)));have HT1 := hid ((Touch.refl (fun b => b = c) w).setCell (p := ⟨c, 0, none⟩) (.inl rfl) (.int .i64 ((k : Int) + 1)));have HE1 := hid (HE.out.turn HT1.out fun b hb => by rw [show b = c from hb]; exact NoStr.int HC.out);have hkw : (k : Int) ≤ 3000 := by omega
 have hdw : (d : Int) ≤ 65 := by omega
 by_cases hb1 : k + 1 ≤ 3000
 ·by_cases hb2 : d ≤ 64
  ·by_cases hb3 : ats.length ≤ 8
   ·have d1 : decide ((3000 : Int) < (k : Int) + 1) = false := dF (by omega)
    have d2 : decide ((64 : Int) < (d : Int)) = false := dF (by omega);have d3 : decide ((8 : Int) < (ats.length : Int)) = false := dF (by omega);go_enter Tryz.func71, Tryz.ntmps71;go_wp2_with fail
    generalize hW1 : w.setCell ⟨c, 0, none⟩ (.int .i64 ((k : Int) + 1)) = W1 at *;clear hW1 h0 h1 h2 h3 q0 qf qg d1 d2 d3;have HE0 := HE;have HC0 := HC;clear HE HC;obtain ⟨hgW, h0, h1, h2, h3, _⟩ := HE1.out;replace h0 : W1.cell? ⟨g, o, none⟩ = some (.string ⟨n.toArray⟩) := h0;replace h3 : W1.cell? ⟨g, o + 3, none⟩ = some (.string ⟨t.toArray⟩) := h3;have HOWN := hid (show El.ownOK (.mk n ats ks t) = (El.nameOK n && El.valueOK t && (t.isEmpty || ks.isEmpty) && decide (ats.length ≤ 8) && El.attrsOK ats) from rfl);refine (xname_any ⟨n.toArray⟩ _ (show n.length ≤ 9223372036854775807 by omega)).mono ?_;rintro _ w2 ⟨rfl, hw⟩;replace hw := hw.symm;subst hw;cases hnm : El.nameOK n with
    | false =>
     have HV := hid (show vald d k (.mk n ats ks t) = false by rw [HQ.out, HOWN.out, hnm]; simp);go_wp2_with fail
     go_ret;exact validEnd_false HV.out HT1.out HC1.out
    | true =>
    go_wp2_with fail
    refine (xvalue_any ⟨t.toArray⟩ _ (show t.length ≤ 9223372036854775807 by omega)).mono ?_;rintro _ w2 ⟨rfl, hw⟩;replace hw := hw.symm;subst hw;cases hvl : El.valueOK t with
    | false =>
     have HV := hid (show vald d k (.mk n ats ks t) = false by rw [HQ.out, HOWN.out, hvl]; simp);go_wp2_with fail
     go_ret;exact validEnd_false HV.out HT1.out HC1.out
    | true =>
    by_cases hk0 : 0 < ks.length ∧ t ≠ []
    ·obtain ⟨hk0, ht0⟩ := hk0
     have HV := hid (show vald d k (.mk n ats ks t) = false by
      rw [HQ.out, HOWN.out, show t.isEmpty = false from List.isEmpty_eq_false_iff.2 ht0, show ks.isEmpty = false from List.isEmpty_eq_false_iff.2 (List.ne_nil_of_length_pos hk0)]; simp)
     have e0 : ((⟨t.toArray⟩ : ByteArray) != ⟨#[]⟩) = true := by rw [bne, str_eq']; simpa using ht0
     have d5 : decide ((0 : Int) < (ks.length : Int)) = true := dT (by omega);have et : (!t.isEmpty) = true := by rw [List.isEmpty_eq_false_iff.2 ht0]; rfl
     go_wp2_with fail
     go_ret;exact validEnd_false HV.out HT1.out HC1.out
    have HTK := hid (show (t.isEmpty || ks.isEmpty) = true by
     rw [Bool.or_eq_true, List.isEmpty_iff, List.isEmpty_iff]
     by_cases ht : t = []
     ·exact .inl ht
     ·exact .inr (List.eq_nil_of_length_eq_zero (by have : ¬ 0 < ks.length := fun h => hk0 ⟨h, ht⟩; omega)))
    by_cases ht0 : t = []
    focus
     have et : (!t.isEmpty) = false := by rw [ht0]; rfl
     clear hk0;go_wp2_with fail
    rotate_left
    focus
     have hk1 : ks.length = 0 := by have : ¬ 0 < ks.length := fun h => hk0 ⟨h, ht0⟩; omega
     have hk2 : ¬ 0 < ks.length := by omega
     have e0 : ((⟨t.toArray⟩ : ByteArray) != ⟨#[]⟩) = true := by rw [bne, str_eq']; simpa using ht0
     have d5 : decide ((0 : Int) < (ks.length : Int)) = false := dF (by omega);have et : (!t.isEmpty) = true := by rw [List.isEmpty_eq_false_iff.2 ht0]; rfl
     clear hk0 hk1;go_wp2_with fail
    all_goals
     clear et ht0 h0 h1 h2 h3
     try clear hk2 e0 d5
     go_loopw [65] (fun i wr => ∃ j : Nat, i = .int .i64 j ∧ j ≤ ats.length ∧ Hid (El.attrsOK (ats.take j) = true) ∧ Hid (Touch (fun b => b = c) w wr) ∧ Hid (Fresh W1 wr) ∧ Hid (Blk wr c 3 #[.int .i64 ((k : Int) + 1)])) (fun i _ => ats.length - (intOf i).toNat)
     case atStart => exact ⟨0, rfl, Nat.zero_le _, El.attrsOK_nil, HT1, Touch.refl _ _, HC1⟩
     case round =>
      obtain ⟨j, rfl, hj, HOK, HT, HF, HC⟩ := hrel
      by_cases c1 : j < ats.length
      ·have d1 : decide ((j : Int) < (ats.length : Int)) = true := dT (by omega)
       have d1' : (j : Int) < (ats.length : Int) := by omega
       have hjc : j ≤ ca := by have := HA.out.cap; omega
       have HA1 := hid (show RepA W1 ats _ from HE1.out.2.2.2.2.2.1);obtain ⟨ga, oa, rfl, hga, m0, m1, hx1, hx2⟩ := HA1.out.get j c1;have HAJ := hid (HA1.out.take j hj);have HX1 := hid hx1;have HX2 := hid hx2;have e0 := HF.out.cell m0 (fun h => h);have f0 := HF.out.cell m1 (fun h => h);have h1r := (HE1.out.fresh HF.out).2.2.1;have HS := hid (El.attrsOK_snoc ats j c1);clear m0 m1 hx1 hx2;generalize ats[j] = x at *;cases hA : El.nameOK x.1 with
       | false =>
        go_wp2_with fail
        refine forget_world (fun W => Fresh wr W ∧ Blk W wr.heap.size 79 #[.string ⟨x.1.toArray⟩, .string ⟨x.2.toArray⟩]) ⟨frR, blkN⟩ ?_;rintro w4 ⟨hf4, hb4⟩;have HF4 := hid hf4;have HB4 := hid hb4;have z0 := HF4.out.cell h1r (fun h => h);have zg := HF4.out.size;clear hf4 hb4 e0 f0 h1r;have g0 := cR z0;have g1 := cR (show w4.cell? ⟨wr.heap.size, 0, none⟩ = some (.string ⟨x.1.toArray⟩) from HB4.out.cell 0);have g2 := cR (show w4.cell? ⟨wr.heap.size, 1, none⟩ = some (.string ⟨x.2.toArray⟩) from HB4.out.cell 1);have C0 := hid (calmF (P := Tryz.prog) w4 (fun w hw => (show Calls _ _ _ _ (fun e w' => e = .returned (.bool false) ∧ Fresh w w') from hA ▸ xname_list x.1 w (by have := HX1.out; unfold maxLen at this; omega))));refine wp_region_quiet_below (by kernel_rfl) (by kernel_rfl) ?_
        repeat (with_reducible refine wpQuiet_step (fun K hK => ?_); go_simp; first | (refine hK _ ?_; clear hK K) | (apply Exists.intro; refine ⟨fun _ => ?_, hK _ ?_⟩; (first | with_reducible exact C0.out _ _); clear hK K))
        refine wpQuiet_nil ?_;rintro w5 ⟨⟨_, _⟩, hW5⟩;have hf5 : Fresh w4 w5 := by rw [hW5]; exact fresh_of_below (below_regrown _ _ _)
        clear hW5 g0 g1 g2 z0;have HF5 := hid (HF4.out.trans hf5);clear hf5;have HV := hid (show vald d k (.mk n ats ks t) = false by rw [HQ.out, HOWN.out, El.attrsOK_no ats (j + 1) (by rw [HS.out, HOK.out, hA]; simp)]; simp);go_wp2_with fail
        go_ret;exact validEnd_false HV.out (HT.out.trans (HF5.out.mono fun _ h => h.elim)) (HF5.out.blk HC.out fun h => h)
       | true =>
       cases hB : El.valueOK x.2 with
       | false =>
        go_wp2_with fail
        refine forget_world (fun W => Fresh wr W ∧ Blk W wr.heap.size 79 #[.string ⟨x.1.toArray⟩, .string ⟨x.2.toArray⟩]) ⟨frR, blkN⟩ ?_;rintro w4 ⟨hf4, hb4⟩;have HF4 := hid hf4;have HB4 := hid hb4;have z0 := HF4.out.cell h1r (fun h => h);have zg := HF4.out.size;clear hf4 hb4 e0 f0 h1r;have g0 := cR z0;have g1 := cR (show w4.cell? ⟨wr.heap.size, 0, none⟩ = some (.string ⟨x.1.toArray⟩) from HB4.out.cell 0);have g2 := cR (show w4.cell? ⟨wr.heap.size, 1, none⟩ = some (.string ⟨x.2.toArray⟩) from HB4.out.cell 1);have C0 := hid (calmF (P := Tryz.prog) w4 (fun w hw => (show Calls _ _ _ _ (fun e w' => e = .returned (.bool true) ∧ Fresh w w') from hA ▸ xname_list x.1 w (by have := HX1.out; unfold maxLen at this; omega))));have C1 := hid (calmF (P := Tryz.prog) w4 (fun w hw => (show Calls _ _ _ _ (fun e w' => e = .returned (.bool false) ∧ Fresh w w') from hB ▸ xvalue_list x.2 w (by have := HX2.out; unfold maxLen at this; omega))));refine wp_region_quiet_below (by kernel_rfl) (by kernel_rfl) ?_
        repeat (with_reducible refine wpQuiet_step (fun K hK => ?_); go_simp; first | (refine hK _ ?_; clear hK K) | (apply Exists.intro; refine ⟨fun _ => ?_, hK _ ?_⟩; (first | with_reducible exact C0.out _ _ | with_reducible exact C1.out _ _); clear hK K))
        refine wpQuiet_nil ?_;rintro w5 ⟨⟨_, _⟩, hW5⟩;have hf5 : Fresh w4 w5 := by rw [hW5]; exact fresh_of_below (below_regrown _ _ _)
        clear hW5 g0 g1 g2 z0;have HF5 := hid (HF4.out.trans hf5);clear hf5;have HV := hid (show vald d k (.mk n ats ks t) = false by rw [HQ.out, HOWN.out, El.attrsOK_no ats (j + 1) (by rw [HS.out, HOK.out, hB]; simp)]; simp);go_wp2_with fail
        go_ret;exact validEnd_false HV.out (HT.out.trans (HF5.out.mono fun _ h => h.elim)) (HF5.out.blk HC.out fun h => h)
       | true =>
       cases hC : (ats.take j).any (fun y => y.1 == x.1) with
       | true =>
        go_wp2_with fail
        refine forget_world (fun W => Fresh wr W ∧ Blk W wr.heap.size 79 #[.string ⟨x.1.toArray⟩, .string ⟨x.2.toArray⟩]) ⟨frR, blkN⟩ ?_;rintro w4 ⟨hf4, hb4⟩;have HF4 := hid hf4;have HB4 := hid hb4;have z0 := HF4.out.cell h1r (fun h => h);have zg := HF4.out.size;clear hf4 hb4 e0 f0 h1r;have g0 := cR z0;have g1 := cR (show w4.cell? ⟨wr.heap.size, 0, none⟩ = some (.string ⟨x.1.toArray⟩) from HB4.out.cell 0);have g2 := cR (show w4.cell? ⟨wr.heap.size, 1, none⟩ = some (.string ⟨x.2.toArray⟩) from HB4.out.cell 1);have C0 := hid (calmF (P := Tryz.prog) w4 (fun w hw => (show Calls _ _ _ _ (fun e w' => e = .returned (.bool true) ∧ Fresh w w') from hA ▸ xname_list x.1 w (by have := HX1.out; unfold maxLen at this; omega))));have C1 := hid (calmF (P := Tryz.prog) w4 (fun w hw => (show Calls _ _ _ _ (fun e w' => e = .returned (.bool true) ∧ Fresh w w') from hB ▸ xvalue_list x.2 w (by have := HX2.out; unfold maxLen at this; omega))));have C2 := hid (calmF (P := Tryz.prog) w4 (fun w hw => (show Calls _ _ _ _ (fun e w' => e = .returned (.bool true) ∧ Fresh w w') from hC ▸ xhas_any (ats.take j) x.1 (.slice (some ⟨ga, oa, none⟩) j ca) w ((HAJ.out.fresh (HF.out.trans HF4.out)).fresh hw))));refine wp_region_quiet_below (by kernel_rfl) (by kernel_rfl) ?_
        repeat (with_reducible refine wpQuiet_step (fun K hK => ?_); go_simp; first | (refine hK _ ?_; clear hK K) | (apply Exists.intro; refine ⟨fun _ => ?_, hK _ ?_⟩; (first | with_reducible exact C0.out _ _ | with_reducible exact C1.out _ _ | with_reducible exact C2.out _ _); clear hK K))
        refine wpQuiet_nil ?_;rintro w5 ⟨⟨_, _⟩, hW5⟩;have hf5 : Fresh w4 w5 := by rw [hW5]; exact fresh_of_below (below_regrown _ _ _)
        clear hW5 g0 g1 g2 z0;have HF5 := hid (HF4.out.trans hf5);clear hf5;have HV := hid (show vald d k (.mk n ats ks t) = false by rw [HQ.out, HOWN.out, El.attrsOK_no ats (j + 1) (by rw [HS.out, HOK.out, hC]; simp)]; simp);go_wp2_with fail
        go_ret;exact validEnd_false HV.out (HT.out.trans (HF5.out.mono fun _ h => h.elim)) (HF5.out.blk HC.out fun h => h)
       | false =>
        go_wp2_with fail
        refine forget_world (fun W => Fresh wr W ∧ Blk W wr.heap.size 79 #[.string ⟨x.1.toArray⟩, .string ⟨x.2.toArray⟩]) ⟨frR, blkN⟩ ?_;rintro w4 ⟨hf4, hb4⟩;have HF4 := hid hf4;have HB4 := hid hb4;have z0 := HF4.out.cell h1r (fun h => h);have zg := HF4.out.size;clear hf4 hb4 e0 f0 h1r;have g0 := cR z0;have g1 := cR (show w4.cell? ⟨wr.heap.size, 0, none⟩ = some (.string ⟨x.1.toArray⟩) from HB4.out.cell 0);have g2 := cR (show w4.cell? ⟨wr.heap.size, 1, none⟩ = some (.string ⟨x.2.toArray⟩) from HB4.out.cell 1);have C0 := hid (calmF (P := Tryz.prog) w4 (fun w hw => (show Calls _ _ _ _ (fun e w' => e = .returned (.bool true) ∧ Fresh w w') from hA ▸ xname_list x.1 w (by have := HX1.out; unfold maxLen at this; omega))));have C1 := hid (calmF (P := Tryz.prog) w4 (fun w hw => (show Calls _ _ _ _ (fun e w' => e = .returned (.bool true) ∧ Fresh w w') from hB ▸ xvalue_list x.2 w (by have := HX2.out; unfold maxLen at this; omega))));have C2 := hid (calmF (P := Tryz.prog) w4 (fun w hw => (show Calls _ _ _ _ (fun e w' => e = .returned (.bool false) ∧ Fresh w w') from hC ▸ xhas_any (ats.take j) x.1 (.slice (some ⟨ga, oa, none⟩) j ca) w ((HAJ.out.fresh (HF.out.trans HF4.out)).fresh hw))));refine wp_region_quiet_below (by kernel_rfl) (by kernel_rfl) ?_
        repeat (with_reducible refine wpQuiet_step (fun K hK => ?_); go_simp; first | (refine hK _ ?_; clear hK K) | (apply Exists.intro; refine ⟨fun _ => ?_, hK _ ?_⟩; (first | with_reducible exact C0.out _ _ | with_reducible exact C1.out _ _ | with_reducible exact C2.out _ _); clear hK K))
        refine wpQuiet_nil ?_;rintro w5 ⟨⟨_, _⟩, hW5⟩;have hf5 : Fresh w4 w5 := by rw [hW5]; exact fresh_of_below (below_regrown _ _ _)
        clear hW5 g0 g1 g2 z0;have HF5 := hid (HF4.out.trans hf5);clear hf5;have HS2 := hid (show El.attrsOK (ats.take (j + 1)) = true by rw [HS.out, HOK.out, hA, hB, hC]; rfl);go_wp2_with fail
        go_roundw
        case rel => exact ⟨j + 1, by go_num, c1, HS2, hid (HT.out.trans (HF5.out.mono fun _ h => h.elim)), hid (HF.out.trans HF5.out), hid (HF5.out.blk HC.out fun h => h)⟩
        case measure => simp [intOf]; omega
      ·have d1 : decide ((j : Int) < (ats.length : Int)) = false := dF (by omega)
       obtain rfl : j = ats.length := by omega
       have HAT := hid (show El.attrsOK ats = true by have := HOK.out; rwa [List.take_length] at this)
       have HVV := hid (show vald d k (.mk n ats ks t) = valdL (d + 1) (k + 1) ks by
        rw [HQ.out, HOWN.out, HAT.out, hnm, hvl, HTK.out, show decide (ats.length ≤ 8) = true from dT hb3, show decide (k + 1 ≤ 3000) = true from dT hb1, show decide (d ≤ 64) = true from dT hb2]; rfl)
       clear HAT HOK d1 hj;have h2r : wr.cell? ⟨g, o + 2, none⟩ = some (.slice B ks.length cb) := (HE1.out.fresh HF.out).2.2.2.1;go_wp2_with fail
       clear h2r
       go_loopw [97] (fun i wr => ∃ j : Nat, i = .int .i64 j ∧ j ≤ ks.length ∧ Hid (valdL (d + 1) (k + 1) (ks.take j) = true) ∧ Hid (Touch (fun b => b = c) w wr) ∧ Hid (Blk wr c 3 #[.int .i64 ((k + 1 + El.countL (ks.take j) : Nat) : Int)])) (fun i _ => ks.length - (intOf i).toNat)
       case atStart =>
        refine ⟨0, rfl, Nat.zero_le _, ?_, HT, ?_⟩
        ·show valdL (d + 1) (k + 1) [] = true
         unfold valdL;rw [El.properL, El.depthL, El.countL, dT (by omega), dT (by omega)]; rfl
        ·have := HC.out
         show Blk _ _ _ #[.int .i64 ((k + 1 + El.countL [] : Nat) : Int)];rw [El.countL, Nat.add_zero];exact this
       case round =>
        clear HT HC HF;obtain ⟨j, rfl, hj, HV, HT, HC⟩ := hrel;rename_i wr _;have HE2 := hid (HE0.out.turn HT.out fun b hb => by rw [show b = c from hb]; exact NoStr.int HC0.out)
        by_cases c1 : j < ks.length
        ·have d1 : decide ((j : Int) < (ks.length : Int)) = true := dT (by omega)
         have d1' : (j : Int) < (ks.length : Int) := by omega
         have h2r : wr.cell? ⟨g, o + 2, none⟩ = some (.slice B ks.length cb) := HE2.out.2.2.2.1;have hgr := HE2.out.1;obtain ⟨gk, ok, wa, wk, rfl, hek⟩ := (show RepE wr ks _ from HE2.out.2.2.2.2.2.2.1).elAt j c1
         have hsm : k + 1 + El.countL (ks.take j) ≤ 3000 := by
          have := HV.out;unfold valdL at this;rw [Bool.and_eq_true, decide_eq_true_eq] at this;exact this.2
         have HS := hid (El.valdL_snoc (d + 1) (k + 1) ks j c1);have HN := hid (El.valdL_no (d + 1) (k + 1) ks (j + 1));have HCT := hid (El.countL_take ks j c1);have hcall := HIH.out ks[j] (List.getElem_mem c1) gk (ok + j * 4) c (d + 1) _ wa wk wr hek HC.out hsm (by omega);rw [show ((d + 1 : Nat) : Int) = (d : Int) + 1 by omega] at hcall;have HCALL := hid hcall;clear hek hcall;generalize ks[j] = x at *;go_wp2_with fail
         refine HCALL.out.mono ?_;rintro _ w5 ⟨rfl, ht5, k5, hb5, hk5⟩;have HT5 := hid (HT.out.trans ht5);have HB5 := hid hb5;have HK5 := hid hk5;clear ht5 hb5 hk5;cases hv : vald (d + 1) (k + 1 + El.countL (ks.take j)) x with
         | false =>
          have HVF := hid (show vald d k (.mk n ats ks t) = false by rw [HVV.out]; exact HN.out (by rw [HS.out, HV.out, hv]; rfl));clear hv;go_wp2_with fail
          go_ret;exact validEnd_false HVF.out HT5.out HB5.out
         | true =>
          have HVT := hid (show valdL (d + 1) (k + 1) (ks.take (j + 1)) = true by rw [HS.out, HV.out, hv]; rfl);have HKK := hid (HK5.out hv);clear hv;go_wp2_with fail
          go_roundw
          case rel => exact ⟨j + 1, by go_num, c1, HVT, HT5, hid (by rw [HCT.out]; have := HB5.out; rw [HKK.out] at this; rw [← Nat.add_assoc]; exact this)⟩
          case measure => simp [intOf]; omega
        ·have d1 : decide ((j : Int) < (ks.length : Int)) = false := dF (by omega)
         obtain rfl : j = ks.length := by omega
         have HVT := hid (show vald d k (.mk n ats ks t) = true by rw [HVV.out]; have := HV.out; rwa [List.take_length] at this);go_wp2_with fail
         go_ret;refine ⟨by rw [HVT.out]; rfl, HT.out, _, HC.out, fun _ => ?_⟩;rw [List.take_length, El.count, Nat.add_assoc]
   ·have d1 : decide ((3000 : Int) < (k : Int) + 1) = false := dF (by omega)
    have d2 : decide ((64 : Int) < (d : Int)) = false := dF (by omega);have d3 : decide ((8 : Int) < (ats.length : Int)) = true := dT (by omega);have HV := hid (show vald d k (.mk n ats ks t) = false by rw [HQ.out]; unfold El.ownOK; rw [show decide ((E.attrs (.mk n ats ks t)).length ≤ 8) = false from dF hb3]; simp);go_enter Tryz.func71, Tryz.ntmps71;go_wp2_with fail
    go_ret;exact validEnd_false HV.out HT1.out HC1.out
  ·have d1 : decide ((3000 : Int) < (k : Int) + 1) = false := dF (by omega)
   have d2 : decide ((64 : Int) < (d : Int)) = true := dT (by omega);have HV := hid (show vald d k (.mk n ats ks t) = false by rw [HQ.out, show decide (d ≤ 64) = false from dF hb2]; simp);go_enter Tryz.func71, Tryz.ntmps71;go_wp2_with fail
   go_ret;exact validEnd_false HV.out HT1.out HC1.out
 ·have d1 : decide ((3000 : Int) < (k : Int) + 1) = true := dT (by omega)
  have HV := hid (show vald d k (.mk n ats ks t) = false by rw [HQ.out, show decide (k + 1 ≤ 3000) = false from dF hb1]; simp);go_enter Tryz.func71, Tryz.ntmps71;go_wp2_with fail
  go_ret;exact validEnd_false HV.out HT1.out HC1.out
theorem xvalid_any (e : E) : XvalidC e := El.E.ind (p := XvalidC) xvalid_step e
end Go.Proofs.YtnbeemkfmlfgfaaGreatDoor
namespace Go.Proofs.YtnbeemkfmlfgfaaGreatDoor
open Go.RowKit
open El (E Attrs vald)
theorem xValid_any (e : E) (va vk : Value) (w : World) (hr : RepV w e va vk) : Calls Tryz.prog 43 #[ev e va vk] w fun x w' => x = .returned (.bool (El.valid e)) ∧ Fresh w w' := by
 obtain ⟨A, ca, hva⟩ := hr.1.slice;obtain ⟨B, cb, hvk⟩ := hr.2.1.slice;have HR := hid hr;have HX := hid (xvalid_any e);subst hva;subst hvk;clear hr;obtain ⟨n, ats, ks, t⟩ := e;unfold ev;simp only [E.name, E.attrs, E.kids, E.text] at *;go_enter Tryz.func43, Tryz.ntmps43;go_wp2_with fail
 have hE : ElAt ((w.alloc (.cells #[.string ⟨n.toArray⟩, .slice A ats.length ca, .slice B ks.length cb, .string ⟨t.toArray⟩] 45)).alloc (.cells #[.int .i64 0] 3)) w.heap.size 0 (.mk n ats ks t) (.slice A ats.length ca) (.slice B ks.length cb) := by
  have hb := (Blk.new w 45 #[.string ⟨n.toArray⟩, .slice A ats.length ca, .slice B ks.length cb, .string ⟨t.toArray⟩]).alloc (.cells #[.int .i64 0] 3);obtain ⟨q0, q1, q2, q3, _, _, _, _, hg⟩ := Blk.four hb;exact ⟨hg, q0, q1, q2, q3, HR.out.fresh (((Touch.refl _ w).alloc _).alloc _)⟩
 refine (HX.out w.heap.size 0 (w.heap.size + 1) 1 0 _ _ _ hE (Blk.new2 _ _ _ _) (by omega) (by omega)).mono ?_;rintro _ w1 ⟨rfl, ht, _, _, _⟩;have HF := hid (show Fresh w w1 from (((Touch.refl (fun _ => False) w).alloc _).alloc _).trans' ht (fun i hi => by right; have hi : i = w.heap.size + 1 := hi; omega));have HVT := hid (El.vald_top (.mk n ats ks t));rw [HVT.out];clear hE ht;go_wp2_with fail
 go_ret;exact ⟨rfl, HF.out⟩
end Go.Proofs.YtnbeemkfmlfgfaaGreatDoor
namespace Go.Proofs.YtnbeemkfmlfgfaaGreatDoor
open Go.RowKit
open El (E Attrs)
theorem node_fault (e : E) (va vk : Value) (w : World) (hr : RepV w e va vk) (hv : El.valid e = true) (hf : (El.faultF e).2 = true) :
  Calls Tryz.prog 23 #[ev e va vk] w fun x w' => x = .returned (.tuple #[.agg #[.int .i64 0, .string ⟨#[]⟩, .int .i64 0, .slice none 0 0], .int .i64 (El.faultF e).1, .int .i64 19]) ∧ Fresh w w' := by
 obtain ⟨A, ca, hva⟩ := hr.1.slice;obtain ⟨B, cb, hvk⟩ := hr.2.1.slice;have HR := hid hr;have HV := hid (fun (w : World) (h : RepV w e va vk) => xValid_any e va vk w h);have HFA := hid (fun (w : World) (g : Nat) (h : ElAt w g 0 e va vk) => fault_any e g 0 va vk w h (by unfold El.valid at hv; simp only [Bool.and_eq_true, decide_eq_true_eq] at hv; omega));have HVV := hid hv;have HFF := hid hf;generalize hfe : (El.faultF e).1 = z at *;clear hr hv hf hfe;obtain ⟨n, ats, ks, t⟩ := e;replace hva : va = .slice A ats.length ca := hva;replace hvk : vk = .slice B ks.length cb := hvk;subst hva;subst hvk;unfold ev at *;simp only [E.name, E.text] at *;go_enter Tryz.func23, Tryz.ntmps23;go_wp2_with fail
 have hb0 := (Blk.new w 45 #[.string ⟨n.toArray⟩, .slice A ats.length ca, .slice B ks.length cb, .string ⟨t.toArray⟩]).alloc (.cells #[.int .i64 0, .string ⟨#[]⟩, .int .i64 0, .slice none 0 0] 31);have hb1 := Blk.new2 w (.cells #[.string ⟨n.toArray⟩, .slice A ats.length ca, .slice B ks.length cb, .string ⟨t.toArray⟩] 45) 31 #[.int .i64 0, .string ⟨#[]⟩, .int .i64 0, .slice none 0 0];refine (HV.out _ (HR.out.fresh (((Touch.refl _ w).alloc _).alloc _))).mono ?_;rintro _ w1 ⟨rfl, hf1⟩;rw [HVV.out];have HF1 := hid (Touch.pre (Touch.pre hf1));have HB0 := hid (hf1.blk hb0 fun h => h);have HB1 := hid (hf1.blk hb1 fun h => h);clear hf1 hb0 hb1;go_wp2_with fail
 obtain ⟨q0, q1, q2, q3, _, _, _, _, hg⟩ := Blk.four HB0.out;refine (HFA.out w1 w.heap.size ⟨hg, q0, q1, q2, q3, HR.out.fresh HF1.out⟩).mono ?_;rintro _ w2 ⟨rfl, hf2⟩;rw [HFF.out];have HF2 := hid (HF1.out.trans hf2);have HB2 := hid (hf2.blk HB1.out fun h => h);clear hf2 q0 q1 q2 q3 hg;obtain ⟨p0, p1, p2, p3, y0, y1, y2, y3, hg1⟩ := Blk.four HB2.out;go_wp2_with fail
 obtain ⟨r0, r1, r2, r3, _, _, _, _, _⟩ := Blk.four (HB2.out.self4 (.int .i64 0) (.string ⟨#[]⟩) (.int .i64 0) (.slice none 0 0));simp only [put4] at r0 r1 r2 r3;refine bodyPost_ret (v := .tuple #[.agg #[.int .i64 0, .string ⟨#[]⟩, .int .i64 0, .slice none 0 0], .int .i64 z, .int .i64 19]) (by simp [results, Tryz.results23, go_sem, r0, r1, r2, r3]) rfl ?_;exact ⟨rfl, Touch.put4 HF2.out (.inr (by omega)) _ _ _ _⟩
end Go.Proofs.YtnbeemkfmlfgfaaGreatDoor
namespace Go.Proofs.YtnbeemkfmlfgfaaGreatDoor
open Go.RowKit
open Tr (Nd)
open El (E Attrs nodeF nilNd rowN itemsN)
theorem nil_makes (w w' : World) (h : Fresh w w') : MakesN w w' nilNd (.agg #[.int .i64 0, .string ⟨#[]⟩, .int .i64 0, .slice none 0 0]) := ⟨_, rfl, h, Nat.zero_le _, fun _ _ => RepL.nil _ _⟩
theorem mkNode_any (e : E) (va vk : Value) (w : World) (hr : RepV w e va vk) :
  Calls Tryz.prog 23 #[ev e va vk] w fun x w' => ∃ v, x = .returned (.tuple #[v, .int .i64 (nodeF e).2.1, .int .i64 (nodeF e).2.2]) ∧ MakesN w w' (nodeF e).1 v := by
 have HNF := hid (show nodeF e = if El.valid e then (if (El.faultF e).2 then (nilNd, (El.faultF e).1, 19) else if Tr.valid (rowN e) then (rowN e, 0, 0) else (nilNd, 0, 6)) else (nilNd, 0, 1) from rfl);cases hff : El.valid e && (El.faultF e).2 with
 | true =>
  rw [Bool.and_eq_true] at hff;have h1 : nodeF e = (nilNd, (El.faultF e).1, 19) := by rw [HNF.out, hff.1, hff.2]; rfl
  rw [h1];exact (node_fault e va vk w hr hff.1 hff.2).mono fun x w' h => ⟨_, h.1, nil_makes _ _ h.2⟩
 | false =>
 obtain ⟨A, ca, hva⟩ := hr.1.slice;obtain ⟨B, cb, hvk⟩ := hr.2.1.slice;have HR := hid hr;have HV := hid (fun (w : World) (h : RepV w e va vk) => xValid_any e va vk w h);have HFA := hid (fun (hv : El.valid e = true) (w : World) (g : Nat) (h : ElAt w g 0 e va vk) => fault_any e g 0 va vk w h (by unfold El.valid at hv; simp only [Bool.and_eq_true, decide_eq_true_eq] at hv; omega))
 have HIT := hid (fun (hv : El.valid e = true) (hf : (El.faultF e).2 = false) (w : World) (g : Nat) (h : ElAt w g 0 e va vk) => items_any e g 0 va vk w h (by
   have hvs := El.vis_spec e (decide (e.name = El.nMath)) 0
   have hv1 : (El.vis (decide (e.name = El.nMath)) 0 e).1 = true := by
    cases hb : (El.vis (decide (e.name = El.nMath)) 0 e).1 with
    | true => rfl
    | false => unfold El.faultF at hf; rw [hb] at hf; cases hf
   cases hb : decide (e.name = El.nMath) && El.okT e with
   | false => rw [hvs.2 hb] at hv1; cases hv1
   | true =>
    rw [Bool.and_eq_true, decide_eq_true_eq] at hb;exact row_ready e hb.2 (.inl hb.1)) (by unfold El.valid at hv; simp only [Bool.and_eq_true, decide_eq_true_eq] at hv; omega))
 have HFF := hid hff;have HRW := hid (show rowN e = .mk 1 [] 0 (itemsN e.kids) from rfl);clear hr hff;generalize nodeF e = R at *;generalize hvv : El.valid e = vb at *;generalize hfe : El.faultF e = fz at *;obtain ⟨fz1, fz2⟩ := fz;generalize hrw : rowN e = rw0 at *;obtain ⟨n, ats, ks, t⟩ := e;replace hva : va = .slice A ats.length ca := hva;replace hvk : vk = .slice B ks.length cb := hvk;subst hva;subst hvk;unfold ev at *;simp only [E.name, E.text] at *;cases vb with
 | false =>
  have h1 : R = (nilNd, 0, 1) := HNF.out;rw [h1];go_enter Tryz.func23, Tryz.ntmps23;go_wp2_with fail
  have hb1 := Blk.new2 w (.cells #[.string ⟨n.toArray⟩, .slice A ats.length ca, .slice B ks.length cb, .string ⟨t.toArray⟩] 45) 31 #[.int .i64 0, .string ⟨#[]⟩, .int .i64 0, .slice none 0 0];refine (HV.out _ (HR.out.fresh (((Touch.refl _ w).alloc _).alloc _))).mono ?_;rintro _ w1 ⟨rfl, hf1⟩;have HF1 := hid (Touch.pre (Touch.pre hf1));have HB1 := hid (hf1.blk hb1 fun h => h);clear hf1 hb1;obtain ⟨p0, p1, p2, p3, y0, y1, y2, y3, hg1⟩ := Blk.four HB1.out;go_wp2_with fail
  obtain ⟨r0, r1, r2, r3, _, _, _, _, _⟩ := Blk.four (HB1.out.self4 (.int .i64 0) (.string ⟨#[]⟩) (.int .i64 0) (.slice none 0 0));simp only [put4] at r0 r1 r2 r3;refine bodyPost_ret (v := .tuple #[.agg #[.int .i64 0, .string ⟨#[]⟩, .int .i64 0, .slice none 0 0], .int .i64 0, .int .i64 1]) (by simp [results, Tryz.results23, go_sem, r0, r1, r2, r3]) rfl ?_;exact ⟨_, rfl, nil_makes _ _ (Touch.put4 HF1.out (.inr (by omega)) _ _ _ _)⟩
 | true =>
 have h2 : fz2 = false := HFF.out;subst h2;go_enter Tryz.func23, Tryz.ntmps23;go_wp2_with fail
 have hb0 := (Blk.new w 45 #[.string ⟨n.toArray⟩, .slice A ats.length ca, .slice B ks.length cb, .string ⟨t.toArray⟩]).alloc (.cells #[.int .i64 0, .string ⟨#[]⟩, .int .i64 0, .slice none 0 0] 31);have hb1 := Blk.new2 w (.cells #[.string ⟨n.toArray⟩, .slice A ats.length ca, .slice B ks.length cb, .string ⟨t.toArray⟩] 45) 31 #[.int .i64 0, .string ⟨#[]⟩, .int .i64 0, .slice none 0 0];refine (HV.out _ (HR.out.fresh (((Touch.refl _ w).alloc _).alloc _))).mono ?_;rintro _ w1 ⟨rfl, hf1⟩;have HF1 := hid (Touch.pre (Touch.pre hf1));have HB0 := hid (hf1.blk hb0 fun h => h);have HB1 := hid (hf1.blk hb1 fun h => h);clear hf1 hb0 hb1;go_wp2_with fail
 obtain ⟨q0, q1, q2, q3, _, _, _, _, hg⟩ := Blk.four HB0.out;refine (HFA.out trivial w1 w.heap.size ⟨hg, q0, q1, q2, q3, HR.out.fresh HF1.out⟩).mono ?_;rintro _ w2 ⟨rfl, hf2⟩;have HF2 := hid (HF1.out.trans hf2);have HB02 := hid (hf2.blk HB0.out fun h => h);have HB2 := hid (hf2.blk HB1.out fun h => h);clear hf2 q0 q1 q2 q3 hg;go_wp2_with fail
 obtain ⟨q0, q1, q2, q3, _, _, _, _, hg⟩ := Blk.four HB02.out;refine (HIT.out trivial trivial w2 w.heap.size ⟨hg, q0, q1, q2, q3, HR.out.fresh HF2.out⟩).mono ?_;rintro _ w3 ⟨v3, rfl, sl, rfl, hf3, htl, hst3⟩;obtain ⟨Ar, cr, rfl⟩ := hst3.now.slice;have HF3 := hid (HF2.out.trans hf3);have HB3 := hid (hf3.blk HB2.out fun h => h);have HST3 := hid (show Stab (fun k => k < w2.heap.size) w3 fun W => RepL W rw0.kids (.slice Ar rw0.kids.length cr) from hst3);have HTL := hid htl;have hz2 := HF2.out.size;have HVA := hid (fun (W : World) (h : RepL W rw0.kids (.slice Ar rw0.kids.length cr)) => valid_all rw0 _ W h htl);have HLT := hid HB2.out.lt;clear hf3 hst3 q0 q1 q2 q3 hg htl hrw HRW;unfold nv;obtain ⟨rk, rt, rc, rks⟩ := rw0;simp only [Nd.kind, Nd.text, Nd.cols, Nd.kids] at *;go_wp2_with fail
 have hfa := (Touch.refl (fun _ => False) w3).alloc (.cells #[.int .i64 rk, .string ⟨rt.toArray⟩, .int .i64 rc, .slice Ar rks.length cr] 31);have hbn := Blk.new w3 31 #[.int .i64 rk, .string ⟨rt.toArray⟩, .int .i64 rc, .slice Ar rks.length cr];refine (HVA.out _ (HST3.out _ (hfa.mono fun _ h => h.elim))).mono ?_;rintro _ w4 ⟨rfl, hf4⟩;have HF34 := hid (hfa.trans hf4);have HF4 := hid (HF3.out.trans HF34.out);have HB4 := hid (HF34.out.blk HB3.out fun h => h);have HN4 := hid (hf4.blk hbn fun h => h);have HST4 := hid (HST3.out.fresh HF34.out);clear hf4 hfa hbn;obtain ⟨p0, p1, p2, p3, y0, y1, y2, y3, hg1⟩ := Blk.four HB4.out;obtain ⟨u0, u1, u2, u3, _, _, _, _, hgn⟩ := Blk.four HN4.out;cases hv : Tr.valid (.mk rk rt rc rks) with
 | false =>
  have h1 : R = (nilNd, 0, 6) := by rw [HNF.out, hv]; rfl
  have HR1 := hid h1;clear hv h1;go_wp2_with fail
  obtain ⟨r0, r1, r2, r3, _, _, _, _, _⟩ := Blk.four (HB4.out.self4 (.int .i64 0) (.string ⟨#[]⟩) (.int .i64 0) (.slice none 0 0));simp only [put4] at r0 r1 r2 r3;refine bodyPost_ret (v := .tuple #[.agg #[.int .i64 0, .string ⟨#[]⟩, .int .i64 0, .slice none 0 0], .int .i64 0, .int .i64 6]) (by simp [results, Tryz.results23, go_sem, r0, r1, r2, r3]) rfl ?_;rw [HR1.out];exact ⟨_, rfl, nil_makes _ _ (Touch.put4 HF4.out (.inr (by omega)) _ _ _ _)⟩
 | true =>
  have h1 : R = (.mk rk rt rc rks, 0, 0) := by rw [HNF.out, hv]; rfl
  have HR1 := hid h1;clear hv h1;go_wp2_with fail
  obtain ⟨r0, r1, r2, r3, _, _, _, _, _⟩ := Blk.four (HB4.out.self4 (.int .i64 rk) (.string ⟨rt.toArray⟩) (.int .i64 rc) (.slice Ar rks.length cr));simp only [put4] at r0 r1 r2 r3;refine bodyPost_ret (v := .tuple #[.agg #[.int .i64 rk, .string ⟨rt.toArray⟩, .int .i64 rc, .slice Ar rks.length cr], .int .i64 0, .int .i64 0]) (by simp [results, Tryz.results23, go_sem, r0, r1, r2, r3]) rfl ?_;rw [HR1.out];refine ⟨_, rfl, .slice Ar rks.length cr, rfl, Touch.put4 HF4.out (.inr (by omega)) _ _ _ _, HTL.out, ?_⟩;exact HST4.out.step ((Touch.refl (fun k => k = w.heap.size + 1) w4).put4 (.inl rfl) _ _ _ _) (fun i _ hi => by have hi : i = w.heap.size + 1 := hi; have := HLT.out; omega) (fun i _ hi => by omega)
end Go.Proofs.YtnbeemkfmlfgfaaGreatDoor
namespace Go.Proofs.YtnbeemkfmlfgfaaGreatDoor.El
mutual
def ren (k : Nat) (nm : Bytes) : Nat → E → E × Nat
 | i, .mk n a ks t => (.mk (if i = k then nm else n) a (renL k nm (i + 1) ks).1 t, (renL k nm (i + 1) ks).2)
def renL (k : Nat) (nm : Bytes) : Nat → List E → List E × Nat
 | i, [] => ([], i)
 | i, x :: xs => ((ren k nm i x).1 :: (renL k nm (ren k nm i x).2 xs).1, (renL k nm (ren k nm i x).2 xs).2)
end
theorem ren_eq (k : Nat) (nm : Bytes) (i : Nat) (e : E) : ren k nm i e = (.mk (if i = k then nm else e.name) e.attrs (renL k nm (i + 1) e.kids).1 e.text, (renL k nm (i + 1) e.kids).2) := by cases e; rw [ren]; rfl
theorem renL_snd (k : Nat) (nm : Bytes) (l : List E) (h : ∀ x ∈ l, ∀ i, (ren k nm i x).2 = i + count x) : ∀ i, (renL k nm i l).2 = i + countL l := by
 induction l with
 | nil => intro i; rw [renL, countL]; rfl
 | cons x l ih =>
  intro i;rw [renL, countL, h x (List.mem_cons_self ..)];show (renL k nm (i + count x) l).2 = _;rw [ih (fun y hy => h y (List.mem_cons_of_mem _ hy))];omega
theorem ren_snd (k : Nat) (nm : Bytes) (e : E) : ∀ i, (ren k nm i e).2 = i + count e := by
 induction e using E.ind with
 | h e ih => intro i; rw [ren_eq, count_kids]; show (renL k nm (i + 1) e.kids).2 = _; rw [renL_snd k nm e.kids ih]; omega
theorem renL_snd' (k : Nat) (nm : Bytes) (l : List E) (i : Nat) : (renL k nm i l).2 = i + countL l := renL_snd k nm l (fun x _ i => ren_snd k nm x i) i
theorem renL_len (k : Nat) (nm : Bytes) (l : List E) : ∀ i, (renL k nm i l).1.length = l.length := by
 induction l with
 | nil => intro i; rw [renL]
 | cons x l ih => intro i; rw [renL]; show (_ :: _).length = _; rw [List.length_cons, ih, List.length_cons]
theorem renL_snoc (k : Nat) (nm : Bytes) (l : List E) : ∀ (i j : Nat) (h : j < l.length), (renL k nm i (l.take (j + 1))).1 = (renL k nm i (l.take j)).1 ++ [(ren k nm (i + countL (l.take j)) l[j]).1] := by
 induction l with
 | nil => intro i j h; simp at h
 | cons x l ih =>
  intro i j h;cases j with
  | zero => simp [renL, countL]
  | succ j =>
   simp only [List.take_succ_cons, renL, countL, List.getElem_cons_succ, List.cons_append];rw [ih _ j (by simpa using h), ren_snd, Nat.add_assoc]
theorem ren_out (k : Nat) (nm : Bytes) (e : E) : ∀ i, (k < i ∨ i + count e ≤ k) → (ren k nm i e).1 = e := by
 induction e using E.ind with
 | h e ih =>
  intro i hk
  have hL : ∀ (l : List E), (∀ x ∈ l, x ∈ e.kids) → ∀ i, (k < i ∨ i + countL l ≤ k) → (renL k nm i l).1 = l := by
   intro l
   induction l with
   | nil => intro _ i _; rw [renL]
   | cons x l ihl =>
    intro hm i hk;rw [countL] at hk;rw [renL];show (ren k nm i x).1 :: (renL k nm (ren k nm i x).2 l).1 = _;rw [ren_snd, ih x (hm x (List.mem_cons_self ..)) i (by omega), ihl (fun y hy => hm y (List.mem_cons_of_mem _ hy)) _ (by omega)]
  rw [count_kids] at hk;have := count_pos e;rw [ren_eq, hL e.kids (fun x hx => hx) _ (by omega), if_neg (by omega)];exact (E.eta e).symm
theorem ren_parts (k : Nat) (nm : Bytes) (e : E) (i : Nat) : (ren k nm i e).1.attrs = e.attrs ∧ (ren k nm i e).1.text = e.text ∧ (ren k nm i e).1.kids.length = e.kids.length ∧ (i ≠ k → (ren k nm i e).1.name = e.name) ∧ (i = k → (ren k nm i e).1.name = nm) := by
 rw [ren_eq];refine ⟨rfl, rfl, renL_len _ _ _ _, fun h => if_neg h, fun h => if_pos h⟩
def nNone : Bytes := [110, 111, 110, 101]
theorem own_none_name (a : Attrs) (ks : List E) (t : Bytes) : ownF (.mk nNone a ks t) = false := by
 show (t.isEmpty && false && _ && _) = false;simp
theorem ownF_same (e e' : E) (hn : e'.name = e.name) (ha : e'.attrs = e.attrs) (hk : e'.kids.length = e.kids.length) (ht : e'.text = e.text) : ownF e' = ownF e := by
 obtain ⟨n, a, ks, t⟩ := e;obtain ⟨n', a', ks', t'⟩ := e';simp only [E.name, E.attrs, E.kids, E.text] at hn ha hk ht;subst hn ha ht;have : ks'.isEmpty = ks.isEmpty := by rw [Bool.eq_iff_iff, List.isEmpty_iff_length_eq_zero, List.isEmpty_iff_length_eq_zero, hk]
 unfold ownF;simp only [hk, this]
theorem admF_same (n : Bytes) (a : Attrs) (ks ks' : List E) (t : Bytes) (x x' : E) (hc : colsN ks' = colsN ks) (h0 : 0 < ks.length) (h0' : 0 < ks'.length) (hn : x'.name = x.name) (hk : x'.kids.length = x.kids.length) : admF (.mk n a ks' t) x' = admF (.mk n a ks t) x := by
 obtain ⟨m, b, ls, s⟩ := x;obtain ⟨m', b', ls', s'⟩ := x';simp only [E.name, E.kids] at hn hk;subst hn
 match ks, ks', h0, h0', hc with
 | .mk _ _ js _ :: r, .mk _ _ js' _ :: r', _, _, hc =>
  have hc : js'.length = js.length := hc;unfold admF;simp only [hk, hc]
theorem ren_vis (k : Nat) (e : E) : ∀ i, i ≤ k → k < i + count e → okT e = true → ∀ adm, (i ≠ k → adm = true) → vis adm i (ren k nNone i e).1 = (false, k + 1) := by
 induction e using E.ind with
 | h e ih =>
  intro i hik hk hok adm hadm;have hp := ren_parts k nNone e i;rw [vis_eq]
  by_cases h : i = k
  ·have ho : ownF (ren k nNone i e).1 = false := by
    rw [E.eta (ren k nNone i e).1, hp.2.2.2.2 h];exact own_none_name _ _ _
   rw [ho, Bool.and_false, h]; rfl
  ·rw [okT_eq, Bool.and_eq_true] at hok
   rw [ownF_same e _ (hp.2.2.2.1 h) hp.1 hp.2.2.1 hp.2.1, hok.1, hadm h];simp only [Bool.true_and, if_true]
   have hL : ∀ (p : E) (l : List E), (∀ x ∈ l, x ∈ e.kids) → (∀ x ∈ l, ∀ x' : E, x'.name = x.name → x'.kids.length = x.kids.length → admF p x' = true) → (∀ x ∈ l, okT x = true) →
     ∀ i, i ≤ k → k < i + countL l → visL p i (renL k nNone i l).1 = (false, k + 1) := by
    intro p l
    induction l with
    | nil => intro _ _ _ i h1 h2; rw [countL] at h2; omega
    | cons x l ihl =>
     intro hm ha ho i h1 h2;rw [countL] at h2;rw [renL, visL];have hx := ren_parts k nNone x i
     by_cases hkx : k < i + count x
     ·rw [ih x (hm x (List.mem_cons_self ..)) i h1 hkx (ho x (List.mem_cons_self ..)) _ (fun hne => ha x (List.mem_cons_self ..) _ (hx.2.2.2.1 hne) hx.2.2.1)]
     ·rw [ren_snd, ren_out k nNone x i (by omega)]
      rw [(vis_spec x _ _).1 (by rw [ha x (List.mem_cons_self ..) x rfl rfl, ho x (List.mem_cons_self ..)]; rfl)];exact ihl (fun y hy => hm y (List.mem_cons_of_mem _ hy)) (fun y hy => ha y (List.mem_cons_of_mem _ hy)) (fun y hy => ho y (List.mem_cons_of_mem _ hy)) _ (by omega) (by omega)
   have hall := hok.2;rw [okL_all, List.all_eq_true] at hall;have hkids : (ren k nNone i e).1.kids = (renL k nNone (i + 1) e.kids).1 := by rw [ren_eq]; rfl
   rw [hkids];rw [count_kids] at hk;refine hL _ e.kids (fun x hx => hx) (fun x hx x' hn hl => ?_) (fun x hx => by have := hall x hx; rw [Bool.and_eq_true] at this; exact this.2) (i + 1) (by omega) (by omega);have hax : admF e x = true := by have := hall x hx; rw [Bool.and_eq_true] at this; exact this.1
   have hne : 0 < e.kids.length := List.length_pos_of_mem hx;rw [E.eta (ren k nNone i e).1, hp.2.2.2.1 h, hp.1, hp.2.1, hkids];rw [← hax]
   conv => rhs; rw [E.eta e]
   refine admF_same _ _ _ _ _ x x' ?_ hne (by rw [renL_len]; exact hne) hn hl |>.trans ?_
   ·match hks : e.kids, hne with
    | y :: r, _ =>
     rw [renL];show colsN ((ren k nNone (i + 1) y).1 :: _) = _;have := (ren_parts k nNone y (i + 1)).2.2.1;obtain ⟨yn, ya, yk, yt⟩ := y
     rcases hr : (ren k nNone (i + 1) (E.mk yn ya yk yt)).1 with ⟨zn, za, zk, zt⟩
     rw [hr] at this;exact this
   ·rfl
theorem ren_fault (k : Nat) (e : E) (hk : k < count e) (hok : okT e = true) (hn : e.name = nMath) : faultF (ren k nNone 0 e).1 = ((k : Int), true) := by
 have hp := ren_parts k nNone e 0;have hv := ren_vis k e 0 (Nat.zero_le _) (by omega) hok (decide ((ren k nNone 0 e).1.name = nMath)) (fun h => by rw [hp.2.2.2.1 h, hn]; rfl);unfold faultF;rw [hv];show ((((k + 1 : Nat) : Int) - 1), true) = _
 congr 1
 omega
theorem ren_count (k : Nat) (nm : Bytes) (e : E) : ∀ i, count (ren k nm i e).1 = count e ∧ depth (ren k nm i e).1 = depth e ∧ (nameOK nm = true → proper e = true → proper (ren k nm i e).1 = true) := by
 induction e using E.ind with
 | h e ih =>
  intro i
  have hL : ∀ (l : List E), (∀ x ∈ l, x ∈ e.kids) → ∀ i, countL (renL k nm i l).1 = countL l ∧ depthL (renL k nm i l).1 = depthL l ∧ (nameOK nm = true → properL l = true → properL (renL k nm i l).1 = true) := by
   intro l
   induction l with
   | nil => intro _ i; rw [renL]; exact ⟨rfl, rfl, fun _ h => h⟩
   | cons x l ihl =>
    intro hm i;obtain ⟨h1, h2, h3⟩ := ih x (hm x (List.mem_cons_self ..)) i;obtain ⟨h4, h5, h6⟩ := ihl (fun y hy => hm y (List.mem_cons_of_mem _ hy)) (ren k nm i x).2;rw [renL];show countL (_ :: _) = _ ∧ depthL (_ :: _) = _ ∧ (_ → _ → properL (_ :: _) = true);rw [countL, countL, depthL, depthL, properL, properL, h1, h2, h4, h5];refine ⟨rfl, rfl, fun hn hp => ?_⟩;rw [Bool.and_eq_true] at hp ⊢;exact ⟨h3 hn hp.1, h6 hn hp.2⟩
  obtain ⟨h1, h2, h3⟩ := hL e.kids (fun x hx => hx) (i + 1);rw [ren_eq, count_kids, depth_kids, proper_eq, proper_eq, count_kids e, depth_kids e];refine ⟨congrArg (1 + ·) h1, congrArg (· + 1) h2, fun hn hp => ?_⟩;rw [Bool.and_eq_true] at hp ⊢;refine ⟨?_, h3 hn hp.2⟩;have ho := hp.1;have hl : ((renL k nm (i + 1) e.kids).1).isEmpty = e.kids.isEmpty := by rw [Bool.eq_iff_iff, List.isEmpty_iff_length_eq_zero, List.isEmpty_iff_length_eq_zero, renL_len]
  show (nameOK (if i = k then nm else e.name) && valueOK e.text && (e.text.isEmpty || ((renL k nm (i + 1) e.kids).1).isEmpty) && decide (e.attrs.length ≤ 8) && attrsOK e.attrs) = true;replace ho : (nameOK e.name && valueOK e.text && (e.text.isEmpty || e.kids.isEmpty) && decide (e.attrs.length ≤ 8) && attrsOK e.attrs) = true := ho;rw [hl]
  by_cases h : i = k
  ·rw [if_pos h, hn]
   simp only [Bool.and_eq_true, Bool.true_and] at ho ⊢;exact ⟨⟨⟨ho.1.1.1.2, ho.1.1.2⟩, ho.1.2⟩, ho.2⟩
  ·rw [if_neg h]
   exact ho
theorem ren_valid (k : Nat) (nm : Bytes) (e : E) (i : Nat) (hn : nameOK nm = true) (h : valid e = true) : valid (ren k nm i e).1 = true := by
 obtain ⟨h1, h2, h3⟩ := ren_count k nm e i;unfold valid at h ⊢;rw [h1, h2];simp only [Bool.and_eq_true] at h ⊢;exact ⟨⟨h3 hn h.1.1, h.1.2⟩, h.2⟩
end Go.Proofs.YtnbeemkfmlfgfaaGreatDoor.El
