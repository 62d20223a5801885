/- The reference's Print of elements walked (layer 23), continued. -/
import Derived.Test.YtnkmccgpmmnfeaaDoorXcXtA
namespace Go.Proofs.YtnkmccgpmmnfeaaDoor
open Go.RowKit
open El (E Attrs escB escL attrW attrsW writeE writeL)

theorem write_mk (n : List UInt8) (a : Attrs) (ks : List E) (t : List UInt8) : writeE (.mk n a ks t) = 60 :: n ++ attrsW a ++ (if t.isEmpty && ks.isEmpty then [47, 62] else 62 :: escL t ++ writeL ks ++ ([60, 47] ++ n ++ [62])) := by rw [writeE]
def RPrintC (e : E) : Prop := ∀ (va vk : Value) (w : World), RepV w e va vk → (writeE e).length ≤ 8000000 → Calls Tryd.prog 10 #[ev e va vk] w fun x w' => x = .returned (.string ⟨(writeE e).toArray⟩) ∧ Fresh w w'
set_option maxRecDepth 100000 in
set_option maxHeartbeats 4000000 in
theorem rprint_step (e : E) (ih : ∀ x ∈ e.kids, RPrintC x) : RPrintC e := by
  intro va vk w hr hlen
  obtain ⟨A, ca, hva⟩ := hr.1.slice
  obtain ⟨B, cb, hvk⟩ := hr.2.1.slice
  have HR := hid hr
  have HIH := hid ih
  obtain ⟨n, ats, ks, t⟩ := e
  have hl1 : ats.length ≤ maxLen := by obtain ⟨_, _, _, h, _⟩ := hr.1; exact h.1
  have hl2 : ks.length ≤ maxLen := hr.2.1.len
  unfold maxLen at hl1 hl2
  replace hva : va = .slice A ats.length ca := hva
  replace hvk : vk = .slice B ks.length cb := hvk
  subst hva
  subst hvk
  have HW := hid (write_mk n ats ks t)
  have hln : (60 :: n ++ attrsW ats).length ≤ 8000000 := by rw [HW.out, List.length_append] at hlen; omega
  have hln2 : (t.isEmpty && ks.isEmpty) = false → (60 :: n ++ attrsW ats).length + (62 :: escL t ++ writeL ks ++ ([60, 47] ++ n ++ [62])).length ≤ 8000000 := by
    intro h
    rw [HW.out, h, List.length_append] at hlen
    exact hlen
  have HL1 := hid hln
  have HL2 := hid hln2
  unfold ev
  simp only [E.name, E.kids, E.text] at HIH ⊢
  generalize writeE (.mk n ats ks t) = RES at HW ⊢
  clear hr ih hlen hln hln2
  have HK := hid (show RepE w ks _ from HR.out.2.1)
  have HA := hid (show RepA w ats _ from HR.out.1)
  have HB0 := hid (Blk.new w 26 #[.string ⟨n.toArray⟩, .slice A ats.length ca, .slice B ks.length cb, .string ⟨t.toArray⟩])
  have HF0 := hid ((Touch.refl (fun _ => False) w).alloc (.cells #[.string ⟨n.toArray⟩, .slice A ats.length ca, .slice B ks.length cb, .string ⟨t.toArray⟩] 26))
  have hn1 : n.length ≤ 8000000 := by have h := HL1.out; simp only [List.length_append, List.length_cons] at h; omega
  obtain ⟨z1, hz1⟩ : ∃ z, z = 60 :: n := ⟨_, rfl⟩
  have HZ1 := hid hz1
  have az1' : ∀ W : World, (Op.stringOp .add ⟨#[60]⟩ ⟨n.toArray⟩).run Tryd.prog W = .ok (.string ⟨z1.toArray⟩) W := fun W => add_lists W (x := [60]) hz1 (by simp) (by omega)
  clear hz1
  go_enter Tryd.func10, Tryd.ntmps10
  go_wp2_with fail
  clear az1'
  refine forget_world (fun W => Fresh w W ∧ Blk W w.heap.size 26 #[.string ⟨n.toArray⟩, .slice A ats.length ca, .slice B ks.length cb, .string ⟨t.toArray⟩]) ⟨HF0.out, HB0.out⟩ ?_
  clear HF0 HB0
  rintro W1 ⟨hf1, hb1⟩
  have HF1 := hid hf1
  have HB1 := hid hb1
  clear hf1 hb1
  go_loopw [3, 4] (fun o i wr0 => ∃ (wr : World) (p : List UInt8) (j : Nat), wr = wr0 ∧ o = .string ⟨p.toArray⟩ ∧ i = .int .i64 j ∧ j ≤ ats.length ∧ Hid (p = 60 :: n ++ attrsW (ats.take j)) ∧ Hid (Fresh w wr) ∧ Hid (Blk wr w.heap.size 26 #[.string ⟨n.toArray⟩, .slice A ats.length ca, .slice B ks.length cb, .string ⟨t.toArray⟩])) (fun _ i _ => ats.length - (intOf i).toNat)
  case atStart => exact ⟨_, z1, 0, rfl, rfl, rfl, Nat.zero_le _, hid (by rw [HZ1.out]; simp [attrsW]), HF1, HB1⟩
  case round =>
    clear HF1 HB1
    obtain ⟨wr, p, j, rfl, rfl, rfl, hj, HP, HF, HB⟩ := hrel
    obtain ⟨q0, q1, q2, q3, _, _, _, _, hqg⟩ := Blk.four HB.out
    have hpl : p.length ≤ 8000000 := by
      have h := HL1.out
      have h2 := El.attrsW_le ats j
      rw [HP.out]
      simp only [List.length_append, List.length_cons] at h ⊢
      omega
    by_cases c1 : j < ats.length
    · have d1 : decide ((j : Int) < (ats.length : Int)) = true := dT (by omega)
      have d1' : (j : Int) < (ats.length : Int) := by omega
      have d1n : decide (j < ats.length) = true := dT c1
      obtain ⟨g, o, rfl, hg2, m0, m1, hx1, hx2⟩ := HA.out.get j c1
      have e0 := HF.out.cell m0 (fun h => h)
      have e1 := HF.out.cell m1 (fun h => h)
      have hjb : j ≤ 8000000 := by
        have h1 : ∀ l : Attrs, l.length ≤ (attrsW l).length := fun l => by
          induction l with
          | nil => exact Nat.le_refl _
          | cons x l ih => have h0 : 1 ≤ (attrW x).length := by (unfold attrW; simp)
                           unfold attrsW at ih ⊢; rw [List.flatMap_cons, List.length_append, List.length_cons]; omega
        have h2 := h1 ats
        have h := HL1.out
        simp only [List.length_append, List.length_cons] at h
        omega
      have HS := hid (El.attrsW_snoc ats j c1)
      have hsl : p.length + (1 + ats[j].1.length + 2 + (escL ats[j].2).length + 1) ≤ 8000000 := by
        have h := HL1.out
        have h2 := El.attrsW_le ats (j + 1)
        rw [HS.out] at h2
        rw [HP.out]
        unfold attrW at h2
        simp only [List.length_append, List.length_cons, List.length_nil] at h h2 ⊢
        omega
      clear m0 m1 hx1 hx2
      generalize ats[j] = x at *
      obtain ⟨x1, x2⟩ := x
      simp only at *
      have HES := hid (fun W : World => resc_any x2 W (by omega))
      obtain ⟨ex, hex⟩ : ∃ ex, ex = escL x2 := ⟨_, rfl⟩
      have HEX := hid hex
      rw [← hex] at HES hsl
      clear hex
      obtain ⟨p1, hp1⟩ : ∃ q, q = p ++ [32] := ⟨_, rfl⟩
      have lp1 : p1.length = p.length + ([32] : List UInt8).length := by rw [hp1, List.length_append]
      simp only [List.length_cons, List.length_nil] at lp1
      have ap1 : ∀ W : World, (Op.stringOp .add ⟨p.toArray⟩ ⟨#[32]⟩).run Tryd.prog W = .ok (.string ⟨p1.toArray⟩) W := fun W => add_lists W hp1 (by omega) (by simp only [List.length_cons, List.length_nil]; omega)
      obtain ⟨p2, hp2⟩ : ∃ q, q = p1 ++ x1 := ⟨_, rfl⟩
      have lp2 : p2.length = p1.length + (x1 : List UInt8).length := by rw [hp2, List.length_append]
      have ap2 : ∀ W : World, (Op.stringOp .add ⟨p1.toArray⟩ ⟨x1.toArray⟩).run Tryd.prog W = .ok (.string ⟨p2.toArray⟩) W := fun W => add_lists W hp2 (by omega) (by omega)
      obtain ⟨p3, hp3⟩ : ∃ q, q = p2 ++ [61, 34] := ⟨_, rfl⟩
      have lp3 : p3.length = p2.length + ([61, 34] : List UInt8).length := by rw [hp3, List.length_append]
      simp only [List.length_cons, List.length_nil] at lp3
      have ap3 : ∀ W : World, (Op.stringOp .add ⟨p2.toArray⟩ ⟨#[61, 34]⟩).run Tryd.prog W = .ok (.string ⟨p3.toArray⟩) W := fun W => add_lists W hp3 (by omega) (by simp only [List.length_cons, List.length_nil]; omega)
      obtain ⟨p4, hp4⟩ : ∃ q, q = p3 ++ ex := ⟨_, rfl⟩
      have lp4 : p4.length = p3.length + (ex : List UInt8).length := by rw [hp4, List.length_append]
      have ap4 : ∀ W : World, (Op.stringOp .add ⟨p3.toArray⟩ ⟨ex.toArray⟩).run Tryd.prog W = .ok (.string ⟨p4.toArray⟩) W := fun W => add_lists W hp4 (by omega) (by omega)
      obtain ⟨p5, hp5⟩ : ∃ q, q = p4 ++ [34] := ⟨_, rfl⟩
      have lp5 : p5.length = p4.length + ([34] : List UInt8).length := by rw [hp5, List.length_append]
      simp only [List.length_cons, List.length_nil] at lp5
      have ap5 : ∀ W : World, (Op.stringOp .add ⟨p4.toArray⟩ ⟨#[34]⟩).run Tryd.prog W = .ok (.string ⟨p5.toArray⟩) W := fun W => add_lists W hp5 (by omega) (by simp only [List.length_cons, List.length_nil]; omega)
      have Hp1 := hid hp1
      clear hp1
      have Hp2 := hid hp2
      clear hp2
      have Hp3 := hid hp3
      clear hp3
      have Hp4 := hid hp4
      clear hp4
      have Hp5 := hid hp5
      clear hp5
      have C0 := hid (calmF (P := Tryd.prog) wr (fun w hw => (HES.out w).mono fun _ _ h => ⟨h.1, by rw [h.2]; exact Touch.refl _ _⟩))
      go_wp2_with fail
      have r1 := cell_regrown q1
      have r2 := cell_regrown e0
      have r3 := cell_regrown e1
      refine wp_region_quiet_below (by kernel_rfl) (by kernel_rfl) ?_
      repeat (with_reducible refine wpQuiet_step (fun K hK => ?_); go_simp; first | (refine hK _ ?_; clear hK K) | (apply Exists.intro; refine ⟨fun _ => ?_, hK _ ?_⟩; (first | with_reducible exact C0.out _ _); clear hK K))
      refine wpQuiet_nil ?_
      rintro w8 ⟨⟨_, _⟩, hW8⟩
      have hf8 : Fresh wr w8 := by rw [hW8]; exact fresh_of_below (below_regrown _ _ _)
      have HF8 := hid (HF.out.trans hf8)
      have HB8 := hid (hf8.blk HB.out fun h => h)
      have HP8 := hid (show p5 = 60 :: n ++ attrsW (ats.take (j + 1)) by rw [HS.out, Hp5.out, Hp4.out, Hp3.out, Hp2.out, Hp1.out, HP.out, HEX.out]; unfold attrW; simp)
      clear hW8 r1 r2 r3 q0 q1 q2 q3 hqg hf8 e0 e1 lp1 lp2 lp3 lp4 lp5 ap1 ap2 ap3 ap4 ap5
      go_wp2_with fail
      go_roundw
      case rel => exact ⟨_, p5, j + 1, rfl, rfl, by go_num, c1, HP8, HF8, HB8⟩
      case measure => simp [intOf]; omega
    · have d1 : decide ((j : Int) < (ats.length : Int)) = false := dF (by omega)
      have d1n : decide (j < ats.length) = false := dF c1
      have HP2 := hid (show p = 60 :: n ++ attrsW ats by rw [HP.out, List.take_of_length_le (by omega)])
      clear hj
      have hways : (t.isEmpty = true ∧ ks.length = 0) ∨ (t.isEmpty = false) ∨ (t.isEmpty = true ∧ ks.length ≠ 0) := by
        cases t.isEmpty <;> by_cases h : ks.length = 0 <;> simp [h]
      rcases hways with ⟨he, hk0⟩ | hne
      focus
        obtain ⟨f1, f2, f3, f4, f5⟩ := empty_forms t true he
        have d0 : ((ks.length : Int) == (0 : Int)) = true := by rw [hk0]; rfl
        obtain ⟨c1', hc1'⟩ : ∃ q, q = p ++ [47, 62] := ⟨_, rfl⟩
        have lc1' : c1'.length = p.length + ([47, 62] : List UInt8).length := by rw [hc1', List.length_append]
        simp only [List.length_cons, List.length_nil] at lc1'
        have ac1' : ∀ W : World, (Op.stringOp .add ⟨p.toArray⟩ ⟨#[47, 62]⟩).run Tryd.prog W = .ok (.string ⟨c1'.toArray⟩) W := fun W => add_lists W hc1' (by omega) (by simp only [List.length_cons, List.length_nil]; omega)
        have Hc1' := hid hc1'
        clear hc1'
        have HFIN := hid (show c1' = RES by rw [Hc1'.out, HW.out, HP2.out, he, List.length_eq_zero_iff.1 hk0]; rfl)
        clear lc1'
        go_wp2_with fail
        go_ret
        exact ⟨by rw [HFIN.out]; rfl, HF.out⟩
      have HTE := hid (show (t.isEmpty && ks.isEmpty) = false by
        rcases hne with h | ⟨_, h⟩
        · rw [h]; rfl
        · cases hks : ks with
          | nil => rw [hks] at h; exact absurd rfl h
          | cons x l => rw [List.isEmpty_cons, Bool.and_false])
      have hl3 : p.length + (1 + (escL t).length + (writeL ks).length + (2 + n.length + 1)) ≤ 8000000 := by
        have h := HL2.out HTE.out
        rw [HP2.out]
        simp only [List.length_append, List.length_cons, List.length_nil] at h ⊢
        omega
      have HWR := hid (show RES = p ++ (62 :: escL t ++ writeL ks ++ ([60, 47] ++ n ++ [62])) by rw [HW.out, HTE.out, HP2.out]; rfl)
      have HES := hid (fun W : World => resc_any t W (by omega))
      obtain ⟨et, het⟩ : ∃ et, et = escL t := ⟨_, rfl⟩
      have HET := hid het
      rw [← het] at HES hl3
      clear het
      obtain ⟨wl, hwl⟩ : ∃ wl, wl = (writeL ks).length := ⟨_, rfl⟩
      have HWL := hid hwl
      rw [← hwl] at hl3
      clear hwl
      obtain ⟨b1, hb1⟩ : ∃ q, q = p ++ [62] := ⟨_, rfl⟩
      have lb1 : b1.length = p.length + ([62] : List UInt8).length := by rw [hb1, List.length_append]
      simp only [List.length_cons, List.length_nil] at lb1
      have ab1 : ∀ W : World, (Op.stringOp .add ⟨p.toArray⟩ ⟨#[62]⟩).run Tryd.prog W = .ok (.string ⟨b1.toArray⟩) W := fun W => add_lists W hb1 (by omega) (by simp only [List.length_cons, List.length_nil]; omega)
      obtain ⟨b2, hb2⟩ : ∃ q, q = b1 ++ et := ⟨_, rfl⟩
      have lb2 : b2.length = b1.length + (et : List UInt8).length := by rw [hb2, List.length_append]
      have ab2 : ∀ W : World, (Op.stringOp .add ⟨b1.toArray⟩ ⟨et.toArray⟩).run Tryd.prog W = .ok (.string ⟨b2.toArray⟩) W := fun W => add_lists W hb2 (by omega) (by omega)
      have Hb1 := hid hb1
      clear hb1
      have Hb2 := hid hb2
      clear hb2
      have HP3 := hid (show b2 = p ++ 62 :: escL t by rw [Hb2.out, Hb1.out, HET.out]; simp)
      have hbl : b2.length + wl + (2 + n.length + 1) ≤ 8000000 := by omega
      clear lb1 lb2 hl3 HP2 HP
      have hways2 : (t.isEmpty = false) ∨ (t.isEmpty = true ∧ ((ks.length : Int) == (0 : Int)) = false) := by
        rcases hne with h | ⟨h, h0⟩
        · exact .inl h
        · exact .inr ⟨h, by rw [beq_eq_false_iff_ne]; omega⟩
      clear hne
      rcases hways2 with h | ⟨h, h0⟩
      focus
        obtain ⟨f1, f2, f3, f4, f5⟩ := empty_forms t false h
        go_wp2_with fail
        refine (HES.out _).mono ?_
      rotate_left
      focus
        obtain ⟨f1, f2, f3, f4, f5⟩ := empty_forms t true h
        go_wp2_with fail
        refine (HES.out _).mono ?_
      all_goals
        rintro _ w3 ⟨rfl, hw⟩
        replace hw := hw.symm
        subst hw
        clear f1 f2 f3 f4 f5 h d1 d1n
        go_wp2_with fail
        clear ab1 ab2 q0 q1 q2 q3
        go_loopw [3, 5] (fun o i wr0 => ∃ (wr : World) (p : List UInt8) (j : Nat), wr = wr0 ∧ o = .string ⟨p.toArray⟩ ∧ i = .int .i64 j ∧ j ≤ ks.length ∧ Hid (p = b2 ++ writeL (ks.take j)) ∧ Hid (Fresh w wr) ∧ Hid (Blk wr w.heap.size 26 #[.string ⟨n.toArray⟩, .slice A ats.length ca, .slice B ks.length cb, .string ⟨t.toArray⟩])) (fun _ i _ => ks.length - (intOf i).toNat)
        case atStart => exact ⟨_, b2, 0, rfl, rfl, rfl, Nat.zero_le _, hid (by rw [List.take_zero, writeL, List.append_nil]), HF, HB⟩
        case round =>
          clear HF HB
          obtain ⟨wr3, p, j, rfl, rfl, rfl, hj, HP, HF, HB⟩ := hrel
          obtain ⟨q0, q1, q2, q3, _, _, _, _, hqg2⟩ := Blk.four HB.out
          by_cases c2 : j < ks.length
          · have d1 : decide ((j : Int) < (ks.length : Int)) = true := dT (by omega)
            have d1' : (j : Int) < (ks.length : Int) := by omega
            have d1n : decide (j < ks.length) = true := dT c2
            obtain ⟨g, o, xa, xk, rfl, hg, m0, m1, m2, m3, hrx⟩ := HK.out.get j c2
            obtain ⟨e0, e1, e2, e3⟩ := mv4 HF.out m0 m1 m2 m3
            obtain ⟨Aa, aa, hxa⟩ := hrx.1.slice
            obtain ⟨Ak, ak, hxk⟩ := hrx.2.1.slice
            have HS := hid (El.writeL_snoc ks j c2)
            have hpl : p.length + (writeE ks[j]).length + (2 + n.length + 1) ≤ 8000000 := by
              have h1 := El.writeL_le ks (j + 1)
              rw [HS.out, List.length_append, ← HWL.out] at h1
              rw [HP.out, List.length_append]
              omega
            have hjb : j ≤ 8000000 := by
              have h1 : ∀ l : List E, l.length ≤ (writeL l).length := fun l => by
                induction l with
                | nil => exact Nat.zero_le _
                | cons x l ih => rw [writeL, List.length_append, List.length_cons]; have : 1 ≤ (writeE x).length := by cases x; rw [writeE]; simp only [List.cons_append, List.length_cons]; omega
                                 omega
              have h2 := h1 ks
              have h3 := HWL.out
              omega
            have HC := hid (fun (W : World) (hw : RepV W ks[j] xa xk) => HIH.out ks[j] (List.getElem_mem c2) xa xk W hw (by omega))
            have HX := hid (hrx.fresh HF.out)
            clear m0 m1 m2 m3 hrx
            generalize ks[j] = x at *
            obtain ⟨wx, hwx⟩ : ∃ wx, wx = writeE x := ⟨_, rfl⟩
            have HWX := hid hwx
            rw [← hwx] at hpl HC
            clear hwx
            obtain ⟨xn, xat, xks, xt⟩ := x
            unfold ev at HC
            simp only [E.name, E.attrs, E.kids, E.text] at hxa hxk e0 e1 e2 e3 HC
            subst hxa hxk
            obtain ⟨d1_, hd1_⟩ : ∃ q, q = p ++ wx := ⟨_, rfl⟩
            have ld1_ : d1_.length = p.length + (wx : List UInt8).length := by rw [hd1_, List.length_append]
            have ad1_ : ∀ W : World, (Op.stringOp .add ⟨p.toArray⟩ ⟨wx.toArray⟩).run Tryd.prog W = .ok (.string ⟨d1_.toArray⟩) W := fun W => add_lists W hd1_ (by omega) (by omega)
            have Hd1_ := hid hd1_
            clear hd1_
            go_wp2_with fail
            refine (HC.out _ HX.out).mono ?_
            rintro _ w5 ⟨rfl, hf5⟩
            have HF5 := hid (HF.out.trans hf5)
            have HB5 := hid (hf5.blk HB.out fun h => h)
            have HP5 := hid (show d1_ = b2 ++ writeL (ks.take (j + 1)) by rw [Hd1_.out, HP.out, HS.out, HWX.out, List.append_assoc])
            clear hf5 ld1_
            go_wp2_with fail
            go_roundw
            case rel => exact ⟨_, d1_, j + 1, rfl, rfl, by go_num, c2, HP5, HF5, HB5⟩
            case measure => simp [intOf]; omega
          · have d1 : decide ((j : Int) < (ks.length : Int)) = false := dF (by omega)
            have d1n : decide (j < ks.length) = false := dF c2
            have HPF := hid (show p = b2 ++ writeL ks by rw [HP.out, List.take_of_length_le (by omega)])
            have hpl : p.length + (2 + n.length + 1) ≤ 8000000 := by rw [HPF.out, List.length_append, ← HWL.out]; omega
            obtain ⟨f1, hf1⟩ : ∃ q, q = p ++ [60, 47] := ⟨_, rfl⟩
            have lf1 : f1.length = p.length + ([60, 47] : List UInt8).length := by rw [hf1, List.length_append]
            simp only [List.length_cons, List.length_nil] at lf1
            have af1 : ∀ W : World, (Op.stringOp .add ⟨p.toArray⟩ ⟨#[60, 47]⟩).run Tryd.prog W = .ok (.string ⟨f1.toArray⟩) W := fun W => add_lists W hf1 (by omega) (by simp only [List.length_cons, List.length_nil]; omega)
            obtain ⟨f2, hf2⟩ : ∃ q, q = f1 ++ n := ⟨_, rfl⟩
            have lf2 : f2.length = f1.length + (n : List UInt8).length := by rw [hf2, List.length_append]
            have af2 : ∀ W : World, (Op.stringOp .add ⟨f1.toArray⟩ ⟨n.toArray⟩).run Tryd.prog W = .ok (.string ⟨f2.toArray⟩) W := fun W => add_lists W hf2 (by omega) (by omega)
            obtain ⟨f3, hf3⟩ : ∃ q, q = f2 ++ [62] := ⟨_, rfl⟩
            have lf3 : f3.length = f2.length + ([62] : List UInt8).length := by rw [hf3, List.length_append]
            simp only [List.length_cons, List.length_nil] at lf3
            have af3 : ∀ W : World, (Op.stringOp .add ⟨f2.toArray⟩ ⟨#[62]⟩).run Tryd.prog W = .ok (.string ⟨f3.toArray⟩) W := fun W => add_lists W hf3 (by omega) (by simp only [List.length_cons, List.length_nil]; omega)
            have Hf1 := hid hf1
            clear hf1
            have Hf2 := hid hf2
            clear hf2
            have Hf3 := hid hf3
            clear hf3
            have HFIN := hid (show f3 = RES by rw [Hf3.out, Hf2.out, Hf1.out, HPF.out, HWR.out, HP3.out]; simp)
            clear lf1 lf2 lf3
            go_wp2_with fail
            go_ret
            exact ⟨by rw [HFIN.out]; rfl, HF.out⟩
theorem rprint_any (e : E) : RPrintC e := El.E.ind (p := RPrintC) rprint_step e
end Go.Proofs.YtnkmccgpmmnfeaaDoor
