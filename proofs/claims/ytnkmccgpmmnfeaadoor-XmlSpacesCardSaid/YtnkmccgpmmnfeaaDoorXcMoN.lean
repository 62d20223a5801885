/- The reference's proper and Valid of elements walked (layer 23). -/
import Derived.Test.YtnkmccgpmmnfeaaDoorXcMoM
import Derived.Test.YtnkmccgpmmnfeaaDoorXa7
namespace Go.Proofs.YtnkmccgpmmnfeaaDoor
open Go.RowKit
open El (E Attrs)

theorem all_snocE (l : List E) (j : Nat) (h : j < l.length) (p : E → Bool) : (l.take (j + 1)).all p = ((l.take j).all p && p l[j]) := by
  rw [List.take_add_one, List.getElem?_eq_getElem h, List.all_append]
  simp
theorem all_noE (l : List E) (j : Nat) (h : j < l.length) (p : E → Bool) (hn : p l[j] = false) : l.all p = false := by
  rw [List.all_eq_false]
  exact ⟨l[j], List.getElem_mem h, by rw [hn]; decide⟩
theorem empty_forms (t : List UInt8) (b : Bool) (h : t.isEmpty = b) : (t == ([] : List UInt8)) = b ∧ (t != ([] : List UInt8)) = (!b) ∧ ((⟨t.toArray⟩ : ByteArray) == (⟨#[]⟩ : ByteArray)) = b ∧ ((⟨t.toArray⟩ : ByteArray) != (⟨#[]⟩ : ByteArray)) = (!b) ∧ (⟨t.toArray⟩ : ByteArray).toList.isEmpty = b := by
  have h1 : (t == ([] : List UInt8)) = b := by rw [← h]; cases t <;> rfl
  have h2 : ((⟨t.toArray⟩ : ByteArray) == (⟨#[]⟩ : ByteArray)) = b := str_decT t [] b h1
  exact ⟨h1, by rw [bne, h1], h2, by rw [bne, h2], by rw [ByteArray.toList_eq]; exact h⟩
def RProperC (e : E) : Prop := ∀ (va vk : Value) (w : World), RepV w e va vk → Calls Tryd.prog 19 #[ev e va vk] w fun x w' => x = .returned (.bool (El.proper e)) ∧ Fresh w w'
set_option maxRecDepth 100000 in
set_option maxHeartbeats 4000000 in
theorem rproper_step (e : E) (ih : ∀ x ∈ e.kids, RProperC x) : RProperC e := by
  intro va vk w hr
  obtain ⟨A, ca, hva⟩ := hr.1.slice
  obtain ⟨B, cb, hvk⟩ := hr.2.1.slice
  have HR := hid hr
  have HIH := hid ih
  obtain ⟨n, ats, ks, t⟩ := e
  have hl1 : ats.length ≤ maxLen := by obtain ⟨_, _, _, h, _⟩ := hr.1; exact h.1
  have hl2 : ks.length ≤ maxLen := hr.2.1.len
  have hnl : n.length ≤ maxLen := hr.2.2.1
  have htl : t.length ≤ maxLen := hr.2.2.2
  unfold maxLen at hl1 hl2 hnl htl
  have HPE := hid (show El.proper (.mk n ats ks t) = (El.nameOK n && El.valueOK t && (t.isEmpty || ks.isEmpty) && decide (ats.length ≤ 8) && El.attrsOK ats && ks.all El.proper) by rw [El.proper_eq, El.properL_all]; rfl)
  replace hva : va = .slice A ats.length ca := hva
  replace hvk : vk = .slice B ks.length cb := hvk
  subst hva
  subst hvk
  unfold ev
  simp only [E.name, E.kids, E.text] at HIH ⊢
  clear hr ih
  generalize El.proper (.mk n ats ks t) = PR at HPE ⊢
  have HK := hid (show RepE w ks _ from HR.out.2.1)
  have HA := hid (show RepA w ats _ from HR.out.1)
  have HNM := hid (fun W : World => rname23_list n W hnl)
  have HVL := hid (fun W : World => rvalue_list t W htl)
  have HB0 := hid (Blk.new w 26 #[.string ⟨n.toArray⟩, .slice A ats.length ca, .slice B ks.length cb, .string ⟨t.toArray⟩])
  have HF0 := hid ((Touch.refl (fun _ => False) w).alloc (.cells #[.string ⟨n.toArray⟩, .slice A ats.length ca, .slice B ks.length cb, .string ⟨t.toArray⟩] 26))
  cases hn : El.nameOK n with
  | false =>
    have HPR := hid (show PR = false by rw [HPE.out, hn]; rfl)
    go_enter Tryd.func19, Tryd.ntmps19
    go_wp2_with fail
    refine (HNM.out _).mono ?_
    rintro _ w1 ⟨rfl, hf1⟩
    have HF1 := hid (HF0.out.trans hf1)
    clear hf1
    rw [hn]
    go_wp2_with fail
    go_ret
    exact ⟨ret_bool' _ _ HPR.out.symm, HF1.out⟩
  | true =>
  cases c1 : decide ((8 : Int) < (ats.length : Int)) with
  | true =>
    have HPR := hid (show PR = false by rw [HPE.out, show decide (ats.length ≤ 8) = false from dF (by have := of_decide_eq_true c1; omega)]; simp)
    go_enter Tryd.func19, Tryd.ntmps19
    go_wp2_with fail
    refine (HNM.out _).mono ?_
    rintro _ w1 ⟨rfl, hf1⟩
    have HF1 := hid (HF0.out.trans hf1)
    obtain ⟨q0, q1, q2, q3, _⟩ := Blk.four (hf1.blk HB0.out fun h => h)
    clear hf1
    rw [hn]
    go_wp2_with fail
    go_ret
    exact ⟨ret_bool' _ _ HPR.out.symm, HF1.out⟩
  | false =>
  have HL8 := hid (show decide (ats.length ≤ 8) = true from dT (by have := of_decide_eq_false c1; omega))
  cases hv : El.valueOK t with
  | false =>
    have HPR := hid (show PR = false by rw [HPE.out, hv]; simp)
    go_enter Tryd.func19, Tryd.ntmps19
    go_wp2_with fail
    refine (HNM.out _).mono ?_
    rintro _ w1 ⟨rfl, hf1⟩
    have HF1 := hid (HF0.out.trans hf1)
    obtain ⟨q0, q1, q2, q3, _⟩ := Blk.four (hf1.blk HB0.out fun h => h)
    clear hf1
    rw [hn]
    go_wp2_with fail
    refine (HVL.out _).mono ?_
    rintro _ w2 ⟨rfl, hf2⟩
    have HF2 := hid (HF1.out.trans hf2)
    clear hf2
    rw [hv]
    go_wp2_with fail
    go_ret
    exact ⟨ret_bool' _ _ HPR.out.symm, HF2.out⟩
  | true =>
  have hways : (t.isEmpty = false ∧ (decide ((0 : Int) < (ks.length : Int)) = true ∧ decide (0 < ks.length) = true) ∧ PR = false) ∨ ((t.isEmpty = true ∨ (t.isEmpty = false ∧ decide ((0 : Int) < (ks.length : Int)) = false ∧ decide (0 < ks.length) = false)) ∧ PR = (El.attrsOK ats && ks.all El.proper)) := by
    have h := HPE.out
    rw [hn, hv, HL8.out] at h
    cases ht : t.isEmpty with
    | true => exact .inr ⟨.inl rfl, by rw [h, ht]; simp⟩
    | false =>
      cases hk : ks with
      | nil => exact .inr ⟨.inr ⟨rfl, rfl, rfl⟩, by rw [h, ht, hk]; simp⟩
      | cons x xs => exact .inl ⟨rfl, ⟨by rw [List.length_cons]; exact dT (by omega), by rw [List.length_cons]; exact dT (by omega)⟩, by rw [h, ht, hk]; simp⟩
  clear HPE HL8
  rcases hways with ⟨hte, ⟨c2, c2n⟩, hpr⟩ | ⟨hte | ⟨hte, c2, c2n⟩, hpr⟩
  focus
    obtain ⟨z1, z2, z3, z4, z5⟩ := empty_forms t _ hte
    simp only [Bool.not_false] at z2 z4
    have HPR := hid hpr
    clear hpr
    go_enter Tryd.func19, Tryd.ntmps19
    go_wp2_with fail
    refine (HNM.out _).mono ?_
    rintro _ w1 ⟨rfl, hf1⟩
    have HF1 := hid (HF0.out.trans hf1)
    have HB1 := hid (hf1.blk HB0.out fun h => h)
    obtain ⟨q0, q1, q2, q3, _⟩ := Blk.four HB1.out
    clear hf1
    rw [hn]
    go_wp2_with fail
    refine (HVL.out _).mono ?_
    rintro _ w2 ⟨rfl, hf2⟩
    have HF2 := hid (HF1.out.trans hf2)
    clear q0 q1 q2 q3
    obtain ⟨q0, q1, q2, q3, _⟩ := Blk.four (hf2.blk HB1.out fun h => h)
    clear hf2
    rw [hv]
    go_wp2_with fail
    go_ret
    exact ⟨ret_bool' _ _ HPR.out.symm, HF2.out⟩
  all_goals
    obtain ⟨z1, z2, z3, z4, z5⟩ := empty_forms t _ hte
    simp only [Bool.not_false, Bool.not_true] at z2 z4
    have HPR := hid hpr
    clear hpr
    go_enter Tryd.func19, Tryd.ntmps19
    go_wp2_with fail
    refine (HNM.out _).mono ?_
    rintro _ w1 ⟨rfl, hf1⟩
    have HF1 := hid (HF0.out.trans hf1)
    have HB1 := hid (hf1.blk HB0.out fun h => h)
    obtain ⟨q0, q1, q2, q3, _⟩ := Blk.four HB1.out
    clear hf1
    rw [hn]
    go_wp2_with fail
    refine (HVL.out _).mono ?_
    rintro _ w2 ⟨rfl, hf2⟩
    have HF2 := hid (HF1.out.trans hf2)
    have HB2 := hid (hf2.blk HB1.out fun h => h)
    clear q0 q1 q2 q3
    obtain ⟨q0, q1, q2, q3, _⟩ := Blk.four HB2.out
    clear hf2 HF1 HB1
    rw [hv]
    go_wp2_with fail
    clear z1 z2 z3 z4 z5 q0 q1 q2 q3 hte hn hv c1 HNM HVL HF0 HB0
    go_loopw [3] (fun i wr => ∃ j : Nat, i = .int .i64 j ∧ j ≤ ats.length ∧ Hid (El.attrsOK (ats.take j) = true) ∧ Hid (Blk wr w.heap.size 26 #[.string ⟨n.toArray⟩, .slice A ats.length ca, .slice B ks.length cb, .string ⟨t.toArray⟩]) ∧ Hid (Fresh w wr)) (fun i _ => ats.length - (intOf i).toNat)
    case atStart => exact ⟨0, rfl, Nat.zero_le _, hid rfl, HB2, HF2⟩
    case round =>
      obtain ⟨j, rfl, hj, HOK, HB, HF⟩ := hrel
      obtain ⟨q0, q1, q2, q3, _, _, _, _, hgl⟩ := Blk.four HB.out
      by_cases c1 : j < ats.length
      · have d1 : decide ((j : Int) < (ats.length : Int)) = true := dT (by omega)
        have d1' : (j : Int) < (ats.length : Int) := by omega
        have d1n : decide (j < ats.length) = true := dT c1
        obtain ⟨g, o, rfl, hg2, m0, m1, hx1, hx2⟩ := HA.out.get j c1
        have m0 := HF.out.cell m0 (fun h => h)
        have m1 := HF.out.cell m1 (fun h => h)
        have HSN := hid (El.attrsOK_snoc ats j c1)
        have HNO := hid (El.attrsOK_no ats (j + 1))
        have HAR := hid (HA.out.fresh HF.out)
        unfold maxLen at hx1 hx2
        generalize ats[j] = x at *
        have HN1 := hid (fun W : World => rname23_list x.1 W hx1)
        have HV1 := hid (fun W : World => rvalue_list x.2 W hx2)
        clear hx1 hx2
        go_wp2_with fail
        refine (HN1.out _).mono ?_
        rintro _ w3 ⟨rfl, hf3⟩
        have HF3 := hid (HF.out.trans hf3)
        have HB3 := hid (hf3.blk HB.out fun h => h)
        have HA3 := hid (HAR.out.fresh hf3)
        have m0 := hf3.cell m0 (fun h => h)
        have m1 := hf3.cell m1 (fun h => h)
        clear hf3 q0 q1 q2 q3 hgl
        obtain ⟨q0, q1, q2, q3, _, _, _, _, hgl⟩ := Blk.four HB3.out
        cases hxn : El.nameOK x.1 with
        | false =>
          have HP2 := hid (show PR = false by rw [HPR.out, HNO.out (by rw [HSN.out, hxn]; simp)]; rfl)
          go_wp2_with fail
          go_ret
          exact ⟨ret_bool' _ _ HP2.out.symm, HF3.out⟩
        | true =>
        go_wp2_with fail
        refine (HV1.out _).mono ?_
        rintro _ w4 ⟨rfl, hf4⟩
        have HF4 := hid (HF3.out.trans hf4)
        have HB4 := hid (hf4.blk HB3.out fun h => h)
        have HA4 := hid (HA3.out.fresh hf4)
        have m0 := hf4.cell m0 (fun h => h)
        clear hf4 q0 q1 q2 q3 hgl m1
        obtain ⟨q0, q1, q2, q3, _, _, _, _, hgl⟩ := Blk.four HB4.out
        cases hxv : El.valueOK x.2 with
        | false =>
          have HP2 := hid (show PR = false by rw [HPR.out, HNO.out (by rw [HSN.out, hxv]; simp)]; rfl)
          go_wp2_with fail
          go_ret
          exact ⟨ret_bool' _ _ HP2.out.symm, HF4.out⟩
        | true =>
        have HSN2 := hid (show El.attrsOK (ats.take (j + 1)) = !(ats.take j).any (fun y => y.1 == x.1) by rw [HSN.out, hxn, hxv, HOK.out]; simp)
        clear HSN hxn hxv HN1 HV1
        go_wp2_with fail
        clear q0 q1 q2 q3 d1 d1n
        go_loopw [4] (fun i wr => ∃ k : Nat, i = .int .i64 k ∧ k ≤ j ∧ Hid ((ats.take k).any (fun y => y.1 == x.1) = false) ∧ Hid (Blk wr w.heap.size 26 #[.string ⟨n.toArray⟩, .slice (some ⟨g, o, none⟩) ats.length ca, .slice B ks.length cb, .string ⟨t.toArray⟩]) ∧ Hid (Fresh w wr) ∧ wr.cell? ⟨g, o + j * 2, none⟩ = some (.string ⟨x.1.toArray⟩)) (fun i _ => j - (intOf i).toNat)
        case atStart => exact ⟨0, rfl, Nat.zero_le _, hid rfl, HB4, HF4, m0⟩
        case round =>
          obtain ⟨k, rfl, hk, HNK, HB5, HF5, m5⟩ := hrel
          obtain ⟨q0, q1, q2, q3, _⟩ := Blk.four HB5.out
          by_cases c2 : k < j
          · have d2 : decide ((k : Int) < (j : Int)) = true := dT (by omega)
            have d2n : decide (k < j) = true := dT c2
            have d2' : (k : Int) < (ats.length : Int) := by omega
            obtain ⟨g', o', hA', hg2', n0, n1, _, _⟩ := (HA.out.fresh HF5.out).get k (by omega)
            cases hA'
            have HSK := hid (any_snoc ats k (by omega) (fun y => y.1 == x.1))
            have HJK := hid (show ats[k]'(by omega) ∈ ats.take j by
              rw [List.mem_take_iff_getElem]
              exact ⟨k, by omega, rfl⟩)
            generalize hy : ats[k]'(by omega) = y at *
            clear hy
            cases hxy : (y.1 == x.1) with
            | true =>
              have HP2 := hid (show PR = false by
                rw [HPR.out, HNO.out (by
                  rw [HSN2.out, show (ats.take j).any (fun y => y.1 == x.1) = true from List.any_eq_true.2 ⟨y, HJK.out, hxy⟩]; rfl)]; rfl)
              clear n1
              go_wp2_with fail
              go_quiet (fail)
              go_wp2_with fail
              go_ret
              exact ⟨ret_bool' _ _ HP2.out.symm, HF5.out.drewN _⟩
            | false =>
              have HNK2 := hid (show (ats.take (k + 1)).any (fun y => y.1 == x.1) = false by rw [HSK.out, HNK.out, hxy]; rfl)
              clear n1
              go_wp2_with fail
              go_quiet (fail)
              go_wp2_with fail
              exact ⟨⟨k + 1, by go_num, c2, HNK2, hid (HB5.out.drewN _), hid (HF5.out.drewN _), (Touch.refl (fun _ => False) _).drewN _ |>.cell m5 (fun h => h)⟩, by simp [intOf]; omega⟩
          · have d2 : decide ((k : Int) < (j : Int)) = false := dF (by omega)
            have d2n : decide (k < j) = false := dF c2
            obtain rfl : k = j := by omega
            have HOK2 := hid (show El.attrsOK (ats.take (k + 1)) = true by rw [HSN2.out, HNK.out]; rfl)
            go_wp2_with fail
            exact ⟨⟨k + 1, by go_num, c1, HOK2, HB5, HF5⟩, by simp [intOf]; omega⟩
      · have d1 : decide ((j : Int) < (ats.length : Int)) = false := dF (by omega)
        have d1n : decide (j < ats.length) = false := dF c1
        obtain rfl : j = ats.length := by omega
        have HPK := hid (show PR = ks.all El.proper by
          have h := HOK.out
          rw [List.take_length] at h
          rw [HPR.out, h, Bool.true_and])
        go_wp2_with fail
        clear d1 d1n q0 q1 q2 q3 hgl HOK HPR
        go_loopw [5] (fun i wr => ∃ k : Nat, i = .int .i64 k ∧ k ≤ ks.length ∧ Hid ((ks.take k).all El.proper = true) ∧ Hid (Blk wr w.heap.size 26 #[.string ⟨n.toArray⟩, .slice A ats.length ca, .slice B ks.length cb, .string ⟨t.toArray⟩]) ∧ Hid (Fresh w wr)) (fun i _ => ks.length - (intOf i).toNat)
        case atStart => exact ⟨0, rfl, Nat.zero_le _, hid rfl, HB, HF⟩
        case round =>
          obtain ⟨k, rfl, hk, HAL, HB, HF⟩ := hrel
          obtain ⟨q0, q1, q2, q3, _, _, _, _, hgl⟩ := Blk.four HB.out
          by_cases c2 : k < ks.length
          · have d2 : decide ((k : Int) < (ks.length : Int)) = true := dT (by omega)
            have d2' : (k : Int) < (ks.length : Int) := by omega
            have d2n : decide (k < ks.length) = true := dT c2
            obtain ⟨g, o, va, vk, rfl, hg, m0, m1, m2, m3, hrx⟩ := HK.out.get k c2
            obtain ⟨e0, e1, e2, e3⟩ := mv4 HF.out m0 m1 m2 m3
            obtain ⟨Aa, aa, hva⟩ := hrx.1.slice
            obtain ⟨Ak, ak, hvk⟩ := hrx.2.1.slice
            have HS := hid (all_snocE ks k c2 El.proper)
            have HN := hid (all_noE ks k c2 El.proper)
            have HC := hid (fun (W : World) (hw : RepV W ks[k] va vk) => HIH.out ks[k] (List.getElem_mem c2) va vk W hw)
            have HX := hid (hrx.fresh HF.out)
            clear m0 m1 m2 m3 hrx
            generalize ks[k] = x at *
            generalize El.proper x = px at *
            obtain ⟨xn, xa, xk, xt⟩ := x
            unfold ev at HC
            simp only [E.name, E.attrs, E.kids, E.text] at hva hvk e0 e1 e2 e3 HC
            subst hva hvk
            go_wp2_with fail
            refine (HC.out _ HX.out).mono ?_
            rintro _ w5 ⟨rfl, hf5⟩
            have HF5 := hid (HF.out.trans hf5)
            have HB5 := hid (hf5.blk HB.out fun h => h)
            clear hf5
            cases px with
            | false =>
              have HP2 := hid (show PR = false by rw [HPK.out, HN.out rfl])
              go_wp2_with fail
              go_ret
              exact ⟨ret_bool' _ _ HP2.out.symm, HF5.out⟩
            | true =>
              go_wp2_with fail
              go_roundw
              case rel => exact ⟨k + 1, by go_num, c2, hid (by rw [HS.out, HAL.out]; rfl), HB5, HF5⟩
              case measure => simp [intOf]; omega
          · have d2 : decide ((k : Int) < (ks.length : Int)) = false := dF (by omega)
            have d2n : decide (k < ks.length) = false := dF c2
            obtain rfl : k = ks.length := by omega
            have HP2 := hid (show PR = true by rw [HPK.out]; have := HAL.out; rwa [List.take_length] at this)
            go_wp2_with fail
            go_ret
            exact ⟨ret_bool' _ _ HP2.out.symm, HF.out⟩
end Go.Proofs.YtnkmccgpmmnfeaaDoor
