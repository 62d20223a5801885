/- The reference's Valid of elements walked (layer 23). -/
import Derived.Test.YtnkmccgpmmnfeaaDoorXcMoN
import Derived.Test.YtnkmccgpmmnfeaaDoorXcMnG
namespace Go.Proofs.YtnkmccgpmmnfeaaDoor
open Go.RowKit
open El (E Attrs)

set_option maxRecDepth 100000 in
set_option maxHeartbeats 1000000 in
theorem rValid23_any (e : E) (va vk : Value) (w : World) (hr : RepV w e va vk) (hc : El.count e ≤ 1000000) :
    Calls Tryd.prog 9 #[ev e va vk] w fun x w' => x = .returned (.bool (El.valid e)) ∧ Fresh w w' := by
  have HPR := hid (fun (W : World) (h : RepV W e va vk) => El.E.ind (p := RProperC) rproper_step e va vk W h)
  have HCO := hid (fun (W : World) (h : RepV W e va vk) => rcount_any e va vk W h hc)
  have HDE := hid (fun (W : World) (h : RepV W e va vk) => rdepth_any e va vk W h hc)
  have HV := hid (show El.valid e = (El.proper e && decide (El.count e ≤ 3000) && decide (El.depth e ≤ 64)) from rfl)
  have hdl : El.depth e ≤ 1000000 := by have h1 := depthL_le_count e.kids; have h2 := El.depth_kids e; have h3 := El.count_kids e; omega
  have HR := hid hr
  obtain ⟨A, ca, hva⟩ := hr.1.slice
  obtain ⟨B, cb, hvk⟩ := hr.2.1.slice
  clear hr
  generalize El.valid e = V at *
  generalize El.proper e = P at *
  generalize El.count e = c at *
  generalize El.depth e = d at *
  obtain ⟨n, ats, ks, t⟩ := e
  replace hva : va = .slice A ats.length ca := hva
  replace hvk : vk = .slice B ks.length cb := hvk
  subst hva
  subst hvk
  unfold ev at *
  simp only [E.name, E.text] at *
  have HB0 := hid (Blk.new w 26 #[.string ⟨n.toArray⟩, .slice A ats.length ca, .slice B ks.length cb, .string ⟨t.toArray⟩])
  have HF0 := hid ((Touch.refl (fun _ => False) w).alloc (.cells #[.string ⟨n.toArray⟩, .slice A ats.length ca, .slice B ks.length cb, .string ⟨t.toArray⟩] 26))
  go_enter Tryd.func9, Tryd.ntmps9
  go_wp2_with fail
  refine (HPR.out _ (HR.out.fresh HF0.out)).mono ?_
  rintro _ w1 ⟨rfl, hf1⟩
  have HF1 := hid (HF0.out.trans hf1)
  have HB1 := hid (hf1.blk HB0.out fun h => h)
  clear hf1 HF0 HB0
  cases P with
  | false =>
    have HZ := hid (show V = false by rw [HV.out]; rfl)
    go_wp2_with fail
    go_ret
    exact ⟨ret_bool' _ _ HZ.out.symm, HF1.out⟩
  | true =>
  obtain ⟨q0, q1, q2, q3, _⟩ := Blk.four HB1.out
  go_wp2_with fail
  refine (HCO.out _ (HR.out.fresh HF1.out)).mono ?_
  rintro _ w2 ⟨rfl, hf2⟩
  have HF2 := hid (HF1.out.trans hf2)
  have HB2 := hid (hf2.blk HB1.out fun h => h)
  clear hf2 HF1 HB1 q0 q1 q2 q3
  obtain ⟨q0, q1, q2, q3, _⟩ := Blk.four HB2.out
  by_cases c1 : c ≤ 3000
  · have d1 : decide ((c : Int) ≤ (3000 : Int)) = true := dT (by omega)
    have d1n : decide (c ≤ 3000) = true := dT c1
    go_wp2_with fail
    refine (HDE.out _ (HR.out.fresh HF2.out)).mono ?_
    rintro _ w3 ⟨rfl, hf3⟩
    have HF3 := hid (HF2.out.trans hf3)
    have HZ := hid (show V = decide ((d : Int) ≤ (64 : Int)) by
      rw [HV.out, d1n, Bool.true_and, Bool.true_and, decide_eq_decide]; omega)
    clear hf3
    go_wp2_with fail
    go_ret
    exact ⟨ret_bool' _ _ HZ.out.symm, HF3.out⟩
  · have d1 : decide ((c : Int) ≤ (3000 : Int)) = false := dF (by omega)
    have d1n : decide (c ≤ 3000) = false := dF c1
    have HZ := hid (show V = false by rw [HV.out, d1n]; rfl)
    go_wp2_with fail
    go_ret
    exact ⟨ret_bool' _ _ HZ.out.symm, HF2.out⟩

end Go.Proofs.YtnkmccgpmmnfeaaDoor
