/- XmlValid: Valid reports whether any element is valid, and Count and Equal agree with the definitions. The row, its tied card. -/
import Derived.Test.YtnkmccgpmmnfeaaDoorXa15
import Derived.Test.YtnkmccgpmmnfeaaDoorXbXsC
import Derived.Test.YtnkmccgpmmnfeaaDoorXbXmE
import Derived.Test.YtnkmccgpmmnfeaaDoorXbMoV
import Derived.Test.YtnkmccgpmmnfeaaDoorXa2
import Derived.Test.YtnkmccgpmmnfeaaDoorTie
import Derived.Test.YtnkmccgpmmnfeaaDoorCards
import Derived.ProofKit
import Derived.OpenShut
import Derived.LaidMore
import Derived.Lay
import Derived.SevenTiedAt
import Derived.Stop.Joined
namespace Go.Proofs.YtnkmccgpmmnfeaaDoor
open Go.ChangeShapes Go.WideShapes Go.ChangeAt Go.RowKit
open El (E Attrs)

set_option maxRecDepth 100000 in
set_option maxHeartbeats 4000000 in
theorem xmlValid_any (a : E) (va vk : Value) (b : E) (ua uk : Value) (w : World) (hra : RepV w a va vk) (hrb : RepV w b ua uk) : Calls Tryd.prog 5 #[ev a va vk, ev b ua uk] w fun e w' => e = .returned (.bool true) ∧ Fresh w w' := by
  have HRA := hid hra
  have HRB := hid hrb
  obtain ⟨A0, c0, hva⟩ := hra.1.slice
  obtain ⟨B0, d0, hvk⟩ := hra.2.1.slice
  obtain ⟨A1, c1, hua⟩ := hrb.1.slice
  obtain ⟨B1, d1, huk⟩ := hrb.2.1.slice
  clear hra hrb
  have HW := hid (fun (W : World) (h : Fresh w W) => rfew23_any a 100 va vk W (by decide) (by decide) (HRA.out.fresh h))
  have HW2 := hid (fun (W : World) (h : Fresh w W) => rfew23_any b 100 ua uk W (by decide) (by decide) (HRB.out.fresh h))
  have HC1 := hid (fun (W : World) (h : Fresh w W) => xValid_any a va vk W (HRA.out.fresh h))
  have HC2 := hid (fun (hc : El.count a ≤ 1000000) (W : World) (h : Fresh w W) => rValid23_any a va vk W (HRA.out.fresh h) hc)
  have HC3 := hid (fun (hc : El.count a ≤ 1000000) (W : World) (h : Fresh w W) => xcount_any a va vk W hc (HRA.out.fresh h))
  have HC4 := hid (fun (hc : El.count a ≤ 1000000) (W : World) (h : Fresh w W) => rcount_any a va vk W (HRA.out.fresh h) hc)
  have HC5 := hid (fun (hc : El.count a ≤ 1000000) (W : World) (h : Fresh w W) => xequal_any a b va vk ua uk W hc (HRA.out.fresh h) (HRB.out.fresh h))
  have HC6 := hid (fun (W : World) (h : Fresh w W) => elEqual_any (El.count a) a b va vk ua uk W (Nat.le_refl _) (HRA.out.fresh h) (HRB.out.fresh h))
  have HC7 := hid (fun (hc : El.count a ≤ 1000000) (W : World) (h : Fresh w W) => xequal_any a a va vk va vk W hc (HRA.out.fresh h) (HRA.out.fresh h))
  subst hva hvk hua huk
  unfold ev at *
  have HB1 := hid ((Blk.new w 26 #[.string ⟨a.name.toArray⟩, .slice A0 a.attrs.length c0, .slice B0 a.kids.length d0, .string ⟨a.text.toArray⟩]).alloc (.cells #[.string ⟨b.name.toArray⟩, .slice A1 b.attrs.length c1, .slice B1 b.kids.length d1, .string ⟨b.text.toArray⟩] 26))
  have HB2 := hid (Blk.new2 w (.cells #[.string ⟨a.name.toArray⟩, .slice A0 a.attrs.length c0, .slice B0 a.kids.length d0, .string ⟨a.text.toArray⟩] 26) 26 #[.string ⟨b.name.toArray⟩, .slice A1 b.attrs.length c1, .slice B1 b.kids.length d1, .string ⟨b.text.toArray⟩])
  have HF0 := hid (show Fresh w ((w.alloc (.cells #[.string ⟨a.name.toArray⟩, .slice A0 a.attrs.length c0, .slice B0 a.kids.length d0, .string ⟨a.text.toArray⟩] 26)).alloc (.cells #[.string ⟨b.name.toArray⟩, .slice A1 b.attrs.length c1, .slice B1 b.kids.length d1, .string ⟨b.text.toArray⟩] 26)) from ((Touch.refl _ w).alloc _).alloc _)
  go_enter Tryd.func5, Tryd.ntmps5
  go_wp2_with fail
  generalize ((w.alloc (.cells #[.string ⟨a.name.toArray⟩, .slice A0 a.attrs.length c0, .slice B0 a.kids.length d0, .string ⟨a.text.toArray⟩] 26)).alloc (.cells #[.string ⟨b.name.toArray⟩, .slice A1 b.attrs.length c1, .slice B1 b.kids.length d1, .string ⟨b.text.toArray⟩] 26)) = w0 at HB1 HB2 HF0 ⊢
  refine (awake23_any _).mono ?_
  rintro _ w1 ⟨rfl, hf1⟩
  have HF1 := hid (HF0.out.trans hf1)
  have HX1 := hid (hf1.blk HB1.out fun h => h)
  have HY1 := hid (hf1.blk HB2.out fun h => h)
  clear hf1 HB1 HB2 HF0
  obtain ⟨p0, p1, p2, p3, _⟩ := Blk.four HX1.out
  go_wp2_with fail
  refine (HW.out _ HF1.out).mono ?_
  rintro _ w2 ⟨fa, rfl, hf2, hfa⟩
  have HF2 := hid (HF1.out.trans hf2)
  have HX2 := hid (hf2.blk HX1.out fun h => h)
  have HY2 := hid (hf2.blk HY1.out fun h => h)
  clear hf2 HX1 HY1 p0 p1 p2 p3
  cases fa with
  | false =>
    go_wp2_with fail
    go_ret
    exact ⟨rfl, HF2.out⟩
  | true =>
  have HCA := hid (show El.count a ≤ 1000000 by have := hfa rfl; omega)
  clear hfa
  obtain ⟨p0, p1, p2, p3, _⟩ := Blk.four HY2.out
  go_wp2_with fail
  refine (HW2.out _ HF2.out).mono ?_
  rintro _ w3 ⟨fb, rfl, hf3, hfb⟩
  have HF3 := hid (HF2.out.trans hf3)
  have HX3 := hid (hf3.blk HX2.out fun h => h)
  have HY3 := hid (hf3.blk HY2.out fun h => h)
  clear hf3 hfb HX2 HY2 p0 p1 p2 p3
  cases fb with
  | false =>
    go_wp2_with fail
    go_ret
    exact ⟨rfl, HF3.out⟩
  | true =>
  obtain ⟨p0, p1, p2, p3, _⟩ := Blk.four HX3.out
  obtain ⟨q0, q1, q2, q3, _⟩ := Blk.four HY3.out
  have C1 := hid (calmF (P := Tryd.prog) w3 (fun w hw => HC1.out w (HF3.out.trans hw)))
  have C2 := hid (calmF (P := Tryd.prog) w3 (fun w hw => HC2.out HCA.out w (HF3.out.trans hw)))
  have C3 := hid (calmF (P := Tryd.prog) w3 (fun w hw => HC3.out HCA.out w (HF3.out.trans hw)))
  have C4 := hid (calmF (P := Tryd.prog) w3 (fun w hw => HC4.out HCA.out w (HF3.out.trans hw)))
  have C5 := hid (calmF (P := Tryd.prog) w3 (fun w hw => HC5.out HCA.out w (HF3.out.trans hw)))
  have C6 := hid (calmF (P := Tryd.prog) w3 (fun w hw => HC6.out w (HF3.out.trans hw)))
  have C7 := hid (calmF (P := Tryd.prog) w3 (fun w hw => HC7.out HCA.out w (HF3.out.trans hw)))
  rw [El.eqE_self] at C7
  generalize El.valid a = V at *
  generalize El.count a = N at *
  generalize El.eqE a b = Q at *
  have b1 : (V == V) = true := by simp
  have b2 : ((N : Int) == (N : Int)) = true := by simp
  have b3 : (Q == Q) = true := by simp
  go_wp2_with fail
  have r0 := cell_regrown p0
  have r1 := cell_regrown p1
  have r2 := cell_regrown p2
  have r3 := cell_regrown p3
  have t0 := cell_regrown q0
  have t1 := cell_regrown q1
  have t2 := cell_regrown q2
  have t3 := cell_regrown q3
  refine wp_region_quiet_below (by kernel_rfl) (by kernel_rfl) ?_
  repeat (with_reducible refine wpQuiet_step (fun K hK => ?_); go_simp; first | (refine hK _ ?_; clear hK K) | (apply Exists.intro; refine ⟨fun _ => ?_, hK _ ?_⟩; (first | with_reducible exact C1.out _ _ | with_reducible exact C2.out _ _ | with_reducible exact C3.out _ _ | with_reducible exact C4.out _ _ | with_reducible exact C5.out _ _ | with_reducible exact C6.out _ _ | with_reducible exact C7.out _ _); clear hK K))
  refine wpQuiet_nil ?_
  rintro w8 ⟨⟨_, _⟩, hW8⟩
  have hf8 : Fresh w3 w8 := by rw [hW8]; exact fresh_of_below (below_regrown _ _ _)
  clear hW8 r0 r1 r2 r3 t0 t1 t2 t3 p0 p1 p2 p3 q0 q1 q2 q3
  go_wp2_with fail
  go_ret
  exact ⟨rfl, HF3.out.trans hf8⟩

set_option maxRecDepth 100000 in
theorem xmlValid_lifted (os : Os) (started : os.Started) (H : Type) (enc : TypeId × Value → H) :
    ReturnsInHanded {} Tryd.checked os 5 .any (fun w args => (Rows.xmlValidSpec.pre enc Tryd.prog Tryd.f5 Rows.xmlValidRow.domain false w args ∧ laidMetH Tryd.prog Rows.xmlValidRow.laid w) ∧ sizedMet enc Tryd.prog Tryd.f5 (OpenSpec.ofChange Rows.xmlValidSpec) false w args)
      (Rows.xmlValidSpec.post enc Tryd.prog Tryd.f5 false true false false) := by
  refine returnsInHanded_of_change_and (C := Tryd.checked) (X := fun w _ => laidMetH Tryd.prog Rows.xmlValidRow.laid w) (fun _ _ _ hh h => h.of_heap hh) Tryd.ownKnob started (by kernel_rfl) Tryd.func5
    (ChangeSpec.witness_shaped (enc := enc) (C := Tryd.checked) (os := os) (X := fun w _ => laidMetH Tryd.prog Rows.xmlValidRow.laid w) false (World.laidAll Tryd.prog os Rows.xmlValidRow.laid) #[.agg #[.string ⟨#[]⟩, .slice none 0 0, .slice none 0 0, .string ⟨#[]⟩], .agg #[.string ⟨#[]⟩, .slice none 0 0, .slice none 0 0, .string ⟨#[]⟩]] 8 (World.laidAll_os _ _ _)
      (World.shaped_of_ZipB (by kernel_rfl) (by kernel_rfl)) (by kernel_rfl) (by kernel_rfl) (by kernel_rfl)
      (by rw [MakeChecks.laidMetH_plain _ _ _ (by kernel_rfl)]; exact laidMet_laidAll _ (by kernel_rfl) (by kernel_rfl))) ?_
  intro W base args ds gs before hval0 hW _ _ _ _
  have hval : ∀ (j : Nat) t v, Tryd.f5.params[j]? = some t → args[j]? = some v → Value.okWide Tryd.prog W .any base t v := hval0
  have hW' := hW
  obtain ⟨p, q, hA0, hV, rfl, hfz, hnd⟩ := hW
  have hA : DataW.TrodAll enc Tryd.prog W 0 (fun _ => true) true Tryd.f5.params.toList args.toList ds p := hA0
  rw [Tryd.params5] at hA hval
  obtain ⟨v0, v1, d0, d1, p0, p1, rfl, rfl, rfl, h0, h1⟩ := trodAll_two hA
  obtain ⟨rfl, rfl⟩ := trodVars_none hV
  obtain ⟨n0, a0, k0, rfl, r0⟩ := open_elem (hval 0 26 v0 rfl rfl) h0
  obtain ⟨n1, a1, k1, rfl, r1⟩ := open_elem (hval 1 26 v1 rfl rfl) h1
  refine (xmlValid_any n0 a0 k0 n1 a1 k1 W r0 r1).mono fun e W' ⟨he, hw⟩ => ?_
  exact ⟨_, he, post_true Tryd.laidOut Tryd.underlying4 (by kernel_rfl) (by kernel_rfl) rfl rfl hW' hw⟩

theorem XmlValid_holds : Rows.XmlValidSaid :=
  OpenClaim.holds_of_wide 5 Tryd.f5 rfl rfl rfl rfl rfl rfl rfl ⟨rfl, rfl, rfl, rfl, rfl⟩ rfl rfl rfl rfl rfl (by kernel_rfl) Tryd.func5 (by kernel_rfl)
    (of_decide_eq_true (by kernel_rfl)) (by unfold Func.isWrapper; first | (rw [if_pos (by decide +kernel)]; kernel_rfl) | (rw [if_neg (by decide +kernel)]; exact ⟨rfl, rfl⟩))
    (fun os started H enc _ => xmlValid_lifted os started H enc)

theorem XmlValid_card : Rows.XmlValidCardSaid :=
  Claim7.holds_tied_plain_at .later [] [.data, .pinned] true _ true XmlValid_holds (fun _ h => by cases h) (by kernel_rfl) (fun _ h => by cases h) xmlValid_row_tie rfl ⟨rfl, rfl⟩ (by kernel_rfl) (by kernel_rfl)
    (fun f fn hf hfn => by
      obtain rfl : f = 5 := Option.some.inj ((show Tryd.prog.funcNamed Rows.xmlValidRow.func = some 5 by kernel_rfl).symm.trans hf) |>.symm
      obtain rfl : fn = Tryd.f5 := (Option.some.inj (Tryd.func5.symm.trans hfn)).symm
      exact ⟨by kernel_rfl, fun j t ht => by
        have hm := Array.mem_of_getElem? ht
        have hall : (Tryd.f5.params.toList.all fun u => !Tryd.prog.wantsStandIn u) = true := by kernel_rfl
        exact (show Tryd.prog.wantsStandIn t = false by simpa using List.all_eq_true.1 hall t (by simpa using hm))⟩)
    (by kernel_rfl)
end Go.Proofs.YtnkmccgpmmnfeaaDoor
