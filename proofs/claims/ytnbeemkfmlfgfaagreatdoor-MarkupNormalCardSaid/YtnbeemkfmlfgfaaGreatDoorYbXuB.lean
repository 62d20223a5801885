/- MarkupNormal: what markup.Import reads is a valid tree that Export and Import give back, or the empty tree and an error. The row, its tied card. -/
import Derived.Test.YtnbeemkfmlfgfaaGreatDoorYa35
import Derived.Test.YtnbeemkfmlfgfaaGreatDoorYa34
import Derived.Test.YtnbeemkfmlfgfaaGreatDoorYa5
import Derived.Test.YtnbeemkfmlfgfaaGreatDoorYa11
import Derived.Test.YtnbeemkfmlfgfaaGreatDoorYa2
import Derived.Test.YtnbeemkfmlfgfaaGreatDoorTie
import Derived.Test.YtnbeemkfmlfgfaaGreatDoorCards
import Derived.ProofKit
import Derived.OpenShut
import Derived.ChangeSlices
import Derived.LaidMore
import Derived.Lay
import Derived.SevenTiedAt
import Derived.Stop.Joined
namespace Go.Proofs.YtnbeemkfmlfgfaaGreatDoor
open Go.ChangeShapes Go.WideShapes Go.ChangeAt Go.RowKit
open Go.ChangeMaps (open_string shut_string)
open Tr (Nd)
open El (E Attrs writeE nodeF nilNd elM)


set_option maxRecDepth 100000 in
set_option maxHeartbeats 4000000 in
theorem markupNormal_any (S : ByteArray) (w : World) : Calls Tryz.prog 6 #[.string S] w fun e w' => e = .returned (.bool true) ∧ Fresh w w' := by
  have HIO := hid (fun h => import_ok S.data.toList h)
  have HIN := hid (fun h => import_nil S.data.toList h)
  have HII := hid (fun (hS : S.size ≤ 1099511627776) (W : World) => import_any S W hS)
  generalize importF S.data.toList = R at *
  obtain ⟨n, at1, er⟩ := R
  replace HIO : Hid (er = 0 → Tr.valid n = true ∧ at1 = 0) := HIO
  replace HIN : Hid (er ≠ 0 → n = nilNd) := HIN
  go_enter Tryz.func6, Tryz.ntmps6
  go_wp2_with fail
  refine (awake24_any _).mono ?_
  rintro _ w1 ⟨rfl, hf1⟩
  have HF1 := hid hf1
  clear hf1
  by_cases c1 : 2000 < S.size
  · have b1 : decide ((2000 : Int) < (S.size : Int)) = true := dT (by omega)
    have b1n : decide (2000 < S.size) = true := dT c1
    go_wp2_with fail
    go_ret
    exact ⟨rfl, HF1.out⟩
  have b1 : decide ((2000 : Int) < (S.size : Int)) = false := dF (by omega)
  have b1n : decide (2000 < S.size) = false := dF c1
  have HSZ := hid (show S.size ≤ 1099511627776 by omega)
  clear c1
  go_wp2_with fail
  refine (HII.out HSZ.out _).mono ?_
  rintro _ w2 ⟨v2, rfl, s2, rfl, hf2, htl, hst2⟩
  obtain ⟨A, cap, rfl⟩ := hst2.now.slice
  have HF2 := hid (HF1.out.trans hf2)
  have HR2 := hid (show RepL w2 n.kids (.slice A n.kids.length cap) from hst2.now)
  have HTL := hid (show n.text.length ≤ maxLen from htl)
  clear hf2 hst2 HF1 htl HII HSZ b1 b1n
  have HFa := hid ((Touch.refl (fun _ => False) w2).alloc (.cells #[.int .i64 n.kind, .string ⟨n.text.toArray⟩, .int .i64 n.cols, .slice A n.kids.length cap] 31))
  have HB3 := hid (Blk.new w2 31 #[.int .i64 n.kind, .string ⟨n.text.toArray⟩, .int .i64 n.cols, .slice A n.kids.length cap])
  have HF3 := hid (HF2.out.trans HFa.out)
  have HR3 := hid (HR2.out.fresh HFa.out)
  clear HFa HF2 HR2
  obtain ⟨q0, q1, q2, q3, _⟩ := Blk.four HB3.out
  unfold nv
  by_cases h0 : er = 0
  · have HV := hid (HIO.out h0).1
    have HA := hid (HIO.out h0).2
    subst h0
    have ha := HA.out
    subst ha
    clear HIO HIN HA
    go_wp2_with fail
    generalize (w2.alloc (.cells #[.int .i64 n.kind, .string ⟨n.text.toArray⟩, .int .i64 n.cols, .slice A n.kids.length cap] 31)) = w3 at HB3 HF3 HR3 q0 q1 q2 q3 ⊢
    refine (show Calls Tryz.prog 13 #[nv n (.slice A n.kids.length cap)] w3 fun x w' => x = .returned (.tuple #[.string ⟨(writeE (elM n)).toArray⟩, .int .i64 0]) ∧ Fresh w3 w' by
      have h2 := mkExport_any n (.slice A n.kids.length cap) w3 HR3.out HTL.out (text_none n HV.out).2 (fun hv => El.tree_short n hv)
      rw [(export_ok n HV.out).1, (export_ok n HV.out).2] at h2
      exact h2).mono ?_
    rintro _ w4 ⟨rfl, hf4⟩
    have HF4 := hid (HF3.out.trans hf4)
    have HB4 := hid (hf4.blk HB3.out fun h => h)
    have HR4 := hid (HR3.out.fresh hf4)
    clear hf4 HF3 HB3 HR3 q0 q1 q2 q3
    have HIM := hid (fun (W : World) => show Calls Tryz.prog 14 #[.string ⟨(writeE (elM n)).toArray⟩] W fun x w' => ∃ v, x = .returned (.tuple #[v, .int .i64 0, .int .i64 0]) ∧ MakesN W w' n v by
      have h2 := import_any ⟨(writeE (elM n)).toArray⟩ W (show (writeE (elM n)).length ≤ _ from Nat.le_trans (El.tree_short n HV.out) (by decide))
      rw [show (⟨(writeE (elM n)).toArray⟩ : ByteArray).data.toList = writeE (elM n) from rfl, import_back n HV.out] at h2
      exact h2)
    generalize writeE (elM n) = T at *
    go_wp2_with fail
    refine (HIM.out _).mono ?_
    rintro _ w5 ⟨v5, rfl, s5, rfl, hf5, _, hst5⟩
    obtain ⟨A5, c5, rfl⟩ := hst5.now.slice
    have HFb := hid ((Touch.refl (fun _ => False) w5).alloc (.cells #[.int .i64 n.kind, .string ⟨n.text.toArray⟩, .int .i64 n.cols, .slice A5 n.kids.length c5] 31))
    have HBb := hid (Blk.new w5 31 #[.int .i64 n.kind, .string ⟨n.text.toArray⟩, .int .i64 n.cols, .slice A5 n.kids.length c5])
    have HFc := hid (hf5.trans HFb.out)
    have HF6 := hid (HF4.out.trans HFc.out)
    have HB6 := hid (HFc.out.blk HB4.out fun h => h)
    have HR6 := hid (HR4.out.fresh HFc.out)
    have HS6 := hid (hst5.now.fresh HFb.out)
    clear hf5 hst5 HF4 HB4 HR4 HFc HFb HIM
    obtain ⟨q0, q1, q2, q3, _⟩ := Blk.four HB6.out
    unfold nv
    go_wp2_with fail
    generalize (w5.alloc (.cells #[.int .i64 n.kind, .string ⟨n.text.toArray⟩, .int .i64 n.cols, .slice A5 n.kids.length c5] 31)) = w6 at HBb HF6 HB6 HR6 HS6 q0 q1 q2 q3 ⊢
    refine (show Calls Tryz.prog 18 #[nv n (.slice A n.kids.length cap)] w6 fun e w' => e = .returned (.bool true) ∧ Fresh w6 w' by
      have h2 := rValid_any n (.slice A n.kids.length cap) w6 HR6.out HTL.out (by have := (text_none n HV.out).2; omega)
      rw [HV.out] at h2
      exact h2).mono ?_
    rintro _ w7 ⟨rfl, hf7⟩
    have HF7 := hid (HF6.out.trans hf7)
    have HB7 := hid (hf7.blk HB6.out fun h => h)
    have HX7 := hid (hf7.blk HBb.out fun h => h)
    have HR7 := hid (HR6.out.fresh hf7)
    have HS7 := hid (HS6.out.fresh hf7)
    clear hf7 HF6 HB6 HBb HR6 HS6 q0 q1 q2 q3
    obtain ⟨q0, q1, q2, q3, _⟩ := Blk.four HB7.out
    obtain ⟨x0, x1, x2, x3, _⟩ := Blk.four HX7.out
    go_wp2_with fail
    refine (show Calls Tryz.prog 15 #[nv n (.slice A n.kids.length cap), nv n (.slice A5 n.kids.length c5)] w7 fun e w' => e = .returned (.bool true) ∧ Fresh w7 w' by
      have h3 := equal_any _ n n (.slice A n.kids.length cap) (.slice A5 n.kids.length c5) w7 (Nat.le_refl _) HR7.out HS7.out
      rw [(Tr.eqN_iff n n).2 rfl] at h3
      exact h3).mono ?_
    rintro _ w8 ⟨rfl, hf8⟩
    have HF8 := hid (HF7.out.trans hf8)
    clear hf8
    go_wp2_with fail
    go_ret
    exact ⟨rfl, HF8.out⟩
  · have HN := hid (HIN.out h0)
    have b2 : (er == 0) = false := by simpa using h0
    have b3 : (er != 0) = true := by simpa using h0
    clear HIO HIN
    have hn := HN.out
    subst hn
    clear HN
    unfold nilNd at *
    simp only [Nd.kind, Nd.text, Nd.cols, Nd.kids] at *
    go_wp2_with fail
    generalize (w2.alloc (.cells #[.int .i64 0, .string ⟨#[]⟩, .int .i64 0, .slice A 0 cap] 31)) = w3 at HB3 HF3 HR3 q0 q1 q2 q3 ⊢
    refine (show Calls Tryz.prog 15 #[nv nilNd (.slice A 0 cap), nv nilNd (.slice none 0 0)] w3 fun e w' => e = .returned (.bool true) ∧ Fresh w3 w' by
      have h3 := equal_any _ nilNd nilNd (.slice A 0 cap) (.slice none 0 0) w3 (Nat.le_refl _) HR3.out (RepL.nil _ _)
      rw [(Tr.eqN_iff nilNd nilNd).2 rfl] at h3
      exact h3).mono ?_
    rintro _ w4 ⟨rfl, hf4⟩
    have HF4 := hid (HF3.out.trans hf4)
    clear hf4
    go_wp2_with fail
    go_ret
    exact ⟨rfl, HF4.out⟩

set_option maxRecDepth 100000 in
theorem markupNormal_lifted (os : Os) (started : os.Started) (H : Type) (enc : TypeId × Value → H) :
    ReturnsInHanded {} Tryz.checked os 6 .any (fun w args => (Rows.markupNormalSpec.pre enc Tryz.prog Tryz.f6 Rows.markupNormalRow.domain false w args ∧ laidMetH Tryz.prog Rows.markupNormalRow.laid w) ∧ sizedMet enc Tryz.prog Tryz.f6 (OpenSpec.ofChange Rows.markupNormalSpec) false w args)
      (Rows.markupNormalSpec.post enc Tryz.prog Tryz.f6 false true false false) := by
  refine returnsInHanded_of_change_and (C := Tryz.checked) (X := fun w _ => laidMetH Tryz.prog Rows.markupNormalRow.laid w) (fun _ _ _ hh h => h.of_heap hh) Tryz.ownKnob started (by kernel_rfl) Tryz.func6
    (ChangeSpec.witness_shaped (enc := enc) (C := Tryz.checked) (os := os) (X := fun w _ => laidMetH Tryz.prog Rows.markupNormalRow.laid w) false (World.laidAll Tryz.prog os Rows.markupNormalRow.laid) #[.string ⟨#[]⟩] 8 (World.laidAll_os _ _ _)
      (World.shaped_of_ZipB (by kernel_rfl) (by kernel_rfl)) (by kernel_rfl) (by kernel_rfl) (by kernel_rfl)
      (by rw [MakeChecks.laidMetH_plain _ _ _ (by kernel_rfl)]; exact laidMet_laidAll _ (by kernel_rfl) (by kernel_rfl))) ?_
  intro W base args ds gs before hval0 hW _ _ _ _
  have hval : ∀ (j : Nat) t v, Tryz.f6.params[j]? = some t → args[j]? = some v → Value.okWide Tryz.prog W .any base t v := hval0
  have hW' := hW
  obtain ⟨p, q, hA0, hV, rfl, hfz, hnd⟩ := hW
  have hA : DataW.TrodAll enc Tryz.prog W 0 (fun _ => true) true Tryz.f6.params.toList args.toList ds p := hA0
  rw [Tryz.params6] at hA hval
  obtain ⟨v0, d0, rfl, rfl, h0⟩ := trodAll_one hA
  obtain ⟨rfl, rfl⟩ := trodVars_none hV
  obtain ⟨s0, rfl, _, _, _⟩ := open_string Tryz.underlying9 (hval 0 9 v0 rfl rfl) h0
  refine (markupNormal_any s0 W).mono fun e W' ⟨he, hw⟩ => ?_
  exact ⟨_, he, post_true Tryz.laidOut Tryz.underlying4 (by kernel_rfl) (by kernel_rfl) rfl rfl hW' hw⟩

theorem MarkupNormal_holds : Rows.MarkupNormalSaid :=
  OpenClaim.holds_of_wide 6 Tryz.f6 rfl rfl rfl rfl rfl rfl rfl ⟨rfl, rfl, rfl, rfl, rfl⟩ rfl rfl rfl rfl rfl (by kernel_rfl) Tryz.func6 (by kernel_rfl)
    (of_decide_eq_true (by kernel_rfl)) (by unfold Func.isWrapper; first | (rw [if_pos (by decide +kernel)]; kernel_rfl) | (rw [if_neg (by decide +kernel)]; exact ⟨rfl, rfl⟩))
    (fun os started H enc _ => markupNormal_lifted os started H enc)

theorem MarkupNormal_card : Rows.MarkupNormalCardSaid :=
  Claim7.holds_tied_plain_at .later [] [.data, .pinned] true _ true MarkupNormal_holds (fun _ h => by cases h) (by kernel_rfl) (fun _ h => by cases h) markupNormal_row_tie rfl ⟨rfl, rfl⟩ (by kernel_rfl) (by kernel_rfl)
    (fun f fn hf hfn => by
      obtain rfl : f = 6 := Option.some.inj ((show Tryz.prog.funcNamed Rows.markupNormalRow.func = some 6 by kernel_rfl).symm.trans hf) |>.symm
      obtain rfl : fn = Tryz.f6 := (Option.some.inj (Tryz.func6.symm.trans hfn)).symm
      exact ⟨by kernel_rfl, fun j t ht => by
        have hm := Array.mem_of_getElem? ht
        have hall : (Tryz.f6.params.toList.all fun u => !Tryz.prog.wantsStandIn u) = true := by kernel_rfl
        exact (show Tryz.prog.wantsStandIn t = false by simpa using List.all_eq_true.1 hall t (by simpa using hm))⟩)
    (by kernel_rfl)
end Go.Proofs.YtnbeemkfmlfgfaaGreatDoor
