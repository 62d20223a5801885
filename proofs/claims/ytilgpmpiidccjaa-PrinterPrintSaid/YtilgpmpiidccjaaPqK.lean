/- The statement PrinterPrint: for all trees the law returns true, and the trees read as they did. No condition. -/
import Derived.Test.YtilgpmpiidccjaaPqJ
import Derived.Test.YtilgpmpiidccjaaPp10
namespace Go.Proofs.Ytilgpmpiidccjaa
open Go.ChangeShapes Go.WideShapes Go.ChangeAt Go.RowKit
open Tr (Nd)

set_option maxRecDepth 100000 in
set_option maxHeartbeats 4000000 in
theorem print_law_any (a : Nd) (sa : Value) (w : World) (ra : RepL w a.kids sa) (ta : a.text.length ≤ maxLen) (ha : (Tr.count a : Int) ≤ 300) :
    Calls Try.prog 4 #[nv a sa] w fun e w' => e = .returned (.bool true) ∧ Fresh w w' := by
  have da : decide ((Tr.count a : Int) ≤ 300) = true := by simpa using ha
  have Ra := hid ra
  have PA := hid (fun (w : World) (hr : RepL w a.kids sa) => print_any a sa w hr ta (by omega))
  have PB := hid (fun (w : World) (hr : RepL w a.kids sa) => rprint_any a sa w hr ta (by omega))
  have PC := hid (fun (w : World) (hr : RepL w a.kids sa) => ptokens_any a sa w hr ta (by omega))
  have PD := hid (fun (w : World) (hr : RepL w a.kids sa) => rtokens_any a sa w hr ta (by omega))
  have HLA := hid (printT_len a (by omega))
  clear ra
  unfold TokensOf at PC
  unfold RTokensOf at PD
  obtain ⟨S, hS⟩ : ∃ S : ByteArray, (⟨(printS a).toArray⟩ : ByteArray) = S := ⟨_, rfl⟩
  obtain ⟨E, hE⟩ : ∃ E : Int, printE a = E := ⟨_, rfl⟩
  rw [hS, hE] at PA PB
  rw [hE] at PC PD
  clear hS hE
  go_enter Try.func4, Try.ntmps4
  go_wp2_with fail
  refine (awake21_any _).mono ?_
  rintro _ w1 ⟨rfl, hf1⟩
  have A1 := hf1.blk (Blk.new _ _ _) (fun h => h)
  have HF1 := hid (Touch.pre hf1)
  obtain ⟨q0, q1, q2, q3, _, _, _, _, hga⟩ := Blk.four A1
  have HA1 := hid A1
  clear hf1 A1
  go_wp2_with fail
  refine (few21_any a sa _ (Ra.out.fresh HF1.out)).mono ?_
  rintro _ w2 ⟨rfl, hf2⟩
  have A2 := hf2.blk HA1.out (fun h => h)
  have HF2 := hid (HF1.out.trans hf2)
  clear q0 q1 q2 q3 hga
  obtain ⟨q0, q1, q2, q3, _, _, _, _, hga⟩ := Blk.four A2
  have HA2 := hid A2
  clear hf2 A2
  go_wp2_with fail
  refine (PA.out _ (Ra.out.fresh HF2.out)).mono ?_
  rintro _ w3 ⟨rfl, hf3⟩
  have A3 := hf3.blk HA2.out (fun h => h)
  have HF3 := hid (HF2.out.trans hf3)
  clear q0 q1 q2 q3 hga
  obtain ⟨q0, q1, q2, q3, _, _, _, _, hga⟩ := Blk.four A3
  have HA3 := hid A3
  clear hf3 A3
  go_wp2_with fail
  refine (PB.out _ (Ra.out.fresh HF3.out)).mono ?_
  rintro _ w4 ⟨rfl, hf4⟩
  have A4 := hf4.blk HA3.out (fun h => h)
  have HF4 := hid (HF3.out.trans hf4)
  clear q0 q1 q2 q3 hga
  obtain ⟨q0, q1, q2, q3, _, _, _, _, hga⟩ := Blk.four A4
  have HA4 := hid A4
  clear hf4 A4
  go_wp2_with fail
  refine (PC.out _ (Ra.out.fresh HF4.out)).mono ?_
  rintro _ w5 ⟨vc, rfl, oc, hf5⟩
  have A5 := hf5.blk HA4.out (fun h => h)
  have HF5 := hid (HF4.out.trans hf5)
  have TC := hid (owns_row oc)
  clear q0 q1 q2 q3 hga oc
  obtain ⟨q0, q1, q2, q3, _, _, _, _, hga⟩ := Blk.four A5
  have HA5 := hid A5
  clear hf5 A5
  go_wp2_with fail
  refine (PD.out _ (Ra.out.fresh HF5.out)).mono ?_
  rintro _ w6 ⟨vd, rfl, od, hf6⟩
  have HF6 := hid (HF5.out.trans hf6)
  have TC6 := hid (TC.out.fresh hf6)
  have TD := hid od
  clear q0 q1 q2 q3 hga hf6 od TC
  go_wp2_with fail
  refine Calls.mono (from18_any vc _ _ TC6.out (Nat.le_trans HLA.out (by decide))) ?_
  rintro _ w7 ⟨fc, rfl, hf, ho⟩
  have HF7 := hid (HF6.out.trans hf)
  have TD7 := hid (TD.out.fresh hf)
  have OC := hid ho
  clear hf ho
  go_wp2_with fail
  refine Calls.mono (rSame_any fc vd _ _ true _ (owns_row OC.out) TD7.out (Nat.le_trans HLA.out (by decide))) ?_
  rintro _ w8 ⟨rfl, hf⟩
  have HF8 := hid (HF7.out.trans hf)
  clear hf
  rw [same_refl]
  go_wp2_with fail
  go_ret
  exact ⟨rfl, HF8.out⟩

set_option maxRecDepth 100000 in
set_option maxHeartbeats 1000000 in
theorem print_big (a : Nd) (sa : Value) (w : World) (ra : RepL w a.kids sa) (h1 : decide ((Tr.count a : Int) ≤ 300) = false) :
    Calls Try.prog 4 #[nv a sa] w fun e w' => e = .returned (.bool true) ∧ Fresh w w' := by
  have Ra := hid ra
  clear ra
  go_enter Try.func4, Try.ntmps4
  go_wp2_with fail
  refine Calls.mono (awake21_any _) ?_
  rintro _ w1 ⟨rfl, hfw1⟩
  have HF1 := hid (show Fresh w w1 from by first | exact hfw1 | exact Touch.pre hfw1 | exact Touch.pre (Touch.pre hfw1) | exact Touch.ofN hfw1 | exact Touch.preN hfw1 | exact Touch.pre (Touch.pre (Touch.pre hfw1)))
  have B0_w1 : Blk w1 (w.heap.size) 24 #[.int .i64 a.kind, .string (⟨a.text.toArray⟩ : ByteArray), .int .i64 a.cols, sa] := Touch.blk hfw1 (by first | exact Blk.new _ _ _ | exact (Blk.new _ _ _).alloc _ | exact Blk.new2 _ _ _ _ | exact ((Blk.new _ _ _).alloc _).alloc _ | exact (Blk.new2 _ _ _ _).alloc _ | exact Blk.new3 _ _ _ _ _ | assumption | exact Blk.alloc (by assumption) _ | exact (Blk.alloc (Blk.alloc (by assumption) _) _)) (fun h => h)
  have q0_0_w1 : World.cell? w1 ⟨w.heap.size, 0, none⟩ = some (.int .i64 a.kind) := Blk.cell B0_w1 0
  have q0_1_w1 : World.cell? w1 ⟨w.heap.size, 1, none⟩ = some (.string (⟨a.text.toArray⟩ : ByteArray)) := Blk.cell B0_w1 1
  have q0_2_w1 : World.cell? w1 ⟨w.heap.size, 2, none⟩ = some (.int .i64 a.cols) := Blk.cell B0_w1 2
  have q0_3_w1 : World.cell? w1 ⟨w.heap.size, 3, none⟩ = some (sa) := Blk.cell B0_w1 3
  clear hfw1
  go_wp2_with fail
  refine Calls.mono (few21_any a sa _ (Ra.out.fresh (by first | exact HF1.out | exact HF1.out.alloc _ | exact (HF1.out.alloc _).alloc _ | exact ((HF1.out.alloc _).alloc _).alloc _ | exact HF1.out.drewN _ | exact (HF1.out.alloc _).drewN _ | exact ((HF1.out.alloc _).alloc _).drewN _))) ?_
  rintro _ w2 ⟨rfl, hfw2⟩
  have HF2 := hid (show Fresh w1 w2 from by first | exact hfw2 | exact Touch.pre hfw2 | exact Touch.pre (Touch.pre hfw2) | exact Touch.ofN hfw2 | exact Touch.preN hfw2 | exact Touch.pre (Touch.pre (Touch.pre hfw2)))
  have B0_w2 : Blk w2 (w.heap.size) 24 #[.int .i64 a.kind, .string (⟨a.text.toArray⟩ : ByteArray), .int .i64 a.cols, sa] := Touch.blk hfw2 (by first | exact Blk.new _ _ _ | exact (Blk.new _ _ _).alloc _ | exact Blk.new2 _ _ _ _ | exact ((Blk.new _ _ _).alloc _).alloc _ | exact (Blk.new2 _ _ _ _).alloc _ | exact Blk.new3 _ _ _ _ _ | assumption | exact Blk.alloc (by assumption) _ | exact (Blk.alloc (Blk.alloc (by assumption) _) _)) (fun h => h)
  clear q0_0_w1 q0_1_w1 q0_2_w1 q0_3_w1 B0_w1
  have q0_0_w2 : World.cell? w2 ⟨w.heap.size, 0, none⟩ = some (.int .i64 a.kind) := Blk.cell B0_w2 0
  have q0_1_w2 : World.cell? w2 ⟨w.heap.size, 1, none⟩ = some (.string (⟨a.text.toArray⟩ : ByteArray)) := Blk.cell B0_w2 1
  have q0_2_w2 : World.cell? w2 ⟨w.heap.size, 2, none⟩ = some (.int .i64 a.cols) := Blk.cell B0_w2 2
  have q0_3_w2 : World.cell? w2 ⟨w.heap.size, 3, none⟩ = some (sa) := Blk.cell B0_w2 3
  clear hfw2
  go_wp2_with fail
  refine Calls.mono (awake21_any _) ?_
  rintro _ w3 ⟨rfl, hfw3⟩
  have HF3 := hid (show Fresh w2 w3 from by first | exact hfw3 | exact Touch.pre hfw3 | exact Touch.pre (Touch.pre hfw3) | exact Touch.ofN hfw3 | exact Touch.preN hfw3 | exact Touch.pre (Touch.pre (Touch.pre hfw3)))
  have B0_w3 : Blk w3 (w.heap.size) 24 #[.int .i64 a.kind, .string (⟨a.text.toArray⟩ : ByteArray), .int .i64 a.cols, sa] := Touch.blk hfw3 (by first | exact Blk.new _ _ _ | exact (Blk.new _ _ _).alloc _ | exact Blk.new2 _ _ _ _ | exact ((Blk.new _ _ _).alloc _).alloc _ | exact (Blk.new2 _ _ _ _).alloc _ | exact Blk.new3 _ _ _ _ _ | assumption | exact Blk.alloc (by assumption) _ | exact (Blk.alloc (Blk.alloc (by assumption) _) _)) (fun h => h)
  clear q0_0_w2 q0_1_w2 q0_2_w2 q0_3_w2 B0_w2
  have q0_0_w3 : World.cell? w3 ⟨w.heap.size, 0, none⟩ = some (.int .i64 a.kind) := Blk.cell B0_w3 0
  have q0_1_w3 : World.cell? w3 ⟨w.heap.size, 1, none⟩ = some (.string (⟨a.text.toArray⟩ : ByteArray)) := Blk.cell B0_w3 1
  have q0_2_w3 : World.cell? w3 ⟨w.heap.size, 2, none⟩ = some (.int .i64 a.cols) := Blk.cell B0_w3 2
  have q0_3_w3 : World.cell? w3 ⟨w.heap.size, 3, none⟩ = some (sa) := Blk.cell B0_w3 3
  clear hfw3
  go_wp2_with fail
  go_ret
  exact ⟨rfl, (by first | exact (HF1.out.trans (HF2.out.trans HF3.out)) | exact (HF1.out.trans (HF2.out.trans HF3.out)).alloc _ | exact ((HF1.out.trans (HF2.out.trans HF3.out)).alloc _).alloc _ | exact (((HF1.out.trans (HF2.out.trans HF3.out)).alloc _).alloc _).alloc _ | exact (HF1.out.trans (HF2.out.trans HF3.out)).drewN _ | exact ((HF1.out.trans (HF2.out.trans HF3.out)).alloc _).drewN _ | exact (((HF1.out.trans (HF2.out.trans HF3.out)).alloc _).alloc _).drewN _)⟩
theorem print_all (a : Nd) (sa : Value) (w : World) (ra : RepL w a.kids sa) (ta : a.text.length ≤ maxLen) :
    Calls Try.prog 4 #[nv a sa] w fun e w' => e = .returned (.bool true) ∧ Fresh w w' := by
  by_cases h1 : (Tr.count a : Int) ≤ 300
  · exact print_law_any a sa w ra ta h1
  · exact print_big a sa w ra (by simpa using h1)

set_option maxRecDepth 100000 in
theorem printerPrint_lifted (os : Os) (started : os.Started) (H : Type) (enc : TypeId × Value → H) :
    ReturnsInHanded {} Try.checked os 4 .any (Rows.printerPrintSpec.pre6 enc Try.prog Try.f4 Rows.printerPrintRow.domain false) (Rows.printerPrintSpec.post enc Try.prog Try.f4 false true false false) := by
  refine returnsInHanded_of_change (C := Try.checked) Try.ownKnob started (by kernel_rfl) Try.func4
    (ChangeSpec.witness6 (enc := enc) (C := Try.checked) false ⟨#[], #[.agg #[.int .i64 0, .string ⟨#[]⟩, .int .i64 0, .slice none 0 0]], []⟩ 8 (by kernel_rfl) (by kernel_rfl) (by kernel_rfl) (by kernel_rfl)) ?_
  intro W base args ds gs before hval0 hW hcnd _
  have hval : ∀ (j : Nat) t v, Try.f4.params[j]? = some t → args[j]? = some v → Value.okWide Try.prog W .any base t v := hval0
  have hW' := hW
  obtain ⟨p, q, hA0, hV, rfl, hfz, hnd⟩ := hW
  have hA : DataW.TrodAll enc Try.prog W 0 (fun _ => true) true Try.f4.params.toList args.toList ds p := hA0
  rw [Try.params4] at hA hval
  obtain ⟨v0, d0, rfl, rfl, h0⟩ := trodAll_one hA
  obtain ⟨rfl, rfl⟩ := trodVars_none hV
  obtain ⟨a, ⟨sa, rfl, ra⟩, ta⟩ := open_node (hval 0 24 v0 rfl rfl) h0
  refine (print_all a sa W ra ta).mono fun e W' ⟨he, hw⟩ => ?_
  exact ⟨_, he, post_true Try.laidOut Try.underlying4 (by kernel_rfl) (by kernel_rfl) rfl rfl hW' hw⟩

theorem PrinterPrint_holds : Rows.PrinterPrintSaid :=
  OpenClaim.holds_of_wide 4 Try.f4 rfl rfl rfl rfl rfl rfl rfl ⟨rfl, rfl, rfl, rfl, rfl⟩ rfl rfl rfl rfl rfl (by kernel_rfl) Try.func4 (by kernel_rfl)
    (of_decide_eq_true (by kernel_rfl)) (by unfold Func.isWrapper; first | (rw [if_pos (by decide +kernel)]; kernel_rfl) | (rw [if_neg (by decide +kernel)]; exact ⟨rfl, rfl⟩))
    (fun os started H enc _ => printerPrint_lifted os started H enc)
end Go.Proofs.Ytilgpmpiidccjaa
