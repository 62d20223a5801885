/- The statement MarkupFirst: if an element of a valid tree's markup gets a name that means nothing, markup.Node refuses exactly this element; for all trees of at most 150 nodes (for others the statement asks nothing) and all numbers. -/
import Derived.Test.YtloipakdnalpdaaMnU
import Derived.Test.YtloipakdnalpdaaMnS
import Derived.Test.YtloipakdnalpdaaQa20
namespace Go.Proofs.Ytloipakdnalpdaa
open Go.ChangeShapes Go.WideShapes Go.ChangeAt Go.RowKit
open Go.ChangeMaps (open_string shut_string)
open Tr (Nd)
open El (E Attrs)

theorem u16_rangeM {k : Int} (h : (Lit.int .u16 k).wf = true) : 0 ≤ k ∧ k < 65536 := by
  have h2 : IntKind.u16.min ≤ k ∧ k ≤ IntKind.u16.max := by simpa [Lit.wf] using h
  have e1 : IntKind.u16.min = 0 := by decide
  have e2 : IntKind.u16.max = 65535 := by decide
  omega
set_option maxRecDepth 100000 in
set_option maxHeartbeats 3000000 in
theorem markupFirst_any (n : Nd) (sl : Value) (k0 : Int) (w : World) (hr : RepC w n.kids sl) (ht : n.text.length ≤ maxLen) (hk0 : 0 ≤ k0 ∧ k0 < 65536) :
    Calls Try.prog 4 #[nv n sl, .int .u16 k0] w fun e w' => e = .returned (.bool true) ∧ Fresh w w' := by
  obtain ⟨k, rfl⟩ : ∃ k : Nat, k0 = k := ⟨k0.toNat, by omega⟩
  have hk : k < 65536 := by omega
  clear hk0
  obtain ⟨A, cap, rfl⟩ := hr.slice
  have HR := hid hr
  have HV := hid (fun (w : World) (hr : RepL w n.kids (.slice A n.kids.length cap)) (hc : Tr.count n ≤ 1000000) => rValid_any n _ w hr ht hc)
  clear hr
  go_enter Try.func4, Try.ntmps4
  go_wp2_with fail
  refine (awake24_any _).mono ?_
  rintro _ w1 ⟨rfl, hf1⟩
  have HF1 := hid (Touch.pre hf1)
  have hb := hf1.blk (Blk.new w 24 #[.int .i64 n.kind, .string ⟨n.text.toArray⟩, .int .i64 n.cols, .slice A n.kids.length cap]) (fun h => h)
  have HB1 := hid hb
  obtain ⟨q0, q1, q2, q3, _⟩ := Blk.four hb
  clear hf1 hb
  go_wp2_with fail
  refine (few09_any n _ 150 _ (HR.out.rep.fresh HF1.out) (by decide) (by decide)).mono ?_
  rintro _ w2 ⟨rfl, hf2⟩
  have HF2 := hid (HF1.out.trans hf2)
  have hb := hf2.blk HB1.out (fun h => h)
  have HB2 := hid hb
  clear q0 q1 q2 q3
  obtain ⟨q0, q1, q2, q3, _⟩ := Blk.four hb
  clear hf2 hb
  cases h1 : decide ((Tr.count n : Int) ≤ 150) with
  | false =>
    go_wp2_with fail
    go_ret
    exact ⟨rfl, HF2.out⟩
  | true =>
  have h1p := of_decide_eq_true h1
  have hcn : Tr.count n ≤ 150 := by omega
  clear h1 h1p
  go_wp2_with fail
  refine (HV.out _ (HR.out.rep.fresh HF2.out) (by omega)).mono ?_
  rintro _ w3 ⟨rfl, hf3⟩
  have HF3 := hid (HF2.out.trans hf3)
  have hb := hf3.blk HB2.out (fun h => h)
  have HB3 := hid hb
  clear q0 q1 q2 q3
  obtain ⟨q0, q1, q2, q3, _⟩ := Blk.four hb
  clear hf3 hb
  cases hv : Tr.valid n with
  | false =>
    go_wp2_with fail
    go_ret
    exact ⟨rfl, HF3.out⟩
  | true =>
  have hts := El.tree_size n hv
  have hcm : El.count (El.elM n) ≤ 300 := by omega
  have hcp := El.count_pos (El.elM n)
  have HTV := hid (El.tree_valid n hv)
  have HTO := hid (El.tree_ok n hv).1
  have hv' := hv
  unfold Tr.valid at hv'
  simp only [Bool.and_eq_true] at hv'
  have HRE := hid (fun (w : World) (h : RepC w n.kids (.slice A n.kids.length cap)) => reElement_any n hv'.1.1.2 hv'.1.1.1 _ w (by omega) h)
  have HNM := hid (show (El.elM n).name = El.nMath from rfl)
  clear hv hv' hts
  generalize El.elM n = e at *
  go_wp2_with fail
  refine (HRE.out _ (HR.out.fresh HF3.out)).mono ?_
  rintro _ w4 ⟨v, rfl, va, vk, hev, hf4, hst⟩
  have HF4 := hid (HF3.out.trans hf4)
  have HRV := hid hst.now
  obtain ⟨Aa, ca, hva⟩ := hst.now.1.slice
  obtain ⟨Ak, ck, hvk⟩ := hst.now.2.1.slice
  clear hst hf4 q0 q1 q2 q3 HRE
  have HCE := hid (fun (w : World) (h : RepV w e va vk) => rcount_any e va vk w h (by omega))
  have HRN := hid (fun (j : Nat) (W0 w : World) (h1 : Low W0 w) (h2 : RepV W0 e va vk) => ren_any W0 j El.nNone (by decide) e 0 va vk w h1 h2 (by omega))
  have HND := hid (fun (j : Nat) (hj : j < El.count e) (ua uk : Value) (w : World) (h : RepV w (El.ren j El.nNone 0 e).1 ua uk) => node_fault _ ua uk w h (El.ren_valid j El.nNone e 0 (by decide) HTV.out) (by rw [El.ren_fault j e hj HTO.out HNM.out]))
  have HNZ := hid (fun (j : Nat) (hj : j < El.count e) => El.ren_fault j e hj HTO.out HNM.out)
  generalize hc : El.count e = c at *
  rcases hem : e with ⟨en, ea, ek, et⟩
  rw [hem] at hev hva hvk
  unfold ev at hev HCE HRN
  rw [hem] at HCE HRN HRV HND HNZ
  simp only [E.name, E.attrs, E.kids, E.text] at hev hva hvk HCE HRN
  subst hev hva hvk
  clear hem
  have hci : (c : Int) ≤ 300 := by omega
  have hcz : (c : Int) ≠ 0 := by omega
  have hc0 : (0 : Int) < (c : Int) := by omega
  have hki : (k : Int) < 65536 := by omega
  go_wp2_with fail
  have hx := Blk.new w4 30 #[.string ⟨en.toArray⟩, .slice Aa ea.length ca, .slice Ak ek.length ck, .string ⟨et.toArray⟩]
  refine (HCE.out _ (HRV.out.fresh ((Touch.refl _ w4).alloc _))).mono ?_
  rintro _ w5 ⟨rfl, hf5⟩
  have HF5 := hid (HF4.out.trans (Touch.pre hf5))
  have HX5 := hid (hf5.blk hx fun h => h)
  have HRV5 := hid (HRV.out.fresh (Touch.pre hf5))
  clear hf5 hx
  obtain ⟨q0, q1, q2, q3, _⟩ := Blk.four HX5.out
  go_wp2_with fail
  have hjc : k % c < c := Nat.mod_lt _ (by omega)
  rw [show ((k : Int) % (c : Int)) = ((k % c : Nat) : Int) from by rw [Int.natCast_emod]]
  generalize k % c = j at hjc ⊢
  refine (HRN.out j w5 w5 (Touch.refl _ _) HRV5.out).mono ?_
  rintro _ w6 ⟨ua, uk, rfl, hf6, hst6⟩
  have HND6 := hid (HND.out j hjc ua uk)
  have HNZ6 := hid (HNZ.out j hjc)
  have HST6 := hid hst6
  have HF6 := hid (HF5.out.trans hf6)
  obtain ⟨Ba, da, hua⟩ := hst6.now.1.slice
  obtain ⟨Bk, dk, huk⟩ := hst6.now.2.1.slice
  rcases hren : (El.ren j El.nNone 0 (.mk en ea ek et)).1 with ⟨yn, ya, yk, yt⟩
  generalize (El.ren j El.nNone 0 (.mk en ea ek et)).2 = nx at *
  rw [hren] at hua huk HND6 HNZ6 HST6
  unfold ev at HND6
  simp only [E.name, E.attrs, E.kids, E.text] at hua huk HND6 ⊢
  subst hua huk
  clear hst6 hf6 q0 q1 q2 q3 hren HND HNZ HRN HCE
  rw [HNZ6.out] at HND6
  go_wp2_with fail
  refine (HND6.out _ (HST6.out _ ((Touch.refl _ w6).alloc _))).mono ?_
  rintro _ w7 ⟨rfl, hf7⟩
  have HF7 := hid (HF6.out.trans (Touch.pre hf7))
  clear hf7
  have hjb : (j : Int) ≤ 300 := by omega
  have hjj : ((j : Int) == (j : Int)) = true := by simp
  go_wp2_with fail
  refine (equal_any _ El.nilNd El.nilNd (.slice none 0 0) (.slice none 0 0) _ (Nat.le_refl _) (RepL.nil _ _) (RepL.nil _ _)).mono ?_
  rintro _ w8 ⟨rfl, hf8⟩
  have HF8 := hid (HF7.out.trans (Touch.pre hf8))
  clear hf8
  go_wp2_with fail
  go_ret
  exact ⟨ret_bool' _ _ (by decide), HF8.out⟩

set_option maxRecDepth 100000 in
theorem markupFirst_lifted (os : Os) (started : os.Started) (H : Type) (enc : TypeId × Value → H) :
    ReturnsInHanded {} Try.checked os 4 .any (Rows.markupFirstSpec.pre6 enc Try.prog Try.f4 Rows.markupFirstRow.domain false) (Rows.markupFirstSpec.post enc Try.prog Try.f4 false true false false) := by
  refine returnsInHanded_of_change (C := Try.checked) Try.ownKnob started (by kernel_rfl) Try.func4
    (ChangeSpec.witness6 (enc := enc) (C := Try.checked) false ⟨#[], #[.agg #[.int .i64 0, .string ⟨#[]⟩, .int .i64 0, .slice none 0 0], .int .u16 0], []⟩ 8 (by kernel_rfl) (by kernel_rfl) (by kernel_rfl) (by kernel_rfl)) ?_
  intro W base args ds gs before hval0 hW hcnd _
  have hval : ∀ (j : Nat) t v, Try.f4.params[j]? = some t → args[j]? = some v → Value.okWide Try.prog W .any base t v := hval0
  have hW' := hW
  obtain ⟨p, q, hA0, hV, rfl, hfz, hnd⟩ := hW
  have hA : DataW.TrodAll enc Try.prog W 0 (fun _ => true) true Try.f4.params.toList args.toList ds p := hA0
  rw [Try.params4] at hA hval
  obtain ⟨v0, v1, d0, d1, p0, p1, rfl, rfl, rfl, h0, h1⟩ := trodAll_two hA
  obtain ⟨rfl, rfl⟩ := trodVars_none hV
  obtain ⟨n0, s0, rfl, r0, t0⟩ := open_nodeC (hval 0 24 v0 rfl rfl) h0
  obtain ⟨k1, rfl, _, _, g1⟩ := open_int Try.underlying37 (hval 1 37 v1 rfl rfl) h1
  refine (markupFirst_any n0 s0 k1 W r0 t0 (u16_rangeM g1)).mono fun e W' ⟨he, hw⟩ => ?_
  exact ⟨_, he, post_true Try.laidOut Try.underlying4 (by kernel_rfl) (by kernel_rfl) rfl rfl hW' hw⟩

theorem MarkupFirst_holds : Rows.MarkupFirstSaid :=
  OpenClaim.holds_of_wide 4 Try.f4 rfl rfl rfl rfl rfl rfl rfl ⟨rfl, rfl, rfl, rfl, rfl⟩ rfl rfl rfl rfl rfl (by kernel_rfl) Try.func4 (by kernel_rfl)
    (of_decide_eq_true (by kernel_rfl)) (by unfold Func.isWrapper; first | (rw [if_pos (by decide +kernel)]; kernel_rfl) | (rw [if_neg (by decide +kernel)]; exact ⟨rfl, rfl⟩))
    (fun os started H enc _ => markupFirst_lifted os started H enc)

end Go.Proofs.Ytloipakdnalpdaa
