/- The reference's Count of elements; renamed. -/
import Derived.Test.YtnkmccgpmmnfeaaDoorXa7
import Derived.OwnWalk
namespace Go.Proofs.YtnkmccgpmmnfeaaDoor
open Go.RowKit
open El (E Attrs)

def RCountC (e : E) : Prop := ∀ (va vk : Value) (w : World), RepV w e va vk → El.count e ≤ 1000000 → Calls Tryd.prog 14 #[ev e va vk] w fun x w' => x = .returned (.int .i64 (El.count e : Nat)) ∧ Fresh w w'
set_option maxRecDepth 100000 in
set_option maxHeartbeats 1000000 in
theorem rcount_step (e : E) (ih : ∀ x ∈ e.kids, RCountC x) : RCountC e := by
  intro va vk w hr hc
  obtain ⟨A, ca, hva⟩ := hr.1.slice
  obtain ⟨B, cb, hvk⟩ := hr.2.1.slice
  have HR := hid hr
  have HIH := hid ih
  obtain ⟨n, ats, ks, t⟩ := e
  have hl2 : ks.length ≤ maxLen := hr.2.1.len
  unfold maxLen at hl2
  have HCE := hid (show El.count (.mk n ats ks t) = 1 + El.countL ks from by rw [El.count])
  rw [HCE.out] at hc
  rw [HCE.out]
  replace hva : va = .slice A ats.length ca := hva
  replace hvk : vk = .slice B ks.length cb := hvk
  subst hva
  subst hvk
  unfold ev
  simp only [E.name, E.kids, E.text] at HIH ⊢
  clear hr ih
  have HK := hid (show RepE w ks _ from HR.out.2.1)
  go_enter Tryd.func14, Tryd.ntmps14
  go_wp2_with fail
  have HB0 := hid (Blk.new w 26 #[.string ⟨n.toArray⟩, .slice A ats.length ca, .slice B ks.length cb, .string ⟨t.toArray⟩])
  have HF0 := hid ((Touch.refl (fun _ => False) w).alloc (.cells #[.string ⟨n.toArray⟩, .slice A ats.length ca, .slice B ks.length cb, .string ⟨t.toArray⟩] 26))
  go_loopw [4, 3] (fun i s wr => ∃ j : Nat, i = .int .i64 j ∧ s = .int .i64 ((1 + El.countL (ks.take j) : Nat) : Int) ∧ j ≤ ks.length ∧ Hid (Blk wr w.heap.size 26 #[.string ⟨n.toArray⟩, .slice A ats.length ca, .slice B ks.length cb, .string ⟨t.toArray⟩]) ∧ Hid (Fresh w wr)) (fun i _ _ => ks.length - (intOf i).toNat)
  case atStart => exact ⟨0, rfl, by show _ = Value.int .i64 ((1 + El.countL [] : Nat) : Int); rw [El.countL]; rfl, Nat.zero_le _, HB0, HF0⟩
  case round =>
    obtain ⟨j, rfl, rfl, hj, HB, HF⟩ := hrel
    obtain ⟨q0, q1, q2, q3, _, _, _, _, _⟩ := Blk.four HB.out
    by_cases c1 : j < ks.length
    · have d1 : decide ((j : Int) < (ks.length : Int)) = true := dT (by omega)
      have d1' : (j : Int) < (ks.length : Int) := by omega
      have d1n : decide (j < ks.length) = true := dT c1
      obtain ⟨g, o, va, vk, rfl, hg, m0, m1, m2, m3, hrx⟩ := HK.out.get j c1
      obtain ⟨e0, e1, e2, e3⟩ := mv4 HF.out m0 m1 m2 m3
      obtain ⟨Aa, aa, hva⟩ := hrx.1.slice
      obtain ⟨Ak, ak, hvk⟩ := hrx.2.1.slice
      have HS := hid (El.countL_take ks j c1)
      have hle := El.countL_le ks (j + 1)
      rw [HS.out] at hle
      have HC := hid (fun (W : World) (hw : RepV W ks[j] va vk) => HIH.out ks[j] (List.getElem_mem c1) va vk W hw (by omega))
      have HX := hid (hrx.fresh HF.out)
      clear m0 m1 m2 m3 hrx
      generalize ks[j] = x at *
      obtain ⟨xn, xa, xk, xt⟩ := x
      unfold ev at HC
      simp only [E.name, E.attrs, E.kids, E.text] at hva hvk e0 e1 e2 e3 HC
      subst hva hvk
      go_wp2_with fail
      refine (HC.out _ HX.out).mono ?_
      rintro _ w2 ⟨rfl, hf2⟩
      have HF2 := hid (HF.out.trans hf2)
      have HB2 := hid (hf2.blk HB.out fun h => h)
      clear hf2
      go_wp2_with fail
      go_roundw
      case rel => exact ⟨j + 1, by go_num, by rw [HS.out]; go_num, c1, HB2, HF2⟩
      case measure => simp [intOf]; omega
    · have d1 : decide ((j : Int) < (ks.length : Int)) = false := dF (by omega)
      have d1n : decide (j < ks.length) = false := dF c1
      obtain rfl : j = ks.length := by omega
      go_wp2_with fail
      go_ret
      exact ⟨by rw [List.take_length]; rfl, HF.out⟩
theorem rcount_any (e : E) : RCountC e := El.E.ind (p := RCountC) rcount_step e
end Go.Proofs.YtnkmccgpmmnfeaaDoor
