/- markup.Node on an element that cannot be carried. -/
import Derived.Test.YtloipakdnalpdaaMnT
import Derived.Test.YtloipakdnalpdaaGnA
import Derived.Test.YtloipakdnalpdaaQa14
namespace Go.Proofs.Ytloipakdnalpdaa
open Go.RowKit
open El (E Attrs)

set_option maxRecDepth 100000 in
set_option maxHeartbeats 1000000 in
theorem node_fault (e : E) (va vk : Value) (w : World) (hr : RepV w e va vk) (hv : El.valid e = true) (hf : (El.faultF e).2 = true) :
    Calls Try.prog 13 #[ev e va vk] w fun x w' => x = .returned (.tuple #[.agg #[.int .i64 0, .string ⟨#[]⟩, .int .i64 0, .slice none 0 0], .int .i64 (El.faultF e).1, .int .i64 19]) ∧ Fresh w w' := by
  obtain ⟨A, ca, hva⟩ := hr.1.slice
  obtain ⟨B, cb, hvk⟩ := hr.2.1.slice
  have HR := hid hr
  have HV := hid (fun (w : World) (h : RepV w e va vk) => xValid_any e va vk w h)
  have HFA := hid (fun (w : World) (g : Nat) (h : ElAt w g 0 e va vk) => fault_any e g 0 va vk w h (by unfold El.valid at hv; simp only [Bool.and_eq_true, decide_eq_true_eq] at hv; omega))
  have HVV := hid hv
  have HFF := hid hf
  generalize hfe : (El.faultF e).1 = z at *
  clear hr hv hf hfe
  obtain ⟨n, ats, ks, t⟩ := e
  replace hva : va = .slice A ats.length ca := hva
  replace hvk : vk = .slice B ks.length cb := hvk
  subst hva
  subst hvk
  unfold ev at *
  simp only [E.name, E.text] at *
  go_enter Try.func13, Try.ntmps13
  go_wp2_with fail
  have hb0 := (Blk.new w 30 #[.string ⟨n.toArray⟩, .slice A ats.length ca, .slice B ks.length cb, .string ⟨t.toArray⟩]).alloc (.cells #[.int .i64 0, .string ⟨#[]⟩, .int .i64 0, .slice none 0 0] 24)
  have hb1 := Blk.new2 w (.cells #[.string ⟨n.toArray⟩, .slice A ats.length ca, .slice B ks.length cb, .string ⟨t.toArray⟩] 30) 24 #[.int .i64 0, .string ⟨#[]⟩, .int .i64 0, .slice none 0 0]
  refine (HV.out _ (HR.out.fresh (((Touch.refl _ w).alloc _).alloc _))).mono ?_
  rintro _ w1 ⟨rfl, hf1⟩
  rw [HVV.out]
  have HF1 := hid (Touch.pre (Touch.pre hf1))
  have HB0 := hid (hf1.blk hb0 fun h => h)
  have HB1 := hid (hf1.blk hb1 fun h => h)
  clear hf1 hb0 hb1
  go_wp2_with fail
  obtain ⟨q0, q1, q2, q3, _, _, _, _, hg⟩ := Blk.four HB0.out
  refine (HFA.out w1 w.heap.size ⟨hg, q0, q1, q2, q3, HR.out.fresh HF1.out⟩).mono ?_
  rintro _ w2 ⟨rfl, hf2⟩
  rw [HFF.out]
  have HF2 := hid (HF1.out.trans hf2)
  have HB2 := hid (hf2.blk HB1.out fun h => h)
  clear hf2 q0 q1 q2 q3 hg
  obtain ⟨p0, p1, p2, p3, y0, y1, y2, y3, hg1⟩ := Blk.four HB2.out
  go_wp2_with fail
  obtain ⟨r0, r1, r2, r3, _, _, _, _, _⟩ := Blk.four (HB2.out.self4 (.int .i64 0) (.string ⟨#[]⟩) (.int .i64 0) (.slice none 0 0))
  simp only [put4] at r0 r1 r2 r3
  refine bodyPost_ret (v := .tuple #[.agg #[.int .i64 0, .string ⟨#[]⟩, .int .i64 0, .slice none 0 0], .int .i64 z, .int .i64 19]) (by simp [results, Try.results13, go_sem, r0, r1, r2, r3]) rfl ?_
  exact ⟨rfl, Touch.put4 HF2.out (.inr (by omega)) _ _ _ _⟩
end Go.Proofs.Ytloipakdnalpdaa
