/- xml.Valid walked. -/
import Derived.Test.YtnkmccgpmmnfeaaDoorXbXmD
namespace Go.Proofs.YtnkmccgpmmnfeaaDoor
open Go.RowKit
open El (E Attrs vald)

set_option maxRecDepth 100000 in
set_option maxHeartbeats 1000000 in
theorem xValid_any (e : E) (va vk : Value) (w : World) (hr : RepV w e va vk) : Calls Tryd.prog 12 #[ev e va vk] w fun x w' => x = .returned (.bool (El.valid e)) ∧ Fresh w w' := by
  obtain ⟨A, ca, hva⟩ := hr.1.slice
  obtain ⟨B, cb, hvk⟩ := hr.2.1.slice
  have HR := hid hr
  have HX := hid (xvalid_any e)
  subst hva
  subst hvk
  clear hr
  obtain ⟨n, ats, ks, t⟩ := e
  unfold ev
  simp only [E.name, E.attrs, E.kids, E.text] at *
  go_enter Tryd.func12, Tryd.ntmps12
  go_wp2_with fail
  have hE : ElAt ((w.alloc (.cells #[.string ⟨n.toArray⟩, .slice A ats.length ca, .slice B ks.length cb, .string ⟨t.toArray⟩] 26)).alloc (.cells #[.int .i64 0] 3)) w.heap.size 0 (.mk n ats ks t) (.slice A ats.length ca) (.slice B ks.length cb) := by
    have hb := (Blk.new w 26 #[.string ⟨n.toArray⟩, .slice A ats.length ca, .slice B ks.length cb, .string ⟨t.toArray⟩]).alloc (.cells #[.int .i64 0] 3)
    obtain ⟨q0, q1, q2, q3, _, _, _, _, hg⟩ := Blk.four hb
    exact ⟨hg, q0, q1, q2, q3, HR.out.fresh (((Touch.refl _ w).alloc _).alloc _)⟩
  refine (HX.out w.heap.size 0 (w.heap.size + 1) 1 0 _ _ _ hE (Blk.new2 _ _ _ _) (by omega) (by omega)).mono ?_
  rintro _ w1 ⟨rfl, ht, _, _, _⟩
  have HF := hid (show Fresh w w1 from (((Touch.refl (fun _ => False) w).alloc _).alloc _).trans' ht (fun i hi => by right; have hi : i = w.heap.size + 1 := hi; omega))
  have HVT := hid (El.vald_top (.mk n ats ks t))
  rw [HVT.out]
  clear hE ht
  go_wp2_with fail
  go_ret
  exact ⟨rfl, HF.out⟩
end Go.Proofs.YtnkmccgpmmnfeaaDoor
