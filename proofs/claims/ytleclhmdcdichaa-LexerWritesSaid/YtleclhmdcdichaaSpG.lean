/- The walk of the reference's Spell. -/
import Derived.Test.YtleclhmdcdichaaSpF
namespace Go.Proofs.Ytleclhmdcdichaa
open Go.RowKit

set_option maxHeartbeats 400000 in
theorem rSpell_any (k : Int) (t : ByteArray) (f to_ : Int) (w : World) (hm : t.size ≤ 1000000000) :
    Calls Try.prog 11 #[.agg #[.int .i64 k, .string t, .int .i64 f, .int .i64 to_]] w fun e w' => e = .returned (.string ⟨(Lx.spellL k t.data.toList).toArray⟩) ∧ Fresh w w' := by
  by_cases k3 : k = 3
  · subst k3
    go_enter Try.func11, Try.ntmps11
    go_wp2_with fail
    refine (rQuoted_any t _ hm).mono ?_
    rintro e1 w1 ⟨rfl, hf⟩
    have HF := hid hf
    clear hf
    go_wp2_with fail
    go_ret
    exact ⟨rfl, HF.out.pre⟩
  have b3 : (k == 3) = false := by simpa using k3
  by_cases k4 : k = 4
  · subst k4
    clear b3 k3
    go_enter Try.func11, Try.ntmps11
    go_wp2
    go_ret
    exact ⟨by rw [app_str [92] t]; rfl, (Touch.refl _ w).alloc _⟩
  have b4 : (k == 4) = false := by simpa using k4
  by_cases k5 : k = 5
  · subst k5
    clear b3 k3 b4 k4
    go_enter Try.func11, Try.ntmps11
    go_wp2
    go_ret
    exact ⟨by rw [app_str [92, 102, 101, 110, 99, 101] t]; rfl, (Touch.refl _ w).alloc _⟩
  have b5 : (k == 5) = false := by simpa using k5
  by_cases k6 : k = 6
  · subst k6
    clear b3 k3 b4 k4 b5 k5
    go_enter Try.func11, Try.ntmps11
    go_wp2
    go_ret
    exact ⟨by rw [app_str [35] t]; rfl, (Touch.refl _ w).alloc _⟩
  have b6 : (k == 6) = false := by simpa using k6
  have hsp : Lx.spellL k t.data.toList = t.data.toList := by unfold Lx.spellL; rw [if_neg k3, if_neg k4, if_neg k5, if_neg k6]
  have HSP := hid hsp
  clear hsp k3 k4 k5 k6
  go_enter Try.func11, Try.ntmps11
  go_wp2
  go_ret
  exact ⟨by rw [HSP.out]; rfl, (Touch.refl _ w).alloc _⟩
end Go.Proofs.Ytleclhmdcdichaa
