/- The walk of printer.visitors. -/
import Derived.Test.YtilgpmpiidccjaaNdE
namespace Go.Proofs.Ytilgpmpiidccjaa
open Go.RowKit
attribute [local go_sem] Oper.semAt_some


def visitCells : Array Value := #[.nilFunc, .nilFunc, .func (.func 75) #[] #[], .func (.func 76) #[] #[], .func (.func 77) #[] #[], .func (.func 78) #[] #[], .func (.func 79) #[] #[], .func (.func 80) #[] #[], .func (.func 80) #[] #[], .func (.func 80) #[] #[], .func (.func 81) #[] #[], .func (.func 82) #[] #[], .func (.func 83) #[] #[]]
def zeroVisits : Array Value := #[.nilFunc, .nilFunc, .nilFunc, .nilFunc, .nilFunc, .nilFunc, .nilFunc, .nilFunc, .nilFunc, .nilFunc, .nilFunc, .nilFunc, .nilFunc]
theorem zeroVisits_run (w : World) : (zeroValue 105).run Try.prog w = .ok (.agg zeroVisits) w := by kernel_rfl
theorem built_visits : Try.prog.built 105 [(2, .func (.func 75) #[] #[]), (3, .func (.func 76) #[] #[]), (4, .func (.func 77) #[] #[]), (5, .func (.func 78) #[] #[]), (6, .func (.func 79) #[] #[]), (7, .func (.func 80) #[] #[]), (8, .func (.func 80) #[] #[]), (9, .func (.func 80) #[] #[]), (10, .func (.func 81) #[] #[]), (11, .func (.func 82) #[] #[]), (12, .func (.func 83) #[] #[])] = some visitCells := by kernel_rfl
theorem infoVisits : (Try.prog.info? 105).map (·.size) = some 13 := by kernel_rfl
theorem visitCells_one : visitCells.all (·.oneCell') = true := by kernel_rfl

set_option maxRecDepth 100000 in
set_option maxHeartbeats 1000000 in
theorem visitors_any (w : World) :
    Calls Try.prog 50 #[] w fun e w' => e = .returned (.agg visitCells) ∧ Fresh w w' := by
  have hz := zeroVisits_run
  go_enter Try.func50, Try.ntmps50
  go_wp2_with (first
    | (refine wpList_build_kind _ built_visits _ rfl rfl rfl (.agg visitCells) rfl ?_)
    | (refine wpList_store_row rfl 105 _ _ rfl w.heap.size visitCells rfl rfl 105 zeroVisits (Blk.new _ _ _) infoVisits rfl visitCells_one ?_))
  refine bodyPost_ret (results_cell_row (fn := Try.f50) (p := 0) rfl _ _ w.heap.size 105 visitCells (0, 0) _ rfl (setRow_heap _ _ _ _ _ _ (Blk.new _ _ _)) Try.underlying105 rfl infoVisits) rfl ?_
  exact ⟨rfl, ((Touch.refl _ w).alloc _).setRow (.inr (Nat.le_refl _)) _⟩
end Go.Proofs.Ytilgpmpiidccjaa
