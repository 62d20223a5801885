/- Part 20 of 42 of a proof; its texts, joined: PrA. No condition. -/
import Derived.Test.YtncnoeoicaglaaaGreatVs11
set_option maxRecDepth 100000
set_option maxHeartbeats 1000000
namespace Go.Proofs.YtncnoeoicaglaaaGreat
open Go.RowKit
attribute [local go_sem] Oper.semAt_some
def visitCells : Array Value := #[.nilFunc, .nilFunc, .func (.func 90) #[] #[], .func (.func 91) #[] #[], .func (.func 92) #[] #[], .func (.func 93) #[] #[], .func (.func 94) #[] #[], .func (.func 95) #[] #[], .func (.func 95) #[] #[], .func (.func 95) #[] #[], .func (.func 96) #[] #[], .func (.func 97) #[] #[], .func (.func 98) #[] #[]]
def zeroVisits : Array Value := #[.nilFunc, .nilFunc, .nilFunc, .nilFunc, .nilFunc, .nilFunc, .nilFunc, .nilFunc, .nilFunc, .nilFunc, .nilFunc, .nilFunc, .nilFunc]
theorem zeroVisits_run (w : World) : (zeroValue 121).run Tryz.prog w = .ok (.agg zeroVisits) w := by kernel_rfl
theorem built_visits : Tryz.prog.built 121 [(2, .func (.func 90) #[] #[]), (3, .func (.func 91) #[] #[]), (4, .func (.func 92) #[] #[]), (5, .func (.func 93) #[] #[]), (6, .func (.func 94) #[] #[]), (7, .func (.func 95) #[] #[]), (8, .func (.func 95) #[] #[]), (9, .func (.func 95) #[] #[]), (10, .func (.func 96) #[] #[]), (11, .func (.func 97) #[] #[]), (12, .func (.func 98) #[] #[])] = some visitCells := by kernel_rfl
theorem infoVisits : (Tryz.prog.info? 121).map (·.size) = some 13 := by kernel_rfl
theorem visitCells_one : visitCells.all (·.oneCell') = true := by kernel_rfl
theorem visitors_any (w : World) :
  Calls Tryz.prog 64 #[] w fun e w' => e = .returned (.agg visitCells) ∧ Fresh w w' := by
 have hz := zeroVisits_run;go_enter Tryz.func64, Tryz.ntmps64
 go_wp2_with (first
  | (refine wpList_build_kind _ built_visits _ rfl rfl rfl (.agg visitCells) rfl ?_)
  | (refine wpList_store_row rfl 121 _ _ rfl w.heap.size visitCells rfl rfl 121 zeroVisits (Blk.new _ _ _) infoVisits rfl visitCells_one ?_))
 refine bodyPost_ret (results_cell_row (fn := Tryz.f64) (p := 0) rfl _ _ w.heap.size 121 visitCells (0, 0) _ rfl (setRow_heap _ _ _ _ _ _ (Blk.new _ _ _)) Tryz.underlying121 rfl infoVisits) rfl ?_;exact ⟨rfl, ((Touch.refl _ w).alloc _).setRow (.inr (Nat.le_refl _)) _⟩
end Go.Proofs.YtncnoeoicaglaaaGreat
