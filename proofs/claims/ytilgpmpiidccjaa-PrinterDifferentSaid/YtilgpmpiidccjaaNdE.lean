/- The walk of node's kinds. -/
import Derived.Test.YtilgpmpiidccjaaNdD
import Derived.Laws.Rows
namespace Go.Proofs.Ytilgpmpiidccjaa
open Go.RowKit
attribute [local go_sem] Oper.semAt_some


def kindV1 : Value := .agg #[.string ⟨#[114, 111, 119]⟩, .int .i64 0, .func (.func 68) #[] #[]]
theorem built_kind1 : Try.prog.built 97 [(0, .string ⟨#[114, 111, 119]⟩), (1, .int .i64 0), (2, .func (.func 68) #[] #[])] = some #[.string ⟨#[114, 111, 119]⟩, .int .i64 0, .func (.func 68) #[] #[]] := by kernel_rfl
def kindV2 : Value := .agg #[.string ⟨#[115, 121, 109]⟩, .int .i64 0, .func (.func 69) #[] #[]]
theorem built_kind2 : Try.prog.built 97 [(0, .string ⟨#[115, 121, 109]⟩), (1, .int .i64 0), (2, .func (.func 69) #[] #[])] = some #[.string ⟨#[115, 121, 109]⟩, .int .i64 0, .func (.func 69) #[] #[]] := by kernel_rfl
def kindV3 : Value := .agg #[.string ⟨#[110, 117, 109]⟩, .int .i64 0, .func (.func 70) #[] #[]]
theorem built_kind3 : Try.prog.built 97 [(0, .string ⟨#[110, 117, 109]⟩), (1, .int .i64 0), (2, .func (.func 70) #[] #[])] = some #[.string ⟨#[110, 117, 109]⟩, .int .i64 0, .func (.func 70) #[] #[]] := by kernel_rfl
def kindV4 : Value := .agg #[.string ⟨#[116, 101, 120, 116]⟩, .int .i64 0, .func (.func 71) #[] #[]]
theorem built_kind4 : Try.prog.built 97 [(0, .string ⟨#[116, 101, 120, 116]⟩), (1, .int .i64 0), (2, .func (.func 71) #[] #[])] = some #[.string ⟨#[116, 101, 120, 116]⟩, .int .i64 0, .func (.func 71) #[] #[]] := by kernel_rfl
def kindV5 : Value := .agg #[.string ⟨#[102, 114, 97, 99]⟩, .int .i64 2, .func (.func 68) #[] #[]]
theorem built_kind5 : Try.prog.built 97 [(0, .string ⟨#[102, 114, 97, 99]⟩), (1, .int .i64 2), (2, .func (.func 68) #[] #[])] = some #[.string ⟨#[102, 114, 97, 99]⟩, .int .i64 2, .func (.func 68) #[] #[]] := by kernel_rfl
def kindV6 : Value := .agg #[.string ⟨#[114, 111, 111, 116]⟩, .int .i64 2, .func (.func 68) #[] #[]]
theorem built_kind6 : Try.prog.built 97 [(0, .string ⟨#[114, 111, 111, 116]⟩), (1, .int .i64 2), (2, .func (.func 68) #[] #[])] = some #[.string ⟨#[114, 111, 111, 116]⟩, .int .i64 2, .func (.func 68) #[] #[]] := by kernel_rfl
def kindV7 : Value := .agg #[.string ⟨#[115, 117, 98]⟩, .int .i64 2, .func (.func 68) #[] #[]]
theorem built_kind7 : Try.prog.built 97 [(0, .string ⟨#[115, 117, 98]⟩), (1, .int .i64 2), (2, .func (.func 68) #[] #[])] = some #[.string ⟨#[115, 117, 98]⟩, .int .i64 2, .func (.func 68) #[] #[]] := by kernel_rfl
def kindV8 : Value := .agg #[.string ⟨#[115, 117, 112]⟩, .int .i64 2, .func (.func 68) #[] #[]]
theorem built_kind8 : Try.prog.built 97 [(0, .string ⟨#[115, 117, 112]⟩), (1, .int .i64 2), (2, .func (.func 68) #[] #[])] = some #[.string ⟨#[115, 117, 112]⟩, .int .i64 2, .func (.func 68) #[] #[]] := by kernel_rfl
def kindV9 : Value := .agg #[.string ⟨#[98, 111, 116, 104]⟩, .int .i64 3, .func (.func 68) #[] #[]]
theorem built_kind9 : Try.prog.built 97 [(0, .string ⟨#[98, 111, 116, 104]⟩), (1, .int .i64 3), (2, .func (.func 68) #[] #[])] = some #[.string ⟨#[98, 111, 116, 104]⟩, .int .i64 3, .func (.func 68) #[] #[]] := by kernel_rfl
def kindV10 : Value := .agg #[.string ⟨#[97, 99, 99, 101, 110, 116]⟩, .int .i64 1, .func (.func 72) #[] #[]]
theorem built_kind10 : Try.prog.built 97 [(0, .string ⟨#[97, 99, 99, 101, 110, 116]⟩), (1, .int .i64 1), (2, .func (.func 72) #[] #[])] = some #[.string ⟨#[97, 99, 99, 101, 110, 116]⟩, .int .i64 1, .func (.func 72) #[] #[]] := by kernel_rfl
def kindV11 : Value := .agg #[.string ⟨#[102, 101, 110, 99, 101]⟩, .int .i64 1, .func (.func 73) #[] #[]]
theorem built_kind11 : Try.prog.built 97 [(0, .string ⟨#[102, 101, 110, 99, 101]⟩), (1, .int .i64 1), (2, .func (.func 73) #[] #[])] = some #[.string ⟨#[102, 101, 110, 99, 101]⟩, .int .i64 1, .func (.func 73) #[] #[]] := by kernel_rfl
def kindV12 : Value := .agg #[.string ⟨#[109, 97, 116, 114, 105, 120]⟩, .int .i64 0, .func (.func 68) #[] #[]]
theorem built_kind12 : Try.prog.built 97 [(0, .string ⟨#[109, 97, 116, 114, 105, 120]⟩), (1, .int .i64 0), (2, .func (.func 68) #[] #[])] = some #[.string ⟨#[109, 97, 116, 114, 105, 120]⟩, .int .i64 0, .func (.func 68) #[] #[]] := by kernel_rfl
def kindCells : Array Value := #[.string ⟨#[]⟩, .int .i64 0, .nilFunc, .string ⟨#[114, 111, 119]⟩, .int .i64 0, .func (.func 68) #[] #[], .string ⟨#[115, 121, 109]⟩, .int .i64 0, .func (.func 69) #[] #[], .string ⟨#[110, 117, 109]⟩, .int .i64 0, .func (.func 70) #[] #[], .string ⟨#[116, 101, 120, 116]⟩, .int .i64 0, .func (.func 71) #[] #[], .string ⟨#[102, 114, 97, 99]⟩, .int .i64 2, .func (.func 68) #[] #[], .string ⟨#[114, 111, 111, 116]⟩, .int .i64 2, .func (.func 68) #[] #[], .string ⟨#[115, 117, 98]⟩, .int .i64 2, .func (.func 68) #[] #[], .string ⟨#[115, 117, 112]⟩, .int .i64 2, .func (.func 68) #[] #[], .string ⟨#[98, 111, 116, 104]⟩, .int .i64 3, .func (.func 68) #[] #[], .string ⟨#[97, 99, 99, 101, 110, 116]⟩, .int .i64 1, .func (.func 72) #[] #[], .string ⟨#[102, 101, 110, 99, 101]⟩, .int .i64 1, .func (.func 73) #[] #[], .string ⟨#[109, 97, 116, 114, 105, 120]⟩, .int .i64 0, .func (.func 68) #[] #[]]
def zeroKinds : Array Value := #[.string ⟨#[]⟩, .int .i64 0, .nilFunc, .string ⟨#[]⟩, .int .i64 0, .nilFunc, .string ⟨#[]⟩, .int .i64 0, .nilFunc, .string ⟨#[]⟩, .int .i64 0, .nilFunc, .string ⟨#[]⟩, .int .i64 0, .nilFunc, .string ⟨#[]⟩, .int .i64 0, .nilFunc, .string ⟨#[]⟩, .int .i64 0, .nilFunc, .string ⟨#[]⟩, .int .i64 0, .nilFunc, .string ⟨#[]⟩, .int .i64 0, .nilFunc, .string ⟨#[]⟩, .int .i64 0, .nilFunc, .string ⟨#[]⟩, .int .i64 0, .nilFunc, .string ⟨#[]⟩, .int .i64 0, .nilFunc, .string ⟨#[]⟩, .int .i64 0, .nilFunc]
theorem zeroKinds_run (w : World) : (zeroValue 98).run Try.prog w = .ok (.agg zeroKinds) w := by kernel_rfl
theorem built_kinds : Try.prog.built 98 [(1, kindV1), (2, kindV2), (3, kindV3), (4, kindV4), (5, kindV5), (6, kindV6), (7, kindV7), (8, kindV8), (9, kindV9), (10, kindV10), (11, kindV11), (12, kindV12)] = some kindCells := by kernel_rfl
theorem infoKinds : (Try.prog.info? 98).map (·.size) = some 39 := by kernel_rfl
theorem kindCells_one : kindCells.all (·.oneCell') = true := by kernel_rfl
theorem wpList_build_kind {t : TypeId} {cs : Array Value} {ops : Array Oper} {rest : List Oper} {o : Oper} {a : Act} {w : World} {Q : Exit → Act → World → Prop} (vs : List (Nat × Value)) (hb : Try.prog.built t vs = some cs) (xs : Array (Nat × Operand)) (hg : o.guard = none) (ho : o.op = .build t xs)
    (hx : (xs.map fun p => (p.1, a.eval p.2)) = vs.toArray) (v : Value) (hv : v = .agg cs) (h : wpList Try.prog ops Q rest (a.put o.dst v) w) : wpList Try.prog ops Q (o :: rest) a w := by
  subst hv
  refine wpList_plain hg fun K hK => ?_
  unfold Oper.wp execOp
  simp only [ho, Sem.run_bind, hx]
  rw [run_build w t vs.toArray _ hb]
  simp only [Result.andThen_ok]
  exact hK _ _ h

set_option maxRecDepth 100000 in
set_option maxHeartbeats 1000000 in
theorem kinds_any (w : World) :
    Calls Try.prog 48 #[] w fun e w' => e = .returned (.agg kindCells) ∧ Fresh w w' := by
  have hz := zeroKinds_run
  go_enter Try.func48, Try.ntmps48
  go_wp2_with (first
    | (refine wpList_build_kind _ built_kind1 _ rfl rfl rfl kindV1 rfl ?_)
    | (refine wpList_build_kind _ built_kind2 _ rfl rfl rfl kindV2 rfl ?_)
    | (refine wpList_build_kind _ built_kind3 _ rfl rfl rfl kindV3 rfl ?_)
    | (refine wpList_build_kind _ built_kind4 _ rfl rfl rfl kindV4 rfl ?_)
    | (refine wpList_build_kind _ built_kind5 _ rfl rfl rfl kindV5 rfl ?_)
    | (refine wpList_build_kind _ built_kind6 _ rfl rfl rfl kindV6 rfl ?_)
    | (refine wpList_build_kind _ built_kind7 _ rfl rfl rfl kindV7 rfl ?_)
    | (refine wpList_build_kind _ built_kind8 _ rfl rfl rfl kindV8 rfl ?_)
    | (refine wpList_build_kind _ built_kind9 _ rfl rfl rfl kindV9 rfl ?_)
    | (refine wpList_build_kind _ built_kind10 _ rfl rfl rfl kindV10 rfl ?_)
    | (refine wpList_build_kind _ built_kind11 _ rfl rfl rfl kindV11 rfl ?_)
    | (refine wpList_build_kind _ built_kind12 _ rfl rfl rfl kindV12 rfl ?_)
    | (refine wpList_build_kind _ built_kinds _ rfl rfl rfl (.agg kindCells) rfl ?_)
    | (refine wpList_store_row rfl 98 _ _ rfl w.heap.size kindCells rfl rfl 98 zeroKinds (Blk.new _ _ _) infoKinds rfl kindCells_one ?_))
  refine bodyPost_ret (results_cell_row (fn := Try.f48) (p := 0) rfl _ _ w.heap.size 98 kindCells (0, 0) _ rfl (setRow_heap _ _ _ _ _ _ (Blk.new _ _ _)) Try.underlying98 rfl infoKinds) rfl ?_
  exact ⟨rfl, ((Touch.refl _ w).alloc _).setRow (.inr (Nat.le_refl _)) _⟩
end Go.Proofs.Ytilgpmpiidccjaa
