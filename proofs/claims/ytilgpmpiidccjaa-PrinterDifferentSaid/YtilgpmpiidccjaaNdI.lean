/- The walk of node.Valid. -/
import Derived.Test.YtilgpmpiidccjaaNdH
namespace Go.Proofs.Ytilgpmpiidccjaa
open Go.RowKit
attribute [local go_sem] Oper.semAt_some

theorem built_check : Try.prog.built 101 [(0, .agg kindCells)] = some (checkCells 0) := by kernel_rfl

set_option maxRecDepth 100000 in
set_option maxHeartbeats 1000000 in
theorem valid_any (n : Tr.Nd) (sl : Value) (w : World) (hr : RepL w n.kids sl) (ht : n.text.length ≤ maxLen) (hc : Tr.count n ≤ 1000) :
    Calls Try.prog 29 #[.agg #[.int .i64 n.kind, .string ⟨n.text.toArray⟩, .int .i64 n.cols, sl]] w fun e w' => e = .returned (.bool ((n.kind == 1) && chkN 1 n)) ∧ Fresh w w' := by
  obtain ⟨A, cap, rfl⟩ := hr.slice
  have HR := hid hr
  clear hr
  go_enter Try.func29, Try.ntmps29
  go_wp2_with fail
  refine (kinds_any _).mono ?_
  rintro _ w1 ⟨rfl, hf1⟩
  have hf1' : Fresh w w1 := hf1.pre
  have hb1 := hf1.blk (Blk.new w 24 #[.int .i64 n.kind, .string ⟨n.text.toArray⟩, .int .i64 n.cols, .slice A n.kids.length cap]) (fun h => h)
  obtain ⟨q0, q1, q2, q3, _, _, _, _, hg⟩ := Blk.four hb1
  have HN := hid (node_any w1 w1.heap.size (Nat.le_refl _) _ n A w.heap.size 0 cap 1 0 1 (w1.alloc (.cells (checkCells 0) 101)) rfl (Nat.le_refl _) q0 q1 q2 q3 (HR.out.fresh hf1') ht (Blk.new _ _ _) ((Touch.refl _ _).alloc _) (by omega) (by decide))
  have HF1 := hid hf1'
  have hb2 := hb1.alloc (.cells (checkCells 0) 101)
  obtain ⟨r0, r1, r2, r3, _, _, _, _, hg2⟩ := Blk.four hb2
  clear hf1 hf1' hb1 hb2
  cases hk : (n.kind == 1) with
  | false =>
    go_wp2_with (refine wpList_build_kind [(0, .agg kindCells)] built_check _ rfl rfl rfl (.agg (checkCells 0)) rfl ?_)
    go_ret
    exact ⟨ret_bool' _ _ (by rw [hk]; rfl), HF1.out.alloc _⟩
  | true =>
    go_wp2_with (refine wpList_build_kind [(0, .agg kindCells)] built_check _ rfl rfl rfl (.agg (checkCells 0)) rfl ?_)
    refine HN.out.mono ?_
    rintro _ w2 ⟨m', rfl, hb3, ht3, _, _⟩
    have hf2 : Fresh w w2 := HF1.out.trans' (Touch.pre ht3) (fun i hi => by right; have := HF1.out.size; omega)
    have HF2 := hid hf2
    clear hf2 hb3 ht3 q0 q1 q2 q3 r0 r1 r2 r3
    go_wp2_with fail
    go_ret
    exact ⟨ret_bool' _ _ (by rw [hk]; rfl), HF2.out⟩
end Go.Proofs.Ytilgpmpiidccjaa
