/- The walk of lexer.Tokens. -/
import Derived.Test.YtleclhmdcdichaaLxT
import Derived.Test.YtleclhmdcdichaaLxK
namespace Go.Proofs.Ytleclhmdcdichaa
open Go.RowKit
attribute [local go_sem] Oper.semAt_some

def ptokCells (x : Lx.PTok) : List Value := [.int .i64 x.kind, .string ⟨x.text.toArray⟩, .int .i64 x.from_, .int .i64 x.to_]

theorem infoTok : (Try.prog.info? 28).map (fun i => (i.zero, i.size, i.bytes)) = some (some (.agg #[.int .i64 0, .string ⟨#[]⟩, .int .i64 0, .int .i64 0]), 4, 40) := by kernel_rfl

theorem built_lex (s : ByteArray) : Try.prog.built 45 [(0, .agg clsTable), (1, .string s)] = some (lexCells s 0 0 0) := by kernel_rfl
theorem wpList_build_lex {ops : Array Oper} {rest : List Oper} {o : Oper} {a : Act} {w : World} {Q : Exit → Act → World → Prop} (s : ByteArray) (hg : o.guard = none) (x y : Operand) (ho : o.op = .build 45 #[(0, x), (1, y)])
    (hx : a.eval x = .agg clsTable) (hy : a.eval y = .string s) (h : wpList Try.prog ops Q rest (a.put o.dst (.agg (lexCells s 0 0 0))) w) : wpList Try.prog ops Q (o :: rest) a w := by
  refine wpList_plain hg fun K hK => ?_
  unfold Oper.wp execOp
  simp only [ho, Sem.run_bind, List.map_toArray, List.map_cons, List.map_nil, hx, hy, run_build w 45 #[(0, .agg clsTable), (1, .string s)] _ (built_lex s), Result.andThen_ok]
  exact hK _ _ h

set_option maxHeartbeats 400000 in
theorem tokens_any (L : Nat) (w : World) :
    Calls Try.prog 17 #[.pointer (some ⟨L, 0, none⟩)] w fun e w' => e = .returned (.func (.func 23) #[] #[.pointer (some ⟨w.heap.size, 0, none⟩)]) ∧ w' = w.alloc (.cells #[.pointer (some ⟨L, 0, none⟩)] 41) := by
  go_enter Try.func17, Try.ntmps17
  go_wp2
  go_ret
  exact ⟨rfl, rfl⟩

end Go.Proofs.Ytleclhmdcdichaa
