/- Rows of trees that grow, and what is made: it stands whatever older memory turns. -/
import Derived.Test.YtloipakdnalpdaaTrS
import Derived.Test.YtloipakdnalpdaaQa15
import Derived.Test.YtloipakdnalpdaaQa13
import Derived.Test.YtloipakdnalpdaaQa3
namespace Go.Proofs.Ytloipakdnalpdaa
open Go.RowKit
open Tr (Nd)

theorem infoNodeG : (Try.prog.info? 24).map (fun i => (i.zero, i.size, i.bytes)) = some (some (.agg #[.int .i64 0, .string ⟨#[]⟩, .int .i64 0, .slice none 0 0]), 4, 56) := by kernel_rfl
/-- A tree that a call has made. -/
def MakesN (w w' : World) (n : Nd) (v : Value) : Prop := ∃ sl, v = nv n sl ∧ Fresh w w' ∧ n.text.length ≤ maxLen ∧ Stab (fun k => k < w.heap.size) w' fun W => RepL W n.kids sl
theorem NodesAt.one {W : World} {n : Nd} {sl : Value} (h : RepL W n.kids sl) (ht : n.text.length ≤ maxLen) : NodesAt W [n] [.int .i64 n.kind, .string ⟨n.text.toArray⟩, .int .i64 n.cols, sl] := ⟨sl, [], rfl, h, ht, rfl⟩
/-- A row of the call's own that holds trees and may be given on by append: blocks older than B, and its own, may turn. -/
def GrowN (B : Nat) (w : World) (ns : List Nd) (v : Value) : Prop := B ≤ w.heap.size ∧ ∃ cs, w.ownsRow B 24 4 v ns.length cs ∧ Stab (fun k => v.ownBlock = some k ∨ k < B) w fun W => NodesAt W ns cs
theorem GrowN.nil {B : Nat} {w : World} (hB : B ≤ w.heap.size) : GrowN B w [] (.slice none 0 0) := ⟨hB, [], World.ownsRow_nil _ _ _ _, fun _ _ => rfl⟩
theorem GrowN.own_lt {B : Nat} {w : World} {ns : List Nd} {v : Value} (h : GrowN B w ns v) : ∀ k, v.ownBlock = some k → B ≤ k ∧ k < w.heap.size := fun k hk => by
  obtain ⟨_, cs, h1, _⟩ := h
  exact h1.lt k hk
theorem GrowN.slice {B : Nat} {w : World} {ns : List Nd} {v : Value} (h : GrowN B w ns v) : ∃ A cap, v = .slice A ns.length cap := by
  obtain ⟨_, cs, h1, _⟩ := h
  exact own_slc h1
theorem GrowN.mv {B : Nat} {w w1 : World} {ns : List Nd} {v : Value} {S : Nat → Prop} (h : GrowN B w ns v) (ht : Touch S w w1) (hS : ∀ k, S k → k < w.heap.size → k < B) : GrowN B w1 ns v := by
  obtain ⟨hB, cs, h1, h2⟩ := h
  refine ⟨Nat.le_trans hB ht.size, cs, ownsRow_touch h1 ht fun k hk hs => ?_, h2.step ht (fun i hi hs => .inr (hS i hs hi)) (fun _ _ h => h)⟩
  have h3 := h1.lt k hk
  have := hS k hs h3.2
  omega
theorem GrowN.fresh {B : Nat} {w w1 : World} {ns : List Nd} {v : Value} (h : GrowN B w ns v) (ht : Fresh w w1) : GrowN B w1 ns v := h.mv ht fun _ h => h.elim
theorem GrowN.rep {B : Nat} {w : World} {ns : List Nd} {v : Value} (h : GrowN B w ns v) : RepL w ns v := by
  obtain ⟨_, cs, h1, h2⟩ := h
  exact h2.now.own h1
/-- The row is done: it stands whatever turns of what is older than B. -/
theorem GrowN.done {B : Nat} {w : World} {ns : List Nd} {v : Value} (h : GrowN B w ns v) : Stab (fun k => k < B) w fun W => RepL W ns v := fun _ hW => (h.mv hW fun _ h _ => h).rep
section
variable {w : World} {ops : Array Oper} {rest : List Oper} {o : Oper} {a : Act} {Q : Exit → Act → World → Prop}
set_option maxRecDepth 100000 in
/-- A tree is given on by append: it was made behind w0, at which the row stood already. -/
theorem wpList_append_node (hgd : o.guard = none) (s x : Operand)
    (ho : o.op = .call { callee := .builtin .append, args := #[s, x], argTypes := #[22, 22] })
    {B n g : Nat} {ns : List Nd} {v : Value} (h : GrowN B w ns v) (hn : ns.length = n) (hs : a.eval s = v) (m : Nd) {sl : Value} (hb : Blk w g 24 #[.int .i64 m.kind, .string ⟨m.text.toArray⟩, .int .i64 m.cols, sl]) (hx : a.eval x = .slice (some ⟨g, 0, none⟩) 1 1)
    (w0 : Nat) (hB : B ≤ w0) (hown : ∀ k, v.ownBlock = some k → k < w0) (htl : m.text.length ≤ maxLen) (hrv : Stab (fun k => k < w0) w fun W => RepL W m.kids sl) (hlen : n < 2 ^ 40)
    (hK : ∀ A cp w', GrowN B w' (ns ++ [m]) (.slice A (n + 1) cp) → Touch (fun k => v.ownBlock = some k) w w' → ((Value.slice A (n + 1) cp).ownBlock = v.ownBlock ∨ (Value.slice A (n + 1) cp).ownBlock = some w.heap.size) → wpList Try.prog ops Q rest (a.put o.dst (.slice A (n + 1) cp)) w') : wpList Try.prog ops Q (o :: rest) a w := by
  subst hn
  obtain ⟨hBw, cs, h1, h2⟩ := h
  obtain ⟨i, hi, hz0, hz1, hz2⟩ := info_parts infoNodeG
  have hv := hrv.now
  have h3 : ∀ u ∈ [Value.int .i64 m.kind, .string ⟨m.text.toArray⟩, .int .i64 m.cols, sl], u.oneCell' = true := by
    intro u hu
    simp only [List.mem_cons, List.not_mem_nil, or_false] at hu
    rcases hu with rfl | rfl | rfl | rfl
    · rfl
    · rfl
    · rfl
    · exact hv.oneCell
  refine wpList_append_src _ hgd s x 22 ho B 24 i _ 4 56 Try.underlying22 hi hz0 hz1 hz2 rfl (by decide) v ns.length cs hs h1 _ 1 _ hx (Src.of_blk hb rfl) h3 (by simp only [maxLen]; omega) (by omega) hBw fun v' w' ho' hgr hv' => ?_
  obtain ⟨A, cp, rfl⟩ := own_slc ho'
  have ht : Touch (fun k => v.ownBlock = some k) w w' := Touch.grown (Touch.refl _ _) hgr fun k hk => .inl hk
  refine hK A cp w' ⟨Nat.le_trans hBw hgr.size, _, by rw [List.length_append]; exact ho', ?_⟩ ht hv'
  have hS : ∀ i, i < w.heap.size → ((Value.slice A (ns.length + 1) cp).ownBlock = some i ∨ i < B) → (v.ownBlock = some i ∨ i < B) := fun i hi hs => by
    rcases hs with hs | hs
    · rcases hv' with h6 | h6 <;> rw [h6] at hs
      · exact .inl hs
      · cases hs; omega
    · exact .inr hs
  refine ((h2.step ht (fun i _ hs => .inl hs) hS).and (hrv.step ht (fun i hi hs => hown i hs) fun i hi hs => ?_)).imp fun W ⟨h6, h7⟩ => h6.append (NodesAt.one h7 htl)
  rcases hS i hi hs with h6 | h6
  · exact hown i h6
  · omega
end
end Go.Proofs.Ytloipakdnalpdaa
