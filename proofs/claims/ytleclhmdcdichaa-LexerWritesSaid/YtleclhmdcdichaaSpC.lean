/- The tests that each law of the lexer makes first. -/
import Derived.Test.YtleclhmdcdichaaLxU
import Derived.Lib.QuietBelow
namespace Go.Proofs.Ytleclhmdcdichaa
open Go.RowKit

theorem toks_cells {W : World} {B : Nat} {v : Value} {ts : List Lx.PTok} (h : W.ownsRow B 28 4 v ts.length (ts.flatMap ptokCells)) (i : Nat) (hi : i < ts.length) :
    ∃ g cap, v = .slice (some ⟨g, 0, none⟩) ts.length cap ∧ B ≤ g ∧ g < W.heap.size ∧ ∀ j u, (ptokCells ts[i])[j]? = some u → W.cell? ⟨g, 4 * i + j, none⟩ = some u := by
  rcases h.2 with ⟨_, h0⟩ | ⟨g, cap, cur, hv, hB, r⟩
  · omega
  · subst hv
    refine ⟨g, cap, rfl, hB, (h.lt g rfl).2, fun j u hu => ?_⟩
    have hcl := h.cells (g := g) rfl (4 * i + j) u ?_
    · rw [Addr.add_mid, Nat.zero_add] at hcl; exact hcl
    · have hj : j < 4 := by have := (List.getElem?_eq_some_iff.1 hu).1; simpa [ptokCells] using this
      clear h r
      induction ts generalizing i with
      | nil => simp at hi
      | cons x l ih =>
        cases i with
        | zero => rw [List.flatMap_cons, List.getElem?_append_left (by simp [ptokCells]; omega)]; simpa using hu
        | succ i =>
          rw [List.flatMap_cons, List.getElem?_append_right (by simp [ptokCells]; omega)]
          have := ih i (by simpa using hi) (by simpa using hu)
          rw [← this]; congr 1; simp [ptokCells]; omega

theorem lex_awake1 : Lx.lexAll [92, 102, 114, 97, 99, 32, 97, 98, 50, 46, 53, 94, 123, 120, 125] = ([⟨4, [102, 114, 97, 99], 0, 5⟩, ⟨1, [97], 6, 7⟩, ⟨1, [98], 7, 8⟩, ⟨2, [50, 46, 53], 8, 11⟩, ⟨7, [94], 11, 12⟩, ⟨7, [123], 12, 13⟩, ⟨1, [120], 13, 14⟩, ⟨7, [125], 14, 15⟩], none) := by decide +kernel
theorem lex_awake2 : (Lx.lexAll [49, 46]).2 = some (1, 3) ∧ (Lx.lexAll [49, 46]).1.length = 1 := by decide +kernel

theorem Tokens_ok {s : ByteArray} {w : World} {ts : List Lx.PTok} (h : Lx.lexAll s.data.toList = (ts, none)) (hm : s.size ≤ 1000000000) (hc : ts.length ≤ 8000) :
    Calls Try.prog 8 #[.string s] w fun e w' => Fresh w w' ∧ ∃ v, e = .returned (.tuple #[v, .int .i64 0, .int .i64 0]) ∧ w'.ownsRow w.heap.size 28 4 v ts.length (ts.flatMap ptokCells) := by
  have := Tokens_any s w hm (by rw [h]; exact hc)
  unfold TokensEnd at this
  rw [h] at this
  exact this
theorem Tokens_err {s : ByteArray} {w : World} {p er : Nat} (h : (Lx.lexAll s.data.toList).2 = some (p, er)) (hm : s.size ≤ 1000000000) (hc : (Lx.lexAll s.data.toList).1.length ≤ 8000) :
    Calls Try.prog 8 #[.string s] w fun e w' => Fresh w w' ∧ e = .returned (.tuple #[.slice none 0 0, .int .i64 p, .int .i64 er]) := by
  have := Tokens_any s w hm hc
  unfold TokensEnd at this
  rw [h] at this
  exact this

set_option maxHeartbeats 400000 in
theorem awake_any (w : World) : Calls Try.prog 7 #[] w fun e w' => e = .returned (.bool true) ∧ Fresh w w' := by
  go_enter Try.func7, Try.ntmps7
  go_wp2_with fail
  refine (Tokens_ok lex_awake1 (by decide) (by decide)).mono ?_
  rintro e1 w1 ⟨hf1, v, rfl, hr⟩
  obtain ⟨g, cap, rfl, _, hg, hc⟩ := toks_cells hr 3 (by decide)
  have c3 : w1.cell? ⟨g, 13, none⟩ = some (.string ⟨#[50, 46, 53]⟩) := hc 1 _ rfl
  clear hc hr
  simp only [List.length_cons, List.length_nil, Nat.reduceAdd]
  have HF1 := hid hf1
  clear hf1
  go_wp2_with fail
  refine (Tokens_err lex_awake2.1 (by decide) (by rw [show (Lx.lexAll _).1.length = 1 from lex_awake2.2]; decide)).mono ?_
  rintro e2 w2 ⟨hf2, rfl⟩
  have d3 : w2.cell? ⟨g, 13, none⟩ = some (.string ⟨#[50, 46, 53]⟩) := hf2.cell c3 (fun h => h)
  have HF2 := hid hf2
  clear hf2
  go_wp2_with fail
  go_ret
  exact ⟨rfl, HF1.out.trans HF2.out⟩
end Go.Proofs.Ytleclhmdcdichaa
