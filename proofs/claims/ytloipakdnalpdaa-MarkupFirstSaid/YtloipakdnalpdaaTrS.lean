/- Slices of trees as rows of cells: their parts may be appended. -/
import Derived.Test.YtloipakdnalpdaaQa5
namespace Go.Proofs.Ytloipakdnalpdaa
open Go.RowKit

/-- These cells are those of these trees. -/
def NodesAt (W : World) : List Tr.Nd → List Value → Prop
  | [], cs => cs = []
  | k :: ks, cs => ∃ sl ds, cs = .int .i64 k.kind :: .string ⟨k.text.toArray⟩ :: .int .i64 k.cols :: sl :: ds ∧ RepL W k.kids sl ∧ k.text.length ≤ maxLen ∧ NodesAt W ks ds

theorem NodesAt.length {W : World} : ∀ {ks : List Tr.Nd} {cs : List Value}, NodesAt W ks cs → cs.length = ks.length * 4
  | [], cs, h => by rw [show cs = [] from h]; rfl
  | k :: ks, cs, ⟨sl, ds, h, _, _, hd⟩ => by
    have := NodesAt.length hd
    rw [h]
    simp only [List.length_cons]
    omega
theorem NodesAt.fresh {W W' : World} (hf : Fresh W W') : ∀ {ks : List Tr.Nd} {cs : List Value}, NodesAt W ks cs → NodesAt W' ks cs
  | [], _, h => h
  | _ :: _, _, ⟨sl, ds, h, hr, ht, hd⟩ => ⟨sl, ds, h, hr.fresh hf, ht, hd.fresh hf⟩
theorem NodesAt.append {W : World} : ∀ {ks ms : List Tr.Nd} {cs ds : List Value}, NodesAt W ks cs → NodesAt W ms ds → NodesAt W (ks ++ ms) (cs ++ ds)
  | [], _, cs, _, h, h' => by rw [show cs = [] from h]; exact h'
  | _ :: _, _, _, _, ⟨sl, es, h, hr, ht, hd⟩, h' => ⟨sl, es ++ _, by rw [h]; rfl, hr, ht, hd.append h'⟩
theorem RepL.oneCell {W : World} {ks : List Tr.Nd} {v : Value} (h : RepL W ks v) : v.oneCell' = true := by
  obtain ⟨A, cap, rfl⟩ := h.slice
  rfl
theorem NodesAt.oneCell {W : World} : ∀ {ks : List Tr.Nd} {cs : List Value}, NodesAt W ks cs → ∀ u ∈ cs, u.oneCell' = true
  | [], cs, h, u, hu => by rw [show cs = [] from h] at hu; cases hu
  | _ :: _, _, ⟨sl, ds, h, hr, _, hd⟩, u, hu => by
    rw [h] at hu
    rcases List.mem_cons.1 hu with rfl | hu
    · rfl
    · rcases List.mem_cons.1 hu with rfl | hu
      · rfl
      · rcases List.mem_cons.1 hu with rfl | hu
        · rfl
        · rcases List.mem_cons.1 hu with rfl | hu
          · exact hr.oneCell
          · exact hd.oneCell u hu
theorem nodes_of {W : World} {g : Nat} : ∀ (ks : List Tr.Nd) (o : Nat) (sl : Nat → Value), (∀ i (hi : i < ks.length), ks[i].text.length ≤ maxLen) → (∀ i (hi : i < ks.length), W.cell? ⟨g, o + i * 4, none⟩ = some (.int .i64 ks[i].kind)) →
    (∀ i (hi : i < ks.length), W.cell? ⟨g, o + i * 4 + 1, none⟩ = some (.string ⟨ks[i].text.toArray⟩)) → (∀ i (hi : i < ks.length), W.cell? ⟨g, o + i * 4 + 2, none⟩ = some (.int .i64 ks[i].cols)) → (∀ i, i < ks.length → W.cell? ⟨g, o + i * 4 + 3, none⟩ = some (sl i)) →
    (∀ i (hi : i < ks.length), RepL W ks[i].kids (sl i)) → ∃ cs, NodesAt W ks cs ∧ ∀ j u, cs[j]? = some u → W.cell? ⟨g, o + j, none⟩ = some u
  | [], o, sl, _, _, _, _, _, _ => ⟨[], rfl, fun j u hu => by simp at hu⟩
  | k :: ks, o, sl, ht, h0, h1, h2, h3, hk => by
    have e : ∀ i, o + (i + 1) * 4 = o + 4 + i * 4 := fun i => by omega
    obtain ⟨cs, hc, hx⟩ := nodes_of ks (o + 4) (fun i => sl (i + 1)) (fun i hi => ht (i + 1) (by simpa using hi)) (fun i hi => by rw [← e]; exact h0 (i + 1) (by simpa using hi)) (fun i hi => by rw [← e]; exact h1 (i + 1) (by simpa using hi))
      (fun i hi => by rw [← e]; exact h2 (i + 1) (by simpa using hi)) (fun i hi => by rw [← e]; exact h3 (i + 1) (by simpa using hi)) (fun i hi => hk (i + 1) (by simpa using hi))
    refine ⟨_, ⟨sl 0, cs, rfl, hk 0 (by simp), ht 0 (by simp), hc⟩, fun j u hu => ?_⟩
    match j, hu with
    | 0, hu => have := h0 0 (by simp); simp at hu this; rw [← hu]; exact this
    | 1, hu => have := h1 0 (by simp); simp at hu this; rw [← hu]; exact this
    | 2, hu => have := h2 0 (by simp); simp at hu this; rw [← hu]; exact this
    | 3, hu => have := h3 0 (by simp); simp at hu this; rw [← hu]; exact this
    | j + 4, hu =>
      have := hx j u (by simpa using hu)
      rw [show o + (j + 4) = o + 4 + j by omega]
      exact this
/-- A slice of trees, cell by cell. -/
theorem RepL.cells {W : World} {ks : List Tr.Nd} {A : Option Addr} {n cap : Nat} (h : RepL W ks (.slice A n cap)) :
    n = ks.length ∧ ∃ cs, NodesAt W ks cs ∧ (ks = [] ∨ ∃ g o, A = some ⟨g, o, none⟩ ∧ g < W.heap.size ∧ ∀ j u, cs[j]? = some u → W.cell? ⟨g, o + j, none⟩ = some u) := by
  generalize hv : Value.slice A n cap = v at h
  cases h with
  | nil A' cap' => cases hv; exact ⟨rfl, [], rfl, .inl rfl⟩
  | row g o cap' _ sl hg hl ht h0 h1 h2 h3 hk =>
    cases hv
    obtain ⟨cs, h1', h2'⟩ := nodes_of ks o sl ht h0 h1 h2 h3 hk
    exact ⟨rfl, cs, h1', .inr ⟨g, o, rfl, hg, h2'⟩⟩
theorem NodesAt.get {W : World} : ∀ {ks : List Tr.Nd} {cs : List Value}, NodesAt W ks cs → ∀ i (hi : i < ks.length), ∃ sl, cs[i * 4]? = some (.int .i64 ks[i].kind) ∧ cs[i * 4 + 1]? = some (.string ⟨ks[i].text.toArray⟩) ∧ cs[i * 4 + 2]? = some (.int .i64 ks[i].cols) ∧ cs[i * 4 + 3]? = some sl ∧
    RepL W ks[i].kids sl ∧ ks[i].text.length ≤ maxLen
  | [], _, _, i, hi => by simp at hi
  | k :: ks, cs, ⟨sl, ds, h, hr, ht, hd⟩, i, hi => by
    subst h
    cases i with
    | zero => exact ⟨sl, rfl, rfl, rfl, rfl, hr, ht⟩
    | succ i =>
      obtain ⟨s, g0, g1, g2, g3, g4, g5⟩ := hd.get i (by simpa using hi)
      refine ⟨s, ?_, ?_, ?_, ?_, g4, g5⟩
      · rw [show (i + 1) * 4 = i * 4 + 4 by omega]; exact g0
      · rw [show (i + 1) * 4 + 1 = i * 4 + 1 + 4 by omega]; exact g1
      · rw [show (i + 1) * 4 + 2 = i * 4 + 2 + 4 by omega]; exact g2
      · rw [show (i + 1) * 4 + 3 = i * 4 + 3 + 4 by omega]; exact g3
/-- Cells of trees in a block are a slice of trees. -/
theorem NodesAt.rep {W : World} {ks : List Tr.Nd} {cs : List Value} {g cap : Nat} (h : NodesAt W ks cs) (hg : g < W.heap.size) (hl : ks.length ≤ maxLen) (hc : ∀ j u, cs[j]? = some u → W.cell? ⟨g, j, none⟩ = some u) : RepL W ks (.slice (some ⟨g, 0, none⟩) ks.length cap) := by
  refine RepL.row g 0 cap ks (fun i => (cs[i * 4 + 3]?).getD (.bool false)) hg hl ?_ ?_ ?_ ?_ ?_ ?_
  all_goals (intro i hi; obtain ⟨sl, g0, g1, g2, g3, g4, g5⟩ := h.get i hi)
  · exact g5
  · rw [Nat.zero_add]; exact hc _ _ g0
  · rw [Nat.zero_add]; exact hc _ _ g1
  · rw [Nat.zero_add]; exact hc _ _ g2
  · rw [Nat.zero_add, g3]; exact hc _ _ g3
  · rw [g3]; exact g4
/-- A row of the call's own that holds trees. -/
theorem NodesAt.own {W : World} {ks : List Tr.Nd} {cs : List Value} {B e : Nat} {v : Value} (h : NodesAt W ks cs) (ho : W.ownsRow B e 4 v ks.length cs) : RepL W ks v := by
  rcases ho.2 with ⟨rfl, h0⟩ | ⟨g, cap, cur, rfl, hB, hb, h1, h2, _⟩
  · rw [List.length_eq_zero_iff.1 h0]
    exact .nil _ _
  · exact h.rep (ho.lt g rfl).2 (Nat.le_trans h1 h2) fun j u hu => by
      have := ho.cells (g := g) rfl j u hu
      rw [Addr.add_mid, Nat.zero_add] at this
      exact this
end Go.Proofs.Ytloipakdnalpdaa
