/- The reference printer's Item and Row, all kinds. -/
import Derived.Test.YtilgpmpiidccjaaPqF
namespace Go.Proofs.Ytilgpmpiidccjaa
open Go.RowKit
open Tr (Nd argT baseT rowT itemT cellsT View IsRow)

set_option maxRecDepth 100000 in
set_option maxHeartbeats 2000000 in
theorem item_script7_r (tx cl : Value) (ks : List Nd) (L : List Lx.Tok) (hs : ∀ (w : World) (sl : Value), RepL w ks sl → Calls Try.prog 90 #[.agg #[.int .i64 7, tx, cl, sl]] w (TokRes w L)) (w : World) (sl : Value) (hsl : RepL w ks sl) :
    Calls Try.prog 53 #[.agg #[.int .i64 7, tx, cl, sl]] w (TokRes w L) := by
  have HS := hid hs
  have HRS := hid hsl
  obtain ⟨A, cap, rfl⟩ := hsl.slice
  clear hs hsl
  go_enter Try.func53, Try.ntmps53
  go_wp2_with fail
  refine Calls.mono (HS.out _ _ (HRS.out.fresh (by first | exact (Touch.refl _ _) | exact (Touch.refl _ _).alloc _ | exact ((Touch.refl _ _).alloc _).alloc _ | exact (((Touch.refl _ _).alloc _).alloc _).alloc _ | exact (Touch.refl _ _).drewN _ | exact ((Touch.refl _ _).alloc _).drewN _ | exact (((Touch.refl _ _).alloc _).alloc _).drewN _))) ?_
  rintro _ w1 ⟨v1, rfl, how1, hfw1⟩
  have O1_w1 := hid (ownsRow_base (B' := w.heap.size) how1 (by first | exact Nat.le_refl _ | assumption | (simp only [World.size_alloc]; omega)))
  clear how1
  have HF1 := hid (show Fresh w w1 from by first | exact hfw1 | exact Touch.pre hfw1 | exact Touch.pre (Touch.pre hfw1) | exact Touch.ofN hfw1 | exact Touch.preN hfw1 | exact Touch.pre (Touch.pre (Touch.pre hfw1)))
  have B0_w1 : Blk w1 (w.heap.size) 24 #[.int .i64 (7 : Int), tx, cl, .slice A ks.length cap] := Touch.blk hfw1 (by first | exact Blk.new _ _ _ | exact (Blk.new _ _ _).alloc _ | exact Blk.new2 _ _ _ _ | exact ((Blk.new _ _ _).alloc _).alloc _ | exact (Blk.new2 _ _ _ _).alloc _ | exact Blk.new3 _ _ _ _ _ | assumption | exact Blk.alloc (by assumption) _ | exact (Blk.alloc (Blk.alloc (by assumption) _) _)) (fun h => h)
  have q0_0_w1 : World.cell? w1 ⟨w.heap.size, 0, none⟩ = some (.int .i64 (7 : Int)) := Blk.cell B0_w1 0
  have q0_1_w1 : World.cell? w1 ⟨w.heap.size, 1, none⟩ = some (tx) := Blk.cell B0_w1 1
  have q0_2_w1 : World.cell? w1 ⟨w.heap.size, 2, none⟩ = some (cl) := Blk.cell B0_w1 2
  have q0_3_w1 : World.cell? w1 ⟨w.heap.size, 3, none⟩ = some (.slice A ks.length cap) := Blk.cell B0_w1 3
  have hltb0_w1 : w.heap.size < w1.heap.size := Blk.lt B0_w1
  have hsz_w1 : w.heap.size ≤ w1.heap.size := Touch.size HF1.out
  clear hfw1
  go_wp2_with fail
  go_ret
  exact ⟨v1, rfl, ownCast (O1_w1.out) (by first | rfl | (simp only [List.append_assoc] <;> rfl) | (simp <;> rfl)), (by first | exact HF1.out | exact HF1.out.alloc _ | exact (HF1.out.alloc _).alloc _ | exact ((HF1.out.alloc _).alloc _).alloc _ | exact HF1.out.drewN _ | exact (HF1.out.alloc _).drewN _ | exact ((HF1.out.alloc _).alloc _).drewN _)⟩
set_option maxRecDepth 100000 in
set_option maxHeartbeats 2000000 in
theorem item_script8_r (tx cl : Value) (ks : List Nd) (L : List Lx.Tok) (hs : ∀ (w : World) (sl : Value), RepL w ks sl → Calls Try.prog 90 #[.agg #[.int .i64 8, tx, cl, sl]] w (TokRes w L)) (w : World) (sl : Value) (hsl : RepL w ks sl) :
    Calls Try.prog 53 #[.agg #[.int .i64 8, tx, cl, sl]] w (TokRes w L) := by
  have HS := hid hs
  have HRS := hid hsl
  obtain ⟨A, cap, rfl⟩ := hsl.slice
  clear hs hsl
  go_enter Try.func53, Try.ntmps53
  go_wp2_with fail
  refine Calls.mono (HS.out _ _ (HRS.out.fresh (by first | exact (Touch.refl _ _) | exact (Touch.refl _ _).alloc _ | exact ((Touch.refl _ _).alloc _).alloc _ | exact (((Touch.refl _ _).alloc _).alloc _).alloc _ | exact (Touch.refl _ _).drewN _ | exact ((Touch.refl _ _).alloc _).drewN _ | exact (((Touch.refl _ _).alloc _).alloc _).drewN _))) ?_
  rintro _ w1 ⟨v1, rfl, how1, hfw1⟩
  have O1_w1 := hid (ownsRow_base (B' := w.heap.size) how1 (by first | exact Nat.le_refl _ | assumption | (simp only [World.size_alloc]; omega)))
  clear how1
  have HF1 := hid (show Fresh w w1 from by first | exact hfw1 | exact Touch.pre hfw1 | exact Touch.pre (Touch.pre hfw1) | exact Touch.ofN hfw1 | exact Touch.preN hfw1 | exact Touch.pre (Touch.pre (Touch.pre hfw1)))
  have B0_w1 : Blk w1 (w.heap.size) 24 #[.int .i64 (8 : Int), tx, cl, .slice A ks.length cap] := Touch.blk hfw1 (by first | exact Blk.new _ _ _ | exact (Blk.new _ _ _).alloc _ | exact Blk.new2 _ _ _ _ | exact ((Blk.new _ _ _).alloc _).alloc _ | exact (Blk.new2 _ _ _ _).alloc _ | exact Blk.new3 _ _ _ _ _ | assumption | exact Blk.alloc (by assumption) _ | exact (Blk.alloc (Blk.alloc (by assumption) _) _)) (fun h => h)
  have q0_0_w1 : World.cell? w1 ⟨w.heap.size, 0, none⟩ = some (.int .i64 (8 : Int)) := Blk.cell B0_w1 0
  have q0_1_w1 : World.cell? w1 ⟨w.heap.size, 1, none⟩ = some (tx) := Blk.cell B0_w1 1
  have q0_2_w1 : World.cell? w1 ⟨w.heap.size, 2, none⟩ = some (cl) := Blk.cell B0_w1 2
  have q0_3_w1 : World.cell? w1 ⟨w.heap.size, 3, none⟩ = some (.slice A ks.length cap) := Blk.cell B0_w1 3
  have hltb0_w1 : w.heap.size < w1.heap.size := Blk.lt B0_w1
  have hsz_w1 : w.heap.size ≤ w1.heap.size := Touch.size HF1.out
  clear hfw1
  go_wp2_with fail
  go_ret
  exact ⟨v1, rfl, ownCast (O1_w1.out) (by first | rfl | (simp only [List.append_assoc] <;> rfl) | (simp <;> rfl)), (by first | exact HF1.out | exact HF1.out.alloc _ | exact (HF1.out.alloc _).alloc _ | exact ((HF1.out.alloc _).alloc _).alloc _ | exact HF1.out.drewN _ | exact (HF1.out.alloc _).drewN _ | exact ((HF1.out.alloc _).alloc _).drewN _)⟩
set_option maxRecDepth 100000 in
set_option maxHeartbeats 2000000 in
theorem item_script9_r (tx cl : Value) (ks : List Nd) (L : List Lx.Tok) (hs : ∀ (w : World) (sl : Value), RepL w ks sl → Calls Try.prog 90 #[.agg #[.int .i64 9, tx, cl, sl]] w (TokRes w L)) (w : World) (sl : Value) (hsl : RepL w ks sl) :
    Calls Try.prog 53 #[.agg #[.int .i64 9, tx, cl, sl]] w (TokRes w L) := by
  have HS := hid hs
  have HRS := hid hsl
  obtain ⟨A, cap, rfl⟩ := hsl.slice
  clear hs hsl
  go_enter Try.func53, Try.ntmps53
  go_wp2_with fail
  refine Calls.mono (HS.out _ _ (HRS.out.fresh (by first | exact (Touch.refl _ _) | exact (Touch.refl _ _).alloc _ | exact ((Touch.refl _ _).alloc _).alloc _ | exact (((Touch.refl _ _).alloc _).alloc _).alloc _ | exact (Touch.refl _ _).drewN _ | exact ((Touch.refl _ _).alloc _).drewN _ | exact (((Touch.refl _ _).alloc _).alloc _).drewN _))) ?_
  rintro _ w1 ⟨v1, rfl, how1, hfw1⟩
  have O1_w1 := hid (ownsRow_base (B' := w.heap.size) how1 (by first | exact Nat.le_refl _ | assumption | (simp only [World.size_alloc]; omega)))
  clear how1
  have HF1 := hid (show Fresh w w1 from by first | exact hfw1 | exact Touch.pre hfw1 | exact Touch.pre (Touch.pre hfw1) | exact Touch.ofN hfw1 | exact Touch.preN hfw1 | exact Touch.pre (Touch.pre (Touch.pre hfw1)))
  have B0_w1 : Blk w1 (w.heap.size) 24 #[.int .i64 (9 : Int), tx, cl, .slice A ks.length cap] := Touch.blk hfw1 (by first | exact Blk.new _ _ _ | exact (Blk.new _ _ _).alloc _ | exact Blk.new2 _ _ _ _ | exact ((Blk.new _ _ _).alloc _).alloc _ | exact (Blk.new2 _ _ _ _).alloc _ | exact Blk.new3 _ _ _ _ _ | assumption | exact Blk.alloc (by assumption) _ | exact (Blk.alloc (Blk.alloc (by assumption) _) _)) (fun h => h)
  have q0_0_w1 : World.cell? w1 ⟨w.heap.size, 0, none⟩ = some (.int .i64 (9 : Int)) := Blk.cell B0_w1 0
  have q0_1_w1 : World.cell? w1 ⟨w.heap.size, 1, none⟩ = some (tx) := Blk.cell B0_w1 1
  have q0_2_w1 : World.cell? w1 ⟨w.heap.size, 2, none⟩ = some (cl) := Blk.cell B0_w1 2
  have q0_3_w1 : World.cell? w1 ⟨w.heap.size, 3, none⟩ = some (.slice A ks.length cap) := Blk.cell B0_w1 3
  have hltb0_w1 : w.heap.size < w1.heap.size := Blk.lt B0_w1
  have hsz_w1 : w.heap.size ≤ w1.heap.size := Touch.size HF1.out
  clear hfw1
  go_wp2_with fail
  go_ret
  exact ⟨v1, rfl, ownCast (O1_w1.out) (by first | rfl | (simp only [List.append_assoc] <;> rfl) | (simp <;> rfl)), (by first | exact HF1.out | exact HF1.out.alloc _ | exact (HF1.out.alloc _).alloc _ | exact ((HF1.out.alloc _).alloc _).alloc _ | exact HF1.out.drewN _ | exact (HF1.out.alloc _).drewN _ | exact ((HF1.out.alloc _).alloc _).drewN _)⟩

theorem itemR (x : Nd) (v : View x) (hc : Tr.count x ≤ 10000) (h : ∀ a ∈ x.kids, RowR a) (hi : ∀ a ∈ x.kids, ∀ y ∈ a.kids, ItemR y) (hl : ∀ a ∈ x.kids, (rowT a.kids).length ≤ 50000) (hlen : (itemT x).length ≤ 50000) : ItemR x := by
  have hA : ∀ a ∈ x.kids, ArgR a := fun a ha => argument_r a (h a ha) (hi a ha) (hl a ha)
  have hB : ∀ a ∈ x.kids, BaseR a := fun a ha => base_r a (h a ha) (hi a ha) (hl a ha)
  intro w sl hr
  cases v with
  | sym t ht =>
    rw [Tr.itemT_sym]
    by_cases h1 : t.length = 1
    · rw [if_pos h1]; exact item_sym1_r t h1 _ sl w
    · rw [if_neg h1]
      have h0 : t.length ≠ 0 := fun e => by
        rw [List.length_eq_zero_iff.1 e] at ht
        revert ht; decide
      exact item_symn_r t (by omega) _ sl w
  | num t ht => rw [Tr.itemT_num]; exact item_num_r t _ sl w
  | text t ht => rw [Tr.itemT_text]; exact item_text_r t _ sl w
  | frac a b ha hb => rw [Tr.itemT_frac] at hlen ⊢; exact item_frac_r _ _ a b (hA a (by simp [Nd.kids])) (hA b (by simp [Nd.kids])) (by simp only [List.length_cons] at hlen; omega) w sl hr
  | root a b ha hb =>
    rw [Tr.itemT_root] at hlen ⊢
    by_cases hk : a.kids = []
    · rw [if_pos hk] at hlen ⊢; exact item_root_bare _ _ a b hk (hA b (by simp [Nd.kids])) (by simp only [List.length_cons, List.length_append, List.length_nil] at hlen; omega) w sl hr
    · rw [if_neg hk] at hlen ⊢
      rw [List.cons_append, List.append_assoc] at hlen ⊢
      exact item_root_full _ _ a b hk (h a (by simp [Nd.kids])) (hA b (by simp [Nd.kids])) (by simp only [List.length_cons, List.length_append] at hlen ⊢; omega) w sl hr
  | sub a b ha hb => rw [Tr.itemT_sub] at hlen ⊢; exact item_script7_r _ _ _ _ (rscripts_7 _ _ a b (hB a (by simp [Nd.kids])) (hA b (by simp [Nd.kids])) (by simp only [List.length_cons, List.length_append] at hlen ⊢; omega)) w sl hr
  | sup a b ha hb => rw [Tr.itemT_sup] at hlen ⊢; exact item_script8_r _ _ _ _ (rscripts_8 _ _ a b (hB a (by simp [Nd.kids])) (hA b (by simp [Nd.kids])) (by simp only [List.length_cons, List.length_append] at hlen ⊢; omega)) w sl hr
  | both a b d ha hb hd => rw [Tr.itemT_both] at hlen ⊢; exact item_script9_r _ _ _ _ (rscripts_9 _ _ a b d (hB a (by simp [Nd.kids])) (hA b (by simp [Nd.kids])) (hA d (by simp [Nd.kids])) (by simp only [List.length_cons, List.length_append] at hlen ⊢; omega)) w sl hr
  | accent t a ht ha => rw [Tr.itemT_accent] at hlen ⊢; exact item_accent_r t _ a (hA a (by simp [Nd.kids])) (by simp only [List.length_cons] at hlen; omega) w sl hr
  | fence t a ht ha =>
    rw [Tr.itemT_fence] at hlen ⊢
    by_cases h1 : t = [40, 41]
    · subst h1
      rw [if_pos (.inl rfl)]
      exact item_round_r _ a (h a (by simp [Nd.kids])) (hl a (by simp [Nd.kids])) w sl hr
    · by_cases h2 : t = [91, 93]
      · subst h2
        rw [if_pos (.inr rfl)]
        exact item_square_r _ a (h a (by simp [Nd.kids])) (hl a (by simp [Nd.kids])) w sl hr
      · rw [if_neg (fun h => h.elim h1 h2)] at hlen ⊢
        exact item_fence_r t h1 h2 _ a (hA a (by simp [Nd.kids])) (by simp only [List.length_cons] at hlen; omega) w sl hr
  | matrix c ks hc1 hn hm hk =>
    rw [Tr.itemT_matrix c ks (by rintro rfl; simp at hn)] at hlen ⊢
    have hle : c ≤ ks.length := by
      rcases Int.lt_or_le (ks.length : Int) c with h' | h'
      · rw [Int.emod_eq_of_lt (by omega) h'] at hm
        omega
      · exact h'
    have := Tr.countL_len ks
    rw [Tr.count] at hc
    exact item_matrix_r _ c ks hc1 (by omega) (fun k hk' => h k (by simpa [Nd.kids] using hk')) (by simp only [List.length_cons, List.length_append] at hlen; omega) w sl hr

theorem view_rows {x : Nd} (hv : View x) : ∀ b ∈ x.kids, IsRow b := by
  intro b hb
  cases hv with
  | sym t h => simp [Nd.kids] at hb
  | num t h => simp [Nd.kids] at hb
  | text t h => simp [Nd.kids] at hb
  | frac a b ha hb' => simp only [Nd.kids, List.mem_cons, List.not_mem_nil, or_false] at hb; rcases hb with rfl | rfl <;> assumption
  | root a b ha hb' => simp only [Nd.kids, List.mem_cons, List.not_mem_nil, or_false] at hb; rcases hb with rfl | rfl <;> assumption
  | sub a b ha hb' => simp only [Nd.kids, List.mem_cons, List.not_mem_nil, or_false] at hb; rcases hb with rfl | rfl <;> assumption
  | sup a b ha hb' => simp only [Nd.kids, List.mem_cons, List.not_mem_nil, or_false] at hb; rcases hb with rfl | rfl <;> assumption
  | both a b d ha hb' hd => simp only [Nd.kids, List.mem_cons, List.not_mem_nil, or_false] at hb; rcases hb with rfl | rfl | rfl <;> assumption
  | accent t a h ha => simp only [Nd.kids, List.mem_cons, List.not_mem_nil, or_false] at hb; subst hb; assumption
  | fence t a h ha => simp only [Nd.kids, List.mem_cons, List.not_mem_nil, or_false] at hb; subst hb; assumption
  | matrix c ks hc1 hn hm hk => exact hk b hb

theorem rows_items_r (m : Nat) : (∀ x : Nd, Tr.count x ≤ m → m ≤ 10000 → View x → ItemR x) ∧ (∀ a : Nd, Tr.count a ≤ m → m ≤ 10000 → IsRow a → RowR a) := by
  induction m with
  | zero => exact ⟨fun x h => by have := Tr.count_pos x; omega, fun x h => by have := Tr.count_pos x; omega⟩
  | succ m ih =>
    obtain ⟨ih1, ih2⟩ := ih
    have hI : ∀ x : Nd, Tr.count x ≤ m + 1 → m + 1 ≤ 10000 → View x → ItemR x := by
      intro x hc hm hv
      have h1 := Tr.count_kids x
      have hk : ∀ a ∈ x.kids, IsRow a ∧ Tr.count a ≤ m := fun a ha => ⟨view_rows hv a ha, by have := Tr.count_mem ha; omega⟩
      refine itemR x hv (by omega) (fun a ha => ih2 a (hk a ha).2 (by omega) (hk a ha).1) (fun a ha y hy => ih1 y ?_ (by omega) ((hk a ha).1.views y hy)) (fun a ha => ?_) ?_
      · have := (hk a ha).2
        have := Tr.count_kids a
        have := Tr.count_mem hy
        omega
      · have := row_len a (hk a ha).1
        have := (hk a ha).2
        omega
      · have := item_len _ x (Nat.le_refl _) hv
        omega
    refine ⟨hI, fun a hc hm ha => row_r a (fun x hx => hI x ?_ hm (ha.views x hx)) ?_⟩
    · have := Tr.count_kids a
      have := Tr.count_mem hx
      omega
    · have := row_len a ha
      omega
theorem rowR (a : Nd) (ha : IsRow a) (hc : Tr.count a ≤ 10000) : RowR a := (rows_items_r (Tr.count a)).2 a (Nat.le_refl _) hc ha
end Go.Proofs.Ytilgpmpiidccjaa
