/- Part 7 of 12 of a proof; its texts, joined: RpG, SlA, SlB, NdF, NdG, NdH, NdI, NdJ, PrU, SnC, RegC, SnW. No condition. -/
import Derived.Test.YtdacpbdamliafaaGreatRo6
import Derived.Test.YtdacpbdamliafaaGreatRo4
import Derived.Test.YtdacpbdamliafaaGreatRo2
import Derived.Lib.AppendZeros
import Derived.Lib.SliceRun
import Derived.Test.YtdacpbdamliafaaGreatRo3
import Derived.Test.YtdacpbdamliafaaGreatRo5
import Derived.Test.YtdacpbdamliafaaGreatRo1
import Derived.OrdersHeld

/- The reference printer's Item and Row, all kinds. -/
namespace Go.Proofs.YtdacpbdamliafaaGreat
open Go.RowKit
open Tr (Nd argT baseT rowT itemT cellsT View IsRow)
set_option maxRecDepth 100000 in
set_option maxHeartbeats 2000000 in
theorem item_script7_r (tx cl : Value) (ks : List Nd) (L : List Lx.Tok) (hs : ∀ (w : World) (sl : Value), RepL w ks sl → Calls Tryz.prog 142 #[.agg #[.int .i64 7, tx, cl, sl]] w (TokRes w L)) (w : World) (sl : Value) (hsl : RepL w ks sl) :
  Calls Tryz.prog 102 #[.agg #[.int .i64 7, tx, cl, sl]] w (TokRes w L) := by
 have HS := hid hs
 have HRS := hid hsl
 obtain ⟨A, cap, rfl⟩ := hsl.slice
 clear hs hsl
 go_enter Tryz.func102, Tryz.ntmps102
 go_wp2_with fail
 refine Calls.mono (HS.out _ _ (HRS.out.fresh (frA (Touch.refl _ _)))) ?_
 rintro _ w1 ⟨v1, rfl, how1, hfw1⟩
 have O1_w1 := hid (ownsRow_base (B' := w.heap.size) how1 (by first | exact Nat.le_refl _ | assumption | (simp only [World.size_alloc]; omega)))
 clear how1
 have HF1 := hid (show Fresh w w1 from preA hfw1)
 have B0_w1 : Blk w1 (w.heap.size) 24 #[.int .i64 (7 : Int), tx, cl, .slice A ks.length cap] := Touch.blk hfw1 (by first | exact blkN | assumption | exact blkA (by assumption)) (fun h => h)
 obtain ⟨q0_0_w1, q0_1_w1, q0_2_w1, q0_3_w1, _⟩ := Blk.four B0_w1
 have hltb0_w1 : w.heap.size < w1.heap.size := Blk.lt B0_w1
 have hsz_w1 : w.heap.size ≤ w1.heap.size := Touch.size HF1.out
 clear hfw1
 go_wp2_with fail
 go_ret
 exact ⟨v1, rfl, ownCast (O1_w1.out) (by first | rfl | (simp only [List.append_assoc] <;> rfl) | (simp <;> rfl)), (frA HF1.out)⟩
set_option maxRecDepth 100000 in
set_option maxHeartbeats 2000000 in
theorem item_script8_r (tx cl : Value) (ks : List Nd) (L : List Lx.Tok) (hs : ∀ (w : World) (sl : Value), RepL w ks sl → Calls Tryz.prog 142 #[.agg #[.int .i64 8, tx, cl, sl]] w (TokRes w L)) (w : World) (sl : Value) (hsl : RepL w ks sl) :
  Calls Tryz.prog 102 #[.agg #[.int .i64 8, tx, cl, sl]] w (TokRes w L) := by
 have HS := hid hs
 have HRS := hid hsl
 obtain ⟨A, cap, rfl⟩ := hsl.slice
 clear hs hsl
 go_enter Tryz.func102, Tryz.ntmps102
 go_wp2_with fail
 refine Calls.mono (HS.out _ _ (HRS.out.fresh (frA (Touch.refl _ _)))) ?_
 rintro _ w1 ⟨v1, rfl, how1, hfw1⟩
 have O1_w1 := hid (ownsRow_base (B' := w.heap.size) how1 (by first | exact Nat.le_refl _ | assumption | (simp only [World.size_alloc]; omega)))
 clear how1
 have HF1 := hid (show Fresh w w1 from preA hfw1)
 have B0_w1 : Blk w1 (w.heap.size) 24 #[.int .i64 (8 : Int), tx, cl, .slice A ks.length cap] := Touch.blk hfw1 (by first | exact blkN | assumption | exact blkA (by assumption)) (fun h => h)
 obtain ⟨q0_0_w1, q0_1_w1, q0_2_w1, q0_3_w1, _⟩ := Blk.four B0_w1
 have hltb0_w1 : w.heap.size < w1.heap.size := Blk.lt B0_w1
 have hsz_w1 : w.heap.size ≤ w1.heap.size := Touch.size HF1.out
 clear hfw1
 go_wp2_with fail
 go_ret
 exact ⟨v1, rfl, ownCast (O1_w1.out) (by first | rfl | (simp only [List.append_assoc] <;> rfl) | (simp <;> rfl)), (frA HF1.out)⟩
set_option maxRecDepth 100000 in
set_option maxHeartbeats 2000000 in
theorem item_script9_r (tx cl : Value) (ks : List Nd) (L : List Lx.Tok) (hs : ∀ (w : World) (sl : Value), RepL w ks sl → Calls Tryz.prog 142 #[.agg #[.int .i64 9, tx, cl, sl]] w (TokRes w L)) (w : World) (sl : Value) (hsl : RepL w ks sl) :
  Calls Tryz.prog 102 #[.agg #[.int .i64 9, tx, cl, sl]] w (TokRes w L) := by
 have HS := hid hs
 have HRS := hid hsl
 obtain ⟨A, cap, rfl⟩ := hsl.slice
 clear hs hsl
 go_enter Tryz.func102, Tryz.ntmps102
 go_wp2_with fail
 refine Calls.mono (HS.out _ _ (HRS.out.fresh (frA (Touch.refl _ _)))) ?_
 rintro _ w1 ⟨v1, rfl, how1, hfw1⟩
 have O1_w1 := hid (ownsRow_base (B' := w.heap.size) how1 (by first | exact Nat.le_refl _ | assumption | (simp only [World.size_alloc]; omega)))
 clear how1
 have HF1 := hid (show Fresh w w1 from preA hfw1)
 have B0_w1 : Blk w1 (w.heap.size) 24 #[.int .i64 (9 : Int), tx, cl, .slice A ks.length cap] := Touch.blk hfw1 (by first | exact blkN | assumption | exact blkA (by assumption)) (fun h => h)
 obtain ⟨q0_0_w1, q0_1_w1, q0_2_w1, q0_3_w1, _⟩ := Blk.four B0_w1
 have hltb0_w1 : w.heap.size < w1.heap.size := Blk.lt B0_w1
 have hsz_w1 : w.heap.size ≤ w1.heap.size := Touch.size HF1.out
 clear hfw1
 go_wp2_with fail
 go_ret
 exact ⟨v1, rfl, ownCast (O1_w1.out) (by first | rfl | (simp only [List.append_assoc] <;> rfl) | (simp <;> rfl)), (frA HF1.out)⟩
theorem itemR (x : Nd) (v : View x) (hc : Tr.count x ≤ 10000) (h : ∀ a ∈ x.kids, RowR a) (hi : ∀ a ∈ x.kids, ∀ y ∈ a.kids, ItemR y) (hl : ∀ a ∈ x.kids, (rowT a.kids).length ≤ 50000) (hlen : (itemT x).length ≤ 50000) : ItemR x := by
 have hA : ∀ a ∈ x.kids, ArgR a := fun a ha => argument_r a (h a ha) (hi a ha) (hl a ha)
 have hB : ∀ a ∈ x.kids, BaseR a := fun a ha => base_r a (h a ha) (hi a ha) (hl a ha)
 intro w sl hr
 cases v with
 | sym t ht =>
  rw [Tr.itemT_sym]
  by_cases h1 : t.length = 1
  ·rw [if_pos h1]; exact item_sym1_r t h1 _ sl w
  ·rw [if_neg h1]
   have h0 : t.length ≠ 0 := fun e => by
    rw [List.length_eq_zero_iff.1 e] at ht
    revert ht; decide
   exact item_symn_r t (by omega) _ sl w
 | num t ht => rw [Tr.itemT_num]; exact item_num_r t _ sl w
 | text t ht => rw [Tr.itemT_text]; exact item_text_r t _ sl w
 | frac a b ha hb => rw [Tr.itemT_frac] at hlen ⊢; exact item_frac_r _ _ a b (hA a (by simp [Nd.kids])) (hA b (by simp [Nd.kids])) (by simp only [List.length_cons] at hlen; omega) w sl hr
 | root a b ha hb =>
  rw [Tr.itemT_root] at hlen ⊢
  by_cases hk : a.kids = []
  ·rw [if_pos hk] at hlen ⊢; exact item_root_bare _ _ a b hk (hA b (by simp [Nd.kids])) (by simp only [List.length_cons, List.length_append, List.length_nil] at hlen; omega) w sl hr
  ·rw [if_neg hk] at hlen ⊢
   rw [List.cons_append, List.append_assoc] at hlen ⊢
   exact item_root_full _ _ a b hk (h a (by simp [Nd.kids])) (hA b (by simp [Nd.kids])) (by simp only [List.length_cons, List.length_append] at hlen ⊢; omega) w sl hr
 | sub a b ha hb => rw [Tr.itemT_sub] at hlen ⊢; exact item_script7_r _ _ _ _ (rscripts_7 _ _ a b (hB a (by simp [Nd.kids])) (hA b (by simp [Nd.kids])) (by simp only [List.length_cons, List.length_append] at hlen ⊢; omega)) w sl hr
 | sup a b ha hb => rw [Tr.itemT_sup] at hlen ⊢; exact item_script8_r _ _ _ _ (rscripts_8 _ _ a b (hB a (by simp [Nd.kids])) (hA b (by simp [Nd.kids])) (by simp only [List.length_cons, List.length_append] at hlen ⊢; omega)) w sl hr
 | both a b d ha hb hd => rw [Tr.itemT_both] at hlen ⊢; exact item_script9_r _ _ _ _ (rscripts_9 _ _ a b d (hB a (by simp [Nd.kids])) (hA b (by simp [Nd.kids])) (hA d (by simp [Nd.kids])) (by simp only [List.length_cons, List.length_append] at hlen ⊢; omega)) w sl hr
 | accent t a ht ha => rw [Tr.itemT_accent] at hlen ⊢; exact item_accent_r t _ a (hA a (by simp [Nd.kids])) (by simp only [List.length_cons] at hlen; omega) w sl hr
 | fence t a ht ha =>
  rw [Tr.itemT_fence] at hlen ⊢
  by_cases h1 : t = [40, 41]
  ·subst h1
   rw [if_pos (.inl rfl)]
   exact item_round_r _ a (h a (by simp [Nd.kids])) (hl a (by simp [Nd.kids])) w sl hr
  ·by_cases h2 : t = [91, 93]
   ·subst h2
    rw [if_pos (.inr rfl)]
    exact item_square_r _ a (h a (by simp [Nd.kids])) (hl a (by simp [Nd.kids])) w sl hr
   ·rw [if_neg (fun h => h.elim h1 h2)] at hlen ⊢
    exact item_fence_r t h1 h2 _ a (hA a (by simp [Nd.kids])) (by simp only [List.length_cons] at hlen; omega) w sl hr
 | matrix c ks hc1 hn hm hk =>
  rw [Tr.itemT_matrix c ks (by rintro rfl; simp at hn)] at hlen ⊢
  have hle : c ≤ ks.length := by
   rcases Int.lt_or_le (ks.length : Int) c with h' | h'
   ·rw [Int.emod_eq_of_lt (by omega) h'] at hm
    omega
   ·exact h'
  have := Tr.countL_len ks
  rw [Tr.count] at hc
  exact item_matrix_r _ c ks hc1 (by omega) (fun k hk' => h k (by simpa [Nd.kids] using hk')) (by simp only [List.length_cons, List.length_append] at hlen; omega) w sl hr
theorem view_rows {x : Nd} (hv : View x) : ∀ b ∈ x.kids, IsRow b := by
 intro b hb
 cases hv with
 | sym t h => simp [Nd.kids] at hb
 | num t h => simp [Nd.kids] at hb
 | text t h => simp [Nd.kids] at hb
 | frac a b ha hb' => simp only [Nd.kids, List.mem_cons, List.not_mem_nil, or_false] at hb; rcases hb with rfl | rfl <;> assumption
 | root a b ha hb' => simp only [Nd.kids, List.mem_cons, List.not_mem_nil, or_false] at hb; rcases hb with rfl | rfl <;> assumption
 | sub a b ha hb' => simp only [Nd.kids, List.mem_cons, List.not_mem_nil, or_false] at hb; rcases hb with rfl | rfl <;> assumption
 | sup a b ha hb' => simp only [Nd.kids, List.mem_cons, List.not_mem_nil, or_false] at hb; rcases hb with rfl | rfl <;> assumption
 | both a b d ha hb' hd => simp only [Nd.kids, List.mem_cons, List.not_mem_nil, or_false] at hb; rcases hb with rfl | rfl | rfl <;> assumption
 | accent t a h ha => simp only [Nd.kids, List.mem_cons, List.not_mem_nil, or_false] at hb; subst hb; assumption
 | fence t a h ha => simp only [Nd.kids, List.mem_cons, List.not_mem_nil, or_false] at hb; subst hb; assumption
 | matrix c ks hc1 hn hm hk => exact hk b hb
theorem rows_items_r (m : Nat) : (∀ x : Nd, Tr.count x ≤ m → m ≤ 10000 → View x → ItemR x) ∧ (∀ a : Nd, Tr.count a ≤ m → m ≤ 10000 → IsRow a → RowR a) := by
 induction m with
 | zero => exact ⟨fun x h => by have := Tr.count_pos x; omega, fun x h => by have := Tr.count_pos x; omega⟩
 | succ m ih =>
  obtain ⟨ih1, ih2⟩ := ih
  have hI : ∀ x : Nd, Tr.count x ≤ m + 1 → m + 1 ≤ 10000 → View x → ItemR x := by
   intro x hc hm hv
   have h1 := Tr.count_kids x
   have hk : ∀ a ∈ x.kids, IsRow a ∧ Tr.count a ≤ m := fun a ha => ⟨view_rows hv a ha, by have := Tr.count_mem ha; omega⟩
   refine itemR x hv (by omega) (fun a ha => ih2 a (hk a ha).2 (by omega) (hk a ha).1) (fun a ha y hy => ih1 y ?_ (by omega) ((hk a ha).1.views y hy)) (fun a ha => ?_) ?_
   ·have := (hk a ha).2
    have := Tr.count_kids a
    have := Tr.count_mem hy
    omega
   ·have := row_len a (hk a ha).1
    have := (hk a ha).2
    omega
   ·have := item_len _ x (Nat.le_refl _) hv
    omega
  refine ⟨hI, fun a hc hm ha => row_r a (fun x hx => hI x ?_ hm (ha.views x hx)) ?_⟩
  ·have := Tr.count_kids a
   have := Tr.count_mem hx
   omega
  ·have := row_len a ha
   omega
theorem rowR (a : Nd) (ha : IsRow a) (hc : Tr.count a ≤ 10000) : RowR a := (rows_items_r (Tr.count a)).2 a (Nat.le_refl _) hc ha
end Go.Proofs.YtdacpbdamliafaaGreat

/- Slices of numbers: slices.Equal, slices.Compare. -/
namespace Go.Proofs.YtdacpbdamliafaaGreat
open Go.RowKit
def Ints (w : World) (v : Value) (l : List Int) : Prop :=
 ∃ A cap, v = .slice A l.length cap ∧ (l = [] ∨ ∃ g o, A = some ⟨g, o, none⟩ ∧ g < w.heap.size ∧ ∀ i (h : i < l.length), w.cell? ⟨g, o + i, none⟩ = some (.int .i64 l[i]))
theorem Ints.get {w : World} {A : Option Addr} {n cap : Nat} {l : List Int} (h : Ints w (.slice A n cap) l) (i : Nat) (hi : i < l.length) : ∃ g o, A = some ⟨g, o, none⟩ ∧ g < w.heap.size ∧ w.cell? ⟨g, o + i, none⟩ = some (.int .i64 l[i]) := by
 obtain ⟨A', cap', hv, h⟩ := h
 cases hv
 rcases h with rfl | ⟨g, o, h1, h2, h3⟩
 ·simp at hi
 ·exact ⟨g, o, h1, h2, h3 i hi⟩
theorem Ints.slice {w : World} {v : Value} {l : List Int} (h : Ints w v l) : ∃ A cap, v = .slice A l.length cap := by
 obtain ⟨A, cap, h, _⟩ := h
 exact ⟨A, cap, h⟩
theorem Ints.nil (w : World) (A : Option Addr) (cap : Nat) : Ints w (.slice A 0 cap) [] := ⟨A, cap, rfl, .inl rfl⟩
theorem Ints.fresh {w w' : World} {v : Value} {l : List Int} (h : Ints w v l) (hf : Fresh w w') : Ints w' v l := by
 obtain ⟨A, cap, h, h'⟩ := h
 exact ⟨A, cap, h, h'.imp id fun ⟨g, o, h1, h2, h3⟩ => ⟨g, o, h1, Nat.lt_of_lt_of_le h2 hf.size, fun i hi => hf.cell (h3 i hi) (fun h => h)⟩⟩
theorem Ints.own {w : World} {B e : Nat} {v : Value} {l : List Int} (h : w.ownsRow B e 1 v l.length (l.map fun x => .int .i64 x)) : Ints w v l := by
 rcases h.2 with ⟨h1, h2⟩ | ⟨g, cap, cur, h1, _⟩
 ·rw [List.length_eq_zero_iff.1 h2, h1]
  exact Ints.nil _ _ _
 ·refine ⟨_, cap, h1, .inr ⟨g, 0, rfl, (h.lt g (by rw [h1]; rfl)).2, fun i hi => ?_⟩⟩
  have := h.cells (g := g) (by rw [h1]; rfl) i (.int .i64 l[i]) (by simp [hi])
  rw [Addr.add_mid, Nat.zero_add] at this
  rw [Nat.zero_add]
  exact this
theorem take_snoc_eq (a b : List Int) (j : Nat) (ha : j < a.length) (hb : j < b.length) (h : a.take j = b.take j) (he : a[j] = b[j]) : a.take (j + 1) = b.take (j + 1) := by
 rw [List.take_succ_eq_append_getElem ha, List.take_succ_eq_append_getElem hb, h, he]
set_option maxHeartbeats 1000000 in
theorem equal_ints (a b : List Int) (va vb : Value) (w : World) (h1 : Ints w va a) (h2 : Ints w vb b) (ha : a.length ≤ maxLen) (hb : b.length ≤ maxLen) :
  Calls Tryz.prog 40 #[va, vb] w fun e w' => e = .returned (.bool (decide (a = b))) ∧ Fresh w w' := by
 unfold maxLen at ha hb
 obtain ⟨A, cap, rfl⟩ := h1.slice
 obtain ⟨B, cbp, rfl⟩ := h2.slice
 have HA := hid h1
 have HB := hid h2
 clear h1 h2
 by_cases c0 : a.length = b.length
 ·have b0 : ((a.length : Int) == (b.length : Int)) = true := by rw [c0]; simp
  have b0' : ((a.length : Int) != (b.length : Int)) = false := by rw [bne, b0]; rfl
  have C0 := hid c0
  clear c0
  go_enter Tryz.func40, Tryz.ntmps40
  go_wp2_with fail
  go_loopw [13] (fun i wr => ∃ j : Nat, i = .int .i64 j ∧ j ≤ a.length ∧ Hid (a.take j = b.take j) ∧ Hid (Fresh w wr)) (fun i _ => a.length - (intOf i).toNat)
  case atStart => exact ⟨0, rfl, Nat.zero_le _, rfl, Touch.refl _ _⟩
  case round =>
   obtain ⟨j, rfl, hj, HT, HF⟩ := hrel
   by_cases c1 : j < a.length
   ·have d1 : decide ((j : Int) < (a.length : Int)) = true := by simp; omega
    have d1' : (j : Int) < (a.length : Int) := by omega
    have c1y : j < b.length := by rw [← C0.out]; exact c1
    have d1y : (j : Int) < (b.length : Int) := by omega
    obtain ⟨g, o, rfl, _, m0⟩ := HA.out.get j c1
    obtain ⟨g', o', rfl, _, n0⟩ := HB.out.get j c1y
    have HS := hid (take_snoc_eq a b j c1 c1y HT.out)
    have HN := hid (show a[j] ≠ b[j] → a ≠ b from fun h e => by subst e; exact h rfl)
    have a0 := HF.out.cell m0 (fun h => h)
    have b1 := HF.out.cell n0 (fun h => h)
    clear m0 n0
    generalize a[j] = x at *
    generalize b[j] = y at *
    cases e : (x == y) with
    | true =>
     have e' : (x != y) = false := by rw [bne, e]; rfl
     go_wp2_with fail
     go_quiet (fail)
     go_wp2_with fail
     go_roundw
     case rel => exact ⟨j + 1, by go_num, c1, HS.out (by simpa using e), HF.out.drewN _⟩
     case measure => simp [intOf]; omega
    | false =>
     have e' : (x != y) = true := by rw [bne, e]; rfl
     go_wp2_with fail
     go_quiet (fail)
     go_wp2_with fail
     go_ret
     exact ⟨by rw [decide_eq_false (HN.out (by simpa using e))]; rfl, HF.out.drewN _⟩
   ·have d1 : decide ((j : Int) < (a.length : Int)) = false := by simp; omega
    obtain rfl : j = a.length := by omega
    go_wp2_with fail
    go_ret
    refine ⟨?_, HF.out⟩
    have := HT.out
    rw [List.take_length, C0.out, List.take_length] at this
    rw [decide_eq_true this]
    rfl
 ·have b0 : ((a.length : Int) == (b.length : Int)) = false := by rw [beq_eq_false_iff_ne]; omega
  have b0' : ((a.length : Int) != (b.length : Int)) = true := by rw [bne, b0]; rfl
  have HLN := hid (show a ≠ b from fun e => c0 (by rw [e]))
  clear c0
  go_enter Tryz.func40, Tryz.ntmps40
  go_wp2_with fail
  go_ret
  exact ⟨by rw [decide_eq_false HLN.out]; rfl, Touch.refl _ _⟩
def cmpI : List Int → List Int → Int
 | [], [] => 0
 | [], _ :: _ => -1
 | _ :: _, [] => 1
 | a :: l, b :: m => if a < b then -1 else if b < a then 1 else cmpI l m
def cmp1 (a b : Int) : Int := if a < b then -1 else if b < a then 1 else 0
theorem nan_int (x : Int) (w : World) : Calls Tryz.prog 145 #[.int .i64 x] w fun e w' => e = .returned (.bool false) ∧ w' = w := by
 have e : (x == x) = true := by simp
 have e' : (x != x) = false := by simp
 go_enter Tryz.func145, Tryz.ntmps145
 go_wp2_with fail
 go_ret
 exact ⟨rfl, rfl⟩
theorem cmp_int (x y : Int) (w : World) : Calls Tryz.prog 104 #[.int .i64 x, .int .i64 y] w fun e w' => e = .returned (.int .i64 (cmp1 x y)) ∧ w' = w := by
 by_cases c1 : x < y
 ·have e1 : decide (x < y) = true := by simp [c1]
  have HR := hid (show cmp1 x y = -1 by unfold cmp1; rw [if_pos c1])
  go_enter Tryz.func104, Tryz.ntmps104
  go_wp2_with (with_reducible refine (nan_int _ _).mono ?_; rintro _ _ ⟨rfl, rfl⟩)
  go_ret
  exact ⟨by rw [HR.out]; rfl, rfl⟩
 ·have e1 : decide (x < y) = false := by simp; omega
  by_cases c2 : y < x
  ·have e2 : decide (y < x) = true := by simp [c2]
   have HR := hid (show cmp1 x y = 1 by unfold cmp1; rw [if_neg c1, if_pos c2])
   go_enter Tryz.func104, Tryz.ntmps104
   go_wp2_with (with_reducible refine (nan_int _ _).mono ?_; rintro _ _ ⟨rfl, rfl⟩)
   go_ret
   exact ⟨by rw [HR.out]; rfl, rfl⟩
  ·have e2 : decide (y < x) = false := by simp; omega
   have HR := hid (show cmp1 x y = 0 by unfold cmp1; rw [if_neg c1, if_neg c2])
   go_enter Tryz.func104, Tryz.ntmps104
   go_wp2_with (with_reducible refine (nan_int _ _).mono ?_; rintro _ _ ⟨rfl, rfl⟩)
   go_ret
   exact ⟨by rw [HR.out]; rfl, rfl⟩
theorem cmpI_cons (a b : Int) (l m : List Int) : cmpI (a :: l) (b :: m) = if cmp1 a b = 0 then cmpI l m else cmp1 a b := by
 rw [cmpI]
 unfold cmp1
 by_cases h1 : a < b
 ·rw [if_pos h1, if_pos h1]; rfl
 ·rw [if_neg h1, if_neg h1]
  by_cases h2 : b < a
  ·rw [if_pos h2, if_pos h2]; rfl
  ·rw [if_neg h2, if_neg h2]; rfl
set_option maxHeartbeats 1000000 in
theorem compare_ints (a b : List Int) (va vb : Value) (w : World) (h1 : Ints w va a) (h2 : Ints w vb b) (ha : a.length ≤ maxLen) (_hb : b.length ≤ maxLen) :
  Calls Tryz.prog 73 #[va, vb] w fun e w' => e = .returned (.int .i64 (cmpI a b)) ∧ Fresh w w' := by
 unfold maxLen at ha _hb
 obtain ⟨A, cap, rfl⟩ := h1.slice
 obtain ⟨B, cbp, rfl⟩ := h2.slice
 have HA := hid h1
 have HB := hid h2
 clear h1 h2
 go_enter Tryz.func73, Tryz.ntmps73
 go_wp2_with fail
 go_loopw [11] (fun i wr => ∃ j : Nat, i = .int .i64 j ∧ j ≤ a.length ∧ j ≤ b.length ∧ Hid (cmpI (a.drop j) (b.drop j) = cmpI a b) ∧ Hid (Fresh w wr)) (fun i _ => a.length - (intOf i).toNat)
 case atStart => exact ⟨0, rfl, Nat.zero_le _, Nat.zero_le _, rfl, Touch.refl _ _⟩
 case round =>
  obtain ⟨j, rfl, hj, hjb, HT, HF⟩ := hrel
  by_cases c1 : j < a.length
  ·have d1 : decide ((j : Int) < (a.length : Int)) = true := by simp; omega
   have d1' : (j : Int) < (a.length : Int) := by omega
   by_cases c2 : j < b.length
   ·have d2 : decide ((b.length : Int) ≤ (j : Int)) = false := by simp; omega
    have d2' : (j : Int) < (b.length : Int) := by omega
    obtain ⟨g, o, rfl, _, m0⟩ := HA.out.get j c1
    obtain ⟨g', o', rfl, _, n0⟩ := HB.out.get j c2
    have HS := hid (show cmpI a b = if cmp1 a[j] b[j] = 0 then cmpI (a.drop (j + 1)) (b.drop (j + 1)) else cmp1 a[j] b[j] by
     rw [← HT.out, List.drop_eq_getElem_cons c1, List.drop_eq_getElem_cons c2, cmpI_cons])
    have a0 := HF.out.cell m0 (fun h => h)
    have b1 := HF.out.cell n0 (fun h => h)
    clear m0 n0
    generalize a[j] = x at *
    generalize b[j] = y at *
    cases e : (cmp1 x y == 0) with
    | true =>
     have e' : (cmp1 x y != 0) = false := by rw [bne, e]; rfl
     go_wp2_with fail
     refine (cmp_int _ _ _).mono ?_
     rintro _ wq ⟨rfl, hw⟩
     replace hw := hw.symm
     subst hw
     go_wp2_with fail
     go_roundw
     case rel => exact ⟨j + 1, by go_num, c1, c2, by unfold Hid; rw [HS.out, if_pos (by simpa using e)], HF.out⟩
     case measure => simp [intOf]; omega
    | false =>
     have e' : (cmp1 x y != 0) = true := by rw [bne, e]; rfl
     go_wp2_with fail
     refine (cmp_int _ _ _).mono ?_
     rintro _ wq ⟨rfl, hw⟩
     replace hw := hw.symm
     subst hw
     go_wp2_with fail
     go_ret
     exact ⟨by rw [HS.out, if_neg (by simpa using e)]; rfl, HF.out⟩
   ·have d2 : decide ((b.length : Int) ≤ (j : Int)) = true := by simp; omega
    have HR := hid (show cmpI a b = 1 by
     rw [← HT.out, List.drop_eq_getElem_cons c1, List.drop_eq_nil_of_le (show b.length ≤ j by omega)]; rfl)
    obtain ⟨g, o, rfl, _, m0⟩ := HA.out.get j c1
    have a0 := HF.out.cell m0 (fun h => h)
    clear m0
    generalize a[j] = x at *
    go_wp2_with fail
    go_ret
    exact ⟨by rw [HR.out]; rfl, HF.out⟩
  ·have d1 : decide ((j : Int) < (a.length : Int)) = false := by simp; omega
   obtain rfl : j = a.length := by omega
   by_cases c2 : a.length < b.length
   ·have d2 : decide ((a.length : Int) < (b.length : Int)) = true := by simp; omega
    have HR := hid (show cmpI a b = -1 by
     rw [← HT.out, List.drop_eq_nil_of_le (Nat.le_refl _), List.drop_eq_getElem_cons c2]; rfl)
    go_wp2_with fail
    go_ret
    exact ⟨by rw [HR.out]; rfl, HF.out⟩
   ·have d2 : decide ((a.length : Int) < (b.length : Int)) = false := by simp; omega
    have HR := hid (show cmpI a b = 0 by
     rw [← HT.out, List.drop_eq_nil_of_le (Nat.le_refl _), List.drop_eq_nil_of_le (by omega)]; rfl)
    go_wp2_with fail
    go_ret
    exact ⟨by rw [HR.out]; rfl, HF.out⟩
theorem pcompare_ints (a b : List Int) (va vb : Value) (w : World) (h1 : Ints w va a) (h2 : Ints w vb b) (ha : a.length ≤ maxLen) (hb : b.length ≤ maxLen) :
  Calls Tryz.prog 46 #[va, vb] w fun e w' => e = .returned (.int .i64 (cmpI a b)) ∧ Fresh w w' := by
 go_enter Tryz.func46, Tryz.ntmps46
 go_wp2_with fail
 refine (compare_ints a b va vb _ h1 h2 ha hb).mono ?_
 rintro _ w1 ⟨rfl, hf⟩
 go_wp2_with fail
 go_ret
 exact ⟨rfl, hf⟩
end Go.Proofs.YtdacpbdamliafaaGreat

/- Slices of numbers: slices.Clone, slices.Grow, slices.Concat, deep.Ints. -/
namespace Go.Proofs.YtdacpbdamliafaaGreat
open Go.RowKit
abbrev intVs (l : List Int) : List Value := l.map fun x => .int .i64 x
theorem intVs_len (l : List Int) : (intVs l).length = l.length * 1 := by simp
theorem intVs_one (l : List Int) : ∀ u ∈ intVs l, u.oneCell' = true := by
 intro u hu
 obtain ⟨x, _, rfl⟩ := List.mem_map.1 hu
 rfl
theorem Src.of_ints {w : World} {v : Value} {l : List Int} (h : Ints w v l) : Src w 1 v l.length (intVs l) := by
 obtain ⟨A, cap, rfl, h⟩ := h
 refine ⟨A, cap, rfl, intVs_len l, ?_⟩
 rcases h with rfl | ⟨g, o, rfl, _, hc⟩
 ·cases A with
  | none => exact .inl ⟨rfl, rfl, rfl⟩
  | some a => exact .inr ⟨a, rfl, fun j u hu => by simp at hu⟩
 ·refine .inr ⟨_, rfl, fun j u hu => ?_⟩
  have hj : j < l.length := by have := (List.getElem?_eq_some_iff.1 hu).1; simpa using this
  rw [List.getElem?_map, List.getElem?_eq_getElem hj] at hu
  simp only [Option.map_some, Option.some.injEq] at hu
  rw [Addr.add_mid, ← hu]
  exact hc j hj
theorem infoInt : (Tryz.prog.info? 3).map (fun i => (i.zero, i.size, i.bytes)) = some (some (.int .i64 0), 1, 8) := by kernel_rfl
def IntsRow (w : World) (l : List Int) (e : Ending) (w' : World) : Prop := ∃ v, e = .returned v ∧ w'.ownsRow w.heap.size 3 1 v l.length (intVs l) ∧ Fresh w w'
theorem touch_grown {w w1 w2 : World} {v : Value} {B e size n : Nat} {xs : List Value} (hf : Fresh w w1) (ho : w1.ownsRow B e size v n xs) (hB : w.heap.size ≤ B) (hg : w1.grownBy w2 v.ownBlock) : Fresh w w2 :=
 Touch.grown hf hg fun g hgv => .inr (Nat.le_trans hB (ho.lt g hgv).1)
set_option maxRecDepth 100000 in
set_option maxHeartbeats 1000000 in
theorem clone_ints (l : List Int) (v : Value) (w : World) (h : Ints w v l) (hl : l.length ≤ 1000000) :
  Calls Tryz.prog 74 #[v] w (IntsRow w l) := by
 obtain ⟨i, hi, hz0, hz1, hz2⟩ := info_parts infoInt
 have HI := hid h
 have HL := hid hl
 obtain ⟨A, cap, rfl⟩ := h.slice
 cases A with
 | none =>
  have h0 : l = [] := by
   obtain ⟨A', cap', hv, h'⟩ := h
   cases hv
   rcases h' with h' | ⟨g, o, h', _⟩
   ·exact h'
   ·cases h'
  clear h hl
  subst h0
  have hnil := fun w => Lib.run_eql_slice_nil (P := Tryz.prog) w 25 3 none 0 cap 0 0 rfl
  go_enter Tryz.func74, Tryz.ntmps74
  go_wp2_with fail
  go_ret
  exact ⟨_, rfl, World.ownsRow_nil _ _ _ _, Touch.refl _ _⟩
 | some a =>
  clear h hl
  have hm : l.length ≤ maxLen := by have := HL.out; unfold maxLen; omega
  have hnil := fun w => Lib.run_eql_slice_nil (P := Tryz.prog) w 25 3 (some a) l.length cap 0 0 rfl
  go_enter Tryz.func74, Tryz.ntmps74
  go_wp2_with (at_builtin; refine wpList_append_src _ rfl (.tmp 5) (.tmp 6) 25 rfl w.heap.size 3 i _ 1 8 rfl hi hz0 hz1 hz2 rfl (by decide) (.slice (some ⟨w.heap.size, 0, none⟩) 0 0) 0 [] (by simp [Act.eval]) (World.ownsRow_lit w #[] 0 (Nat.le_refl _) (Nat.zero_le _) rfl) (.slice (some a) l.length cap) l.length (intVs l) (by simp [Act.eval]) ((Src.of_ints HI.out).fresh ((Touch.refl _ _).alloc _)) (intVs_one l) (by have := HL.out; unfold maxLen; omega) (by have := HL.out; omega) (by simp) ?_; intro v' w' ho hg _; have HO := hid ho; have HG := hid hg; clear ho hg)
  go_ret
  refine ⟨_, rfl, by have := HO.out; rwa [Nat.zero_add, List.nil_append] at this, ?_⟩
  exact Touch.grown ((Touch.refl _ w).alloc _) HG.out fun g hg => .inr (by simp only [Value.ownBlock, Option.some.injEq] at hg; omega)
set_option maxRecDepth 100000 in
theorem ints_any (l : List Int) (v : Value) (w : World) (h : Ints w v l) (hl : l.length ≤ 1000000) :
  Calls Tryz.prog 47 #[v] w (IntsRow w l) := by
 go_enter Tryz.func47, Tryz.ntmps47
 go_wp2_with fail
 refine (clone_ints l v _ h hl).mono ?_
 rintro _ w1 ⟨v', rfl, ho, hf⟩
 go_wp2_with fail
 go_ret
 exact ⟨_, rfl, ho, hf⟩
set_option maxRecDepth 100000 in
set_option maxHeartbeats 1000000 in
theorem grow_nil (n : Nat) (w : World) (h0 : 0 < n) (hn : n ≤ 2000000) :
  Calls Tryz.prog 134 #[.slice none 0 0, .int .i64 n] w (IntsRow w []) := by
 obtain ⟨i, hi, hz0, hz1, hz2⟩ := info_parts infoInt
 have b1 : decide ((n : Int) < 0) = false := by simp only [decide_eq_false_iff_not]; omega
 have b2 : decide ((0 : Int) < (n : Int)) = true := by simp only [decide_eq_true_eq]; omega
 have b2n : decide (0 < n) = true := by simp only [decide_eq_true_eq]; omega
 have hr : ∀ ty, (Builtin.append_ #[25, 3] ty #[.slice none 0 0, .int .i64 n]).run Tryz.prog w = .ok (.slice (some ⟨w.heap.size, 0, none⟩) n (grownCap w n 0 3)) (w.drew.alloc (.cells (Builtin.zeroCells #[.int .i64 0] n ++ Builtin.zeroCells #[.int .i64 0] (grownCap w n 0 3 - n)) 3)) :=
  fun ty => Lib.run_append_nil_zeros w 25 3 ty 3 i (.int .i64 0) .i64 .i64 rfl rfl hi hz0 n h0 (by rw [hz1]; decide) (by omega) (by rw [hz2]; omega)
 have HR := hid hr
 have HGE := hid (grownCap_ge w n 0 3)
 have HLE := hid (grownCap_le_maxLen w n 0 3 (by unfold maxLen; omega))
 clear hr
 generalize grownCap w n 0 3 = cap at *
 go_enter Tryz.func134, Tryz.ntmps134
 go_wp2_with (at_builtin; refine Lib.wpList_append_run _ rfl (.tmp 20) (.tmp 21) 25 3 rfl (.slice none 0 0) (.int .i64 n) (by simp [Act.eval]) (by simp [Act.eval]) _ _ (HR.out _) ?_)
 go_ret
 exact ⟨_, rfl, World.ownsRow_made (w := w.drew) _ cap (Nat.le_refl _) HLE.out (by have := HGE.out; simp [Builtin.zeroCells]; omega), ((Touch.refl _ w).drew).alloc _⟩
def catS (a b : List Int) (j : Nat) : Nat := if j = 0 then 0 else if j = 1 then a.length else a.length + b.length
def catL (a b : List Int) (j : Nat) : List Int := if j = 0 then [] else if j = 1 then a else a ++ b
set_option maxRecDepth 100000 in
set_option maxHeartbeats 2000000 in
theorem concat2 (a b : List Int) (va vb : Value) (g : Nat) (w : World) (h1 : Ints w va a) (h2 : Ints w vb b) (c0 : w.cell? ⟨g, 0, none⟩ = some va) (c1 : w.cell? ⟨g, 1, none⟩ = some vb) (hn : 0 < a.length + b.length) (hl : a.length + b.length ≤ 1000000) :
  Calls Tryz.prog 98 #[.slice (some ⟨g, 0, none⟩) 2 2] w (IntsRow w (a ++ b)) := by
 obtain ⟨i, hi, hz0, hz1, hz2⟩ := info_parts infoInt
 obtain ⟨A, cap, rfl⟩ := h1.slice
 obtain ⟨B, cbp, rfl⟩ := h2.slice
 have HA := hid h1
 have HB := hid h2
 have HL := hid hl
 have HN := hid hn
 have C0 := hid c0
 have C1 := hid c1
 clear h1 h2 c0 c1
 go_enter Tryz.func98, Tryz.ntmps98
 go_wp2_with fail
 go_loop [3, 11] (fun s i => ∃ j : Nat, i = .int .i64 j ∧ j ≤ 2 ∧ s = .int .i64 (catS a b j : Nat)) (fun _ i => 2 - (intOf i).toNat)
 case atStart => exact ⟨0, rfl, Nat.zero_le _, rfl⟩
 case round =>
  obtain ⟨j, rfl, hj, rfl⟩ := hrel
  have q0 := C0.out
  have q1 := C1.out
  have hs : catS a b j ≤ 1000000 := by unfold catS; split <;> (try split) <;> omega
  by_cases j0 : j = 0
  ·subst j0
   have hst : (catS a b 1 : Nat) = a.length := rfl
   go_wp2_with fail
   go_round
   case rel => exact ⟨1, rfl, by omega, by simp [catS]⟩
   case measure => simp [intOf]
  ·by_cases j1 : j = 1
   ·subst j1
    have hlt : decide ((a.length : Int) + (b.length : Int) < 0) = false := by simp only [decide_eq_false_iff_not]; omega
    have hst : (catS a b 1 : Nat) = a.length := rfl
    rw [hst]
    go_wp2_with fail
    go_round
    case rel => exact ⟨2, rfl, by omega, by simp [catS]⟩
    case measure => simp [intOf]
   ·obtain rfl : j = 2 := by omega
    have hst : (catS a b 2 : Nat) = a.length + b.length := rfl
    rw [hst]
    go_wp2_with fail
    refine (grow_nil (a.length + b.length) _ HN.out (by have := HL.out; omega)).mono ?_
    rintro _ w1 ⟨v1, rfl, ho, hf⟩
    have HO := hid ho
    have HF := hid hf
    clear ho hf
    have q0 := HF.out.cell C0.out (fun h => h)
    have q1 := HF.out.cell C1.out (fun h => h)
    have hbw : w.heap.size ≤ w1.heap.size := HF.out.size
    go_wp2_with fail
    go_loopw [6, 27] (fun s i wr => ∃ j : Nat, i = .int .i64 j ∧ j ≤ 2 ∧ Hid (wr.ownsRow w.heap.size 3 1 s (catL a b j).length (intVs (catL a b j))) ∧ Hid (Fresh w wr)) (fun _ i _ => 2 - (intOf i).toNat)
    case atStart => exact ⟨0, rfl, Nat.zero_le _, HO.out, HF.out⟩
    case round =>
     obtain ⟨j, rfl, hj, HO2, HF2⟩ := hrel
     have q0 := HF2.out.cell C0.out (fun h => h)
     have q1 := HF2.out.cell C1.out (fun h => h)
     have hbw : w.heap.size ≤ wr.heap.size := HF2.out.size
     by_cases j0 : j = 0
     ·subst j0
      have HO3 := hid (show wr.ownsRow w.heap.size 3 1 u6 0 [] from HO2.out)
      go_wp2_with (at_builtin; refine wpList_append_src _ rfl (.tmp 31) (.tmp 32) 25 rfl w.heap.size 3 i _ 1 8 rfl hi hz0 hz1 hz2 rfl (by decide) u6 0 [] (by simp [Act.eval]) HO3.out (.slice A a.length cap) a.length (intVs a) (by simp [Act.eval]) ((Src.of_ints HA.out).fresh HF2.out) (intVs_one a) (by have := HL.out; unfold maxLen; omega) (by have := HL.out; omega) hbw ?_; intro v' w' ho hg _; have HO4 := hid ho; have HG := hid hg; clear ho hg)
      go_roundw
      case rel => exact ⟨1, rfl, by omega, by have := HO4.out; rwa [Nat.zero_add, List.nil_append] at this, touch_grown HF2.out HO3.out (Nat.le_refl _) HG.out⟩
      case measure => simp [intOf]
     ·by_cases j1 : j = 1
      ·subst j1
       have HO3 := hid (show wr.ownsRow w.heap.size 3 1 u6 a.length (intVs a) from HO2.out)
       go_wp2_with (at_builtin; refine wpList_append_src _ rfl (.tmp 31) (.tmp 32) 25 rfl w.heap.size 3 i _ 1 8 rfl hi hz0 hz1 hz2 rfl (by decide) u6 a.length (intVs a) (by simp [Act.eval]) HO3.out (.slice B b.length cbp) b.length (intVs b) (by simp [Act.eval]) ((Src.of_ints HB.out).fresh HF2.out) (intVs_one b) (by have := HL.out; unfold maxLen; omega) (by have := HL.out; omega) hbw ?_; intro v' w' ho hg _; have HO4 := hid ho; have HG := hid hg; clear ho hg)
       go_roundw
       case rel => exact ⟨2, rfl, by omega, by have := HO4.out; rw [← List.map_append, ← List.length_append] at this; exact this, touch_grown HF2.out HO3.out (Nat.le_refl _) HG.out⟩
       case measure => simp [intOf]
      ·obtain rfl : j = 2 := by omega
       have HO3 := hid (show wr.ownsRow w.heap.size 3 1 u6 (a ++ b).length (intVs (a ++ b)) from HO2.out)
       go_wp2_with fail
       go_ret
       exact ⟨_, rfl, HO3.out, HF2.out⟩
end Go.Proofs.YtdacpbdamliafaaGreat

/- The walk of checker.own. -/
namespace Go.Proofs.YtdacpbdamliafaaGreat
open Go.RowKit
theorem same_fresh {f : Nat} {args : Array Value} {v : Value} {w : World} (h : Calls Tryz.prog f args w fun e w' => e = .returned v ∧ w' = w) : Calls Tryz.prog f args w fun e w' => e = .returned v ∧ Fresh w w' :=
 h.mono fun _ _ h => ⟨h.1, by rw [h.2]; exact Touch.refl _ _⟩
def checkCells (m : Int) : Array Value := kindCells.push (.int .i64 m)
def ownRest (k c : Int) (n : Nat) (slots : Int) : Bool :=
 if k == 1 then (c == (0 : Int)) && decide ((n : Int) ≤ (200 : Int))
 else if k == 12 then decide ((1 : Int) ≤ c) && (decide (c ≤ (16 : Int)) && (decide ((1 : Int) ≤ (n : Int)) && (decide ((n : Int) ≤ (256 : Int)) && (((n : Int) % c) == (0 : Int)))))
 else (c == (0 : Int)) && ((n : Int) == slots)
set_option maxHeartbeats 2000000 in
theorem own_gen (t : List UInt8) (cols slots : Int) (k len : Nat) (fid : Nat) (tx : Bool) (A : Option Addr) (cap c g o : Nat) (w : World) (hk1 : 1 ≤ k) (hk2 : k ≤ 12) (hcf : ∀ (a : Array Value) (w' : World), (callFunc fid a).run Tryz.prog w' = .ok (.enter fid a) w')
  (ct : ∀ w', Calls Tryz.prog fid #[.string ⟨t.toArray⟩] w' fun e w'' => e = .returned (.bool tx) ∧ Fresh w' w'')
  (a0 : w.cell? ⟨g, o, none⟩ = some (.int .i64 (k : Int))) (a1 : w.cell? ⟨g, o + 1, none⟩ = some (.string ⟨t.toArray⟩)) (a2 : w.cell? ⟨g, o + 2, none⟩ = some (.int .i64 cols)) (a3 : w.cell? ⟨g, o + 3, none⟩ = some (.slice A len cap))
  (c1 : w.cell? ⟨c, k * 3 + 1, none⟩ = some (.int .i64 slots)) (c2 : w.cell? ⟨c, k * 3 + 2, none⟩ = some (.func (.func fid) #[] #[])) :
  Calls Tryz.prog 120 #[.pointer (some ⟨c, 0, none⟩), .pointer (some ⟨g, o, none⟩)] w fun e w' => e = .returned (.bool (tx && ownRest k cols len slots)) ∧ Fresh w w' := by
 have CT := hid ct
 clear ct
 have e1 : decide ((k : Int) < (1 : Int)) = false := by simp only [decide_eq_false_iff_not]; omega
 have e2 : decide ((12 : Int) < (k : Int)) = false := by simp only [decide_eq_false_iff_not]; omega
 have e3 : decide (k < 1) = false := by simp only [decide_eq_false_iff_not]; omega
 have e4 : decide (12 < k) = false := by simp only [decide_eq_false_iff_not]; omega
 have e5 : (k : Int) < 13 := by omega
 have e6 : k < 13 := by omega
 go_enter Tryz.func120, Tryz.ntmps120
 go_wp2_with fail
 refine forget_world (fun W => Fresh w W) (frA (Touch.refl _ _)) ?_
 rintro w1 hfw1
 have HF1 := hid hfw1
 clear hfw1
 obtain ⟨a0_w1, a1_w1, a2_w1, a3_w1⟩ := mv4 HF1.out a0 a1 a2 a3
 have c1_w1 := Touch.cell HF1.out c1 (fun h => h)
 have c2_w1 := Touch.cell HF1.out c2 (fun h => h)
 clear a0 a1 a2 a3 c1 c2
 have ga0_w1 := cell_regrown a0_w1
 have ga1_w1 := cell_regrown a1_w1
 have ga2_w1 := cell_regrown a2_w1
 have ga3_w1 := cell_regrown a3_w1
 have gc1_w1 := cell_regrown c1_w1
 have gc2_w1 := cell_regrown c2_w1
 have C0_w1 := hid (calmF (P := Tryz.prog) w1 (fun w hw => CT.out _))
 refine wp_region_quiet_below (by kernel_rfl) (by kernel_rfl) ?_
 repeat (quiet_step (first | with_reducible exact C0_w1.out _ _))
 refine wpQuiet_nil ?_
 rintro w2 ⟨⟨_, _⟩, hWw2⟩
 have hfw2 : Fresh w1 w2 := by rw [hWw2]; exact fresh_of_below (below_regrown _ _ _)
 clear hWw2 ga0_w1 ga1_w1 ga2_w1 ga3_w1 gc1_w1 gc2_w1
 have HF2 := hid (show Fresh w1 w2 from preA hfw2)
 obtain ⟨a0_w2, a1_w2, a2_w2, a3_w2⟩ := mv4 HF2.out a0_w1 a1_w1 a2_w1 a3_w1
 have c1_w2 := Touch.cell HF2.out c1_w1 (fun h => h)
 have c2_w2 := Touch.cell HF2.out c2_w1 (fun h => h)
 clear a0_w1 a1_w1 a2_w1 a3_w1 c1_w1 c2_w1
 clear hfw2
 cases h1 : tx with
 | false =>
  go_wp2_with fail
  go_ret
  exact ⟨ret_bool' _ _ (by unfold ownRest; simp only [*] <;> rfl), (frA (HF1.out.trans HF2.out))⟩
 | true =>
  cases h2 : ((k : Int) == (1 : Int)) with
  | false =>
   have h2m : ((k : Int) != (1 : Int)) = true := by rw [bne, h2]; rfl
   have h2n : (k == 1) = false := by have hx := h2; simp only [beq_eq_false_iff_ne, ne_eq] at hx ⊢; omega
   cases h3 : ((k : Int) == (12 : Int)) with
   | false =>
    have h3m : ((k : Int) != (12 : Int)) = true := by rw [bne, h3]; rfl
    have h3n : (k == 12) = false := by have hx := h3; simp only [beq_eq_false_iff_ne, ne_eq] at hx ⊢; omega
    cases h4 : (cols == (0 : Int)) with
    | false =>
     have h4m : (cols != (0 : Int)) = true := by rw [bne, h4]; rfl
     go_wp2_with fail
     go_quiet (fail)
     go_wp2_with fail
     go_ret
     exact ⟨ret_bool' _ _ (by unfold ownRest; simp only [*] <;> rfl), (frA (HF1.out.trans HF2.out))⟩
    | true =>
     have h4m : (cols != (0 : Int)) = false := by rw [bne, h4]; rfl
     go_wp2_with fail
     go_quiet (fail)
     cases h5 : ((len : Int) == slots) with
     | false =>
      have h5m : ((len : Int) != slots) = true := by rw [bne, h5]; rfl
      go_wp2_with fail
      go_ret
      exact ⟨ret_bool' _ _ (by unfold ownRest; simp only [*] <;> rfl), (frA (HF1.out.trans HF2.out))⟩
     | true =>
      have h5m : ((len : Int) != slots) = false := by rw [bne, h5]; rfl
      go_wp2_with fail
      go_ret
      exact ⟨ret_bool' _ _ (by unfold ownRest; simp only [*] <;> rfl), (frA (HF1.out.trans HF2.out))⟩
   | true =>
    have h3m : ((k : Int) != (12 : Int)) = false := by rw [bne, h3]; rfl
    have h3n : (k == 12) = true := by have hx := h3; simp only [beq_iff_eq] at hx ⊢; omega
    cases h6 : decide ((1 : Int) ≤ cols) with
    | false =>
     go_wp2_with fail
     go_quiet (fail)
     go_wp2_with fail
     go_ret
     exact ⟨ret_bool' _ _ (by unfold ownRest; simp only [*] <;> rfl), (frA (HF1.out.trans HF2.out))⟩
    | true =>
     have h6p := of_decide_eq_true h6
     cases h7 : decide (cols ≤ (16 : Int)) with
     | false =>
      go_wp2_with fail
      go_quiet (fail)
      go_wp2_with fail
      go_ret
      exact ⟨ret_bool' _ _ (by unfold ownRest; simp only [*] <;> rfl), (frA (HF1.out.trans HF2.out))⟩
     | true =>
      have h7p := of_decide_eq_true h7
      cases h8 : decide ((1 : Int) ≤ (len : Int)) with
      | false =>
       have h8n : decide (1 ≤ len) = false := by have hx := h8; simp only [decide_eq_false_iff_not] at hx ⊢; omega
       go_wp2_with fail
       go_quiet (fail)
       go_wp2_with fail
       go_ret
       exact ⟨ret_bool' _ _ (by unfold ownRest; simp only [*] <;> rfl), (frA (HF1.out.trans HF2.out))⟩
      | true =>
       have h8p := of_decide_eq_true h8
       have h8n : decide (1 ≤ len) = true := by have hx := h8; simp only [decide_eq_true_eq] at hx ⊢; omega
       cases h9 : decide ((len : Int) ≤ (256 : Int)) with
       | false =>
        have h9n : decide (len ≤ 256) = false := by have hx := h9; simp only [decide_eq_false_iff_not] at hx ⊢; omega
        go_wp2_with fail
        go_quiet (fail)
        go_wp2_with fail
        go_ret
        exact ⟨ret_bool' _ _ (by unfold ownRest; simp only [*] <;> rfl), (frA (HF1.out.trans HF2.out))⟩
       | true =>
        have h9p := of_decide_eq_true h9
        have h9n : decide (len ≤ 256) = true := by have hx := h9; simp only [decide_eq_true_eq] at hx ⊢; omega
        go_wp2_with fail
        go_quiet (fail)
        cases h10 : (((len : Int) % cols) == (0 : Int)) with
        | false =>
         have h10m : (((len : Int) % cols) != (0 : Int)) = true := by rw [bne, h10]; rfl
         go_wp2_with fail
         go_ret
         exact ⟨ret_bool' _ _ (by unfold ownRest; simp only [*] <;> rfl), (frA (HF1.out.trans HF2.out))⟩
        | true =>
         have h10m : (((len : Int) % cols) != (0 : Int)) = false := by rw [bne, h10]; rfl
         go_wp2_with fail
         go_ret
         exact ⟨ret_bool' _ _ (by unfold ownRest; simp only [*] <;> rfl), (frA (HF1.out.trans HF2.out))⟩
  | true =>
   have h2m : ((k : Int) != (1 : Int)) = false := by rw [bne, h2]; rfl
   have h2n : (k == 1) = true := by have hx := h2; simp only [beq_iff_eq] at hx ⊢; omega
   cases h11 : (cols == (0 : Int)) with
   | false =>
    have h11m : (cols != (0 : Int)) = true := by rw [bne, h11]; rfl
    go_wp2_with fail
    go_ret
    exact ⟨ret_bool' _ _ (by unfold ownRest; simp only [*] <;> rfl), (frA (HF1.out.trans HF2.out))⟩
   | true =>
    have h11m : (cols != (0 : Int)) = false := by rw [bne, h11]; rfl
    cases h12 : decide ((len : Int) ≤ (200 : Int)) with
    | false =>
     have h12n : decide (len ≤ 200) = false := by have hx := h12; simp only [decide_eq_false_iff_not] at hx ⊢; omega
     go_wp2_with fail
     go_ret
     exact ⟨ret_bool' _ _ (by unfold ownRest; simp only [*] <;> rfl), (frA (HF1.out.trans HF2.out))⟩
    | true =>
     have h12p := of_decide_eq_true h12
     have h12n : decide (len ≤ 200) = true := by have hx := h12; simp only [decide_eq_true_eq] at hx ⊢; omega
     go_wp2_with fail
     go_ret
     exact ⟨ret_bool' _ _ (by unfold ownRest; simp only [*] <;> rfl), (frA (HF1.out.trans HF2.out))⟩
end Go.Proofs.YtdacpbdamliafaaGreat

/- What checker.own reports. -/
namespace Go.Proofs.YtdacpbdamliafaaGreat
open Go.RowKit
def ownF (n : Tr.Nd) : Bool := decide (1 ≤ n.kind) && (decide (n.kind ≤ 12) && (Tr.textOK n.kind n.text && Tr.kidsOK n.kind n.cols n.kids.length))
theorem own_lo (n : Tr.Nd) (c g o : Nat) (w : World) (hk : n.kind < 1)
  (a0 : w.cell? ⟨g, o, none⟩ = some (.int .i64 n.kind)) :
  Calls Tryz.prog 120 #[.pointer (some ⟨c, 0, none⟩), .pointer (some ⟨g, o, none⟩)] w fun e w' => e = .returned (.bool false) ∧ Fresh w w' := by
 have e1 : decide (n.kind < (1 : Int)) = true := by simp only [decide_eq_true_eq]; omega
 have e2 : decide ((12 : Int) < n.kind) = false := by simp only [decide_eq_false_iff_not]; omega
 clear hk
 go_enter Tryz.func120, Tryz.ntmps120
 go_wp2_with fail
 go_quiet (fail)
 go_wp2_with fail
 go_ret
 exact ⟨rfl, (frA (Touch.refl _ _))⟩
theorem own_hi (n : Tr.Nd) (c g o : Nat) (w : World) (hk : 12 < n.kind)
  (a0 : w.cell? ⟨g, o, none⟩ = some (.int .i64 n.kind)) :
  Calls Tryz.prog 120 #[.pointer (some ⟨c, 0, none⟩), .pointer (some ⟨g, o, none⟩)] w fun e w' => e = .returned (.bool false) ∧ Fresh w w' := by
 have e1 : decide (n.kind < (1 : Int)) = false := by simp only [decide_eq_false_iff_not]; omega
 have e2 : decide ((12 : Int) < n.kind) = true := by simp only [decide_eq_true_eq]; omega
 clear hk
 go_enter Tryz.func120, Tryz.ntmps120
 go_wp2_with fail
 go_quiet (fail)
 go_wp2_with fail
 go_ret
 exact ⟨rfl, (frA (Touch.refl _ _))⟩
theorem dec_len (a b : Nat) : decide ((a : Int) ≤ (b : Int)) = decide (a ≤ b) := by rw [Bool.eq_iff_iff, decide_eq_true_iff, decide_eq_true_iff]; omega
theorem plain_text (t : List UInt8) : Tr.textOK ((4 : Nat) : Int) t = (t.all plainB && decide ((ByteArray.size ⟨t.toArray⟩ : Int) ≤ (200 : Int))) := by
 show (decide (t.length ≤ 200) && Tr.printable t) = _
 have : (ByteArray.size ⟨t.toArray⟩) = t.length := by show t.toArray.size = _; simp
 rw [this, show decide ((t.length : Int) ≤ (200 : Int)) = decide (t.length ≤ 200) from dec_len t.length 200, Bool.and_comm]
 rfl
theorem ownF_at (k : Nat) (n : Tr.Nd) (tx : Bool) (slots : Int) (hk : n.kind = k) (h1 : 1 ≤ k) (h2 : k ≤ 12) (ht : Tr.textOK n.kind n.text = tx)
  (hs : (k = 5 ∨ k = 6 ∨ k = 7 ∨ k = 8 → slots = 2) ∧ (k = 9 → slots = 3) ∧ (k = 10 ∨ k = 11 → slots = 1) ∧ (k = 2 ∨ k = 3 ∨ k = 4 → slots = 0)) : ownF n = (tx && ownRest k n.cols n.kids.length slots) := by
 unfold ownF
 rw [ht, hk]
 have e1 : decide ((1 : Int) ≤ (k : Int)) = true := by simp; omega
 have e2 : decide ((k : Int) ≤ 12) = true := by simp; omega
 rw [e1, e2, Bool.true_and, Bool.true_and]
 congr 1
 unfold Tr.kidsOK ownRest
 generalize n.kids.length = m
 generalize n.cols = c
 obtain ⟨s1, s2, s3, s4⟩ := hs
 by_cases k12 : k = 12
 ·subst k12
  rw [if_pos (show ((12 : Nat) : Int) = 12 from rfl), if_neg (show ¬ (((12 : Nat) : Int) == 1) = true by decide), if_pos (show (((12 : Nat) : Int) == 12) = true by decide)]
  have f1 : decide ((1 : Int) ≤ (m : Int)) = decide (1 ≤ m) := dec_len 1 m
  have f2 : decide ((m : Int) ≤ (256 : Int)) = decide (m ≤ 256) := dec_len m 256
  show (decide (1 ≤ c) && decide (c ≤ 16) && decide (1 ≤ m) && decide (m ≤ 256) && decide ((m : Int) % c = 0)) = (decide (1 ≤ c) && (decide (c ≤ 16) && (decide ((1 : Int) ≤ (m : Int)) && (decide ((m : Int) ≤ (256 : Int)) && ((m : Int) % c == 0)))))
  rw [f1, f2]
  simp only [Bool.and_assoc]
  rfl
 ·have k12' : ¬ (k : Int) = 12 := by omega
  have k12'' : ((k : Int) == 12) = false := by simpa using k12'
  rw [if_neg k12', k12'']
  by_cases hc : c = 0
  ·subst hc
   simp only [ne_eq, not_true_eq_false, if_false, Bool.false_eq_true]
   by_cases k1 : k = 1
   ·subst k1
    rw [if_pos (show ((1 : Nat) : Int) = 1 from rfl), if_pos (show (((1 : Nat) : Int) == 1) = true by decide)]
    exact (dec_len m 200).symm
   ·have k1' : ¬ (k : Int) = 1 := by omega
    have k1'' : ((k : Int) == 1) = false := by simpa using k1'
    rw [if_neg k1', k1'']
    simp only [Bool.false_eq_true, if_false, BEq.rfl, Bool.true_and]
    have dn : ∀ (j : Nat) (sl : Int), sl = j → decide (m = j) = ((m : Int) == sl) := by
     intro j sl h; subst h; rw [Bool.eq_iff_iff, decide_eq_true_iff, beq_iff_eq]; omega
    split
    ·exact dn 0 slots (s4 (by omega))
    ·split
     ·exact dn 2 slots (s1 (by omega))
     ·split
      ·exact dn 3 slots (s2 (by omega))
      ·split
       ·exact dn 1 slots (s3 (by omega))
       ·omega
  ·have hc' : (c == 0) = false := by simpa using hc
   rw [if_pos hc, hc']
   simp
set_option maxRecDepth 100000 in
set_option maxHeartbeats 1000000 in
theorem own_any (n : Tr.Nd) (A : Option Addr) (cap c g o : Nat) (m : Int) (w : World) (hc : Blk w c 138 (checkCells m)) (hm : n.text.length ≤ 9223372036854775807)
  (a0 : w.cell? ⟨g, o, none⟩ = some (.int .i64 n.kind)) (a1 : w.cell? ⟨g, o + 1, none⟩ = some (.string ⟨n.text.toArray⟩)) (a2 : w.cell? ⟨g, o + 2, none⟩ = some (.int .i64 n.cols)) (a3 : w.cell? ⟨g, o + 3, none⟩ = some (.slice A n.kids.length cap)) :
  Calls Tryz.prog 120 #[.pointer (some ⟨c, 0, none⟩), .pointer (some ⟨g, o, none⟩)] w fun e w' => e = .returned (.bool (ownF n)) ∧ Fresh w w' := by
 by_cases h1 : n.kind < 1
 ·have e : ownF n = false := by
   unfold ownF
   have : decide (1 ≤ n.kind) = false := by simp; omega
   rw [this]; rfl
  rw [e]
  exact own_lo n c g o w h1 a0
 by_cases h2 : 12 < n.kind
 ·have e : ownF n = false := by
   unfold ownF
   have : decide (n.kind ≤ 12) = false := by simp; omega
   rw [this, Bool.false_and, Bool.and_false]
  rw [e]
  exact own_hi n c g o w h2 a0
 obtain ⟨k, hk⟩ : ∃ k : Nat, n.kind = k := ⟨n.kind.toNat, by omega⟩
 have k1 : 1 ≤ k := by omega
 have k2 : k ≤ 12 := by omega
 rw [hk] at a0
 match k, k1, k2, hk, a0 with
 | 1, k1, k2, hk, a0 =>
  rw [ownF_at 1 n (n.text.isEmpty) 0 hk k1 k2 (by rw [hk]; rfl) (by decide)]
  exact own_gen n.text n.cols 0 1 n.kids.length 114 _ A cap c g o w k1 k2 (fun _ _ => by kernel_rfl) (fun w' => same_fresh (empty_any ⟨n.text.toArray⟩ w')) a0 a1 a2 a3 (hc.cell 4) (hc.cell 5)
 | 2, k1, k2, hk, a0 =>
  rw [ownF_at 2 n (Tr.symbol n.text) 0 hk k1 k2 (by rw [hk]; rfl) (by decide)]
  exact own_gen n.text n.cols 0 2 n.kids.length 115 _ A cap c g o w k1 k2 (fun _ _ => by kernel_rfl) (fun w' => same_fresh (symbol_any ⟨n.text.toArray⟩ w' (by show n.text.toArray.size ≤ _; simpa using hm))) a0 a1 a2 a3 (hc.cell 7) (hc.cell 8)
 | 3, k1, k2, hk, a0 =>
  rw [ownF_at 3 n (Tr.isNum n.text) 0 hk k1 k2 (by rw [hk]; rfl) (by decide)]
  exact own_gen n.text n.cols 0 3 n.kids.length 116 _ A cap c g o w k1 k2 (fun _ _ => by kernel_rfl) (fun w' => numText_any ⟨n.text.toArray⟩ w' (by show n.text.toArray.size ≤ _; simpa using hm)) a0 a1 a2 a3 (hc.cell 10) (hc.cell 11)
 | 4, k1, k2, hk, a0 =>
  rw [ownF_at 4 n ((n.text.all plainB && decide ((ByteArray.size ⟨n.text.toArray⟩ : Int) ≤ (200 : Int)))) 0 hk k1 k2 (by rw [hk]; exact plain_text n.text) (by decide)]
  exact own_gen n.text n.cols 0 4 n.kids.length 117 _ A cap c g o w k1 k2 (fun _ _ => by kernel_rfl) (fun w' => same_fresh (plain_any ⟨n.text.toArray⟩ w' (by show n.text.toArray.size ≤ _; simpa using hm))) a0 a1 a2 a3 (hc.cell 13) (hc.cell 14)
 | 5, k1, k2, hk, a0 =>
  rw [ownF_at 5 n (n.text.isEmpty) 2 hk k1 k2 (by rw [hk]; rfl) (by decide)]
  exact own_gen n.text n.cols 2 5 n.kids.length 114 _ A cap c g o w k1 k2 (fun _ _ => by kernel_rfl) (fun w' => same_fresh (empty_any ⟨n.text.toArray⟩ w')) a0 a1 a2 a3 (hc.cell 16) (hc.cell 17)
 | 6, k1, k2, hk, a0 =>
  rw [ownF_at 6 n (n.text.isEmpty) 2 hk k1 k2 (by rw [hk]; rfl) (by decide)]
  exact own_gen n.text n.cols 2 6 n.kids.length 114 _ A cap c g o w k1 k2 (fun _ _ => by kernel_rfl) (fun w' => same_fresh (empty_any ⟨n.text.toArray⟩ w')) a0 a1 a2 a3 (hc.cell 19) (hc.cell 20)
 | 7, k1, k2, hk, a0 =>
  rw [ownF_at 7 n (n.text.isEmpty) 2 hk k1 k2 (by rw [hk]; rfl) (by decide)]
  exact own_gen n.text n.cols 2 7 n.kids.length 114 _ A cap c g o w k1 k2 (fun _ _ => by kernel_rfl) (fun w' => same_fresh (empty_any ⟨n.text.toArray⟩ w')) a0 a1 a2 a3 (hc.cell 22) (hc.cell 23)
 | 8, k1, k2, hk, a0 =>
  rw [ownF_at 8 n (n.text.isEmpty) 2 hk k1 k2 (by rw [hk]; rfl) (by decide)]
  exact own_gen n.text n.cols 2 8 n.kids.length 114 _ A cap c g o w k1 k2 (fun _ _ => by kernel_rfl) (fun w' => same_fresh (empty_any ⟨n.text.toArray⟩ w')) a0 a1 a2 a3 (hc.cell 25) (hc.cell 26)
 | 9, k1, k2, hk, a0 =>
  rw [ownF_at 9 n (n.text.isEmpty) 3 hk k1 k2 (by rw [hk]; rfl) (by decide)]
  exact own_gen n.text n.cols 3 9 n.kids.length 114 _ A cap c g o w k1 k2 (fun _ _ => by kernel_rfl) (fun w' => same_fresh (empty_any ⟨n.text.toArray⟩ w')) a0 a1 a2 a3 (hc.cell 28) (hc.cell 29)
 | 10, k1, k2, hk, a0 =>
  rw [ownF_at 10 n (Tr.accents.contains n.text) 1 hk k1 k2 (by rw [hk]; rfl) (by decide)]
  exact own_gen n.text n.cols 1 10 n.kids.length 118 _ A cap c g o w k1 k2 (fun _ _ => by kernel_rfl) (fun w' => same_fresh (accent_any ⟨n.text.toArray⟩ w')) a0 a1 a2 a3 (hc.cell 31) (hc.cell 32)
 | 11, k1, k2, hk, a0 =>
  rw [ownF_at 11 n (Tr.fence n.text) 1 hk k1 k2 (by rw [hk]; rfl) (by decide)]
  exact own_gen n.text n.cols 1 11 n.kids.length 119 _ A cap c g o w k1 k2 (fun _ _ => by kernel_rfl) (fun w' => same_fresh (fence_any ⟨n.text.toArray⟩ w')) a0 a1 a2 a3 (hc.cell 34) (hc.cell 35)
 | 12, k1, k2, hk, a0 =>
  rw [ownF_at 12 n (n.text.isEmpty) 0 hk k1 k2 (by rw [hk]; rfl) (by decide)]
  exact own_gen n.text n.cols 0 12 n.kids.length 114 _ A cap c g o w k1 k2 (fun _ _ => by kernel_rfl) (fun w' => same_fresh (empty_any ⟨n.text.toArray⟩ w')) a0 a1 a2 a3 (hc.cell 37) (hc.cell 38)
end Go.Proofs.YtdacpbdamliafaaGreat

/- The walk of checker.node. -/
namespace Go.Proofs.YtdacpbdamliafaaGreat
open Go.RowKit
mutual
def chkN : Nat → Tr.Nd → Bool
 | d, .mk k t c ks => decide (d ≤ 24) && (ownF (.mk k t c ks) && chkL (k == 1) (d + 1) ks)
def chkL : Bool → Nat → List Tr.Nd → Bool
 | _, _, [] => true
 | r, d, n :: ns => (!((n.kind == 1) == r)) && (chkN d n && chkL r d ns)
end
theorem chkN_eq (d : Nat) (n : Tr.Nd) : chkN d n = (decide (d ≤ 24) && (ownF n && chkL (n.kind == 1) (d + 1) n.kids)) := by cases n; rw [chkN]; rfl
theorem chkL_take (r : Bool) (d : Nat) : ∀ (l : List Tr.Nd) (i : Nat) (h : i < l.length), chkL r d (l.take (i + 1)) = (chkL r d (l.take i) && ((!((l[i].kind == 1) == r)) && chkN d l[i]))
 | [], i, h => by simp at h
 | x :: l, 0, h => by simp [chkL]
 | x :: l, i + 1, h => by
  simp only [List.take_succ_cons, chkL, List.getElem_cons_succ]
  rw [chkL_take r d l i (by simpa using h)]
  simp only [Bool.and_assoc]
theorem chkL_no (r : Bool) (d : Nat) : ∀ (l : List Tr.Nd) (i : Nat) (h : i < l.length), ((!((l[i].kind == 1) == r)) && chkN d l[i]) = false → chkL r d l = false
 | [], i, h, _ => by simp at h
 | x :: l, 0, h, hn => by
  simp only [List.getElem_cons_zero] at hn
  rw [chkL, ← Bool.and_assoc, hn, Bool.false_and]
 | x :: l, i + 1, h, hn => by
  simp only [List.getElem_cons_succ] at hn
  rw [chkL, chkL_no r d l i (by simpa using h) hn, Bool.and_false, Bool.and_false]
def NodeEnd (c : Nat) (d m : Nat) (n : Tr.Nd) (w : World) (e : Ending) (w' : World) : Prop :=
 ∃ m' : Nat, e = .returned (.bool (chkN d n)) ∧ Blk w' c 138 (checkCells m') ∧ Touch (· = c) w w' ∧ m' ≤ m + Tr.count n ∧ (chkN d n = true → m' = m + Tr.count n)
theorem check_put (m : Nat) : (checkCells (m : Int)).setIfInBounds 39 (.int .i64 ((m : Int) + 1)) = checkCells ((m + 1 : Nat) : Int) := by rfl
theorem check_39 (m : Int) : (checkCells m)[39]? = some (.int .i64 m) := by rfl
set_option maxRecDepth 100000 in
set_option maxHeartbeats 4000000 in
theorem node_any (W0 : World) (c : Nat) (hcW : W0.heap.size ≤ c) (k : Nat) : ∀ (n : Tr.Nd) (A : Option Addr) (g o cap d m : Nat) (dd : Int) (w : World), dd = d → Tr.count n ≤ k →
  W0.cell? ⟨g, o, none⟩ = some (.int .i64 n.kind) → W0.cell? ⟨g, o + 1, none⟩ = some (.string ⟨n.text.toArray⟩) → W0.cell? ⟨g, o + 2, none⟩ = some (.int .i64 n.cols) → W0.cell? ⟨g, o + 3, none⟩ = some (.slice A n.kids.length cap) →
  RepL W0 n.kids (.slice A n.kids.length cap) → n.text.length ≤ maxLen → Blk w c 138 (checkCells m) → Touch (· = c) W0 w → m + Tr.count n ≤ 1000 → d ≤ 1000 →
  Calls Tryz.prog 85 #[.pointer (some ⟨c, 0, none⟩), .pointer (some ⟨g, o, none⟩), .int .i64 dd] w (NodeEnd c d m n w) := by
 induction k with
 | zero => intro n _ _ _ _ _ _ _ _ _ h; have := Tr.count_pos n; omega
 | succ k ih =>
  intro n A g o cap d m dd w hdd hcn a0 a1 a2 a3 hrep htx hb htw hm hd
  subst hdd
  have hgc : g < W0.heap.size := block_lt_of_cell a0
  have hne : g ≠ c := by omega
  have hlen := hrep.len
  unfold maxLen at htx hlen
  have hck := Tr.count_kids n
  have hnl := Tr.countL_len n.kids
  have HIH := hid ih
  have HREP := hid hrep
  have HCE := hid (chkN_eq d n)
  have HTW := hid htw
  have HB := hid hb
  have ht1 : Touch (· = c) w (w.setCell ⟨c, 39, none⟩ (.int .i64 ((m : Int) + 1))) := Touch.setCell (S := (· = c)) (Touch.refl _ w) (p := ⟨c, 39, none⟩) (.inl rfl) _
  have hb1 : Blk (w.setCell ⟨c, 39, none⟩ (.int .i64 ((m : Int) + 1))) c 138 (checkCells ((m + 1 : Nat) : Int)) := by
   rw [← check_put]; exact hb.put 39 _
  have q39 : w.cell? ⟨c, 39, none⟩ = some (.int .i64 (m : Int)) := (hb.cell 39).trans (check_39 m)
  have z39 : w.frozen? ⟨c, 39, none⟩ = false := hb.frozen 39
  have r39 : (w.setCell ⟨c, 39, none⟩ (.int .i64 ((m : Int) + 1))).cell? ⟨c, 39, none⟩ = some (.int .i64 ((m : Int) + 1)) := (hb1.cell 39).trans (check_39 _)
  have lim : decide ((1000 : Int) < (m : Int) + 1) = false := by simp only [decide_eq_false_iff_not]; omega
  have HT1 := hid ht1
  have HB1 := hid hb1
  clear ih hrep htw hb ht1 hb1
  by_cases hd24 : 24 < d
  ·have dl : decide ((24 : Int) < (d : Int)) = true := by simp only [decide_eq_true_eq]; omega
   have dln : decide (24 < d) = true := by simp only [decide_eq_true_eq]; omega
   have hch : chkN d n = false := by
    rw [HCE.out]
    have : decide (d ≤ 24) = false := by simp only [decide_eq_false_iff_not]; omega
    rw [this]; rfl
   have HCH := hid hch
   clear hch HCE
   go_enter Tryz.func85, Tryz.ntmps85
   go_wp2_with fail
   go_ret
   exact ⟨m + 1, by rw [HCH.out]; rfl, HB1.out, HT1.out, by omega, fun h => by rw [HCH.out] at h; cases h⟩
  ·have dl : decide ((24 : Int) < (d : Int)) = false := by simp only [decide_eq_false_iff_not]; omega
   have dln : decide (24 < d) = false := by simp only [decide_eq_false_iff_not]; omega
   have b0 := (HTW.out.trans HT1.out).cell a0 hne
   have b1 := (HTW.out.trans HT1.out).cell a1 hne
   have b2 := (HTW.out.trans HT1.out).cell a2 hne
   have b3 := (HTW.out.trans HT1.out).cell a3 hne
   have HOWN := hid (own_any n A cap c g o _ _ HB1.out htx b0 b1 b2 b3)
   have hd24' : decide (d ≤ 24) = true := by simp only [decide_eq_true_eq]; omega
   have HC2 := hid (show chkN d n = (ownF n && chkL (n.kind == 1) (d + 1) n.kids) by rw [HCE.out, hd24']; rfl)
   clear HCE hd24' b0 b1 b2 b3
   go_enter Tryz.func85, Tryz.ntmps85
   go_wp2_with fail
   refine HOWN.out.mono ?_
   rintro _ w2 ⟨rfl, hf2⟩
   have hb2 := hf2.blk HB1.out (fun h => h)
   have ht2 : Touch (· = c) w w2 := HT1.out.trans (hf2.mono (fun _ h => h.elim))
   have HB2 := hid hb2
   have HT2 := hid ht2
   have b0 := (HTW.out.trans ht2).cell a0 hne
   have b3 := (HTW.out.trans ht2).cell a3 hne
   clear hf2 hb2 ht2 r39 q39 z39
   cases how : ownF n with
   | false =>
    have HCH := hid (show chkN d n = false by rw [HC2.out, how]; rfl)
    go_wp2_with fail
    go_ret
    exact ⟨m + 1, by rw [HCH.out]; rfl, HB2.out, HT2.out, by omega, fun h => by rw [HCH.out] at h; cases h⟩
   | true =>
    have HC3 := hid (show chkN d n = chkL (n.kind == 1) (d + 1) n.kids by rw [HC2.out, how]; rfl)
    clear HC2 how
    go_wp2_with fail
    go_loopw [35] (fun i wr => ∃ (j m' : Nat), i = .int .i64 j ∧ j ≤ n.kids.length ∧ Hid (Blk wr c 138 (checkCells m')) ∧ Hid (Touch (· = c) w wr) ∧ Hid (m' = m + 1 + Tr.countL (n.kids.take j)) ∧ Hid (chkL (n.kind == 1) (d + 1) (n.kids.take j) = true)) (fun i _ => n.kids.length - (intOf i).toNat)
    case atStart => exact ⟨0, m + 1, rfl, Nat.zero_le _, HB2.out, HT2.out, by simp [Tr.countL, Hid], by simp [chkL, Hid]⟩
    case round =>
     obtain ⟨j, m', rfl, hj, HB3, HT3, HM, HL⟩ := hrel
     by_cases c1 : j < n.kids.length
     ·have d1 : decide ((j : Int) < (n.kids.length : Int)) = true := by simp only [decide_eq_true_eq]; omega
      have d1n : decide (j < n.kids.length) = true := by simp only [decide_eq_true_eq]; omega
      have d1' : (j : Int) < (n.kids.length : Int) := by omega
      obtain ⟨g', o', sl, rfl, hg', n0, n1, n2, n3, hrk⟩ := HREP.out.get j c1
      have htx' := HREP.out.texts j c1
      obtain ⟨A', cap', rfl⟩ := hrk.slice
      have hne' : g' ≠ c := by omega
      have e0 := (HTW.out.trans HT3.out).cell a0 hne
      have e3 := (HTW.out.trans HT3.out).cell a3 hne
      have x0 := (HTW.out.trans HT3.out).cell n0 hne'
      have hcm := Tr.count_mem (List.getElem_mem (l := n.kids) (n := j) c1)
      have hct := Tr.countL_take n.kids j c1
      have hcl := Tr.countL_le n.kids (j + 1)
      have hcj := Tr.countL_le n.kids j
      have HS := hid (chkL_take (n.kind == 1) (d + 1) n.kids j c1)
      have HN := hid (chkL_no (n.kind == 1) (d + 1) n.kids j c1)
      have HM0 := HM.out
      have HX := hid (fun (w' : World) (hb' : Blk w' c 138 (checkCells m')) (ht' : Touch (· = c) W0 w') => HIH.out n.kids[j] A' g' (o' + j * 4) cap' (d + 1) m' ((d : Int) + 1) w' (by omega) (by omega) n0 n1 n2 n3 hrk htx' hb' ht' (by omega) (by omega))
      have HCT := hid hct
      clear n0 n1 n2 n3 hrk HIH HREP hct
      generalize n.kids[j] = x at *
      cases p1 : (n.kind == 1) with
      | false =>
       rw [p1] at HS HN
       cases p2 : (x.kind == 1) with
       | false =>
        have HCH := hid (show chkN d n = false by rw [HC3.out, p1]; exact HN.out (by rw [p2]; rfl))
        go_wp2_with fail
        go_quiet (fail)
        go_wp2_with fail
        go_ret
        exact ⟨m', by rw [HCH.out]; rfl, HB3.out, HT3.out.drewN _, by omega, fun h => by rw [HCH.out] at h; cases h⟩
       | true =>
        go_wp2_with fail
        refine wp_region_segs [([0,1,2,3,4,5,6,7,8,9,10,11,12,13,14,15,16,17,18,19,20,21,22,23,24],25)] [26,27] (by kernel_rfl) (by kernel_rfl) ?_
        simp only [wpSegs, pick, List.getElem?_cons_zero, List.getElem?_cons_succ]
        repeat (quiet_step (fail))
        refine wpQuiet_nil ?_
        rintro _ ⟨nq, rfl⟩
        go_wp2_with fail
        refine (HX.out _ (HB3.out.drewN nq) ((HTW.out.trans HT3.out).drewN nq)).mono ?_
        rintro _ w5 ⟨m5, rfl, hb5, ht5, hm5, hm5'⟩
        have HB5 := hid hb5
        have HT5 := hid (HT3.out.trans (Touch.ofN ht5))
        clear hb5 ht5 e0 e3 x0
        cases hx : chkN (d + 1) x with
        | false =>
         have HCH := hid (show chkN d n = false by rw [HC3.out, p1]; exact HN.out (by rw [hx, Bool.and_false]))
         rw [hx] at hm5'
         go_wp2_with fail
         repeat (quiet_step (fail))
         refine wpQuiet_nil ?_
         rintro _ ⟨nq2, rfl⟩
         go_wp2_with fail
         go_ret
         exact ⟨m5, by rw [HCH.out]; rfl, HB5.out.drewN _, HT5.out.drewN _, by have := HCT.out; omega, fun h => by rw [HCH.out] at h; cases h⟩
        | true =>
         rw [hx] at hm5'
         have hm6 := hm5' rfl
         clear hm5'
         have HL5 := hid (show chkL false (d + 1) (n.kids.take (j + 1)) = true by
          have hl := HL.out
          rw [p1] at hl
          rw [HS.out, hl, p2, hx]; rfl)
         go_wp2_with fail
         repeat (quiet_step (fail))
         refine wpQuiet_nil ?_
         rintro _ ⟨nq2, rfl⟩
         go_wp2_with fail
         go_roundw
         case rel => exact ⟨j + 1, m5, by go_num, by omega, HB5.out.drewN _, HT5.out.drewN _, by rw [HCT.out]; unfold Hid; omega, HL5⟩
         case measure => simp [intOf]; omega
      | true =>
       rw [p1] at HS HN
       cases p2 : (x.kind == 1) with
       | false =>
        go_wp2_with fail
        refine wp_region_segs [([0,1,2,3,4,5,6,7,8,9,10,11,12,13,14,15,16,17,18,19,20,21,22,23,24],25)] [26,27] (by kernel_rfl) (by kernel_rfl) ?_
        simp only [wpSegs, pick, List.getElem?_cons_zero, List.getElem?_cons_succ]
        repeat (quiet_step (fail))
        refine wpQuiet_nil ?_
        rintro _ ⟨nq, rfl⟩
        go_wp2_with fail
        refine (HX.out _ (HB3.out.drewN nq) ((HTW.out.trans HT3.out).drewN nq)).mono ?_
        rintro _ w5 ⟨m5, rfl, hb5, ht5, hm5, hm5'⟩
        have HB5 := hid hb5
        have HT5 := hid (HT3.out.trans (Touch.ofN ht5))
        clear hb5 ht5 e0 e3 x0
        cases hx : chkN (d + 1) x with
        | false =>
         have HCH := hid (show chkN d n = false by rw [HC3.out, p1]; exact HN.out (by rw [hx, Bool.and_false]))
         rw [hx] at hm5'
         go_wp2_with fail
         repeat (quiet_step (fail))
         refine wpQuiet_nil ?_
         rintro _ ⟨nq2, rfl⟩
         go_wp2_with fail
         go_ret
         exact ⟨m5, by rw [HCH.out]; rfl, HB5.out.drewN _, HT5.out.drewN _, by have := HCT.out; omega, fun h => by rw [HCH.out] at h; cases h⟩
        | true =>
         rw [hx] at hm5'
         have hm6 := hm5' rfl
         clear hm5'
         have HL5 := hid (show chkL true (d + 1) (n.kids.take (j + 1)) = true by
          have hl := HL.out
          rw [p1] at hl
          rw [HS.out, hl, p2, hx]; rfl)
         go_wp2_with fail
         repeat (quiet_step (fail))
         refine wpQuiet_nil ?_
         rintro _ ⟨nq2, rfl⟩
         go_wp2_with fail
         go_roundw
         case rel => exact ⟨j + 1, m5, by go_num, by omega, HB5.out.drewN _, HT5.out.drewN _, by rw [HCT.out]; unfold Hid; omega, HL5⟩
         case measure => simp [intOf]; omega
       | true =>
        have HCH := hid (show chkN d n = false by rw [HC3.out, p1]; exact HN.out (by rw [p2]; rfl))
        go_wp2_with fail
        go_quiet (fail)
        go_wp2_with fail
        go_ret
        exact ⟨m', by rw [HCH.out]; rfl, HB3.out, HT3.out.drewN _, by omega, fun h => by rw [HCH.out] at h; cases h⟩
     ·have d1 : decide ((j : Int) < (n.kids.length : Int)) = false := by simp only [decide_eq_false_iff_not]; omega
      have d1n : decide (j < n.kids.length) = false := by simp only [decide_eq_false_iff_not]; omega
      obtain rfl : j = n.kids.length := by omega
      have hl := HL.out
      rw [List.take_length] at hl
      have hmm := HM.out
      rw [List.take_length] at hmm
      have HCH := hid (show chkN d n = true by rw [HC3.out]; exact hl)
      clear hl
      go_wp2_with fail
      go_ret
      exact ⟨m', by rw [HCH.out]; rfl, HB3.out, HT3.out, by omega, fun _ => by omega⟩
end Go.Proofs.YtdacpbdamliafaaGreat

/- The walk of node.Valid. -/
namespace Go.Proofs.YtdacpbdamliafaaGreat
open Go.RowKit
attribute [local go_sem] Oper.semAt_some
theorem built_check : Tryz.prog.built 138 [(0, .agg kindCells)] = some (checkCells 0) := by kernel_rfl
set_option maxRecDepth 100000 in
set_option maxHeartbeats 1000000 in
theorem valid_any (n : Tr.Nd) (sl : Value) (w : World) (hr : RepL w n.kids sl) (ht : n.text.length ≤ maxLen) (hc : Tr.count n ≤ 1000) :
  Calls Tryz.prog 56 #[.agg #[.int .i64 n.kind, .string ⟨n.text.toArray⟩, .int .i64 n.cols, sl]] w fun e w' => e = .returned (.bool ((n.kind == 1) && chkN 1 n)) ∧ Fresh w w' := by
 obtain ⟨A, cap, rfl⟩ := hr.slice
 have HR := hid hr
 clear hr
 go_enter Tryz.func56, Tryz.ntmps56
 go_wp2_with fail
 refine (kinds_any _).mono ?_
 rintro _ w1 ⟨rfl, hf1⟩
 have hf1' : Fresh w w1 := hf1.pre
 have hb1 := hf1.blk (Blk.new w 24 #[.int .i64 n.kind, .string ⟨n.text.toArray⟩, .int .i64 n.cols, .slice A n.kids.length cap]) (fun h => h)
 obtain ⟨q0, q1, q2, q3, _, _, _, _, hg⟩ := Blk.four hb1
 have HN := hid (node_any w1 w1.heap.size (Nat.le_refl _) _ n A w.heap.size 0 cap 1 0 1 (w1.alloc (.cells (checkCells 0) 138)) rfl (Nat.le_refl _) q0 q1 q2 q3 (HR.out.fresh hf1') ht (Blk.new _ _ _) ((Touch.refl _ _).alloc _) (by omega) (by decide))
 have HF1 := hid hf1'
 have hb2 := hb1.alloc (.cells (checkCells 0) 138)
 obtain ⟨r0, r1, r2, r3, _, _, _, _, hg2⟩ := Blk.four hb2
 clear hf1 hf1' hb1 hb2
 cases hk : (n.kind == 1) with
 | false =>
  go_wp2_with (refine wpList_build_kind [(0, .agg kindCells)] built_check _ rfl rfl rfl (.agg (checkCells 0)) rfl ?_)
  go_ret
  exact ⟨ret_bool' _ _ (by rw [hk]; rfl), HF1.out.alloc _⟩
 | true =>
  go_wp2_with (refine wpList_build_kind [(0, .agg kindCells)] built_check _ rfl rfl rfl (.agg (checkCells 0)) rfl ?_)
  refine HN.out.mono ?_
  rintro _ w2 ⟨m', rfl, hb3, ht3, _, _⟩
  have hf2 : Fresh w w2 := HF1.out.trans' (Touch.pre ht3) (fun i hi => by right; have := HF1.out.size; omega)
  have HF2 := hid hf2
  clear hf2 hb3 ht3 q0 q1 q2 q3 r0 r1 r2 r3
  go_wp2_with fail
  go_ret
  exact ⟨ret_bool' _ _ (by rw [hk]; rfl), HF2.out⟩
end Go.Proofs.YtdacpbdamliafaaGreat

/- What node.Valid reports is validity. -/
namespace Go.Proofs.YtdacpbdamliafaaGreat
open Go.RowKit
theorem ownF_form (n : Tr.Nd) : ownF n = (Tr.textOK n.kind n.text && Tr.kidsOK n.kind n.cols n.kids.length) := by
 unfold ownF
 by_cases h1 : 1 ≤ n.kind
 ·by_cases h2 : n.kind ≤ 12
  ·simp [h1, h2]
  ·have : Tr.kidsOK n.kind n.cols n.kids.length = false := by
    unfold Tr.kidsOK
    rw [if_neg (by omega)]
    split
    ·rfl
    ·rw [if_neg (by omega), if_neg (by omega), if_neg (by omega), if_neg (by omega), if_neg (by omega)]
   simp [this]
 ·have : Tr.kidsOK n.kind n.cols n.kids.length = false := by
   unfold Tr.kidsOK
   rw [if_neg (by omega)]
   split
   ·rfl
   ·rw [if_neg (by omega), if_neg (by omega), if_neg (by omega), if_neg (by omega), if_neg (by omega)]
  simp [this]
theorem chk_form (n : Tr.Nd) : ∀ d, chkN d n = (Tr.form n && decide (d + Tr.depth n ≤ 25)) := by
 induction n using Tr.Nd.ind with
 | h n ih =>
  have hL : ∀ (r : Bool) (l : List Tr.Nd) (d : Nat), d ≤ 25 → (∀ x ∈ l, ∀ d, chkN d x = (Tr.form x && decide (d + Tr.depth x ≤ 25))) → chkL r d l = (Tr.formL r l && decide (d + Tr.depthL l ≤ 25)) := by
   intro r l
   induction l with
   | nil => intro d hd _; simp [chkL, Tr.formL, Tr.depthL, hd]
   | cons x l ihl =>
    intro d hd h
    rw [chkL, Tr.formL, Tr.depthL, h x (by simp) d, ihl d hd (fun y hy => h y (by simp [hy]))]
    have e : decide (d + max (Tr.depth x) (Tr.depthL l) ≤ 25) = (decide (d + Tr.depth x ≤ 25) && decide (d + Tr.depthL l ≤ 25)) := by
     rw [Bool.eq_iff_iff, Bool.and_eq_true, decide_eq_true_iff, decide_eq_true_iff, decide_eq_true_iff]; omega
    rw [e, bne]
    generalize (!((x.kind == 1) == r)) = a
    generalize Tr.form x = b
    generalize Tr.formL r l = c
    generalize decide (d + Tr.depth x ≤ 25) = p
    generalize decide (d + Tr.depthL l ≤ 25) = q
    cases a <;> cases b <;> cases c <;> cases p <;> cases q <;> rfl
  intro d
  rw [chkN_eq, ownF_form, Tr.form_eq, Tr.depth_kids]
  by_cases hd : d ≤ 24
  ·rw [hL _ _ (d + 1) (by omega) ih]
   have e : decide (d + 1 + Tr.depthL n.kids ≤ 25) = decide (d + (Tr.depthL n.kids + 1) ≤ 25) := by
    rw [Bool.eq_iff_iff, decide_eq_true_iff, decide_eq_true_iff]; omega
   rw [e]
   simp [hd, Bool.and_assoc]
  ·have e : decide (d + (Tr.depthL n.kids + 1) ≤ 25) = false := by simp only [decide_eq_false_iff_not]; omega
   rw [e]
   simp [hd]
theorem valid_is (n : Tr.Nd) (hc : Tr.count n ≤ 1000) : ((n.kind == 1) && chkN 1 n) = Tr.valid n := by
 rw [chk_form]
 unfold Tr.valid
 have e1 : decide (Tr.count n ≤ 1000) = true := by simp only [decide_eq_true_eq]; exact hc
 have e2 : decide (1 + Tr.depth n ≤ 25) = decide (Tr.depth n ≤ 24) := by rw [Bool.eq_iff_iff, decide_eq_true_iff, decide_eq_true_iff]; omega
 rw [e1, e2, Bool.and_true, Bool.and_assoc]
theorem valid_call (n : Tr.Nd) (sl : Value) (w : World) (hr : RepL w n.kids sl) (ht : n.text.length ≤ maxLen) (hc : Tr.count n ≤ 1000) :
  Calls Tryz.prog 56 #[.agg #[.int .i64 n.kind, .string ⟨n.text.toArray⟩, .int .i64 n.cols, sl]] w fun e w' => e = .returned (.bool (Tr.valid n)) ∧ Fresh w w' := by
 rw [← valid_is n hc]; exact valid_any n sl w hr ht hc
end Go.Proofs.YtdacpbdamliafaaGreat

/- The methods of all kinds: the printer's row adds the tokens of a valid row; Print and Tokens. -/
namespace Go.Proofs.YtdacpbdamliafaaGreat
open Go.RowKit
open Tr (Nd argT baseT rowT itemT cellsT View IsRow)
attribute [local go_sem] Oper.semAt_some
theorem base_scripts_sub (W0 : World) (p B : Nat) (tx cl : Value) (a b : Nd) (ha : RowE W0 p B a) (hb : ArgE W0 p B b) (sl : Value) (hsl : RepL W0 [a, b] sl) : Emits 130 #[pp p, .agg #[.int .i64 7, tx, cl, sl]] W0 p B (baseT a ++ ([Tr.mk7 95] ++ argT b)) := by
 by_cases h1 : a.kids.length = 1
 ·obtain ⟨x, hx⟩ := List.length_eq_one_iff.1 h1
  cases hs : Tr.scripted x with
  | true => exact scripts_7_item W0 p B tx cl a b x hx hs (group_em W0 p B a ha) hb sl hsl
  | false => exact scripts_7_row W0 p B tx cl a b x hx hs ha hb sl hsl
 ·exact scripts_7_len W0 p B tx cl a b h1 (group_em W0 p B a ha) hb sl hsl
theorem base_scripts_sup (W0 : World) (p B : Nat) (tx cl : Value) (a b : Nd) (ha : RowE W0 p B a) (hb : ArgE W0 p B b) (sl : Value) (hsl : RepL W0 [a, b] sl) : Emits 130 #[pp p, .agg #[.int .i64 8, tx, cl, sl]] W0 p B (baseT a ++ ([Tr.mk7 94] ++ argT b)) := by
 by_cases h1 : a.kids.length = 1
 ·obtain ⟨x, hx⟩ := List.length_eq_one_iff.1 h1
  cases hs : Tr.scripted x with
  | true => exact scripts_8_item W0 p B tx cl a b x hx hs (group_em W0 p B a ha) hb sl hsl
  | false => exact scripts_8_row W0 p B tx cl a b x hx hs ha hb sl hsl
 ·exact scripts_8_len W0 p B tx cl a b h1 (group_em W0 p B a ha) hb sl hsl
theorem base_scripts_both (W0 : World) (p B : Nat) (tx cl : Value) (a b d : Nd) (ha : RowE W0 p B a) (hb : ArgE W0 p B b) (hd : ArgE W0 p B d) (sl : Value) (hsl : RepL W0 [a, b, d] sl) : Emits 130 #[pp p, .agg #[.int .i64 9, tx, cl, sl]] W0 p B (baseT a ++ ([Tr.mk7 95] ++ (argT b ++ ([Tr.mk7 94] ++ argT d)))) := by
 by_cases h1 : a.kids.length = 1
 ·obtain ⟨x, hx⟩ := List.length_eq_one_iff.1 h1
  cases hs : Tr.scripted x with
  | true => exact scripts_9_item W0 p B tx cl a b d x hx hs (group_em W0 p B a ha) hb hd sl hsl
  | false => exact scripts_9_row W0 p B tx cl a b d x hx hs ha hb hd sl hsl
 ·exact scripts_9_len W0 p B tx cl a b d h1 (group_em W0 p B a ha) hb hd sl hsl
theorem sym_tok (t : Tr.Bytes) : (if t.length = 1 then (⟨1, t⟩ : Lx.Tok) else ⟨4, t⟩) = ⟨if t.length = 1 then 1 else 4, t⟩ := by split <;> rfl
theorem item_em (W0 : World) (p B : Nat) (x : Nd) (v : View x) (hc : Tr.count x ≤ 1000000) (h : ∀ a ∈ x.kids, RowE W0 p B a) : ItemE W0 p B x := by
 have hA : ∀ a ∈ x.kids, ArgE W0 p B a := fun a ha => argument_em W0 p B a (h a ha)
 cases v with
 | sym t ht => exact ⟨_, fun _ => by kernel_rfl, fun _ _ => by kernel_rfl, fun sx hr => by rw [Tr.itemT_sym, sym_tok]; exact symbol_em W0 p B (.mk 2 t 0 []) sx⟩
 | num t ht => exact ⟨_, fun _ => by kernel_rfl, fun _ _ => by kernel_rfl, fun sx hr => by rw [Tr.itemT_num]; exact number_em W0 p B (.mk 3 t 0 []) sx⟩
 | text t ht => exact ⟨_, fun _ => by kernel_rfl, fun _ _ => by kernel_rfl, fun sx hr => by rw [Tr.itemT_text]; exact quoted_em W0 p B (.mk 4 t 0 []) sx⟩
 | frac a b ha hb => exact ⟨_, fun _ => by kernel_rfl, fun _ _ => by kernel_rfl, fun sx hr => by rw [Tr.itemT_frac]; exact fraction_em W0 p B _ _ _ a b (hA a (by simp [Nd.kids])) (hA b (by simp [Nd.kids])) sx hr⟩
 | root a b ha hb =>
  refine ⟨129, fun _ => by kernel_rfl, fun _ _ => by kernel_rfl, fun sx hr => ?_⟩
  rw [Tr.itemT_root]
  by_cases hk : a.kids = []
  ·rw [if_pos hk]; exact root_bare W0 p B _ _ _ a b hk (hA b (by simp [Nd.kids])) sx hr
  ·rw [if_neg hk, List.cons_append, List.append_assoc]; exact root_full W0 p B _ _ _ a b hk (h a (by simp [Nd.kids])) (hA b (by simp [Nd.kids])) sx hr
 | sub a b ha hb => exact ⟨_, fun _ => by kernel_rfl, fun _ _ => by kernel_rfl, fun sx hr => by rw [Tr.itemT_sub]; exact base_scripts_sub W0 p B _ _ a b (h a (by simp [Nd.kids])) (hA b (by simp [Nd.kids])) sx hr⟩
 | sup a b ha hb => exact ⟨_, fun _ => by kernel_rfl, fun _ _ => by kernel_rfl, fun sx hr => by rw [Tr.itemT_sup]; exact base_scripts_sup W0 p B _ _ a b (h a (by simp [Nd.kids])) (hA b (by simp [Nd.kids])) sx hr⟩
 | both a b d ha hb hd => exact ⟨_, fun _ => by kernel_rfl, fun _ _ => by kernel_rfl, fun sx hr => by rw [Tr.itemT_both]; exact base_scripts_both W0 p B _ _ a b d (h a (by simp [Nd.kids])) (hA b (by simp [Nd.kids])) (hA d (by simp [Nd.kids])) sx hr⟩
 | accent t a ht ha => exact ⟨_, fun _ => by kernel_rfl, fun _ _ => by kernel_rfl, fun sx hr => by rw [Tr.itemT_accent]; exact accent_em W0 p B _ _ t a (hA a (by simp [Nd.kids])) sx hr⟩
 | fence t a ht ha =>
  refine ⟨132, fun _ => by kernel_rfl, fun _ _ => by kernel_rfl, fun sx hr => ?_⟩
  rw [Tr.itemT_fence]
  by_cases h1 : t = [40, 41]
  ·subst h1
   rw [if_pos (.inl rfl)]
   exact fence_round W0 p B _ _ a (h a (by simp [Nd.kids])) sx hr
  ·by_cases h2 : t = [91, 93]
   ·subst h2
    rw [if_pos (.inr rfl)]
    exact fence_square W0 p B _ _ a (h a (by simp [Nd.kids])) sx hr
   ·rw [if_neg (fun h => h.elim h1 h2)]
    exact fence_other W0 p B _ _ t h1 h2 a (hA a (by simp [Nd.kids])) sx hr
 | matrix c ks hc1 hn hm hk =>
  refine ⟨133, fun _ => by kernel_rfl, fun _ _ => by kernel_rfl, fun sx hr => ?_⟩
  rw [Tr.itemT_matrix c ks (by rintro rfl; simp at hn)]
  have hle : c ≤ ks.length := by
   rcases Int.lt_or_le (ks.length : Int) c with h' | h'
   ·rw [Int.emod_eq_of_lt (by omega) h'] at hm
    omega
   ·exact h'
  have := Tr.countL_len ks
  rw [Tr.count] at hc
  exact matrix_em W0 p B _ _ c ks hc1 (by omega) (fun k hk' => h k (by simpa [Nd.kids] using hk')) sx hr
theorem rows_em (W0 : World) (p B : Nat) (m : Nat) : ∀ a : Nd, Tr.count a ≤ m → m ≤ 1000000 → IsRow a → RowE W0 p B a := by
 induction m with
 | zero => intro a h; have := Tr.count_pos a; omega
 | succ m ih =>
  intro a hc hm ha
  have h1 := Tr.count_kids a
  refine row_em W0 p B a fun x hx => ?_
  have h2 := Tr.count_mem hx
  have hv := ha.views x hx
  refine item_em W0 p B x hv (by omega) fun b hb => ?_
  have h3 := Tr.count_mem hb
  have h4 := Tr.count_kids x
  refine ih b (by omega) (by omega) ?_
  cases hv with
  | sym t h => simp [Nd.kids] at hb
  | num t h => simp [Nd.kids] at hb
  | text t h => simp [Nd.kids] at hb
  | frac a b ha hb' => simp only [Nd.kids, List.mem_cons, List.not_mem_nil, or_false] at hb; rcases hb with rfl | rfl <;> assumption
  | root a b ha hb' => simp only [Nd.kids, List.mem_cons, List.not_mem_nil, or_false] at hb; rcases hb with rfl | rfl <;> assumption
  | sub a b ha hb' => simp only [Nd.kids, List.mem_cons, List.not_mem_nil, or_false] at hb; rcases hb with rfl | rfl <;> assumption
  | sup a b ha hb' => simp only [Nd.kids, List.mem_cons, List.not_mem_nil, or_false] at hb; rcases hb with rfl | rfl <;> assumption
  | both a b d ha hb' hd => simp only [Nd.kids, List.mem_cons, List.not_mem_nil, or_false] at hb; rcases hb with rfl | rfl | rfl <;> assumption
  | accent t a h ha => simp only [Nd.kids, List.mem_cons, List.not_mem_nil, or_false] at hb; subst hb; assumption
  | fence t a h ha => simp only [Nd.kids, List.mem_cons, List.not_mem_nil, or_false] at hb; subst hb; assumption
  | matrix c ks hc1 hn hm hk => exact hk b hb
theorem ownsRow_low {w : World} {base base' e size n : Nat} {v : Value} {xs : List Value} (h : w.ownsRow base e size v n xs) (hb : base' ≤ base) : w.ownsRow base' e size v n xs := by
 refine ⟨h.1, h.2.imp id ?_⟩
 rintro ⟨g, cap, cur, h1, h2, h3⟩
 exact ⟨g, cap, cur, h1, Nat.le_trans hb h2, h3⟩
def prCells : Array Value := #[.slice none 0 0, .pointer none, .slice none 0 0]
theorem built_pr : Tryz.prog.built 103 [] = some prCells := by kernel_rfl
theorem Pr.new (w : World) : Pr (w.alloc (.cells prCells 103)) w.heap.size (w.heap.size + 1) (.slice none 0 0) (.slice none 0 0) prCells [] [] :=
 ⟨by omega, ⟨Blk.new _ _ _, .inl rfl, rfl, World.ownsRow_nil _ _ _ _, by simp [Value.ownBlock], fun _ => rfl⟩, rfl, rfl, World.ownsRow_nil _ _ _ _⟩
theorem PSt.new (w : World) : PSt w w.heap.size (w.heap.size + 1) (w.alloc (.cells prCells 103)) [] [] :=
 ⟨(Touch.refl _ _).alloc _, Nat.le_refl _, by simp, _, _, _, Pr.new w⟩
def printS (n : Nd) : List UInt8 := if Tr.valid n then Tr.wtext (rowT n.kids) else []
def printE (n : Nd) : Int := if Tr.valid n then 0 else 1
def printT (n : Nd) : List Lx.PTok := if Tr.valid n then Lx.placed 0 (Tr.sepd none (rowT n.kids)) else []
def TokensOf (n : Nd) (w : World) (e : Ending) (w' : World) : Prop := ∃ v, e = .returned (.tuple #[v, .int .i64 (printE n)]) ∧ w'.ownsRow w.heap.size 150 4 v (printT n).length ((printT n).flatMap ptokCellsP) ∧ Fresh w w'
set_option maxRecDepth 100000 in
set_option maxHeartbeats 1000000 in
theorem print_any (n : Nd) (sl : Value) (w : World) (hr : RepL w n.kids sl) (ht : n.text.length ≤ maxLen) (hc : Tr.count n ≤ 800) :
  Calls Tryz.prog 33 #[nv n sl] w fun e w' => e = .returned (.tuple #[.string ⟨(printS n).toArray⟩, .int .i64 (printE n)]) ∧ Fresh w w' := by
 have HV := hid (fun (w : World) (hr : RepL w n.kids sl) => valid_call n sl w hr ht (by omega))
 have HR := hid hr
 have HC := hid hc
 clear hr hc
 cases hv : Tr.valid n with
 | false =>
  have HS := hid (show printS n = [] from by unfold printS; rw [hv]; rfl)
  have HE := hid (show printE n = 1 from by unfold printE; rw [hv]; rfl)
  rw [HS.out, HE.out]
  go_enter Tryz.func33, Tryz.ntmps33
  go_wp2_with fail
  refine (HV.out _ (HR.out.fresh ((Touch.refl _ _).alloc _))).mono ?_
  rintro _ w1 ⟨rfl, hf⟩
  have HF := hid (Touch.pre hf)
  clear hf
  go_wp2_with fail
  go_ret2
  exact ⟨rfl, HF.out⟩
 | true =>
  have HS := hid (show printS n = Tr.wtext (rowT n.kids) from by unfold printS; rw [hv]; rfl)
  have HE := hid (show printE n = 0 from by unfold printE; rw [hv]; rfl)
  have HROW := hid (Tr.valid_row n hv)
  rw [HS.out, HE.out]
  go_enter Tryz.func33, Tryz.ntmps33
  go_wp2_with fail
  refine (HV.out _ (HR.out.fresh ((Touch.refl _ _).alloc _))).mono ?_
  rintro _ w1 ⟨rfl, hf⟩
  have HF := hid (Touch.pre hf)
  have hb1 := hf.blk (Blk.new _ _ _) (fun h => h)
  have HB := hid hb1
  obtain ⟨q0, q1, q2, q3, _, _, _, _, hg⟩ := Blk.four hb1
  clear hf hb1
  have HEM := hid (rows_em w1 w1.heap.size (w1.heap.size + 1) _ n (Nat.le_refl _) (by have := HC.out; omega) HROW.out sl (HR.out.fresh HF.out) _ _ _ (PSt.new w1) (row_fits n HROW.out HC.out))
  go_wp2_with (refine wpList_build_kind [] built_pr _ rfl rfl rfl (.agg prCells) rfl ?_)
  refine HEM.out.mono ?_
  rintro _ w2 ⟨rfl, h2⟩
  obtain ⟨vt, vb, cs, hpr, htc⟩ := h2
  rw [adds_wtext] at hpr
  have HF2 := hid (show Fresh w w2 from HF.out.trans' ((((Touch.refl (fun k => w1.heap.size ≤ k) w1).alloc (.cells prCells 103))).trans (htc.mono (fun k hk => by rcases hk with rfl | ⟨h, _⟩ <;> omega))) (fun i hi => .inr (by have := HF.out.size; omega)))
  have HPR := hid hpr
  clear hpr htc q0 q1 q2 q3
  go_wp2_with fail
  refine (bstring_any HPR.out.bld).mono ?_
  rintro _ w3 ⟨rfl, h3⟩
  have HF3 := hid (show Fresh w w3 from HF2.out.trans' h3 (fun i hi => .inr (by have := (owns_type HPR.out.bld.own hi).1; have := HF.out.size; omega)))
  clear h3
  go_wp2_with fail
  go_ret2
  exact ⟨rfl, HF3.out⟩
set_option maxRecDepth 100000 in
set_option maxHeartbeats 1000000 in
theorem ptokens_any (n : Nd) (sl : Value) (w : World) (hr : RepL w n.kids sl) (ht : n.text.length ≤ maxLen) (hc : Tr.count n ≤ 800) :
  Calls Tryz.prog 67 #[nv n sl] w (TokensOf n w) := by
 have HV := hid (fun (w : World) (hr : RepL w n.kids sl) => valid_call n sl w hr ht (by omega))
 have HR := hid hr
 have HC := hid hc
 clear hr hc
 cases hv : Tr.valid n with
 | false =>
  have HS := hid (show printT n = [] from by unfold printT; rw [hv]; rfl)
  have HE := hid (show printE n = 1 from by unfold printE; rw [hv]; rfl)
  go_enter Tryz.func67, Tryz.ntmps67
  go_wp2_with fail
  refine (HV.out _ (HR.out.fresh ((Touch.refl _ _).alloc _))).mono ?_
  rintro _ w1 ⟨rfl, hf⟩
  have HF := hid (Touch.pre hf)
  clear hf
  go_wp2_with fail
  go_ret2
  exact ⟨.slice none 0 0, by rw [HE.out]; rfl, by rw [HS.out]; exact World.ownsRow_nil _ _ _ _, HF.out⟩
 | true =>
  have HS := hid (show printT n = Lx.placed 0 (Tr.sepd none (rowT n.kids)) from by unfold printT; rw [hv]; rfl)
  have HE := hid (show printE n = 0 from by unfold printE; rw [hv]; rfl)
  have HROW := hid (Tr.valid_row n hv)
  go_enter Tryz.func67, Tryz.ntmps67
  go_wp2_with fail
  refine (HV.out _ (HR.out.fresh ((Touch.refl _ _).alloc _))).mono ?_
  rintro _ w1 ⟨rfl, hf⟩
  have HF := hid (Touch.pre hf)
  have hb1 := hf.blk (Blk.new _ _ _) (fun h => h)
  have HB := hid hb1
  obtain ⟨q0, q1, q2, q3, _, _, _, _, hg⟩ := Blk.four hb1
  clear hf hb1
  have HEM := hid (rows_em w1 w1.heap.size (w1.heap.size + 1) _ n (Nat.le_refl _) (by have := HC.out; omega) HROW.out sl (HR.out.fresh HF.out) _ _ _ (PSt.new w1) (row_fits n HROW.out HC.out))
  go_wp2_with (refine wpList_build_kind [] built_pr _ rfl rfl rfl (.agg prCells) rfl ?_)
  refine HEM.out.mono ?_
  rintro _ w2 ⟨rfl, h2⟩
  obtain ⟨vt, vb, cs, hpr, htc⟩ := h2
  rw [adds_wtext] at hpr
  have HF2 := hid (show Fresh w w2 from HF.out.trans' ((((Touch.refl (fun k => w1.heap.size ≤ k) w1).alloc (.cells prCells 103))).trans (htc.mono (fun k hk => by rcases hk with rfl | ⟨h, _⟩ <;> omega))) (fun i hi => .inr (by have := HF.out.size; omega)))
  have HPR := hid hpr
  have r0 : w2.cell? ⟨w1.heap.size, 0, none⟩ = some vt := (hpr.bld.blk.cell 0).trans hpr.tok
  clear hpr htc q0 q1 q2 q3
  go_wp2_with fail
  go_ret2
  exact ⟨vt, by rw [HE.out]; rfl, by
   rw [HS.out]
   exact ownsRow_low HPR.out.own (by have := HF.out.size; omega), HF2.out⟩
end Go.Proofs.YtdacpbdamliafaaGreat

/- The walk over a row that calls closures: words for its contracts. -/
namespace Go.Proofs.YtdacpbdamliafaaGreat
open Go.RowKit
open Tr (Nd Clo runRow runSegs rowT itemT segs)
abbrev up (p : List Nat) : List Int := p.map fun n : Nat => (n : Int)
structure Mv (g : Nat) (S S' : Nat → Prop) (w w' : World) : Prop where
 touch : Touch (fun b => S b ∨ b = g) w w'
 grow : ∀ b, S' b → S b ∨ w.heap.size ≤ b
theorem Mv.trans {g : Nat} {S S' S'' : Nat → Prop} {a b c : World} (h : Mv g S S' a b) (k : Mv g S' S'' b c) : Mv g S S'' a c :=
 ⟨h.touch.trans' k.touch fun i hi => by
   rcases hi with hi | rfl
   ·exact (h.grow i hi).imp .inl id
   ·exact .inl (.inr rfl),
  fun i hi => by
   rcases k.grow i hi with h1 | h1
   ·exact h.grow i h1
   ·exact .inr (Nat.le_trans h.touch.size h1)⟩
theorem Mv.fresh {g : Nat} {S : Nat → Prop} {a b : World} (h : Fresh a b) : Mv g S S a b := ⟨h.mono fun _ hf => hf.elim, fun _ h => .inl h⟩
theorem Mv.refl (g : Nat) (S : Nat → Prop) (a : World) : Mv g S S a a := Mv.fresh (Touch.refl _ _)
structure Mc (S S' : Nat → Prop) (w w' : World) : Prop where
 touch : Touch S w w'
 grow : ∀ b, S' b → S b ∨ w.heap.size ≤ b
theorem Mc.mv {g : Nat} {S S' : Nat → Prop} {w w' : World} (h : Mc S S' w w') : Mv g S S' w w' := ⟨h.touch.mono fun _ => .inl, h.grow⟩
theorem Mv.blk {g : Nat} {S S' : Nat → Prop} {w w' : World} (h : Mv g S S' w w') {k : Nat} {t : TypeId} {cs : Array Value} (hb : Blk w k t cs) (h1 : ¬ S k) (h2 : k ≠ g) : Blk w' k t cs ∧ ¬ S' k :=
 ⟨h.touch.blk hb (fun e => e.elim h1 h2), fun e => (h.grow k e).elim h1 fun hle => by have := hb.lt; omega⟩
def PathIn (g : Nat) (S : Nat → Prop) (w : World) (v : Value) (p : List Nat) : Prop :=
 ∃ A cap, v = .slice A p.length cap ∧ (p = [] ∨ ∃ b o, A = some ⟨b, o, none⟩ ∧ b < w.heap.size ∧ ¬ S b ∧ b ≠ g ∧ ∀ i (h : i < p.length), w.cell? ⟨b, o + i, none⟩ = some (.int .i64 (p[i] : Nat)))
theorem PathIn.ints {g : Nat} {S : Nat → Prop} {w : World} {v : Value} {p : List Nat} (h : PathIn g S w v p) : Ints w v (up p) := by
 obtain ⟨A, cap, rfl, h⟩ := h
 refine ⟨A, cap, by simp, ?_⟩
 rcases h with rfl | ⟨b, o, rfl, h1, _, _, h2⟩
 ·exact .inl rfl
 ·exact .inr ⟨b, o, rfl, h1, fun i hi => by rw [List.getElem_map]; exact h2 i (by simpa using hi)⟩
theorem PathIn.slice {g : Nat} {S : Nat → Prop} {w : World} {v : Value} {p : List Nat} (h : PathIn g S w v p) : ∃ A cap, v = .slice A p.length cap := by
 obtain ⟨A, cap, h, _⟩ := h
 exact ⟨A, cap, h⟩
theorem PathIn.mv {g : Nat} {S S' : Nat → Prop} {w w' : World} {v : Value} {p : List Nat} (h : PathIn g S w v p) (k : Mv g S S' w w') : PathIn g S' w' v p := by
 obtain ⟨A, cap, rfl, h⟩ := h
 refine ⟨A, cap, rfl, h.imp id ?_⟩
 rintro ⟨b, o, rfl, h1, h2, h3, h4⟩
 exact ⟨b, o, rfl, Nat.lt_of_lt_of_le h1 k.touch.size, fun e => (k.grow b e).elim h2 (by omega), h3, fun i hi => k.touch.cell (h4 i hi) (fun e => e.elim h2 h3)⟩
theorem PathIn.nil (g : Nat) (S : Nat → Prop) (w : World) : PathIn g S w (.slice none 0 0) [] := ⟨none, 0, rfl, .inl rfl⟩
theorem PathIn.new {g : Nat} {S : Nat → Prop} {w w' : World} {v : Value} {p : List Nat} (hS : ∀ b, S b → b < w.heap.size) (hg : g < w.heap.size) (h : w'.ownsRow w.heap.size 3 1 v (up p).length (intVs (up p))) : PathIn g S w' v p := by
 rcases h.2 with ⟨h1, h2⟩ | ⟨b, cap, cur, h1, hB, _⟩
 ·rw [List.length_map] at h2
  rw [List.length_eq_zero_iff.1 h2, h1]
  exact PathIn.nil _ _ _
 ·rw [List.length_map] at h1
  refine ⟨_, cap, h1, .inr ⟨b, 0, rfl, (h.lt b (by rw [h1]; rfl)).2, fun e => by have := hS b e; omega, by omega, fun i hi => ?_⟩⟩
  have := h.cells (g := b) (by rw [h1]; rfl) i (.int .i64 (p[i] : Nat)) (by simp [hi])
  rw [Addr.add_mid, Nat.zero_add] at this
  rw [Nat.zero_add]
  exact this
theorem path_cat {g : Nat} {S : Nat → Prop} {W : World} {A : Option Addr} {cap : Nat} {p : List Nat} (hp : PathIn g S W (.slice A p.length cap) p) (hS : ∀ b, S b → b < W.heap.size) (hg : g < W.heap.size) (hl : p.length ≤ 1000) (i n : Nat) :
  Calls Tryz.prog 98 #[.slice (some ⟨W.heap.size + 1, 0, none⟩) 2 2] (((W.drewN n).alloc (.cells #[.int .i64 (i : Int)] 3)).alloc (.cells #[.slice A p.length cap, .slice (some ⟨W.heap.size, 0, none⟩) 1 1] 25))
   fun e w' => ∃ A' cap', e = .returned (.slice A' (p.length + 1) cap') ∧ PathIn g S w' (.slice A' (p.length + 1) cap') (p ++ [i]) ∧ Fresh W w' := by
 have hb1 : Blk (((W.drewN n).alloc (.cells #[.int .i64 (i : Int)] 3)).alloc (.cells #[.slice A p.length cap, .slice (some ⟨W.heap.size, 0, none⟩) 1 1] 25)) W.heap.size 3 #[.int .i64 (i : Int)] := (Blk.new (W.drewN n) _ _).alloc _
 have hb2 : Blk (((W.drewN n).alloc (.cells #[.int .i64 (i : Int)] 3)).alloc (.cells #[.slice A p.length cap, .slice (some ⟨W.heap.size, 0, none⟩) 1 1] 25)) (W.heap.size + 1) 25 #[.slice A p.length cap, .slice (some ⟨W.heap.size, 0, none⟩) 1 1] := Blk.new2 (W.drewN n) _ _ _
 have hf : Fresh W (((W.drewN n).alloc (.cells #[.int .i64 (i : Int)] 3)).alloc (.cells #[.slice A p.length cap, .slice (some ⟨W.heap.size, 0, none⟩) 1 1] 25)) := (((Touch.refl _ W).drewN n).alloc _).alloc _
 generalize (((W.drewN n).alloc (.cells #[.int .i64 (i : Int)] 3)).alloc (.cells #[.slice A p.length cap, .slice (some ⟨W.heap.size, 0, none⟩) 1 1] 25)) = X at *
 refine (concat2 (up p) (up [i]) _ _ _ X (hp.ints.fresh hf) ⟨some ⟨W.heap.size, 0, none⟩, 1, rfl, .inr ⟨W.heap.size, 0, rfl, hb1.lt, fun j hj => ?_⟩⟩ (hb2.cell 0) (hb2.cell 1) (by simp) (by simp; omega)).mono ?_
 ·have : j = 0 := by simpa using hj
  subst this
  exact hb1.cell 0
 ·rintro _ w' ⟨v', rfl, ho, hf'⟩
  rw [← List.map_append] at ho
  have hP := PathIn.new (g := g) (S := S) (p := p ++ [i]) (fun b hb => Nat.lt_of_lt_of_le (hS b hb) hf.size) (Nat.lt_of_lt_of_le hg hf.size) ho
  obtain ⟨A', cap', rfl⟩ := hP.slice
  rw [List.length_append] at hP ⊢
  exact ⟨A', cap', rfl, hP, hf.trans hf'⟩
structure Wk (σ κ : Type) where
 W0 : World
 g : Nat
 tg : Nat
 tv : Value
 T : List Lx.PTok
 C : Clo σ κ
 fi : Nat
 ci : Array Value
 fo : Nat
 co : Array Value
 St : σ → (Nat → Prop) → World → Prop
 Dn : κ → (Nat → Prop) → World → Nat → Array Value → Prop
 Lim : σ → Prop
 Kp : κ → σ → Prop
variable {σ κ : Type}
structure Wk.Good (k : Wk σ κ) : Prop where
 len : k.T.length ≤ 100000
 place : ∀ t ∈ k.T, t.from_ ≤ 1000000 ∧ t.to_ ≤ 1000000
 far : k.W0.heap.size ≤ k.g
 lt : ∀ s S w b, k.St s S w → S b → k.W0.heap.size ≤ b ∧ b < w.heap.size ∧ b ≠ k.g ∧ b ≠ k.tg
 stmv : ∀ s S w w', k.St s S w → Touch (fun b => b = k.g) w w' → k.St s S w'
 dnmv : ∀ q S S' w w' d cd, k.Dn q S w d cd → Mv k.g S S' w w' → k.Dn q S' w' d cd
 off : ∀ s S w p v (pl : Nat), k.St s S w → PathIn k.g S w v p → p.length ≤ 1000 → pl ≤ 1000000 → k.Lim (k.C.off s p pl) → Calls Tryz.prog k.fo (#[v, .int .i64 (pl : Int)] ++ k.co) w fun e w' => e = .returned (.tuple #[]) ∧ ∃ S', k.St (k.C.off s p pl) S' w' ∧ Mc S S' w w'
 item : ∀ s S w p v (pl : Nat), k.St s S w → PathIn k.g S w v p → p.length ≤ 1000 → pl ≤ 1000000 → k.Lim (k.C.item s p pl) → Calls Tryz.prog k.fi (#[v, .int .i64 (pl : Int)] ++ k.ci) w fun e w' => ∃ d cd S', e = .returned (.func (.func d) #[] cd) ∧ k.St (k.C.item s p pl) S' w' ∧ Mc S S' w w' ∧ k.Dn (k.C.key s) S' w' d cd
 done : ∀ s S w q d cd (pl : Nat), k.St s S w → k.Dn q S w d cd → k.Kp q s → pl ≤ 1000000 → k.Lim (k.C.done s q pl) → Calls Tryz.prog d (#[.int .i64 (pl : Int)] ++ cd) w fun e w' => e = .returned (.tuple #[]) ∧ ∃ S', k.St (k.C.done s q pl) S' w' ∧ Mc S S' w w'
 kp0 : ∀ s p pl, k.Kp (k.C.key s) (k.C.item s p pl)
 kpo : ∀ q s p pl, k.Kp q s → k.Kp q (k.C.off s p pl)
 kpi : ∀ q s p pl, k.Kp q s → k.Kp q (k.C.item s p pl)
 kpd : ∀ q s q' pl, k.Kp q s → k.Kp q (k.C.done s q' pl)
 limo : ∀ s p pl, k.Lim (k.C.off s p pl) → k.Lim s
 limi : ∀ s p pl, k.Lim (k.C.item s p pl) → k.Lim s
 limd : ∀ s q pl, k.Lim (k.C.done s q pl) → k.Lim s
 callo : ∀ (a : Array Value) (w : World), (callFunc k.fo a).run Tryz.prog w = .ok (.enter k.fo a) w
 calli : ∀ (a : Array Value) (w : World), (callFunc k.fi a).run Tryz.prog w = .ok (.enter k.fi a) w
 calld : ∀ q S w d cd, k.Dn q S w d cd → ∀ (a : Array Value) (w : World), (callFunc d a).run Tryz.prog w = .ok (.enter d a) w
structure Wk.At (k : Wk σ κ) (S : Nat → Prop) (f : Nat) (s : σ) (w : World) : Prop where
 low : Low k.W0 w
 box : Blk w k.g 112 #[k.tv, .int .i64 (f : Int), .func (.func k.fi) #[] k.ci, .func (.func k.fo) #[] k.co]
 tok : ∃ A cap, k.tv = .slice A k.T.length cap ∧ ∀ i (h : i < k.T.length), A = some ⟨k.tg, 0, none⟩ ∧ k.tg < w.heap.size ∧ k.tg ≠ k.g ∧ w.cell? ⟨k.tg, i * 4 + 2, none⟩ = some (.int .i64 (k.T[i].from_ : Nat)) ∧ w.cell? ⟨k.tg, i * 4 + 3, none⟩ = some (.int .i64 (k.T[i].to_ : Nat))
 st : k.St s S w
theorem Wk.At.mc {k : Wk σ κ} (hk : k.Good) {S S' : Nat → Prop} {f : Nat} {s s' : σ} {w w' : World} (h : k.At S f s w) (m : Mc S S' w w') (hs : k.St s' S' w') : k.At S' f s' w' := by
 refine ⟨h.low.trans' m.touch fun i hi => .inl (hk.lt s S w i h.st hi).1, m.touch.blk h.box fun e => (hk.lt s S w _ h.st e).2.2.1 rfl, ?_, hs⟩
 obtain ⟨A, cap, h1, h2⟩ := h.tok
 refine ⟨A, cap, h1, fun i hi => ?_⟩
 obtain ⟨a, b, c, d, e⟩ := h2 i hi
 exact ⟨a, Nat.lt_of_lt_of_le b m.touch.size, c, m.touch.cell d fun e => (hk.lt s S w _ h.st e).2.2.2 rfl, m.touch.cell e fun e => (hk.lt s S w _ h.st e).2.2.2 rfl⟩
theorem Wk.At.fresh {k : Wk σ κ} (hk : k.Good) {S : Nat → Prop} {f : Nat} {s : σ} {w w' : World} (h : k.At S f s w) (hf : Fresh w w') : k.At S f s w' :=
 h.mc hk ⟨hf.mono fun _ hf => hf.elim, fun _ h => .inl h⟩ (hk.stmv s S w w' h.st (hf.mono fun _ hf => hf.elim))
theorem Wk.At.next {k : Wk σ κ} (hk : k.Good) {S : Nat → Prop} {f f' : Nat} {s : σ} {w : World} (h : k.At S f s w) (x : Int) (hx : x = (f' : Int)) : k.At S f' s (w.setCell ⟨k.g, 1, none⟩ (.int .i64 x)) ∧ Mv k.g S S w (w.setCell ⟨k.g, 1, none⟩ (.int .i64 x)) := by
 subst hx
 have ht : Touch (fun b => b = k.g) w (w.setCell ⟨k.g, 1, none⟩ (.int .i64 (f' : Int))) := (Touch.refl (fun b => b = k.g) w).setCell (p := ⟨k.g, 1, none⟩) (.inl rfl) _
 refine ⟨⟨h.low.trans' ht fun i hi => by subst hi; exact .inl hk.far, ?_, ?_, hk.stmv s S w _ h.st ht⟩, ⟨ht.mono fun _ => .inr, fun _ h => .inl h⟩⟩
 ·have := h.box.put 1 (.int .i64 (f' : Int))
  exact this
 ·obtain ⟨A, cap, h1, h2⟩ := h.tok
  refine ⟨A, cap, h1, fun i hi => ?_⟩
  obtain ⟨a, b, c, d, e⟩ := h2 i hi
  exact ⟨a, Nat.lt_of_lt_of_le b ht.size, c, ht.cell d c, ht.cell e c⟩
theorem Wk.At.glt {k : Wk σ κ} {S : Nat → Prop} {f : Nat} {s : σ} {w : World} (h : k.At S f s w) : k.g < w.heap.size := h.box.lt
theorem Wk.At.slt {k : Wk σ κ} (hk : k.Good) {S : Nat → Prop} {f : Nat} {s : σ} {w : World} (h : k.At S f s w) : ∀ b, S b → b < w.heap.size := fun b hb => (hk.lt s S w b h.st hb).2.1
theorem Wk.At.cells {k : Wk σ κ} {S : Nat → Prop} {f : Nat} {s : σ} {w : World} (h : k.At S f s w) :
  w.cell? ⟨k.g, 0, none⟩ = some k.tv ∧ w.cell? ⟨k.g, 1, none⟩ = some (.int .i64 (f : Int)) ∧ w.cell? ⟨k.g, 2, none⟩ = some (.func (.func k.fi) #[] k.ci) ∧ w.cell? ⟨k.g, 3, none⟩ = some (.func (.func k.fo) #[] k.co) ∧ w.frozen? ⟨k.g, 1, none⟩ = false :=
 ⟨h.box.cell 0, h.box.cell 1, h.box.cell 2, h.box.cell 3, h.box.frozen 1⟩
theorem Wk.Good.lim {k : Wk σ κ} (hk : k.Good) : (∀ ks p i f s, k.Lim (runRow k.C k.T ks p i f s) → k.Lim s) ∧ ∀ l p j f s, k.Lim (runSegs k.C k.T l p j f s) → k.Lim s := by
 refine Tr.rows_ind (P := fun ks => ∀ p i f s, k.Lim (runRow k.C k.T ks p i f s) → k.Lim s) (Q := fun l => ∀ p j f s, k.Lim (runSegs k.C k.T l p j f s) → k.Lim s) ?_ ?_ ?_ ?_
 ·intro p i f s h; rw [runRow] at h; exact hk.limo _ _ _ h
 ·intro n ns h1 h2 p i f s h
  rw [runRow] at h
  exact hk.limo _ _ _ (hk.limi _ _ _ (h1 _ _ _ _ (hk.limd _ _ _ (h2 _ _ _ _ h))))
 ·intro p j f s h; rw [runSegs] at h; exact h
 ·intro q b a r h1 h2 p j f s h
  rw [runSegs] at h
  exact h1 _ _ _ _ (h2 _ _ _ _ h)
theorem Wk.Good.kp {k : Wk σ κ} (hk : k.Good) (q : κ) : (∀ ks p i f s, k.Kp q s → k.Kp q (runRow k.C k.T ks p i f s)) ∧ ∀ l p j f s, k.Kp q s → k.Kp q (runSegs k.C k.T l p j f s) := by
 refine Tr.rows_ind (P := fun ks => ∀ p i f s, k.Kp q s → k.Kp q (runRow k.C k.T ks p i f s)) (Q := fun l => ∀ p j f s, k.Kp q s → k.Kp q (runSegs k.C k.T l p j f s)) ?_ ?_ ?_ ?_
 ·intro p i f s h; rw [runRow]; exact hk.kpo _ _ _ _ h
 ·intro n ns h1 h2 p i f s h
  rw [runRow]
  exact h2 _ _ _ _ (hk.kpd _ _ _ _ (h1 _ _ _ _ (hk.kpi _ _ _ _ (hk.kpo _ _ _ _ h))))
 ·intro p j f s h; rw [runSegs]; exact h
 ·intro q' b a r h1 h2 p j f s h
  rw [runSegs]
  exact h2 _ _ _ _ (h1 _ _ _ _ h)
def Wk.Ends (k : Wk σ κ) (S : Nat → Prop) (f : Nat) (s : σ) (w : World) (e : Ending) (w' : World) : Prop := e = .returned (.tuple #[]) ∧ ∃ S', k.At S' f s w' ∧ Mv k.g S S' w w'
def Wk.RowS (k : Wk σ κ) (a : Nd) : Prop := ∀ (S : Nat → Prop) (f : Nat) (s : σ) (w : World) (p : List Nat) (v sl kd tx cl : Value), k.At S f s w → RepL k.W0 a.kids sl → PathIn k.g S w v p → p.length + 2 * Tr.depth a ≤ 500 → f + (rowT a.kids).length ≤ k.T.length → k.Lim (runRow k.C k.T a.kids p 0 f s) →
 Calls Tryz.prog 68 #[.pointer (some ⟨k.g, 0, none⟩), .agg #[kd, tx, cl, sl], v] w (k.Ends S (f + (rowT a.kids).length) (runRow k.C k.T a.kids p 0 f s) w)
def Wk.TreeS (k : Wk σ κ) (n : Nd) : Prop := ∀ (S : Nat → Prop) (f : Nat) (s : σ) (w : World) (p : List Nat) (v sl : Value), k.At S f s w → RepL k.W0 n.kids sl → PathIn k.g S w v p → p.length + 2 * Tr.depth n ≤ 500 → f + (itemT n).length ≤ k.T.length → k.Lim (runSegs k.C k.T (segs n) p 0 f s) →
 Calls Tryz.prog 99 #[.pointer (some ⟨k.g, 0, none⟩), nv n sl, v] w (k.Ends S (f + (itemT n).length) (runSegs k.C k.T (segs n) p 0 f s) w)
end Go.Proofs.YtdacpbdamliafaaGreat

/- A law on regions that draw their order: plain operations beside lone ones, which keep a class of worlds in which the plain ones yield the same; each stretch is shut by an operation that waits for all of it. -/
namespace Go.Proofs.YtdacpbdamliafaaGreat
open Go.RowKit
section
variable {P : Program} {ops : Array Oper} {md : Region.Mode} {C : World → Prop} {Q : Exit → Act → World → Prop}
def stillUpon (w : World) (v : Value) : Result Next → Prop
 | .ok (.value u) w' => w' = w ∧ u = v
 | _ => False
def stillV (P : Program) (o : Oper) (a : Act) (C : World → Prop) (next : Act → Prop) : Prop := ∃ v, (∀ w, C w → stillUpon w v ((execOp a.eval o).run P w)) ∧ next (a.put o.dst v)
theorem stillUpon_ok {w : World} {v : Value} {r : Result Next} (h : stillUpon w v r) : r = .ok (.value v) w := by
 cases r with
 | ok n w' =>
  cases n <;> simp only [stillUpon] at h
  obtain ⟨rfl, rfl⟩ := h
  rfl
 | halt x w' => exact h.elim
def wpAnyU (P : Program) (md : Region.Mode) (ops : Array Oper) (Q : Exit → Act → World → Prop) (C : World → Prop) (ns : List Nat) (L : Array Bool → Act → World → Prop) : Nat → Array Bool → Act → World → Prop
 | 0, listed, a, w => L listed a w
 | f + 1, listed, a, w => Region.ready md ops listed ≠ [] ∧ ∀ i ∈ Region.ready md ops listed, i ∈ ns ∧ wpOp P ops Q i (fun a' w' => C w' ∧ wpAnyU P md ops Q C ns L f (listed.setIfInBounds i true) a' w') a w
theorem wpAny_of_U {ns : List Nat} {g : Nat} {L : Array Bool → Act → World → Prop} (hL : ∀ listed a w, C w → L listed a w → wpAny P md ops Q g listed a w) :
  ∀ (f : Nat) (listed : Array Bool) (a : Act) (w : World), C w → wpAnyU P md ops Q C ns L f listed a w → wpAny P md ops Q (f + g) listed a w
 | 0, listed, a, w, hC, h => by rw [Nat.zero_add]; exact hL _ _ _ hC h
 | f + 1, listed, a, w, _, h => by
  rw [show f + 1 + g = (f + g) + 1 by omega]
  exact ⟨fun h0 => absurd h0 h.1, fun i hi => wpOp_mono (fun a' w' h' => wpAny_of_U hL f _ a' w' h'.1 h'.2) (h.2 i hi).2⟩
theorem wpAnyU_first {ns : List Nat} {t : Option Nat} {listed0 : Array Bool} {i : Nat} {oi : Oper} {v : Value} {L : Array Bool → Act → World → Prop} (hi : ops[i]? = some oi) (hsel : ∀ (j : Nat) (o : Oper) cs b, ops[j]? = some o → o.op ≠ .select cs b)
  (hQ : ∀ c a w, Q (.panic c) (a.put oi.dst v) w → Q (.panic c) a w)
  (hs : shutB md ops ns t listed0 = true) (hin : i ∈ ns) (hdone : ∀ listed a w, L listed a w → ∀ j ∈ Region.ready md ops listed, j ∉ ns) :
  ∀ (f : Nat) (listed : Array Bool) (a : Act) (w : World), ZInv md ops ns listed0 listed →
   (∀ j oj, ops[j]? = some oj → j ≠ i → listed.getD j true = false → (∀ e ∈ oj.after, Region.binds md e = true → e.on ≠ i) → oi.apart ops oj = true) →
   i ∈ Region.ready md ops listed → YieldsIf P ops C oi v a → C w →
   wpAnyU P md ops Q C ns L f (listed.setIfInBounds i true) (a.put oi.dst v) w → wpAnyU P md ops Q C ns L (f + 1) listed a w := by
 intro f
 induction f with
 | zero =>
  intro listed a w inv _ hr hy hC H
  have hun := (mem_ready.1 hr).1
  refine ⟨fun h => (by rw [h] at hr; cases hr), fun j hj => ?_⟩
  have hjn := shut_spec hs inv.closed inv.sub inv.sup ⟨i, hin, getD_both hun⟩ j hj
  refine ⟨hjn, ?_⟩
  by_cases hji : j = i
  ·subst hji; exact hy.wpOp hi hC ⟨hC, H⟩
  ·exact absurd hjn (hdone _ _ _ H j (ready_mono hj hji))
 | succ f ih =>
  intro listed a w inv hfree hr hy hC H
  have hun := (mem_ready.1 hr).1
  refine ⟨fun h => (by rw [h] at hr; cases hr), fun j hj => ?_⟩
  have hjn := shut_spec hs inv.closed inv.sub inv.sup ⟨i, hin, getD_both hun⟩ j hj
  refine ⟨hjn, ?_⟩
  by_cases hji : j = i
  ·subst hji; exact hy.wpOp hi hC ⟨hC, H⟩
  ·have h1 := (H.2 j (ready_mono hj hji)).2
   obtain ⟨hjun, oj, hoj, hall⟩ := mem_ready.1 hj
   have hnot : ∀ e ∈ oj.after, Region.binds md e = true → e.on ≠ i := fun e he hb heq => by
    have h1 := hall e he hb
    rw [heq, getD_both hun] at h1
    cases h1
   have h2 := wpOp_putIf hoj (hfree j oj hoj hji hjun hnot) (fun cs b => hsel i oi cs b hi) (fun cs b => hsel j oj cs b hoj) hQ hy h1
   have hfree' : ∀ k ok, ops[k]? = some ok → k ≠ i → (listed.setIfInBounds j true).getD k true = false →
     (∀ e ∈ ok.after, Region.binds md e = true → e.on ≠ i) → oi.apart ops ok = true := fun k ok hk hki hun hno => by
    refine hfree k ok hk hki ?_ hno
    by_cases hjk : j = k
    ·subst hjk; exact hjun
    ·rw [getD_set_ne true hjk] at hun; exact hun
   refine wpOp_mono (fun a' w' h3 => ⟨h3.2.1, ih (listed.setIfInBounds j true) a' w' (inv.put hj hjn) hfree' (ready_mono hr (Ne.symm hji)) h3.1 h3.2.1 ?_⟩) h2
   rw [Array.setIfInBounds_comm _ _ hji]
   exact h3.2.2
def wpSeq (P : Program) (l : List Oper) (Q : Exit → Act → World → Prop) (C : World → Prop) (L : Act → World → Prop) : List (Nat × Bool) → Act → World → Prop
 | [], a, w => L a w
 | (i, true) :: r, a, w => match l[i]? with
  | some o => if Region.wanted o (yielded l.toArray a.tmps) then stillV P o a C (fun a' => wpSeq P l Q C L r a' w) else wpSeq P l Q C L r (a.put o.dst undef) w
  | none => wpSeq P l Q C L r a w
 | (i, false) :: r, a, w => wpList P l.toArray (Exit.then (fun a' w' => C w' ∧ wpSeq P l Q C L r a' w') Q) (pick l [i]) a w
theorem wpSeq_plain {l : List Oper} {L : Act → World → Prop} {i : Nat} {o : Oper} {r : List (Nat × Bool)} {a : Act} {w : World} (ho : l[i]? = some o)
  (h : ∀ K : Act → Prop, (∀ a, wpSeq P l Q C L r a w → K a) → if Region.wanted o (yielded l.toArray a.tmps) then stillV P o a C K else K (a.put o.dst undef)) : wpSeq P l Q C L ((i, true) :: r) a w := by
 unfold wpSeq
 rw [ho]
 exact h _ (fun _ h => h)
theorem wpSeq_lone {l : List Oper} {L : Act → World → Prop} {i : Nat} {o : Oper} {r : List (Nat × Bool)} {a : Act} {w : World} (ho : l[i]? = some o)
  (h : ∀ K : Act → World → Prop, (∀ a w, C w → wpSeq P l Q C L r a w → K a w) → wpList P l.toArray (Exit.then K Q) [o] a w) : wpSeq P l Q C L ((i, false) :: r) a w := by
 unfold wpSeq
 have hp : pick l [i] = [o] := by simp [pick, ho]
 rw [hp]
 exact h _ (fun _ _ h1 h2 => ⟨h1, h2⟩)
def wpMix (Cl : World → World → Prop) (P : Program) (l : List Oper) (Q : Exit → Act → World → Prop) : List (List (Nat × Bool) × Nat) → List (Nat × Bool) → Act → World → World → Prop
 | [], last, a, w0, w => wpSeq P l Q (Cl w0) (fun a' w' => Q .normal a' w') last a w
 | (s, t) :: segs, last, a, w0, w => wpSeq P l Q (Cl w0) (fun a' w' => wpList P l.toArray (Exit.then (fun a'' w'' => wpMix Cl P l Q segs last a'' w'' w'') Q) (pick l [t]) a' w') s a w
theorem wpSeq_shut {l : List Oper} {Cl : World → World → Prop} {t : Nat} {o : Oper} {segs : List (List (Nat × Bool) × Nat)} {last : List (Nat × Bool)} {a : Act} {w : World} (ho : l[t]? = some o)
  (h : ∀ K : Act → World → Prop, (∀ a w, wpMix Cl P l Q segs last a w w → K a w) → wpList P l.toArray (Exit.then K Q) [o] a w) : wpSeq P l Q C (fun a' w' => wpList P l.toArray (Exit.then (fun a'' w'' => wpMix Cl P l Q segs last a'' w'' w'') Q) (pick l [t]) a' w') [] a w := by
 unfold wpSeq
 have hp : pick l [t] = [o] := by simp [pick, ho]
 rw [hp]
 exact h _ (fun _ _ h1 => h1)
def seqB (md : Region.Mode) (ops : Array Oper) : List (Nat × Bool) → Array Bool → Bool
 | [], _ => true
 | (k, true) :: r, listed => (Region.ready md ops listed).contains k && Region.free md ops listed k && seqB md ops r (listed.setIfInBounds k true)
 | (k, false) :: r, listed => decide (Region.ready md ops listed = [k]) && seqB md ops r (listed.setIfInBounds k true)
theorem wpAnyU_seq {l0 : List Oper} {ns : List Nat} {t : Option Nat} {listed0 : Array Bool} {Lq : Act → World → Prop} {fin : Array Bool} (hsel : Region.noSelect l0.toArray = true) (hQ : ∀ c a d v w, Q (.panic c) (Act.put a d v) w → Q (.panic c) a w)
  (hs : shutB md l0.toArray ns t listed0 = true) (hfin : ∀ j ∈ Region.ready md l0.toArray fin, j ∉ ns) :
  ∀ (s : List (Nat × Bool)) (listed : Array Bool) (a : Act) (w : World), (∀ k ∈ s, k.1 ∈ ns) → ZInv md l0.toArray ns listed0 listed → seqB md l0.toArray s listed = true → setAll (s.map (·.1)) listed = fin → C w →
  wpSeq P l0 Q C Lq s a w → wpAnyU P md l0.toArray Q C ns (fun listed' a' w' => listed' = fin ∧ Lq a' w') s.length listed a w
 | [], listed, a, w, _, _, _, hf, _, h => ⟨hf, h⟩
 | (k, true) :: r, listed, a, w, hq, inv, hB, hf, hC, h => by
  simp only [seqB, Bool.and_eq_true] at hB
  obtain ⟨⟨hr, hfr⟩, hB'⟩ := hB
  have hr' : k ∈ Region.ready md l0.toArray listed := by simpa using hr
  obtain ⟨_, o, ho, _⟩ := mem_ready.1 hr'
  have ho' : l0[k]? = some o := by simpa using ho
  unfold wpSeq at h
  rw [ho'] at h
  have hkq := hq (k, true) (by simp)
  obtain ⟨v, hy, hK⟩ : ∃ v, YieldsIf P l0.toArray C o v a ∧ wpSeq P l0 Q C Lq r (a.put o.dst v) w := by
   by_cases hw : Region.wanted o (yielded l0.toArray a.tmps) = true
   ·simp only [hw, if_true] at h
    obtain ⟨v, h1, h2⟩ := h
    exact ⟨v, .inl ⟨hw, fun w hw => stillUpon_ok (h1 w hw)⟩, h2⟩
   ·simp only [hw] at h
    exact ⟨undef, .inr ⟨by simpa using hw, rfl⟩, h⟩
  exact wpAnyU_first ho (Region.noSelect_spec hsel) (fun c a w => hQ c a o.dst v w) hs hkq (fun listed' a' w' hL => by rw [hL.1]; exact hfin) r.length listed a w inv (Region.free_spec ho hfr) hr' hy hC
   (wpAnyU_seq hsel hQ hs hfin r _ _ w (fun x hx => hq x (by simp [hx])) (inv.put hr' hkq) hB' hf hC hK)
 | (k, false) :: r, listed, a, w, hq, inv, hB, hf, hC, h => by
  simp only [seqB, Bool.and_eq_true, decide_eq_true_eq] at hB
  obtain ⟨hr, hB'⟩ := hB
  have hr' : k ∈ Region.ready md l0.toArray listed := by rw [hr]; simp
  obtain ⟨_, o, ho, _⟩ := mem_ready.1 hr'
  have hkq := hq (k, false) (by simp)
  refine ⟨by rw [hr]; simp, fun i hi => ?_⟩
  rw [hr] at hi
  rw [List.mem_singleton.1 hi]
  unfold wpSeq at h
  exact ⟨hkq, wpOp_mono (fun a' w' h' => ⟨h'.1, wpAnyU_seq hsel hQ hs hfin r _ a' w' (fun x hx => hq x (by simp [hx])) (inv.put hr' hkq) hB' hf h'.1 h'.2⟩) (wpOp_of_single ho h)⟩
theorem seq_inv {ns : List Nat} {listed0 : Array Bool} : ∀ (s : List (Nat × Bool)) (listed : Array Bool), (∀ k ∈ s, k.1 ∈ ns) → ZInv md ops ns listed0 listed → seqB md ops s listed = true → ZInv md ops ns listed0 (setAll (s.map (·.1)) listed)
 | [], _, _, inv, _ => inv
 | (k, true) :: r, listed, hq, inv, hB => by
  simp only [seqB, Bool.and_eq_true] at hB
  exact seq_inv r _ (fun x hx => hq x (by simp [hx])) (inv.put (by simpa using hB.1.1) (hq (k, true) (by simp))) hB.2
 | (k, false) :: r, listed, hq, inv, hB => by
  simp only [seqB, Bool.and_eq_true, decide_eq_true_eq] at hB
  exact seq_inv r _ (fun x hx => hq x (by simp [hx])) (inv.put (by rw [hB.1]; simp) (hq (k, false) (by simp))) hB.2
def mixB (md : Region.Mode) (ops : Array Oper) : List (List (Nat × Bool) × Nat) → List (Nat × Bool) → Array Bool → Bool
 | [], last, listed => shutB md ops (last.map (·.1)) none listed && seqB md ops last listed && (Region.ready md ops (setAll (last.map (·.1)) listed)).isEmpty
 | (s, t) :: segs, last, listed => shutB md ops (s.map (·.1)) (some t) listed && seqB md ops s listed && decide (Region.ready md ops (setAll (s.map (·.1)) listed) = [t]) && !(s.map (·.1)).contains t &&
   mixB md ops segs last ((setAll (s.map (·.1)) listed).setIfInBounds t true)
def mixN : List (List (Nat × Bool) × Nat) → List (Nat × Bool) → Nat
 | [], last => last.length
 | (s, _) :: segs, last => s.length + (mixN segs last + 1)
theorem wpMix_seg {Cl : World → World → Prop} {l : List Oper} {a : Act} {w0 w : World} {s : List (Nat × Bool)} {t : Nat} {segs : List (List (Nat × Bool) × Nat)} {last : List (Nat × Bool)}
  (h : wpSeq P l Q (Cl w0) (fun a' w' => wpList P l.toArray (Exit.then (fun a'' w'' => wpMix Cl P l Q segs last a'' w'' w'') Q) (pick l [t]) a' w') s a w) : wpMix Cl P l Q ((s, t) :: segs) last a w0 w := h
theorem wpMix_last {Cl : World → World → Prop} {l : List Oper} {a : Act} {w0 w : World} {last : List (Nat × Bool)} (h : wpSeq P l Q (Cl w0) (fun a' w' => Q .normal a' w') last a w) : wpMix Cl P l Q [] last a w0 w := h
theorem wpSeq_end {l : List Oper} {L : Act → World → Prop} {a : Act} {w : World} (h : L a w) : wpSeq P l Q C L [] a w := h
theorem wpMix_end {Cl : World → World → Prop} {l : List Oper} {a : Act} {w0 w : World} (h : Q .normal a w) : wpMix Cl P l Q [] [] a w0 w := h
theorem wpAny_of_mix {Cl : World → World → Prop} (hrefl : ∀ w, Cl w w) {l : List Oper} (hsel : Region.noSelect l.toArray = true) (hQ : ∀ c a d v w, Q (.panic c) (Act.put a d v) w → Q (.panic c) a w) :
  ∀ (segs : List (List (Nat × Bool) × Nat)) (last : List (Nat × Bool)) (listed : Array Bool) (a : Act) (w0 w : World),
  Closed md l.toArray listed → mixB md l.toArray segs last listed = true → Cl w0 w → wpMix Cl P l Q segs last a w0 w → wpAny P md l.toArray Q (mixN segs last) listed a w
 | [], last, listed, a, w0, w, inv, hB, hC, h => by
  simp only [mixB, Bool.and_eq_true, List.isEmpty_iff] at hB
  obtain ⟨⟨hs, hl⟩, hr⟩ := hB
  have hz : ZInv md l.toArray (last.map (·.1)) listed listed := ⟨inv, fun _ h => h, fun _ h => .inl h⟩
  have := wpAnyU_seq (P := P) (C := Cl w0) (Q := Q) (fin := setAll (last.map (·.1)) listed) (Lq := fun a' w' => Q .normal a' w') hsel hQ hs (by rw [hr]; simp) last listed a w (fun k hk => List.mem_map.2 ⟨k, hk, rfl⟩) hz hl rfl hC h
  exact wpAny_of_U (g := 0) (fun listed' a' w' _ hL => wpAny_done (by rw [hL.1]; exact hr) hL.2 0) last.length listed a w hC this
 | (s, t) :: segs, last, listed, a, w0, w, inv, hB, hC, h => by
  simp only [mixB, Bool.and_eq_true, decide_eq_true_eq, Bool.not_eq_true'] at hB
  obtain ⟨⟨⟨⟨hs, hl⟩, hr⟩, ht⟩, hB'⟩ := hB
  have hz : ZInv md l.toArray (s.map (·.1)) listed listed := ⟨inv, fun _ h => h, fun _ h => .inl h⟩
  have hmem : ∀ k ∈ s, k.1 ∈ s.map (·.1) := fun k hk => List.mem_map.2 ⟨k, hk, rfl⟩
  have hz' := seq_inv s listed hmem hz hl
  have htr : t ∈ Region.ready md l.toArray (setAll (s.map (·.1)) listed) := by rw [hr]; simp
  have htn : t ∉ s.map (·.1) := by
   intro hx
   rw [List.contains_iff_mem.2 hx] at ht
   cases ht
  obtain ⟨_, ot, hot, _⟩ := mem_ready.1 htr
  have := wpAnyU_seq (P := P) (C := Cl w0) (Q := Q) (fin := setAll (s.map (·.1)) listed) (Lq := fun a' w' => wpList P l.toArray (Exit.then (fun a'' w'' => wpMix Cl P l Q segs last a'' w'' w'') Q) (pick l [t]) a' w') hsel hQ hs
   (by rw [hr]; intro j hj; rw [List.mem_singleton.1 hj]; exact htn) s listed a w hmem hz hl rfl hC h
  refine wpAny_of_U (g := mixN segs last + 1) (fun listed' a' w' _ hL => ?_) s.length listed a w hC this
  refine wpAny_all (rs := [t]) (by rw [hL.1]; exact hr) (by simp) (fun i hi => ?_)
  rw [List.mem_singleton.1 hi, hL.1]
  exact wpOp_mono (fun a'' w'' h'' => wpAny_of_mix hrefl hsel hQ segs last _ a'' w'' w'' (hz'.closed.put htr) hB' (hrefl w'') h'') (wpOp_of_single hot hL.2)
theorem wp_region_mix {id : Nat} {a : Act} {w : World} {l : List Oper} (segs : List (List (Nat × Bool) × Nat)) (last : List (Nat × Bool)) (hm : P.follows .mixedOrders = true) (hQ : ∀ c a d v w, Q (.panic c) (Act.put a d v) w → Q (.panic c) a w)
  (hB : (Region.noSelect l.toArray && decide (mixN segs last = l.toArray.size) && mixB .any l.toArray segs last (Array.replicate l.toArray.size false)) = true)
  (h : wpMix (fun w w' => ∃ p : Regrown, w' = Go.Sort.grow (redrawn w p.d) p.os) P l Q segs last a w (w.drewN 1)) : (Code.region id l.toArray true).wp P Q a w := by
 simp only [Bool.and_eq_true, decide_eq_true_eq] at hB
 obtain ⟨⟨hsel, hn⟩, hB⟩ := hB
 refine wp_region_any hm ?_
 rw [← hn]
 rw [← hn] at hB
 exact wpAny_of_mix Growing.refl hsel hQ segs last _ a w _ ⟨by simp [hn], fun j oj _ hl => by rw [getD_repl] at hl; cases hl⟩ hB (Growing.drew w) h
end
theorem growing_fresh {w w' : World} (h : Fresh w w') : ∃ p : Regrown, w' = Go.Sort.grow (redrawn w p.d) p.os := regrown_of_below h.below
end Go.Proofs.YtdacpbdamliafaaGreat

/- The walker's small methods: end, scripted, group, slot. -/
namespace Go.Proofs.YtdacpbdamliafaaGreat
open Go.RowKit
open Tr (Nd Clo runRow runSegs rowT itemT segs)
attribute [local go_sem] stillV stillUpon
variable {σ κ : Type}
theorem fromAt_eq (T : List Lx.PTok) (f : Nat) (h : f < T.length) : Tr.fromAt T f = T[f].from_ := by unfold Tr.fromAt; rw [List.getElem?_eq_getElem h]; rfl
theorem endAt_eq (T : List Lx.PTok) (f : Nat) (h : f < T.length) : Tr.endAt T (f + 1) = T[f].to_ := by unfold Tr.endAt; rw [if_neg (by omega), Nat.add_sub_cancel, List.getElem?_eq_getElem h]; rfl
theorem endAt_zero (T : List Lx.PTok) : Tr.endAt T 0 = 0 := rfl
set_option maxRecDepth 100000 in
set_option maxHeartbeats 1000000 in
theorem end_any {k : Wk σ κ} (hk : k.Good) {S : Nat → Prop} {f : Nat} {s : σ} {w : World} (h : k.At S f s w) (hf : f ≤ k.T.length) :
  Calls Tryz.prog 100 #[.pointer (some ⟨k.g, 0, none⟩)] w fun e w' => e = .returned (.int .i64 (Tr.endAt k.T f : Nat)) ∧ Fresh w w' := by
 have hlen := hk.len
 obtain ⟨q0, q1, q2, q3, _⟩ := h.cells
 obtain ⟨A, cap, hv, ht⟩ := h.tok
 rw [hv] at q0
 clear q2 q3 hv
 generalize k.g = g at *
 cases f with
 | zero =>
  clear ht hlen hf h
  go_enter Tryz.func100, Tryz.ntmps100
  go_wp2_with fail
  go_ret
  exact ⟨rfl, Touch.refl _ _⟩
 | succ f =>
  have hf' : f < k.T.length := by omega
  obtain ⟨rfl, hlt, _, t2, t3⟩ := ht f hf'
  have HE := hid (endAt_eq k.T f hf')
  have c0 : (((f + 1 : Nat) : Int) == (0 : Int)) = false := by rw [beq_eq_false_iff_ne]; omega
  have c0n : (f + 1 == 0) = false := by simp
  have e1 : ((f + 1 : Nat) : Int) = (f : Int) + 1 := by omega
  have e2 : IntKind.i64.wrap ((f : Int) + 1 - 1) = (f : Int) := by rw [show ((f : Int) + 1 - 1) = (f : Int) by omega]; exact IntWalk.i64_in _ (by omega)
  have e3 : (f : Int) < (k.T.length : Int) := by omega
  have e4 : (f : Int) + 1 - 1 = (f : Int) := by omega
  clear hf h t2 ht
  rw [HE.out]
  rw [e1] at q1
  rw [e1] at c0
  generalize k.T[f] = t at *
  generalize k.T.length = m at *
  clear e1 HE
  go_enter Tryz.func100, Tryz.ntmps100
  go_wp2_with fail
  go_quiet (fail)
  go_wp2_with fail
  go_ret
  exact ⟨rfl, (Touch.refl _ _).drewN _⟩
theorem wscripted_any (n : Nd) (sl : Value) (w : World) : Calls Tryz.prog 136 #[nv n sl] w fun e w' => e = .returned (.bool (Tr.scripted n)) ∧ Fresh w w' := by
 cases k7 : (n.kind == 7) with
 | true =>
  go_enter Tryz.func136, Tryz.ntmps136
  go_wp2_with fail
  go_ret
  exact ⟨ret_bool' _ _ (by simp [Tr.scripted, k7]), (Touch.refl _ _).alloc _⟩
 | false =>
  cases k8 : (n.kind == 8) with
  | true =>
   go_enter Tryz.func136, Tryz.ntmps136
   go_wp2_with fail
   go_ret
   exact ⟨ret_bool' _ _ (by simp [Tr.scripted, k8]), (Touch.refl _ _).alloc _⟩
  | false =>
   go_enter Tryz.func136, Tryz.ntmps136
   go_wp2_with fail
   go_ret
   exact ⟨ret_bool' _ _ (by simp [Tr.scripted, k7, k8]), (Touch.refl _ _).alloc _⟩
theorem grp_len (a : Nd) (h : a.kids.length ≠ 1) : Tr.grp a = true := by
 unfold Tr.grp
 split
 ·rename_i x hx; rw [hx] at h; simp at h
 ·rfl
theorem grp_one (a x : Nd) (h : a.kids = [x]) : Tr.grp a = !Tr.leaf x := by unfold Tr.grp; rw [h]
set_option maxRecDepth 100000 in
set_option maxHeartbeats 1000000 in
theorem wgroup_any (n : Nd) (sl : Value) (w : World) (hr : RepL w n.kids sl) : Calls Tryz.prog 137 #[nv n sl] w fun e w' => e = .returned (.bool (Tr.grp n)) ∧ Fresh w w' := by
 have hlen := hr.len
 unfold maxLen at hlen
 by_cases h1 : n.kids.length = 1
 ·obtain ⟨x, hx⟩ := List.length_eq_one_iff.1 h1
  rw [grp_one n x hx]
  rw [hx] at hr
  obtain ⟨g, o, cap, sx, rfl, x0, x1, x2, x3, hrx⟩ := hr.one
  have hgw : g < w.heap.size := block_lt_of_cell x0
  clear hrx x1 x2 x3 hlen h1
  cases k2 : (x.kind == 2) with
  | true =>
   have k2' : (x.kind != 2) = false := by rw [bne, k2]; rfl
   go_enter Tryz.func137, Tryz.ntmps137
   go_wp2_with fail
   go_ret
   exact ⟨ret_bool' _ _ (by simp [Tr.leaf, k2]), (Touch.refl _ _).alloc _⟩
  | false =>
   have k2' : (x.kind != 2) = true := by rw [bne, k2]; rfl
   cases k3 : (x.kind == 3) with
   | true =>
    have k3' : (x.kind != 3) = false := by rw [bne, k3]; rfl
    go_enter Tryz.func137, Tryz.ntmps137
    go_wp2_with fail
    go_ret
    exact ⟨ret_bool' _ _ (by simp [Tr.leaf, k3]), (Touch.refl _ _).alloc _⟩
   | false =>
    have k3' : (x.kind != 3) = true := by rw [bne, k3]; rfl
    go_enter Tryz.func137, Tryz.ntmps137
    go_wp2_with fail
    go_ret
    exact ⟨ret_bool' _ _ (by simp [Tr.leaf, k2, k3]; rfl), (Touch.refl _ _).alloc _⟩
 ·rw [grp_len n h1]
  obtain ⟨A, cap, rfl⟩ := hr.slice
  have b1 : ((n.kids.length : Int) == (1 : Int)) = false := by rw [beq_eq_false_iff_ne]; omega
  have b1' : ((n.kids.length : Int) != (1 : Int)) = true := by rw [bne, b1]; rfl
  have b2 : (n.kids.length == 1) = false := by simpa using h1
  clear hr hlen h1
  go_enter Tryz.func137, Tryz.ntmps137
  go_wp2_with fail
  go_ret
  exact ⟨rfl, (Touch.refl _ _).alloc _⟩
def Wk.SlotEnds (k : Wk σ κ) (S : Nat → Prop) (f : Nat) (s : σ) (w : World) (a : Nd) (p : List Nat) (b : Bool) : Ending → World → Prop :=
 k.Ends S (f + 2 * b.toNat + (rowT a.kids).length) (runRow k.C k.T a.kids p 0 (f + b.toNat) s) w
set_option maxRecDepth 100000 in
set_option maxHeartbeats 2000000 in
theorem slot_no {k : Wk σ κ} (hk : k.Good) (n : Nd) (j : Nat) (hj : j < n.kids.length) (hrow : k.RowS n.kids[j]) {S : Nat → Prop} {f : Nat} {s : σ} {w : World} (h : k.At S f s w) {p : List Nat} {v sl : Value}
  (hsl : RepL k.W0 n.kids sl) (hp : PathIn k.g S w v p) (hd : p.length + 1 + 2 * Tr.depth n.kids[j] ≤ 500) (hf : f + (rowT n.kids[j].kids).length ≤ k.T.length) (hlim : k.Lim (runRow k.C k.T n.kids[j].kids (p ++ [j]) 0 (f + false.toNat) s)) :
  Calls Tryz.prog 135 #[.pointer (some ⟨k.g, 0, none⟩), nv n sl, v, .int .i64 (j : Int), .bool false] w (k.SlotEnds S f s w n.kids[j] (p ++ [j]) false) := by
 unfold Wk.SlotEnds
 have hlen := hsl.len
 unfold maxLen at hlen
 have hjl : (j : Int) < (n.kids.length : Int) := by omega
 obtain ⟨A, cap, rfl⟩ := hsl.slice
 obtain ⟨g, o, sx, rfl, hg, m0, m1, m2, m3, hrk⟩ := hsl.get j hj
 obtain ⟨Ax, capx, rfl⟩ := hrk.slice
 obtain ⟨Ap, capp, rfl⟩ := hp.slice
 have HROW := hid hrow
 have HRK := hid hrk
 have M0 := hid m0
 have M1 := hid m1
 have M2 := hid m2
 have M3 := hid m3
 have HD := hid hd
 have HF := hid hf
 have HK := hid hk
 have HAT := hid h
 have HP := hid hp
 have HLIM := hid hlim
 clear hlim
 clear hrow hrk m0 m1 m2 m3 hd hf hk h hp hsl
 generalize n.kids[j] = x at *
 generalize n.kids.length = len at *
 go_enter Tryz.func135, Tryz.ntmps135
 go_wp2_with fail
 refine forget_world (fun W => Fresh w W ∧ Blk W w.heap.size 24 #[.int .i64 n.kind, .string ⟨n.text.toArray⟩, .int .i64 n.cols, .slice (some ⟨g, o, none⟩) len cap]) ⟨(Touch.refl _ _).alloc _, Blk.new _ _ _⟩ ?_
 rintro W4 ⟨hf4, hb4⟩
 obtain ⟨q0, q1, q2, q3, _, _, _, _, hg4⟩ := Blk.four hb4
 have HF4 := hid hf4
 have HAT4 := hid (HAT.out.fresh HK.out hf4)
 have HP4 := hid (HP.out.mv (Mv.fresh hf4))
 have a0 := Low.cell HAT4.out.low M0.out
 have a1 := Low.cell HAT4.out.low M1.out
 have a2 := Low.cell HAT4.out.low M2.out
 have a3 := Low.cell HAT4.out.low M3.out
 have hgw : g < W4.heap.size := block_lt_of_cell a0
 clear hf4 hb4
 have g0 := cell_regrown q0
 have g1 := cell_regrown q1
 have g2 := cell_regrown q2
 have g3 := cell_regrown q3
 have h0 := cell_regrown a0
 have h1 := cell_regrown a1
 have h2 := cell_regrown a2
 have h3 := cell_regrown a3
 refine wp_region_mix [([(0, true), (1, true), (2, true), (3, true), (4, true), (5, true), (6, true), (7, true), (8, false), (9, false), (10, false)], 11)] [] (by kernel_rfl) (fun _ _ d _ _ h => by cases d <;> exact h) (by kernel_rfl) ?_
 refine wpMix_seg ?_
 repeat (refine wpSeq_plain rfl (fun K hK => ?_); go_simp; refine hK _ ?_; clear hK K)
 refine wpSeq_lone rfl (fun K hK => ?_)
 go_wp2_with fail
 refine hK _ _ (growing_fresh (((Touch.refl _ _).drewN _).alloc _)) ?_
 clear hK K
 refine wpSeq_lone rfl (fun K hK => ?_)
 go_wp2_with fail
 refine hK _ _ (growing_fresh ((((Touch.refl _ _).drewN _).alloc _).alloc _)) ?_
 clear hK K
 refine wpSeq_lone rfl (fun K hK => ?_)
 go_wp2_with fail
 refine (path_cat (HP4.out) (HAT4.out.slt HK.out) HAT4.out.glt (by have := HD.out; omega) j 1).mono ?_
 rintro _ W6 ⟨A6, cap6, rfl, hp6, hf6⟩
 have HP6 := hid hp6
 have HF6 := hid hf6
 clear hp6 hf6
 go_wp2_with fail
 refine hK _ _ (growing_fresh HF6.out) ?_
 clear hK K
 refine wpSeq_shut rfl (fun K hK => ?_)
 go_wp2_with fail
 refine (HROW.out _ _ _ _ _ _ _ _ _ _ (HAT4.out.fresh HK.out HF6.out) HRK.out HP6.out (by have := HD.out; simp only [List.length_append, List.length_singleton]; omega) HF.out HLIM.out).mono ?_
 rintro _ W7 ⟨rfl, S7, hat, hmv⟩
 have HAT7 := hid hat
 have HMV7 := hid ((Mv.fresh (HF4.out.trans HF6.out)).trans hmv)
 clear hat hmv
 go_wp2_with fail
 refine wpMix_end ?_
 go_wp2_with fail
 go_end0
 exact ⟨rfl, S7, HAT7.out, HMV7.out⟩
set_option maxRecDepth 100000 in
set_option maxHeartbeats 2000000 in
theorem slot_yes {k : Wk σ κ} (hk : k.Good) (n : Nd) (j : Nat) (hj : j < n.kids.length) (hrow : k.RowS n.kids[j]) {S : Nat → Prop} {f : Nat} {s : σ} {w : World} (h : k.At S f s w) {p : List Nat} {v sl : Value}
  (hsl : RepL k.W0 n.kids sl) (hp : PathIn k.g S w v p) (hd : p.length + 1 + 2 * Tr.depth n.kids[j] ≤ 500) (hf : f + 2 + (rowT n.kids[j].kids).length ≤ k.T.length) (hlim : k.Lim (runRow k.C k.T n.kids[j].kids (p ++ [j]) 0 (f + true.toNat) s)) :
  Calls Tryz.prog 135 #[.pointer (some ⟨k.g, 0, none⟩), nv n sl, v, .int .i64 (j : Int), .bool true] w (k.SlotEnds S f s w n.kids[j] (p ++ [j]) true) := by
 unfold Wk.SlotEnds
 have hlen := hsl.len
 unfold maxLen at hlen
 have hjl : (j : Int) < (n.kids.length : Int) := by omega
 obtain ⟨A, cap, rfl⟩ := hsl.slice
 obtain ⟨g, o, sx, rfl, hg, m0, m1, m2, m3, hrk⟩ := hsl.get j hj
 obtain ⟨Ax, capx, rfl⟩ := hrk.slice
 obtain ⟨Ap, capp, rfl⟩ := hp.slice
 have HROW := hid hrow
 have HRK := hid hrk
 have M0 := hid m0
 have M1 := hid m1
 have M2 := hid m2
 have M3 := hid m3
 have HD := hid hd
 have HF := hid hf
 have HK := hid hk
 have HAT := hid h
 have HP := hid hp
 have HLIM := hid hlim
 clear hlim
 clear hrow hrk m0 m1 m2 m3 hd hf hk h hp hsl
 obtain ⟨_, b1, _, _, bf⟩ := HAT.out.cells
 have hglt := HAT.out.glt
 have hlt := HK.out.len
 have hb0 : (f : Int) ≤ 100000 := by have := HF.out; omega
 have hb1 : 0 ≤ (f : Int) := by omega
 generalize n.kids[j] = x at *
 generalize n.kids.length = len at *
 go_enter Tryz.func135, Tryz.ntmps135
 go_wp2_with fail
 refine forget_world (fun W => k.At S (f + 1) s W ∧ Mv k.g S S w W ∧ Blk W w.heap.size 24 #[.int .i64 n.kind, .string ⟨n.text.toArray⟩, .int .i64 n.cols, .slice (some ⟨g, o, none⟩) len cap]) ?_ ?_
 ·obtain ⟨hn1, hn2⟩ := HAT.out.next HK.out (f' := f + 1) ((f : Int) + 1) (by omega)
  have hsz : w.heap.size = (w.setCell ⟨k.g, 1, none⟩ (.int .i64 ((f : Int) + 1))).heap.size := by simp [World.setCell]
  refine ⟨hn1.fresh HK.out ((Touch.refl _ _).alloc _), hn2.trans (Mv.fresh ((Touch.refl _ _).alloc _)), ?_⟩
  rw [hsz]
  exact Blk.new _ _ _
 clear b1 bf hglt hlt hb0 hb1
 rintro W4 ⟨hat4, hmv4, hb4⟩
 obtain ⟨q0, q1, q2, q3, _, _, _, _, hg4⟩ := Blk.four hb4
 have HAT4 := hid hat4
 have HMV4 := hid hmv4
 have HP4 := hid (HP.out.mv hmv4)
 have a0 := Low.cell HAT4.out.low M0.out
 have a1 := Low.cell HAT4.out.low M1.out
 have a2 := Low.cell HAT4.out.low M2.out
 have a3 := Low.cell HAT4.out.low M3.out
 have hgw : g < W4.heap.size := block_lt_of_cell a0
 clear hat4 hmv4 hb4
 have g0 := cell_regrown q0
 have g1 := cell_regrown q1
 have g2 := cell_regrown q2
 have g3 := cell_regrown q3
 have h0 := cell_regrown a0
 have h1 := cell_regrown a1
 have h2 := cell_regrown a2
 have h3 := cell_regrown a3
 refine wp_region_mix [([(0, true), (1, true), (2, true), (3, true), (4, true), (5, true), (6, true), (7, true), (8, false), (9, false), (10, false)], 11)] [] (by kernel_rfl) (fun _ _ d _ _ h => by cases d <;> exact h) (by kernel_rfl) ?_
 refine wpMix_seg ?_
 repeat (refine wpSeq_plain rfl (fun K hK => ?_); go_simp; refine hK _ ?_; clear hK K)
 refine wpSeq_lone rfl (fun K hK => ?_)
 go_wp2_with fail
 refine hK _ _ (growing_fresh (((Touch.refl _ _).drewN _).alloc _)) ?_
 clear hK K
 refine wpSeq_lone rfl (fun K hK => ?_)
 go_wp2_with fail
 refine hK _ _ (growing_fresh ((((Touch.refl _ _).drewN _).alloc _).alloc _)) ?_
 clear hK K
 refine wpSeq_lone rfl (fun K hK => ?_)
 go_wp2_with fail
 refine (path_cat (HP4.out) (HAT4.out.slt HK.out) HAT4.out.glt (by have := HD.out; omega) j 1).mono ?_
 rintro _ W6 ⟨A6, cap6, rfl, hp6, hf6⟩
 have HP6 := hid hp6
 have HF6 := hid hf6
 clear hp6 hf6
 go_wp2_with fail
 refine hK _ _ (growing_fresh HF6.out) ?_
 clear hK K
 refine wpSeq_shut rfl (fun K hK => ?_)
 go_wp2_with fail
 refine (HROW.out _ _ _ _ _ _ _ _ _ _ (HAT4.out.fresh HK.out HF6.out) HRK.out HP6.out (by have := HD.out; simp only [List.length_append, List.length_singleton]; omega) (by have := HF.out; omega) HLIM.out).mono ?_
 rintro _ W7 ⟨rfl, S7, hat, hmv⟩
 have HAT7 := hid hat
 have HMV7 := hid ((HMV4.out.trans (Mv.fresh HF6.out)).trans hmv)
 clear hat hmv q0 q1 q2 q3 a0 a1 a2 a3 g0 g1 g2 g3 h0 h1 h2 h3
 go_wp2_with fail
 refine wpMix_end ?_
 obtain ⟨_, b1, _, _, bf⟩ := HAT7.out.cells
 have hglt := HAT7.out.glt
 have hlt := HK.out.len
 have hb0 : ((f + 1 + (rowT x.kids).length : Nat) : Int) ≤ 100000 := by have := HF.out; omega
 have hb1 : 0 ≤ ((f + 1 + (rowT x.kids).length : Nat) : Int) := by omega
 clear hlt
 have HNX := hid (HAT7.out.next HK.out (f' := f + 2 * true.toNat + (rowT x.kids).length) (((f + 1 + (rowT x.kids).length : Nat) : Int) + 1) (by simp only [Bool.toNat_true]; omega))
 generalize ((f + 1 + (rowT x.kids).length : Nat) : Int) = nx at *
 go_wp2_with fail
 go_end0
 exact ⟨rfl, S7, HNX.out.1, HMV7.out.trans HNX.out.2⟩
end Go.Proofs.YtdacpbdamliafaaGreat
