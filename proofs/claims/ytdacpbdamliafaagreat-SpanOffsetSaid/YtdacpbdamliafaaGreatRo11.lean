/- Part 11 of 12 of a proof; its texts, joined: NdN, NdO, NdP, RpJ, SnB, PrV, SnE, RtG, RtH, SnI, SnN. No condition. -/
import Derived.Test.YtdacpbdamliafaaGreatRo10
import Derived.Deep.RegionWith
import Derived.Test.YtdacpbdamliafaaGreatRo7
import Derived.Test.YtdacpbdamliafaaGreatRo9
import Derived.Test.YtdacpbdamliafaaGreatRo2

/- The walks of the reference's text and kids. -/
namespace Go.Proofs.YtdacpbdamliafaaGreat
open Go.RowKit
theorem byteSize (t : List UInt8) : (ByteArray.mk t.toArray).size = t.length := by show t.toArray.size = _; simp
theorem plainB_eq (t : List UInt8) : t.all plainB = Tr.printable t := by
 unfold Tr.printable
 congr 1
set_option maxRecDepth 100000 in
set_option maxHeartbeats 1000000 in
theorem text_plain (k : Int) (t : List UInt8) (cv sl : Value) (w : World) (h10 : (k == 10) = false) (h11 : (k == 11) = false) (hm : t.length ≤ 9223372036854775807) :
  Calls Tryz.prog 123 #[.agg #[.int .i64 k, .string ⟨t.toArray⟩, cv, sl]] w fun e w' => e = .returned (.bool (Tr.textOK k t)) ∧ Fresh w w' := by
 have hz : (ByteArray.mk t.toArray).size ≤ 9223372036854775807 := by rw [byteSize]; exact hm
 have HZ := hid hz
 clear hz
 go_enter Tryz.func123, Tryz.ntmps123
 cases h1 : (k == (2 : Int)) with
 | false =>
  have h1m : (k != (2 : Int)) = true := by rw [bne, h1]; rfl
  cases h2 : (k == (3 : Int)) with
  | false =>
   have h2m : (k != (3 : Int)) = true := by rw [bne, h2]; rfl
   cases h3 : (k == (4 : Int)) with
   | false =>
    have h3m : (k != (4 : Int)) = true := by rw [bne, h3]; rfl
    cases h4 : (t == ([] : List UInt8)) with
    | false =>
     have h4s : ((⟨t.toArray⟩ : ByteArray) == (⟨#[]⟩ : ByteArray)) = false := by rw [str_eq']; exact h4
     have h4t : ((⟨t.toArray⟩ : ByteArray) != (⟨#[]⟩ : ByteArray)) = true := by rw [bne, h4s]; rfl
     have h4e : (ByteArray.toList (⟨t.toArray⟩ : ByteArray)).isEmpty = false := by rw [isEmpty_str]; exact h4
     go_wp2_with fail
     go_ret
     exact ⟨ret_bool' _ _ (by unfold Tr.textOK; simp only [← plainB_eq]; simp_all <;> omega), (frA (Touch.refl _ _))⟩
    | true =>
     have h4s : ((⟨t.toArray⟩ : ByteArray) == (⟨#[]⟩ : ByteArray)) = true := by rw [str_eq']; exact h4
     have h4t : ((⟨t.toArray⟩ : ByteArray) != (⟨#[]⟩ : ByteArray)) = false := by rw [bne, h4s]; rfl
     have h4e : (ByteArray.toList (⟨t.toArray⟩ : ByteArray)).isEmpty = true := by rw [isEmpty_str]; exact h4
     go_wp2_with fail
     go_ret
     exact ⟨ret_bool' _ _ (by unfold Tr.textOK; simp only [← plainB_eq]; simp_all <;> omega), (frA (Touch.refl _ _))⟩
   | true =>
    have h3m : (k != (4 : Int)) = false := by rw [bne, h3]; rfl
    cases h5 : decide ((t.length : Int) ≤ (200 : Int)) with
    | false =>
     have h5n : decide (t.length ≤ 200) = false := by have hx := h5; simp only [decide_eq_false_iff_not] at hx ⊢; omega
     go_wp2_with fail
     go_ret
     exact ⟨ret_bool' _ _ (by unfold Tr.textOK; simp only [← plainB_eq]; simp_all <;> omega), (frA (Touch.refl _ _))⟩
    | true =>
     have h5n : decide (t.length ≤ 200) = true := by have hx := h5; simp only [decide_eq_true_eq] at hx ⊢; omega
     go_wp2_with fail
     refine Calls.mono (printable_any ⟨t.toArray⟩ _ HZ.out) ?_
     rintro _ w1q ⟨rfl, hqw1⟩
     replace hqw1 := hqw1.symm
     subst hqw1
     cases h6 : (t.all plainB) with
     | false =>
      go_wp2_with fail
      go_ret
      exact ⟨ret_bool' _ _ (by unfold Tr.textOK; simp only [← plainB_eq]; simp_all <;> omega), (frA (Touch.refl _ _))⟩
     | true =>
      go_wp2_with fail
      go_ret
      exact ⟨ret_bool' _ _ (by unfold Tr.textOK; simp only [← plainB_eq]; simp_all <;> omega), (frA (Touch.refl _ _))⟩
  | true =>
   have h2m : (k != (3 : Int)) = false := by rw [bne, h2]; rfl
   go_wp2_with fail
   refine Calls.mono (rNumber_any ⟨t.toArray⟩ _ HZ.out) ?_
   rintro _ w2q ⟨rfl, hqw2⟩
   replace hqw2 := hqw2.symm
   subst hqw2
   cases h7 : (Tr.isNum t) with
   | false =>
    go_wp2_with fail
    go_ret
    exact ⟨ret_bool' _ _ (by unfold Tr.textOK; simp only [← plainB_eq]; simp_all <;> omega), (frA (Touch.refl _ _))⟩
   | true =>
    go_wp2_with fail
    go_ret
    exact ⟨ret_bool' _ _ (by unfold Tr.textOK; simp only [← plainB_eq]; simp_all <;> omega), (frA (Touch.refl _ _))⟩
 | true =>
  have h1m : (k != (2 : Int)) = false := by rw [bne, h1]; rfl
  go_wp2_with fail
  refine Calls.mono (rSymbol_any ⟨t.toArray⟩ _ HZ.out) ?_
  rintro _ w3 ⟨rfl, hfw3⟩
  have HF3 := hid (show Fresh w w3 from preA hfw3)
  have B0_w3 : Blk w3 (w.heap.size) 24 #[.int .i64 k, .string (⟨t.toArray⟩ : ByteArray), cv, sl] := Touch.blk hfw3 (by first | exact blkN | assumption | exact blkA (by assumption)) (fun h => h)
  obtain ⟨q0_0_w3, q0_1_w3, q0_2_w3, q0_3_w3, _⟩ := Blk.four B0_w3
  clear hfw3
  cases h8 : (Tr.symbol t) with
  | false =>
   go_wp2_with fail
   go_ret
   exact ⟨ret_bool' _ _ (by unfold Tr.textOK; simp only [← plainB_eq]; simp_all <;> omega), (frA HF3.out)⟩
  | true =>
   go_wp2_with fail
   go_ret
   exact ⟨ret_bool' _ _ (by unfold Tr.textOK; simp only [← plainB_eq]; simp_all <;> omega), (frA HF3.out)⟩
set_option maxRecDepth 100000 in
set_option maxHeartbeats 1000000 in
theorem text_fence (k : Int) (hk : k = 11) (a b : UInt8) (cv sl : Value) (w : World) :
  Calls Tryz.prog 123 #[.agg #[.int .i64 k, .string ⟨#[a, b]⟩, cv, sl]] w fun e w' => e = .returned (.bool (Tr.textOK k [a, b])) ∧ Fresh w w' := by
 have hk0 : (k == 10) = false := by subst hk; rfl
 have hk1 : (k == 11) = true := by subst hk; rfl
 have hk2 : (k == 2) = false := by subst hk; rfl
 have hk3 : (k == 3) = false := by subst hk; rfl
 have hk4 : (k == 4) = false := by subst hk; rfl
 have HT := hid (show Tr.textOK k [a, b] = (Tr.delims.contains a && Tr.delims.contains b) by subst hk; rfl)
 have e0 : (ByteArray.mk #[a, b])[0]'(show 0 < 2 by decide) = a := rfl
 have e1 : (ByteArray.mk #[a, b])[1]'(show 1 < 2 by decide) = b := rfl
 have e2 : (ByteArray.mk #[a, b]).size = 2 := rfl
 clear hk
 go_enter Tryz.func123, Tryz.ntmps123
 go_wp2_with fail
 refine Calls.mono (has_any ⟨(Tr.delims).toArray⟩ a _ (by decide)) ?_
 rintro _ w1q ⟨rfl, hqw1⟩
 replace hqw1 := hqw1.symm
 subst hqw1
 cases h1 : (Tr.delims.contains a) with
 | false =>
  go_wp2_with fail
  go_ret
  exact ⟨ret_bool' _ _ (by rw [HT.out]; simp_all), (frA (Touch.refl _ _))⟩
 | true =>
  go_wp2_with fail
  refine Calls.mono (has_any ⟨(Tr.delims).toArray⟩ b _ (by decide)) ?_
  rintro _ w2q ⟨rfl, hqw2⟩
  replace hqw2 := hqw2.symm
  subst hqw2
  cases h2 : (Tr.delims.contains b) with
  | false =>
   go_wp2_with fail
   go_ret
   exact ⟨ret_bool' _ _ (by rw [HT.out]; simp_all), (frA (Touch.refl _ _))⟩
  | true =>
   go_wp2_with fail
   go_ret
   exact ⟨ret_bool' _ _ (by rw [HT.out]; simp_all), (frA (Touch.refl _ _))⟩
set_option maxRecDepth 100000 in
set_option maxHeartbeats 1000000 in
theorem text_nofence (k : Int) (hk : k = 11) (t : List UInt8) (ht : t.length ≠ 2) (cv sl : Value) (w : World) :
  Calls Tryz.prog 123 #[.agg #[.int .i64 k, .string ⟨t.toArray⟩, cv, sl]] w fun e w' => e = .returned (.bool (Tr.textOK k t)) ∧ Fresh w w' := by
 have hk0 : (k == 10) = false := by subst hk; rfl
 have hk1 : (k == 11) = true := by subst hk; rfl
 have hk2 : (k == 2) = false := by subst hk; rfl
 have hk3 : (k == 3) = false := by subst hk; rfl
 have hk4 : (k == 4) = false := by subst hk; rfl
 have HT := hid (show Tr.textOK k t = false by
  subst hk
  show Tr.fence t = false
  match t, ht with
  | [], _ => rfl
  | [_], _ => rfl
  | [_, _], h => exact absurd rfl h
  | _ :: _ :: _ :: _, _ => rfl)
 have f1 : ((t.length : Int) == 2) = false := by rw [beq_eq_false_iff_ne]; omega
 have f2 : (t.length == 2) = false := by rw [beq_eq_false_iff_ne]; exact ht
 have f3 : ¬ (t.length : Int) = 2 := by omega
 clear hk ht
 go_enter Tryz.func123, Tryz.ntmps123
 go_wp2_with fail
 go_ret
 exact ⟨ret_bool' _ _ (by rw [HT.out]), (frA (Touch.refl _ _))⟩
set_option maxRecDepth 100000 in
set_option maxHeartbeats 1000000 in
theorem text_accent (k : Int) (hk : k = 10) (t : List UInt8) (cv sl : Value) (w : World) :
  Calls Tryz.prog 123 #[.agg #[.int .i64 k, .string ⟨t.toArray⟩, cv, sl]] w fun e w' => e = .returned (.bool (Tr.textOK k t)) ∧ Fresh w w' := by
 have hk0 : (k == 10) = true := by subst hk; rfl
 have hk2 : (k == 2) = false := by subst hk; rfl
 have hk3 : (k == 3) = false := by subst hk; rfl
 have hk4 : (k == 4) = false := by subst hk; rfl
 have HT := hid (show Tr.textOK k t = Tr.accents.contains t by subst hk; rfl)
 clear hk
 go_enter Tryz.func123, Tryz.ntmps123
 go_wp2_with fail
 go_region_with (first
  | (go_at_call 166; refine (accents_any _).mono ?_; rintro _ w1 ⟨rfl, hf1, hb1⟩; have q1 := Blk.cell (Touch.blk hf1 (Blk.new _ _ _) (fun h => h)) 1; have hb2 : Blk w1 (w.heap.size + 1) 9 (strRow Tr.accents) := (by simpa using hb1); have HF1 := hid (Touch.trans (((Touch.refl _ w).alloc _).drew) hf1); clear hf1 hb1)
  | (go_at_call 165; refine (in_any Tr.accents ⟨t.toArray⟩ _ _ (by assumption) (by decide)).mono ?_; rintro _ _ ⟨rfl, rfl⟩))
 all_goals (go_wp2_with fail)
 all_goals go_ret
 all_goals exact ⟨ret_bool' _ _ (by rw [HT.out]; simp), HF1.out⟩
theorem text_any (k : Int) (t : List UInt8) (cv sl : Value) (w : World) (hm : t.length ≤ 9223372036854775807) :
  Calls Tryz.prog 123 #[.agg #[.int .i64 k, .string ⟨t.toArray⟩, cv, sl]] w fun e w' => e = .returned (.bool (Tr.textOK k t)) ∧ Fresh w w' := by
 by_cases h10 : k = 10
 ·exact text_accent k h10 t cv sl w
 ·by_cases h11 : k = 11
  ·by_cases h2 : t.length = 2
   ·match t, h2 with
    | [a, b], _ => exact text_fence k h11 a b cv sl w
   ·exact text_nofence k h11 t h2 cv sl w
  ·exact text_plain k t cv sl w (by simpa using h10) (by simpa using h11) hm
set_option maxRecDepth 100000 in
set_option maxHeartbeats 2000000 in
theorem kids_any (k c : Int) (n : Nat) (A : Option Addr) (cap : Nat) (tx : Value) (w : World) (hn : n ≤ 9223372036854775807) :
  Calls Tryz.prog 124 #[.agg #[.int .i64 k, tx, .int .i64 c, .slice A n cap]] w fun e w' => e = .returned (.bool (Tr.kidsOK k c n)) ∧ Fresh w w' := by
 go_enter Tryz.func124, Tryz.ntmps124
 cases h1 : (k == (12 : Int)) with
 | false =>
  have h1m : (k != (12 : Int)) = true := by rw [bne, h1]; rfl
  cases h2 : (c == (0 : Int)) with
  | false =>
   have h2m : (c != (0 : Int)) = true := by rw [bne, h2]; rfl
   go_wp2_with fail
   go_ret
   exact ⟨ret_bool' _ _ (by unfold Tr.kidsOK; simp_all <;> omega), (frA (Touch.refl _ _))⟩
  | true =>
   have h2m : (c != (0 : Int)) = false := by rw [bne, h2]; rfl
   cases h3 : (k == (1 : Int)) with
   | false =>
    have h3m : (k != (1 : Int)) = true := by rw [bne, h3]; rfl
    cases h4 : (k == (2 : Int)) with
    | false =>
     have h4m : (k != (2 : Int)) = true := by rw [bne, h4]; rfl
     cases h5 : (k == (3 : Int)) with
     | false =>
      have h5m : (k != (3 : Int)) = true := by rw [bne, h5]; rfl
      cases h6 : (k == (4 : Int)) with
      | false =>
       have h6m : (k != (4 : Int)) = true := by rw [bne, h6]; rfl
       cases h7 : (k == (5 : Int)) with
       | false =>
        have h7m : (k != (5 : Int)) = true := by rw [bne, h7]; rfl
        cases h8 : (k == (6 : Int)) with
        | false =>
         have h8m : (k != (6 : Int)) = true := by rw [bne, h8]; rfl
         cases h9 : (k == (7 : Int)) with
         | false =>
          have h9m : (k != (7 : Int)) = true := by rw [bne, h9]; rfl
          cases h10 : (k == (8 : Int)) with
          | false =>
           have h10m : (k != (8 : Int)) = true := by rw [bne, h10]; rfl
           cases h11 : (k == (9 : Int)) with
           | false =>
            have h11m : (k != (9 : Int)) = true := by rw [bne, h11]; rfl
            cases h12 : (k == (10 : Int)) with
            | false =>
             have h12m : (k != (10 : Int)) = true := by rw [bne, h12]; rfl
             cases h13 : (k == (11 : Int)) with
             | false =>
              have h13m : (k != (11 : Int)) = true := by rw [bne, h13]; rfl
              go_wp2_with fail
              go_ret
              exact ⟨ret_bool' _ _ (by unfold Tr.kidsOK; simp_all <;> omega), (frA (Touch.refl _ _))⟩
             | true =>
              have h13m : (k != (11 : Int)) = false := by rw [bne, h13]; rfl
              cases h14 : ((n : Int) == (1 : Int)) with
              | false =>
               have h14m : ((n : Int) != (1 : Int)) = true := by rw [bne, h14]; rfl
               have h14n : (n == 1) = false := by have hx := h14; simp only [beq_eq_false_iff_ne, ne_eq] at hx ⊢; omega
               go_wp2_with fail
               go_ret
               exact ⟨ret_bool' _ _ (by unfold Tr.kidsOK; simp_all <;> omega), (frA (Touch.refl _ _))⟩
              | true =>
               have h14m : ((n : Int) != (1 : Int)) = false := by rw [bne, h14]; rfl
               have h14n : (n == 1) = true := by have hx := h14; simp only [beq_iff_eq] at hx ⊢; omega
               go_wp2_with fail
               go_ret
               exact ⟨ret_bool' _ _ (by unfold Tr.kidsOK; simp_all <;> omega), (frA (Touch.refl _ _))⟩
            | true =>
             have h12m : (k != (10 : Int)) = false := by rw [bne, h12]; rfl
             cases h15 : ((n : Int) == (1 : Int)) with
             | false =>
              have h15m : ((n : Int) != (1 : Int)) = true := by rw [bne, h15]; rfl
              have h15n : (n == 1) = false := by have hx := h15; simp only [beq_eq_false_iff_ne, ne_eq] at hx ⊢; omega
              go_wp2_with fail
              go_ret
              exact ⟨ret_bool' _ _ (by unfold Tr.kidsOK; simp_all <;> omega), (frA (Touch.refl _ _))⟩
             | true =>
              have h15m : ((n : Int) != (1 : Int)) = false := by rw [bne, h15]; rfl
              have h15n : (n == 1) = true := by have hx := h15; simp only [beq_iff_eq] at hx ⊢; omega
              go_wp2_with fail
              go_ret
              exact ⟨ret_bool' _ _ (by unfold Tr.kidsOK; simp_all <;> omega), (frA (Touch.refl _ _))⟩
           | true =>
            have h11m : (k != (9 : Int)) = false := by rw [bne, h11]; rfl
            cases h16 : ((n : Int) == (3 : Int)) with
            | false =>
             have h16m : ((n : Int) != (3 : Int)) = true := by rw [bne, h16]; rfl
             have h16n : (n == 3) = false := by have hx := h16; simp only [beq_eq_false_iff_ne, ne_eq] at hx ⊢; omega
             go_wp2_with fail
             go_ret
             exact ⟨ret_bool' _ _ (by unfold Tr.kidsOK; simp_all <;> omega), (frA (Touch.refl _ _))⟩
            | true =>
             have h16m : ((n : Int) != (3 : Int)) = false := by rw [bne, h16]; rfl
             have h16n : (n == 3) = true := by have hx := h16; simp only [beq_iff_eq] at hx ⊢; omega
             go_wp2_with fail
             go_ret
             exact ⟨ret_bool' _ _ (by unfold Tr.kidsOK; simp_all <;> omega), (frA (Touch.refl _ _))⟩
          | true =>
           have h10m : (k != (8 : Int)) = false := by rw [bne, h10]; rfl
           cases h17 : ((n : Int) == (2 : Int)) with
           | false =>
            have h17m : ((n : Int) != (2 : Int)) = true := by rw [bne, h17]; rfl
            have h17n : (n == 2) = false := by have hx := h17; simp only [beq_eq_false_iff_ne, ne_eq] at hx ⊢; omega
            go_wp2_with fail
            go_ret
            exact ⟨ret_bool' _ _ (by unfold Tr.kidsOK; simp_all <;> omega), (frA (Touch.refl _ _))⟩
           | true =>
            have h17m : ((n : Int) != (2 : Int)) = false := by rw [bne, h17]; rfl
            have h17n : (n == 2) = true := by have hx := h17; simp only [beq_iff_eq] at hx ⊢; omega
            go_wp2_with fail
            go_ret
            exact ⟨ret_bool' _ _ (by unfold Tr.kidsOK; simp_all <;> omega), (frA (Touch.refl _ _))⟩
         | true =>
          have h9m : (k != (7 : Int)) = false := by rw [bne, h9]; rfl
          cases h18 : ((n : Int) == (2 : Int)) with
          | false =>
           have h18m : ((n : Int) != (2 : Int)) = true := by rw [bne, h18]; rfl
           have h18n : (n == 2) = false := by have hx := h18; simp only [beq_eq_false_iff_ne, ne_eq] at hx ⊢; omega
           go_wp2_with fail
           go_ret
           exact ⟨ret_bool' _ _ (by unfold Tr.kidsOK; simp_all <;> omega), (frA (Touch.refl _ _))⟩
          | true =>
           have h18m : ((n : Int) != (2 : Int)) = false := by rw [bne, h18]; rfl
           have h18n : (n == 2) = true := by have hx := h18; simp only [beq_iff_eq] at hx ⊢; omega
           go_wp2_with fail
           go_ret
           exact ⟨ret_bool' _ _ (by unfold Tr.kidsOK; simp_all <;> omega), (frA (Touch.refl _ _))⟩
        | true =>
         have h8m : (k != (6 : Int)) = false := by rw [bne, h8]; rfl
         cases h19 : ((n : Int) == (2 : Int)) with
         | false =>
          have h19m : ((n : Int) != (2 : Int)) = true := by rw [bne, h19]; rfl
          have h19n : (n == 2) = false := by have hx := h19; simp only [beq_eq_false_iff_ne, ne_eq] at hx ⊢; omega
          go_wp2_with fail
          go_ret
          exact ⟨ret_bool' _ _ (by unfold Tr.kidsOK; simp_all <;> omega), (frA (Touch.refl _ _))⟩
         | true =>
          have h19m : ((n : Int) != (2 : Int)) = false := by rw [bne, h19]; rfl
          have h19n : (n == 2) = true := by have hx := h19; simp only [beq_iff_eq] at hx ⊢; omega
          go_wp2_with fail
          go_ret
          exact ⟨ret_bool' _ _ (by unfold Tr.kidsOK; simp_all <;> omega), (frA (Touch.refl _ _))⟩
       | true =>
        have h7m : (k != (5 : Int)) = false := by rw [bne, h7]; rfl
        cases h20 : ((n : Int) == (2 : Int)) with
        | false =>
         have h20m : ((n : Int) != (2 : Int)) = true := by rw [bne, h20]; rfl
         have h20n : (n == 2) = false := by have hx := h20; simp only [beq_eq_false_iff_ne, ne_eq] at hx ⊢; omega
         go_wp2_with fail
         go_ret
         exact ⟨ret_bool' _ _ (by unfold Tr.kidsOK; simp_all <;> omega), (frA (Touch.refl _ _))⟩
        | true =>
         have h20m : ((n : Int) != (2 : Int)) = false := by rw [bne, h20]; rfl
         have h20n : (n == 2) = true := by have hx := h20; simp only [beq_iff_eq] at hx ⊢; omega
         go_wp2_with fail
         go_ret
         exact ⟨ret_bool' _ _ (by unfold Tr.kidsOK; simp_all <;> omega), (frA (Touch.refl _ _))⟩
      | true =>
       have h6m : (k != (4 : Int)) = false := by rw [bne, h6]; rfl
       cases h21 : ((n : Int) == (0 : Int)) with
       | false =>
        have h21m : ((n : Int) != (0 : Int)) = true := by rw [bne, h21]; rfl
        have h21n : (n == 0) = false := by have hx := h21; simp only [beq_eq_false_iff_ne, ne_eq] at hx ⊢; omega
        go_wp2_with fail
        go_ret
        exact ⟨ret_bool' _ _ (by unfold Tr.kidsOK; simp_all <;> omega), (frA (Touch.refl _ _))⟩
       | true =>
        have h21m : ((n : Int) != (0 : Int)) = false := by rw [bne, h21]; rfl
        have h21n : (n == 0) = true := by have hx := h21; simp only [beq_iff_eq] at hx ⊢; omega
        go_wp2_with fail
        go_ret
        exact ⟨ret_bool' _ _ (by unfold Tr.kidsOK; simp_all <;> omega), (frA (Touch.refl _ _))⟩
     | true =>
      have h5m : (k != (3 : Int)) = false := by rw [bne, h5]; rfl
      cases h22 : ((n : Int) == (0 : Int)) with
      | false =>
       have h22m : ((n : Int) != (0 : Int)) = true := by rw [bne, h22]; rfl
       have h22n : (n == 0) = false := by have hx := h22; simp only [beq_eq_false_iff_ne, ne_eq] at hx ⊢; omega
       go_wp2_with fail
       go_ret
       exact ⟨ret_bool' _ _ (by unfold Tr.kidsOK; simp_all <;> omega), (frA (Touch.refl _ _))⟩
      | true =>
       have h22m : ((n : Int) != (0 : Int)) = false := by rw [bne, h22]; rfl
       have h22n : (n == 0) = true := by have hx := h22; simp only [beq_iff_eq] at hx ⊢; omega
       go_wp2_with fail
       go_ret
       exact ⟨ret_bool' _ _ (by unfold Tr.kidsOK; simp_all <;> omega), (frA (Touch.refl _ _))⟩
    | true =>
     have h4m : (k != (2 : Int)) = false := by rw [bne, h4]; rfl
     cases h23 : ((n : Int) == (0 : Int)) with
     | false =>
      have h23m : ((n : Int) != (0 : Int)) = true := by rw [bne, h23]; rfl
      have h23n : (n == 0) = false := by have hx := h23; simp only [beq_eq_false_iff_ne, ne_eq] at hx ⊢; omega
      go_wp2_with fail
      go_ret
      exact ⟨ret_bool' _ _ (by unfold Tr.kidsOK; simp_all <;> omega), (frA (Touch.refl _ _))⟩
     | true =>
      have h23m : ((n : Int) != (0 : Int)) = false := by rw [bne, h23]; rfl
      have h23n : (n == 0) = true := by have hx := h23; simp only [beq_iff_eq] at hx ⊢; omega
      go_wp2_with fail
      go_ret
      exact ⟨ret_bool' _ _ (by unfold Tr.kidsOK; simp_all <;> omega), (frA (Touch.refl _ _))⟩
   | true =>
    have h3m : (k != (1 : Int)) = false := by rw [bne, h3]; rfl
    cases h24 : decide ((n : Int) ≤ (200 : Int)) with
    | false =>
     have h24n : decide (n ≤ 200) = false := by have hx := h24; simp only [decide_eq_false_iff_not] at hx ⊢; omega
     go_wp2_with fail
     go_ret
     exact ⟨ret_bool' _ _ (by unfold Tr.kidsOK; simp_all <;> omega), (frA (Touch.refl _ _))⟩
    | true =>
     have h24p := of_decide_eq_true h24
     have h24n : decide (n ≤ 200) = true := by have hx := h24; simp only [decide_eq_true_eq] at hx ⊢; omega
     go_wp2_with fail
     go_ret
     exact ⟨ret_bool' _ _ (by unfold Tr.kidsOK; simp_all <;> omega), (frA (Touch.refl _ _))⟩
 | true =>
  have h1m : (k != (12 : Int)) = false := by rw [bne, h1]; rfl
  cases h25 : decide ((1 : Int) ≤ c) with
  | false =>
   go_wp2_with fail
   go_ret
   exact ⟨ret_bool' _ _ (by unfold Tr.kidsOK; simp_all <;> omega), (frA (Touch.refl _ _))⟩
  | true =>
   have h25p := of_decide_eq_true h25
   cases h26 : decide (c ≤ (16 : Int)) with
   | false =>
    go_wp2_with fail
    go_ret
    exact ⟨ret_bool' _ _ (by unfold Tr.kidsOK; simp_all <;> omega), (frA (Touch.refl _ _))⟩
   | true =>
    have h26p := of_decide_eq_true h26
    cases h27 : decide ((1 : Int) ≤ (n : Int)) with
    | false =>
     have h27n : decide (1 ≤ n) = false := by have hx := h27; simp only [decide_eq_false_iff_not] at hx ⊢; omega
     go_wp2_with fail
     go_ret
     exact ⟨ret_bool' _ _ (by unfold Tr.kidsOK; simp_all <;> omega), (frA (Touch.refl _ _))⟩
    | true =>
     have h27p := of_decide_eq_true h27
     have h27n : decide (1 ≤ n) = true := by have hx := h27; simp only [decide_eq_true_eq] at hx ⊢; omega
     cases h28 : decide ((n : Int) ≤ (256 : Int)) with
     | false =>
      have h28n : decide (n ≤ 256) = false := by have hx := h28; simp only [decide_eq_false_iff_not] at hx ⊢; omega
      go_wp2_with fail
      go_ret
      exact ⟨ret_bool' _ _ (by unfold Tr.kidsOK; simp_all <;> omega), (frA (Touch.refl _ _))⟩
     | true =>
      have h28p := of_decide_eq_true h28
      have h28n : decide (n ≤ 256) = true := by have hx := h28; simp only [decide_eq_true_eq] at hx ⊢; omega
      cases h29 : (((n : Int) % c) == (0 : Int)) with
      | false =>
       have h29m : (((n : Int) % c) != (0 : Int)) = true := by rw [bne, h29]; rfl
       go_wp2_with fail
       go_ret
       exact ⟨ret_bool' _ _ (by unfold Tr.kidsOK; simp_all <;> omega), (frA (Touch.refl _ _))⟩
      | true =>
       have h29m : (((n : Int) % c) != (0 : Int)) = false := by rw [bne, h29]; rfl
       go_wp2_with fail
       go_ret
       exact ⟨ret_bool' _ _ (by unfold Tr.kidsOK; simp_all <;> omega), (frA (Touch.refl _ _))⟩
end Go.Proofs.YtdacpbdamliafaaGreat

/- The walks of the reference's form, Count, Depth and Valid. -/
namespace Go.Proofs.YtdacpbdamliafaaGreat
open Go.RowKit
theorem depthL_take (l : List Tr.Nd) (i : Nat) (h : i < l.length) : Tr.depthL (l.take (i + 1)) = max (Tr.depthL (l.take i)) (Tr.depth l[i]) := by
 induction l generalizing i with
 | nil => simp at h
 | cons x l ih =>
  cases i with
  | zero => simp [Tr.depthL]
  | succ i =>
   simp only [List.take_succ_cons, Tr.depthL, List.getElem_cons_succ]
   rw [ih i (by simpa using h)]; omega
theorem depth_le (n : Tr.Nd) : Tr.depth n ≤ Tr.count n := by
 induction n using Tr.Nd.ind with
 | h n ih =>
  have hL : ∀ l : List Tr.Nd, (∀ x ∈ l, Tr.depth x ≤ Tr.count x) → Tr.depthL l ≤ Tr.countL l := by
   intro l
   induction l with
   | nil => intro _; simp [Tr.depthL]
   | cons x l ihl =>
    intro h
    rw [Tr.depthL, Tr.countL]
    have h1 := h x (by simp)
    have h2 := ihl fun y hy => h y (by simp [hy])
    omega
  rw [Tr.depth_kids, Tr.count_kids]
  have := hL n.kids ih
  omega
theorem depthL_le (l : List Tr.Nd) : Tr.depthL l ≤ Tr.countL l := by
 induction l with
 | nil => simp [Tr.depthL]
 | cons x l ihl =>
  rw [Tr.depthL, Tr.countL]
  have h1 := depth_le x
  omega
theorem depthL_take_le (l : List Tr.Nd) (j : Nat) : Tr.depthL (l.take j) ≤ Tr.countL l := Nat.le_trans (depthL_le _) (Tr.countL_le l j)
set_option maxRecDepth 100000 in
set_option maxHeartbeats 2000000 in
theorem form_any (m : Nat) : ∀ (n : Tr.Nd) (sl : Value) (w : World), Tr.count n ≤ m → m ≤ 1000000 → RepL w n.kids sl → n.text.length ≤ maxLen →
  Calls Tryz.prog 93 #[.agg #[.int .i64 n.kind, .string ⟨n.text.toArray⟩, .int .i64 n.cols, sl]] w fun e w' => e = .returned (.bool (Tr.form n)) ∧ Fresh w w' := by
 induction m with
 | zero => intro n _ _ h; have := Tr.count_pos n; omega
 | succ m ih =>
  intro n sl w hc hm hr ht
  obtain ⟨A, cap, rfl⟩ := hr.slice
  have hlen := hr.len
  unfold maxLen at hlen ht
  have HIH := hid ih
  have HR := hid hr
  have HN0 := hid (Tr.form_eq n)
  have hkc : Tr.countL n.kids ≤ m := by have := Tr.count_kids n; omega
  have hkl := Tr.countL_len n.kids
  clear ih hr
  generalize n.kids = ks at *
  go_enter Tryz.func93, Tryz.ntmps93
  go_wp2_with fail
  refine Calls.mono (text_any _ n.text _ _ _ (by omega)) ?_
  rintro _ w1 ⟨rfl, hfw1⟩
  have HF1 := hid (show Fresh w w1 from preA hfw1)
  have B0_w1 : Blk w1 (w.heap.size) 24 #[.int .i64 n.kind, .string (⟨n.text.toArray⟩ : ByteArray), .int .i64 n.cols, .slice A ks.length cap] := Touch.blk hfw1 (by first | exact blkN | assumption | exact blkA (by assumption)) (fun h => h)
  obtain ⟨q0_0_w1, q0_1_w1, q0_2_w1, q0_3_w1, _⟩ := Blk.four B0_w1
  clear hfw1
  cases h1 : (Tr.textOK n.kind n.text) with
  | false =>
   go_wp2_with fail
   go_ret
   exact ⟨ret_bool' _ _ (by rw [HN0.out, show (Tr.textOK n.kind n.text) = false from by assumption]; rfl), (frA HF1.out)⟩
  | true =>
   go_wp2_with fail
   refine Calls.mono (kids_any _ _ ks.length _ _ _ _ (by omega)) ?_
   rintro _ w2 ⟨rfl, hfw2⟩
   have HF2 := hid (show Fresh w1 w2 from preA hfw2)
   have B0_w2 := Touch.blk hfw2 (blkA B0_w1) (fun h => h)
   clear q0_0_w1 q0_1_w1 q0_2_w1 q0_3_w1 B0_w1
   obtain ⟨q0_0_w2, q0_1_w2, q0_2_w2, q0_3_w2, _⟩ := Blk.four B0_w2
   clear hfw2
   cases h2 : (Tr.kidsOK n.kind n.cols ks.length) with
   | false =>
    go_wp2_with fail
    go_ret
    exact ⟨ret_bool' _ _ (by rw [HN0.out, show (Tr.textOK n.kind n.text) = true from by assumption, show (Tr.kidsOK n.kind n.cols ks.length) = false from by assumption]; rfl), (frA (HF1.out.trans HF2.out))⟩
   | true =>
    go_wp2_with fail
    go_loopw [3] (fun i wr => ∃ j : Nat, i = .int .i64 j ∧ j ≤ ks.length ∧ Hid (Tr.formL (n.kind == 1) (ks.take j) = true) ∧ Hid (Blk wr w.heap.size 24 #[.int .i64 n.kind, .string ⟨n.text.toArray⟩, .int .i64 n.cols, .slice A ks.length cap]) ∧ Hid (Fresh w wr)) (fun i _ => ks.length - (intOf i).toNat)
    case atStart => exact ⟨0, rfl, Nat.zero_le _, by simp [Tr.formL, Hid], by assumption, HF1.out.trans HF2.out⟩
    case round =>
     obtain ⟨j, rfl, hj, HA, HB, HF⟩ := hrel
     by_cases c1 : j < ks.length
     ·have d1 : decide ((j : Int) < (ks.length : Int)) = true := by simp only [decide_eq_true_eq]; omega
      have d1n : decide (j < ks.length) = true := by simp only [decide_eq_true_eq]; omega
      have d1' : (j : Int) < (ks.length : Int) := by omega
      obtain ⟨g, o, sx, rfl, hg, m0, m1, m2, m3, hrk⟩ := HR.out.get j c1
      have htx := HR.out.texts j c1
      have hcm := Tr.count_mem (List.getElem_mem (l := ks) (n := j) c1)
      have HS := hid (Tr.formL_take (n.kind == 1) ks j c1)
      have HN := hid (Tr.formL_no (n.kind == 1) ks j c1)
      have xx0_wr := Touch.cell HF.out m0 (fun h => h)
      have xx1_wr := Touch.cell HF.out m1 (fun h => h)
      have xx2_wr := Touch.cell HF.out m2 (fun h => h)
      have xx3_wr := Touch.cell HF.out m3 (fun h => h)
      have hgr : g < wr.heap.size := block_lt_of_cell xx0_wr
      have HRK := hid hrk
      clear m0 m1 m2 m3 hrk hg HR
      generalize ks[j] = x at *
      obtain ⟨q0_0_wr, q0_1_wr, q0_2_wr, q0_3_wr, _⟩ := Blk.four HB.out
      have B0_wr : Blk wr w.heap.size 24 #[.int .i64 n.kind, .string (⟨n.text.toArray⟩ : ByteArray), .int .i64 n.cols, .slice (some ⟨g, o, none⟩) ks.length cap] := HB.out
      have hlt_w_wr : w.heap.size < wr.heap.size := Blk.lt HB.out
      cases h3 : (x.kind == (1 : Int)) with
      | false =>
       have h3m : (x.kind != (1 : Int)) = true := by rw [bne, h3]; rfl
       cases h4 : (n.kind == (1 : Int)) with
       | false =>
        have h4m : (n.kind != (1 : Int)) = true := by rw [bne, h4]; rfl
        go_wp2_with fail
        go_quiet (fail)
        go_wp2_with fail
        go_ret
        exact ⟨ret_bool' _ _ (by rw [HN0.out, HN.out (by rw [show (x.kind == 1) = false from by assumption, show (n.kind == 1) = false from by assumption]; rfl), Bool.and_false]), (frA HF.out)⟩
       | true =>
        have h4m : (n.kind != (1 : Int)) = false := by rw [bne, h4]; rfl
        go_wp2_with fail
        refine forget_world (fun W => Fresh wr W ∧ Blk W (w.heap.size) 24 #[.int .i64 n.kind, .string (⟨n.text.toArray⟩ : ByteArray), .int .i64 n.cols, .slice (some ⟨g, o, none⟩) ks.length cap]) ⟨(frA (Touch.refl _ _)), (by first | exact blkN | assumption | exact blkA (by assumption))⟩ ?_
        rintro w3 ⟨hfw3, hb0_w3⟩
        have HF3 := hid hfw3
        clear hfw3 q0_0_wr q0_1_wr q0_2_wr q0_3_wr B0_wr
        have r0_0_w3 := cell_regrown (show World.cell? w3 ⟨w.heap.size, 0, none⟩ = some (.int .i64 n.kind) from Blk.cell hb0_w3 0)
        have r0_1_w3 := cell_regrown (show World.cell? w3 ⟨w.heap.size, 1, none⟩ = some (.string (⟨n.text.toArray⟩ : ByteArray)) from Blk.cell hb0_w3 1)
        have r0_2_w3 := cell_regrown (show World.cell? w3 ⟨w.heap.size, 2, none⟩ = some (.int .i64 n.cols) from Blk.cell hb0_w3 2)
        have r0_3_w3 := cell_regrown (show World.cell? w3 ⟨w.heap.size, 3, none⟩ = some (.slice (some ⟨g, o, none⟩) ks.length cap) from Blk.cell hb0_w3 3)
        obtain ⟨xx0_w3, xx1_w3, xx2_w3, xx3_w3⟩ := mv4 HF3.out xx0_wr xx1_wr xx2_wr xx3_wr
        clear xx0_wr xx1_wr xx2_wr xx3_wr
        have gxx0_w3 := cell_regrown xx0_w3
        have gxx1_w3 := cell_regrown xx1_w3
        have gxx2_w3 := cell_regrown xx2_w3
        have gxx3_w3 := cell_regrown xx3_w3
        have C0_w3 := hid (calmF (P := Tryz.prog) w3 (fun w hw => HIH.out x sx _ (by omega) (by omega) (HRK.out.fresh (Touch.trans (HF.out.trans HF3.out) hw)) htx))
        refine wp_region_quiet_below (by kernel_rfl) (by kernel_rfl) ?_
        repeat (quiet_step (first | with_reducible exact C0_w3.out _ _))
        refine wpQuiet_nil ?_
        rintro w4 ⟨⟨_, _⟩, hWw4⟩
        have hfw4 : Fresh w3 w4 := by rw [hWw4]; exact fresh_of_below (below_regrown _ _ _)
        clear hWw4 r0_0_w3 r0_1_w3 r0_2_w3 r0_3_w3 gxx0_w3 gxx1_w3 gxx2_w3 gxx3_w3
        have HF4 := hid (show Fresh w3 w4 from preA hfw4)
        have B0_w4 := Touch.blk hfw4 (blkA hb0_w3) (fun h => h)
        clear hb0_w3
        obtain ⟨q0_0_w4, q0_1_w4, q0_2_w4, q0_3_w4, _⟩ := Blk.four B0_w4
        obtain ⟨xx0_w4, xx1_w4, xx2_w4, xx3_w4⟩ := mv4 HF4.out xx0_w3 xx1_w3 xx2_w3 xx3_w3
        clear xx0_w3 xx1_w3 xx2_w3 xx3_w3
        clear hfw4
        cases h5 : (Tr.form x) with
        | false =>
         go_wp2_with fail
         go_ret
         exact ⟨ret_bool' _ _ (by rw [HN0.out, HN.out (by rw [show (x.kind == 1) = false from by assumption, show (n.kind == 1) = true from by assumption, show (Tr.form x) = false from by assumption]; rfl), Bool.and_false]), (frA (HF.out.trans (HF3.out.trans HF4.out)))⟩
        | true =>
         go_wp2_with fail
         go_roundw
         case rel => exact ⟨j + 1, by go_num, c1, by have h : Tr.formL (n.kind == 1) (ks.take (j + 1)) = true := (by rw [HS.out, HA.out, show (x.kind == 1) = false from by assumption, show (n.kind == 1) = true from by assumption, show (Tr.form x) = true from by assumption]; rfl); rw [show (n.kind == 1) = true from by assumption] at h; exact h, B0_w4, (HF.out.trans (HF3.out.trans HF4.out))⟩
         case measure => simp [intOf]; omega
      | true =>
       have h3m : (x.kind != (1 : Int)) = false := by rw [bne, h3]; rfl
       cases h6 : (n.kind == (1 : Int)) with
       | false =>
        have h6m : (n.kind != (1 : Int)) = true := by rw [bne, h6]; rfl
        go_wp2_with fail
        refine forget_world (fun W => Fresh wr W ∧ Blk W (w.heap.size) 24 #[.int .i64 n.kind, .string (⟨n.text.toArray⟩ : ByteArray), .int .i64 n.cols, .slice (some ⟨g, o, none⟩) ks.length cap]) ⟨(frA (Touch.refl _ _)), (by first | exact blkN | assumption | exact blkA (by assumption))⟩ ?_
        rintro w5 ⟨hfw5, hb0_w5⟩
        have HF5 := hid hfw5
        clear hfw5 q0_0_wr q0_1_wr q0_2_wr q0_3_wr B0_wr
        have r0_0_w5 := cell_regrown (show World.cell? w5 ⟨w.heap.size, 0, none⟩ = some (.int .i64 n.kind) from Blk.cell hb0_w5 0)
        have r0_1_w5 := cell_regrown (show World.cell? w5 ⟨w.heap.size, 1, none⟩ = some (.string (⟨n.text.toArray⟩ : ByteArray)) from Blk.cell hb0_w5 1)
        have r0_2_w5 := cell_regrown (show World.cell? w5 ⟨w.heap.size, 2, none⟩ = some (.int .i64 n.cols) from Blk.cell hb0_w5 2)
        have r0_3_w5 := cell_regrown (show World.cell? w5 ⟨w.heap.size, 3, none⟩ = some (.slice (some ⟨g, o, none⟩) ks.length cap) from Blk.cell hb0_w5 3)
        obtain ⟨xx0_w5, xx1_w5, xx2_w5, xx3_w5⟩ := mv4 HF5.out xx0_wr xx1_wr xx2_wr xx3_wr
        clear xx0_wr xx1_wr xx2_wr xx3_wr
        have gxx0_w5 := cell_regrown xx0_w5
        have gxx1_w5 := cell_regrown xx1_w5
        have gxx2_w5 := cell_regrown xx2_w5
        have gxx3_w5 := cell_regrown xx3_w5
        have C0_w5 := hid (calmF (P := Tryz.prog) w5 (fun w hw => HIH.out x sx _ (by omega) (by omega) (HRK.out.fresh (Touch.trans (HF.out.trans HF5.out) hw)) htx))
        refine wp_region_quiet_below (by kernel_rfl) (by kernel_rfl) ?_
        repeat (quiet_step (first | with_reducible exact C0_w5.out _ _))
        refine wpQuiet_nil ?_
        rintro w6 ⟨⟨_, _⟩, hWw6⟩
        have hfw6 : Fresh w5 w6 := by rw [hWw6]; exact fresh_of_below (below_regrown _ _ _)
        clear hWw6 r0_0_w5 r0_1_w5 r0_2_w5 r0_3_w5 gxx0_w5 gxx1_w5 gxx2_w5 gxx3_w5
        have HF6 := hid (show Fresh w5 w6 from preA hfw6)
        have B0_w6 := Touch.blk hfw6 (blkA hb0_w5) (fun h => h)
        clear hb0_w5
        obtain ⟨q0_0_w6, q0_1_w6, q0_2_w6, q0_3_w6, _⟩ := Blk.four B0_w6
        obtain ⟨xx0_w6, xx1_w6, xx2_w6, xx3_w6⟩ := mv4 HF6.out xx0_w5 xx1_w5 xx2_w5 xx3_w5
        clear xx0_w5 xx1_w5 xx2_w5 xx3_w5
        clear hfw6
        cases h7 : (Tr.form x) with
        | false =>
         go_wp2_with fail
         go_ret
         exact ⟨ret_bool' _ _ (by rw [HN0.out, HN.out (by rw [show (x.kind == 1) = true from by assumption, show (n.kind == 1) = false from by assumption, show (Tr.form x) = false from by assumption]; rfl), Bool.and_false]), (frA (HF.out.trans (HF5.out.trans HF6.out)))⟩
        | true =>
         go_wp2_with fail
         go_roundw
         case rel => exact ⟨j + 1, by go_num, c1, by have h : Tr.formL (n.kind == 1) (ks.take (j + 1)) = true := (by rw [HS.out, HA.out, show (x.kind == 1) = true from by assumption, show (n.kind == 1) = false from by assumption, show (Tr.form x) = true from by assumption]; rfl); rw [show (n.kind == 1) = false from by assumption] at h; exact h, B0_w6, (HF.out.trans (HF5.out.trans HF6.out))⟩
         case measure => simp [intOf]; omega
       | true =>
        have h6m : (n.kind != (1 : Int)) = false := by rw [bne, h6]; rfl
        go_wp2_with fail
        go_quiet (fail)
        go_wp2_with fail
        go_ret
        exact ⟨ret_bool' _ _ (by rw [HN0.out, HN.out (by rw [show (x.kind == 1) = true from by assumption, show (n.kind == 1) = true from by assumption]; rfl), Bool.and_false]), (frA HF.out)⟩
     ·have d1 : decide ((j : Int) < (ks.length : Int)) = false := by simp only [decide_eq_false_iff_not]; omega
      have d1n : decide (j < ks.length) = false := by simp only [decide_eq_false_iff_not]; omega
      obtain rfl : j = ks.length := by omega
      obtain ⟨q0_0_wr, q0_1_wr, q0_2_wr, q0_3_wr, _⟩ := Blk.four HB.out
      have B0_wr : Blk wr w.heap.size 24 #[.int .i64 n.kind, .string (⟨n.text.toArray⟩ : ByteArray), .int .i64 n.cols, .slice A ks.length cap] := HB.out
      have hlt_w_wr : w.heap.size < wr.heap.size := Blk.lt HB.out
      go_wp2_with fail
      go_ret
      exact ⟨ret_bool' _ _ (by have := HA.out; rw [List.take_length] at this; rw [HN0.out, this, show (Tr.textOK n.kind n.text) = true from by assumption, show (Tr.kidsOK n.kind n.cols ks.length) = true from by assumption]; rfl), (frA HF.out)⟩
set_option maxRecDepth 100000 in
set_option maxHeartbeats 2000000 in
theorem count_any (m : Nat) : ∀ (n : Tr.Nd) (sl : Value) (w : World), Tr.count n ≤ m → m ≤ 1000000 → RepL w n.kids sl → n.text.length ≤ maxLen →
  Calls Tryz.prog 94 #[.agg #[.int .i64 n.kind, .string ⟨n.text.toArray⟩, .int .i64 n.cols, sl]] w fun e w' => e = .returned (.int .i64 (Tr.count n)) ∧ Fresh w w' := by
 induction m with
 | zero => intro n _ _ h; have := Tr.count_pos n; omega
 | succ m ih =>
  intro n sl w hc hm hr ht
  obtain ⟨A, cap, rfl⟩ := hr.slice
  have hlen := hr.len
  unfold maxLen at hlen ht
  have HIH := hid ih
  have HR := hid hr
  have HN0 := hid (Tr.count_kids n)
  have hkc : Tr.countL n.kids ≤ m := by have := Tr.count_kids n; omega
  have hkl := Tr.countL_len n.kids
  clear ih hr
  generalize n.kids = ks at *
  go_enter Tryz.func94, Tryz.ntmps94
  go_wp2_with fail
  go_loopw [3, 4] (fun c i wr => ∃ j : Nat, c = .int .i64 ((1 + Tr.countL (ks.take j) : Nat) : Int) ∧ i = .int .i64 j ∧ j ≤ ks.length ∧ Hid (Blk wr w.heap.size 24 #[.int .i64 n.kind, .string ⟨n.text.toArray⟩, .int .i64 n.cols, .slice A ks.length cap]) ∧ Hid (Fresh w wr)) (fun _ i _ => ks.length - (intOf i).toNat)
  case atStart => exact ⟨0, by simp [Tr.countL], rfl, Nat.zero_le _, Blk.new _ _ _, (Touch.refl _ _).alloc _⟩
  case round =>
   obtain ⟨j, rfl, rfl, hj, HB, HF⟩ := hrel
   by_cases c1 : j < ks.length
   ·have d1 : decide ((j : Int) < (ks.length : Int)) = true := by simp only [decide_eq_true_eq]; omega
    have d1n : decide (j < ks.length) = true := by simp only [decide_eq_true_eq]; omega
    have d1' : (j : Int) < (ks.length : Int) := by omega
    obtain ⟨g, o, sx, rfl, hg, m0, m1, m2, m3, hrk⟩ := HR.out.get j c1
    have htx := HR.out.texts j c1
    have hcm := Tr.count_mem (List.getElem_mem (l := ks) (n := j) c1)
    have HS := hid (Tr.countL_take ks j c1)
    have hct := Tr.countL_le ks j
    have hcs : Tr.countL (ks.take j) + Tr.count ks[j] ≤ Tr.countL ks := by rw [← HS.out]; exact Tr.countL_le ks (j + 1)
    have xx0_wr := Touch.cell HF.out m0 (fun h => h)
    have xx1_wr := Touch.cell HF.out m1 (fun h => h)
    have xx2_wr := Touch.cell HF.out m2 (fun h => h)
    have xx3_wr := Touch.cell HF.out m3 (fun h => h)
    have hgr : g < wr.heap.size := block_lt_of_cell xx0_wr
    have HRK := hid hrk
    clear m0 m1 m2 m3 hrk hg HR
    generalize ks[j] = x at *
    obtain ⟨q0_0_wr, q0_1_wr, q0_2_wr, q0_3_wr, _⟩ := Blk.four HB.out
    have B0_wr : Blk wr w.heap.size 24 #[.int .i64 n.kind, .string (⟨n.text.toArray⟩ : ByteArray), .int .i64 n.cols, .slice (some ⟨g, o, none⟩) ks.length cap] := HB.out
    have hlt_w_wr : w.heap.size < wr.heap.size := Blk.lt HB.out
    go_wp2_with fail
    refine Calls.mono (HIH.out x sx _ (by omega) (by omega) (HRK.out.fresh (frA HF.out)) htx) ?_
    rintro _ w1 ⟨rfl, hfw1⟩
    have HF1 := hid (show Fresh wr w1 from preA hfw1)
    have B0_w1 := Touch.blk hfw1 (blkA B0_wr) (fun h => h)
    clear q0_0_wr q0_1_wr q0_2_wr q0_3_wr B0_wr
    obtain ⟨q0_0_w1, q0_1_w1, q0_2_w1, q0_3_w1, _⟩ := Blk.four B0_w1
    obtain ⟨xx0_w1, xx1_w1, xx2_w1, xx3_w1⟩ := mv4 HF1.out xx0_wr xx1_wr xx2_wr xx3_wr
    clear xx0_wr xx1_wr xx2_wr xx3_wr
    clear hfw1
    go_wp2_with fail
    go_roundw
    case rel => exact ⟨j + 1, by rw [HS.out]; go_num, by go_num, c1, B0_w1, (HF.out.trans HF1.out)⟩
    case measure => simp [intOf]; omega
   ·have d1 : decide ((j : Int) < (ks.length : Int)) = false := by simp only [decide_eq_false_iff_not]; omega
    have d1n : decide (j < ks.length) = false := by simp only [decide_eq_false_iff_not]; omega
    obtain rfl : j = ks.length := by omega
    obtain ⟨q0_0_wr, q0_1_wr, q0_2_wr, q0_3_wr, _⟩ := Blk.four HB.out
    have B0_wr : Blk wr w.heap.size 24 #[.int .i64 n.kind, .string (⟨n.text.toArray⟩ : ByteArray), .int .i64 n.cols, .slice A ks.length cap] := HB.out
    have hlt_w_wr : w.heap.size < wr.heap.size := Blk.lt HB.out
    go_wp2_with fail
    go_ret
    exact ⟨by rw [HN0.out]; first | (have := List.take_length (l := ks); simp_all) | rfl, (frA HF.out)⟩
set_option maxRecDepth 100000 in
set_option maxHeartbeats 2000000 in
theorem depth_any (m : Nat) : ∀ (n : Tr.Nd) (sl : Value) (w : World), Tr.count n ≤ m → m ≤ 1000000 → RepL w n.kids sl → n.text.length ≤ maxLen →
  Calls Tryz.prog 95 #[.agg #[.int .i64 n.kind, .string ⟨n.text.toArray⟩, .int .i64 n.cols, sl]] w fun e w' => e = .returned (.int .i64 (Tr.depth n)) ∧ Fresh w w' := by
 induction m with
 | zero => intro n _ _ h; have := Tr.count_pos n; omega
 | succ m ih =>
  intro n sl w hc hm hr ht
  obtain ⟨A, cap, rfl⟩ := hr.slice
  have hlen := hr.len
  unfold maxLen at hlen ht
  have HIH := hid ih
  have HR := hid hr
  have HN0 := hid (Tr.depth_kids n)
  have hkc : Tr.countL n.kids ≤ m := by have := Tr.count_kids n; omega
  have hkl := Tr.countL_len n.kids
  have hdl := depthL_le n.kids
  clear ih hr
  generalize n.kids = ks at *
  go_enter Tryz.func95, Tryz.ntmps95
  go_wp2_with fail
  go_loopw [3, 4] (fun c i wr => ∃ j : Nat, c = .int .i64 ((Tr.depthL (ks.take j) : Nat) : Int) ∧ i = .int .i64 j ∧ j ≤ ks.length ∧ Hid (Blk wr w.heap.size 24 #[.int .i64 n.kind, .string ⟨n.text.toArray⟩, .int .i64 n.cols, .slice A ks.length cap]) ∧ Hid (Fresh w wr)) (fun _ i _ => ks.length - (intOf i).toNat)
  case atStart => exact ⟨0, by simp [Tr.depthL], rfl, Nat.zero_le _, Blk.new _ _ _, (Touch.refl _ _).alloc _⟩
  case round =>
   obtain ⟨j, rfl, rfl, hj, HB, HF⟩ := hrel
   by_cases c1 : j < ks.length
   ·have d1 : decide ((j : Int) < (ks.length : Int)) = true := by simp only [decide_eq_true_eq]; omega
    have d1n : decide (j < ks.length) = true := by simp only [decide_eq_true_eq]; omega
    have d1' : (j : Int) < (ks.length : Int) := by omega
    obtain ⟨g, o, sx, rfl, hg, m0, m1, m2, m3, hrk⟩ := HR.out.get j c1
    have htx := HR.out.texts j c1
    have hcm := Tr.count_mem (List.getElem_mem (l := ks) (n := j) c1)
    have HS := hid (depthL_take ks j c1)
    have hdj := depthL_take_le ks j
    have hdx := depth_le ks[j]
    have xx0_wr := Touch.cell HF.out m0 (fun h => h)
    have xx1_wr := Touch.cell HF.out m1 (fun h => h)
    have xx2_wr := Touch.cell HF.out m2 (fun h => h)
    have xx3_wr := Touch.cell HF.out m3 (fun h => h)
    have hgr : g < wr.heap.size := block_lt_of_cell xx0_wr
    have HRK := hid hrk
    clear m0 m1 m2 m3 hrk hg HR
    generalize ks[j] = x at *
    obtain ⟨q0_0_wr, q0_1_wr, q0_2_wr, q0_3_wr, _⟩ := Blk.four HB.out
    have B0_wr : Blk wr w.heap.size 24 #[.int .i64 n.kind, .string (⟨n.text.toArray⟩ : ByteArray), .int .i64 n.cols, .slice (some ⟨g, o, none⟩) ks.length cap] := HB.out
    have hlt_w_wr : w.heap.size < wr.heap.size := Blk.lt HB.out
    go_wp2_with fail
    refine Calls.mono (HIH.out x sx _ (by omega) (by omega) (HRK.out.fresh (frA HF.out)) htx) ?_
    rintro _ w1 ⟨rfl, hfw1⟩
    have HF1 := hid (show Fresh wr w1 from preA hfw1)
    have B0_w1 := Touch.blk hfw1 (blkA B0_wr) (fun h => h)
    clear q0_0_wr q0_1_wr q0_2_wr q0_3_wr B0_wr
    obtain ⟨q0_0_w1, q0_1_w1, q0_2_w1, q0_3_w1, _⟩ := Blk.four B0_w1
    obtain ⟨xx0_w1, xx1_w1, xx2_w1, xx3_w1⟩ := mv4 HF1.out xx0_wr xx1_wr xx2_wr xx3_wr
    clear xx0_wr xx1_wr xx2_wr xx3_wr
    clear hfw1
    go_wp2_with fail
    go_roundw
    case rel => exact ⟨j + 1, by rw [HS.out]; go_num, by go_num, c1, B0_w1, (HF.out.trans HF1.out)⟩
    case measure => simp [intOf]; omega
   ·have d1 : decide ((j : Int) < (ks.length : Int)) = false := by simp only [decide_eq_false_iff_not]; omega
    have d1n : decide (j < ks.length) = false := by simp only [decide_eq_false_iff_not]; omega
    obtain rfl : j = ks.length := by omega
    obtain ⟨q0_0_wr, q0_1_wr, q0_2_wr, q0_3_wr, _⟩ := Blk.four HB.out
    have B0_wr : Blk wr w.heap.size 24 #[.int .i64 n.kind, .string (⟨n.text.toArray⟩ : ByteArray), .int .i64 n.cols, .slice A ks.length cap] := HB.out
    have hlt_w_wr : w.heap.size < wr.heap.size := Blk.lt HB.out
    go_wp2_with fail
    go_ret
    exact ⟨by rw [HN0.out]; first | (have := List.take_length (l := ks); simp_all) | rfl, (frA HF.out)⟩
end Go.Proofs.YtdacpbdamliafaaGreat

/- The walk of the reference's Valid. -/
namespace Go.Proofs.YtdacpbdamliafaaGreat
open Go.RowKit
set_option maxRecDepth 100000 in
set_option maxHeartbeats 1000000 in
theorem rValid_any (n : Tr.Nd) (sl : Value) (w : World) (hr : RepL w n.kids sl) (ht : n.text.length ≤ maxLen) (hc : Tr.count n ≤ 1000000) :
  Calls Tryz.prog 61 #[.agg #[.int .i64 n.kind, .string ⟨n.text.toArray⟩, .int .i64 n.cols, sl]] w fun e w' => e = .returned (.bool (Tr.valid n)) ∧ Fresh w w' := by
 have HR := hid hr
 have HV := hid (show Tr.valid n = ((n.kind == 1) && Tr.form n && decide (Tr.count n ≤ 1000) && decide (Tr.depth n ≤ 24)) from rfl)
 have HT := hid ht
 have HC := hid hc
 clear hr ht hc
 go_enter Tryz.func61, Tryz.ntmps61
 cases h1 : (n.kind == (1 : Int)) with
 | false =>
  have h1m : (n.kind != (1 : Int)) = true := by rw [bne, h1]; rfl
  go_wp2_with fail
  go_ret
  exact ⟨ret_bool' _ _ (by rw [HV.out, show (n.kind == 1) = false from by assumption]; simp), (frA (Touch.refl _ _))⟩
 | true =>
  have h1m : (n.kind != (1 : Int)) = false := by rw [bne, h1]; rfl
  go_wp2_with fail
  refine Calls.mono (form_any _ n sl _ (Nat.le_refl _) HC.out (HR.out.fresh (frA (Touch.refl _ _))) HT.out) ?_
  rintro _ w1 ⟨rfl, hfw1⟩
  have HF1 := hid (show Fresh w w1 from preA hfw1)
  have B0_w1 : Blk w1 (w.heap.size) 24 #[.int .i64 n.kind, .string (⟨n.text.toArray⟩ : ByteArray), .int .i64 n.cols, sl] := Touch.blk hfw1 (by first | exact blkN | assumption | exact blkA (by assumption)) (fun h => h)
  obtain ⟨q0_0_w1, q0_1_w1, q0_2_w1, q0_3_w1, _⟩ := Blk.four B0_w1
  clear hfw1
  cases h2 : (Tr.form n) with
  | false =>
   go_wp2_with fail
   go_ret
   exact ⟨ret_bool' _ _ (by rw [HV.out, show (n.kind == 1) = true from by assumption, show (Tr.form n) = false from by assumption]; simp), (frA HF1.out)⟩
  | true =>
   go_wp2_with fail
   refine Calls.mono (count_any _ n sl _ (Nat.le_refl _) HC.out (HR.out.fresh (frA HF1.out)) HT.out) ?_
   rintro _ w2 ⟨rfl, hfw2⟩
   have HF2 := hid (show Fresh w1 w2 from preA hfw2)
   have B0_w2 := Touch.blk hfw2 (blkA B0_w1) (fun h => h)
   clear q0_0_w1 q0_1_w1 q0_2_w1 q0_3_w1 B0_w1
   obtain ⟨q0_0_w2, q0_1_w2, q0_2_w2, q0_3_w2, _⟩ := Blk.four B0_w2
   clear hfw2
   cases h3 : decide ((Tr.count n : Int) ≤ (1000 : Int)) with
   | false =>
    go_wp2_with fail
    go_ret
    exact ⟨ret_bool' _ _ (by rw [HV.out, show (n.kind == 1) = true from by assumption, show (Tr.form n) = true from by assumption, show decide (Tr.count n ≤ 1000) = false from by have := of_decide_eq_false (by assumption : decide ((Tr.count n : Int) ≤ (1000 : Int)) = false); simp only [decide_eq_false_iff_not]; omega]; simp), (frA (HF1.out.trans HF2.out))⟩
   | true =>
    go_wp2_with fail
    refine Calls.mono (depth_any _ n sl _ (Nat.le_refl _) HC.out (HR.out.fresh (frA (HF1.out.trans HF2.out))) HT.out) ?_
    rintro _ w3 ⟨rfl, hfw3⟩
    have HF3 := hid (show Fresh w2 w3 from preA hfw3)
    have B0_w3 := Touch.blk hfw3 (blkA B0_w2) (fun h => h)
    clear q0_0_w2 q0_1_w2 q0_2_w2 q0_3_w2 B0_w2
    obtain ⟨q0_0_w3, q0_1_w3, q0_2_w3, q0_3_w3, _⟩ := Blk.four B0_w3
    clear hfw3
    cases h4 : decide ((Tr.depth n : Int) ≤ (24 : Int)) with
    | false =>
     go_wp2_with fail
     go_ret
     exact ⟨ret_bool' _ _ (by rw [HV.out, show (n.kind == 1) = true from by assumption, show (Tr.form n) = true from by assumption, show decide (Tr.count n ≤ 1000) = true from by have := of_decide_eq_true (by assumption : decide ((Tr.count n : Int) ≤ (1000 : Int)) = true); simp only [decide_eq_true_eq]; omega, show decide (Tr.depth n ≤ 24) = false from by have := of_decide_eq_false (by assumption : decide ((Tr.depth n : Int) ≤ (24 : Int)) = false); simp only [decide_eq_false_iff_not]; omega]; rfl), (frA (HF1.out.trans (HF2.out.trans HF3.out)))⟩
    | true =>
     go_wp2_with fail
     go_ret
     exact ⟨ret_bool' _ _ (by rw [HV.out, show (n.kind == 1) = true from by assumption, show (Tr.form n) = true from by assumption, show decide (Tr.count n ≤ 1000) = true from by have := of_decide_eq_true (by assumption : decide ((Tr.count n : Int) ≤ (1000 : Int)) = true); simp only [decide_eq_true_eq]; omega, show decide (Tr.depth n ≤ 24) = true from by have := of_decide_eq_true (by assumption : decide ((Tr.depth n : Int) ≤ (24 : Int)) = true); simp only [decide_eq_true_eq]; omega]; rfl), (frA (HF1.out.trans (HF2.out.trans HF3.out)))⟩
end Go.Proofs.YtdacpbdamliafaaGreat

/- The reference printer: Print and Tokens. -/
namespace Go.Proofs.YtdacpbdamliafaaGreat
open Go.RowKit
open Tr (Nd rowT)
def pz (t : Lx.Tok) : Lx.PTok := ⟨t.kind, t.text, 0, 0⟩
theorem pz_tok (l : List Lx.Tok) : (l.map pz).map Lx.tok = l := by
 induction l with
 | nil => rfl
 | cons x l ih => rw [List.map_cons, List.map_cons, ih]; rfl
theorem pz_cells (l : List Lx.Tok) : l.flatMap tokC = (l.map pz).flatMap ptokCells := by
 induction l with
 | nil => rfl
 | cons x l ih => rw [List.flatMap_cons, List.map_cons, List.flatMap_cons, ih]; rfl
theorem pz_row {W : World} {B : Nat} {v : Value} {l : List Lx.Tok} (h : W.ownsRow B 51 4 v l.length (l.flatMap tokC)) : TokRow W v (l.map pz) := by
 refine owns_row (B := B) (e := 51) ?_
 rw [List.length_map, ← pz_cells]
 exact h
theorem pz_text (n : Nd) (h : Tr.valid n = true) : ∀ t ∈ (rowT n.kids).map pz, t.text.length ≤ 1000 := by
 intro t ht
 obtain ⟨x, hx, rfl⟩ := List.mem_map.1 ht
 exact Nat.le_trans (ok_text x (Tr.row_ok n (Tr.valid_row n h) x hx)) (by decide)
theorem pz_len (n : Nd) (h : Tr.valid n = true) (hc : Tr.count n ≤ 800) : ((rowT n.kids).map pz).length ≤ 4000 := by
 rw [List.length_map]
 have := row_len n (Tr.valid_row n h)
 omega
set_option maxRecDepth 100000 in
set_option maxHeartbeats 1000000 in
theorem rprint_any (n : Nd) (sl : Value) (w : World) (hr : RepL w n.kids sl) (ht : n.text.length ≤ maxLen) (hc : Tr.count n ≤ 800) :
  Calls Tryz.prog 48 #[nv n sl] w fun e w' => e = .returned (.tuple #[.string ⟨(printS n).toArray⟩, .int .i64 (printE n)]) ∧ Fresh w w' := by
 have HV := hid (fun (w : World) (hr : RepL w n.kids sl) => rValid_any n sl w hr ht (by omega))
 have HR := hid hr
 have HC := hid hc
 clear hr hc
 cases hv : Tr.valid n with
 | false =>
  have HS := hid (show printS n = [] from by unfold printS; rw [hv]; rfl)
  have HE := hid (show printE n = 1 from by unfold printE; rw [hv]; rfl)
  rw [HS.out, HE.out]
  go_enter Tryz.func48, Tryz.ntmps48
  go_wp2_with fail
  refine (HV.out _ (HR.out.fresh ((Touch.refl _ _).alloc _))).mono ?_
  rintro _ w1 ⟨rfl, hf⟩
  have HF := hid (Touch.pre hf)
  clear hf
  go_wp2_with fail
  go_ret2
  exact ⟨rfl, HF.out⟩
 | true =>
  have HS := hid (show printS n = Tr.wtext (((rowT n.kids).map pz).map Lx.tok) from by unfold printS; rw [hv, pz_tok]; rfl)
  have HE := hid (show printE n = 0 from by unfold printE; rw [hv]; rfl)
  have HROW := hid (rowR n (Tr.valid_row n hv) (by have := HC.out; omega))
  have HX := hid (pz_text n hv)
  have HL := hid (pz_len n hv HC.out)
  rw [HS.out, HE.out]
  go_enter Tryz.func48, Tryz.ntmps48
  go_wp2_with fail
  refine (HV.out _ (HR.out.fresh ((Touch.refl _ _).alloc _))).mono ?_
  rintro _ w1 ⟨rfl, hf⟩
  have HF := hid (Touch.pre hf)
  have hb1 := hf.blk (Blk.new _ _ _) (fun h => h)
  obtain ⟨q0, q1, q2, q3, _, _, _, _, hg⟩ := Blk.four hb1
  clear hf hb1
  go_wp2_with fail
  refine (HROW.out _ _ (HR.out.fresh HF.out)).mono ?_
  rintro _ w2 ⟨v, rfl, ho, hf⟩
  have HF2 := hid (HF.out.trans hf)
  have HT := hid (pz_row ho)
  clear hf ho q0 q1 q2 q3
  go_wp2_with fail
  refine (rwrite_any _ v _ HT.out HL.out HX.out).mono ?_
  rintro _ w3 ⟨rfl, hf⟩
  have HF3 := hid (HF2.out.trans hf)
  clear hf
  go_wp2_with fail
  go_ret2
  exact ⟨by rw [List.map_map]; rfl, HF3.out⟩
def RTokensOf (n : Nd) (w : World) (e : Ending) (w' : World) : Prop := ∃ v, e = .returned (.tuple #[v, .int .i64 (printE n)]) ∧ TokRow w' v (printT n) ∧ Fresh w w'
set_option maxRecDepth 100000 in
set_option maxHeartbeats 1000000 in
theorem rtokens_any (n : Nd) (sl : Value) (w : World) (hr : RepL w n.kids sl) (ht : n.text.length ≤ maxLen) (hc : Tr.count n ≤ 800) :
  Calls Tryz.prog 70 #[nv n sl] w (RTokensOf n w) := by
 have HV := hid (fun (w : World) (hr : RepL w n.kids sl) => rValid_any n sl w hr ht (by omega))
 have HR := hid hr
 have HC := hid hc
 clear hr hc
 cases hv : Tr.valid n with
 | false =>
  have HS := hid (show printT n = [] from by unfold printT; rw [hv]; rfl)
  have HE := hid (show printE n = 1 from by unfold printE; rw [hv]; rfl)
  go_enter Tryz.func70, Tryz.ntmps70
  go_wp2_with fail
  refine (HV.out _ (HR.out.fresh ((Touch.refl _ _).alloc _))).mono ?_
  rintro _ w1 ⟨rfl, hf⟩
  have HF := hid (Touch.pre hf)
  clear hf
  go_wp2_with fail
  go_ret2
  exact ⟨.slice none 0 0, by rw [HE.out]; rfl, by rw [HS.out]; exact TokRow.nil _, HF.out⟩
 | true =>
  have HS := hid (show printT n = (aT ((rowT n.kids).map pz) ((rowT n.kids).map pz).length).1 from by unfold printT; rw [hv, aT_all, pz_tok]; rfl)
  have HE := hid (show printE n = 0 from by unfold printE; rw [hv]; rfl)
  have HROW := hid (rowR n (Tr.valid_row n hv) (by have := HC.out; omega))
  have HX := hid (pz_text n hv)
  have HL := hid (pz_len n hv HC.out)
  go_enter Tryz.func70, Tryz.ntmps70
  go_wp2_with fail
  refine (HV.out _ (HR.out.fresh ((Touch.refl _ _).alloc _))).mono ?_
  rintro _ w1 ⟨rfl, hf⟩
  have HF := hid (Touch.pre hf)
  have hb1 := hf.blk (Blk.new _ _ _) (fun h => h)
  obtain ⟨q0, q1, q2, q3, _, _, _, _, hg⟩ := Blk.four hb1
  clear hf hb1
  go_wp2_with fail
  refine (HROW.out _ _ (HR.out.fresh HF.out)).mono ?_
  rintro _ w2 ⟨v, rfl, ho, hf⟩
  have HF2 := hid (HF.out.trans hf)
  have HT := hid (pz_row ho)
  clear hf ho q0 q1 q2 q3
  go_wp2_with fail
  refine (rplace_any _ v _ HT.out HL.out HX.out).mono ?_
  rintro _ w3 ⟨v3, rfl, ho3, hf⟩
  have HF3 := hid (HF2.out.trans hf)
  have HT3 := hid (owns_row ho3)
  clear hf ho3
  go_wp2_with fail
  go_ret2
  exact ⟨v3, by rw [HE.out]; rfl, by rw [HS.out]; exact HT3.out, HF3.out⟩
end Go.Proofs.YtdacpbdamliafaaGreat

/- span.At. -/
namespace Go.Proofs.YtdacpbdamliafaaGreat
open Go.RowKit
open Tr (Nd Clo runRow rowT offC atG posRow)
theorem cmpI_up : ∀ p q : List Nat, cmpI (up p) (up q) = Tr.cmp p q
 | [], [] => rfl
 | [], _ :: _ => rfl
 | _ :: _, [] => rfl
 | a :: p, b :: q => by
  simp only [List.map_cons, cmpI, Tr.cmp]
  by_cases h1 : a < b
  ·rw [if_pos (by omega), if_pos h1]
  ·rw [if_neg (by omega), if_neg h1]
   by_cases h2 : b < a
   ·rw [if_pos (by omega), if_pos h2]
   ·rw [if_neg (by omega), if_neg h2]
    exact cmpI_up p q
structure AtSt (W0 : World) (B mb bb ob : Nat) (k : Int) (g tg : Nat) (s : List Nat × Int) (S : Nat → Prop) (w : World) : Prop where
 own : ∀ b, S b ↔ b = mb ∨ b = bb
 most : Blk w mb 3 #[.int .i64 s.2]
 best : ∃ bv, Blk w bb 25 #[bv] ∧ PathIn g S w bv s.1 ∧ s.1.length ≤ 1000
 offc : w.cell? ⟨ob, 0, none⟩ = some (.int .i64 k)
 lo : W0.heap.size ≤ mb ∧ W0.heap.size ≤ bb ∧ mb < B ∧ bb < B ∧ ob < B ∧ mb ≠ bb ∧ ob ≠ mb ∧ ob ≠ bb ∧ W0.heap.size ≤ B
 hg : B ≤ g
 htg : B ≤ tg
 glt : g < w.heap.size
theorem AtSt.touch {W0 : World} {B mb bb ob : Nat} {k : Int} {g tg : Nat} {s : List Nat × Int} {S : Nat → Prop} {w w' : World} (h : AtSt W0 B mb bb ob k g tg s S w) (ht : Touch (fun b => b = g) w w') : AtSt W0 B mb bb ob k g tg s S w' := by
 obtain ⟨h1, h2, h3, h4, h5, h6, h7⟩ := h.lo
 have hg := h.hg
 obtain ⟨bv, hb, hp, hl⟩ := h.best
 exact ⟨h.own, ht.blk h.most fun e => by have : mb = g := e; omega, ⟨bv, ht.blk hb fun e => by have : bb = g := e; omega, hp.mv ⟨ht.mono fun _ => .inr, fun _ h => .inl h⟩, hl⟩, ht.cell h.offc fun e => by have : ob = g := e; omega, h.lo, h.hg, h.htg, Nat.lt_of_lt_of_le h.glt ht.size⟩
theorem AtSt.put {W0 : World} {B mb bb ob : Nat} {k : Int} {g tg : Nat} {s : List Nat × Int} {S : Nat → Prop} {w w1 : World} (h : AtSt W0 B mb bb ob k g tg s S w) (hf : Fresh w w1) {v : Value} {p : List Nat} (hl : p.length ≤ 1000) (hr : w1.ownsRow w.heap.size 3 1 v (up p).length (intVs (up p))) (pl : Int) :
  AtSt W0 B mb bb ob k g tg (p, pl) S ((w1.setCell ⟨bb, 0, none⟩ v).setCell ⟨mb, 0, none⟩ (.int .i64 pl)) ∧ Mc S S w ((w1.setCell ⟨bb, 0, none⟩ v).setCell ⟨mb, 0, none⟩ (.int .i64 pl)) := by
 obtain ⟨l1, l2, l3, l4, l5, l6, l7, l8, l9⟩ := h.lo
 have hS : ∀ b, S b → b < w.heap.size := fun b hb => by
  have h1 := h.most.lt
  obtain ⟨bv, h2, _⟩ := h.best
  have h2 := h2.lt
  rcases (h.own b).1 hb with rfl | rfl <;> assumption
 have ht : Touch S w1 ((w1.setCell ⟨bb, 0, none⟩ v).setCell ⟨mb, 0, none⟩ (.int .i64 pl)) := ((Touch.refl S w1).setCell (p := ⟨bb, 0, none⟩) (.inl ((h.own bb).2 (.inr rfl))) _).setCell (p := ⟨mb, 0, none⟩) (.inl ((h.own mb).2 (.inl rfl))) _
 have hp := PathIn.new (g := g) (S := S) (p := p) hS h.glt hr
 obtain ⟨bv, hb, _, _⟩ := h.best
 have hm1 : Mv g S S w1 ((w1.setCell ⟨bb, 0, none⟩ v).setCell ⟨mb, 0, none⟩ (.int .i64 pl)) := ⟨ht.mono fun _ => .inl, fun _ h => .inl h⟩
 refine ⟨⟨h.own, ((hf.blk h.most (fun h => h)).far (p := ⟨bb, 0, none⟩) l6 _).put 0 _, ⟨v, ((hf.blk hb (fun h => h)).put 0 _).far (p := ⟨mb, 0, none⟩) (Ne.symm l6) _, hp.mv hm1, hl⟩, ht.cell (hf.cell h.offc (fun h => h)) fun e => ((h.own _).1 e).elim l7 l8, h.lo, h.hg, h.htg, Nat.lt_of_lt_of_le h.glt (Nat.le_trans hf.size ht.size)⟩, ⟨(hf.mono fun _ h => h.elim).trans ht, fun _ h => .inl h⟩⟩
set_option maxRecDepth 100000 in
set_option maxHeartbeats 2000000 in
theorem at1_any {W0 : World} {B mb bb ob : Nat} {k : Int} {g tg : Nat} {s : List Nat × Int} {S : Nat → Prop} {w : World} (h : AtSt W0 B mb bb ob k g tg s S w) {p : List Nat} {v : Value} (pl : Nat) (hp : PathIn g S w v p) (hpl : p.length ≤ 1000) :
  Calls Tryz.prog 45 (#[v, .int .i64 (pl : Int)] ++ #[.pointer (some ⟨ob, 0, none⟩), .pointer (some ⟨mb, 0, none⟩), .pointer (some ⟨bb, 0, none⟩)]) w
   fun e w' => e = .returned (.tuple #[]) ∧ ∃ S', AtSt W0 B mb bb ob k g tg (atG k s p pl) S' w' ∧ Mc S S' w w' := by
 have e : (#[v, .int .i64 (pl : Int)] ++ #[.pointer (some ⟨ob, 0, none⟩), .pointer (some ⟨mb, 0, none⟩), .pointer (some ⟨bb, 0, none⟩)] : Array Value) = #[v, .int .i64 (pl : Int), .pointer (some ⟨ob, 0, none⟩), .pointer (some ⟨mb, 0, none⟩), .pointer (some ⟨bb, 0, none⟩)] := by simp
 rw [e]
 clear e
 obtain ⟨best, most⟩ := s
 have HS := hid h
 obtain ⟨bv, hbb, hbp, hbl⟩ := h.best
 obtain ⟨Ab, capb, rfl⟩ := hbp.slice
 have q0 : w.cell? ⟨mb, 0, none⟩ = some (.int .i64 most) := h.most.cell 0
 have z0 : w.frozen? ⟨mb, 0, none⟩ = false := h.most.frozen 0
 have q1 : w.cell? ⟨bb, 0, none⟩ = some (.slice Ab best.length capb) := hbb.cell 0
 have z1 : w.frozen? ⟨bb, 0, none⟩ = false := hbb.frozen 0
 have q2 := h.offc
 obtain ⟨_, _, _, _, _, hne, _⟩ := h.lo
 have HP := hid hp
 have HPL := hid hpl
 have HBP := hid hbp
 have HBL := hid hbl
 obtain ⟨Ap, capp, rfl⟩ := hp.slice
 have hput : ∀ (W1 : World) (v' : Value), Fresh w W1 → W1.ownsRow w.heap.size 3 1 v' (up p).length (intVs (up p)) → AtSt W0 B mb bb ob k g tg (p, (pl : Int)) S ((W1.setCell ⟨bb, 0, none⟩ v').setCell ⟨mb, 0, none⟩ (.int .i64 (pl : Int))) ∧ Mc S S w ((W1.setCell ⟨bb, 0, none⟩ v').setCell ⟨mb, 0, none⟩ (.int .i64 (pl : Int))) := fun W1 v' hf hr => h.put hf hpl hr (pl : Int)
 have HPUT := hid hput
 have h1 := h.most.lt
 have h2 := hbb.lt
 clear h hp hpl hbb hbp hbl hput
 by_cases c1 : k < (pl : Int)
 ·have b1 : decide (k < (pl : Int)) = true := by simp [c1]
  have HR := hid (show atG k (best, most) p pl = (best, most) from by unfold atG; rw [if_pos (.inl c1)])
  go_enter Tryz.func45, Tryz.ntmps45
  go_wp2_with fail
  first | go_end0 | refine bodyPost_ret (v := .tuple #[]) (results_none rfl _ _ _) rfl ?_
  exact ⟨rfl, S, by rw [HR.out]; exact HS.out, Mc.refl _ _⟩
 ·have b1 : decide (k < (pl : Int)) = false := by simp; omega
  by_cases c2 : (pl : Int) < most
  ·have b2 : decide ((pl : Int) < most) = true := by simp [c2]
   have HR := hid (show atG k (best, most) p pl = (best, most) from by unfold atG; rw [if_pos (.inr c2)])
   go_enter Tryz.func45, Tryz.ntmps45
   go_wp2_with fail
   first | go_end0 | refine bodyPost_ret (v := .tuple #[]) (results_none rfl _ _ _) rfl ?_
   exact ⟨rfl, S, by rw [HR.out]; exact HS.out, Mc.refl _ _⟩
  ·have b2 : decide ((pl : Int) < most) = false := by simp; omega
   by_cases c3 : most < (pl : Int)
   ·have b3 : decide (most < (pl : Int)) = true := by simp [c3]
    have HR := hid (show atG k (best, most) p pl = (p, (pl : Int)) from by unfold atG; rw [if_neg (by simp; omega), if_pos (.inl c3)])
    go_enter Tryz.func45, Tryz.ntmps45
    go_wp2_with fail
    refine (ints_any (up p) _ _ HP.out.ints (by have := HPL.out; simp only [List.length_map]; omega)).mono ?_
    rintro _ w1 ⟨v', rfl, ho, hf⟩
    have HX := hid (HPUT.out w1 v' hf ho)
    have q0' := hf.cell q0 (fun h => h)
    have q1' := hf.cell q1 (fun h => h)
    have z0' := (hf.frozen (p := ⟨mb, 0, none⟩) h1 (fun h => h)).trans z0
    have z1' := (hf.frozen (p := ⟨bb, 0, none⟩) h2 (fun h => h)).trans z1
    obtain ⟨Av, capv, rfl⟩ : ∃ A c, v' = .slice A (up p).length c := (Ints.own ho).slice
    clear q0 q1 q2 z0 z1 ho hf
    go_wp2_with fail
    first | go_end0 | refine bodyPost_ret (v := .tuple #[]) (results_none rfl _ _ _) rfl ?_
    exact ⟨rfl, S, by rw [HR.out]; have := HX.out.1; rw [List.length_map] at this; exact this, by have := HX.out.2; rw [List.length_map] at this; exact this⟩
   ·have b3 : decide (most < (pl : Int)) = false := by simp; omega
    by_cases c4 : Tr.cmp p best < 0
    ·have HR := hid (show atG k (best, most) p pl = (p, (pl : Int)) from by unfold atG; rw [if_neg (by simp; omega), if_pos (.inr c4)])
     have b4 : decide (Tr.cmp p best < 0) = true := by simp [c4]
     go_enter Tryz.func45, Tryz.ntmps45
     go_wp2_with fail
     refine (pcompare_ints (up p) (up best) _ _ _ HP.out.ints HBP.out.ints (by have := HPL.out; simp only [List.length_map]; unfold maxLen; omega) (by have := HBL.out; simp only [List.length_map]; unfold maxLen; omega)).mono ?_
     rw [cmpI_up]
     rintro _ w0 ⟨rfl, hf0⟩
     have HF0 := hid hf0
     have HP0 := hid (HP.out.mv (Mv.fresh hf0))
     have q0' := hf0.cell q0 (fun h => h)
     have q1' := hf0.cell q1 (fun h => h)
     have z0' := (hf0.frozen (p := ⟨mb, 0, none⟩) h1 (fun h => h)).trans z0
     have z1' := (hf0.frozen (p := ⟨bb, 0, none⟩) h2 (fun h => h)).trans z1
     have h1' := Nat.lt_of_lt_of_le h1 hf0.size
     have h2' := Nat.lt_of_lt_of_le h2 hf0.size
     clear q0 q1 q2 z0 z1 hf0
     go_wp2_with fail
     refine (ints_any (up p) _ _ HP0.out.ints (by have := HPL.out; simp only [List.length_map]; omega)).mono ?_
     rintro _ w1 ⟨v', rfl, ho, hf⟩
     have HX := hid (HPUT.out w1 v' (HF0.out.trans hf) (ownsRow_low ho HF0.out.size))
     have q0'' := hf.cell q0' (fun h => h)
     have q1'' := hf.cell q1' (fun h => h)
     have z0'' := (hf.frozen (p := ⟨mb, 0, none⟩) h1' (fun h => h)).trans z0'
     have z1'' := (hf.frozen (p := ⟨bb, 0, none⟩) h2' (fun h => h)).trans z1'
     obtain ⟨Av, capv, rfl⟩ : ∃ A c, v' = .slice A (up p).length c := (Ints.own ho).slice
     clear q0' q1' z0' z1' ho hf
     go_wp2_with fail
     first | go_end0 | refine bodyPost_ret (v := .tuple #[]) (results_none rfl _ _ _) rfl ?_
     exact ⟨rfl, S, by rw [HR.out]; have := HX.out.1; rw [List.length_map] at this; exact this, by have := HX.out.2; rw [List.length_map] at this; exact this⟩
    ·have HR := hid (show atG k (best, most) p pl = (best, most) from by unfold atG; rw [if_neg (by simp; omega), if_neg (by simp; omega)])
     have b4 : decide (Tr.cmp p best < 0) = false := by simp; omega
     go_enter Tryz.func45, Tryz.ntmps45
     go_wp2_with fail
     refine (pcompare_ints (up p) (up best) _ _ _ HP.out.ints HBP.out.ints (by have := HPL.out; simp only [List.length_map]; unfold maxLen; omega) (by have := HBL.out; simp only [List.length_map]; unfold maxLen; omega)).mono ?_
     rw [cmpI_up]
     rintro _ w0 ⟨rfl, hf0⟩
     have HF0 := hid hf0
     clear hf0
     go_wp2_with fail
     first | go_end0 | refine bodyPost_ret (v := .tuple #[]) (results_none rfl _ _ _) rfl ?_
     exact ⟨rfl, S, by rw [HR.out]; exact HS.out.touch (HF0.out.mono fun _ h => h.elim), ⟨HF0.out.mono fun _ h => h.elim, fun _ h => .inl h⟩⟩
def atCls (W0 : World) (B mb bb ob : Nat) (k : Int) : Cls (List Nat × Int) Unit :=
 ⟨offC (atG k), 42, #[], 45, #[.pointer (some ⟨ob, 0, none⟩), .pointer (some ⟨mb, 0, none⟩), .pointer (some ⟨bb, 0, none⟩)], AtSt W0 B mb bb ob k, fun _ _ _ _ _ d cd => d = 69 ∧ cd = #[], fun _ => True, fun _ _ => True⟩
set_option maxRecDepth 100000 in
theorem atCls_good (W0 : World) (B mb bb ob : Nat) (k : Int) (n : Nd) (hc : Tr.count n ≤ 800) (g tg : Nat) (tv : Value) (hg : W0.heap.size ≤ g) : ((atCls W0 B mb bb ob k).wk W0 g tg tv (printT n)).Good where
 len := printT_len_le n hc
 place := printT_place n hc
 far := hg
 lt := fun s S w b h hb => by
  have h' : AtSt W0 B mb bb ob k g tg s S w := h
  obtain ⟨l1, l2, l3, l4, _⟩ := h'.lo
  have h1 := h'.most.lt
  obtain ⟨bv, h2, _⟩ := h'.best
  have h2 := h2.lt
  have h3 := h'.hg
  have h4 := h'.htg
  show W0.heap.size ≤ b ∧ b < w.heap.size ∧ b ≠ g ∧ b ≠ tg
  rcases (h'.own b).1 hb with rfl | rfl <;> omega
 stmv := fun s S w w' h ht => by
  have h' : AtSt W0 B mb bb ob k g tg s S w := h
  exact h'.touch ht
 dnmv := fun q S S' w w' d cd h _ => h
 off := fun s S w p v pl h hp hpl _ _ => at1_any h pl hp hpl
 item := fun s S w p v pl h hp hpl _ _ => (noItem_any v pl w).mono fun e w' ⟨he, hw⟩ => by
  subst hw
  exact ⟨_, _, S, he, h, Mc.refl _ _, rfl, rfl⟩
 done := fun s S w q d cd pl h hd _ _ _ => by
  obtain ⟨rfl, rfl⟩ := hd
  exact (noItem1_any pl w).mono fun e w' ⟨he, hw⟩ => by subst hw; exact ⟨he, S, h, Mc.refl _ _⟩
 kp0 := fun _ _ _ => trivial
 kpo := fun _ _ _ _ _ => trivial
 kpi := fun _ _ _ _ _ => trivial
 kpd := fun _ _ _ _ _ => trivial
 limo := fun _ _ _ _ => trivial
 limi := fun _ _ _ _ => trivial
 limd := fun _ _ _ _ => trivial
 callo := fun _ _ => by kernel_rfl
 calli := fun _ _ => by kernel_rfl
 calld := fun q S w d cd hd => by
  obtain ⟨rfl, rfl⟩ := hd
  exact fun _ _ => by kernel_rfl
def atP (n : Nd) (k : Int) : List Nat := if Tr.valid n = true ∧ 0 ≤ k ∧ k ≤ (printS n).length then ((posRow (printT n) n.kids [] 0 0).foldl (fun s x => atG k s x.1 x.2) ([], -1)).1 else []
def atE (n : Nd) (k : Int) : Int := if Tr.valid n = true then (if 0 ≤ k ∧ k ≤ (printS n).length then 0 else 2) else 1
def AtOf (n : Nd) (k : Int) (w : World) (e : Ending) (w' : World) : Prop := ∃ v, e = .returned (.tuple #[v, .int .i64 (atE n k)]) ∧ Ints w' v (up (atP n k)) ∧ Fresh w w'
theorem printS_le (n : Nd) (hc : Tr.count n ≤ 800) : (printS n).length ≤ 1000000 := by
 unfold printS
 split
 ·rename_i h
  have hf := (row_fits n (Tr.valid_row n h) hc).2
  rw [adds_wtext] at hf
  exact hf
 ·simp
set_option maxRecDepth 100000 in
set_option maxHeartbeats 2000000 in
theorem at_any (n : Nd) (sl : Value) (k : Int) (w : World) (hsl : RepL w n.kids sl) (ht : n.text.length ≤ maxLen) (hc : Tr.count n ≤ 800) :
  Calls Tryz.prog 16 #[nv n sl, .int .i64 k] w (AtOf n k w) := by
 obtain ⟨A, cap, rfl⟩ := hsl.slice
 have HSL := hid hsl
 have HC := hid hc
 have HPR := hid (fun (w : World) (hr : RepL w n.kids (.slice A n.kids.length cap)) => print_any n _ w hr ht hc)
 have HPL := hid (printS_le n hc)
 have hmf : ∀ (fn : Fn) (first cap : Array Value) (w : World), (Instr.makeFunc fn first cap).run Tryz.prog w = .ok (.func fn first cap) w := fun _ _ _ _ => rfl
 clear hsl hc
 cases hv : Tr.valid n with
 | false =>
  have HE := hid (show printE n = 1 from by unfold printE; rw [hv]; rfl)
  have HA := hid (show atE n k = 1 ∧ atP n k = [] from by unfold atE atP; rw [hv]; simp)
  clear hv
  go_enter Tryz.func16, Tryz.ntmps16
  go_wp2_with fail
  refine (HPR.out _ (HSL.out.fresh (((Touch.refl _ _).alloc _).alloc _))).mono ?_
  rintro _ w1 ⟨rfl, hf⟩
  have HF := hid (show Fresh w w1 from Touch.pre (Touch.pre hf))
  clear hf
  rw [HE.out]
  go_wp2_with fail
  go_ret2
  exact ⟨.slice none 0 0, by rw [HA.out.1]; rfl, by rw [HA.out.2]; exact Ints.nil _ _ _, HF.out⟩
 | true =>
  have HV := hid hv
  have HE := hid (show printE n = 0 from by unfold printE; rw [hv]; rfl)
  clear hv
  have hsz : (⟨(printS n).toArray⟩ : ByteArray).size = (printS n).length := by simp [ByteArray.size]
  by_cases c1 : k < 0
  ·have b1 : decide (k < 0) = true := by simp [c1]
   have HA := hid (show atE n k = 2 ∧ atP n k = [] from by unfold atE atP; rw [if_pos HV.out, if_neg (by omega), if_neg (by omega)]; exact ⟨rfl, rfl⟩)
   go_enter Tryz.func16, Tryz.ntmps16
   go_wp2_with fail
   refine (HPR.out _ (HSL.out.fresh (((Touch.refl _ _).alloc _).alloc _))).mono ?_
   rintro _ w1 ⟨rfl, hf⟩
   have HF := hid (show Fresh w w1 from Touch.pre (Touch.pre hf))
   have q1 : w1.cell? ⟨w.heap.size + 1, 0, none⟩ = some (.int .i64 k) := (hf.blk (Blk.new2 w _ _ _) (fun h => h)).cell 0
   clear hf
   rw [HE.out]
   go_wp2_with fail
   go_ret2
   exact ⟨.slice none 0 0, by rw [HA.out.1]; rfl, by rw [HA.out.2]; exact Ints.nil _ _ _, HF.out⟩
  ·have b1 : decide (k < 0) = false := by simp; omega
   by_cases c2 : ((printS n).length : Int) < k
   ·have b2 : decide (((printS n).length : Int) < k) = true := by simp [c2]
    have HA := hid (show atE n k = 2 ∧ atP n k = [] from by unfold atE atP; rw [if_pos HV.out, if_neg (by omega), if_neg (by omega)]; exact ⟨rfl, rfl⟩)
    go_enter Tryz.func16, Tryz.ntmps16
    go_wp2_with fail
    refine (HPR.out _ (HSL.out.fresh (((Touch.refl _ _).alloc _).alloc _))).mono ?_
    rintro _ w1 ⟨rfl, hf⟩
    have HF := hid (show Fresh w w1 from Touch.pre (Touch.pre hf))
    have q1 : w1.cell? ⟨w.heap.size + 1, 0, none⟩ = some (.int .i64 k) := (hf.blk (Blk.new2 w _ _ _) (fun h => h)).cell 0
    clear hf
    rw [HE.out]
    go_wp2_with fail
    go_ret2
    exact ⟨.slice none 0 0, by rw [HA.out.1]; rfl, by rw [HA.out.2]; exact Ints.nil _ _ _, HF.out⟩
   ·have b2 : decide (((printS n).length : Int) < k) = false := by simp; omega
    have HA := hid (show atE n k = 0 ∧ atP n k = ((posRow (printT n) n.kids [] 0 0).foldl (fun s x => atG k s x.1 x.2) ([], -1)).1 from by unfold atE atP; rw [if_pos HV.out, if_pos (by omega), if_pos ⟨HV.out, by omega⟩]; exact ⟨rfl, rfl⟩)
    go_enter Tryz.func16, Tryz.ntmps16
    go_wp2_with fail
    refine (HPR.out _ (HSL.out.fresh (((Touch.refl _ _).alloc _).alloc _))).mono ?_
    rintro _ w1 ⟨rfl, hf⟩
    have HF := hid (show Fresh w w1 from Touch.pre (Touch.pre hf))
    have q1 : w1.cell? ⟨w.heap.size + 1, 0, none⟩ = some (.int .i64 k) := (hf.blk (Blk.new2 w _ _ _) (fun h => h)).cell 0
    obtain ⟨p0, p1, p2, p3, _, _, _, _, hp4⟩ := Blk.four (hf.blk ((Blk.new w _ _).alloc _) (fun h => h))
    have hg1 : w.heap.size + 1 < w1.heap.size := (hf.blk (Blk.new2 w _ _ _) (fun h => h)).lt
    clear hf
    rw [HE.out]
    go_wp2_with fail
    have hf2 : Fresh w1 ((w1.alloc (.cells #[.slice none 0 0] 25)).alloc (.cells #[.int .i64 (-1)] 3)) := ((Touch.refl _ _).alloc _).alloc _
    have hbm : Blk ((w1.alloc (.cells #[.slice none 0 0] 25)).alloc (.cells #[.int .i64 (-1)] 3)) (w1.heap.size + 1) 3 #[.int .i64 (-1)] := Blk.new2 _ _ _ _
    have hbb : Blk ((w1.alloc (.cells #[.slice none 0 0] 25)).alloc (.cells #[.int .i64 (-1)] 3)) w1.heap.size 25 #[.slice none 0 0] := (Blk.new _ _ _).alloc _
    generalize ((w1.alloc (.cells #[.slice none 0 0] 25)).alloc (.cells #[.int .i64 (-1)] 3)) = W2 at hf2 hbm hbb ⊢
    have HF2 := hid (HF.out.trans hf2)
    have q2 := hf2.cell q1 (fun h => h)
    have HOS := hid (fun (g tg : Nat) (w' : World) (h1 : W2.heap.size ≤ g) (h2 : W2.heap.size ≤ tg) (h3 : g < w'.heap.size) (hf : Fresh W2 w') => (show AtSt w W2.heap.size (w1.heap.size + 1) w1.heap.size (w.heap.size + 1) k g tg ([], -1) (fun b => b = w1.heap.size + 1 ∨ b = w1.heap.size) w' from
     ⟨fun b => Iff.rfl, hf.blk hbm (fun h => h), ⟨_, hf.blk hbb (fun h => h), PathIn.nil _ _ _, by simp⟩, hf.cell q2 (fun h => h), by have := hbm.lt; have := HF.out.size; refine ⟨?_, ?_, ?_, ?_, ?_, ?_, ?_, ?_, ?_⟩ <;> omega, h1, h2, h3⟩))
    clear hf2 hbm hbb
    refine (walk_ok (atCls w W2.heap.size (w1.heap.size + 1) w1.heap.size (w.heap.size + 1) k) w n _ W2 ([], -1) _ HV.out HC.out ht ((Low.fresh (Touch.refl _ _) HF2.out)) HSL.out (fun g tg tv hg => atCls_good _ _ _ _ _ _ n HC.out g tg tv hg) (fun g tg w' h1 h2 h3 _ hf => HOS.out g tg w' h1 h2 h3 hf) trivial).mono ?_
    rintro _ w3 ⟨rfl, g, tg, S3, hg, hst, hlow, hmv⟩
    have hst' : AtSt w W2.heap.size (w1.heap.size + 1) w1.heap.size (w.heap.size + 1) k g tg (runRow (offC (atG k)) (printT n) n.kids [] 0 0 ([], -1)) S3 w3 := hst
    rw [(Tr.off_run (atG k) (printT n)).1] at hst'
    have HF3 := hid (low_fresh hlow)
    obtain ⟨bv, hbb3, hbp3, _⟩ := hst'.best
    rw [← HA.out.2] at hbp3
    have HI3 := hid hbp3.ints
    obtain ⟨Ab, capb, rfl⟩ := hbp3.slice
    have r0 : w3.cell? ⟨w1.heap.size, 0, none⟩ = some (.slice Ab (atP n k).length capb) := hbb3.cell 0
    clear hst' hst hmv hlow hbb3 hbp3 q1 q2 p0 p1 p2 p3
    go_wp2_with fail
    go_ret2
    exact ⟨_, by rw [HA.out.1]; rfl, HI3.out, HF3.out⟩
end Go.Proofs.YtdacpbdamliafaaGreat

/- The statement's own example. -/
namespace Go.Proofs.YtdacpbdamliafaaGreat
open Go.RowKit
open Tr (Nd)
set_option maxRecDepth 100000 in
theorem awk1_any (s : ByteArray) (w : World) :
  Calls Tryz.prog 62 #[.string s] w fun e w' => e = .returned (.agg #[.int .i64 1, .string ⟨#[]⟩, .int .i64 0, .slice (some ⟨w.heap.size + 1, 0, none⟩) 1 1]) ∧ Fresh w w' ∧ Blk w' (w.heap.size + 1) 24 #[.int .i64 3, .string s, .int .i64 0, .slice none 0 0] := by
 go_enter Tryz.func62, Tryz.ntmps62
 go_wp2_with fail
 exact bodyPost_ret (v := .agg #[.int .i64 1, .string ⟨#[]⟩, .int .i64 0, .slice (some ⟨w.heap.size + 1, 0, none⟩) 1 1]) (by simp [results, Tryz.results62, go_sem]) rfl ⟨rfl, ((Touch.refl _ _).alloc _).alloc _, Blk.new2 _ _ _ _⟩
def numRow (s : List UInt8) : Nd := .mk 1 [] 0 [.mk 3 s 0 []]
def fracTree : Nd := .mk 1 [] 0 [.mk 5 [] 0 [numRow [49], numRow [50]]]
theorem RepL.leaf1 {W : World} {g : Nat} {k : Int} {s : List UInt8} (h : Blk W g 24 #[.int .i64 k, .string ⟨s.toArray⟩, .int .i64 0, .slice none 0 0]) (hs : s.length ≤ maxLen) : RepL W [.mk k s 0 []] (.slice (some ⟨g, 0, none⟩) 1 1) := by
 refine RepL.row g 0 1 [.mk k s 0 []] (fun _ => .slice none 0 0) h.lt (show 1 ≤ maxLen by decide) ?_ ?_ ?_ ?_ ?_ ?_
 all_goals (intro i hi; obtain rfl : i = 0 := by simpa using hi)
 ·exact hs
 ·exact h.cell 0
 ·exact h.cell 1
 ·exact h.cell 2
 ·exact h.cell 3
 ·exact .nil _ _
theorem RepL.kid1 {W : World} {g : Nat} {k c : Int} {s : List UInt8} {ks : List Nd} {v : Value} (h : Blk W g 24 #[.int .i64 k, .string ⟨s.toArray⟩, .int .i64 c, v]) (hs : s.length ≤ maxLen) (hk : RepL W ks v) : RepL W [.mk k s c ks] (.slice (some ⟨g, 0, none⟩) 1 1) := by
 refine RepL.row g 0 1 [.mk k s c ks] (fun _ => v) h.lt (show 1 ≤ maxLen by decide) ?_ ?_ ?_ ?_ ?_ ?_
 all_goals (intro i hi; obtain rfl : i = 0 := by simpa using hi)
 ·exact hs
 ·exact h.cell 0
 ·exact h.cell 1
 ·exact h.cell 2
 ·exact h.cell 3
 ·exact hk
theorem RepL.kid2 {W : World} {g : Nat} {k c k' c' : Int} {s s' : List UInt8} {ks ks' : List Nd} {v v' : Value} (h : Blk W g 24 #[.int .i64 k, .string ⟨s.toArray⟩, .int .i64 c, v, .int .i64 k', .string ⟨s'.toArray⟩, .int .i64 c', v']) (hs : s.length ≤ maxLen) (hs' : s'.length ≤ maxLen)
  (hk : RepL W ks v) (hk' : RepL W ks' v') : RepL W [.mk k s c ks, .mk k' s' c' ks'] (.slice (some ⟨g, 0, none⟩) 2 2) := by
 refine RepL.row g 0 2 [.mk k s c ks, .mk k' s' c' ks'] (fun i => if i = 0 then v else v') h.lt (show 2 ≤ maxLen by decide) ?_ ?_ ?_ ?_ ?_ ?_
 all_goals (intro i hi; have hi2 : i < 2 := (by simpa using hi); obtain rfl | rfl : i = 0 ∨ i = 1 := by omega)
 ·exact hs
 ·exact hs'
 ·exact h.cell 0
 ·exact h.cell 4
 ·exact h.cell 1
 ·exact h.cell 5
 ·exact h.cell 2
 ·exact h.cell 6
 ·exact h.cell 3
 ·exact h.cell 7
 ·exact hk
 ·exact hk'
set_option maxRecDepth 100000 in
set_option maxHeartbeats 1000000 in
theorem awake21_any (w : World) : Calls Tryz.prog 31 #[] w fun e w' => e = .returned (.bool true) ∧ Fresh w w' := by
 have hS : printS fracTree = [92, 102, 114, 97, 99, 49, 32, 50] := by decide +kernel
 have hE : printE fracTree = 0 := by decide +kernel
 have HS := hid hS
 have HE := hid hE
 clear hS hE
 go_enter Tryz.func31, Tryz.ntmps31
 go_wp2_with fail
 refine (awk1_any _ _).mono ?_
 rintro _ w1 ⟨rfl, hf1, hb1⟩
 have HF1 := hid hf1
 have HB1 := hid hb1
 clear hf1 hb1
 go_wp2_with fail
 refine (awk1_any _ _).mono ?_
 rintro _ w2 ⟨rfl, hf2, hb2⟩
 have HF2 := hid (Touch.trans HF1.out hf2)
 have HB2 := hid hb2
 have HB1' := hid (hf2.blk HB1.out (fun h => h))
 clear hf2 hb2 HB1
 go_wp2_with fail
 have hp : RepL _ fracTree.kids (.slice (some ⟨w2.heap.size + 1, 0, none⟩) 1 1) := RepL.kid1 (k := 5) (s := []) (c := 0) (ks := [numRow [49], numRow [50]]) (Blk.new2 w2 _ 24 _) (by decide)
  (RepL.kid2 (k := 1) (s := []) (c := 0) (k' := 1) (s' := []) (c' := 0) (ks := [.mk 3 [49] 0 []]) (ks' := [.mk 3 [50] 0 []]) ((Blk.new w2 24 _).alloc _) (by decide) (by decide)
   (RepL.leaf1 ((HB1'.out.alloc _).alloc _) (by decide)) (RepL.leaf1 ((HB2.out.alloc _).alloc _) (by decide)))
 refine (print_any fracTree _ _ hp (by decide) (by decide)).mono ?_
 rintro _ w3 ⟨rfl, hf3⟩
 have HF3 := hid (HF2.out.trans (Touch.pre (Touch.pre hf3)))
 rw [HS.out, HE.out]
 clear hp hf3
 go_wp2_with fail
 go_ret
 exact ⟨ret_bool' _ _ (by decide), HF3.out⟩
end Go.Proofs.YtdacpbdamliafaaGreat

/- The reference's order of positions; the example of the span statements. -/
namespace Go.Proofs.YtdacpbdamliafaaGreat
open Go.RowKit
open Tr (Nd)
set_option maxRecDepth 100000 in
set_option maxHeartbeats 1000000 in
theorem rcompare_ints (a b : List Int) (va vb : Value) (w : World) (h1 : Ints w va a) (h2 : Ints w vb b) (ha : a.length ≤ maxLen) (_hb : b.length ≤ maxLen) :
  Calls Tryz.prog 50 #[va, vb] w fun e w' => e = .returned (.int .i64 (cmpI a b)) ∧ Fresh w w' := by
 unfold maxLen at ha _hb
 obtain ⟨A, cap, rfl⟩ := h1.slice
 obtain ⟨B, cbp, rfl⟩ := h2.slice
 have HA := hid h1
 have HB := hid h2
 clear h1 h2
 go_enter Tryz.func50, Tryz.ntmps50
 go_wp2_with fail
 go_loopw [5] (fun i wr => ∃ j : Nat, i = .int .i64 j ∧ j ≤ a.length ∧ j ≤ b.length ∧ Hid (cmpI (a.drop j) (b.drop j) = cmpI a b) ∧ Hid (Fresh w wr)) (fun i _ => a.length - (intOf i).toNat)
 case atStart => exact ⟨0, rfl, Nat.zero_le _, Nat.zero_le _, rfl, Touch.refl _ _⟩
 case round =>
  obtain ⟨j, rfl, hj, hjb, HT, HF⟩ := hrel
  by_cases c1 : j < a.length
  ·have d1 : decide ((j : Int) < (a.length : Int)) = true := by simp; omega
   have d1' : (j : Int) < (a.length : Int) := by omega
   by_cases c2 : j < b.length
   ·have d2 : decide ((j : Int) < (b.length : Int)) = true := by simp; omega
    have d2' : (j : Int) < (b.length : Int) := by omega
    obtain ⟨g, o, rfl, _, m0⟩ := HA.out.get j c1
    obtain ⟨g', o', rfl, _, n0⟩ := HB.out.get j c2
    have HS := hid (show cmpI a b = if a[j] < b[j] then -1 else if b[j] < a[j] then 1 else cmpI (a.drop (j + 1)) (b.drop (j + 1)) by
     rw [← HT.out, List.drop_eq_getElem_cons c1, List.drop_eq_getElem_cons c2, cmpI])
    have a0 := HF.out.cell m0 (fun h => h)
    have b1 := HF.out.cell n0 (fun h => h)
    clear m0 n0
    generalize a[j] = x at *
    generalize b[j] = y at *
    by_cases c3 : x < y
    ·have d3 : decide (x < y) = true := by simp [c3]
     go_wp2_with fail
     go_quiet (fail)
     go_wp2_with fail
     go_ret
     exact ⟨by rw [HS.out, if_pos (by omega)]; rfl, HF.out.drewN _⟩
    ·have d3 : decide (x < y) = false := by simp; omega
     by_cases c4 : y < x
     ·have d4 : decide (y < x) = true := by simp [c4]
      go_wp2_with fail
      go_quiet (fail)
      go_wp2_with fail
      go_quiet (fail)
      go_wp2_with fail
      go_ret
      exact ⟨by rw [HS.out, if_neg (by omega), if_pos (by omega)]; rfl, by first | exact HF.out.drewN _ | exact (HF.out.drewN _).drewN _⟩
     ·have d4 : decide (y < x) = false := by simp; omega
      go_wp2_with fail
      go_quiet (fail)
      go_wp2_with fail
      go_quiet (fail)
      go_wp2_with fail
      go_roundw
      case rel => exact ⟨j + 1, by go_num, c1, c2, by unfold Hid; rw [HS.out, if_neg (by omega), if_neg (by omega)], by first | exact HF.out.drewN _ | exact (HF.out.drewN _).drewN _⟩
      case measure => simp [intOf]; omega
   ·have d2 : decide ((j : Int) < (b.length : Int)) = false := by simp; omega
    have HR := hid (show cmpI a b = 1 by
     rw [← HT.out, List.drop_eq_getElem_cons c1, List.drop_eq_nil_of_le (show b.length ≤ j by omega)]; rfl)
    have e1 : decide ((a.length : Int) < (b.length : Int)) = false := by simp; omega
    have e2 : decide ((b.length : Int) < (a.length : Int)) = true := by simp; omega
    have e1n : decide (a.length < b.length) = false := by simp; omega
    have e2n : decide (b.length < a.length) = true := by simp; omega
    go_wp2_with fail
    go_ret
    exact ⟨by rw [HR.out]; rfl, HF.out⟩
  ·have d1 : decide ((j : Int) < (a.length : Int)) = false := by simp; omega
   obtain rfl : j = a.length := by omega
   by_cases c2 : a.length < b.length
   ·have d2 : decide ((a.length : Int) < (b.length : Int)) = true := by simp; omega
    have d2n : decide (a.length < b.length) = true := by simp; omega
    have HR := hid (show cmpI a b = -1 by
     rw [← HT.out, List.drop_eq_nil_of_le (Nat.le_refl _), List.drop_eq_getElem_cons c2]; rfl)
    go_wp2_with fail
    go_ret
    exact ⟨by rw [HR.out]; rfl, HF.out⟩
   ·have d2 : decide ((a.length : Int) < (b.length : Int)) = false := by simp; omega
    have d2n : decide (a.length < b.length) = false := by simp; omega
    have d3 : decide ((b.length : Int) < (a.length : Int)) = false := by simp; omega
    have d3n : decide (b.length < a.length) = false := by simp; omega
    have HR := hid (show cmpI a b = 0 by
     rw [← HT.out, List.drop_eq_nil_of_le (Nat.le_refl _), List.drop_eq_nil_of_le (by omega)]; rfl)
    go_wp2_with fail
    go_ret
    exact ⟨by rw [HR.out]; rfl, HF.out⟩
theorem cmpI_zero : ∀ a b : List Int, cmpI a b = 0 ↔ a = b
 | [], [] => by simp [cmpI]
 | [], _ :: _ => by simp [cmpI]
 | _ :: _, [] => by simp [cmpI]
 | a :: l, b :: m => by
  rw [cmpI]
  by_cases h1 : a < b
  ·rw [if_pos h1]; simp; intro e; omega
  ·rw [if_neg h1]
   by_cases h2 : b < a
   ·rw [if_pos h2]; simp; intro e; omega
   ·rw [if_neg h2, cmpI_zero l m, List.cons.injEq]
    have : a = b := by omega
    simp [this]
theorem rsame_ints (a b : List Int) (va vb : Value) (w : World) (h1 : Ints w va a) (h2 : Ints w vb b) (ha : a.length ≤ maxLen) (hb : b.length ≤ maxLen) :
  Calls Tryz.prog 18 #[va, vb] w fun e w' => e = .returned (.bool (decide (a = b))) ∧ Fresh w w' := by
 cases hd : (cmpI a b == 0) with
 | true =>
  have HD := hid (show decide (a = b) = true from by rw [decide_eq_true_eq, ← cmpI_zero]; simpa using hd)
  go_enter Tryz.func18, Tryz.ntmps18
  go_wp2_with fail
  refine (rcompare_ints a b va vb _ h1 h2 ha hb).mono ?_
  rintro _ w1 ⟨rfl, hf⟩
  go_wp2_with fail
  go_ret
  exact ⟨by rw [HD.out]; rfl, hf⟩
 | false =>
  have HD := hid (show decide (a = b) = false from by rw [decide_eq_false_iff_not, ← cmpI_zero]; simpa using hd)
  go_enter Tryz.func18, Tryz.ntmps18
  go_wp2_with fail
  refine (rcompare_ints a b va vb _ h1 h2 ha hb).mono ?_
  rintro _ w1 ⟨rfl, hf⟩
  go_wp2_with fail
  go_ret
  exact ⟨by rw [HD.out]; rfl, hf⟩
theorem few22_any (n : Tr.Nd) (sl : Value) (w : World) (hr : RepL w n.kids sl) :
  Calls Tryz.prog 13 #[nv n sl] w fun e w' => e = .returned (.bool (decide ((Tr.count n : Int) ≤ 60))) ∧ Fresh w w' := by
 have HR := hid hr
 clear hr
 go_enter Tryz.func13, Tryz.ntmps13
 go_wp2_with fail
 refine (few_any n sl 60 _ (HR.out.fresh ((Touch.refl _ _).alloc _)) (by decide) (by decide)).mono ?_
 rintro _ w1 ⟨rfl, hf⟩
 have HF := hid (Touch.pre hf)
 clear hf
 go_wp2_with fail
 go_ret
 exact ⟨rfl, HF.out⟩
def rootTree : Nd := .mk 1 [] 0 [.mk 6 [] 0 [.mk 1 [] 0 [], .mk 1 [] 0 [.mk 2 [120] 0 []]]]
theorem root_off : offR rootTree [0, 0, 0] = (5, 0) := by decide +kernel
theorem root_at : atE rootTree 6 = 0 ∧ atP rootTree 6 = [0, 1, 0] := by decide +kernel
set_option maxRecDepth 100000 in
theorem awk22_any (A : Option Addr) (n cap : Nat) (w : World) :
  Calls Tryz.prog 37 #[.slice A n cap] w fun e w' => e = .returned (.agg #[.int .i64 1, .string ⟨#[]⟩, .int .i64 0, .slice A n cap]) ∧ Fresh w w' := by
 go_enter Tryz.func37, Tryz.ntmps37
 go_wp2_with fail
 exact bodyPost_ret (v := .agg #[.int .i64 1, .string ⟨#[]⟩, .int .i64 0, .slice A n cap]) (by simp [results, Tryz.results37, go_sem]) rfl ⟨rfl, (Touch.refl _ _).alloc _⟩
theorem Ints.blk {w : World} {g : Nat} {t : TypeId} (l : List Int) (h : Blk w g t (intVs l).toArray) : Ints w (.slice (some ⟨g, 0, none⟩) l.length l.length) l :=
 ⟨_, _, rfl, .inr ⟨g, 0, rfl, h.lt, fun i hi => by rw [Nat.zero_add, h.cell]; simp [hi]⟩⟩
set_option maxRecDepth 100000 in
set_option maxHeartbeats 1000000 in
theorem awake22_any (w : World) : Calls Tryz.prog 12 #[] w fun e w' => e = .returned (.bool true) ∧ Fresh w w' := by
 have HO := hid root_off
 have HA := hid root_at
 go_enter Tryz.func12, Tryz.ntmps12
 go_wp2_with fail
 refine (awk22_any _ _ _ _).mono ?_
 rintro _ w1 ⟨rfl, hf1⟩
 have HF1 := hid hf1
 clear hf1
 go_wp2_with fail
 have HB1 := hid (show Blk (w1.alloc (.cells #[.int .i64 2, .string ⟨#[120]⟩, .int .i64 0, .slice none 0 0] 24)) w1.heap.size 24 #[.int .i64 2, .string ⟨#[120]⟩, .int .i64 0, .slice none 0 0] from Blk.new _ _ _)
 have HF1' := hid (show Fresh w (w1.alloc (.cells #[.int .i64 2, .string ⟨#[120]⟩, .int .i64 0, .slice none 0 0] 24)) from HF1.out.alloc _)
 refine (awk22_any _ _ _ _).mono ?_
 rintro _ w2 ⟨rfl, hf2⟩
 have HF2 := hid (HF1'.out.trans hf2)
 have HB2 := hid (hf2.blk HB1.out (fun h => h))
 clear hf2
 go_wp2_with fail
 have HB3 := hid (show RepL ((w2.alloc (.cells #[.int .i64 1, .string ⟨#[]⟩, .int .i64 0, .slice none 0 0, .int .i64 1, .string ⟨#[]⟩, .int .i64 0, .slice (some ⟨w1.heap.size, 0, none⟩) 1 1] 24)).alloc (.cells #[.int .i64 6, .string ⟨#[]⟩, .int .i64 0, .slice (some ⟨w2.heap.size, 0, none⟩) 2 2] 24)) rootTree.kids (.slice (some ⟨w2.heap.size + 1, 0, none⟩) 1 1) from
  RepL.kid1 (k := 6) (s := []) (c := 0) (ks := [.mk 1 [] 0 [], .mk 1 [] 0 [.mk 2 [120] 0 []]]) (Blk.new2 _ _ _ _) (by decide)
   (RepL.kid2 (k := 1) (s := []) (c := 0) (k' := 1) (s' := []) (c' := 0) (ks := []) (ks' := [.mk 2 [120] 0 []]) ((Blk.new _ _ _).alloc _) (by decide) (by decide) (.nil _ _) (RepL.leaf1 ((HB2.out.alloc _).alloc _) (by decide))))
 have HF3 := hid (show Fresh w ((w2.alloc (.cells #[.int .i64 1, .string ⟨#[]⟩, .int .i64 0, .slice none 0 0, .int .i64 1, .string ⟨#[]⟩, .int .i64 0, .slice (some ⟨w1.heap.size, 0, none⟩) 1 1] 24)).alloc (.cells #[.int .i64 6, .string ⟨#[]⟩, .int .i64 0, .slice (some ⟨w2.heap.size, 0, none⟩) 2 2] 24)) from (HF2.out.alloc _).alloc _)
 refine (awk22_any _ _ _ _).mono ?_
 rintro _ w3 ⟨rfl, hf3⟩
 have HR3 := hid (HB3.out.fresh hf3)
 have HF4 := hid (HF3.out.trans hf3)
 clear hf3
 go_wp2_with fail
 generalize hW : ((w3.alloc (.cells #[.int .i64 1, .string ⟨#[]⟩, .int .i64 0, .slice (some ⟨w2.heap.size + 1, 0, none⟩) 1 1] 24)).alloc (.cells #[.int .i64 0, .int .i64 0, .int .i64 0] 3)) = W4
 have hf4 : Fresh w3 W4 := by rw [← hW]; exact ((Touch.refl _ _).alloc _).alloc _
 have hb4 : Blk W4 w3.heap.size 24 #[.int .i64 1, .string ⟨#[]⟩, .int .i64 0, .slice (some ⟨w2.heap.size + 1, 0, none⟩) 1 1] := by rw [← hW]; exact (Blk.new _ _ _).alloc _
 have hi4 : Blk W4 (w3.heap.size + 1) 3 #[.int .i64 0, .int .i64 0, .int .i64 0] := by rw [← hW]; exact Blk.new2 _ _ _ _
 refine (offset_any rootTree _ _ [0, 0, 0] W4 (HR3.out.fresh hf4) (by decide) (by decide) (Ints.blk [0, 0, 0] hi4) (by decide)).mono ?_
 rw [HO.out]
 rintro _ w5 ⟨rfl, hf5⟩
 have HF5 := hid ((HF4.out.trans hf4).trans hf5)
 have HR5 := hid ((HR3.out.fresh hf4).fresh hf5)
 obtain ⟨q0, q1, q2, q3, _, _, _, _, hg5⟩ := Blk.four (hf5.blk hb4 (fun h => h))
 clear hW hf4 hb4 hi4 hf5
 go_wp2_with fail
 refine (at_any rootTree _ 6 w5 HR5.out (by decide) (by decide)).mono ?_
 rintro _ w6 ⟨v6, rfl, hi6, hf6⟩
 rw [HA.out.1]
 rw [HA.out.2] at hi6
 have HI6 := hid hi6
 have HF6 := hid (HF5.out.trans hf6)
 obtain ⟨A6, cap6, rfl⟩ := hi6.slice
 clear hi6 hf6 q0 q1 q2 q3
 go_wp2_with fail
 refine (rsame_ints (up [0, 1, 0]) [0, 1, 0] _ _ _ (HI6.out.fresh ((Touch.refl _ _).alloc _)) (Ints.blk [0, 1, 0] (Blk.new _ _ _)) (by decide) (by decide)).mono ?_
 rintro _ w7 ⟨rfl, hf7⟩
 have HF7 := hid (HF6.out.trans (Touch.pre hf7))
 clear hf7
 go_wp2_with fail
 go_ret
 exact ⟨ret_bool' _ _ (by decide), HF7.out⟩
end Go.Proofs.YtdacpbdamliafaaGreat

/- The reference's All, Items and Same; from of the law. -/
namespace Go.Proofs.YtdacpbdamliafaaGreat
open Go.RowKit
open Tr (Nd View IsRow rowT itemT segs slotAt RSp rsItems rsSegs rsRow rowsOf segLen segsLen)
attribute [local go_sem] stillV stillUpon
def SpsI (w : World) : List RSp → List Value → Prop
 | [], cs => cs = []
 | x :: l, cs => ∃ v ds, cs = spc v x ++ ds ∧ (Ints w v (up x.path) ∧ x.path.length ≤ maxLen) ∧ SpsI w l ds
theorem SpsT.nums {w : World} : ∀ {l : List RSp} {cs : List Value}, SpsT w l cs → SpsI w l cs
 | [], _, h => h
 | _ :: _, _, ⟨v, ds, h, hp, hd⟩ => ⟨v, ds, h, ⟨hp.ints, hp.elim fun _ h => h.elim fun _ h => h.2.1⟩, hd.nums⟩
theorem SpsI.fresh {w w' : World} (hf : Fresh w w') : ∀ {l : List RSp} {cs : List Value}, SpsI w l cs → SpsI w' l cs
 | [], _, h => h
 | _ :: _, _, ⟨v, ds, h, hp, hd⟩ => ⟨v, ds, h, ⟨hp.1.fresh hf, hp.2⟩, hd.fresh hf⟩
theorem SpsI.append {w : World} : ∀ {l m : List RSp} {cs ds : List Value}, SpsI w l cs → SpsI w m ds → SpsI w (l ++ m) (cs ++ ds)
 | [], _, _, _, h, hm => by rw [show _ = [] from h]; exact hm
 | _ :: _, _, _, _, ⟨v, es, h, hp, hd⟩, hm => by subst h; exact ⟨v, _, by rw [List.append_assoc], hp, hd.append hm⟩
theorem SpsI.one {w : World} {x : RSp} {v : Value} (h : Ints w v (up x.path)) (hl : x.path.length ≤ maxLen) : SpsI w [x] (spc v x) := ⟨v, [], by simp, ⟨h, hl⟩, rfl⟩
theorem spci_one {w : World} {v : Value} {x : RSp} (h : Ints w v (up x.path)) : ∀ u ∈ spc v x, u.oneCell' = true := by
 intro u hu
 obtain ⟨A, c, rfl⟩ := h.slice
 simp only [spc, List.mem_cons, List.not_mem_nil, or_false] at hu
 rcases hu with rfl | rfl | rfl | rfl | rfl | rfl <;> rfl
theorem SpsI.get {w : World} : ∀ {l : List RSp} {cs : List Value}, SpsI w l cs → ∀ i (hi : i < l.length), ∃ v, (Ints w v (up l[i].path) ∧ l[i].path.length ≤ maxLen) ∧ ∀ j u, (spc v l[i])[j]? = some u → cs[i * 6 + j]? = some u
 | [], _, _, i, hi => by simp at hi
 | x :: l, _, ⟨v, ds, h, hp, hd⟩, i, hi => by
  subst h
  cases i with
  | zero =>
   refine ⟨v, hp, fun j u hu => ?_⟩
   have hj : j < (spc v x).length := (List.getElem?_eq_some_iff.1 hu).1
   rw [Nat.zero_mul, Nat.zero_add, List.getElem?_append_left hj]
   exact hu
  | succ i =>
   obtain ⟨v', h1, h2⟩ := hd.get i (by simpa using hi)
   refine ⟨v', h1, fun j u hu => ?_⟩
   rw [List.getElem?_append_right (by simp [spc]; omega)]
   have := h2 j u hu
   rw [← this]
   congr 1
   simp [spc]
   omega
structure RspAt (w : World) (g : Nat) (v : Value) (i : Nat) (x : RSp) : Prop where
 nums : Ints w v (up x.path)
 len : x.path.length ≤ maxLen
 c0 : w.cell? ⟨g, i * 6, none⟩ = some v
 c1 : w.cell? ⟨g, i * 6 + 1, none⟩ = some (.int .i64 (x.from_ : Int))
 c2 : w.cell? ⟨g, i * 6 + 2, none⟩ = some (.int .i64 (x.to_ : Int))
 c3 : w.cell? ⟨g, i * 6 + 3, none⟩ = some (.bool x.row)
 c4 : w.cell? ⟨g, i * 6 + 4, none⟩ = some (.int .i64 (x.first : Int))
 c5 : w.cell? ⟨g, i * 6 + 5, none⟩ = some (.int .i64 (x.count : Int))
theorem sps_at {w : World} {B n c : Nat} {A : Option Addr} {l : List RSp} {cs : List Value} (ho : w.ownsRow B 78 6 (.slice A n c) l.length cs) (hs : SpsI w l cs) (i : Nat) (hi : i < l.length) :
  ∃ g v, A = some ⟨g, 0, none⟩ ∧ g < w.heap.size ∧ RspAt w g v i l[i] := by
 obtain ⟨v, ⟨h1, h2⟩, h3⟩ := hs.get i hi
 rcases ho.2 with ⟨_, h⟩ | ⟨g, cap, cur, hv, _⟩
 ·omega
 ·cases hv
  have hc : ∀ j u, (spc v l[i])[j]? = some u → w.cell? ⟨g, i * 6 + j, none⟩ = some u := fun j u hu => by
   have hj : j < 6 := (List.getElem?_eq_some_iff.1 hu).1
   rw [ho.cellAt (i * 6 + j) (by omega)]
   exact h3 j u hu
  exact ⟨g, v, rfl, (ho.lt g rfl).2, h1, h2, hc 0 _ rfl, hc 1 _ rfl, hc 2 _ rfl, hc 3 _ rfl, hc 4 _ rfl, hc 5 _ rfl⟩
def rsOf (n : Nd) : List RSp := if Tr.valid n then rsRow (printT n) n.kids [] 0 else []
theorem rsOf_len (n : Nd) (hc : Tr.count n ≤ 800) : (rsOf n).length ≤ 800 := by
 unfold rsOf
 split
 ·rw [rsRow_len]; have := Tr.count_kids n; omega
 ·simp
def RAll22 (n : Nd) (w : World) (e : Ending) (w' : World) : Prop :=
 ∃ v tv cs, e = .returned (.tuple #[v, tv, .int .i64 (printE n)]) ∧ w'.ownsRow w.heap.size 78 6 v (rsOf n).length cs ∧ SpsI w' (rsOf n) cs ∧ TokRow w' tv (printT n) ∧ Fresh w w'
set_option maxRecDepth 100000 in
set_option maxHeartbeats 400000 in
theorem rAll22_any (n : Nd) (sl : Value) (w : World) (hr : RepL w n.kids sl) (ht : n.text.length ≤ maxLen) (hc : Tr.count n ≤ 800) :
  Calls Tryz.prog 43 #[nv n sl] w (RAll22 n w) := by
 obtain ⟨A, cap, rfl⟩ := hr.slice
 have HR := hid hr
 have HC := hid hc
 clear hr hc
 cases hv : Tr.valid n with
 | false =>
  have HE := hid (show printE n = 1 from by unfold printE; rw [hv]; rfl)
  have HS := hid (show rsOf n = [] from by unfold rsOf; rw [hv]; rfl)
  have HT := hid (show printT n = [] from by unfold printT; rw [hv]; rfl)
  go_enter Tryz.func43, Tryz.ntmps43
  go_wp2_with fail
  refine (rtokens_any n _ _ (HR.out.fresh ((Touch.refl _ _).alloc _)) ht HC.out).mono ?_
  rintro _ w1 ⟨v, rfl, htk, hf⟩
  rw [HE.out]
  have HF := hid (show Fresh w w1 from Touch.pre hf)
  clear hf htk
  go_wp2_with fail
  go_ret3
  refine ⟨.slice none 0 0, .slice none 0 0, [], by rw [HE.out]; rfl, ?_, ?_, ?_, HF.out⟩
  ·rw [HS.out]; exact World.ownsRow_nil _ _ _ _
  ·rw [HS.out]; rfl
  ·rw [HT.out]; exact TokRow.nil _
 | true =>
  have HE := hid (show printE n = 0 from by unfold printE; rw [hv]; rfl)
  have HS := hid (show rsOf n = rsRow (printT n) n.kids [] 0 from by unfold rsOf; rw [hv]; rfl)
  have HIR := hid (Tr.valid_row n hv)
  have HPT := hid (printT_len n hv)
  have HP4 := hid (show (printT n).length ≤ 4000 from by have h1 := row_len n HIR.out; have h2 := HPT.out; have h3 := HC.out; omega)
  go_enter Tryz.func43, Tryz.ntmps43
  go_wp2_with fail
  refine (rtokens_any n _ _ (HR.out.fresh ((Touch.refl _ _).alloc _)) ht HC.out).mono ?_
  rintro _ w1 ⟨v, rfl, htk, hf⟩
  rw [HE.out]
  have HF := hid (show Fresh w w1 from Touch.pre hf)
  have HTK := hid htk
  obtain ⟨At, ct, rfl, _⟩ := htk
  obtain ⟨q0, q1, q2, q3, _⟩ := Blk.four (hf.blk (Blk.new w 24 #[.int .i64 n.kind, .string (⟨n.text.toArray⟩ : ByteArray), .int .i64 n.cols, .slice A n.kids.length cap]) (fun h => h))
  clear hf
  go_wp2_with fail
  refine (show Calls Tryz.prog _ #[nv n (.slice A n.kids.length cap), .slice none 0 0, .int .i64 ((0 : Nat) : Int), .slice At (printT n).length ct] w1 _ from spans_ref (printT n) _ (Tr.count n) n _ _ [] 0 _ (Nat.le_refl _) HC.out HIR.out (HR.out.fresh HF.out) (PthT.nil _) HTK.out (by have := HC.out; simp; omega) HP4.out (by have := HPT.out; omega)).mono ?_
  rintro _ w2 ⟨v2, cs2, rfl, ho, hps, hf2⟩
  have HO := hid ho
  have HPS := hid hps
  have HF2 := hid hf2
  have HSZ := hid HF.out.size
  obtain ⟨A2, c2, rfl⟩ := slice_owned ho
  clear ho hps hf2 q0 q1 q2 q3
  go_wp2_with fail
  go_ret3
  refine ⟨_, _, cs2, by rw [HE.out]; rfl, ?_, ?_, HTK.out.fresh HF2.out, HF.out.trans HF2.out⟩
  ·rw [HS.out]; exact ownsRow_low HO.out HSZ.out
  ·rw [HS.out]; exact HPS.out.nums
def riOf (n : Nd) : List RSp := (rsOf n).filter fun x => !x.row
def RItems22 (n : Nd) (w : World) (e : Ending) (w' : World) : Prop :=
 ∃ v cs, e = .returned (.tuple #[v, .int .i64 (printE n)]) ∧ w'.ownsRow w.heap.size 78 6 v (riOf n).length cs ∧ SpsI w' (riOf n) cs ∧ Fresh w w'
set_option maxRecDepth 100000 in
set_option maxHeartbeats 400000 in
theorem rItems22_any (n : Nd) (sl : Value) (w : World) (hr : RepL w n.kids sl) (ht : n.text.length ≤ maxLen) (hc : Tr.count n ≤ 800) :
  Calls Tryz.prog 20 #[nv n sl] w (RItems22 n w) := by
 obtain ⟨i', hi', hz0', hz1', hz2'⟩ := info_parts infoSpan22
 obtain ⟨A, cap, rfl⟩ := hr.slice
 have HR := hid hr
 have HC := hid hc
 have HLE := hid (rsOf_len n hc)
 clear hr hc
 go_enter Tryz.func20, Tryz.ntmps20
 go_wp2_with fail
 refine (rAll22_any n _ _ (HR.out.fresh ((Touch.refl _ _).alloc _)) ht HC.out).mono ?_
 rintro _ W1 ⟨v, tv, cs, rfl, ho, hps, htk, hf⟩
 have HF1 := hid (show Fresh w W1 from Touch.pre hf)
 have HO := hid ho
 have HPS := hid hps
 obtain ⟨At, ct, rfl, _⟩ := htk
 obtain ⟨A1, c1, rfl⟩ := slice_owned ho
 have HRI := hid (show riOf n = (rsOf n).filter fun x => !x.row from rfl)
 clear ho hps hf
 generalize rsOf n = l at *
 go_wp2_with fail
 go_loopw [7, 8] (fun o i wr => ∃ (j : Nat) (L : List RSp) (cs2 : List Value), i = .int .i64 j ∧ j ≤ l.length ∧ Hid (L = (l.take j).filter fun x => !x.row) ∧ Hid (wr.ownsRow W1.heap.size 78 6 o L.length cs2) ∧ Hid (SpsI W1 L cs2) ∧ Hid (Fresh W1 wr)) (fun _ i _ => l.length - (intOf i).toNat)
 case atStart => exact ⟨0, [], [], rfl, Nat.zero_le _, rfl, World.ownsRow_nil _ _ _ _, rfl, Touch.refl _ _⟩
 case round =>
  obtain ⟨j, L, cs2, rfl, hj, HL, HO2, HPS2, HF⟩ := hrel
  obtain ⟨Ao, co, rfl⟩ := slice_owned HO2.out
  have HLL := hid (show L.length ≤ 800 from by rw [HL.out]; exact Nat.le_trans (List.length_filter_le _ _) (Nat.le_trans (by rw [List.length_take]; exact Nat.min_le_right _ _) HLE.out))
  have hl8 : l.length ≤ 800 := HLE.out
  by_cases c2 : j < l.length
  ·have d1 : decide ((j : Int) < (l.length : Int)) = true := by simp; omega
   have d1n : decide (j < l.length) = true := by simp; omega
   have d1' : (j : Int) < (l.length : Int) := by omega
   obtain ⟨g, v, hAe, hg, hat⟩ := sps_at HO.out HPS.out j c2
   cases hAe
   have HTA := hid (show (l.take (j + 1)).filter (fun x => !x.row) = L ++ [l[j]].filter (fun x => !x.row) from by rw [HL.out, ← List.filter_append, List.take_add_one, List.getElem?_eq_getElem c2]; rfl)
   generalize l[j] = x at hat HTA
   obtain ⟨h1, h2, k0, k1, k2, k3, k4, k5⟩ := hat
   have HX := hid h1
   have HXL := hid h2
   have a0 := HF.out.cell k0 (fun h => h)
   have a1 := HF.out.cell k1 (fun h => h)
   have a2 := HF.out.cell k2 (fun h => h)
   have a3 := HF.out.cell k3 (fun h => h)
   have a4 := HF.out.cell k4 (fun h => h)
   have a5 := HF.out.cell k5 (fun h => h)
   have hg2 : g < wr.heap.size := Nat.lt_of_lt_of_le hg HF.out.size
   clear k0 k1 k2 k3 k4 k5 h1 h2 hg
   cases hrow : x.row with
   | true =>
    rw [hrow] at a3
    have HE := hid (show (l.take (j + 1)).filter (fun x => !x.row) = L from by rw [HTA.out]; simp [hrow])
    clear hrow
    go_wp2_with fail
    go_roundw
    case rel => exact ⟨j + 1, L, cs2, by first | go_num | simp, by omega, HE.out.symm, HO2, HPS2, HF⟩
    case measure => first | (simp [intOf]; omega) | (simp [intOf]; done)
   | false =>
    rw [hrow] at a3
    have HE := hid (show (l.take (j + 1)).filter (fun x => !x.row) = L ++ [x] from by rw [HTA.out]; simp [hrow])
    have HXR := hid hrow
    clear hrow
    go_wp2_with (at_builtin; refine wpList_append_src _ rfl (.tmp 27) (.tmp 32) 39 rfl W1.heap.size 78 i' _ 6 64 rfl hi' hz0' hz1' hz2' rfl (by decide) (.slice Ao L.length co) L.length cs2 (by simp [Act.eval]) (ownsRow_touch HO2.out ((Touch.refl _ _).alloc _) (fun _ _ h => h)) (.slice (some ⟨wr.heap.size, 0, none⟩) 1 1) 1 (spc v x) (by simp [Act.eval]) (Src.of_blk (cs := (spc v x).toArray) (by unfold spc; rw [HXR.out]; exact Blk.new _ _ _) rfl) (spci_one HX.out) (by have := HLL.out; unfold maxLen; omega) (by have := HLL.out; omega) (by have h3 := HF.out.size; simp; omega) ?_; intro v8 W8 ho8 hg8 _; refine Stay.mk ?_)
    have HF8 := hid (show Fresh W1 W8 from touch_grown (HF.out.trans ((Touch.refl _ _).alloc _)) (ownsRow_touch HO2.out ((Touch.refl _ _).alloc _) (fun _ _ h => h)) (Nat.le_refl _) hg8)
    have HO8 := hid (show W8.ownsRow W1.heap.size 78 6 v8 (L ++ [x]).length (cs2 ++ spc v x) from by rw [List.length_append]; exact ho8)
    obtain ⟨A8, c8, rfl⟩ := slice_owned ho8
    clear ho8 hg8 a0 a1 a2 a3 a4 a5
    refine Stay.go ?_
    go_wp2_with fail
    go_roundw
    case rel => exact ⟨j + 1, L ++ [x], cs2 ++ spc v x, by first | go_num | simp, by omega, HE.out.symm, HO8, HPS2.out.append (SpsI.one HX.out HXL.out), HF8⟩
    case measure => first | (simp [intOf]; omega) | (simp [intOf]; done)
  ·have d1 : decide ((j : Int) < (l.length : Int)) = false := by simp; omega
   have d1n : decide (j < l.length) = false := by simp; omega
   obtain rfl : j = l.length := by omega
   have HE := hid (show L = riOf n from by rw [HL.out, HRI.out, List.take_length])
   go_wp2_with fail
   go_ret2
   refine ⟨_, cs2, rfl, ?_, ?_, HF1.out.trans HF.out⟩
   ·rw [← HE.out]; exact ownsRow_low HO2.out HF1.out.size
   ·rw [← HE.out]; exact HPS2.out.fresh HF.out
end Go.Proofs.YtdacpbdamliafaaGreat

/- The reference's Same at equal spans; from of the law; the law SpanItems walked. -/
namespace Go.Proofs.YtdacpbdamliafaaGreat
open Go.RowKit
open Tr (Nd View IsRow rowT itemT RSp rsItems rsSegs rsRow)
attribute [local go_sem] stillV stillUpon
def rkey (x : RSp) : List Nat × Nat × Nat := (x.path, x.from_, x.to_)
set_option maxRecDepth 100000 in
set_option maxHeartbeats 400000 in
theorem rSame22_any (l m : List RSp) (cs ds : List Value) (va vb : Value) (B B' : Nat) (w : World) (ho : w.ownsRow B 78 6 va l.length cs) (hs : SpsI w l cs) (ho' : w.ownsRow B' 78 6 vb m.length ds) (hs' : SpsI w m ds) (he : l.map rkey = m.map rkey) (hl : l.length ≤ 1000) :
  Calls Tryz.prog 21 #[va, vb] w fun e w' => e = .returned (.bool true) ∧ Fresh w w' := by
 obtain ⟨A, c, rfl⟩ := slice_owned ho
 obtain ⟨A', c', rfl⟩ := slice_owned ho'
 have HO := hid ho
 have HS := hid hs
 have HO' := hid ho'
 have HS' := hid hs'
 have HKE := hid (show ∀ (i : Nat) (h1 : i < l.length) (h2 : i < m.length), rkey l[i] = rkey m[i] from fun i h1 h2 => by
  have h := congrArg (fun q => q[i]?) he
  simpa [h1, h2] using h)
 have hlm : m.length = l.length := by have := congrArg List.length he; simpa using this.symm
 have HLM := hid hlm
 have HL := hid hl
 rw [hlm]
 clear ho hs ho' hs' he hlm
 go_enter Tryz.func21, Tryz.ntmps21
 go_wp2_with fail
 go_loopw [5] (fun i wr => ∃ j : Nat, i = .int .i64 j ∧ j ≤ l.length ∧ Hid (Fresh w wr)) (fun i _ => l.length - (intOf i).toNat)
 case atStart => exact ⟨0, rfl, Nat.zero_le _, Touch.refl _ _⟩
 case round =>
  obtain ⟨j, rfl, hj, HF⟩ := hrel
  have hl8 : l.length ≤ 1000 := HL.out
  by_cases c2 : j < l.length
  ·have d1 : decide ((j : Int) < (l.length : Int)) = true := by simp; omega
   have d1n : decide (j < l.length) = true := by simp; omega
   have d1' : (j : Int) < (l.length : Int) := by omega
   have c3 : j < m.length := by have := HLM.out; omega
   obtain ⟨g, v, hAe, hg, hat⟩ := sps_at HO.out HS.out j c2
   obtain ⟨g', v', hAe', hg', hat'⟩ := sps_at HO'.out HS'.out j c3
   cases hAe
   cases hAe'
   have hk := HKE.out j c2 c3
   generalize l[j] = x at hat hk
   generalize m[j] = y at hat' hk
   unfold rkey at hk
   simp only [Prod.mk.injEq] at hk
   obtain ⟨hk1, hk2, hk3⟩ := hk
   obtain ⟨h1, h2, k0, k1, k2, -, -, -⟩ := hat
   obtain ⟨h1', h2', k0', k1', k2', -, -, -⟩ := hat'
   rw [← hk2] at k1'
   rw [← hk3] at k2'
   rw [← hk1] at h1' h2'
   have HX := hid h1
   have HXL := hid h2
   have HX' := hid h1'
   have HXL' := hid h2'
   have a0 := HF.out.cell k0 (fun h => h)
   have a1 := HF.out.cell k1 (fun h => h)
   have a2 := HF.out.cell k2 (fun h => h)
   have b0 := HF.out.cell k0' (fun h => h)
   have b1 := HF.out.cell k1' (fun h => h)
   have b2 := HF.out.cell k2' (fun h => h)
   have hg2 : g < wr.heap.size := Nat.lt_of_lt_of_le hg HF.out.size
   have hg2' : g' < wr.heap.size := Nat.lt_of_lt_of_le hg' HF.out.size
   clear k0 k1 k2 k0' k1' k2' h1 h2 h1' h2' hk1 hk2 hk3 hg hg'
   go_wp2_with fail
   have r0 := cell_regrown a0
   have r1 := cell_regrown a1
   have r2 := cell_regrown a2
   have s0 := cell_regrown b0
   have s1 := cell_regrown b1
   have s2 := cell_regrown b2
   clear a0 a1 a2 b0 b1 b2
   refine wp_region_mix [] [(0, true), (1, true), (2, true), (3, true), (4, true), (5, true), (6, true), (7, true), (8, true), (9, true), (10, false), (11, true), (12, true), (13, true), (14, true), (15, true), (16, true), (17, true), (18, true), (19, true), (20, true), (21, true), (22, true), (23, true), (24, true), (25, true), (26, true), (27, true), (28, true), (29, true), (30, true), (31, true), (32, true), (33, true), (34, true), (35, true), (36, true), (37, true)] (by kernel_rfl) (fun _ _ d _ _ h => by cases d <;> exact h) (by kernel_rfl) ?_
   refine wpMix_last ?_
   repeat (refine wpSeq_plain rfl (fun K hK => ?_); go_simp; refine hK _ ?_; clear hK K)
   refine wpSeq_lone rfl (fun K hK => ?_)
   go_wp2_with fail
   refine (rsame_ints (up x.path) (up x.path) _ _ _ (HX.out.fresh (HF.out.drewN _)) (HX'.out.fresh (HF.out.drewN _)) (by rw [List.length_map]; exact HXL.out) (by rw [List.length_map]; exact HXL.out)).mono ?_
   rintro _ W3 ⟨rfl, hf3⟩
   have HF3 := hid (show Fresh wr W3 from Touch.ofN hf3)
   have hd : decide (up x.path = up x.path) = true := by simp
   rw [hd]
   clear hf3 hd
   go_wp2_with fail
   refine hK _ _ (growing_fresh HF3.out) ?_
   clear hK K
   repeat (refine wpSeq_plain rfl (fun K hK => ?_); go_simp; refine hK _ ?_; clear hK K)
   refine wpSeq_end ?_
   go_wp2_with fail
   go_roundw
   case rel => exact ⟨j + 1, by first | go_num | simp, by omega, HF.out.trans HF3.out⟩
   case measure => first | (simp [intOf]; omega) | (simp [intOf]; done)
  ·have d1 : decide ((j : Int) < (l.length : Int)) = false := by simp; omega
   have d1n : decide (j < l.length) = false := by simp; omega
   go_wp2_with fail
   go_ret
   exact ⟨rfl, HF.out⟩
def toR (x : Spn) : RSp := ⟨x.1, false, x.2.1, x.2.2, 0, 0⟩
set_option maxRecDepth 100000 in
set_option maxHeartbeats 400000 in
theorem from22_any (l : List Spn) (cs : List Value) (va : Value) (B : Nat) (w : World) (ho : w.ownsRow B 66 3 va l.length cs) (hs : SpnAt w l cs) (hl : l.length ≤ 1000) :
  Calls Tryz.prog 22 #[va] w fun e w' => ∃ v cs2, e = .returned v ∧ w'.ownsRow w.heap.size 78 6 v l.length cs2 ∧ SpsI w' (l.map toR) cs2 ∧ Fresh w w' := by
 obtain ⟨i', hi', hz0', hz1', hz2'⟩ := info_parts infoSpan22
 obtain ⟨A, c, rfl⟩ := slice_owned ho
 have HO := hid ho
 have HS := hid hs
 have HL := hid hl
 clear ho hs hl
 go_enter Tryz.func22, Tryz.ntmps22
 go_wp2_with fail
 go_loopw [3, 8] (fun o i wr => ∃ (j : Nat) (cs2 : List Value), i = .int .i64 j ∧ j ≤ l.length ∧ Hid (wr.ownsRow w.heap.size 78 6 o j cs2) ∧ Hid (SpsI w ((l.take j).map toR) cs2) ∧ Hid (Fresh w wr)) (fun _ i _ => l.length - (intOf i).toNat)
 case atStart => exact ⟨0, [], rfl, Nat.zero_le _, World.ownsRow_nil _ _ _ _, rfl, Touch.refl _ _⟩
 case round =>
  obtain ⟨j, cs2, rfl, hj, HO2, HPS2, HF⟩ := hrel
  obtain ⟨Ao, co, rfl⟩ := slice_owned HO2.out
  have hl8 : l.length ≤ 1000 := HL.out
  by_cases c2 : j < l.length
  ·have d1 : decide ((j : Int) < (l.length : Int)) = true := by simp; omega
   have d1n : decide (j < l.length) = true := by simp; omega
   have d1' : (j : Int) < (l.length : Int) := by omega
   obtain ⟨g, cap, cur, hv, hBg, hgc, _⟩ : ∃ g cap cur, Value.slice A l.length c = .slice (some ⟨g, 0, none⟩) l.length cap ∧ B ≤ g ∧ w.heap[g]? = some (.cells cur 66 (0, 0)) ∧ True := by
    rcases HO.out.2 with ⟨_, h⟩ | ⟨g, cap, cur, h1, h2, h3, _⟩
    ·omega
    ·exact ⟨g, cap, cur, h1, h2, h3, trivial⟩
   cases hv
   obtain ⟨pv, k0, k1, k2, hpi⟩ := HS.out.get j c2
   have HTA := hid (show (l.take (j + 1)).map toR = (l.take j).map toR ++ [toR l[j]] from by rw [List.take_add_one, List.getElem?_eq_getElem c2, List.map_append]; rfl)
   generalize l[j] = x at k0 k1 k2 hpi HTA
   have HX := hid hpi.ints
   have HXL := hid (show x.1.length ≤ maxLen from by obtain ⟨_, _, _, h1, h2⟩ := hpi.room; rw [List.length_map] at h1; omega)
   have a0 := HF.out.cell ((HO.out.cellAt (j * 3) (by omega)).trans k0) (fun h => h)
   have a1 := HF.out.cell ((HO.out.cellAt (j * 3 + 1) (by omega)).trans k1) (fun h => h)
   have a2 := HF.out.cell ((HO.out.cellAt (j * 3 + 2) (by omega)).trans k2) (fun h => h)
   have hg2 : g < wr.heap.size := block_lt_of_cell a0
   obtain ⟨Ap, cp, rfl⟩ : ∃ A c, pv = .slice A x.1.length c := by have := HX.out.slice; rwa [List.length_map] at this
   clear k0 k1 k2 hpi hgc
   go_wp2_with (at_builtin; refine wpList_append_src _ rfl (.tmp 12) (.tmp 20) 39 rfl w.heap.size 78 i' _ 6 64 rfl hi' hz0' hz1' hz2' rfl (by decide) (.slice Ao j co) j cs2 (by simp [Act.eval]) (ownsRow_touch HO2.out (((Touch.refl _ _).alloc _).alloc _) (fun _ _ h => h)) (.slice (some ⟨wr.heap.size + 1, 0, none⟩) 1 1) 1 (spc (.slice Ap x.1.length cp) (toR x)) (by simp [Act.eval]) (Src.of_blk (cs := (spc (.slice Ap x.1.length cp) (toR x)).toArray) (Blk.new2 wr _ 78 _) rfl) (spci_one (x := toR x) HX.out) (by unfold maxLen; omega) (by omega) (by have h3 := HF.out.size; simp; omega) ?_; intro v8 W8 ho8 hg8 _; refine Stay.mk ?_)
   have HF8 := hid (show Fresh w W8 from touch_grown (HF.out.trans (((Touch.refl _ _).alloc _).alloc _)) (ownsRow_touch HO2.out (((Touch.refl _ _).alloc _).alloc _) (fun _ _ h => h)) (Nat.le_refl _) hg8)
   have HO8 := hid ho8
   obtain ⟨A8, c8, rfl⟩ := slice_owned ho8
   clear ho8 hg8 a0 a1 a2
   refine Stay.go ?_
   go_wp2_with fail
   go_roundw
   case rel => exact ⟨j + 1, cs2 ++ spc (.slice Ap x.1.length cp) (toR x), by first | go_num | simp, by omega, HO8, by unfold Hid; rw [HTA.out]; exact HPS2.out.append (SpsI.one (x := toR x) HX.out HXL.out), HF8⟩
   case measure => first | (simp [intOf]; omega) | (simp [intOf]; done)
  ·have d1 : decide ((j : Int) < (l.length : Int)) = false := by simp; omega
   have d1n : decide (j < l.length) = false := by simp; omega
   obtain rfl : j = l.length := by omega
   go_wp2_with fail
   go_ret
   refine ⟨_, cs2, rfl, ?_, ?_, HF.out⟩
   ·exact HO2.out
   ·have h := HPS2.out; rw [List.take_length] at h; exact h.fresh HF.out
theorem items_keys (n : Nd) : (spansOf n).map (fun x => rkey (toR x)) = (riOf n).map rkey := by
 unfold spansOf riOf rsOf
 split
 ·have h := (Tr.rs_items (printT n)).1 n.kids [] 0 0
  rw [← h]
  have hg : ∀ l : List RSp, (l.filterMap RSp.item).map (fun x => rkey (toR x)) = (l.filter fun x => !x.row).map rkey := by
   intro l
   induction l with
   | nil => rfl
   | cons x l ih =>
    rw [List.filterMap_cons, List.filter_cons]
    cases hx : x.row with
    | true =>
     have h1 : RSp.item x = none := by unfold RSp.item; rw [hx]; rfl
     rw [h1]
     simpa using ih
    | false =>
     have h1 : RSp.item x = some (x.path, x.from_, x.to_) := by unfold RSp.item; rw [hx]; rfl
     rw [h1]
     simp only [List.map_cons, Bool.not_false, if_true]
     rw [← ih]
     rfl
  rw [hg]
  unfold rsRow
  rw [List.filter_cons]
  rfl
 ·rfl
set_option maxRecDepth 100000 in
set_option maxHeartbeats 400000 in
theorem sitems_any (n : Nd) (sl : Value) (w : World) (hsl : RepL w n.kids sl) (ht : n.text.length ≤ maxLen) :
  Calls Tryz.prog 5 #[nv n sl] w fun e w' => e = .returned (.bool true) ∧ Fresh w w' := by
 obtain ⟨A, cap, rfl⟩ := hsl.slice
 have HSL := hid hsl
 clear hsl
 go_enter Tryz.func5, Tryz.ntmps5
 go_wp2_with fail
 refine (awake22_any _).mono ?_
 rintro _ w1 ⟨rfl, hf1⟩
 have HF1 := hid (show Fresh w w1 from Touch.pre hf1)
 have hb1 := hf1.blk (Blk.new w 24 #[.int .i64 n.kind, .string (⟨n.text.toArray⟩ : ByteArray), .int .i64 n.cols, .slice A n.kids.length cap]) (fun h => h)
 have HB1 := hid hb1
 obtain ⟨q0, q1, q2, q3, _⟩ := Blk.four hb1
 clear hf1 hb1
 go_wp2_with fail
 refine (few22_any n _ _ (HSL.out.fresh HF1.out)).mono ?_
 rintro _ w2 ⟨rfl, hf2⟩
 have HF2 := hid (HF1.out.trans hf2)
 have HB2 := hid (hf2.blk HB1.out (fun h => h))
 replace q0 := hf2.cell q0 (fun h => h)
 replace q1 := hf2.cell q1 (fun h => h)
 replace q2 := hf2.cell q2 (fun h => h)
 replace q3 := hf2.cell q3 (fun h => h)
 clear hf2
 cases hcc : decide ((Tr.count n : Int) ≤ 60) with
 | false =>
  go_wp2_with fail
  refine (awake22_any _).mono ?_
  rintro _ w3 ⟨rfl, hf3⟩
  have HF3 := hid (HF2.out.trans hf3)
  clear hf3 q0 q1 q2 q3
  go_wp2_with fail
  go_ret
  exact ⟨rfl, HF3.out⟩
 | true =>
  have HC := hid (show Tr.count n ≤ 60 from by simp at hcc; omega)
  go_wp2_with fail
  refine (items_any n _ _ (HSL.out.fresh HF2.out) ht (by have := HC.out; omega)).mono ?_
  rintro _ w3 ⟨v3, cs3, rfl, ho3, hs3, hf3⟩
  have HF3 := hid (HF2.out.trans hf3)
  have HO3 := hid ho3
  have HS3 := hid hs3
  obtain ⟨A3, c3, rfl⟩ := slice_owned ho3
  obtain ⟨q0, q1, q2, q3, _⟩ := Blk.four (hf3.blk HB2.out (fun h => h))
  clear hf3 ho3 hs3
  go_wp2_with fail
  refine (rItems22_any n _ _ (HSL.out.fresh HF3.out) ht (by have := HC.out; omega)).mono ?_
  rintro _ w4 ⟨v4, cs4, rfl, ho4, hs4, hf4⟩
  have HF4 := hid hf4
  have HO4 := hid ho4
  have HS4 := hid hs4
  obtain ⟨A4, c4, rfl⟩ := slice_owned ho4
  clear hf4 ho4 hs4 q0 q1 q2 q3
  have HE := hid (items_keys n)
  have HLS := hid (spans_few n (by have := HC.out; omega))
  have hpe : (printE n == printE n) = true := by simp
  generalize spansOf n = sp at *
  generalize riOf n = ri at *
  go_wp2_with fail
  refine (from22_any sp cs3 _ _ _ (ownsRow_touch HO3.out HF4.out (fun _ _ h => h)) (HS3.out.fresh HF4.out) (by have := HLS.out; omega)).mono ?_
  rintro _ w5 ⟨v5, cs5, rfl, ho5, hs5, hf5⟩
  have HF5 := hid hf5
  have HO5 := hid ho5
  have HS5 := hid hs5
  obtain ⟨A5, c5, rfl⟩ := slice_owned ho5
  clear hf5 ho5 hs5
  go_wp2_with fail
  refine (rSame22_any (sp.map toR) ri cs5 cs4 _ _ _ _ _ (by rw [List.length_map]; exact HO5.out) HS5.out (ownsRow_touch HO4.out HF5.out (fun _ _ h => h)) (HS4.out.fresh HF5.out) (by rw [List.map_map]; exact HE.out) (by rw [List.length_map]; have := HLS.out; omega)).mono ?_
  rintro _ w6 ⟨rfl, hf6⟩
  have HF6 := hid (HF3.out.trans (HF4.out.trans (HF5.out.trans hf6)))
  clear hf6
  go_wp2_with fail
  go_ret
  exact ⟨rfl, HF6.out⟩
end Go.Proofs.YtdacpbdamliafaaGreat

/- The positions as the reference lists them, and how they lie in memory. -/
namespace Go.Proofs.YtdacpbdamliafaaGreat
open Go.RowKit
open Tr (Nd posRow posSegs segs)
def allP (ks : List Nd) (p : List Nat) (i : Nat) : List (List Nat) := (posRow [] ks p i 0).map (·.1)
def allK : List Nd → List Nat → Nat → List (List Nat)
 | [], _, _ => []
 | a :: r, p, j => allP a.kids (p ++ [j]) 0 ++ allK r p (j + 1)
theorem allP_nil (p : List Nat) (i : Nat) : allP [] p i = [p ++ [i]] := by unfold allP; rw [posRow]; rfl
theorem segs_all : ∀ (l : List (Nat × Bool × Nd)) (p : List Nat) (j f : Nat), (posSegs [] l p j f).map (·.1) = allK (Tr.rowsOf l) p j
 | [], p, j, f => by rw [posSegs]; rfl
 | (k, b, a) :: r, p, j, f => by
  rw [posSegs, List.map_append, segs_all r]
  show _ = allK (a :: Tr.rowsOf r) p j
  rw [allK]
  congr 1
  exact (Tr.pos_paths [] []).1 a.kids (p ++ [j]) 0 _ _
theorem allP_cons (n : Nd) (ns : List Nd) (p : List Nat) (i : Nat) : allP (n :: ns) p i = (p ++ [i]) :: (allK n.kids (p ++ [i]) 0 ++ allP ns p (i + 1)) := by
 unfold allP
 rw [posRow, List.map_cons, List.map_append, segs_all, Tr.segs_rows, (Tr.pos_paths [] []).1 ns p (i + 1) _ 0]
theorem allP_drop (ks : List Nd) (p : List Nat) (i : Nat) (h : i < ks.length) : allP (ks.drop i) p i = (p ++ [i]) :: (allK ks[i].kids (p ++ [i]) 0 ++ allP (ks.drop (i + 1)) p (i + 1)) := by
 rw [List.drop_eq_getElem_cons h, allP_cons]
theorem allK_drop (ks : List Nd) (p : List Nat) (j : Nat) (h : j < ks.length) : allK (ks.drop j) p j = allP ks[j].kids (p ++ [j]) 0 ++ allK (ks.drop (j + 1)) p (j + 1) := by
 rw [List.drop_eq_getElem_cons h, allK]
theorem all_count (T : List Lx.PTok) : (∀ ks p i f, (posRow T ks p i f).length = Tr.countL ks + 1) ∧ ∀ l p j f, (posSegs T l p j f).length = Tr.countL (Tr.rowsOf l) := by
 refine Tr.rows_ind (P := fun ks => ∀ p i f, (posRow T ks p i f).length = Tr.countL ks + 1) (Q := fun l => ∀ p j f, (posSegs T l p j f).length = Tr.countL (Tr.rowsOf l)) ?_ ?_ ?_ ?_
 ·intro p i f; rw [posRow]; simp [Tr.countL]
 ·intro n ns h1 h2 p i f
  rw [posRow, Tr.countL, Tr.count_kids, List.length_cons, List.length_append, h1, h2, Tr.segs_rows]
  omega
 ·intro p j f; rw [posSegs]; simp [Tr.rowsOf, Tr.countL]
 ·intro k b a r h1 h2 p j f
  have h5 : Tr.rowsOf ((k, b, a) :: r) = a :: Tr.rowsOf r := rfl
  rw [posSegs, List.length_append, h1, h2, h5, Tr.countL, Tr.count_kids]
  omega
theorem allP_len (ks : List Nd) (p : List Nat) (i : Nat) : (allP ks p i).length = Tr.countL ks + 1 := by
 unfold allP
 rw [List.length_map, (all_count []).1]
def PthAt (B : Nat) (own : Option Nat) (w : World) (v : Value) (p : List Nat) : Prop :=
 ∃ b cap, v = .slice (some ⟨b, 0, none⟩) p.length cap ∧ p.length ≤ cap ∧ cap ≤ maxLen ∧ B ≤ b ∧ b < w.heap.size ∧ own ≠ some b ∧ ∀ i (h : i < p.length), w.cell? ⟨b, i, none⟩ = some (.int .i64 (p[i] : Nat))
theorem PthAt.ints {B : Nat} {own : Option Nat} {w : World} {v : Value} {p : List Nat} (h : PthAt B own w v p) : IntsR w v (up p) := by
 obtain ⟨b, cap, rfl, h1, h2, h3, h4, h5, h6⟩ := h
 have e : Value.slice (some ⟨b, 0, none⟩) p.length cap = .slice (some ⟨b, 0, none⟩) (up p).length cap := by rw [List.length_map]
 refine ⟨⟨_, cap, e, .inr ⟨b, 0, rfl, h4, fun i hi => ?_⟩⟩, ⟨_, cap, e, by simpa using h1, h2⟩⟩
 rw [Nat.zero_add, List.getElem_map]
 exact h6 i (by simpa using hi)
theorem PthAt.mv {B B' : Nat} {own own' : Option Nat} {w w' : World} {v : Value} {p : List Nat} (h : PthAt B own w v p) (ht : Touch (fun b => own = some b) w w') (ho : ∀ b, own' = some b → own = some b ∨ w.heap.size ≤ b) (hB : B' ≤ B) : PthAt B' own' w' v p := by
 obtain ⟨b, cap, rfl, h1, h2, h3, h4, h5, h6⟩ := h
 refine ⟨b, cap, rfl, h1, h2, Nat.le_trans hB h3, Nat.lt_of_lt_of_le h4 ht.size, fun e => (ho b e).elim h5 (by omega), fun i hi => ht.cell (h6 i hi) h5⟩
def PthsAt (B : Nat) (own : Option Nat) (w : World) : List (List Nat) → List Value → Prop
 | [], cs => cs = []
 | p :: l, cs => ∃ v ds, cs = v :: ds ∧ PthAt B own w v p ∧ PthsAt B own w l ds
theorem PthsAt.mv {B B' : Nat} {own own' : Option Nat} {w w' : World} (ht : Touch (fun b => own = some b) w w') (ho : ∀ b, own' = some b → own = some b ∨ w.heap.size ≤ b) (hB : B' ≤ B) : ∀ {l : List (List Nat)} {cs : List Value}, PthsAt B own w l cs → PthsAt B' own' w' l cs
 | [], _, h => h
 | _ :: _, _, ⟨v, ds, h, hp, hd⟩ => ⟨v, ds, h, hp.mv ht ho hB, hd.mv ht ho hB⟩
theorem PthsAt.mv' {B : Nat} {own own' : Option Nat} {w : World} (ho : ∀ b, own' = some b → b < B) : ∀ {l : List (List Nat)} {cs : List Value}, PthsAt B own w l cs → PthsAt B own' w l cs
 | [], _, h => h
 | _ :: _, _, ⟨v, ds, h, ⟨b, cap, e, h1, h2, h3, h4, h5, h6⟩, hd⟩ => ⟨v, ds, h, ⟨b, cap, e, h1, h2, h3, h4, fun e => by have := ho b e; omega, h6⟩, hd.mv' ho⟩
theorem PthsAt.append {B : Nat} {own : Option Nat} {w : World} : ∀ {l m : List (List Nat)} {cs ds : List Value}, PthsAt B own w l cs → PthsAt B own w m ds → PthsAt B own w (l ++ m) (cs ++ ds)
 | [], _, _, _, h, hm => by rw [show _ = [] from h]; exact hm
 | _ :: _, _, _, _, ⟨v, es, h, hp, hd⟩, hm => by subst h; exact ⟨v, _, rfl, hp, hd.append hm⟩
theorem PthsAt.length {B : Nat} {own : Option Nat} {w : World} : ∀ {l : List (List Nat)} {cs : List Value}, PthsAt B own w l cs → cs.length = l.length
 | [], _, h => by rw [show _ = [] from h]; rfl
 | _ :: _, _, ⟨_, _, h, _, hd⟩ => by subst h; simp [hd.length]
theorem PthsAt.oneCell {B : Nat} {own : Option Nat} {w : World} : ∀ {l : List (List Nat)} {cs : List Value}, PthsAt B own w l cs → ∀ u ∈ cs, u.oneCell' = true
 | [], _, h, u, hu => by rw [show _ = [] from h] at hu; cases hu
 | _ :: _, _, ⟨v, ds, h, hp, hd⟩, u, hu => by
  subst h
  rcases List.mem_cons.1 hu with rfl | hu
  ·obtain ⟨b, cap, rfl, _⟩ := hp; rfl
  ·exact hd.oneCell u hu
theorem PthsAt.get {B : Nat} {own : Option Nat} {w : World} : ∀ {l : List (List Nat)} {cs : List Value}, PthsAt B own w l cs → ∀ i (hi : i < l.length), ∃ v, cs[i]? = some v ∧ PthAt B own w v l[i]
 | [], _, _, i, hi => by simp at hi
 | p :: l, _, ⟨v, ds, h, hp, hd⟩, i, hi => by
  subst h
  cases i with
  | zero => exact ⟨v, rfl, hp⟩
  | succ i =>
   obtain ⟨u, h1, h2⟩ := hd.get i (by simpa using hi)
   exact ⟨u, by simpa using h1, h2⟩
end Go.Proofs.YtdacpbdamliafaaGreat

/- The plain law of SpanOrder. -/
namespace Go.Proofs.YtdacpbdamliafaaGreat
open Go.RowKit
open Tr (Nd posRow)
def posL (n : Nd) : List (List Nat × Nat) := posRow (printT n) n.kids [] 0 0
theorem posL_all (n : Nd) : (posL n).map (·.1) = allP n.kids [] 0 := (Tr.pos_paths _ _).1 _ _ _ _ _
theorem up_inj {p q : List Nat} (h : up p = up q) : p = q := by
 have h1 := congrArg (List.map Int.toNat) h
 rw [List.map_map, List.map_map] at h1
 have e : (Int.toNat ∘ fun n : Nat => (n : Int)) = id := by funext n; simp
 rw [e, List.map_id, List.map_id] at h1
 exact h1
theorem off_hit (n : Nd) (hv : Tr.valid n = true) {p : List Nat} {v : Nat} (h : (p, v) ∈ posL n) : offR n (up p) = (v, 0) := by
 have h1 := Tr.offOf_mem ((Tr.pos_sorted (printT n)).1 _ _ _ _) h
 unfold Tr.offOf at h1
 have e : (fun x : List Nat × Nat => posIs (up p) x.1) = fun x => x.1 == p := by
  funext x
  unfold posIs
  rw [Bool.eq_iff_iff, decide_eq_true_eq, beq_iff_eq]
  exact ⟨fun h => up_inj h, fun h => by rw [h]⟩
 unfold offR
 rw [if_pos hv, e]
 rw [Option.map_eq_some_iff] at h1
 obtain ⟨x, h2, h3⟩ := h1
 have h2' : List.find? (fun x : List Nat × Nat => x.1 == p) (posRow (printT n) n.kids [] 0 0) = some x := h2
 rw [h2', ← h3]
theorem pos_fits (n : Nd) (hv : Tr.valid n = true) : 0 + (Tr.rowT n.kids).length ≤ (printT n).length := by rw [printT_len n hv]; omega
theorem pos_le (n : Nd) (hv : Tr.valid n = true) {p : List Nat} {v : Nat} (h : (p, v) ∈ posL n) : v ≤ (printS n).length := by
 have h1 := ((Tr.pos_bounds (printT_mono n)).1 n.kids (Tr.valid_row n hv).views [] 0 0 (pos_fits n hv) _ h).2
 rw [Nat.zero_add, printS_len n hv] at h1
 exact h1
theorem pos_up (n : Nd) (hv : Tr.valid n = true) : (posL n).Pairwise fun x y => x.2 ≤ y.2 := (Tr.pos_mono (printT_mono n)).1 n.kids (Tr.valid_row n hv).views [] 0 0 (pos_fits n hv)
theorem cmp_self : ∀ p : List Nat, Tr.cmp p p = 0 := Tr.cmp_refl
theorem at_pos (n : Nd) (hv : Tr.valid n = true) {p : List Nat} {v : Nat} (h : (p, v) ∈ posL n) : atE n v = 0 ∧ (atP n v, v) ∈ posL n ∧ Tr.cmp (atP n v) p ≤ 0 := by
 have hle := pos_le n hv h
 have hs := (Tr.pos_sorted (printT n)).1 n.kids [] 0 0
 have e1 : atP n v = ((posL n).foldl (fun s x => Tr.atG v s x.1 x.2) ([], -1)).1 := by
  unfold atP
  rw [if_pos ⟨hv, by omega, by omega⟩]
  rfl
 rw [Tr.at_fold v (posL n) _ hs (.inl rfl)] at e1
 obtain ⟨q, h1, h2, h3⟩ := Tr.at_hit (posL n) ([], -1) p v hs (pos_up n hv) (by show (-1 : Int) < v; omega) h
 rw [h1] at e1
 refine ⟨by unfold atE; rw [if_pos hv, if_pos ⟨by omega, by omega⟩], by rw [e1]; exact h2, ?_⟩
 rw [e1]
 rcases h3 with h3 | h3
 ·have h3' : q = p := h3
  show Tr.cmp q p ≤ 0
  rw [h3', cmp_self]
  omega
 ·show Tr.cmp q p ≤ 0
  omega
def lastAt (l : List (List Nat × Nat)) (i : Nat) : Nat := if i = 0 then 0 else (l[i - 1]?.map (·.2)).getD 0
theorem lastAt_succ (l : List (List Nat × Nat)) (i : Nat) (h : i < l.length) : lastAt l (i + 1) = l[i].2 := by
 unfold lastAt
 rw [if_neg (by omega), Nat.add_sub_cancel, List.getElem?_eq_getElem h]
 rfl
theorem lastAt_le (l : List (List Nat × Nat)) (hp : l.Pairwise fun x y => x.2 ≤ y.2) (i : Nat) (h : i < l.length) : lastAt l i ≤ l[i].2 := by
 cases i with
 | zero => exact Nat.zero_le _
 | succ i =>
  rw [lastAt_succ l i (by omega)]
  exact List.pairwise_iff_getElem.1 hp i (i + 1) (by omega) h (by omega)
theorem lastAt_end (n : Nd) (hv : Tr.valid n = true) : lastAt (posL n) (posL n).length = (printS n).length := by
 obtain ⟨l, h⟩ := Tr.pos_last (printT n) n.kids [] 0 0
 have h' : posL n = l ++ [([] ++ [0 + n.kids.length], Tr.endAt (printT n) (0 + (Tr.rowT n.kids).length))] := h
 rw [h', List.length_append, List.length_singleton, lastAt_succ _ _ (by simp)]
 rw [List.getElem_append_right (Nat.le_refl _)]
 simp only [Nat.sub_self, List.getElem_cons_zero]
 rw [Nat.zero_add, printS_len n hv]
end Go.Proofs.YtdacpbdamliafaaGreat
