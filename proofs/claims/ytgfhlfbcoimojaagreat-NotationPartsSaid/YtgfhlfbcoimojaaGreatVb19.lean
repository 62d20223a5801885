/- Part 19 of 45 of a proof; its texts, joined: NdN. No condition. -/
import Derived.Test.YtgfhlfbcoimojaaGreatVb18
import Derived.Deep.RegionWith

/- The walks of the reference's text and kids. -/
namespace Go.Proofs.YtgfhlfbcoimojaaGreat
open Go.RowKit
theorem byteSize (t : List UInt8) : (ByteArray.mk t.toArray).size = t.length := by show t.toArray.size = _; simp
theorem plainB_eq (t : List UInt8) : t.all plainB = Tr.printable t := by
 unfold Tr.printable
 congr 1
set_option maxRecDepth 100000 in
set_option maxHeartbeats 1000000 in
theorem text_plain (k : Int) (t : List UInt8) (cv sl : Value) (w : World) (h10 : (k == 10) = false) (h11 : (k == 11) = false) (hm : t.length ≤ 9223372036854775807) :
  Calls Tryz.prog 94 #[.agg #[.int .i64 k, .string ⟨t.toArray⟩, cv, sl]] w fun e w' => e = .returned (.bool (Tr.textOK k t)) ∧ Fresh w w' := by
 have hz : (ByteArray.mk t.toArray).size ≤ 9223372036854775807 := by rw [byteSize]; exact hm
 have HZ := hid hz
 clear hz
 go_enter Tryz.func94, Tryz.ntmps94
 cases h1 : (k == (2 : Int)) with
 | false =>
  have h1m : (k != (2 : Int)) = true := by rw [bne, h1]; rfl
  cases h2 : (k == (3 : Int)) with
  | false =>
   have h2m : (k != (3 : Int)) = true := by rw [bne, h2]; rfl
   cases h3 : (k == (4 : Int)) with
   | false =>
    have h3m : (k != (4 : Int)) = true := by rw [bne, h3]; rfl
    cases h4 : (t == ([] : List UInt8)) with
    | false =>
     have h4s : ((⟨t.toArray⟩ : ByteArray) == (⟨#[]⟩ : ByteArray)) = false := by rw [str_eq']; exact h4
     have h4t : ((⟨t.toArray⟩ : ByteArray) != (⟨#[]⟩ : ByteArray)) = true := by rw [bne, h4s]; rfl
     have h4e : (ByteArray.toList (⟨t.toArray⟩ : ByteArray)).isEmpty = false := by rw [isEmpty_str]; exact h4
     go_wp2_with fail
     go_ret
     exact ⟨ret_bool' _ _ (by unfold Tr.textOK; simp only [← plainB_eq]; simp_all <;> omega), (frA (Touch.refl _ _))⟩
    | true =>
     have h4s : ((⟨t.toArray⟩ : ByteArray) == (⟨#[]⟩ : ByteArray)) = true := by rw [str_eq']; exact h4
     have h4t : ((⟨t.toArray⟩ : ByteArray) != (⟨#[]⟩ : ByteArray)) = false := by rw [bne, h4s]; rfl
     have h4e : (ByteArray.toList (⟨t.toArray⟩ : ByteArray)).isEmpty = true := by rw [isEmpty_str]; exact h4
     go_wp2_with fail
     go_ret
     exact ⟨ret_bool' _ _ (by unfold Tr.textOK; simp only [← plainB_eq]; simp_all <;> omega), (frA (Touch.refl _ _))⟩
   | true =>
    have h3m : (k != (4 : Int)) = false := by rw [bne, h3]; rfl
    cases h5 : decide ((t.length : Int) ≤ (200 : Int)) with
    | false =>
     have h5n : decide (t.length ≤ 200) = false := by have hx := h5; simp only [decide_eq_false_iff_not] at hx ⊢; omega
     go_wp2_with fail
     go_ret
     exact ⟨ret_bool' _ _ (by unfold Tr.textOK; simp only [← plainB_eq]; simp_all <;> omega), (frA (Touch.refl _ _))⟩
    | true =>
     have h5n : decide (t.length ≤ 200) = true := by have hx := h5; simp only [decide_eq_true_eq] at hx ⊢; omega
     go_wp2_with fail
     refine Calls.mono (printable_any ⟨t.toArray⟩ _ HZ.out) ?_
     rintro _ w1q ⟨rfl, hqw1⟩
     replace hqw1 := hqw1.symm
     subst hqw1
     cases h6 : (t.all plainB) with
     | false =>
      go_wp2_with fail
      go_ret
      exact ⟨ret_bool' _ _ (by unfold Tr.textOK; simp only [← plainB_eq]; simp_all <;> omega), (frA (Touch.refl _ _))⟩
     | true =>
      go_wp2_with fail
      go_ret
      exact ⟨ret_bool' _ _ (by unfold Tr.textOK; simp only [← plainB_eq]; simp_all <;> omega), (frA (Touch.refl _ _))⟩
  | true =>
   have h2m : (k != (3 : Int)) = false := by rw [bne, h2]; rfl
   go_wp2_with fail
   refine Calls.mono (rNumber_any ⟨t.toArray⟩ _ HZ.out) ?_
   rintro _ w2q ⟨rfl, hqw2⟩
   replace hqw2 := hqw2.symm
   subst hqw2
   cases h7 : (Tr.isNum t) with
   | false =>
    go_wp2_with fail
    go_ret
    exact ⟨ret_bool' _ _ (by unfold Tr.textOK; simp only [← plainB_eq]; simp_all <;> omega), (frA (Touch.refl _ _))⟩
   | true =>
    go_wp2_with fail
    go_ret
    exact ⟨ret_bool' _ _ (by unfold Tr.textOK; simp only [← plainB_eq]; simp_all <;> omega), (frA (Touch.refl _ _))⟩
 | true =>
  have h1m : (k != (2 : Int)) = false := by rw [bne, h1]; rfl
  go_wp2_with fail
  refine Calls.mono (rSymbol_any ⟨t.toArray⟩ _ HZ.out) ?_
  rintro _ w3 ⟨rfl, hfw3⟩
  have HF3 := hid (show Fresh w w3 from preA hfw3)
  have B0_w3 : Blk w3 (w.heap.size) 26 #[.int .i64 k, .string (⟨t.toArray⟩ : ByteArray), cv, sl] := Touch.blk hfw3 (by first | exact blkN | assumption | exact blkA (by assumption)) (fun h => h)
  obtain ⟨q0_0_w3, q0_1_w3, q0_2_w3, q0_3_w3, _⟩ := Blk.four B0_w3
  clear hfw3
  cases h8 : (Tr.symbol t) with
  | false =>
   go_wp2_with fail
   go_ret
   exact ⟨ret_bool' _ _ (by unfold Tr.textOK; simp only [← plainB_eq]; simp_all <;> omega), (frA HF3.out)⟩
  | true =>
   go_wp2_with fail
   go_ret
   exact ⟨ret_bool' _ _ (by unfold Tr.textOK; simp only [← plainB_eq]; simp_all <;> omega), (frA HF3.out)⟩
set_option maxRecDepth 100000 in
set_option maxHeartbeats 1000000 in
theorem text_fence (k : Int) (hk : k = 11) (a b : UInt8) (cv sl : Value) (w : World) :
  Calls Tryz.prog 94 #[.agg #[.int .i64 k, .string ⟨#[a, b]⟩, cv, sl]] w fun e w' => e = .returned (.bool (Tr.textOK k [a, b])) ∧ Fresh w w' := by
 have hk0 : (k == 10) = false := by subst hk; rfl
 have hk1 : (k == 11) = true := by subst hk; rfl
 have hk2 : (k == 2) = false := by subst hk; rfl
 have hk3 : (k == 3) = false := by subst hk; rfl
 have hk4 : (k == 4) = false := by subst hk; rfl
 have HT := hid (show Tr.textOK k [a, b] = (Tr.delims.contains a && Tr.delims.contains b) by subst hk; rfl)
 have e0 : (ByteArray.mk #[a, b])[0]'(show 0 < 2 by decide) = a := rfl
 have e1 : (ByteArray.mk #[a, b])[1]'(show 1 < 2 by decide) = b := rfl
 have e2 : (ByteArray.mk #[a, b]).size = 2 := rfl
 clear hk
 go_enter Tryz.func94, Tryz.ntmps94
 go_wp2_with fail
 refine Calls.mono (has_any ⟨(Tr.delims).toArray⟩ a _ (by decide)) ?_
 rintro _ w1q ⟨rfl, hqw1⟩
 replace hqw1 := hqw1.symm
 subst hqw1
 cases h1 : (Tr.delims.contains a) with
 | false =>
  go_wp2_with fail
  go_ret
  exact ⟨ret_bool' _ _ (by rw [HT.out]; simp_all), (frA (Touch.refl _ _))⟩
 | true =>
  go_wp2_with fail
  refine Calls.mono (has_any ⟨(Tr.delims).toArray⟩ b _ (by decide)) ?_
  rintro _ w2q ⟨rfl, hqw2⟩
  replace hqw2 := hqw2.symm
  subst hqw2
  cases h2 : (Tr.delims.contains b) with
  | false =>
   go_wp2_with fail
   go_ret
   exact ⟨ret_bool' _ _ (by rw [HT.out]; simp_all), (frA (Touch.refl _ _))⟩
  | true =>
   go_wp2_with fail
   go_ret
   exact ⟨ret_bool' _ _ (by rw [HT.out]; simp_all), (frA (Touch.refl _ _))⟩
set_option maxRecDepth 100000 in
set_option maxHeartbeats 1000000 in
theorem text_nofence (k : Int) (hk : k = 11) (t : List UInt8) (ht : t.length ≠ 2) (cv sl : Value) (w : World) :
  Calls Tryz.prog 94 #[.agg #[.int .i64 k, .string ⟨t.toArray⟩, cv, sl]] w fun e w' => e = .returned (.bool (Tr.textOK k t)) ∧ Fresh w w' := by
 have hk0 : (k == 10) = false := by subst hk; rfl
 have hk1 : (k == 11) = true := by subst hk; rfl
 have hk2 : (k == 2) = false := by subst hk; rfl
 have hk3 : (k == 3) = false := by subst hk; rfl
 have hk4 : (k == 4) = false := by subst hk; rfl
 have HT := hid (show Tr.textOK k t = false by
  subst hk
  show Tr.fence t = false
  match t, ht with
  | [], _ => rfl
  | [_], _ => rfl
  | [_, _], h => exact absurd rfl h
  | _ :: _ :: _ :: _, _ => rfl)
 have f1 : ((t.length : Int) == 2) = false := by rw [beq_eq_false_iff_ne]; omega
 have f2 : (t.length == 2) = false := by rw [beq_eq_false_iff_ne]; exact ht
 have f3 : ¬ (t.length : Int) = 2 := by omega
 clear hk ht
 go_enter Tryz.func94, Tryz.ntmps94
 go_wp2_with fail
 go_ret
 exact ⟨ret_bool' _ _ (by rw [HT.out]), (frA (Touch.refl _ _))⟩
set_option maxRecDepth 100000 in
set_option maxHeartbeats 1000000 in
theorem text_accent (k : Int) (hk : k = 10) (t : List UInt8) (cv sl : Value) (w : World) :
  Calls Tryz.prog 94 #[.agg #[.int .i64 k, .string ⟨t.toArray⟩, cv, sl]] w fun e w' => e = .returned (.bool (Tr.textOK k t)) ∧ Fresh w w' := by
 have hk0 : (k == 10) = true := by subst hk; rfl
 have hk2 : (k == 2) = false := by subst hk; rfl
 have hk3 : (k == 3) = false := by subst hk; rfl
 have hk4 : (k == 4) = false := by subst hk; rfl
 have HT := hid (show Tr.textOK k t = Tr.accents.contains t by subst hk; rfl)
 clear hk
 go_enter Tryz.func94, Tryz.ntmps94
 go_wp2_with fail
 go_region_with (first
  | (go_at_call 130; refine (accents_any _).mono ?_; rintro _ w1 ⟨rfl, hf1, hb1⟩; have q1 := Blk.cell (Touch.blk hf1 (Blk.new _ _ _) (fun h => h)) 1; have hb2 : Blk w1 (w.heap.size + 1) 9 (strRow Tr.accents) := (by simpa using hb1); have HF1 := hid (Touch.trans (((Touch.refl _ w).alloc _).drew) hf1); clear hf1 hb1)
  | (go_at_call 129; refine (in_any Tr.accents ⟨t.toArray⟩ _ _ (by assumption) (by decide)).mono ?_; rintro _ _ ⟨rfl, rfl⟩))
 all_goals (go_wp2_with fail)
 all_goals go_ret
 all_goals exact ⟨ret_bool' _ _ (by rw [HT.out]; simp), HF1.out⟩
theorem text_any (k : Int) (t : List UInt8) (cv sl : Value) (w : World) (hm : t.length ≤ 9223372036854775807) :
  Calls Tryz.prog 94 #[.agg #[.int .i64 k, .string ⟨t.toArray⟩, cv, sl]] w fun e w' => e = .returned (.bool (Tr.textOK k t)) ∧ Fresh w w' := by
 by_cases h10 : k = 10
 ·exact text_accent k h10 t cv sl w
 ·by_cases h11 : k = 11
  ·by_cases h2 : t.length = 2
   ·match t, h2 with
    | [a, b], _ => exact text_fence k h11 a b cv sl w
   ·exact text_nofence k h11 t h2 cv sl w
  ·exact text_plain k t cv sl w (by simpa using h10) (by simpa using h11) hm
set_option maxRecDepth 100000 in
set_option maxHeartbeats 2000000 in
theorem kids_any (k c : Int) (n : Nat) (A : Option Addr) (cap : Nat) (tx : Value) (w : World) (hn : n ≤ 9223372036854775807) :
  Calls Tryz.prog 95 #[.agg #[.int .i64 k, tx, .int .i64 c, .slice A n cap]] w fun e w' => e = .returned (.bool (Tr.kidsOK k c n)) ∧ Fresh w w' := by
 go_enter Tryz.func95, Tryz.ntmps95
 cases h1 : (k == (12 : Int)) with
 | false =>
  have h1m : (k != (12 : Int)) = true := by rw [bne, h1]; rfl
  cases h2 : (c == (0 : Int)) with
  | false =>
   have h2m : (c != (0 : Int)) = true := by rw [bne, h2]; rfl
   go_wp2_with fail
   go_ret
   exact ⟨ret_bool' _ _ (by unfold Tr.kidsOK; simp_all <;> omega), (frA (Touch.refl _ _))⟩
  | true =>
   have h2m : (c != (0 : Int)) = false := by rw [bne, h2]; rfl
   cases h3 : (k == (1 : Int)) with
   | false =>
    have h3m : (k != (1 : Int)) = true := by rw [bne, h3]; rfl
    cases h4 : (k == (2 : Int)) with
    | false =>
     have h4m : (k != (2 : Int)) = true := by rw [bne, h4]; rfl
     cases h5 : (k == (3 : Int)) with
     | false =>
      have h5m : (k != (3 : Int)) = true := by rw [bne, h5]; rfl
      cases h6 : (k == (4 : Int)) with
      | false =>
       have h6m : (k != (4 : Int)) = true := by rw [bne, h6]; rfl
       cases h7 : (k == (5 : Int)) with
       | false =>
        have h7m : (k != (5 : Int)) = true := by rw [bne, h7]; rfl
        cases h8 : (k == (6 : Int)) with
        | false =>
         have h8m : (k != (6 : Int)) = true := by rw [bne, h8]; rfl
         cases h9 : (k == (7 : Int)) with
         | false =>
          have h9m : (k != (7 : Int)) = true := by rw [bne, h9]; rfl
          cases h10 : (k == (8 : Int)) with
          | false =>
           have h10m : (k != (8 : Int)) = true := by rw [bne, h10]; rfl
           cases h11 : (k == (9 : Int)) with
           | false =>
            have h11m : (k != (9 : Int)) = true := by rw [bne, h11]; rfl
            cases h12 : (k == (10 : Int)) with
            | false =>
             have h12m : (k != (10 : Int)) = true := by rw [bne, h12]; rfl
             cases h13 : (k == (11 : Int)) with
             | false =>
              have h13m : (k != (11 : Int)) = true := by rw [bne, h13]; rfl
              go_wp2_with fail
              go_ret
              exact ⟨ret_bool' _ _ (by unfold Tr.kidsOK; simp_all <;> omega), (frA (Touch.refl _ _))⟩
             | true =>
              have h13m : (k != (11 : Int)) = false := by rw [bne, h13]; rfl
              cases h14 : ((n : Int) == (1 : Int)) with
              | false =>
               have h14m : ((n : Int) != (1 : Int)) = true := by rw [bne, h14]; rfl
               have h14n : (n == 1) = false := by have hx := h14; simp only [beq_eq_false_iff_ne, ne_eq] at hx ⊢; omega
               go_wp2_with fail
               go_ret
               exact ⟨ret_bool' _ _ (by unfold Tr.kidsOK; simp_all <;> omega), (frA (Touch.refl _ _))⟩
              | true =>
               have h14m : ((n : Int) != (1 : Int)) = false := by rw [bne, h14]; rfl
               have h14n : (n == 1) = true := by have hx := h14; simp only [beq_iff_eq] at hx ⊢; omega
               go_wp2_with fail
               go_ret
               exact ⟨ret_bool' _ _ (by unfold Tr.kidsOK; simp_all <;> omega), (frA (Touch.refl _ _))⟩
            | true =>
             have h12m : (k != (10 : Int)) = false := by rw [bne, h12]; rfl
             cases h15 : ((n : Int) == (1 : Int)) with
             | false =>
              have h15m : ((n : Int) != (1 : Int)) = true := by rw [bne, h15]; rfl
              have h15n : (n == 1) = false := by have hx := h15; simp only [beq_eq_false_iff_ne, ne_eq] at hx ⊢; omega
              go_wp2_with fail
              go_ret
              exact ⟨ret_bool' _ _ (by unfold Tr.kidsOK; simp_all <;> omega), (frA (Touch.refl _ _))⟩
             | true =>
              have h15m : ((n : Int) != (1 : Int)) = false := by rw [bne, h15]; rfl
              have h15n : (n == 1) = true := by have hx := h15; simp only [beq_iff_eq] at hx ⊢; omega
              go_wp2_with fail
              go_ret
              exact ⟨ret_bool' _ _ (by unfold Tr.kidsOK; simp_all <;> omega), (frA (Touch.refl _ _))⟩
           | true =>
            have h11m : (k != (9 : Int)) = false := by rw [bne, h11]; rfl
            cases h16 : ((n : Int) == (3 : Int)) with
            | false =>
             have h16m : ((n : Int) != (3 : Int)) = true := by rw [bne, h16]; rfl
             have h16n : (n == 3) = false := by have hx := h16; simp only [beq_eq_false_iff_ne, ne_eq] at hx ⊢; omega
             go_wp2_with fail
             go_ret
             exact ⟨ret_bool' _ _ (by unfold Tr.kidsOK; simp_all <;> omega), (frA (Touch.refl _ _))⟩
            | true =>
             have h16m : ((n : Int) != (3 : Int)) = false := by rw [bne, h16]; rfl
             have h16n : (n == 3) = true := by have hx := h16; simp only [beq_iff_eq] at hx ⊢; omega
             go_wp2_with fail
             go_ret
             exact ⟨ret_bool' _ _ (by unfold Tr.kidsOK; simp_all <;> omega), (frA (Touch.refl _ _))⟩
          | true =>
           have h10m : (k != (8 : Int)) = false := by rw [bne, h10]; rfl
           cases h17 : ((n : Int) == (2 : Int)) with
           | false =>
            have h17m : ((n : Int) != (2 : Int)) = true := by rw [bne, h17]; rfl
            have h17n : (n == 2) = false := by have hx := h17; simp only [beq_eq_false_iff_ne, ne_eq] at hx ⊢; omega
            go_wp2_with fail
            go_ret
            exact ⟨ret_bool' _ _ (by unfold Tr.kidsOK; simp_all <;> omega), (frA (Touch.refl _ _))⟩
           | true =>
            have h17m : ((n : Int) != (2 : Int)) = false := by rw [bne, h17]; rfl
            have h17n : (n == 2) = true := by have hx := h17; simp only [beq_iff_eq] at hx ⊢; omega
            go_wp2_with fail
            go_ret
            exact ⟨ret_bool' _ _ (by unfold Tr.kidsOK; simp_all <;> omega), (frA (Touch.refl _ _))⟩
         | true =>
          have h9m : (k != (7 : Int)) = false := by rw [bne, h9]; rfl
          cases h18 : ((n : Int) == (2 : Int)) with
          | false =>
           have h18m : ((n : Int) != (2 : Int)) = true := by rw [bne, h18]; rfl
           have h18n : (n == 2) = false := by have hx := h18; simp only [beq_eq_false_iff_ne, ne_eq] at hx ⊢; omega
           go_wp2_with fail
           go_ret
           exact ⟨ret_bool' _ _ (by unfold Tr.kidsOK; simp_all <;> omega), (frA (Touch.refl _ _))⟩
          | true =>
           have h18m : ((n : Int) != (2 : Int)) = false := by rw [bne, h18]; rfl
           have h18n : (n == 2) = true := by have hx := h18; simp only [beq_iff_eq] at hx ⊢; omega
           go_wp2_with fail
           go_ret
           exact ⟨ret_bool' _ _ (by unfold Tr.kidsOK; simp_all <;> omega), (frA (Touch.refl _ _))⟩
        | true =>
         have h8m : (k != (6 : Int)) = false := by rw [bne, h8]; rfl
         cases h19 : ((n : Int) == (2 : Int)) with
         | false =>
          have h19m : ((n : Int) != (2 : Int)) = true := by rw [bne, h19]; rfl
          have h19n : (n == 2) = false := by have hx := h19; simp only [beq_eq_false_iff_ne, ne_eq] at hx ⊢; omega
          go_wp2_with fail
          go_ret
          exact ⟨ret_bool' _ _ (by unfold Tr.kidsOK; simp_all <;> omega), (frA (Touch.refl _ _))⟩
         | true =>
          have h19m : ((n : Int) != (2 : Int)) = false := by rw [bne, h19]; rfl
          have h19n : (n == 2) = true := by have hx := h19; simp only [beq_iff_eq] at hx ⊢; omega
          go_wp2_with fail
          go_ret
          exact ⟨ret_bool' _ _ (by unfold Tr.kidsOK; simp_all <;> omega), (frA (Touch.refl _ _))⟩
       | true =>
        have h7m : (k != (5 : Int)) = false := by rw [bne, h7]; rfl
        cases h20 : ((n : Int) == (2 : Int)) with
        | false =>
         have h20m : ((n : Int) != (2 : Int)) = true := by rw [bne, h20]; rfl
         have h20n : (n == 2) = false := by have hx := h20; simp only [beq_eq_false_iff_ne, ne_eq] at hx ⊢; omega
         go_wp2_with fail
         go_ret
         exact ⟨ret_bool' _ _ (by unfold Tr.kidsOK; simp_all <;> omega), (frA (Touch.refl _ _))⟩
        | true =>
         have h20m : ((n : Int) != (2 : Int)) = false := by rw [bne, h20]; rfl
         have h20n : (n == 2) = true := by have hx := h20; simp only [beq_iff_eq] at hx ⊢; omega
         go_wp2_with fail
         go_ret
         exact ⟨ret_bool' _ _ (by unfold Tr.kidsOK; simp_all <;> omega), (frA (Touch.refl _ _))⟩
      | true =>
       have h6m : (k != (4 : Int)) = false := by rw [bne, h6]; rfl
       cases h21 : ((n : Int) == (0 : Int)) with
       | false =>
        have h21m : ((n : Int) != (0 : Int)) = true := by rw [bne, h21]; rfl
        have h21n : (n == 0) = false := by have hx := h21; simp only [beq_eq_false_iff_ne, ne_eq] at hx ⊢; omega
        go_wp2_with fail
        go_ret
        exact ⟨ret_bool' _ _ (by unfold Tr.kidsOK; simp_all <;> omega), (frA (Touch.refl _ _))⟩
       | true =>
        have h21m : ((n : Int) != (0 : Int)) = false := by rw [bne, h21]; rfl
        have h21n : (n == 0) = true := by have hx := h21; simp only [beq_iff_eq] at hx ⊢; omega
        go_wp2_with fail
        go_ret
        exact ⟨ret_bool' _ _ (by unfold Tr.kidsOK; simp_all <;> omega), (frA (Touch.refl _ _))⟩
     | true =>
      have h5m : (k != (3 : Int)) = false := by rw [bne, h5]; rfl
      cases h22 : ((n : Int) == (0 : Int)) with
      | false =>
       have h22m : ((n : Int) != (0 : Int)) = true := by rw [bne, h22]; rfl
       have h22n : (n == 0) = false := by have hx := h22; simp only [beq_eq_false_iff_ne, ne_eq] at hx ⊢; omega
       go_wp2_with fail
       go_ret
       exact ⟨ret_bool' _ _ (by unfold Tr.kidsOK; simp_all <;> omega), (frA (Touch.refl _ _))⟩
      | true =>
       have h22m : ((n : Int) != (0 : Int)) = false := by rw [bne, h22]; rfl
       have h22n : (n == 0) = true := by have hx := h22; simp only [beq_iff_eq] at hx ⊢; omega
       go_wp2_with fail
       go_ret
       exact ⟨ret_bool' _ _ (by unfold Tr.kidsOK; simp_all <;> omega), (frA (Touch.refl _ _))⟩
    | true =>
     have h4m : (k != (2 : Int)) = false := by rw [bne, h4]; rfl
     cases h23 : ((n : Int) == (0 : Int)) with
     | false =>
      have h23m : ((n : Int) != (0 : Int)) = true := by rw [bne, h23]; rfl
      have h23n : (n == 0) = false := by have hx := h23; simp only [beq_eq_false_iff_ne, ne_eq] at hx ⊢; omega
      go_wp2_with fail
      go_ret
      exact ⟨ret_bool' _ _ (by unfold Tr.kidsOK; simp_all <;> omega), (frA (Touch.refl _ _))⟩
     | true =>
      have h23m : ((n : Int) != (0 : Int)) = false := by rw [bne, h23]; rfl
      have h23n : (n == 0) = true := by have hx := h23; simp only [beq_iff_eq] at hx ⊢; omega
      go_wp2_with fail
      go_ret
      exact ⟨ret_bool' _ _ (by unfold Tr.kidsOK; simp_all <;> omega), (frA (Touch.refl _ _))⟩
   | true =>
    have h3m : (k != (1 : Int)) = false := by rw [bne, h3]; rfl
    cases h24 : decide ((n : Int) ≤ (200 : Int)) with
    | false =>
     have h24n : decide (n ≤ 200) = false := by have hx := h24; simp only [decide_eq_false_iff_not] at hx ⊢; omega
     go_wp2_with fail
     go_ret
     exact ⟨ret_bool' _ _ (by unfold Tr.kidsOK; simp_all <;> omega), (frA (Touch.refl _ _))⟩
    | true =>
     have h24p := of_decide_eq_true h24
     have h24n : decide (n ≤ 200) = true := by have hx := h24; simp only [decide_eq_true_eq] at hx ⊢; omega
     go_wp2_with fail
     go_ret
     exact ⟨ret_bool' _ _ (by unfold Tr.kidsOK; simp_all <;> omega), (frA (Touch.refl _ _))⟩
 | true =>
  have h1m : (k != (12 : Int)) = false := by rw [bne, h1]; rfl
  cases h25 : decide ((1 : Int) ≤ c) with
  | false =>
   go_wp2_with fail
   go_ret
   exact ⟨ret_bool' _ _ (by unfold Tr.kidsOK; simp_all <;> omega), (frA (Touch.refl _ _))⟩
  | true =>
   have h25p := of_decide_eq_true h25
   cases h26 : decide (c ≤ (16 : Int)) with
   | false =>
    go_wp2_with fail
    go_ret
    exact ⟨ret_bool' _ _ (by unfold Tr.kidsOK; simp_all <;> omega), (frA (Touch.refl _ _))⟩
   | true =>
    have h26p := of_decide_eq_true h26
    cases h27 : decide ((1 : Int) ≤ (n : Int)) with
    | false =>
     have h27n : decide (1 ≤ n) = false := by have hx := h27; simp only [decide_eq_false_iff_not] at hx ⊢; omega
     go_wp2_with fail
     go_ret
     exact ⟨ret_bool' _ _ (by unfold Tr.kidsOK; simp_all <;> omega), (frA (Touch.refl _ _))⟩
    | true =>
     have h27p := of_decide_eq_true h27
     have h27n : decide (1 ≤ n) = true := by have hx := h27; simp only [decide_eq_true_eq] at hx ⊢; omega
     cases h28 : decide ((n : Int) ≤ (256 : Int)) with
     | false =>
      have h28n : decide (n ≤ 256) = false := by have hx := h28; simp only [decide_eq_false_iff_not] at hx ⊢; omega
      go_wp2_with fail
      go_ret
      exact ⟨ret_bool' _ _ (by unfold Tr.kidsOK; simp_all <;> omega), (frA (Touch.refl _ _))⟩
     | true =>
      have h28p := of_decide_eq_true h28
      have h28n : decide (n ≤ 256) = true := by have hx := h28; simp only [decide_eq_true_eq] at hx ⊢; omega
      cases h29 : (((n : Int) % c) == (0 : Int)) with
      | false =>
       have h29m : (((n : Int) % c) != (0 : Int)) = true := by rw [bne, h29]; rfl
       go_wp2_with fail
       go_ret
       exact ⟨ret_bool' _ _ (by unfold Tr.kidsOK; simp_all <;> omega), (frA (Touch.refl _ _))⟩
      | true =>
       have h29m : (((n : Int) % c) != (0 : Int)) = false := by rw [bne, h29]; rfl
       go_wp2_with fail
       go_ret
       exact ⟨ret_bool' _ _ (by unfold Tr.kidsOK; simp_all <;> omega), (frA (Touch.refl _ _))⟩
end Go.Proofs.YtgfhlfbcoimojaaGreat
