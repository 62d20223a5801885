/- Part 11 of 42 of a proof; its texts, joined: NdN, NdO. No condition. -/
import Derived.Test.YtomibmenojdieaaGreatXx10
import Derived.Deep.RegionWith
set_option maxRecDepth 100000
set_option maxHeartbeats 2000000
namespace Go.Proofs.YtomibmenojdieaaGreat
open Go.RowKit
theorem byteSize (t : List UInt8) : (ByteArray.mk t.toArray).size = t.length := by show t.toArray.size = _; simp
theorem plainB_eq (t : List UInt8) : t.all plainB = Tr.printable t := by
 unfold Tr.printable
 congr 1
theorem text_plain (k : Int) (t : List UInt8) (cv sl : Value) (w : World) (h10 : (k == 10) = false) (h11 : (k == 11) = false) (hm : t.length ≤ 9223372036854775807) :
  Calls Tryz.prog 57 #[.agg #[.int .i64 k, .string ⟨t.toArray⟩, cv, sl]] w fun e w' => e = .returned (.bool (Tr.textOK k t)) ∧ Fresh w w' := by
 have hz : (ByteArray.mk t.toArray).size ≤ 9223372036854775807 := by rw [byteSize]; exact hm
 have HZ := hid hz;clear hz;go_enter Tryz.func57, Tryz.ntmps57;cases h1 : (k == (2 : Int)) with
 | false =>
  have h1m : (k != (2 : Int)) = true := by rw [bne, h1]; rfl
  cases h2 : (k == (3 : Int)) with
  | false =>
   have h2m : (k != (3 : Int)) = true := by rw [bne, h2]; rfl
   cases h3 : (k == (4 : Int)) with
   | false =>
    have h3m : (k != (4 : Int)) = true := by rw [bne, h3]; rfl
    cases h4 : (t == ([] : List UInt8)) with
    | false =>
     have h4s : ((⟨t.toArray⟩ : ByteArray) == (⟨#[]⟩ : ByteArray)) = false := by rw [str_eq']; exact h4
     have h4t : ((⟨t.toArray⟩ : ByteArray) != (⟨#[]⟩ : ByteArray)) = true := by rw [bne, h4s]; rfl
     have h4e : (ByteArray.toList (⟨t.toArray⟩ : ByteArray)).isEmpty = false := by rw [isEmpty_str]; exact h4
     go_wp2_with fail
     go_ret;exact ⟨ret_bool' _ _ (by unfold Tr.textOK; simp only [← plainB_eq]; simp_all <;> omega), frR⟩
    | true =>
     have h4s : ((⟨t.toArray⟩ : ByteArray) == (⟨#[]⟩ : ByteArray)) = true := by rw [str_eq']; exact h4
     have h4t : ((⟨t.toArray⟩ : ByteArray) != (⟨#[]⟩ : ByteArray)) = false := by rw [bne, h4s]; rfl
     have h4e : (ByteArray.toList (⟨t.toArray⟩ : ByteArray)).isEmpty = true := by rw [isEmpty_str]; exact h4
     go_wp2_with fail
     go_ret;exact ⟨ret_bool' _ _ (by unfold Tr.textOK; simp only [← plainB_eq]; simp_all <;> omega), frR⟩
   | true =>
    have h3m : (k != (4 : Int)) = false := by rw [bne, h3]; rfl
    cases h5 : decide ((t.length : Int) ≤ (200 : Int)) with
    | false =>
     have h5n : decide (t.length ≤ 200) = false := by have hx := h5; simp only [decide_eq_false_iff_not] at hx ⊢; omega
     go_wp2_with fail
     go_ret;exact ⟨ret_bool' _ _ (by unfold Tr.textOK; simp only [← plainB_eq]; simp_all <;> omega), frR⟩
    | true =>
     have h5n : decide (t.length ≤ 200) = true := by have hx := h5; simp only [decide_eq_true_eq] at hx ⊢; omega
     go_wp2_with fail
     refine Calls.mono (printable_any ⟨t.toArray⟩ _ HZ.out) ?_;rintro _ w1q ⟨rfl, hqw1⟩;replace hqw1 := hqw1.symm;subst hqw1;cases h6 : (t.all plainB) with
     | false =>
      go_wp2_with fail
      go_ret;exact ⟨ret_bool' _ _ (by unfold Tr.textOK; simp only [← plainB_eq]; simp_all <;> omega), frR⟩
     | true =>
      go_wp2_with fail
      go_ret;exact ⟨ret_bool' _ _ (by unfold Tr.textOK; simp only [← plainB_eq]; simp_all <;> omega), frR⟩
  | true =>
   have h2m : (k != (3 : Int)) = false := by rw [bne, h2]; rfl
   go_wp2_with fail
   refine Calls.mono (rNumber_any ⟨t.toArray⟩ _ HZ.out) ?_;rintro _ w2q ⟨rfl, hqw2⟩;replace hqw2 := hqw2.symm;subst hqw2;cases h7 : (Tr.isNum t) with
   | false =>
    go_wp2_with fail
    go_ret;exact ⟨ret_bool' _ _ (by unfold Tr.textOK; simp only [← plainB_eq]; simp_all <;> omega), frR⟩
   | true =>
    go_wp2_with fail
    go_ret;exact ⟨ret_bool' _ _ (by unfold Tr.textOK; simp only [← plainB_eq]; simp_all <;> omega), frR⟩
 | true =>
  have h1m : (k != (2 : Int)) = false := by rw [bne, h1]; rfl
  go_wp2_with fail
  refine Calls.mono (rSymbol_any ⟨t.toArray⟩ _ HZ.out) ?_;rintro _ w3 ⟨rfl, hfw3⟩;have HF3 := hid (show Fresh w w3 from preA hfw3);have B0_w3 : Blk w3 (w.heap.size) 35 #[.int .i64 k, .string (⟨t.toArray⟩ : ByteArray), cv, sl] := Touch.blk hfw3 (by first | exact blkN | assumption | exact blkA (by assumption)) (fun h => h);obtain ⟨q0_0_w3, q0_1_w3, q0_2_w3, q0_3_w3, _⟩ := Blk.four B0_w3;clear hfw3;cases h8 : (Tr.symbol t) with
  | false =>
   go_wp2_with fail
   go_ret;exact ⟨ret_bool' _ _ (by unfold Tr.textOK; simp only [← plainB_eq]; simp_all <;> omega), (frA HF3.out)⟩
  | true =>
   go_wp2_with fail
   go_ret;exact ⟨ret_bool' _ _ (by unfold Tr.textOK; simp only [← plainB_eq]; simp_all <;> omega), (frA HF3.out)⟩
theorem text_fence (k : Int) (hk : k = 11) (a b : UInt8) (cv sl : Value) (w : World) :
  Calls Tryz.prog 57 #[.agg #[.int .i64 k, .string ⟨#[a, b]⟩, cv, sl]] w fun e w' => e = .returned (.bool (Tr.textOK k [a, b])) ∧ Fresh w w' := by
 have hk0 : (k == 10) = false := by subst hk; rfl
 have hk1 : (k == 11) = true := by subst hk; rfl
 have hk2 : (k == 2) = false := by subst hk; rfl
 have hk3 : (k == 3) = false := by subst hk; rfl
 have hk4 : (k == 4) = false := by subst hk; rfl
 have HT := hid (show Tr.textOK k [a, b] = (Tr.delims.contains a && Tr.delims.contains b) by subst hk; rfl);have e0 : (ByteArray.mk #[a, b])[0]'(show 0 < 2 by decide) = a := rfl;have e1 : (ByteArray.mk #[a, b])[1]'(show 1 < 2 by decide) = b := rfl;have e2 : (ByteArray.mk #[a, b]).size = 2 := rfl;clear hk;go_enter Tryz.func57, Tryz.ntmps57;go_wp2_with fail
 refine Calls.mono (has_any ⟨(Tr.delims).toArray⟩ a _ (by decide)) ?_;rintro _ w1q ⟨rfl, hqw1⟩;replace hqw1 := hqw1.symm;subst hqw1;cases h1 : (Tr.delims.contains a) with
 | false =>
  go_wp2_with fail
  go_ret;exact ⟨ret_bool' _ _ (by rw [HT.out]; simp_all), frR⟩
 | true =>
  go_wp2_with fail
  refine Calls.mono (has_any ⟨(Tr.delims).toArray⟩ b _ (by decide)) ?_;rintro _ w2q ⟨rfl, hqw2⟩;replace hqw2 := hqw2.symm;subst hqw2;cases h2 : (Tr.delims.contains b) with
  | false =>
   go_wp2_with fail
   go_ret;exact ⟨ret_bool' _ _ (by rw [HT.out]; simp_all), frR⟩
  | true =>
   go_wp2_with fail
   go_ret;exact ⟨ret_bool' _ _ (by rw [HT.out]; simp_all), frR⟩
theorem text_nofence (k : Int) (hk : k = 11) (t : List UInt8) (ht : t.length ≠ 2) (cv sl : Value) (w : World) :
  Calls Tryz.prog 57 #[.agg #[.int .i64 k, .string ⟨t.toArray⟩, cv, sl]] w fun e w' => e = .returned (.bool (Tr.textOK k t)) ∧ Fresh w w' := by
 have hk0 : (k == 10) = false := by subst hk; rfl
 have hk1 : (k == 11) = true := by subst hk; rfl
 have hk2 : (k == 2) = false := by subst hk; rfl
 have hk3 : (k == 3) = false := by subst hk; rfl
 have hk4 : (k == 4) = false := by subst hk; rfl
 have HT := hid (show Tr.textOK k t = false by
  subst hk;show Tr.fence t = false
  match t, ht with
  | [], _ => rfl
  | [_], _ => rfl
  | [_, _], h => exact absurd rfl h
  | _ :: _ :: _ :: _, _ => rfl)
 have f1 : ((t.length : Int) == 2) = false := by rw [beq_eq_false_iff_ne]; omega
 have f2 : (t.length == 2) = false := by rw [beq_eq_false_iff_ne]; exact ht
 have f3 : ¬ (t.length : Int) = 2 := by omega
 clear hk ht;go_enter Tryz.func57, Tryz.ntmps57;go_wp2_with fail
 go_ret;exact ⟨ret_bool' _ _ (by rw [HT.out]), frR⟩
theorem text_accent (k : Int) (hk : k = 10) (t : List UInt8) (cv sl : Value) (w : World) :
  Calls Tryz.prog 57 #[.agg #[.int .i64 k, .string ⟨t.toArray⟩, cv, sl]] w fun e w' => e = .returned (.bool (Tr.textOK k t)) ∧ Fresh w w' := by
 have hk0 : (k == 10) = true := by subst hk; rfl
 have hk2 : (k == 2) = false := by subst hk; rfl
 have hk3 : (k == 3) = false := by subst hk; rfl
 have hk4 : (k == 4) = false := by subst hk; rfl
 have HT := hid (show Tr.textOK k t = Tr.accents.contains t by subst hk; rfl);clear hk;go_enter Tryz.func57, Tryz.ntmps57;go_wp2_with fail
 go_region_with (first
  | (go_at_call 79; refine (accents_any _).mono ?_; rintro _ w1 ⟨rfl, hf1, hb1⟩; have q1 := Blk.cell (Touch.blk hf1 (Blk.new _ _ _) (fun h => h)) 1; have hb2 : Blk w1 (w.heap.size + 1) 9 (strRow Tr.accents) := (by simpa using hb1); have HF1 := hid (Touch.trans (((Touch.refl _ w).alloc _).drew) hf1); clear hf1 hb1)
  | (go_at_call 78; refine (in_any Tr.accents ⟨t.toArray⟩ _ _ (by assumption) (by decide)).mono ?_; rintro _ _ ⟨rfl, rfl⟩))
 all_goals (go_wp2_with fail)
 all_goals go_ret
 all_goals exact ⟨ret_bool' _ _ (by rw [HT.out]; simp), HF1.out⟩
theorem text_any (k : Int) (t : List UInt8) (cv sl : Value) (w : World) (hm : t.length ≤ 9223372036854775807) :
  Calls Tryz.prog 57 #[.agg #[.int .i64 k, .string ⟨t.toArray⟩, cv, sl]] w fun e w' => e = .returned (.bool (Tr.textOK k t)) ∧ Fresh w w' := by
 by_cases h10 : k = 10
 ·exact text_accent k h10 t cv sl w
 ·by_cases h11 : k = 11
  ·by_cases h2 : t.length = 2
   ·match t, h2 with
    | [a, b], _ => exact text_fence k h11 a b cv sl w
   ·exact text_nofence k h11 t h2 cv sl w
  ·exact text_plain k t cv sl w (by simpa using h10) (by simpa using h11) hm
theorem kids_any (k c : Int) (n : Nat) (A : Option Addr) (cap : Nat) (tx : Value) (w : World) (hn : n ≤ 9223372036854775807) :
  Calls Tryz.prog 58 #[.agg #[.int .i64 k, tx, .int .i64 c, .slice A n cap]] w fun e w' => e = .returned (.bool (Tr.kidsOK k c n)) ∧ Fresh w w' := by
 go_enter Tryz.func58, Tryz.ntmps58;cases h1 : (k == (12 : Int)) with
 | false =>
  have h1m : (k != (12 : Int)) = true := by rw [bne, h1]; rfl
  cases h2 : (c == (0 : Int)) with
  | false =>
   have h2m : (c != (0 : Int)) = true := by rw [bne, h2]; rfl
   go_wp2_with fail
   go_ret;exact ⟨ret_bool' _ _ (by unfold Tr.kidsOK; simp_all <;> omega), frR⟩
  | true =>
   have h2m : (c != (0 : Int)) = false := by rw [bne, h2]; rfl
   cases h3 : (k == (1 : Int)) with
   | false =>
    have h3m : (k != (1 : Int)) = true := by rw [bne, h3]; rfl
    cases h4 : (k == (2 : Int)) with
    | false =>
     have h4m : (k != (2 : Int)) = true := by rw [bne, h4]; rfl
     cases h5 : (k == (3 : Int)) with
     | false =>
      have h5m : (k != (3 : Int)) = true := by rw [bne, h5]; rfl
      cases h6 : (k == (4 : Int)) with
      | false =>
       have h6m : (k != (4 : Int)) = true := by rw [bne, h6]; rfl
       cases h7 : (k == (5 : Int)) with
       | false =>
        have h7m : (k != (5 : Int)) = true := by rw [bne, h7]; rfl
        cases h8 : (k == (6 : Int)) with
        | false =>
         have h8m : (k != (6 : Int)) = true := by rw [bne, h8]; rfl
         cases h9 : (k == (7 : Int)) with
         | false =>
          have h9m : (k != (7 : Int)) = true := by rw [bne, h9]; rfl
          cases h10 : (k == (8 : Int)) with
          | false =>
           have h10m : (k != (8 : Int)) = true := by rw [bne, h10]; rfl
           cases h11 : (k == (9 : Int)) with
           | false =>
            have h11m : (k != (9 : Int)) = true := by rw [bne, h11]; rfl
            cases h12 : (k == (10 : Int)) with
            | false =>
             have h12m : (k != (10 : Int)) = true := by rw [bne, h12]; rfl
             cases h13 : (k == (11 : Int)) with
             | false =>
              have h13m : (k != (11 : Int)) = true := by rw [bne, h13]; rfl
              go_wp2_with fail
              go_ret;exact ⟨ret_bool' _ _ (by unfold Tr.kidsOK; simp_all <;> omega), frR⟩
             | true =>
              have h13m : (k != (11 : Int)) = false := by rw [bne, h13]; rfl
              cases h14 : ((n : Int) == (1 : Int)) with
              | false =>
               have h14m : ((n : Int) != (1 : Int)) = true := by rw [bne, h14]; rfl
               have h14n : (n == 1) = false := by have hx := h14; simp only [beq_eq_false_iff_ne, ne_eq] at hx ⊢; omega
               go_wp2_with fail
               go_ret;exact ⟨ret_bool' _ _ (by unfold Tr.kidsOK; simp_all <;> omega), frR⟩
              | true =>
               have h14m : ((n : Int) != (1 : Int)) = false := by rw [bne, h14]; rfl
               have h14n : (n == 1) = true := by have hx := h14; simp only [beq_iff_eq] at hx ⊢; omega
               go_wp2_with fail
               go_ret;exact ⟨ret_bool' _ _ (by unfold Tr.kidsOK; simp_all <;> omega), frR⟩
            | true =>
             have h12m : (k != (10 : Int)) = false := by rw [bne, h12]; rfl
             cases h15 : ((n : Int) == (1 : Int)) with
             | false =>
              have h15m : ((n : Int) != (1 : Int)) = true := by rw [bne, h15]; rfl
              have h15n : (n == 1) = false := by have hx := h15; simp only [beq_eq_false_iff_ne, ne_eq] at hx ⊢; omega
              go_wp2_with fail
              go_ret;exact ⟨ret_bool' _ _ (by unfold Tr.kidsOK; simp_all <;> omega), frR⟩
             | true =>
              have h15m : ((n : Int) != (1 : Int)) = false := by rw [bne, h15]; rfl
              have h15n : (n == 1) = true := by have hx := h15; simp only [beq_iff_eq] at hx ⊢; omega
              go_wp2_with fail
              go_ret;exact ⟨ret_bool' _ _ (by unfold Tr.kidsOK; simp_all <;> omega), frR⟩
           | true =>
            have h11m : (k != (9 : Int)) = false := by rw [bne, h11]; rfl
            cases h16 : ((n : Int) == (3 : Int)) with
            | false =>
             have h16m : ((n : Int) != (3 : Int)) = true := by rw [bne, h16]; rfl
             have h16n : (n == 3) = false := by have hx := h16; simp only [beq_eq_false_iff_ne, ne_eq] at hx ⊢; omega
             go_wp2_with fail
             go_ret;exact ⟨ret_bool' _ _ (by unfold Tr.kidsOK; simp_all <;> omega), frR⟩
            | true =>
             have h16m : ((n : Int) != (3 : Int)) = false := by rw [bne, h16]; rfl
             have h16n : (n == 3) = true := by have hx := h16; simp only [beq_iff_eq] at hx ⊢; omega
             go_wp2_with fail
             go_ret;exact ⟨ret_bool' _ _ (by unfold Tr.kidsOK; simp_all <;> omega), frR⟩
          | true =>
           have h10m : (k != (8 : Int)) = false := by rw [bne, h10]; rfl
           cases h17 : ((n : Int) == (2 : Int)) with
           | false =>
            have h17m : ((n : Int) != (2 : Int)) = true := by rw [bne, h17]; rfl
            have h17n : (n == 2) = false := by have hx := h17; simp only [beq_eq_false_iff_ne, ne_eq] at hx ⊢; omega
            go_wp2_with fail
            go_ret;exact ⟨ret_bool' _ _ (by unfold Tr.kidsOK; simp_all <;> omega), frR⟩
           | true =>
            have h17m : ((n : Int) != (2 : Int)) = false := by rw [bne, h17]; rfl
            have h17n : (n == 2) = true := by have hx := h17; simp only [beq_iff_eq] at hx ⊢; omega
            go_wp2_with fail
            go_ret;exact ⟨ret_bool' _ _ (by unfold Tr.kidsOK; simp_all <;> omega), frR⟩
         | true =>
          have h9m : (k != (7 : Int)) = false := by rw [bne, h9]; rfl
          cases h18 : ((n : Int) == (2 : Int)) with
          | false =>
           have h18m : ((n : Int) != (2 : Int)) = true := by rw [bne, h18]; rfl
           have h18n : (n == 2) = false := by have hx := h18; simp only [beq_eq_false_iff_ne, ne_eq] at hx ⊢; omega
           go_wp2_with fail
           go_ret;exact ⟨ret_bool' _ _ (by unfold Tr.kidsOK; simp_all <;> omega), frR⟩
          | true =>
           have h18m : ((n : Int) != (2 : Int)) = false := by rw [bne, h18]; rfl
           have h18n : (n == 2) = true := by have hx := h18; simp only [beq_iff_eq] at hx ⊢; omega
           go_wp2_with fail
           go_ret;exact ⟨ret_bool' _ _ (by unfold Tr.kidsOK; simp_all <;> omega), frR⟩
        | true =>
         have h8m : (k != (6 : Int)) = false := by rw [bne, h8]; rfl
         cases h19 : ((n : Int) == (2 : Int)) with
         | false =>
          have h19m : ((n : Int) != (2 : Int)) = true := by rw [bne, h19]; rfl
          have h19n : (n == 2) = false := by have hx := h19; simp only [beq_eq_false_iff_ne, ne_eq] at hx ⊢; omega
          go_wp2_with fail
          go_ret;exact ⟨ret_bool' _ _ (by unfold Tr.kidsOK; simp_all <;> omega), frR⟩
         | true =>
          have h19m : ((n : Int) != (2 : Int)) = false := by rw [bne, h19]; rfl
          have h19n : (n == 2) = true := by have hx := h19; simp only [beq_iff_eq] at hx ⊢; omega
          go_wp2_with fail
          go_ret;exact ⟨ret_bool' _ _ (by unfold Tr.kidsOK; simp_all <;> omega), frR⟩
       | true =>
        have h7m : (k != (5 : Int)) = false := by rw [bne, h7]; rfl
        cases h20 : ((n : Int) == (2 : Int)) with
        | false =>
         have h20m : ((n : Int) != (2 : Int)) = true := by rw [bne, h20]; rfl
         have h20n : (n == 2) = false := by have hx := h20; simp only [beq_eq_false_iff_ne, ne_eq] at hx ⊢; omega
         go_wp2_with fail
         go_ret;exact ⟨ret_bool' _ _ (by unfold Tr.kidsOK; simp_all <;> omega), frR⟩
        | true =>
         have h20m : ((n : Int) != (2 : Int)) = false := by rw [bne, h20]; rfl
         have h20n : (n == 2) = true := by have hx := h20; simp only [beq_iff_eq] at hx ⊢; omega
         go_wp2_with fail
         go_ret;exact ⟨ret_bool' _ _ (by unfold Tr.kidsOK; simp_all <;> omega), frR⟩
      | true =>
       have h6m : (k != (4 : Int)) = false := by rw [bne, h6]; rfl
       cases h21 : ((n : Int) == (0 : Int)) with
       | false =>
        have h21m : ((n : Int) != (0 : Int)) = true := by rw [bne, h21]; rfl
        have h21n : (n == 0) = false := by have hx := h21; simp only [beq_eq_false_iff_ne, ne_eq] at hx ⊢; omega
        go_wp2_with fail
        go_ret;exact ⟨ret_bool' _ _ (by unfold Tr.kidsOK; simp_all <;> omega), frR⟩
       | true =>
        have h21m : ((n : Int) != (0 : Int)) = false := by rw [bne, h21]; rfl
        have h21n : (n == 0) = true := by have hx := h21; simp only [beq_iff_eq] at hx ⊢; omega
        go_wp2_with fail
        go_ret;exact ⟨ret_bool' _ _ (by unfold Tr.kidsOK; simp_all <;> omega), frR⟩
     | true =>
      have h5m : (k != (3 : Int)) = false := by rw [bne, h5]; rfl
      cases h22 : ((n : Int) == (0 : Int)) with
      | false =>
       have h22m : ((n : Int) != (0 : Int)) = true := by rw [bne, h22]; rfl
       have h22n : (n == 0) = false := by have hx := h22; simp only [beq_eq_false_iff_ne, ne_eq] at hx ⊢; omega
       go_wp2_with fail
       go_ret;exact ⟨ret_bool' _ _ (by unfold Tr.kidsOK; simp_all <;> omega), frR⟩
      | true =>
       have h22m : ((n : Int) != (0 : Int)) = false := by rw [bne, h22]; rfl
       have h22n : (n == 0) = true := by have hx := h22; simp only [beq_iff_eq] at hx ⊢; omega
       go_wp2_with fail
       go_ret;exact ⟨ret_bool' _ _ (by unfold Tr.kidsOK; simp_all <;> omega), frR⟩
    | true =>
     have h4m : (k != (2 : Int)) = false := by rw [bne, h4]; rfl
     cases h23 : ((n : Int) == (0 : Int)) with
     | false =>
      have h23m : ((n : Int) != (0 : Int)) = true := by rw [bne, h23]; rfl
      have h23n : (n == 0) = false := by have hx := h23; simp only [beq_eq_false_iff_ne, ne_eq] at hx ⊢; omega
      go_wp2_with fail
      go_ret;exact ⟨ret_bool' _ _ (by unfold Tr.kidsOK; simp_all <;> omega), frR⟩
     | true =>
      have h23m : ((n : Int) != (0 : Int)) = false := by rw [bne, h23]; rfl
      have h23n : (n == 0) = true := by have hx := h23; simp only [beq_iff_eq] at hx ⊢; omega
      go_wp2_with fail
      go_ret;exact ⟨ret_bool' _ _ (by unfold Tr.kidsOK; simp_all <;> omega), frR⟩
   | true =>
    have h3m : (k != (1 : Int)) = false := by rw [bne, h3]; rfl
    cases h24 : decide ((n : Int) ≤ (200 : Int)) with
    | false =>
     have h24n : decide (n ≤ 200) = false := by have hx := h24; simp only [decide_eq_false_iff_not] at hx ⊢; omega
     go_wp2_with fail
     go_ret;exact ⟨ret_bool' _ _ (by unfold Tr.kidsOK; simp_all <;> omega), frR⟩
    | true =>
     have h24p := of_decide_eq_true h24;have h24n : decide (n ≤ 200) = true := by have hx := h24; simp only [decide_eq_true_eq] at hx ⊢; omega
     go_wp2_with fail
     go_ret;exact ⟨ret_bool' _ _ (by unfold Tr.kidsOK; simp_all <;> omega), frR⟩
 | true =>
  have h1m : (k != (12 : Int)) = false := by rw [bne, h1]; rfl
  cases h25 : decide ((1 : Int) ≤ c) with
  | false =>
   go_wp2_with fail
   go_ret;exact ⟨ret_bool' _ _ (by unfold Tr.kidsOK; simp_all <;> omega), frR⟩
  | true =>
   have h25p := of_decide_eq_true h25;cases h26 : decide (c ≤ (16 : Int)) with
   | false =>
    go_wp2_with fail
    go_ret;exact ⟨ret_bool' _ _ (by unfold Tr.kidsOK; simp_all <;> omega), frR⟩
   | true =>
    have h26p := of_decide_eq_true h26;cases h27 : decide ((1 : Int) ≤ (n : Int)) with
    | false =>
     have h27n : decide (1 ≤ n) = false := by have hx := h27; simp only [decide_eq_false_iff_not] at hx ⊢; omega
     go_wp2_with fail
     go_ret;exact ⟨ret_bool' _ _ (by unfold Tr.kidsOK; simp_all <;> omega), frR⟩
    | true =>
     have h27p := of_decide_eq_true h27;have h27n : decide (1 ≤ n) = true := by have hx := h27; simp only [decide_eq_true_eq] at hx ⊢; omega
     cases h28 : decide ((n : Int) ≤ (256 : Int)) with
     | false =>
      have h28n : decide (n ≤ 256) = false := by have hx := h28; simp only [decide_eq_false_iff_not] at hx ⊢; omega
      go_wp2_with fail
      go_ret;exact ⟨ret_bool' _ _ (by unfold Tr.kidsOK; simp_all <;> omega), frR⟩
     | true =>
      have h28p := of_decide_eq_true h28;have h28n : decide (n ≤ 256) = true := by have hx := h28; simp only [decide_eq_true_eq] at hx ⊢; omega
      cases h29 : (((n : Int) % c) == (0 : Int)) with
      | false =>
       have h29m : (((n : Int) % c) != (0 : Int)) = true := by rw [bne, h29]; rfl
       go_wp2_with fail
       go_ret;exact ⟨ret_bool' _ _ (by unfold Tr.kidsOK; simp_all <;> omega), frR⟩
      | true =>
       have h29m : (((n : Int) % c) != (0 : Int)) = false := by rw [bne, h29]; rfl
       go_wp2_with fail
       go_ret;exact ⟨ret_bool' _ _ (by unfold Tr.kidsOK; simp_all <;> omega), frR⟩
theorem depthL_take (l : List Tr.Nd) (i : Nat) (h : i < l.length) : Tr.depthL (l.take (i + 1)) = max (Tr.depthL (l.take i)) (Tr.depth l[i]) := by
 induction l generalizing i with
 | nil => simp at h
 | cons x l ih =>
  cases i with
  | zero => simp [Tr.depthL]
  | succ i =>
   simp only [List.take_succ_cons, Tr.depthL, List.getElem_cons_succ];rw [ih i (by simpa using h)]; omega
theorem depth_le (n : Tr.Nd) : Tr.depth n ≤ Tr.count n := by
 induction n using Tr.Nd.ind with
 | h n ih =>
  have hL : ∀ l : List Tr.Nd, (∀ x ∈ l, Tr.depth x ≤ Tr.count x) → Tr.depthL l ≤ Tr.countL l := by
   intro l
   induction l with
   | nil => intro _; simp [Tr.depthL]
   | cons x l ihl =>
    intro h;rw [Tr.depthL, Tr.countL];have h1 := h x (by simp);have h2 := ihl fun y hy => h y (by simp [hy])
    omega
  rw [Tr.depth_kids, Tr.count_kids];have := hL n.kids ih;omega
theorem depthL_le (l : List Tr.Nd) : Tr.depthL l ≤ Tr.countL l := by
 induction l with
 | nil => simp [Tr.depthL]
 | cons x l ihl =>
  rw [Tr.depthL, Tr.countL];have h1 := depth_le x;omega
theorem depthL_take_le (l : List Tr.Nd) (j : Nat) : Tr.depthL (l.take j) ≤ Tr.countL l := Nat.le_trans (depthL_le _) (Tr.countL_le l j)
theorem form_any (m : Nat) : ∀ (n : Tr.Nd) (sl : Value) (w : World), Tr.count n ≤ m → m ≤ 1000000 → RepL w n.kids sl → n.text.length ≤ maxLen →
  Calls Tryz.prog 34 #[.agg #[.int .i64 n.kind, .string ⟨n.text.toArray⟩, .int .i64 n.cols, sl]] w fun e w' => e = .returned (.bool (Tr.form n)) ∧ Fresh w w' := by
 induction m with
 | zero => intro n _ _ h; have := Tr.count_pos n; omega
 | succ m ih =>
  intro n sl w hc hm hr ht;obtain ⟨A, cap, rfl⟩ := hr.slice;have hlen := hr.len;unfold maxLen at hlen ht;have HIH := hid ih;have HR := hid hr;have HN0 := hid (Tr.form_eq n);have hkc : Tr.countL n.kids ≤ m := by have := Tr.count_kids n; omega
  have hkl := Tr.countL_len n.kids;clear ih hr;generalize n.kids = ks at *;go_enter Tryz.func34, Tryz.ntmps34;go_wp2_with fail
  refine Calls.mono (text_any _ n.text _ _ _ (by omega)) ?_;rintro _ w1 ⟨rfl, hfw1⟩;have HF1 := hid (show Fresh w w1 from preA hfw1);have B0_w1 : Blk w1 (w.heap.size) 35 #[.int .i64 n.kind, .string (⟨n.text.toArray⟩ : ByteArray), .int .i64 n.cols, .slice A ks.length cap] := Touch.blk hfw1 (by first | exact blkN | assumption | exact blkA (by assumption)) (fun h => h);obtain ⟨q0_0_w1, q0_1_w1, q0_2_w1, q0_3_w1, _⟩ := Blk.four B0_w1;clear hfw1;cases h1 : (Tr.textOK n.kind n.text) with
  | false =>
   go_wp2_with fail
   go_ret;exact ⟨ret_bool' _ _ (by rw [HN0.out, show (Tr.textOK n.kind n.text) = false from by assumption]; rfl), (frA HF1.out)⟩
  | true =>
   go_wp2_with fail
   refine Calls.mono (kids_any _ _ ks.length _ _ _ _ (by omega)) ?_;rintro _ w2 ⟨rfl, hfw2⟩;have HF2 := hid (show Fresh w1 w2 from preA hfw2);have B0_w2 := Touch.blk hfw2 (blkA B0_w1) (fun h => h);clear q0_0_w1 q0_1_w1 q0_2_w1 q0_3_w1 B0_w1;obtain ⟨q0_0_w2, q0_1_w2, q0_2_w2, q0_3_w2, _⟩ := Blk.four B0_w2;clear hfw2;cases h2 : (Tr.kidsOK n.kind n.cols ks.length) with
   | false =>
    go_wp2_with fail
    go_ret;exact ⟨ret_bool' _ _ (by rw [HN0.out, show (Tr.textOK n.kind n.text) = true from by assumption, show (Tr.kidsOK n.kind n.cols ks.length) = false from by assumption]; rfl), (frA (HF1.out.trans HF2.out))⟩
   | true =>
    go_wp2_with fail
    go_loopw [3] (fun i wr => ∃ j : Nat, i = .int .i64 j ∧ j ≤ ks.length ∧ Hid (Tr.formL (n.kind == 1) (ks.take j) = true) ∧ Hid (Blk wr w.heap.size 35 #[.int .i64 n.kind, .string ⟨n.text.toArray⟩, .int .i64 n.cols, .slice A ks.length cap]) ∧ Hid (Fresh w wr)) (fun i _ => ks.length - (intOf i).toNat)
    case atStart => exact ⟨0, rfl, Nat.zero_le _, by simp [Tr.formL, Hid], by assumption, HF1.out.trans HF2.out⟩
    case round =>
     obtain ⟨j, rfl, hj, HA, HB, HF⟩ := hrel
     by_cases c1 : j < ks.length
     ·have d1 : decide ((j : Int) < (ks.length : Int)) = true := dT (by omega)
      have d1n : decide (j < ks.length) = true := dT (by omega);have d1' : (j : Int) < (ks.length : Int) := by omega
      obtain ⟨g, o, sx, rfl, hg, m0, m1, m2, m3, hrk⟩ := HR.out.get j c1;have htx := HR.out.texts j c1;have hcm := Tr.count_mem (List.getElem_mem (l := ks) (n := j) c1);have HS := hid (Tr.formL_take (n.kind == 1) ks j c1);have HN := hid (Tr.formL_no (n.kind == 1) ks j c1);have xx0_wr := Touch.cell HF.out m0 (fun h => h);have xx1_wr := Touch.cell HF.out m1 (fun h => h);have xx2_wr := Touch.cell HF.out m2 (fun h => h);have xx3_wr := Touch.cell HF.out m3 (fun h => h);have hgr : g < wr.heap.size := bL xx0_wr;have HRK := hid hrk;clear m0 m1 m2 m3 hrk hg HR;generalize ks[j] = x at *;obtain ⟨q0_0_wr, q0_1_wr, q0_2_wr, q0_3_wr, _⟩ := Blk.four HB.out;have B0_wr : Blk wr w.heap.size 35 #[.int .i64 n.kind, .string (⟨n.text.toArray⟩ : ByteArray), .int .i64 n.cols, .slice (some ⟨g, o, none⟩) ks.length cap] := HB.out;have hlt_w_wr : w.heap.size < wr.heap.size := Blk.lt HB.out;cases h3 : (x.kind == (1 : Int)) with
      | false =>
       have h3m : (x.kind != (1 : Int)) = true := by rw [bne, h3]; rfl
       cases h4 : (n.kind == (1 : Int)) with
       | false =>
        have h4m : (n.kind != (1 : Int)) = true := by rw [bne, h4]; rfl
        go_wp2_with fail
        go_quiet (fail)
        go_wp2_with fail
        go_ret;exact ⟨ret_bool' _ _ (by rw [HN0.out, HN.out (by rw [show (x.kind == 1) = false from by assumption, show (n.kind == 1) = false from by assumption]; rfl), Bool.and_false]), (frA HF.out)⟩
       | true =>
        have h4m : (n.kind != (1 : Int)) = false := by rw [bne, h4]; rfl
        go_wp2_with fail
        refine forget_world (fun W => Fresh wr W ∧ Blk W (w.heap.size) 35 #[.int .i64 n.kind, .string (⟨n.text.toArray⟩ : ByteArray), .int .i64 n.cols, .slice (some ⟨g, o, none⟩) ks.length cap]) ⟨frR, (by first | exact blkN | assumption | exact blkA (by assumption))⟩ ?_;rintro w3 ⟨hfw3, hb0_w3⟩;have HF3 := hid hfw3;clear hfw3 q0_0_wr q0_1_wr q0_2_wr q0_3_wr B0_wr;have r0_0_w3 := cR (show World.cell? w3 ⟨w.heap.size, 0, none⟩ = some (.int .i64 n.kind) from Blk.cell hb0_w3 0);have r0_1_w3 := cR (show World.cell? w3 ⟨w.heap.size, 1, none⟩ = some (.string (⟨n.text.toArray⟩ : ByteArray)) from Blk.cell hb0_w3 1);have r0_2_w3 := cR (show World.cell? w3 ⟨w.heap.size, 2, none⟩ = some (.int .i64 n.cols) from Blk.cell hb0_w3 2);have r0_3_w3 := cR (show World.cell? w3 ⟨w.heap.size, 3, none⟩ = some (.slice (some ⟨g, o, none⟩) ks.length cap) from Blk.cell hb0_w3 3);obtain ⟨xx0_w3, xx1_w3, xx2_w3, xx3_w3⟩ := mv4 HF3.out xx0_wr xx1_wr xx2_wr xx3_wr;clear xx0_wr xx1_wr xx2_wr xx3_wr;have gxx0_w3 := cR xx0_w3;have gxx1_w3 := cR xx1_w3;have gxx2_w3 := cR xx2_w3;have gxx3_w3 := cR xx3_w3;have C0_w3 := hid (calmF (P := Tryz.prog) w3 (fun w hw => HIH.out x sx _ (by omega) (by omega) (HRK.out.fresh (Touch.trans (HF.out.trans HF3.out) hw)) htx));refine wp_region_quiet_below (by kernel_rfl) (by kernel_rfl) ?_
        repeat (quiet_step (first | with_reducible exact C0_w3.out _ _))
        refine wpQuiet_nil ?_;rintro w4 ⟨⟨_, _⟩, hWw4⟩;have hfw4 : Fresh w3 w4 := by rw [hWw4]; exact fresh_of_below (below_regrown _ _ _)
        clear hWw4 r0_0_w3 r0_1_w3 r0_2_w3 r0_3_w3 gxx0_w3 gxx1_w3 gxx2_w3 gxx3_w3;have HF4 := hid (show Fresh w3 w4 from preA hfw4);have B0_w4 := Touch.blk hfw4 (blkA hb0_w3) (fun h => h);clear hb0_w3;obtain ⟨q0_0_w4, q0_1_w4, q0_2_w4, q0_3_w4, _⟩ := Blk.four B0_w4;obtain ⟨xx0_w4, xx1_w4, xx2_w4, xx3_w4⟩ := mv4 HF4.out xx0_w3 xx1_w3 xx2_w3 xx3_w3;clear xx0_w3 xx1_w3 xx2_w3 xx3_w3;clear hfw4;cases h5 : (Tr.form x) with
        | false =>
         go_wp2_with fail
         go_ret;exact ⟨ret_bool' _ _ (by rw [HN0.out, HN.out (by rw [show (x.kind == 1) = false from by assumption, show (n.kind == 1) = true from by assumption, show (Tr.form x) = false from by assumption]; rfl), Bool.and_false]), (frA (HF.out.trans (HF3.out.trans HF4.out)))⟩
        | true =>
         go_wp2_with fail
         go_roundw
         case rel => exact ⟨j + 1, by go_num, c1, by have h : Tr.formL (n.kind == 1) (ks.take (j + 1)) = true := (by rw [HS.out, HA.out, show (x.kind == 1) = false from by assumption, show (n.kind == 1) = true from by assumption, show (Tr.form x) = true from by assumption]; rfl); rw [show (n.kind == 1) = true from by assumption] at h; exact h, B0_w4, (HF.out.trans (HF3.out.trans HF4.out))⟩
         case measure => simp [intOf]; omega
      | true =>
       have h3m : (x.kind != (1 : Int)) = false := by rw [bne, h3]; rfl
       cases h6 : (n.kind == (1 : Int)) with
       | false =>
        have h6m : (n.kind != (1 : Int)) = true := by rw [bne, h6]; rfl
        go_wp2_with fail
        refine forget_world (fun W => Fresh wr W ∧ Blk W (w.heap.size) 35 #[.int .i64 n.kind, .string (⟨n.text.toArray⟩ : ByteArray), .int .i64 n.cols, .slice (some ⟨g, o, none⟩) ks.length cap]) ⟨frR, (by first | exact blkN | assumption | exact blkA (by assumption))⟩ ?_;rintro w5 ⟨hfw5, hb0_w5⟩;have HF5 := hid hfw5;clear hfw5 q0_0_wr q0_1_wr q0_2_wr q0_3_wr B0_wr;have r0_0_w5 := cR (show World.cell? w5 ⟨w.heap.size, 0, none⟩ = some (.int .i64 n.kind) from Blk.cell hb0_w5 0);have r0_1_w5 := cR (show World.cell? w5 ⟨w.heap.size, 1, none⟩ = some (.string (⟨n.text.toArray⟩ : ByteArray)) from Blk.cell hb0_w5 1);have r0_2_w5 := cR (show World.cell? w5 ⟨w.heap.size, 2, none⟩ = some (.int .i64 n.cols) from Blk.cell hb0_w5 2);have r0_3_w5 := cR (show World.cell? w5 ⟨w.heap.size, 3, none⟩ = some (.slice (some ⟨g, o, none⟩) ks.length cap) from Blk.cell hb0_w5 3);obtain ⟨xx0_w5, xx1_w5, xx2_w5, xx3_w5⟩ := mv4 HF5.out xx0_wr xx1_wr xx2_wr xx3_wr;clear xx0_wr xx1_wr xx2_wr xx3_wr;have gxx0_w5 := cR xx0_w5;have gxx1_w5 := cR xx1_w5;have gxx2_w5 := cR xx2_w5;have gxx3_w5 := cR xx3_w5;have C0_w5 := hid (calmF (P := Tryz.prog) w5 (fun w hw => HIH.out x sx _ (by omega) (by omega) (HRK.out.fresh (Touch.trans (HF.out.trans HF5.out) hw)) htx));refine wp_region_quiet_below (by kernel_rfl) (by kernel_rfl) ?_
        repeat (quiet_step (first | with_reducible exact C0_w5.out _ _))
        refine wpQuiet_nil ?_;rintro w6 ⟨⟨_, _⟩, hWw6⟩;have hfw6 : Fresh w5 w6 := by rw [hWw6]; exact fresh_of_below (below_regrown _ _ _)
        clear hWw6 r0_0_w5 r0_1_w5 r0_2_w5 r0_3_w5 gxx0_w5 gxx1_w5 gxx2_w5 gxx3_w5;have HF6 := hid (show Fresh w5 w6 from preA hfw6);have B0_w6 := Touch.blk hfw6 (blkA hb0_w5) (fun h => h);clear hb0_w5;obtain ⟨q0_0_w6, q0_1_w6, q0_2_w6, q0_3_w6, _⟩ := Blk.four B0_w6;obtain ⟨xx0_w6, xx1_w6, xx2_w6, xx3_w6⟩ := mv4 HF6.out xx0_w5 xx1_w5 xx2_w5 xx3_w5;clear xx0_w5 xx1_w5 xx2_w5 xx3_w5;clear hfw6;cases h7 : (Tr.form x) with
        | false =>
         go_wp2_with fail
         go_ret;exact ⟨ret_bool' _ _ (by rw [HN0.out, HN.out (by rw [show (x.kind == 1) = true from by assumption, show (n.kind == 1) = false from by assumption, show (Tr.form x) = false from by assumption]; rfl), Bool.and_false]), (frA (HF.out.trans (HF5.out.trans HF6.out)))⟩
        | true =>
         go_wp2_with fail
         go_roundw
         case rel => exact ⟨j + 1, by go_num, c1, by have h : Tr.formL (n.kind == 1) (ks.take (j + 1)) = true := (by rw [HS.out, HA.out, show (x.kind == 1) = true from by assumption, show (n.kind == 1) = false from by assumption, show (Tr.form x) = true from by assumption]; rfl); rw [show (n.kind == 1) = false from by assumption] at h; exact h, B0_w6, (HF.out.trans (HF5.out.trans HF6.out))⟩
         case measure => simp [intOf]; omega
       | true =>
        have h6m : (n.kind != (1 : Int)) = false := by rw [bne, h6]; rfl
        go_wp2_with fail
        go_quiet (fail)
        go_wp2_with fail
        go_ret;exact ⟨ret_bool' _ _ (by rw [HN0.out, HN.out (by rw [show (x.kind == 1) = true from by assumption, show (n.kind == 1) = true from by assumption]; rfl), Bool.and_false]), (frA HF.out)⟩
     ·have d1 : decide ((j : Int) < (ks.length : Int)) = false := dF (by omega)
      have d1n : decide (j < ks.length) = false := dF (by omega);obtain rfl : j = ks.length := by omega
      obtain ⟨q0_0_wr, q0_1_wr, q0_2_wr, q0_3_wr, _⟩ := Blk.four HB.out;have B0_wr : Blk wr w.heap.size 35 #[.int .i64 n.kind, .string (⟨n.text.toArray⟩ : ByteArray), .int .i64 n.cols, .slice A ks.length cap] := HB.out;have hlt_w_wr : w.heap.size < wr.heap.size := Blk.lt HB.out;go_wp2_with fail
      go_ret;exact ⟨ret_bool' _ _ (by have := HA.out; rw [List.take_length] at this; rw [HN0.out, this, show (Tr.textOK n.kind n.text) = true from by assumption, show (Tr.kidsOK n.kind n.cols ks.length) = true from by assumption]; rfl), (frA HF.out)⟩
theorem count_any (m : Nat) : ∀ (n : Tr.Nd) (sl : Value) (w : World), Tr.count n ≤ m → m ≤ 1000000 → RepL w n.kids sl → n.text.length ≤ maxLen →
  Calls Tryz.prog 35 #[.agg #[.int .i64 n.kind, .string ⟨n.text.toArray⟩, .int .i64 n.cols, sl]] w fun e w' => e = .returned (.int .i64 (Tr.count n)) ∧ Fresh w w' := by
 induction m with
 | zero => intro n _ _ h; have := Tr.count_pos n; omega
 | succ m ih =>
  intro n sl w hc hm hr ht;obtain ⟨A, cap, rfl⟩ := hr.slice;have hlen := hr.len;unfold maxLen at hlen ht;have HIH := hid ih;have HR := hid hr;have HN0 := hid (Tr.count_kids n);have hkc : Tr.countL n.kids ≤ m := by have := Tr.count_kids n; omega
  have hkl := Tr.countL_len n.kids;clear ih hr;generalize n.kids = ks at *;go_enter Tryz.func35, Tryz.ntmps35;go_wp2_with fail
  go_loopw [3, 4] (fun c i wr => ∃ j : Nat, c = .int .i64 ((1 + Tr.countL (ks.take j) : Nat) : Int) ∧ i = .int .i64 j ∧ j ≤ ks.length ∧ Hid (Blk wr w.heap.size 35 #[.int .i64 n.kind, .string ⟨n.text.toArray⟩, .int .i64 n.cols, .slice A ks.length cap]) ∧ Hid (Fresh w wr)) (fun _ i _ => ks.length - (intOf i).toNat)
  case atStart => exact ⟨0, by simp [Tr.countL], rfl, Nat.zero_le _, Blk.new _ _ _, (Touch.refl _ _).alloc _⟩
  case round =>
   obtain ⟨j, rfl, rfl, hj, HB, HF⟩ := hrel
   by_cases c1 : j < ks.length
   ·have d1 : decide ((j : Int) < (ks.length : Int)) = true := dT (by omega)
    have d1n : decide (j < ks.length) = true := dT (by omega);have d1' : (j : Int) < (ks.length : Int) := by omega
    obtain ⟨g, o, sx, rfl, hg, m0, m1, m2, m3, hrk⟩ := HR.out.get j c1;have htx := HR.out.texts j c1;have hcm := Tr.count_mem (List.getElem_mem (l := ks) (n := j) c1);have HS := hid (Tr.countL_take ks j c1);have hct := Tr.countL_le ks j;have hcs : Tr.countL (ks.take j) + Tr.count ks[j] ≤ Tr.countL ks := by rw [← HS.out]; exact Tr.countL_le ks (j + 1)
    have xx0_wr := Touch.cell HF.out m0 (fun h => h);have xx1_wr := Touch.cell HF.out m1 (fun h => h);have xx2_wr := Touch.cell HF.out m2 (fun h => h);have xx3_wr := Touch.cell HF.out m3 (fun h => h);have hgr : g < wr.heap.size := bL xx0_wr;have HRK := hid hrk;clear m0 m1 m2 m3 hrk hg HR;generalize ks[j] = x at *;obtain ⟨q0_0_wr, q0_1_wr, q0_2_wr, q0_3_wr, _⟩ := Blk.four HB.out;have B0_wr : Blk wr w.heap.size 35 #[.int .i64 n.kind, .string (⟨n.text.toArray⟩ : ByteArray), .int .i64 n.cols, .slice (some ⟨g, o, none⟩) ks.length cap] := HB.out;have hlt_w_wr : w.heap.size < wr.heap.size := Blk.lt HB.out;go_wp2_with fail
    refine Calls.mono (HIH.out x sx _ (by omega) (by omega) (HRK.out.fresh (frA HF.out)) htx) ?_;rintro _ w1 ⟨rfl, hfw1⟩;have HF1 := hid (show Fresh wr w1 from preA hfw1);have B0_w1 := Touch.blk hfw1 (blkA B0_wr) (fun h => h);clear q0_0_wr q0_1_wr q0_2_wr q0_3_wr B0_wr;obtain ⟨q0_0_w1, q0_1_w1, q0_2_w1, q0_3_w1, _⟩ := Blk.four B0_w1;obtain ⟨xx0_w1, xx1_w1, xx2_w1, xx3_w1⟩ := mv4 HF1.out xx0_wr xx1_wr xx2_wr xx3_wr;clear xx0_wr xx1_wr xx2_wr xx3_wr;clear hfw1;go_wp2_with fail
    go_roundw
    case rel => exact ⟨j + 1, by rw [HS.out]; go_num, by go_num, c1, B0_w1, (HF.out.trans HF1.out)⟩
    case measure => simp [intOf]; omega
   ·have d1 : decide ((j : Int) < (ks.length : Int)) = false := dF (by omega)
    have d1n : decide (j < ks.length) = false := dF (by omega);obtain rfl : j = ks.length := by omega
    obtain ⟨q0_0_wr, q0_1_wr, q0_2_wr, q0_3_wr, _⟩ := Blk.four HB.out;have B0_wr : Blk wr w.heap.size 35 #[.int .i64 n.kind, .string (⟨n.text.toArray⟩ : ByteArray), .int .i64 n.cols, .slice A ks.length cap] := HB.out;have hlt_w_wr : w.heap.size < wr.heap.size := Blk.lt HB.out;go_wp2_with fail
    go_ret;exact ⟨by rw [HN0.out]; first | (have := List.take_length (l := ks); simp_all) | rfl, (frA HF.out)⟩
theorem depth_any (m : Nat) : ∀ (n : Tr.Nd) (sl : Value) (w : World), Tr.count n ≤ m → m ≤ 1000000 → RepL w n.kids sl → n.text.length ≤ maxLen →
  Calls Tryz.prog 36 #[.agg #[.int .i64 n.kind, .string ⟨n.text.toArray⟩, .int .i64 n.cols, sl]] w fun e w' => e = .returned (.int .i64 (Tr.depth n)) ∧ Fresh w w' := by
 induction m with
 | zero => intro n _ _ h; have := Tr.count_pos n; omega
 | succ m ih =>
  intro n sl w hc hm hr ht;obtain ⟨A, cap, rfl⟩ := hr.slice;have hlen := hr.len;unfold maxLen at hlen ht;have HIH := hid ih;have HR := hid hr;have HN0 := hid (Tr.depth_kids n);have hkc : Tr.countL n.kids ≤ m := by have := Tr.count_kids n; omega
  have hkl := Tr.countL_len n.kids;have hdl := depthL_le n.kids;clear ih hr;generalize n.kids = ks at *;go_enter Tryz.func36, Tryz.ntmps36;go_wp2_with fail
  go_loopw [3, 4] (fun c i wr => ∃ j : Nat, c = .int .i64 ((Tr.depthL (ks.take j) : Nat) : Int) ∧ i = .int .i64 j ∧ j ≤ ks.length ∧ Hid (Blk wr w.heap.size 35 #[.int .i64 n.kind, .string ⟨n.text.toArray⟩, .int .i64 n.cols, .slice A ks.length cap]) ∧ Hid (Fresh w wr)) (fun _ i _ => ks.length - (intOf i).toNat)
  case atStart => exact ⟨0, by simp [Tr.depthL], rfl, Nat.zero_le _, Blk.new _ _ _, (Touch.refl _ _).alloc _⟩
  case round =>
   obtain ⟨j, rfl, rfl, hj, HB, HF⟩ := hrel
   by_cases c1 : j < ks.length
   ·have d1 : decide ((j : Int) < (ks.length : Int)) = true := dT (by omega)
    have d1n : decide (j < ks.length) = true := dT (by omega);have d1' : (j : Int) < (ks.length : Int) := by omega
    obtain ⟨g, o, sx, rfl, hg, m0, m1, m2, m3, hrk⟩ := HR.out.get j c1;have htx := HR.out.texts j c1;have hcm := Tr.count_mem (List.getElem_mem (l := ks) (n := j) c1);have HS := hid (depthL_take ks j c1);have hdj := depthL_take_le ks j;have hdx := depth_le ks[j];have xx0_wr := Touch.cell HF.out m0 (fun h => h);have xx1_wr := Touch.cell HF.out m1 (fun h => h);have xx2_wr := Touch.cell HF.out m2 (fun h => h);have xx3_wr := Touch.cell HF.out m3 (fun h => h);have hgr : g < wr.heap.size := bL xx0_wr;have HRK := hid hrk;clear m0 m1 m2 m3 hrk hg HR;generalize ks[j] = x at *;obtain ⟨q0_0_wr, q0_1_wr, q0_2_wr, q0_3_wr, _⟩ := Blk.four HB.out;have B0_wr : Blk wr w.heap.size 35 #[.int .i64 n.kind, .string (⟨n.text.toArray⟩ : ByteArray), .int .i64 n.cols, .slice (some ⟨g, o, none⟩) ks.length cap] := HB.out;have hlt_w_wr : w.heap.size < wr.heap.size := Blk.lt HB.out;go_wp2_with fail
    refine Calls.mono (HIH.out x sx _ (by omega) (by omega) (HRK.out.fresh (frA HF.out)) htx) ?_;rintro _ w1 ⟨rfl, hfw1⟩;have HF1 := hid (show Fresh wr w1 from preA hfw1);have B0_w1 := Touch.blk hfw1 (blkA B0_wr) (fun h => h);clear q0_0_wr q0_1_wr q0_2_wr q0_3_wr B0_wr;obtain ⟨q0_0_w1, q0_1_w1, q0_2_w1, q0_3_w1, _⟩ := Blk.four B0_w1;obtain ⟨xx0_w1, xx1_w1, xx2_w1, xx3_w1⟩ := mv4 HF1.out xx0_wr xx1_wr xx2_wr xx3_wr;clear xx0_wr xx1_wr xx2_wr xx3_wr;clear hfw1;go_wp2_with fail
    go_roundw
    case rel => exact ⟨j + 1, by rw [HS.out]; go_num, by go_num, c1, B0_w1, (HF.out.trans HF1.out)⟩
    case measure => simp [intOf]; omega
   ·have d1 : decide ((j : Int) < (ks.length : Int)) = false := dF (by omega)
    have d1n : decide (j < ks.length) = false := dF (by omega);obtain rfl : j = ks.length := by omega
    obtain ⟨q0_0_wr, q0_1_wr, q0_2_wr, q0_3_wr, _⟩ := Blk.four HB.out;have B0_wr : Blk wr w.heap.size 35 #[.int .i64 n.kind, .string (⟨n.text.toArray⟩ : ByteArray), .int .i64 n.cols, .slice A ks.length cap] := HB.out;have hlt_w_wr : w.heap.size < wr.heap.size := Blk.lt HB.out;go_wp2_with fail
    go_ret;exact ⟨by rw [HN0.out]; first | (have := List.take_length (l := ks); simp_all) | rfl, (frA HF.out)⟩
end Go.Proofs.YtomibmenojdieaaGreat
