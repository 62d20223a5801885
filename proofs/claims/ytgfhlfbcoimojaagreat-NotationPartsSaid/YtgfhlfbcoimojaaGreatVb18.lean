/- Part 18 of 45 of a proof; its texts, joined: NdM. No condition. -/
import Derived.Test.YtgfhlfbcoimojaaGreatVb17

/- The walks of the reference's Number, text and kids. -/
namespace Go.Proofs.YtgfhlfbcoimojaaGreat
open Go.RowKit
def pd (b : UInt8) : Bool := b == 46 || Tr.digit b
def numF (s : List UInt8) : Bool := decide (0 < s.length) && (decide (s.length ≤ 20) && (s.all pd && (!(s.head? == some 46) && (!(s.getLast? == some 46) && decide (s.count 46 ≤ 1)))))
theorem pd_no (l : List UInt8) (h : ∀ b ∈ l, b ≠ 46) : l.all pd = l.all Tr.digit ∧ l.count 46 = 0 := by
 induction l with
 | nil => exact ⟨rfl, rfl⟩
 | cons b l ih =>
  obtain ⟨h1, h2⟩ := ih fun x hx => h x (by simp [hx])
  have hb := h b (by simp)
  refine ⟨?_, ?_⟩
  ·rw [List.all_cons, List.all_cons, h1]
   unfold pd
   rw [show (b == 46) = false from by simpa using hb, Bool.false_or]
  ·rw [List.count_cons, h2, show (b == 46) = false from by simpa using hb]
   rfl
theorem pd_digit (l : List UInt8) (h : l.all Tr.digit = true) : ∀ b ∈ l, b ≠ 46 := fun b hb => digit_ne_point b (List.all_eq_true.1 h b hb)
theorem head_no (l : List UInt8) (h : ∀ b ∈ l, b ≠ 46) : (l.head? == some 46) = false := by
 rw [beq_eq_false_iff_ne]
 intro e
 exact h 46 (List.mem_of_head? e) rfl
theorem last_no (l : List UInt8) (h : ∀ b ∈ l, b ≠ 46) : (l.getLast? == some 46) = false := by
 rw [beq_eq_false_iff_ne]
 intro e
 exact h 46 (List.mem_of_getLast? e) rfl
theorem numF_isNum (s : List UInt8) : numF s = Tr.isNum s := by
 rw [isNum_cut]
 obtain ⟨⟨h1, h2⟩, h3⟩ := cut_span s
 have hs : (s.takeWhile (· ≠ 46)) ++ (s.dropWhile (· ≠ 46)) = s := List.takeWhile_append_dropWhile
 have hno : ∀ b ∈ (cutP s).1, b ≠ 46 := by
  rw [← h1]
  intro b hb
  have := List.all_eq_true.1 (List.all_takeWhile (p := fun b : UInt8 => decide (b ≠ 46)) (l := s)) b hb
  simpa using this
 rw [h1, h2] at hs
 clear h1 h2
 generalize cutP s = c at *
 obtain ⟨a, b, f⟩ := c
 simp only at *
 obtain ⟨e1, e2⟩ := pd_no a hno
 cases f with
 | false =>
  simp only [Bool.false_eq_true, if_false, List.append_nil] at hs
  subst hs
  unfold numF digitsNE
  rw [e1, e2, head_no a hno, last_no a hno]
  rw [Bool.eq_iff_iff]
  simp only [Bool.and_eq_true, decide_eq_true_eq, Bool.not_false, Bool.true_or, Bool.and_true, Nat.zero_le, decide_true, Bool.not_eq_true', beq_eq_false_iff_ne, List.length_pos_iff]
  constructor
  ·rintro ⟨g1, g2, g3⟩; exact ⟨g2, g3, g1⟩
  ·rintro ⟨g2, g3, g1⟩; exact ⟨g1, g2, g3⟩
 | true =>
  simp only [if_true] at hs
  subst hs
  unfold numF digitsNE
  rw [Bool.eq_iff_iff]
  simp only [Bool.and_eq_true, decide_eq_true_eq, Bool.not_true, Bool.false_or, Bool.not_eq_true', beq_eq_false_iff_ne, List.all_append, List.all_cons, List.count_append, List.count_cons, e1, e2]
  have hp : pd 46 = true := by decide
  constructor
  ·rintro ⟨_, g2, ⟨g3, _, g4⟩, g5, g6, g7⟩
   have hc : b.count 46 = 0 := by simp at g7; omega
   have hb : ∀ x ∈ b, x ≠ 46 := fun x hx e => by
    have := List.count_pos_iff.2 (e ▸ hx)
    omega
   refine ⟨g2, ⟨g3, ?_⟩, (pd_no b hb).1 ▸ g4, ?_⟩
   ·rintro rfl; exact g5 rfl
   ·rintro rfl; exact g6 (by simp)
  ·rintro ⟨g2, ⟨g3, g4⟩, g5, g6⟩
   have hb := pd_digit b g5
   obtain ⟨k1, k2⟩ := pd_no b hb
   refine ⟨by simp only [List.length_append, List.length_cons]; omega, g2, ⟨g3, hp, by rw [k1]; exact g5⟩, ?_, ?_, by rw [k2]; simp⟩
   ·intro e
    cases a with
    | nil => exact g4 rfl
    | cons x a => simp at e; exact hno x (by simp) e
   ·intro e
    have hl : (a ++ 46 :: b).getLast? = b.getLast? := by
     cases b with
     | nil => exact absurd rfl g6
     | cons y b => 
      obtain ⟨z, hz⟩ : ∃ z, (y :: b).getLast? = some z := ⟨_, List.getLast?_eq_some_getLast (by simp)⟩
      rw [List.getLast?_append, List.getLast?_cons_cons, hz]; rfl
    rw [hl] at e
    exact hb 46 (List.mem_of_getLast? e) rfl
theorem byte_int (b c : UInt8) : (b == c) = ((b.toNat : Int) == (c.toNat : Int)) := by
 rw [Bool.eq_iff_iff, beq_iff_eq, beq_iff_eq]
 constructor
 ·rintro rfl; rfl
 ·intro h; exact UInt8.toNat_inj.1 (by omega)
def numAt (s : List UInt8) (j : Nat) : Bool := (s.take j).all pd && ((j == 0 || !(s.head? == some 46)) && (decide (j < s.length) || !(s.getLast? == some 46)))
theorem numAt_zero (s : List UInt8) (h : 0 < s.length) : numAt s 0 = true := by simp [numAt, h]
theorem last_at (s : List UInt8) (j : Nat) (h : j < s.length) (hl : ¬ j + 1 < s.length) : s.getLast? = some s[j] := by
 rw [List.getLast?_eq_getElem?, List.getElem?_eq_getElem (by omega)]
 congr 2
 omega
theorem numAt_point (s : List UInt8) (j : Nat) (h : j < s.length) (hb : s[j] = 46) (h1 : 0 < j) (h2 : (j : Int) < (s.length : Int) - 1) (hn : numAt s j = true) : numAt s (j + 1) = true ∧ (s.take (j + 1)).count 46 = (s.take j).count 46 + 1 := by
 unfold numAt at hn ⊢
 rw [List.take_succ_eq_append_getElem h, hb]
 simp only [Bool.and_eq_true, Bool.or_eq_true, beq_iff_eq, Bool.not_eq_true', decide_eq_true_eq, List.all_append, List.count_append] at hn ⊢
 obtain ⟨g1, g2, g3⟩ := hn
 refine ⟨⟨⟨g1, by decide⟩, ?_, .inl (by omega)⟩, by simp⟩
 rcases g2 with g2 | g2
 ·omega
 ·exact .inr g2
theorem numAt_digit (s : List UInt8) (j : Nat) (h : j < s.length) (hb : Tr.digit s[j] = true) (hn : numAt s j = true) : numAt s (j + 1) = true ∧ (s.take (j + 1)).count 46 = (s.take j).count 46 := by
 have hne := digit_ne_point _ hb
 unfold numAt at hn ⊢
 rw [List.take_succ_eq_append_getElem h]
 simp only [Bool.and_eq_true, Bool.or_eq_true, beq_iff_eq, Bool.not_eq_true', decide_eq_true_eq, List.all_append, List.count_append, List.all_cons, List.all_nil, and_true] at hn ⊢
 obtain ⟨g1, g2, g3⟩ := hn
 refine ⟨⟨⟨g1, by simp [pd, hb]⟩, .inr ?_, ?_⟩, ?_⟩
 ·rcases g2 with g2 | g2
  ·subst g2
   rw [beq_eq_false_iff_ne]
   intro e
   rw [List.head?_eq_getElem?, List.getElem?_eq_getElem h] at e
   exact hne (by simpa using e)
  ·exact g2
 ·by_cases hl : j + 1 < s.length
  ·exact .inl hl
  ·refine .inr ?_
   rw [last_at s j h hl, beq_eq_false_iff_ne]
   intro e
   exact hne (by simpa using e)
 ·rw [List.count_cons, show (s[j] == 46) = false from by simpa using hne]; simp
theorem numAt_no (s : List UInt8) (j : Nat) (h : j < s.length) (hd : Tr.digit s[j] = false) (hp : s[j] ≠ 46 ∨ j = 0 ∨ ¬ (j : Int) < (s.length : Int) - 1) : Tr.isNum s = false := by
 rw [← numF_isNum, ← Bool.not_eq_true]
 unfold numF
 simp only [Bool.and_eq_true, decide_eq_true_eq, Bool.not_eq_true', beq_eq_false_iff_ne]
 rintro ⟨_, _, g1, g2, g3, _⟩
 have hm := List.all_eq_true.1 g1 s[j] (List.getElem_mem h)
 unfold pd at hm
 rw [hd, Bool.or_false, beq_iff_eq] at hm
 rcases hp with hp | hp | hp
 ·exact hp hm
 ·subst hp
  exact g2 (by rw [List.head?_eq_getElem?, List.getElem?_eq_getElem h, hm])
 ·exact g3 (by rw [last_at s j h (by omega), hm])
theorem numAt_end (s : List UInt8) (h : 0 < s.length → numAt s s.length = true) : Tr.isNum s = (decide (0 < s.length) && (decide (s.length ≤ 20) && decide (s.count 46 ≤ 1))) := by
 rw [← numF_isNum]
 unfold numF
 by_cases h0 : 0 < s.length
 ·have h1 := h h0
  unfold numAt at h1
  rw [List.take_length] at h1
  simp only [Bool.and_eq_true, Bool.or_eq_true, beq_iff_eq, decide_eq_true_eq, Nat.lt_irrefl, false_or, Nat.ne_of_gt h0] at h1
  obtain ⟨g1, g2, g3⟩ := h1
  rw [g1, g2, g3]
  simp
 ·simp [h0]
set_option maxRecDepth 100000 in
set_option maxHeartbeats 2000000 in
theorem rNumber_any (s : ByteArray) (w : World) (hm : s.size ≤ 9223372036854775807) :
  Calls Tryz.prog 127 #[.string s] w fun e w' => e = .returned (.bool (Tr.isNum s.data.toList)) ∧ w' = w := by
 have hlen : s.data.toList.length = s.size := by simp
 have HLEN := hid hlen
 clear hlen
 go_enter Tryz.func127, Tryz.ntmps127
 go_wp2_with fail
 go_loopw [3, 4] (fun p i wr => ∃ j : Nat, p = .int .i64 ((s.data.toList.take j).count 46 : Nat) ∧ i = .int .i64 j ∧ j ≤ s.size ∧ Hid (0 < s.size → numAt s.data.toList j = true) ∧ wr = w) (fun _ i _ => s.size - (intOf i).toNat)
 case atStart => exact ⟨0, rfl, rfl, Nat.zero_le _, fun h => numAt_zero _ (by rw [HLEN.out]; exact h), rfl⟩
 case round =>
  obtain ⟨j, rfl, rfl, hj, HA, rfl⟩ := hrel
  by_cases c1 : j < s.size
  ·have d1 : decide ((j : Int) < (s.size : Int)) = true := by simp only [decide_eq_true_eq]; omega
   have d1n : decide (j < s.size) = true := by simp only [decide_eq_true_eq]; omega
   have d1' : (j : Int) < (s.size : Int) := by omega
   have c2 : j < s.data.toList.length := by rw [HLEN.out]; exact c1
   have hcm : (s.data.toList.take j).count 46 ≤ j := Nat.le_trans List.count_le_length (List.length_take_le _ _)
   have HP := hid (numAt_point s.data.toList j c2)
   have HD := hid (numAt_digit s.data.toList j c2)
   have HN := hid (numAt_no s.data.toList j c2)
   rw [HLEN.out] at HP HN
   obtain ⟨n, hn⟩ : ∃ n, (s.data.toList.take j).count 46 = n := ⟨_, rfl⟩
   rw [hn] at HP HD hcm ⊢
   clear hn
   obtain ⟨b, hb⟩ : ∃ b, s.data.toList[j]'c2 = b := ⟨_, rfl⟩
   have hsb : s[j]'c1 = b := hb
   rw [hb] at HP HD HN
   clear hb c2
   cases h1 : ((b.toNat : Int) == (46 : Int)) with
   | false =>
    have h1m : ((b.toNat : Int) != (46 : Int)) = true := by rw [bne, h1]; rfl
    go_wp2_with fail
    refine Calls.mono (digit_byte b _) ?_
    rintro _ w1q ⟨rfl, hqw1⟩
    replace hqw1 := hqw1.symm
    subst hqw1
    cases h2 : (Tr.digit b) with
    | false =>
     go_wp2_with fail
     go_ret
     exact ⟨ret_bool' _ _ (by rw [HN.out (by assumption) (.inl (by rw [ne_eq, ← beq_iff_eq, byte_int]; simp_all))]), rfl⟩
    | true =>
     go_wp2_with fail
     go_roundw
     case rel =>
      have hz := HD.out (by assumption) (HA.out (by omega))
      exact ⟨j + 1, by rw [hz.2] <;> go_num, by go_num, c1, fun _ => hz.1, trivial⟩
     case measure => simp [intOf]; omega
   | true =>
    have h1m : ((b.toNat : Int) != (46 : Int)) = false := by rw [bne, h1]; rfl
    cases h3 : decide ((0 : Int) < (j : Int)) with
    | false =>
     have h3n : decide (0 < j) = false := by have hx := h3; simp only [decide_eq_false_iff_not] at hx ⊢; omega
     go_wp2_with fail
     refine Calls.mono (digit_byte b _) ?_
     rintro _ w2q ⟨rfl, hqw2⟩
     replace hqw2 := hqw2.symm
     subst hqw2
     cases h4 : (Tr.digit b) with
     | false =>
      go_wp2_with fail
      go_ret
      exact ⟨ret_bool' _ _ (by rw [HN.out (by assumption) (.inr (.inl (by have := of_decide_eq_false (by assumption : decide ((0 : Int) < (j : Int)) = false); omega)))]), rfl⟩
     | true =>
      go_wp2_with fail
      go_roundw
      case rel =>
       have hz := HD.out (by assumption) (HA.out (by omega))
       exact ⟨j + 1, by rw [hz.2] <;> go_num, by go_num, c1, fun _ => hz.1, trivial⟩
      case measure => simp [intOf]; omega
    | true =>
     have h3n : decide (0 < j) = true := by have hx := h3; simp only [decide_eq_true_eq] at hx ⊢; omega
     cases h5 : decide ((j : Int) < ((s.size : Int) - (1 : Int))) with
     | false =>
      go_wp2_with fail
      refine Calls.mono (digit_byte b _) ?_
      rintro _ w3q ⟨rfl, hqw3⟩
      replace hqw3 := hqw3.symm
      subst hqw3
      cases h6 : (Tr.digit b) with
      | false =>
       go_wp2_with fail
       go_ret
       exact ⟨ret_bool' _ _ (by rw [HN.out (by assumption) (.inr (.inr (by have := of_decide_eq_false (by assumption : decide ((j : Int) < (s.size : Int) - (1 : Int)) = false); omega)))]), rfl⟩
      | true =>
       go_wp2_with fail
       go_roundw
       case rel =>
        have hz := HD.out (by assumption) (HA.out (by omega))
        exact ⟨j + 1, by rw [hz.2] <;> go_num, by go_num, c1, fun _ => hz.1, trivial⟩
       case measure => simp [intOf]; omega
     | true =>
      go_wp2_with fail
      go_roundw
      case rel =>
       have hz := HP.out (by rw [← beq_iff_eq, byte_int]; assumption) (by have := of_decide_eq_true (by assumption : decide ((0 : Int) < (j : Int)) = true); omega) (of_decide_eq_true (by assumption)) (HA.out (by omega))
       exact ⟨j + 1, by rw [hz.2] <;> go_num, by go_num, c1, fun _ => hz.1, trivial⟩
      case measure => simp [intOf]; omega
  ·have d1 : decide ((j : Int) < (s.size : Int)) = false := by simp only [decide_eq_false_iff_not]; omega
   have d1n : decide (j < s.size) = false := by simp only [decide_eq_false_iff_not]; omega
   obtain rfl : j = s.size := by omega
   have htk : s.data.toList.take s.size = s.data.toList := List.take_of_length_le (by rw [HLEN.out]; exact Nat.le_refl _)
   have HE := hid (numAt_end s.data.toList (by rw [HLEN.out]; exact HA.out))
   rw [HLEN.out] at HE
   rw [htk]
   obtain ⟨n, hn⟩ : ∃ n, s.data.toList.count 46 = n := ⟨_, rfl⟩
   rw [hn] at HE ⊢
   clear hn htk
   cases h7 : decide ((0 : Int) < (s.size : Int)) with
   | false =>
    have h7n : decide (0 < s.size) = false := by have hx := h7; simp only [decide_eq_false_iff_not] at hx ⊢; omega
    go_wp2_with fail
    go_ret
    exact ⟨ret_bool' _ _ (by rw [HE.out]; simp_all <;> omega), rfl⟩
   | true =>
    have h7n : decide (0 < s.size) = true := by have hx := h7; simp only [decide_eq_true_eq] at hx ⊢; omega
    cases h8 : decide ((s.size : Int) ≤ (20 : Int)) with
    | false =>
     go_wp2_with fail
     go_ret
     exact ⟨ret_bool' _ _ (by rw [HE.out]; simp_all <;> omega), rfl⟩
    | true =>
     cases h9 : decide ((n : Int) ≤ (1 : Int)) with
     | false =>
      have h9n : decide (n ≤ 1) = false := by have hx := h9; simp only [decide_eq_false_iff_not] at hx ⊢; omega
      go_wp2_with fail
      go_ret
      exact ⟨ret_bool' _ _ (by rw [HE.out]; simp_all <;> omega), rfl⟩
     | true =>
      have h9n : decide (n ≤ 1) = true := by have hx := h9; simp only [decide_eq_true_eq] at hx ⊢; omega
      go_wp2_with fail
      go_ret
      exact ⟨ret_bool' _ _ (by rw [HE.out]; simp_all <;> omega), rfl⟩
end Go.Proofs.YtgfhlfbcoimojaaGreat
