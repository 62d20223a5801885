/- The walks of the reference's predicates on names and values (layer 23). -/
import Derived.Test.YtnkmccgpmmnfeaaDoorXa6
namespace Go.Proofs.YtnkmccgpmmnfeaaDoor
open Go.RowKit

theorem lett23_256 : ∀ n : Fin 256, El.letter (UInt8.ofNat n.1) = ((decide ((97 : Int) ≤ (n.1 : Int)) && decide ((n.1 : Int) ≤ (122 : Int))) || (decide ((65 : Int) ≤ (n.1 : Int)) && decide ((n.1 : Int) ≤ (90 : Int)))) := by decide +kernel
theorem lett23_or (b : UInt8) : El.letter b = ((decide ((97 : Int) ≤ (b.toNat : Int)) && decide ((b.toNat : Int) ≤ (122 : Int))) || (decide ((65 : Int) ≤ (b.toNat : Int)) && decide ((b.toNat : Int) ≤ (90 : Int)))) := by
  have := lett23_256 ⟨b.toNat, b.toNat_lt⟩
  simpa using this
theorem prin23_256 : ∀ n : Fin 256, El.printable (UInt8.ofNat n.1) = (!decide ((n.1 : Int) < (32 : Int)) && !decide ((126 : Int) < (n.1 : Int))) := by decide +kernel
theorem prin23_or (b : UInt8) : El.printable b = (!decide ((b.toNat : Int) < (32 : Int)) && !decide ((126 : Int) < (b.toNat : Int))) := by
  have := prin23_256 ⟨b.toNat, b.toNat_lt⟩
  simpa using this
set_option maxHeartbeats 400000 in
theorem rletter23_byte (b : UInt8) (w : World) : Calls Tryd.prog 40 #[.int .u8 (b.toNat : Int)] w fun e w' => e = .returned (.bool (El.letter b)) ∧ w' = w := by
  go_enter Tryd.func40, Tryd.ntmps40
  cases h1 : decide ((97 : Int) ≤ (b.toNat : Int)) with
  | false =>
    have h1n : decide (97 ≤ b.toNat) = false := by have hx := h1; simp only [decide_eq_false_iff_not] at hx ⊢; omega
    cases h2 : decide ((65 : Int) ≤ (b.toNat : Int)) with
    | false =>
      have h2n : decide (65 ≤ b.toNat) = false := by have hx := h2; simp only [decide_eq_false_iff_not] at hx ⊢; omega
      go_wp2_with fail
      go_ret
      exact ⟨ret_bool' _ _ (by rw [lett23_or]; simp only [*] <;> rfl), rfl⟩
    | true =>
      have h2n : decide (65 ≤ b.toNat) = true := by have hx := h2; simp only [decide_eq_true_eq] at hx ⊢; omega
      cases h3 : decide ((b.toNat : Int) ≤ (90 : Int)) with
      | false =>
        have h3n : decide (b.toNat ≤ 90) = false := by have hx := h3; simp only [decide_eq_false_iff_not] at hx ⊢; omega
        go_wp2_with fail
        go_ret
        exact ⟨ret_bool' _ _ (by rw [lett23_or]; simp only [*] <;> rfl), rfl⟩
      | true =>
        have h3n : decide (b.toNat ≤ 90) = true := by have hx := h3; simp only [decide_eq_true_eq] at hx ⊢; omega
        go_wp2_with fail
        go_ret
        exact ⟨ret_bool' _ _ (by rw [lett23_or]; simp only [*] <;> rfl), rfl⟩
  | true =>
    have h1n : decide (97 ≤ b.toNat) = true := by have hx := h1; simp only [decide_eq_true_eq] at hx ⊢; omega
    cases h4 : decide ((b.toNat : Int) ≤ (122 : Int)) with
    | false =>
      have h4n : decide (b.toNat ≤ 122) = false := by have hx := h4; simp only [decide_eq_false_iff_not] at hx ⊢; omega
      cases h5 : decide ((65 : Int) ≤ (b.toNat : Int)) with
      | false =>
        have h5n : decide (65 ≤ b.toNat) = false := by have hx := h5; simp only [decide_eq_false_iff_not] at hx ⊢; omega
        go_wp2_with fail
        go_ret
        exact ⟨ret_bool' _ _ (by rw [lett23_or]; simp only [*] <;> rfl), rfl⟩
      | true =>
        have h5n : decide (65 ≤ b.toNat) = true := by have hx := h5; simp only [decide_eq_true_eq] at hx ⊢; omega
        cases h6 : decide ((b.toNat : Int) ≤ (90 : Int)) with
        | false =>
          have h6n : decide (b.toNat ≤ 90) = false := by have hx := h6; simp only [decide_eq_false_iff_not] at hx ⊢; omega
          go_wp2_with fail
          go_ret
          exact ⟨ret_bool' _ _ (by rw [lett23_or]; simp only [*] <;> rfl), rfl⟩
        | true =>
          have h6n : decide (b.toNat ≤ 90) = true := by have hx := h6; simp only [decide_eq_true_eq] at hx ⊢; omega
          go_wp2_with fail
          go_ret
          exact ⟨ret_bool' _ _ (by rw [lett23_or]; simp only [*] <;> rfl), rfl⟩
    | true =>
      have h4n : decide (b.toNat ≤ 122) = true := by have hx := h4; simp only [decide_eq_true_eq] at hx ⊢; omega
      go_wp2_with fail
      go_ret
      exact ⟨ret_bool' _ _ (by rw [lett23_or]; simp only [*] <;> rfl), rfl⟩
set_option maxHeartbeats 400000 in
theorem rinner23_byte (b : UInt8) (w : World) : Calls Tryd.prog 41 #[.int .u8 (b.toNat : Int)] w fun e w' => e = .returned (.bool (El.inner b)) ∧ w' = w := by
  go_enter Tryd.func41, Tryd.ntmps41
  go_wp2_with fail
  refine Calls.mono (rletter23_byte b _) ?_
  rintro _ w1q ⟨rfl, hqw1⟩
  replace hqw1 := hqw1.symm
  subst hqw1
  cases h7 : (El.letter b) with
  | false =>
    cases h8 : decide ((48 : Int) ≤ (b.toNat : Int)) with
    | false =>
      have h8n : decide (48 ≤ b.toNat) = false := by have hx := h8; simp only [decide_eq_false_iff_not] at hx ⊢; omega
      cases h9 : ((b.toNat : Int) == (45 : Int)) with
      | false =>
        have h9m : ((b.toNat : Int) != (45 : Int)) = true := by rw [bne, h9]; rfl
        go_wp2_with fail
        go_ret
        exact ⟨ret_bool' _ _ (by rw [inner_or]; simp only [*] <;> rfl), rfl⟩
      | true =>
        have h9m : ((b.toNat : Int) != (45 : Int)) = false := by rw [bne, h9]; rfl
        go_wp2_with fail
        go_ret
        exact ⟨ret_bool' _ _ (by rw [inner_or]; simp only [*] <;> rfl), rfl⟩
    | true =>
      have h8n : decide (48 ≤ b.toNat) = true := by have hx := h8; simp only [decide_eq_true_eq] at hx ⊢; omega
      cases h10 : decide ((b.toNat : Int) ≤ (57 : Int)) with
      | false =>
        have h10n : decide (b.toNat ≤ 57) = false := by have hx := h10; simp only [decide_eq_false_iff_not] at hx ⊢; omega
        cases h11 : ((b.toNat : Int) == (45 : Int)) with
        | false =>
          have h11m : ((b.toNat : Int) != (45 : Int)) = true := by rw [bne, h11]; rfl
          go_wp2_with fail
          go_ret
          exact ⟨ret_bool' _ _ (by rw [inner_or]; simp only [*] <;> rfl), rfl⟩
        | true =>
          have h11m : ((b.toNat : Int) != (45 : Int)) = false := by rw [bne, h11]; rfl
          go_wp2_with fail
          go_ret
          exact ⟨ret_bool' _ _ (by rw [inner_or]; simp only [*] <;> rfl), rfl⟩
      | true =>
        have h10n : decide (b.toNat ≤ 57) = true := by have hx := h10; simp only [decide_eq_true_eq] at hx ⊢; omega
        go_wp2_with fail
        go_ret
        exact ⟨ret_bool' _ _ (by rw [inner_or]; simp only [*] <;> rfl), rfl⟩
  | true =>
    go_wp2_with fail
    go_ret
    exact ⟨ret_bool' _ _ (by rw [inner_or]; simp only [*] <;> rfl), rfl⟩
set_option maxHeartbeats 400000 in
theorem rvalue_any (s : ByteArray) (w : World) (hm : s.size ≤ 9223372036854775807) : Calls Tryd.prog 29 #[.string s] w fun e w' => e = .returned (.bool (El.valueOK s.data.toList)) ∧ w' = w := by
  go_enter Tryd.func29, Tryd.ntmps29
  go_wp2_with fail
  go_loopw [3] (fun i wr => ∃ j : Nat, i = .int .i64 j ∧ j ≤ s.size ∧ Hid ((s.data.toList.take j).all El.printable = true) ∧ wr = w) (fun i _ => s.size - (intOf i).toNat)
  case atStart => exact ⟨0, rfl, Nat.zero_le _, by simp [Hid], rfl⟩
  case round =>
    obtain ⟨j, rfl, hj, HA, rfl⟩ := hrel
    by_cases c1 : j < s.size
    · have d1 : decide ((j : Int) < (s.size : Int)) = true := by simp; omega
      have d1' : (j : Int) < (s.size : Int) := by omega
      obtain ⟨b, hb⟩ : ∃ b, s[j]'c1 = b := ⟨_, rfl⟩
      have hst := all_snoc' s.data.toList j (by simpa using c1) El.printable
      have hno := all_no s.data.toList j (by simpa using c1) El.printable
      have hbl : s.data.toList[j]'(by simpa using c1) = b := hb
      rw [hbl] at hst hno
      have HS := hid hst
      have HN := hid hno
      clear hst hno hbl
      cases h12 : decide ((b.toNat : Int) < (32 : Int)) with
      | false =>
        have h12n : decide (b.toNat < 32) = false := by have hx := h12; simp only [decide_eq_false_iff_not] at hx ⊢; omega
        cases h13 : decide ((126 : Int) < (b.toNat : Int)) with
        | false =>
          have h13n : decide (126 < b.toNat) = false := by have hx := h13; simp only [decide_eq_false_iff_not] at hx ⊢; omega
          go_wp2_with fail
          go_roundw
          case rel => exact ⟨j + 1, by go_num, c1, by unfold Hid; rw [HS.out, HA.out]; rw [prin23_or]; simp only [*] <;> rfl, trivial⟩
          case measure => simp [intOf]; omega
        | true =>
          have h13n : decide (126 < b.toNat) = true := by have hx := h13; simp only [decide_eq_true_eq] at hx ⊢; omega
          go_wp2_with fail
          go_ret
          exact ⟨ret_bool' _ _ (by unfold El.valueOK; rw [HN.out (by rw [prin23_or]; simp only [*] <;> rfl)]; rfl), rfl⟩
      | true =>
        have h12n : decide (b.toNat < 32) = true := by have hx := h12; simp only [decide_eq_true_eq] at hx ⊢; omega
        go_wp2_with fail
        go_ret
        exact ⟨ret_bool' _ _ (by unfold El.valueOK; rw [HN.out (by rw [prin23_or]; simp only [*] <;> rfl)]; rfl), rfl⟩
    · have d1 : decide ((j : Int) < (s.size : Int)) = false := by simp; omega
      go_wp2_with fail
      go_ret
      exact ⟨ret_bool' _ _ (by unfold El.valueOK; rw [all_end s El.printable j hj c1 HA.out]; rw [show s.data.toList.length = s.size by simp, Bool.eq_iff_iff]; simp; omega), rfl⟩
theorem rvalue_list (l : List UInt8) (w : World) (h : l.length ≤ 9223372036854775807) : Calls Tryd.prog 29 #[.string ⟨l.toArray⟩] w fun e w' => e = .returned (.bool (El.valueOK l)) ∧ Fresh w w' :=
  (rvalue_any ⟨l.toArray⟩ w h).mono fun e w' ⟨h1, h2⟩ => ⟨h1, by rw [h2]; exact Touch.refl _ _⟩
theorem nameOK_first (s : List UInt8) (b : UInt8) (h : 0 < s.length) (hb : s[0] = b) (hl : El.letter b = false) : El.nameOK s = false := by
  cases s with
  | nil => cases h
  | cons c s =>
    have : c = b := hb
    show (El.letter c && s.all El.inner) = false
    rw [this, hl]; rfl
theorem lett_first (s : List UInt8) (b : UInt8) (h : 0 < s.length) (hb : s[0] = b) (hl : El.letter b = true) : El.lett s = true := by
  cases s with
  | nil => cases h
  | cons c s =>
    have : c = b := hb
    show El.letter c = true
    rw [this, hl]
theorem lett_nil (s : List UInt8) (h : s.length = 0) : El.lett s = false := by
  cases s with
  | nil => rfl
  | cons c s => cases h
set_option maxHeartbeats 1000000 in
theorem rname23_any (s : ByteArray) (w : World) (hm : s.size ≤ 9223372036854775807) : Calls Tryd.prog 28 #[.string s] w fun e w' => e = .returned (.bool (El.nameOK s.data.toList)) ∧ w' = w := by
  go_enter Tryd.func28, Tryd.ntmps28
  go_wp2_with fail
  go_loopw [3] (fun i wr => ∃ j : Nat, i = .int .i64 j ∧ j ≤ s.size ∧ Hid ((s.data.toList.take j).all El.inner = true ∧ (0 < j → El.lett s.data.toList = true)) ∧ wr = w) (fun i _ => s.size - (intOf i).toNat)
  case atStart => exact ⟨0, rfl, Nat.zero_le _, ⟨by simp, fun h => absurd h (by decide)⟩, rfl⟩
  case round =>
    obtain ⟨j, rfl, hj, HA, rfl⟩ := hrel
    by_cases c1 : j < s.size
    · have d1 : decide ((j : Int) < (s.size : Int)) = true := by simp; omega
      have d1' : (j : Int) < (s.size : Int) := by omega
      obtain ⟨b, hb⟩ : ∃ b, s[j]'c1 = b := ⟨_, rfl⟩
      have hst := all_snoc' s.data.toList j (by simpa using c1) El.inner
      have hno := all_no s.data.toList j (by simpa using c1) El.inner
      have hbl : s.data.toList[j]'(by simpa using c1) = b := hb
      rw [hbl] at hst hno
      have HS := hid hst
      have HN := hid hno
      clear hst hno
      have hways : (((j : Int) == (0 : Int)) = true ∧ El.letter b = false ∧ El.nameOK s.data.toList = false) ∨ ((((j : Int) == (0 : Int)) = true ∧ El.letter b = true ∨ ((j : Int) == (0 : Int)) = false) ∧ El.lett s.data.toList = true) := by
        by_cases h0 : j = 0
        · subst h0
          cases hl : El.letter b with
          | false => exact .inl ⟨rfl, rfl, nameOK_first _ b (by simpa using c1) hbl hl⟩
          | true => exact .inr ⟨.inl ⟨rfl, rfl⟩, lett_first _ b (by simpa using c1) hbl hl⟩
        · exact .inr ⟨.inr (by rw [beq_eq_false_iff_ne]; omega), HA.out.2 (by omega)⟩
      clear hbl
      rcases hways with ⟨h0, hl, hno⟩ | ⟨⟨h0, hl⟩ | h0, hlt⟩
      focus
        have HNO := hid hno
        clear hno
        have h0n : (j == 0) = true := by rw [beq_iff_eq] at h0 ⊢; omega
        go_wp2_with fail
        refine Calls.mono (rletter23_byte b _) ?_
        rintro _ w3q ⟨rfl, hqw3⟩
        replace hqw3 := hqw3.symm
        subst hqw3
        go_wp2_with fail
        go_ret
        exact ⟨ret_bool' _ _ (by rw [HNO.out]), rfl⟩
      focus
        have HLT := hid hlt
        clear hlt
        have h0n : (j == 0) = true := by rw [beq_iff_eq] at h0 ⊢; omega
        go_wp2_with fail
        refine Calls.mono (rletter23_byte b _) ?_
        rintro _ w3q ⟨rfl, hqw3⟩
        replace hqw3 := hqw3.symm
        subst hqw3
        go_wp2_with fail
      rotate_left
      focus
        have HLT := hid hlt
        clear hlt
        have h0n : (j == 0) = false := by rw [beq_eq_false_iff_ne] at h0 ⊢; omega
        go_wp2_with fail
      all_goals
        refine Calls.mono (rinner23_byte b _) ?_
        rintro _ w4q ⟨rfl, hqw4⟩
        replace hqw4 := hqw4.symm
        subst hqw4
        cases h9 : (El.inner b) with
        | false =>
          go_wp2_with fail
          go_ret
          exact ⟨ret_bool' _ _ (by rw [nameOK_in _ (HN.out (by assumption))]), rfl⟩
        | true =>
          go_wp2_with fail
          go_roundw
          case rel => exact ⟨j + 1, by go_num, c1, ⟨by rw [HS.out, HA.out.1]; simp_all, fun _ => HLT.out⟩, trivial⟩
          case measure => simp [intOf]; omega
    · have d1 : decide ((j : Int) < (s.size : Int)) = false := by simp; omega
      have HALL := hid (nameOK_of _ (all_end s El.inner j hj c1 HA.out.1))
      have HV := hid (show El.nameOK s.data.toList = decide ((1 : Int) ≤ (s.size : Int)) by
        rw [HALL.out]
        rcases Nat.eq_zero_or_pos j with h | h
        · have h0 : s.size = 0 := by omega
          rw [lett_nil _ (by simpa using h0), h0]; rfl
        · rw [HA.out.2 h]; exact (decide_eq_true (by omega)).symm)
      go_wp2_with fail
      go_ret
      exact ⟨ret_bool' _ _ HV.out.symm, rfl⟩
theorem rname23_list (l : List UInt8) (w : World) (h : l.length ≤ 9223372036854775807) : Calls Tryd.prog 28 #[.string ⟨l.toArray⟩] w fun e w' => e = .returned (.bool (El.nameOK l)) ∧ Fresh w w' :=
  (rname23_any ⟨l.toArray⟩ w h).mono fun e w' ⟨h1, h2⟩ => ⟨h1, by rw [h2]; exact Touch.refl _ _⟩
end Go.Proofs.YtnkmccgpmmnfeaaDoor
