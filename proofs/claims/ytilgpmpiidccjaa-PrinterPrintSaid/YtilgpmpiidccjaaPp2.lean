/- Part 2 of 11 of a proof; its texts, joined: NdC, NdD, NdE, PrA, SpM, PlM, WrM, WrN, WrO, PrM. No condition. -/
import Derived.Test.YtilgpmpiidccjaaPp1
import Derived.Test.YtilgpmpiidccjaaShelf
import Derived.Laws.Rows

/- The walks of node's predicates on texts. -/
namespace Go.Proofs.Ytilgpmpiidccjaa
open Go.RowKit

theorem all_snoc' (l : List UInt8) (j : Nat) (h : j < l.length) (p : UInt8 → Bool) : (l.take (j + 1)).all p = ((l.take j).all p && p l[j]) := by
  rw [List.take_add_one, List.getElem?_eq_getElem h, List.all_append]; simp only [Option.toList_some, List.all_cons, List.all_nil, Bool.and_true]
theorem all_no (l : List UInt8) (j : Nat) (h : j < l.length) (p : UInt8 → Bool) (hn : p l[j] = false) : l.all p = false := by
  rw [List.all_eq_false]
  exact ⟨l[j], List.getElem_mem _, by rw [hn]; decide⟩
theorem isEmpty_str (s : ByteArray) : s.toList.isEmpty = (s.data.toList == []) := by
  rw [ByteArray.toList_eq]
  cases s.data.toList <;> rfl
theorem all_end (s : ByteArray) (p : UInt8 → Bool) (j : Nat) (hj : j ≤ s.size) (hn : ¬ j < s.size) (h : (s.data.toList.take j).all p = true) : s.data.toList.all p = true := by
  have : s.data.toList.length = s.size := by simp
  rwa [List.take_of_length_le (by omega)] at h
theorem letter_or_256 : ∀ n : Fin 256, Tr.letter (UInt8.ofNat n.1) = (!decide (bits .or .u8 (n.1 : Int) 32 < (97 : Int)) && !decide ((122 : Int) < bits .or .u8 (n.1 : Int) 32)) := by decide +kernel
theorem letter_or (b : UInt8) : Tr.letter b = (!decide (bits .or .u8 (b.toNat : Int) 32 < (97 : Int)) && !decide ((122 : Int) < bits .or .u8 (b.toNat : Int) 32)) := by
  have := letter_or_256 ⟨b.toNat, b.toNat_lt⟩
  simpa using this
theorem digit_256 : ∀ n : Fin 256, Tr.digit (UInt8.ofNat n.1) = (!decide ((n.1 : Int) < (48 : Int)) && !decide ((57 : Int) < (n.1 : Int))) := by decide +kernel
theorem digit_or (b : UInt8) : Tr.digit b = (!decide ((b.toNat : Int) < (48 : Int)) && !decide ((57 : Int) < (b.toNat : Int))) := by
  have := digit_256 ⟨b.toNat, b.toNat_lt⟩
  simpa using this
def plainB (b : UInt8) : Bool := decide (32 ≤ b) && decide (b ≤ 126)
theorem plain_256 : ∀ n : Fin 256, plainB (UInt8.ofNat n.1) = (!decide ((n.1 : Int) < (32 : Int)) && !decide ((126 : Int) < (n.1 : Int))) := by decide +kernel
theorem plain_or (b : UInt8) : plainB b = (!decide ((b.toNat : Int) < (32 : Int)) && !decide ((126 : Int) < (b.toNat : Int))) := by
  have := plain_256 ⟨b.toNat, b.toNat_lt⟩
  simpa using this

set_option maxHeartbeats 400000 in
theorem letters_any (s : ByteArray) (w : World) (hm : s.size ≤ 9223372036854775807) :
    Calls Try.prog 116 #[.string s] w fun e w' => e = .returned (.bool (s.data.toList.all Tr.letter)) ∧ w' = w := by
  go_enter Try.func116, Try.ntmps116
  go_wp2_with fail
  go_loopw [3] (fun i wr => ∃ j : Nat, i = .int .i64 j ∧ j ≤ s.size ∧ Hid ((s.data.toList.take j).all Tr.letter = true) ∧ wr = w) (fun i _ => s.size - (intOf i).toNat)
  case atStart => exact ⟨0, rfl, Nat.zero_le _, by simp [Hid], rfl⟩
  case round =>
    obtain ⟨j, rfl, hj, HA, rfl⟩ := hrel
    by_cases c1 : j < s.size
    · have d1 : decide ((j : Int) < (s.size : Int)) = true := by simp; omega
      have d1' : (j : Int) < (s.size : Int) := by omega
      obtain ⟨b, hb⟩ : ∃ b, s[j]'c1 = b := ⟨_, rfl⟩
      have hst := all_snoc' s.data.toList j (by simpa using c1) Tr.letter
      have hno := all_no s.data.toList j (by simpa using c1) Tr.letter
      have hbl : s.data.toList[j]'(by simpa using c1) = b := hb
      rw [hbl] at hst hno
      have HS := hid hst
      have HN := hid hno
      clear hst hno hbl
      cases h1 : decide ((bits .or .u8 (b.toNat : Int) (32 : Int)) < (97 : Int)) with
      | false =>
        cases h2 : decide ((122 : Int) < (bits .or .u8 (b.toNat : Int) (32 : Int))) with
        | false =>
          go_wp2_with fail
          go_roundw
          case rel => exact ⟨j + 1, by go_num, c1, by unfold Hid; rw [HS.out, HA.out]; rw [letter_or]; simp_all, trivial⟩
          case measure => simp [intOf]; omega
        | true =>
          go_wp2_with fail
          go_ret
          exact ⟨by rw [HN.out (by rw [letter_or]; simp_all)]; rfl, rfl⟩
      | true =>
        go_wp2_with fail
        go_ret
        exact ⟨by rw [HN.out (by rw [letter_or]; simp_all)]; rfl, rfl⟩
    · have d1 : decide ((j : Int) < (s.size : Int)) = false := by simp; omega
      go_wp2_with fail
      go_ret
      exact ⟨by rw [all_end s Tr.letter j hj c1 HA.out]; rfl, rfl⟩

set_option maxHeartbeats 400000 in
theorem digits_any (s : ByteArray) (w : World) (hm : s.size ≤ 9223372036854775807) :
    Calls Try.prog 120 #[.string s] w fun e w' => e = .returned (.bool (s.data.toList.all Tr.digit && !(s.data.toList == []))) ∧ w' = w := by
  go_enter Try.func120, Try.ntmps120
  go_wp2_with fail
  go_loopw [3] (fun i wr => ∃ j : Nat, i = .int .i64 j ∧ j ≤ s.size ∧ Hid ((s.data.toList.take j).all Tr.digit = true) ∧ wr = w) (fun i _ => s.size - (intOf i).toNat)
  case atStart => exact ⟨0, rfl, Nat.zero_le _, by simp [Hid], rfl⟩
  case round =>
    obtain ⟨j, rfl, hj, HA, rfl⟩ := hrel
    by_cases c1 : j < s.size
    · have d1 : decide ((j : Int) < (s.size : Int)) = true := by simp; omega
      have d1' : (j : Int) < (s.size : Int) := by omega
      obtain ⟨b, hb⟩ : ∃ b, s[j]'c1 = b := ⟨_, rfl⟩
      have hst := all_snoc' s.data.toList j (by simpa using c1) Tr.digit
      have hno := all_no s.data.toList j (by simpa using c1) Tr.digit
      have hbl : s.data.toList[j]'(by simpa using c1) = b := hb
      rw [hbl] at hst hno
      have HS := hid hst
      have HN := hid hno
      clear hst hno hbl
      cases h3 : decide ((b.toNat : Int) < (48 : Int)) with
      | false =>
        cases h4 : decide ((57 : Int) < (b.toNat : Int)) with
        | false =>
          have h4n : decide (57 < b.toNat) = false := by have hx := h4; simp only [decide_eq_false_iff_not] at hx ⊢; omega
          go_wp2_with fail
          go_roundw
          case rel => exact ⟨j + 1, by go_num, c1, by unfold Hid; rw [HS.out, HA.out]; rw [digit_or]; simp_all, trivial⟩
          case measure => simp [intOf]; omega
        | true =>
          have h4n : decide (57 < b.toNat) = true := by have hx := h4; simp only [decide_eq_true_eq] at hx ⊢; omega
          go_wp2_with fail
          go_ret
          exact ⟨by rw [HN.out (by rw [digit_or]; simp_all)]; rfl, rfl⟩
      | true =>
        go_wp2_with fail
        go_ret
        exact ⟨by rw [HN.out (by rw [digit_or]; simp_all)]; rfl, rfl⟩
    · have d1 : decide ((j : Int) < (s.size : Int)) = false := by simp; omega
      cases h5 : (s.data.toList == ([] : List UInt8)) with
      | false =>
        have h5s : (s == (⟨#[]⟩ : ByteArray)) = false := by rw [str_eq']; exact h5
        have h5t : (s != (⟨#[]⟩ : ByteArray)) = true := by rw [bne, h5s]; rfl
        have h5e : (ByteArray.toList s).isEmpty = false := by rw [isEmpty_str]; exact h5
        go_wp2_with fail
        go_ret
        exact ⟨ret_bool' _ _ (Eq.symm (by rw [all_end s Tr.digit j hj c1 HA.out, Bool.true_and]; simp only [*]; rfl)), rfl⟩
      | true =>
        have h5s : (s == (⟨#[]⟩ : ByteArray)) = true := by rw [str_eq']; exact h5
        have h5t : (s != (⟨#[]⟩ : ByteArray)) = false := by rw [bne, h5s]; rfl
        have h5e : (ByteArray.toList s).isEmpty = true := by rw [isEmpty_str]; exact h5
        go_wp2_with fail
        go_ret
        exact ⟨ret_bool' _ _ (Eq.symm (by rw [all_end s Tr.digit j hj c1 HA.out, Bool.true_and]; simp only [*]; rfl)), rfl⟩

set_option maxHeartbeats 400000 in
theorem plain_any (s : ByteArray) (w : World) (hm : s.size ≤ 9223372036854775807) :
    Calls Try.prog 71 #[.string s] w fun e w' => e = .returned (.bool (s.data.toList.all plainB && decide ((s.size : Int) ≤ (200 : Int)))) ∧ w' = w := by
  go_enter Try.func71, Try.ntmps71
  go_wp2_with fail
  go_loopw [3] (fun i wr => ∃ j : Nat, i = .int .i64 j ∧ j ≤ s.size ∧ Hid ((s.data.toList.take j).all plainB = true) ∧ wr = w) (fun i _ => s.size - (intOf i).toNat)
  case atStart => exact ⟨0, rfl, Nat.zero_le _, by simp [Hid], rfl⟩
  case round =>
    obtain ⟨j, rfl, hj, HA, rfl⟩ := hrel
    by_cases c1 : j < s.size
    · have d1 : decide ((j : Int) < (s.size : Int)) = true := by simp; omega
      have d1' : (j : Int) < (s.size : Int) := by omega
      obtain ⟨b, hb⟩ : ∃ b, s[j]'c1 = b := ⟨_, rfl⟩
      have hst := all_snoc' s.data.toList j (by simpa using c1) plainB
      have hno := all_no s.data.toList j (by simpa using c1) plainB
      have hbl : s.data.toList[j]'(by simpa using c1) = b := hb
      rw [hbl] at hst hno
      have HS := hid hst
      have HN := hid hno
      clear hst hno hbl
      cases h6 : decide ((b.toNat : Int) < (32 : Int)) with
      | false =>
        cases h7 : decide ((126 : Int) < (b.toNat : Int)) with
        | false =>
          have h7n : decide (126 < b.toNat) = false := by have hx := h7; simp only [decide_eq_false_iff_not] at hx ⊢; omega
          go_wp2_with fail
          go_roundw
          case rel => exact ⟨j + 1, by go_num, c1, by unfold Hid; rw [HS.out, HA.out]; rw [plain_or]; simp_all, trivial⟩
          case measure => simp [intOf]; omega
        | true =>
          have h7n : decide (126 < b.toNat) = true := by have hx := h7; simp only [decide_eq_true_eq] at hx ⊢; omega
          go_wp2_with fail
          go_ret
          exact ⟨by rw [HN.out (by rw [plain_or]; simp_all)]; rfl, rfl⟩
      | true =>
        go_wp2_with fail
        go_ret
        exact ⟨by rw [HN.out (by rw [plain_or]; simp_all)]; rfl, rfl⟩
    · have d1 : decide ((j : Int) < (s.size : Int)) = false := by simp; omega
      cases h8 : decide ((s.size : Int) ≤ (200 : Int)) with
      | false =>
        go_wp2_with fail
        go_ret
        exact ⟨ret_bool' _ _ (Eq.symm (by rw [all_end s plainB j hj c1 HA.out, Bool.true_and]; assumption)), rfl⟩
      | true =>
        go_wp2_with fail
        go_ret
        exact ⟨ret_bool' _ _ (Eq.symm (by rw [all_end s plainB j hj c1 HA.out, Bool.true_and]; assumption)), rfl⟩

set_option maxHeartbeats 400000 in
theorem accent_any (s : ByteArray) (w : World) :
    Calls Try.prog 72 #[.string s] w fun e w' => e = .returned (.bool (Tr.accents.contains s.data.toList)) ∧ w' = w := by
  go_enter Try.func72, Try.ntmps72
  cases h9 : (s.data.toList == ([104, 97, 116] : List UInt8)) with
  | false =>
    have h9s : (s == (⟨#[104, 97, 116]⟩ : ByteArray)) = false := by rw [str_eq']; exact h9
    have h9t : (s != (⟨#[104, 97, 116]⟩ : ByteArray)) = true := by rw [bne, h9s]; rfl
    have h9l : (ByteArray.toList s == [104, 97, 116]) = false := by rw [ByteArray.toList_eq]; exact h9
    cases h10 : (s.data.toList == ([98, 97, 114] : List UInt8)) with
    | false =>
      have h10s : (s == (⟨#[98, 97, 114]⟩ : ByteArray)) = false := by rw [str_eq']; exact h10
      have h10t : (s != (⟨#[98, 97, 114]⟩ : ByteArray)) = true := by rw [bne, h10s]; rfl
      have h10l : (ByteArray.toList s == [98, 97, 114]) = false := by rw [ByteArray.toList_eq]; exact h10
      cases h11 : (s.data.toList == ([118, 101, 99] : List UInt8)) with
      | false =>
        have h11s : (s == (⟨#[118, 101, 99]⟩ : ByteArray)) = false := by rw [str_eq']; exact h11
        have h11t : (s != (⟨#[118, 101, 99]⟩ : ByteArray)) = true := by rw [bne, h11s]; rfl
        have h11l : (ByteArray.toList s == [118, 101, 99]) = false := by rw [ByteArray.toList_eq]; exact h11
        cases h12 : (s.data.toList == ([100, 111, 116] : List UInt8)) with
        | false =>
          have h12s : (s == (⟨#[100, 111, 116]⟩ : ByteArray)) = false := by rw [str_eq']; exact h12
          have h12t : (s != (⟨#[100, 111, 116]⟩ : ByteArray)) = true := by rw [bne, h12s]; rfl
          have h12l : (ByteArray.toList s == [100, 111, 116]) = false := by rw [ByteArray.toList_eq]; exact h12
          cases h13 : (s.data.toList == ([116, 105, 108, 100, 101] : List UInt8)) with
          | false =>
            have h13s : (s == (⟨#[116, 105, 108, 100, 101]⟩ : ByteArray)) = false := by rw [str_eq']; exact h13
            have h13t : (s != (⟨#[116, 105, 108, 100, 101]⟩ : ByteArray)) = true := by rw [bne, h13s]; rfl
            have h13l : (ByteArray.toList s == [116, 105, 108, 100, 101]) = false := by rw [ByteArray.toList_eq]; exact h13
            cases h14 : (s.data.toList == ([99, 104, 101, 99, 107] : List UInt8)) with
            | false =>
              have h14s : (s == (⟨#[99, 104, 101, 99, 107]⟩ : ByteArray)) = false := by rw [str_eq']; exact h14
              have h14t : (s != (⟨#[99, 104, 101, 99, 107]⟩ : ByteArray)) = true := by rw [bne, h14s]; rfl
              have h14l : (ByteArray.toList s == [99, 104, 101, 99, 107]) = false := by rw [ByteArray.toList_eq]; exact h14
              go_wp2_with fail
              go_ret
              exact ⟨ret_bool' _ _ (by simp only [Tr.accents, List.contains_cons, List.contains_nil, *] <;> rfl), rfl⟩
            | true =>
              have h14s : (s == (⟨#[99, 104, 101, 99, 107]⟩ : ByteArray)) = true := by rw [str_eq']; exact h14
              have h14t : (s != (⟨#[99, 104, 101, 99, 107]⟩ : ByteArray)) = false := by rw [bne, h14s]; rfl
              have h14l : (ByteArray.toList s == [99, 104, 101, 99, 107]) = true := by rw [ByteArray.toList_eq]; exact h14
              go_wp2_with fail
              go_ret
              exact ⟨ret_bool' _ _ (by simp only [Tr.accents, List.contains_cons, List.contains_nil, *] <;> rfl), rfl⟩
          | true =>
            have h13s : (s == (⟨#[116, 105, 108, 100, 101]⟩ : ByteArray)) = true := by rw [str_eq']; exact h13
            have h13t : (s != (⟨#[116, 105, 108, 100, 101]⟩ : ByteArray)) = false := by rw [bne, h13s]; rfl
            have h13l : (ByteArray.toList s == [116, 105, 108, 100, 101]) = true := by rw [ByteArray.toList_eq]; exact h13
            go_wp2_with fail
            go_ret
            exact ⟨ret_bool' _ _ (by simp only [Tr.accents, List.contains_cons, List.contains_nil, *] <;> rfl), rfl⟩
        | true =>
          have h12s : (s == (⟨#[100, 111, 116]⟩ : ByteArray)) = true := by rw [str_eq']; exact h12
          have h12t : (s != (⟨#[100, 111, 116]⟩ : ByteArray)) = false := by rw [bne, h12s]; rfl
          have h12l : (ByteArray.toList s == [100, 111, 116]) = true := by rw [ByteArray.toList_eq]; exact h12
          go_wp2_with fail
          go_ret
          exact ⟨ret_bool' _ _ (by simp only [Tr.accents, List.contains_cons, List.contains_nil, *] <;> rfl), rfl⟩
      | true =>
        have h11s : (s == (⟨#[118, 101, 99]⟩ : ByteArray)) = true := by rw [str_eq']; exact h11
        have h11t : (s != (⟨#[118, 101, 99]⟩ : ByteArray)) = false := by rw [bne, h11s]; rfl
        have h11l : (ByteArray.toList s == [118, 101, 99]) = true := by rw [ByteArray.toList_eq]; exact h11
        go_wp2_with fail
        go_ret
        exact ⟨ret_bool' _ _ (by simp only [Tr.accents, List.contains_cons, List.contains_nil, *] <;> rfl), rfl⟩
    | true =>
      have h10s : (s == (⟨#[98, 97, 114]⟩ : ByteArray)) = true := by rw [str_eq']; exact h10
      have h10t : (s != (⟨#[98, 97, 114]⟩ : ByteArray)) = false := by rw [bne, h10s]; rfl
      have h10l : (ByteArray.toList s == [98, 97, 114]) = true := by rw [ByteArray.toList_eq]; exact h10
      go_wp2_with fail
      go_ret
      exact ⟨ret_bool' _ _ (by simp only [Tr.accents, List.contains_cons, List.contains_nil, *] <;> rfl), rfl⟩
  | true =>
    have h9s : (s == (⟨#[104, 97, 116]⟩ : ByteArray)) = true := by rw [str_eq']; exact h9
    have h9t : (s != (⟨#[104, 97, 116]⟩ : ByteArray)) = false := by rw [bne, h9s]; rfl
    have h9l : (ByteArray.toList s == [104, 97, 116]) = true := by rw [ByteArray.toList_eq]; exact h9
    go_wp2_with fail
    go_ret
    exact ⟨ret_bool' _ _ (by simp only [Tr.accents, List.contains_cons, List.contains_nil, *] <;> rfl), rfl⟩

set_option maxHeartbeats 400000 in
theorem keyword_any (s : ByteArray) (w : World) :
    Calls Try.prog 118 #[.string s] w fun e w' => e = .returned (.bool (Tr.keywords.contains s.data.toList)) ∧ w' = w := by
  go_enter Try.func118, Try.ntmps118
  cases h15 : (s.data.toList == ([102, 114, 97, 99] : List UInt8)) with
  | false =>
    have h15s : (s == (⟨#[102, 114, 97, 99]⟩ : ByteArray)) = false := by rw [str_eq']; exact h15
    have h15t : (s != (⟨#[102, 114, 97, 99]⟩ : ByteArray)) = true := by rw [bne, h15s]; rfl
    have h15l : (ByteArray.toList s == [102, 114, 97, 99]) = false := by rw [ByteArray.toList_eq]; exact h15
    cases h16 : (s.data.toList == ([114, 111, 111, 116] : List UInt8)) with
    | false =>
      have h16s : (s == (⟨#[114, 111, 111, 116]⟩ : ByteArray)) = false := by rw [str_eq']; exact h16
      have h16t : (s != (⟨#[114, 111, 111, 116]⟩ : ByteArray)) = true := by rw [bne, h16s]; rfl
      have h16l : (ByteArray.toList s == [114, 111, 111, 116]) = false := by rw [ByteArray.toList_eq]; exact h16
      cases h17 : (s.data.toList == ([109, 97, 116, 114, 105, 120] : List UInt8)) with
      | false =>
        have h17s : (s == (⟨#[109, 97, 116, 114, 105, 120]⟩ : ByteArray)) = false := by rw [str_eq']; exact h17
        have h17t : (s != (⟨#[109, 97, 116, 114, 105, 120]⟩ : ByteArray)) = true := by rw [bne, h17s]; rfl
        have h17l : (ByteArray.toList s == [109, 97, 116, 114, 105, 120]) = false := by rw [ByteArray.toList_eq]; exact h17
        cases h18 : (s.data.toList == ([102, 101, 110, 99, 101] : List UInt8)) with
        | false =>
          have h18s : (s == (⟨#[102, 101, 110, 99, 101]⟩ : ByteArray)) = false := by rw [str_eq']; exact h18
          have h18t : (s != (⟨#[102, 101, 110, 99, 101]⟩ : ByteArray)) = true := by rw [bne, h18s]; rfl
          have h18l : (ByteArray.toList s == [102, 101, 110, 99, 101]) = false := by rw [ByteArray.toList_eq]; exact h18
          go_wp2_with fail
          go_ret
          exact ⟨ret_bool' _ _ (by simp only [Tr.keywords, List.contains_cons, List.contains_nil, *] <;> rfl), rfl⟩
        | true =>
          have h18s : (s == (⟨#[102, 101, 110, 99, 101]⟩ : ByteArray)) = true := by rw [str_eq']; exact h18
          have h18t : (s != (⟨#[102, 101, 110, 99, 101]⟩ : ByteArray)) = false := by rw [bne, h18s]; rfl
          have h18l : (ByteArray.toList s == [102, 101, 110, 99, 101]) = true := by rw [ByteArray.toList_eq]; exact h18
          go_wp2_with fail
          go_ret
          exact ⟨ret_bool' _ _ (by simp only [Tr.keywords, List.contains_cons, List.contains_nil, *] <;> rfl), rfl⟩
      | true =>
        have h17s : (s == (⟨#[109, 97, 116, 114, 105, 120]⟩ : ByteArray)) = true := by rw [str_eq']; exact h17
        have h17t : (s != (⟨#[109, 97, 116, 114, 105, 120]⟩ : ByteArray)) = false := by rw [bne, h17s]; rfl
        have h17l : (ByteArray.toList s == [109, 97, 116, 114, 105, 120]) = true := by rw [ByteArray.toList_eq]; exact h17
        go_wp2_with fail
        go_ret
        exact ⟨ret_bool' _ _ (by simp only [Tr.keywords, List.contains_cons, List.contains_nil, *] <;> rfl), rfl⟩
    | true =>
      have h16s : (s == (⟨#[114, 111, 111, 116]⟩ : ByteArray)) = true := by rw [str_eq']; exact h16
      have h16t : (s != (⟨#[114, 111, 111, 116]⟩ : ByteArray)) = false := by rw [bne, h16s]; rfl
      have h16l : (ByteArray.toList s == [114, 111, 111, 116]) = true := by rw [ByteArray.toList_eq]; exact h16
      go_wp2_with fail
      go_ret
      exact ⟨ret_bool' _ _ (by simp only [Tr.keywords, List.contains_cons, List.contains_nil, *] <;> rfl), rfl⟩
  | true =>
    have h15s : (s == (⟨#[102, 114, 97, 99]⟩ : ByteArray)) = true := by rw [str_eq']; exact h15
    have h15t : (s != (⟨#[102, 114, 97, 99]⟩ : ByteArray)) = false := by rw [bne, h15s]; rfl
    have h15l : (ByteArray.toList s == [102, 114, 97, 99]) = true := by rw [ByteArray.toList_eq]; exact h15
    go_wp2_with fail
    go_ret
    exact ⟨ret_bool' _ _ (by simp only [Tr.keywords, List.contains_cons, List.contains_nil, *] <;> rfl), rfl⟩

set_option maxHeartbeats 400000 in
theorem empty_any (s : ByteArray) (w : World) :
    Calls Try.prog 68 #[.string s] w fun e w' => e = .returned (.bool (s.data.toList.isEmpty)) ∧ w' = w := by
  go_enter Try.func68, Try.ntmps68
  cases h19 : (s.data.toList == ([] : List UInt8)) with
  | false =>
    have h19s : (s == (⟨#[]⟩ : ByteArray)) = false := by rw [str_eq']; exact h19
    have h19t : (s != (⟨#[]⟩ : ByteArray)) = true := by rw [bne, h19s]; rfl
    have h19e : (ByteArray.toList s).isEmpty = false := by rw [isEmpty_str]; exact h19
    go_wp2_with fail
    go_ret
    exact ⟨ret_bool' _ _ (by cases hs : s.data.toList <;> simp_all), rfl⟩
  | true =>
    have h19s : (s == (⟨#[]⟩ : ByteArray)) = true := by rw [str_eq']; exact h19
    have h19t : (s != (⟨#[]⟩ : ByteArray)) = false := by rw [bne, h19s]; rfl
    have h19e : (ByteArray.toList s).isEmpty = true := by rw [isEmpty_str]; exact h19
    go_wp2_with fail
    go_ret
    exact ⟨ret_bool' _ _ (by cases hs : s.data.toList <;> simp_all), rfl⟩

end Go.Proofs.Ytilgpmpiidccjaa

/- The walks of node's Symbol, fence and Number. -/
namespace Go.Proofs.Ytilgpmpiidccjaa
open Go.RowKit

theorem idx_contains (l : List UInt8) (c : UInt8) : decide ((0 : Int) ≤ Lib.indexByte l c) = l.contains c := by
  induction l with
  | nil => rfl
  | cons b l ih =>
    rw [Lib.indexByte, List.contains_cons]
    cases h : b == c with
    | true =>
      have : b = c := by simpa using h
      subst this
      simp
    | false =>
      have h2 : (c == b) = false := by
        rw [beq_eq_false_iff_ne] at h ⊢; exact fun e => h e.symm
      rw [h2, Bool.false_or, ← ih]
      have hlo : -1 ≤ Lib.indexByte l c := by
        clear ih
        induction l with
        | nil => show (-1 : Int) ≤ -1; decide
        | cons b l ih => rw [Lib.indexByte]; split <;> (try split) <;> omega
      cases h3 : Lib.indexByte l c == -1 with
      | true =>
        have : Lib.indexByte l c = -1 := by simpa using h3
        rw [this]; rfl
      | false =>
        have : Lib.indexByte l c ≠ -1 := by simpa using h3
        simp only [Bool.false_eq_true, if_false]
        rw [Bool.eq_iff_iff, decide_eq_true_iff, decide_eq_true_iff]; omega

theorem str_one (s : ByteArray) (h : s.size = 1) : ∃ c, s = ⟨#[c]⟩ := by
  obtain ⟨⟨l⟩⟩ := s
  match l, h with
  | [c], _ => exact ⟨c, rfl⟩
theorem str_two (s : ByteArray) (h : s.size = 2) : ∃ a b, s = ⟨#[a, b]⟩ := by
  obtain ⟨⟨l⟩⟩ := s
  match l, h with
  | [a, b], _ => exact ⟨a, b, rfl⟩

theorem contains_one (l : List UInt8) (c : UInt8) (w : World) :
    Calls Try.prog 117 #[.string ⟨l.toArray⟩, .string ⟨#[c]⟩] w fun e w' => e = .returned (.bool (l.contains c)) ∧ w' = w := by
  have := Try.strings_Contains_one ⟨l.toArray⟩ c w
  rw [← idx_contains]; exact this
theorem indexByte_byte (l : List UInt8) (c : UInt8) (w : World) :
    Calls Try.prog 121 #[.string ⟨l.toArray⟩, .int .u8 (c.toNat : Int)] w fun e w' => e = .returned (.int .i64 (Lib.indexByte l c)) ∧ w' = w := by
  have := Try.strings_IndexByte ⟨l.toArray⟩ (c.toNat : Int) w
  simpa using this

theorem signs_perm (c : UInt8) : Tr.signs.contains c = ([43, 45, 42, 47, 61, 60, 62, 44, 59, 58, 33, 124, 39, 63, 126, 64] : List UInt8).contains c := rfl
theorem delims_256 : ∀ n : Fin 256, Tr.delims.contains (UInt8.ofNat n.1) = ([40, 41, 91, 93, 123, 125, 60, 62, 47, 124, 46] : List UInt8).contains (UInt8.ofNat n.1) := by decide +kernel
theorem delims_perm (c : UInt8) : Tr.delims.contains c = ([40, 41, 91, 93, 123, 125, 60, 62, 47, 124, 46] : List UInt8).contains c := by
  have := delims_256 ⟨c.toNat, c.toNat_lt⟩
  simpa using this

theorem symbol_any (s : ByteArray) (w : World) (hm : s.size ≤ 9223372036854775807) :
    Calls Try.prog 69 #[.string s] w fun e w' => e = .returned (.bool (Tr.symbol s.data.toList)) ∧ w' = w := by
  by_cases h1 : s.size = 1
  · obtain ⟨c, rfl⟩ := str_one s h1
    clear h1 hm
    have hsz : (ByteArray.size ⟨#[c]⟩ : Int) = 1 := rfl
    have hsp : Tr.symbol (ByteArray.data ⟨#[c]⟩).toList = (([c] : List UInt8).all Tr.letter || ([43, 45, 42, 47, 61, 60, 62, 44, 59, 58, 33, 124, 39, 63, 126, 64] : List UInt8).contains c) := by
      show (Tr.letter c || Tr.signs.contains c) = ((Tr.letter c && true) || _)
      rw [Bool.and_true, signs_perm]
    have HSP := hid hsp
    clear hsp
    go_enter Try.func69, Try.ntmps69
    go_wp2_with fail
    refine Calls.mono (letters_any (⟨#[c]⟩ : ByteArray) _ (by first | assumption | exact (show 1 ≤ 9223372036854775807 by decide))) ?_
    rintro _ _ ⟨rfl, rfl⟩
    cases h1 : (([c] : List UInt8).all Tr.letter) with
    | false =>
      go_wp2_with fail
      refine Calls.mono (contains_one ([43, 45, 42, 47, 61, 60, 62, 44, 59, 58, 33, 124, 39, 63, 126, 64] : List UInt8) c _) ?_
      rintro _ _ ⟨rfl, rfl⟩
      cases h2 : (([43, 45, 42, 47, 61, 60, 62, 44, 59, 58, 33, 124, 39, 63, 126, 64] : List UInt8).contains c) with
      | false =>
        go_wp2_with fail
        go_ret
        exact ⟨ret_bool' _ _ (by rw [HSP.out] <;> (simp only [*] <;> rfl)), rfl⟩
      | true =>
        go_wp2_with fail
        go_ret
        exact ⟨ret_bool' _ _ (by rw [HSP.out] <;> (simp only [*] <;> rfl)), rfl⟩
    | true =>
      go_wp2_with fail
      go_ret
      exact ⟨ret_bool' _ _ (by rw [HSP.out] <;> (simp only [*] <;> rfl)), rfl⟩
  · have h1' : ((s.size : Int) == (1 : Int)) = false := by rw [beq_eq_false_iff_ne]; omega
    have hsp : Tr.symbol s.data.toList = (decide ((2 : Int) ≤ (s.size : Int)) && (decide ((s.size : Int) ≤ (16 : Int)) && (s.data.toList.all Tr.letter && ((!Tr.keywords.contains s.data.toList) && !Tr.accents.contains s.data.toList)))) := by
      have hl : s.data.toList.length = s.size := by simp
      have e1 : decide ((2 : Int) ≤ (s.size : Int)) = decide (2 ≤ s.data.toList.length) := by rw [hl, Bool.eq_iff_iff, decide_eq_true_iff, decide_eq_true_iff]; omega
      have e2 : decide ((s.size : Int) ≤ (16 : Int)) = decide (s.data.toList.length ≤ 16) := by rw [hl, Bool.eq_iff_iff, decide_eq_true_iff, decide_eq_true_iff]; omega
      rw [e1, e2]
      rw [← hl] at h1
      generalize s.data.toList = l at *
      match l, h1 with
      | [], _ => rfl
      | [c], h1 => exact absurd rfl h1
      | a :: b :: l, _ =>
        show ((a :: b :: l).all Tr.letter && decide (2 ≤ (a :: b :: l).length) && decide ((a :: b :: l).length ≤ 16) && !Tr.keywords.contains (a :: b :: l) && !Tr.accents.contains (a :: b :: l)) = _
        generalize (a :: b :: l).all Tr.letter = x1
        generalize decide (2 ≤ (a :: b :: l).length) = x2
        generalize decide ((a :: b :: l).length ≤ 16) = x3
        generalize Tr.keywords.contains (a :: b :: l) = x4
        generalize Tr.accents.contains (a :: b :: l) = x5
        cases x1 <;> cases x2 <;> cases x3 <;> cases x4 <;> cases x5 <;> rfl
    have HSP := hid hsp
    clear hsp h1
    go_enter Try.func69, Try.ntmps69
    cases h3 : decide ((2 : Int) ≤ (s.size : Int)) with
    | false =>
      have h3n : decide (2 ≤ s.size) = false := by have hx := h3; simp only [decide_eq_false_iff_not] at hx ⊢; omega
      go_wp2_with fail
      go_ret
      exact ⟨ret_bool' _ _ (by rw [HSP.out] <;> (simp only [*] <;> rfl)), rfl⟩
    | true =>
      have h3n : decide (2 ≤ s.size) = true := by have hx := h3; simp only [decide_eq_true_eq] at hx ⊢; omega
      cases h4 : decide ((s.size : Int) ≤ (16 : Int)) with
      | false =>
        go_wp2_with fail
        go_ret
        exact ⟨ret_bool' _ _ (by rw [HSP.out] <;> (simp only [*] <;> rfl)), rfl⟩
      | true =>
        go_wp2_with fail
        refine Calls.mono (letters_any s _ (by first | assumption | exact (show 1 ≤ 9223372036854775807 by decide))) ?_
        rintro _ _ ⟨rfl, rfl⟩
        cases h5 : (s.data.toList.all Tr.letter) with
        | false =>
          go_wp2_with fail
          go_ret
          exact ⟨ret_bool' _ _ (by rw [HSP.out] <;> (simp only [*] <;> rfl)), rfl⟩
        | true =>
          go_wp2_with fail
          refine Calls.mono (keyword_any s _) ?_
          rintro _ _ ⟨rfl, rfl⟩
          cases h6 : (Tr.keywords.contains s.data.toList) with
          | false =>
            go_wp2_with fail
            refine Calls.mono (accent_any s _) ?_
            rintro _ _ ⟨rfl, rfl⟩
            cases h7 : (Tr.accents.contains s.data.toList) with
            | false =>
              go_wp2_with fail
              go_ret
              exact ⟨ret_bool' _ _ (by rw [HSP.out] <;> (simp only [*] <;> rfl)), rfl⟩
            | true =>
              go_wp2_with fail
              go_ret
              exact ⟨ret_bool' _ _ (by rw [HSP.out] <;> (simp only [*] <;> rfl)), rfl⟩
          | true =>
            go_wp2_with fail
            go_ret
            exact ⟨ret_bool' _ _ (by rw [HSP.out] <;> (simp only [*] <;> rfl)), rfl⟩
theorem fence_any (s : ByteArray) (w : World) :
    Calls Try.prog 73 #[.string s] w fun e w' => e = .returned (.bool (Tr.fence s.data.toList)) ∧ w' = w := by
  by_cases h1 : s.size = 2
  · obtain ⟨a, b, rfl⟩ := str_two s h1
    clear h1
    have hsz : (ByteArray.size ⟨#[a, b]⟩ : Int) = 2 := rfl
    have hsp : Tr.fence (ByteArray.data ⟨#[a, b]⟩).toList = (decide ((0 : Int) ≤ (Lib.indexByte ([40, 41, 91, 93, 123, 125, 60, 62, 47, 124, 46] : List UInt8) a)) && decide ((0 : Int) ≤ (Lib.indexByte ([40, 41, 91, 93, 123, 125, 60, 62, 47, 124, 46] : List UInt8) b))) := by
      rw [idx_contains, idx_contains, ← delims_perm, ← delims_perm]
      first | done | rfl
    have HSP := hid hsp
    clear hsp
    go_enter Try.func73, Try.ntmps73
    go_wp2_with fail
    refine Calls.mono (indexByte_byte ([40, 41, 91, 93, 123, 125, 60, 62, 47, 124, 46] : List UInt8) a _) ?_
    rintro _ _ ⟨rfl, rfl⟩
    cases h8 : decide ((0 : Int) ≤ (Lib.indexByte ([40, 41, 91, 93, 123, 125, 60, 62, 47, 124, 46] : List UInt8) a)) with
    | false =>
      go_wp2_with fail
      go_ret
      exact ⟨ret_bool' _ _ (by rw [HSP.out] <;> (simp only [*] <;> rfl)), rfl⟩
    | true =>
      go_wp2_with fail
      refine Calls.mono (indexByte_byte ([40, 41, 91, 93, 123, 125, 60, 62, 47, 124, 46] : List UInt8) b _) ?_
      rintro _ _ ⟨rfl, rfl⟩
      cases h9 : decide ((0 : Int) ≤ (Lib.indexByte ([40, 41, 91, 93, 123, 125, 60, 62, 47, 124, 46] : List UInt8) b)) with
      | false =>
        go_wp2_with fail
        go_ret
        exact ⟨ret_bool' _ _ (by rw [HSP.out] <;> (simp only [*] <;> rfl)), rfl⟩
      | true =>
        go_wp2_with fail
        go_ret
        exact ⟨ret_bool' _ _ (by rw [HSP.out] <;> (simp only [*] <;> rfl)), rfl⟩
  · have h1' : ((s.size : Int) == (2 : Int)) = false := by rw [beq_eq_false_iff_ne]; omega
    have hsp : Tr.fence s.data.toList = false := by
      have hl : s.data.toList.length = s.size := by simp
      rw [← hl] at h1
      generalize s.data.toList = l at *
      match l, h1 with
      | [], _ => rfl
      | [_], _ => rfl
      | [_, _], h1 => exact absurd rfl h1
      | _ :: _ :: _ :: _, _ => rfl
    have HSP := hid hsp
    clear hsp h1
    go_enter Try.func73, Try.ntmps73
    go_wp2_with fail
    go_ret
    exact ⟨ret_bool' _ _ (by rw [HSP.out] <;> (simp only [*] <;> rfl)), rfl⟩

/-- A text cut at the first point. -/
def cutP (l : List UInt8) : List UInt8 × List UInt8 × Bool :=
  if (0 : Int) ≤ Lib.indexByte l 46 then (l.take (Lib.indexByte l 46).toNat, l.drop ((Lib.indexByte l 46).toNat + 1), true) else (l, [], false)
theorem idx_lt (l : List UInt8) (c : UInt8) : Lib.indexByte l c < l.length := by
  induction l with
  | nil => show (-1 : Int) < 0; decide
  | cons b l ih =>
    rw [Lib.indexByte, List.length_cons]
    split
    · omega
    · split <;> omega
theorem str_ext (s : ByteArray) (l : List UInt8) (h : s.data.toList = l) : s = ⟨l.toArray⟩ := by
  apply ByteArray.ext
  apply Array.toList_inj.1
  rw [h]
theorem extract_take (s : ByteArray) (k : Nat) : s.extract 0 k = ⟨(s.data.toList.take k).toArray⟩ := by
  apply str_ext
  rw [Lib.extract_data]
  simp
theorem extract_drop (s : ByteArray) (k : Nat) : s.extract k s.size = ⟨(s.data.toList.drop k).toArray⟩ := by
  apply str_ext
  rw [Lib.extract_to_end]
theorem ret_t3 (a b a' b' : ByteArray) (c c' : Bool) (h1 : a = a') (h2 : b = b') (h3 : c = c') : Ending.returned (.tuple #[.string a, .string b, .bool c]) = .returned (.tuple #[.string a', .string b', .bool c']) := by rw [h1, h2, h3]

set_option maxHeartbeats 400000 in
theorem cut_point (s : ByteArray) (w : World) (hm : s.size ≤ 9223372036854775807) :
    Calls Try.prog 142 #[.string s, .string ⟨#[46]⟩] w fun e w' => e = .returned (.tuple #[.string ⟨(cutP s.data.toList).1.toArray⟩, .string ⟨(cutP s.data.toList).2.1.toArray⟩, .bool (cutP s.data.toList).2.2]) ∧ ∃ n, w' = w.drewN n := by
  have hl : s.data.toList.length = s.size := by simp
  have hlt := idx_lt s.data.toList 46
  have hc := hid (show cutP s.data.toList = _ from rfl)
  have HIX := hid (Try.stringslite_Index_one s 46)
  rw [hl] at hlt
  clear hl
  unfold cutP at hc ⊢
  generalize hix : Lib.indexByte s.data.toList 46 = i at *
  clear hix
  by_cases h0 : 0 ≤ i
  · have d0 : decide ((0 : Int) ≤ i) = true := by simp; omega
    obtain ⟨k, rfl⟩ : ∃ k : Nat, i = k := ⟨i.toNat, by omega⟩
    clear h0 hc
    go_enter Try.func142, Try.ntmps142
    go_wp2_with fail
    refine (HIX.out _).mono ?_
    rintro _ _ ⟨rfl, rfl⟩
    have d1 : (k : Int) ≤ (s.size : Int) := by omega
    have d2 : (k : Int) + 1 ≤ (s.size : Int) := by omega
    have d3 : k ≤ s.size := by omega
    have d4 : k + 1 ≤ s.size := by omega
    go_wp2_with fail
    go_quiet (fail)
    go_wp2_with fail
    go_ret3
    refine ⟨ret_t3 _ _ _ _ _ _ ?_ ?_ ?_, _, rfl⟩
    · exact extract_take s k
    · exact extract_drop s (k + 1)
    · rfl
  · have d0 : decide ((0 : Int) ≤ i) = false := by simp; omega
    rw [if_neg h0]
    go_enter Try.func142, Try.ntmps142
    go_wp2_with fail
    refine (HIX.out _).mono ?_
    rintro _ _ ⟨rfl, rfl⟩
    clear hc h0
    go_wp2_with fail
    go_ret3
    refine ⟨?_, 0, rfl⟩
    first | rfl | exact ret_t3 _ _ _ _ _ _ rfl rfl rfl

theorem cut_any (s : ByteArray) (w : World) (hm : s.size ≤ 9223372036854775807) :
    Calls Try.prog 119 #[.string s, .string ⟨#[46]⟩] w fun e w' => e = .returned (.tuple #[.string ⟨(cutP s.data.toList).1.toArray⟩, .string ⟨(cutP s.data.toList).2.1.toArray⟩, .bool (cutP s.data.toList).2.2]) ∧ Fresh w w' := by
  go_enter Try.func119, Try.ntmps119
  go_wp2_with fail
  refine (cut_point s _ hm).mono ?_
  rintro _ _ ⟨rfl, n, rfl⟩
  go_wp2_with fail
  go_ret3
  exact ⟨rfl, (Touch.refl _ _).drewN _⟩

def digitsNE (l : List UInt8) : Bool := l.all Tr.digit && !(l == [])
theorem digits_ne (l : List UInt8) (w : World) (hm : ByteArray.size ⟨l.toArray⟩ ≤ 9223372036854775807) :
    Calls Try.prog 120 #[.string ⟨l.toArray⟩] w fun e w' => e = .returned (.bool (digitsNE l)) ∧ w' = w := digits_any ⟨l.toArray⟩ w hm
theorem cutP_nil : cutP [] = ([], [], false) := rfl
theorem cutP_cons (b : UInt8) (l : List UInt8) : cutP (b :: l) = if b = 46 then ([], l, true) else (b :: (cutP l).1, (cutP l).2.1, (cutP l).2.2) := by
  unfold cutP
  rw [Lib.indexByte]
  by_cases h : b = 46
  · subst h; simp
  · have h' : (b == 46) = false := by simpa using h
    rw [h', if_neg h]
    simp only [Bool.false_eq_true, if_false]
    have hlo : -1 ≤ Lib.indexByte l 46 := by
      induction l with
      | nil => show (-1 : Int) ≤ -1; decide
      | cons b l ih => rw [Lib.indexByte]; split <;> (try split) <;> omega
    by_cases h2 : Lib.indexByte l 46 = -1
    · rw [h2]; simp
    · have h3 : (Lib.indexByte l 46 == -1) = false := by simpa using h2
      rw [h3]
      simp only [Bool.false_eq_true, if_false]
      rw [if_pos (by omega), if_pos (by omega)]
      have e : (Lib.indexByte l 46 + 1).toNat = (Lib.indexByte l 46).toNat + 1 := by omega
      rw [e]
      simp
theorem digit_ne_point (b : UInt8) (h : Tr.digit b = true) : b ≠ 46 := by rintro rfl; revert h; decide
theorem cut_span (l : List UInt8) : (l.takeWhile (· ≠ 46) = (cutP l).1 ∧ l.dropWhile (· ≠ 46) = if (cutP l).2.2 then 46 :: (cutP l).2.1 else []) ∧ ((cutP l).2.2 = false → (cutP l).1 = l ∧ (cutP l).2.1 = []) := by
  induction l with
  | nil => exact ⟨⟨rfl, rfl⟩, fun _ => ⟨rfl, rfl⟩⟩
  | cons b l ih =>
    rw [cutP_cons]
    obtain ⟨h1, h2⟩ := ih
    by_cases h : b = 46
    · subst h
      rw [if_pos rfl]
      exact ⟨⟨rfl, rfl⟩, fun h => by cases h⟩
    · rw [if_neg h]
      refine ⟨⟨?_, ?_⟩, fun hx => ?_⟩
      · rw [List.takeWhile_cons, if_pos (by simpa using h), h1.1]
      · rw [List.dropWhile_cons, if_pos (by simpa using h), h1.2]
      · obtain ⟨e1, e2⟩ := h2 hx
        exact ⟨by rw [e1], e2⟩
theorem isNum_cut (l : List UInt8) : Tr.isNum l = (decide (l.length ≤ 20) && (digitsNE (cutP l).1 && (!(cutP l).2.2 || digitsNE (cutP l).2.1))) := by
  obtain ⟨h1, h2⟩ := cut_span l
  unfold Tr.isNum
  rw [h1.1, h1.2]
  have hall : (cutP l).2.2 = true → l.all Tr.digit = false := by
    clear h1 h2
    induction l with
    | nil => intro h; cases h
    | cons b l ih =>
      rw [cutP_cons]
      by_cases h : b = 46
      · subst h; intro _; rfl
      · rw [if_neg h]
        intro hx
        rw [List.all_cons, ih hx, Bool.and_false]
  have hne : (cutP l).2.2 = true → l ≠ [] := by rintro h rfl; cases h
  cases hc : (cutP l).2.2 with
  | false =>
    obtain ⟨e1, e2⟩ := h2 hc
    rw [e1]
    unfold digitsNE
    cases l with
    | nil => rfl
    | cons b l => simp
  | true =>
    rw [hall hc]
    unfold digitsNE
    generalize (cutP l).1 = a
    generalize (cutP l).2.1 = b
    have := hne hc
    cases a <;> cases b <;> simp [this, Bool.and_assoc]

theorem cutP_len (l : List UInt8) : (cutP l).1.length ≤ l.length ∧ (cutP l).2.1.length ≤ l.length := by
  unfold cutP
  split
  · simp only [List.length_take, List.length_drop]; omega
  · simp
set_option maxHeartbeats 400000 in
theorem numText_any (s : ByteArray) (w : World) (hm : s.size ≤ 9223372036854775807) :
    Calls Try.prog 70 #[.string s] w fun e w' => e = .returned (.bool (Tr.isNum s.data.toList)) ∧ Fresh w w' := by
  have hl : s.data.toList.length = s.size := by simp
  have hcl := cutP_len s.data.toList
  rw [hl] at hcl
  have hm1 : ByteArray.size ⟨(cutP s.data.toList).2.1.toArray⟩ ≤ 9223372036854775807 := by show (cutP s.data.toList).2.1.toArray.size ≤ _; simp; omega
  have hm2 : ByteArray.size ⟨(cutP s.data.toList).1.toArray⟩ ≤ 9223372036854775807 := by show (cutP s.data.toList).1.toArray.size ≤ _; simp; omega
  have hsp : Tr.isNum s.data.toList = (decide ((s.size : Int) ≤ (20 : Int)) && (digitsNE (cutP s.data.toList).1 && (!(cutP s.data.toList).2.2 || digitsNE (cutP s.data.toList).2.1))) := by
    rw [isNum_cut, hl]; congr 1; rw [Bool.eq_iff_iff, decide_eq_true_iff, decide_eq_true_iff]; omega
  have HSP := hid hsp
  clear hsp hl hcl
  go_enter Try.func70, Try.ntmps70
  go_wp2_with fail
  refine Calls.mono (cut_any s _ hm) ?_
  rintro _ w8 ⟨rfl, hfw8⟩
  have HF8 := hid (show Fresh w w8 from by first | exact hfw8 | exact Touch.pre hfw8 | exact Touch.pre (Touch.pre hfw8) | exact Touch.ofN hfw8 | exact Touch.preN hfw8 | exact Touch.pre (Touch.pre (Touch.pre hfw8)))
  clear hfw8
  cases h10 : decide ((s.size : Int) ≤ (20 : Int)) with
  | false =>
    go_wp2_with fail
    go_ret
    exact ⟨ret_bool' _ _ (by rw [HSP.out] <;> (simp only [*] <;> rfl)), (by first | exact HF8.out | exact HF8.out.alloc _ | exact (HF8.out.alloc _).alloc _ | exact ((HF8.out.alloc _).alloc _).alloc _ | exact HF8.out.drewN _ | exact (HF8.out.alloc _).drewN _ | exact ((HF8.out.alloc _).alloc _).drewN _)⟩
  | true =>
    go_wp2_with fail
    refine Calls.mono (digits_ne (cutP s.data.toList).1 _ hm2) ?_
    rintro _ _ ⟨rfl, rfl⟩
    cases h11 : (digitsNE (cutP s.data.toList).1) with
    | false =>
      go_wp2_with fail
      go_ret
      exact ⟨ret_bool' _ _ (by rw [HSP.out] <;> (simp only [*] <;> rfl)), (by first | exact HF8.out | exact HF8.out.alloc _ | exact (HF8.out.alloc _).alloc _ | exact ((HF8.out.alloc _).alloc _).alloc _ | exact HF8.out.drewN _ | exact (HF8.out.alloc _).drewN _ | exact ((HF8.out.alloc _).alloc _).drewN _)⟩
    | true =>
      cases h12 : (cutP s.data.toList).2.2 with
      | false =>
        go_wp2_with fail
        go_ret
        exact ⟨ret_bool' _ _ (by rw [HSP.out] <;> (simp only [*] <;> rfl)), (by first | exact HF8.out | exact HF8.out.alloc _ | exact (HF8.out.alloc _).alloc _ | exact ((HF8.out.alloc _).alloc _).alloc _ | exact HF8.out.drewN _ | exact (HF8.out.alloc _).drewN _ | exact ((HF8.out.alloc _).alloc _).drewN _)⟩
      | true =>
        go_wp2_with fail
        refine Calls.mono (digits_ne (cutP s.data.toList).2.1 _ hm1) ?_
        rintro _ _ ⟨rfl, rfl⟩
        cases h13 : (digitsNE (cutP s.data.toList).2.1) with
        | false =>
          go_wp2_with fail
          go_ret
          exact ⟨ret_bool' _ _ (by rw [HSP.out] <;> (simp only [*] <;> rfl)), (by first | exact HF8.out | exact HF8.out.alloc _ | exact (HF8.out.alloc _).alloc _ | exact ((HF8.out.alloc _).alloc _).alloc _ | exact HF8.out.drewN _ | exact (HF8.out.alloc _).drewN _ | exact ((HF8.out.alloc _).alloc _).drewN _)⟩
        | true =>
          go_wp2_with fail
          go_ret
          exact ⟨ret_bool' _ _ (by rw [HSP.out] <;> (simp only [*] <;> rfl)), (by first | exact HF8.out | exact HF8.out.alloc _ | exact (HF8.out.alloc _).alloc _ | exact ((HF8.out.alloc _).alloc _).alloc _ | exact HF8.out.drewN _ | exact (HF8.out.alloc _).drewN _ | exact ((HF8.out.alloc _).alloc _).drewN _)⟩

end Go.Proofs.Ytilgpmpiidccjaa

/- The walk of node's kinds. -/
namespace Go.Proofs.Ytilgpmpiidccjaa
open Go.RowKit
attribute [local go_sem] Oper.semAt_some


def kindV1 : Value := .agg #[.string ⟨#[114, 111, 119]⟩, .int .i64 0, .func (.func 68) #[] #[]]
theorem built_kind1 : Try.prog.built 97 [(0, .string ⟨#[114, 111, 119]⟩), (1, .int .i64 0), (2, .func (.func 68) #[] #[])] = some #[.string ⟨#[114, 111, 119]⟩, .int .i64 0, .func (.func 68) #[] #[]] := by kernel_rfl
def kindV2 : Value := .agg #[.string ⟨#[115, 121, 109]⟩, .int .i64 0, .func (.func 69) #[] #[]]
theorem built_kind2 : Try.prog.built 97 [(0, .string ⟨#[115, 121, 109]⟩), (1, .int .i64 0), (2, .func (.func 69) #[] #[])] = some #[.string ⟨#[115, 121, 109]⟩, .int .i64 0, .func (.func 69) #[] #[]] := by kernel_rfl
def kindV3 : Value := .agg #[.string ⟨#[110, 117, 109]⟩, .int .i64 0, .func (.func 70) #[] #[]]
theorem built_kind3 : Try.prog.built 97 [(0, .string ⟨#[110, 117, 109]⟩), (1, .int .i64 0), (2, .func (.func 70) #[] #[])] = some #[.string ⟨#[110, 117, 109]⟩, .int .i64 0, .func (.func 70) #[] #[]] := by kernel_rfl
def kindV4 : Value := .agg #[.string ⟨#[116, 101, 120, 116]⟩, .int .i64 0, .func (.func 71) #[] #[]]
theorem built_kind4 : Try.prog.built 97 [(0, .string ⟨#[116, 101, 120, 116]⟩), (1, .int .i64 0), (2, .func (.func 71) #[] #[])] = some #[.string ⟨#[116, 101, 120, 116]⟩, .int .i64 0, .func (.func 71) #[] #[]] := by kernel_rfl
def kindV5 : Value := .agg #[.string ⟨#[102, 114, 97, 99]⟩, .int .i64 2, .func (.func 68) #[] #[]]
theorem built_kind5 : Try.prog.built 97 [(0, .string ⟨#[102, 114, 97, 99]⟩), (1, .int .i64 2), (2, .func (.func 68) #[] #[])] = some #[.string ⟨#[102, 114, 97, 99]⟩, .int .i64 2, .func (.func 68) #[] #[]] := by kernel_rfl
def kindV6 : Value := .agg #[.string ⟨#[114, 111, 111, 116]⟩, .int .i64 2, .func (.func 68) #[] #[]]
theorem built_kind6 : Try.prog.built 97 [(0, .string ⟨#[114, 111, 111, 116]⟩), (1, .int .i64 2), (2, .func (.func 68) #[] #[])] = some #[.string ⟨#[114, 111, 111, 116]⟩, .int .i64 2, .func (.func 68) #[] #[]] := by kernel_rfl
def kindV7 : Value := .agg #[.string ⟨#[115, 117, 98]⟩, .int .i64 2, .func (.func 68) #[] #[]]
theorem built_kind7 : Try.prog.built 97 [(0, .string ⟨#[115, 117, 98]⟩), (1, .int .i64 2), (2, .func (.func 68) #[] #[])] = some #[.string ⟨#[115, 117, 98]⟩, .int .i64 2, .func (.func 68) #[] #[]] := by kernel_rfl
def kindV8 : Value := .agg #[.string ⟨#[115, 117, 112]⟩, .int .i64 2, .func (.func 68) #[] #[]]
theorem built_kind8 : Try.prog.built 97 [(0, .string ⟨#[115, 117, 112]⟩), (1, .int .i64 2), (2, .func (.func 68) #[] #[])] = some #[.string ⟨#[115, 117, 112]⟩, .int .i64 2, .func (.func 68) #[] #[]] := by kernel_rfl
def kindV9 : Value := .agg #[.string ⟨#[98, 111, 116, 104]⟩, .int .i64 3, .func (.func 68) #[] #[]]
theorem built_kind9 : Try.prog.built 97 [(0, .string ⟨#[98, 111, 116, 104]⟩), (1, .int .i64 3), (2, .func (.func 68) #[] #[])] = some #[.string ⟨#[98, 111, 116, 104]⟩, .int .i64 3, .func (.func 68) #[] #[]] := by kernel_rfl
def kindV10 : Value := .agg #[.string ⟨#[97, 99, 99, 101, 110, 116]⟩, .int .i64 1, .func (.func 72) #[] #[]]
theorem built_kind10 : Try.prog.built 97 [(0, .string ⟨#[97, 99, 99, 101, 110, 116]⟩), (1, .int .i64 1), (2, .func (.func 72) #[] #[])] = some #[.string ⟨#[97, 99, 99, 101, 110, 116]⟩, .int .i64 1, .func (.func 72) #[] #[]] := by kernel_rfl
def kindV11 : Value := .agg #[.string ⟨#[102, 101, 110, 99, 101]⟩, .int .i64 1, .func (.func 73) #[] #[]]
theorem built_kind11 : Try.prog.built 97 [(0, .string ⟨#[102, 101, 110, 99, 101]⟩), (1, .int .i64 1), (2, .func (.func 73) #[] #[])] = some #[.string ⟨#[102, 101, 110, 99, 101]⟩, .int .i64 1, .func (.func 73) #[] #[]] := by kernel_rfl
def kindV12 : Value := .agg #[.string ⟨#[109, 97, 116, 114, 105, 120]⟩, .int .i64 0, .func (.func 68) #[] #[]]
theorem built_kind12 : Try.prog.built 97 [(0, .string ⟨#[109, 97, 116, 114, 105, 120]⟩), (1, .int .i64 0), (2, .func (.func 68) #[] #[])] = some #[.string ⟨#[109, 97, 116, 114, 105, 120]⟩, .int .i64 0, .func (.func 68) #[] #[]] := by kernel_rfl
def kindCells : Array Value := #[.string ⟨#[]⟩, .int .i64 0, .nilFunc, .string ⟨#[114, 111, 119]⟩, .int .i64 0, .func (.func 68) #[] #[], .string ⟨#[115, 121, 109]⟩, .int .i64 0, .func (.func 69) #[] #[], .string ⟨#[110, 117, 109]⟩, .int .i64 0, .func (.func 70) #[] #[], .string ⟨#[116, 101, 120, 116]⟩, .int .i64 0, .func (.func 71) #[] #[], .string ⟨#[102, 114, 97, 99]⟩, .int .i64 2, .func (.func 68) #[] #[], .string ⟨#[114, 111, 111, 116]⟩, .int .i64 2, .func (.func 68) #[] #[], .string ⟨#[115, 117, 98]⟩, .int .i64 2, .func (.func 68) #[] #[], .string ⟨#[115, 117, 112]⟩, .int .i64 2, .func (.func 68) #[] #[], .string ⟨#[98, 111, 116, 104]⟩, .int .i64 3, .func (.func 68) #[] #[], .string ⟨#[97, 99, 99, 101, 110, 116]⟩, .int .i64 1, .func (.func 72) #[] #[], .string ⟨#[102, 101, 110, 99, 101]⟩, .int .i64 1, .func (.func 73) #[] #[], .string ⟨#[109, 97, 116, 114, 105, 120]⟩, .int .i64 0, .func (.func 68) #[] #[]]
def zeroKinds : Array Value := #[.string ⟨#[]⟩, .int .i64 0, .nilFunc, .string ⟨#[]⟩, .int .i64 0, .nilFunc, .string ⟨#[]⟩, .int .i64 0, .nilFunc, .string ⟨#[]⟩, .int .i64 0, .nilFunc, .string ⟨#[]⟩, .int .i64 0, .nilFunc, .string ⟨#[]⟩, .int .i64 0, .nilFunc, .string ⟨#[]⟩, .int .i64 0, .nilFunc, .string ⟨#[]⟩, .int .i64 0, .nilFunc, .string ⟨#[]⟩, .int .i64 0, .nilFunc, .string ⟨#[]⟩, .int .i64 0, .nilFunc, .string ⟨#[]⟩, .int .i64 0, .nilFunc, .string ⟨#[]⟩, .int .i64 0, .nilFunc, .string ⟨#[]⟩, .int .i64 0, .nilFunc]
theorem zeroKinds_run (w : World) : (zeroValue 98).run Try.prog w = .ok (.agg zeroKinds) w := by kernel_rfl
theorem built_kinds : Try.prog.built 98 [(1, kindV1), (2, kindV2), (3, kindV3), (4, kindV4), (5, kindV5), (6, kindV6), (7, kindV7), (8, kindV8), (9, kindV9), (10, kindV10), (11, kindV11), (12, kindV12)] = some kindCells := by kernel_rfl
theorem infoKinds : (Try.prog.info? 98).map (·.size) = some 39 := by kernel_rfl
theorem kindCells_one : kindCells.all (·.oneCell') = true := by kernel_rfl
theorem wpList_build_kind {t : TypeId} {cs : Array Value} {ops : Array Oper} {rest : List Oper} {o : Oper} {a : Act} {w : World} {Q : Exit → Act → World → Prop} (vs : List (Nat × Value)) (hb : Try.prog.built t vs = some cs) (xs : Array (Nat × Operand)) (hg : o.guard = none) (ho : o.op = .build t xs)
    (hx : (xs.map fun p => (p.1, a.eval p.2)) = vs.toArray) (v : Value) (hv : v = .agg cs) (h : wpList Try.prog ops Q rest (a.put o.dst v) w) : wpList Try.prog ops Q (o :: rest) a w := by
  subst hv
  refine wpList_plain hg fun K hK => ?_
  unfold Oper.wp execOp
  simp only [ho, Sem.run_bind, hx]
  rw [run_build w t vs.toArray _ hb]
  simp only [Result.andThen_ok]
  exact hK _ _ h

set_option maxRecDepth 100000 in
set_option maxHeartbeats 1000000 in
theorem kinds_any (w : World) :
    Calls Try.prog 48 #[] w fun e w' => e = .returned (.agg kindCells) ∧ Fresh w w' := by
  have hz := zeroKinds_run
  go_enter Try.func48, Try.ntmps48
  go_wp2_with (first
    | (refine wpList_build_kind _ built_kind1 _ rfl rfl rfl kindV1 rfl ?_)
    | (refine wpList_build_kind _ built_kind2 _ rfl rfl rfl kindV2 rfl ?_)
    | (refine wpList_build_kind _ built_kind3 _ rfl rfl rfl kindV3 rfl ?_)
    | (refine wpList_build_kind _ built_kind4 _ rfl rfl rfl kindV4 rfl ?_)
    | (refine wpList_build_kind _ built_kind5 _ rfl rfl rfl kindV5 rfl ?_)
    | (refine wpList_build_kind _ built_kind6 _ rfl rfl rfl kindV6 rfl ?_)
    | (refine wpList_build_kind _ built_kind7 _ rfl rfl rfl kindV7 rfl ?_)
    | (refine wpList_build_kind _ built_kind8 _ rfl rfl rfl kindV8 rfl ?_)
    | (refine wpList_build_kind _ built_kind9 _ rfl rfl rfl kindV9 rfl ?_)
    | (refine wpList_build_kind _ built_kind10 _ rfl rfl rfl kindV10 rfl ?_)
    | (refine wpList_build_kind _ built_kind11 _ rfl rfl rfl kindV11 rfl ?_)
    | (refine wpList_build_kind _ built_kind12 _ rfl rfl rfl kindV12 rfl ?_)
    | (refine wpList_build_kind _ built_kinds _ rfl rfl rfl (.agg kindCells) rfl ?_)
    | (refine wpList_store_row rfl 98 _ _ rfl w.heap.size kindCells rfl rfl 98 zeroKinds (Blk.new _ _ _) infoKinds rfl kindCells_one ?_))
  refine bodyPost_ret (results_cell_row (fn := Try.f48) (p := 0) rfl _ _ w.heap.size 98 kindCells (0, 0) _ rfl (setRow_heap _ _ _ _ _ _ (Blk.new _ _ _)) Try.underlying98 rfl infoKinds) rfl ?_
  exact ⟨rfl, ((Touch.refl _ w).alloc _).setRow (.inr (Nat.le_refl _)) _⟩
end Go.Proofs.Ytilgpmpiidccjaa

/- The walk of printer.visitors. -/
namespace Go.Proofs.Ytilgpmpiidccjaa
open Go.RowKit
attribute [local go_sem] Oper.semAt_some


def visitCells : Array Value := #[.nilFunc, .nilFunc, .func (.func 75) #[] #[], .func (.func 76) #[] #[], .func (.func 77) #[] #[], .func (.func 78) #[] #[], .func (.func 79) #[] #[], .func (.func 80) #[] #[], .func (.func 80) #[] #[], .func (.func 80) #[] #[], .func (.func 81) #[] #[], .func (.func 82) #[] #[], .func (.func 83) #[] #[]]
def zeroVisits : Array Value := #[.nilFunc, .nilFunc, .nilFunc, .nilFunc, .nilFunc, .nilFunc, .nilFunc, .nilFunc, .nilFunc, .nilFunc, .nilFunc, .nilFunc, .nilFunc]
theorem zeroVisits_run (w : World) : (zeroValue 105).run Try.prog w = .ok (.agg zeroVisits) w := by kernel_rfl
theorem built_visits : Try.prog.built 105 [(2, .func (.func 75) #[] #[]), (3, .func (.func 76) #[] #[]), (4, .func (.func 77) #[] #[]), (5, .func (.func 78) #[] #[]), (6, .func (.func 79) #[] #[]), (7, .func (.func 80) #[] #[]), (8, .func (.func 80) #[] #[]), (9, .func (.func 80) #[] #[]), (10, .func (.func 81) #[] #[]), (11, .func (.func 82) #[] #[]), (12, .func (.func 83) #[] #[])] = some visitCells := by kernel_rfl
theorem infoVisits : (Try.prog.info? 105).map (·.size) = some 13 := by kernel_rfl
theorem visitCells_one : visitCells.all (·.oneCell') = true := by kernel_rfl

set_option maxRecDepth 100000 in
set_option maxHeartbeats 1000000 in
theorem visitors_any (w : World) :
    Calls Try.prog 50 #[] w fun e w' => e = .returned (.agg visitCells) ∧ Fresh w w' := by
  have hz := zeroVisits_run
  go_enter Try.func50, Try.ntmps50
  go_wp2_with (first
    | (refine wpList_build_kind _ built_visits _ rfl rfl rfl (.agg visitCells) rfl ?_)
    | (refine wpList_store_row rfl 105 _ _ rfl w.heap.size visitCells rfl rfl 105 zeroVisits (Blk.new _ _ _) infoVisits rfl visitCells_one ?_))
  refine bodyPost_ret (results_cell_row (fn := Try.f50) (p := 0) rfl _ _ w.heap.size 105 visitCells (0, 0) _ rfl (setRow_heap _ _ _ _ _ _ (Blk.new _ _ _)) Try.underlying105 rfl infoVisits) rfl ?_
  exact ⟨rfl, ((Touch.refl _ w).alloc _).setRow (.inr (Nat.le_refl _)) _⟩
end Go.Proofs.Ytilgpmpiidccjaa

/- The spelling of tokens as a plain function. -/
namespace Go.Proofs.Ytilgpmpiidccjaa.Lx

def escB (b : UInt8) : Bytes := if b = 34 ∨ b = 92 then [92, b] else [b]
def esc (l : Bytes) : Bytes := l.flatMap escB
def quoteL (l : Bytes) : Bytes := 34 :: (esc l ++ [34])
def spellL (k : Int) (t : Bytes) : Bytes :=
  if k = 3 then quoteL t else if k = 4 then 92 :: t else if k = 5 then [92, 102, 101, 110, 99, 101] ++ t else if k = 6 then 35 :: t else t
theorem esc_len (l : Bytes) : (esc l).length ≤ 2 * l.length := by
  induction l with
  | nil => simp [esc]
  | cons b l ih =>
    have : (escB b).length ≤ 2 := by unfold escB; split <;> simp
    simp [esc] at ih ⊢; omega
theorem esc_snoc (l : Bytes) (b : UInt8) : esc (l ++ [b]) = esc l ++ escB b := by simp [esc]
end Go.Proofs.Ytilgpmpiidccjaa.Lx

/- The plain law of the places of tokens. -/
namespace Go.Proofs.Ytilgpmpiidccjaa.Lx

/-- Tokens that stand in order from an offset on, each with its spelling at its place, with nothing but blanks around them. -/
def okFrom (l : Bytes) : Nat → List PTok → Prop
  | a, [] => a ≤ l.length ∧ (l.drop a).all (isB 1) = true
  | a, t :: ts => a ≤ t.from_ ∧ t.from_ < t.to_ ∧ t.to_ ≤ l.length ∧ ((l.drop a).take (t.from_ - a)).all (isB 1) = true ∧ (l.drop t.from_).take (t.to_ - t.from_) = spellL t.kind t.text ∧ okFrom l t.to_ ts

theorem spellL_len (k : Int) (t : Bytes) : t.length ≤ (spellL k t).length := by
  have he : ∀ l : Bytes, l.length ≤ (esc l).length := fun l => by
    induction l with
    | nil => simp
    | cons b l ih =>
      have : 1 ≤ (escB b).length := by unfold escB; split <;> simp
      simp [esc] at ih ⊢; omega
  unfold spellL
  have := he t
  repeat' split
  · simp [quoteL]; omega
  · simp
  · simp; omega
  · simp
  · exact Nat.le_refl _

theorem lim_as {most : Nat} {t t' : Tok} {n n' : Nat} (h : lim most t n = .ok t' n') : t = t' ∧ n = n' := by
  obtain ⟨h1, h2⟩ := lim_ok h
  exact ⟨h1.symm, h2.symm⟩

theorem quo_spell : ∀ (q acc : Bytes) (i : Nat) (t : Tok) (n : Nat), quo q acc i = .ok t n → t.kind = 3 ∧ ∃ x, t.text = acc ++ x ∧ i < n ∧ q.take (n - i) = esc x ++ [34]
  | [], acc, i, t, n, h => by simp [quo] at h
  | c :: q, acc, i, t, n, h => by
    unfold quo at h
    split at h
    · rename_i hc
      obtain ⟨h1, h2⟩ := lim_as h
      subst h1 h2 hc
      exact ⟨rfl, [], by simp, by omega, by simp [esc]⟩
    · rename_i hc
      split at h
      · cases h
      · split at h
        · rename_i hc2
          subst hc2
          cases q with
          | nil => simp at h
          | cons d q' =>
            simp only at h
            split at h
            · rename_i hd
              obtain ⟨h1, x, h2, h3, h4⟩ := quo_spell q' _ _ t n h
              refine ⟨h1, d :: x, by rw [h2]; simp, by omega, ?_⟩
              have e1 : n - i = (n - (i + 2)) + 1 + 1 := by omega
              rw [e1, List.take_succ_cons, List.take_succ_cons, h4]
              have : escB d = [92, d] := by unfold escB; rw [if_pos hd]
              simp [esc, this]
            · cases h
        · rename_i hc2
          obtain ⟨h1, x, h2, h3, h4⟩ := quo_spell q _ _ t n h
          refine ⟨h1, c :: x, by rw [h2]; simp, by omega, ?_⟩
          have e1 : n - i = (n - (i + 1)) + 1 := by omega
          rw [e1, List.take_succ_cons, h4]
          have : escB c = [c] := by unfold escB; rw [if_neg (by rintro (h | h) <;> contradiction)]
          simp [esc, this]

theorem next_spell (r : Bytes) (t : Tok) (n : Nat) (h : next r = .ok t n) : r.take n = spellL t.kind t.text := by
  cases r with
  | nil => simp [next] at h
  | cons c q =>
    rw [next] at h
    split at h
    · obtain ⟨h1, h2⟩ := lim_as h
      subst h1 h2; rfl
    · split at h
      · cases h; rfl
      · split at h
        · rename_i hc
          obtain ⟨h1, x, h2, h3, h4⟩ := quo_spell q [] 1 t n h
          have e1 : n = (n - 1) + 1 := by omega
          rw [e1, List.take_succ_cons, h4, h1, h2, hc]
          simp [spellL, quoteL]
        · split at h
          · rename_i hc
            obtain ⟨h1, h2⟩ := hc
            cases h
            cases q with
            | nil => simp at h2
            | cons d q' => simp at h2; subst h1 h2; rfl
          · split at h
            · rename_i hc
              obtain ⟨hc, _⟩ := hc
              subst hc
              unfold name at h
              simp only [List.drop_succ_cons, List.drop_zero] at h
              split at h
              · obtain ⟨h1, h2⟩ := lim_as h
                subst h1 h2
                rw [Nat.add_comm 1, List.take_succ_cons]; rfl
              · rename_i hf
                simp only [ne_eq, Decidable.not_not] at hf
                split at h
                · cases h
                  rw [show 3 + runLen 3 q = (runLen 3 q + 2) + 1 by omega, List.take_succ_cons, List.take_add, hf, Nat.add_comm 1, List.drop_succ_cons]
                  rfl
                · cases h
            · split at h
              · rename_i hc
                obtain ⟨h1, _⟩ := hc
                cases h
                subst h1
                rfl
              · split at h
                · cases h; rfl
                · cases h

theorem skip_blank (l : Bytes) (a : Nat) : ((l.drop a).take (skip l a - a)).all (isB 1) = true := by
  have : skip l a - a = ((l.drop a).takeWhile (fun b => (cls b.toNat : Int) == 1)).length := by unfold skip runI; omega
  rw [this]
  have hp : (fun b : UInt8 => (cls b.toNat : Int) == 1) = isB 1 := by
    funext b
    unfold isB
    rw [Bool.eq_iff_iff, beq_iff_eq, beq_iff_eq]
    omega
  rw [hp]
  generalize l.drop a = m
  induction m with
  | nil => rfl
  | cons b m ih =>
    rw [List.takeWhile_cons]
    split
    · rename_i hb; simp [hb, ih]
    · rfl

theorem lexGo_places (l : Bytes) : ∀ (f a : Nat), a ≤ l.length → l.length < a + f → (lexGo l f a).2 = none → okFrom l a (lexGo l f a).1
  | 0, a, h1, h2, _ => by omega
  | f + 1, a, h1, h2, h => by
    obtain ⟨s1, s2⟩ := skip_le l a h1
    have hb := skip_blank l a
    rw [lexGo] at h ⊢
    split at h
    · rename_i hs
      rw [if_pos hs]
      refine ⟨h1, ?_⟩
      have : skip l a = l.length := by omega
      rw [this, List.take_of_length_le (by simp)] at hb
      exact hb
    · rename_i hs
      rw [if_neg hs]
      cases hn : next (l.drop (skip l a)) with
      | err i e => rw [hn] at h; cases h
      | ok t n =>
        rw [hn] at h
        obtain ⟨n1, n2⟩ := next_pos _ _ _ hn
        rw [List.length_drop] at n2
        have := next_spell _ _ _ hn
        refine ⟨s1, by simp only; omega, by simp only; omega, hb, ?_, lexGo_places l f _ (by simp only; omega) (by simp only; omega) h⟩
        rw [show skip l a + n - skip l a = n by omega, this]

theorem lexGo_count (l : Bytes) : ∀ (f a : Nat), a ≤ l.length → (lexGo l f a).1.length + a ≤ l.length
  | 0, a, h1 => by simpa [lexGo] using h1
  | f + 1, a, h1 => by
    obtain ⟨s1, s2⟩ := skip_le l a h1
    rw [lexGo]
    split
    · simpa using h1
    · cases hn : next (l.drop (skip l a)) with
      | err i e => simpa using h1
      | ok t n =>
        obtain ⟨n1, n2⟩ := next_pos _ _ _ hn
        rw [List.length_drop] at n2
        have := lexGo_count l f (skip l a + n) (by omega)
        simp only [List.length_cons]; omega

theorem lexAll_places (l : Bytes) (h : (lexAll l).2 = none) : okFrom l 0 (lexAll l).1 := lexGo_places l _ _ (Nat.zero_le _) (by omega) h
theorem lexAll_count (l : Bytes) : (lexAll l).1.length ≤ l.length := lexGo_count l _ 0 (Nat.zero_le _)

theorem lim_err0 {most : Nat} {t : Tok} {n i e : Nat} (h : lim most t n = .err i e) : i = 0 := by
  unfold lim at h; split at h
  · cases h; rfl
  · cases h
theorem quo_err_le : ∀ (q acc : Bytes) (i a e : Nat), quo q acc i = .err a e → a ≤ i + q.length
  | [], acc, i, a, e, h => by simp [quo] at h; omega
  | c :: q, acc, i, a, e, h => by
    unfold quo at h
    split at h
    · have := lim_err0 h; omega
    · split at h
      · cases h; omega
      · split at h
        · cases q with
          | nil => simp at h; obtain ⟨h1, _⟩ := h; omega
          | cons d q' =>
            simp only at h
            split at h
            · have := quo_err_le q' _ _ a e h; simp only [List.length_cons]; omega
            · cases h; omega
        · have := quo_err_le q _ _ a e h; simp only [List.length_cons]; omega
theorem next_err_le (r : Bytes) (i e : Nat) (h : next r = .err i e) : i ≤ r.length := by
  cases r with
  | nil => simp [next] at h; omega
  | cons c q =>
    rw [next] at h
    split at h
    · have := lim_err0 h; omega
    · split at h
      · cases h
      · split at h
        · have := quo_err_le q [] 1 i e h; simp only [List.length_cons]; omega
        · split at h
          · cases h
          · split at h
            · unfold name at h
              simp only at h
              split at h
              · have := lim_err0 h; omega
              · split at h
                · cases h
                · cases h; omega
            · split at h
              · cases h
              · split at h
                · cases h
                · cases h; omega
theorem lexGo_err_le (l : Bytes) : ∀ (f a p e : Nat), a ≤ l.length → (lexGo l f a).2 = some (p, e) → p ≤ l.length
  | 0, a, p, e, _, h => by simp [lexGo] at h
  | f + 1, a, p, e, h1, h => by
    obtain ⟨s1, s2⟩ := skip_le l a h1
    rw [lexGo] at h
    split at h
    · cases h
    · cases hn : next (l.drop (skip l a)) with
      | err i e' =>
        rw [hn] at h
        have := next_err_le _ _ _ hn
        rw [List.length_drop] at this
        simp only [Option.some.injEq, Prod.mk.injEq] at h
        omega
      | ok t n =>
        rw [hn] at h
        obtain ⟨n1, n2⟩ := next_pos _ _ _ hn
        rw [List.length_drop] at n2
        exact lexGo_err_le l f (skip l a + n) p e (by omega) h
theorem lexAll_err_le (l : Bytes) (p e : Nat) (h : (lexAll l).2 = some (p, e)) : p ≤ l.length := lexGo_err_le l _ 0 p e (Nat.zero_le _) h
end Go.Proofs.Ytilgpmpiidccjaa.Lx

/- The plain law of writing tokens and reading them again. -/
namespace Go.Proofs.Ytilgpmpiidccjaa.Lx

/-- What the text of a token is. -/
def TokOK (t : Tok) : Prop :=
  (t.kind = 1 ∧ ∃ c, t.text = [c] ∧ (isB 3 c = true ∨ isB 4 c = true)) ∨
  (t.kind = 2 ∧ t.text.length ≤ 20 ∧ ∃ ds, ds ≠ [] ∧ ds.all (isB 2) = true ∧ (t.text = ds ∨ ∃ es, es ≠ [] ∧ es.all (isB 2) = true ∧ t.text = ds ++ 46 :: es)) ∨
  (t.kind = 3 ∧ t.text.length ≤ 200 ∧ t.text.all (fun b => decide (32 ≤ b ∧ b ≤ 126)) = true) ∨
  (t.kind = 4 ∧ t.text.length ≤ 16 ∧ t.text ≠ [] ∧ t.text.all (isB 3) = true ∧ t.text ≠ [102, 101, 110, 99, 101]) ∨
  (t.kind = 5 ∧ ∃ a b, t.text = [a, b] ∧ isDelim a = true ∧ isDelim b = true) ∨
  (t.kind = 6 ∧ ∃ d, t.text = [d] ∧ 49 ≤ d ∧ d ≤ 52) ∨
  (t.kind = 7 ∧ ∃ c, t.text = [c] ∧ isB 5 c = true) ∨
  (t.kind = 8 ∧ t.text = [92, 92])

def spell (t : Tok) : Bytes := spellL t.kind t.text
def join (a b : Tok) : Bool := (a.kind == 2 && b.kind == 2) || (a.kind == 4 && b.kind == 1 && (match b.text with | [] => false | c :: _ => isB 3 c))
/-- No byte of a class comes first. -/
def headNot (k : Nat) (q : Bytes) : Prop := ∀ c, q.head? = some c → isB k c = false
/-- What may stand behind a token. -/
def okAfter (t : Tok) (q : Bytes) : Prop := (t.kind = 2 → headNot 2 q ∧ q.head? ≠ some 46) ∧ (t.kind = 4 → headNot 3 q)

theorem isB_unique {j k : Nat} {c : UInt8} (h : isB j c = true) (hk : j ≠ k) : isB k c = false := by
  unfold isB at *
  rw [beq_iff_eq] at h
  rw [h]; simpa using hk

theorem runLen_app (k : Nat) (x y : Bytes) (hx : x.all (isB k) = true) (hy : headNot k y) : runLen k (x ++ y) = x.length := by
  unfold runLen
  induction x with
  | nil =>
    cases y with
    | nil => rfl
    | cons c y => rw [List.nil_append, List.takeWhile_cons, hy c rfl]; rfl
  | cons c x ih =>
    simp only [List.all_cons, Bool.and_eq_true] at hx
    rw [List.cons_append, List.takeWhile_cons, if_pos hx.1, List.length_cons, ih hx.2, List.length_cons]
theorem runLen_split (k : Nat) (r : Bytes) : ∃ y, r = r.take (runLen k r) ++ y ∧ (r.take (runLen k r)).all (isB k) = true ∧ headNot k y ∧ y = r.drop (runLen k r) := by
  unfold runLen
  induction r with
  | nil => exact ⟨[], rfl, rfl, (fun c h => nomatch h), rfl⟩
  | cons c r ih =>
    rw [List.takeWhile_cons]
    cases hc : isB k c with
    | true =>
      obtain ⟨y, h1, h2, h3, h4⟩ := ih
      refine ⟨y, ?_, ?_, h3, ?_⟩
      · simp only [if_true, List.length_cons, List.take_succ_cons, List.cons_append]; rw [← h1]
      · simp only [if_true, List.length_cons, List.take_succ_cons, List.all_cons, hc, h2]; rfl
      · simpa using h4
    | false => exact ⟨c :: r, rfl, rfl, fun d h => by cases h; exact hc, rfl⟩

theorem isAt_split (k : Nat) (x y : Bytes) : isAt k (x ++ y) x.length = (match y with | [] => false | c :: _ => isB k c) := by
  unfold isAt
  rw [List.getElem?_append_right (Nat.le_refl _), Nat.sub_self]
  cases y <;> rfl

theorem numLen_plain (ds q : Bytes) (h : ds.all (isB 2) = true) (hq : headNot 2 q) (h46 : q.head? ≠ some 46) : numLen (ds ++ q) = ds.length := by
  unfold numLen
  rw [runLen_app 2 ds q h hq, if_neg]
  rintro ⟨h1, _⟩
  rw [List.getElem?_append_right (Nat.le_refl _), Nat.sub_self] at h1
  exact h46 (by rw [← h1]; cases q <;> rfl)

theorem numLen_point (ds es q : Bytes) (h : ds.all (isB 2) = true) (he : es.all (isB 2) = true) (hn : es ≠ []) (hq : headNot 2 q) : numLen ((ds ++ 46 :: es) ++ q) = (ds ++ 46 :: es).length := by
  have e1 : (ds ++ 46 :: es) ++ q = ds ++ (46 :: (es ++ q)) := by simp
  have hr : runLen 2 (ds ++ (46 :: (es ++ q))) = ds.length := runLen_app 2 ds _ h (fun c hc => by cases hc; rfl)
  unfold numLen
  rw [e1, hr, if_pos]
  · have : (ds ++ (46 :: (es ++ q))).drop (ds.length + 1) = es ++ q := by
      simp [List.drop_append]
    rw [this, runLen_app 2 es q he hq]
    simp; omega
  · constructor
    · rw [List.getElem?_append_right (Nat.le_refl _), Nat.sub_self]; rfl
    · cases es with
      | nil => exact absurd rfl hn
      | cons e es =>
        have e2 : ds ++ (46 :: (e :: es ++ q)) = (ds ++ [46]) ++ (e :: (es ++ q)) := by simp
        have := isAt_split 2 (ds ++ [46]) (e :: (es ++ q))
        rw [e2, show ds.length + 1 = (ds ++ [46]).length by simp, this]
        simp only [List.all_cons, Bool.and_eq_true] at he
        exact he.1

theorem number_ok (r : Bytes) (t : Tok) (n : Nat) (h0 : isAt 2 r 0 = true) (h : number r = .ok t n) : TokOK t := by
  unfold number at h
  obtain ⟨h1, h2⟩ := lim_as h
  have hl : t.text.length ≤ 20 := by
    unfold lim at h
    split at h
    · cases h
    · rw [← h1]; simp only at *; omega
  subst h1 h2
  refine .inr (.inl ⟨rfl, hl, ?_⟩)
  simp only
  obtain ⟨y, e1, e2, e3, e4⟩ := runLen_split 2 r
  have hne : r.take (runLen 2 r) ≠ [] := by
    intro h
    rw [h, List.nil_append] at e1
    unfold isAt at h0
    cases r with
    | nil => cases h0
    | cons c r =>
      subst e1
      have := e3 c rfl
      simp only [List.getElem?_cons_zero] at h0
      rw [h0] at this; cases this
  refine ⟨_, hne, e2, ?_⟩
  unfold numLen
  split
  · rename_i hc
    obtain ⟨c1, c2⟩ := hc
    obtain ⟨y', f1, f2, f3, f4⟩ := runLen_split 2 (r.drop (runLen 2 r + 1))
    right
    refine ⟨_, ?_, f2, ?_⟩
    · intro h
      rw [h, List.nil_append] at f1
      unfold isAt at c2
      rw [← Nat.add_zero (runLen 2 r + 1), ← List.getElem?_drop, f1] at c2
      cases y' with
      | nil => cases c2
      | cons c y' =>
        have := f3 c rfl
        simp only [List.getElem?_cons_zero] at c2
        rw [c2] at this; cases this
    · rw [show runLen 2 r + 1 + runLen 2 (r.drop (runLen 2 r + 1)) = runLen 2 r + (1 + runLen 2 (r.drop (runLen 2 r + 1))) by omega, List.take_add]
      congr 1
      have hlt := (List.getElem?_eq_some_iff.1 c1)
      obtain ⟨hlt, hv⟩ := hlt
      rw [List.drop_eq_getElem_cons hlt, hv, Nat.add_comm 1, List.take_succ_cons]
  · exact .inl rfl

theorem quo_ok : ∀ (q acc : Bytes) (i : Nat) (t : Tok) (n : Nat), quo q acc i = .ok t n → acc.all (fun b => decide (32 ≤ b ∧ b ≤ 126)) = true → t.kind = 3 ∧ t.text.length ≤ 200 ∧ t.text.all (fun b => decide (32 ≤ b ∧ b ≤ 126)) = true
  | [], acc, i, t, n, h, _ => by simp [quo] at h
  | c :: q, acc, i, t, n, h, ha => by
    unfold quo at h
    split at h
    · obtain ⟨h1, h2⟩ := lim_as h
      have hl : t.text.length ≤ 200 := by
        unfold lim at h
        split at h
        · cases h
        · rw [← h1]; simp only at *; omega
      subst h1
      exact ⟨rfl, hl, ha⟩
    · split at h
      · cases h
      · rename_i hc
        have hcp : 32 ≤ c ∧ c ≤ 126 := by
          constructor
          · exact UInt8.not_lt.1 (fun h => hc (.inl h))
          · exact UInt8.not_lt.1 (fun h => hc (.inr h))
        split at h
        · cases q with
          | nil => simp at h
          | cons d q' =>
            simp only at h
            split at h
            · rename_i hd
              refine quo_ok q' _ _ t n h ?_
              rw [List.all_append, ha]
              rcases hd with rfl | rfl <;> rfl
            · cases h
        · refine quo_ok q _ _ t n h ?_
          rw [List.all_append, ha]
          simp [hcp]

theorem next_tokOK (r : Bytes) (t : Tok) (n : Nat) (h : next r = .ok t n) : TokOK t := by
  cases r with
  | nil => simp [next] at h
  | cons c q =>
    rw [next] at h
    split at h
    · rename_i hc
      exact number_ok (c :: q) t n (show isAt 2 (c :: q) 0 = true from hc) h
    · split at h
      · rename_i hc
        cases h
        exact .inr (.inr (.inr (.inr (.inr (.inr (.inl ⟨rfl, c, rfl, hc⟩))))))
      · split at h
        · exact .inr (.inr (.inl (quo_ok q [] 1 t n h rfl)))
        · split at h
          · cases h
            exact .inr (.inr (.inr (.inr (.inr (.inr (.inr ⟨rfl, rfl⟩))))))
          · split at h
            · rename_i hc
              obtain ⟨hc, hl⟩ := hc
              unfold name at h
              simp only [List.drop_succ_cons, List.drop_zero] at h
              obtain ⟨y, e1, e2, e3, e4⟩ := runLen_split 3 q
              split at h
              · rename_i hf
                have hlen : t.text.length ≤ 16 := by
                  obtain ⟨h1, h2⟩ := lim_as h
                  unfold lim at h
                  split at h
                  · cases h
                  · rw [← h1]; simp only at *; omega
                obtain ⟨h1, h2⟩ := lim_as h
                subst h1
                refine .inr (.inr (.inr (.inl ⟨rfl, hlen, ?_, e2, hf⟩)))
                intro h
                simp only at h
                rw [h, List.nil_append] at e1
                subst e1
                cases q with
                | nil => cases hl
                | cons c' q =>
                  have := e3 c' rfl
                  unfold isAt at hl
                  simp only [List.getElem?_cons_zero] at hl
                  rw [hl] at this; cases this
              · split at h
                · rename_i hd
                  cases h
                  obtain ⟨d1, d2⟩ := hd
                  refine .inr (.inr (.inr (.inr (.inl ⟨rfl, ?_⟩))))
                  simp only
                  unfold delimAt at d1 d2
                  rw [show 1 + runLen 3 q = runLen 3 q + 1 by omega, List.getElem?_cons_succ] at d1
                  rw [show 2 + runLen 3 q = (runLen 3 q + 1) + 1 by omega, List.getElem?_cons_succ] at d2
                  rw [show 1 + runLen 3 q = runLen 3 q + 1 by omega, List.drop_succ_cons]
                  generalize runLen 3 q = m at *
                  split at d1
                  · rename_i a ha
                    split at d2
                    · rename_i b hb
                      refine ⟨a, b, ?_, d1, d2⟩
                      obtain ⟨ha1, ha2⟩ := List.getElem?_eq_some_iff.1 ha
                      obtain ⟨hb1, hb2⟩ := List.getElem?_eq_some_iff.1 hb
                      rw [List.drop_eq_getElem_cons ha1, List.drop_eq_getElem_cons hb1, ha2, hb2]
                      rfl
                    · cases d2
                  · cases d1
                · cases h
            · split at h
              · rename_i hc
                obtain ⟨h1, h2⟩ := hc
                cases h
                cases q with
                | nil => cases h2
                | cons d q =>
                  exact .inr (.inr (.inr (.inr (.inr (.inl ⟨rfl, d, rfl, by simpa [parAt] using h2⟩)))))
              · split at h
                · rename_i hc
                  cases h
                  exact .inl ⟨rfl, c, rfl, hc⟩
                · cases h
end Go.Proofs.Ytilgpmpiidccjaa.Lx

/- A token that is written is read again. -/
namespace Go.Proofs.Ytilgpmpiidccjaa.Lx

theorem lim_le {most : Nat} {t : Tok} {n : Nat} (h : t.text.length ≤ most) : lim most t n = .ok t n := by
  unfold lim; rw [if_neg (by omega)]

theorem byte_cases (p : UInt8 → Prop) [DecidablePred p] (h : ∀ n : Fin 256, p (UInt8.ofNat n.1)) (c : UInt8) : p c := by
  have := h ⟨c.toNat, c.toNat_lt⟩
  simpa using this

theorem isB_digit_not (c : UInt8) : isB 2 c = true → isB 5 c = false ∧ isB 3 c = false ∧ isB 1 c = false ∧ isB 4 c = false ∧ c ≠ 34 ∧ c ≠ 92 ∧ c ≠ 35 ∧ c ≠ 46 := by
  revert c; exact fun c => byte_cases (fun c => isB 2 c = true → isB 5 c = false ∧ isB 3 c = false ∧ isB 1 c = false ∧ isB 4 c = false ∧ c ≠ 34 ∧ c ≠ 92 ∧ c ≠ 35 ∧ c ≠ 46) (by decide +kernel) c
theorem isB_sym_not (c : UInt8) : (isB 3 c = true ∨ isB 4 c = true) → isB 2 c = false ∧ isB 5 c = false ∧ isB 1 c = false ∧ c ≠ 34 ∧ c ≠ 92 ∧ c ≠ 35 ∧ c ≠ 46 :=
  byte_cases (fun c => (isB 3 c = true ∨ isB 4 c = true) → isB 2 c = false ∧ isB 5 c = false ∧ isB 1 c = false ∧ c ≠ 34 ∧ c ≠ 92 ∧ c ≠ 35 ∧ c ≠ 46) (by decide +kernel) c
theorem isB_mark_not (c : UInt8) : isB 5 c = true → isB 2 c = false ∧ isB 3 c = false ∧ isB 1 c = false ∧ c ≠ 34 ∧ c ≠ 92 ∧ c ≠ 35 ∧ c ≠ 46 :=
  byte_cases (fun c => isB 5 c = true → isB 2 c = false ∧ isB 3 c = false ∧ isB 1 c = false ∧ c ≠ 34 ∧ c ≠ 92 ∧ c ≠ 35 ∧ c ≠ 46) (by decide +kernel) c
theorem isDelim_not (c : UInt8) : isDelim c = true → isB 3 c = false :=
  byte_cases (fun c => isDelim c = true → isB 3 c = false) (by decide +kernel) c
theorem isB_blank_not (c : UInt8) : isB 1 c = true → isB 2 c = false ∧ isB 3 c = false ∧ c ≠ 46 :=
  byte_cases (fun c => isB 1 c = true → isB 2 c = false ∧ isB 3 c = false ∧ c ≠ 46) (by decide +kernel) c

theorem quo_esc_all : ∀ (x q acc : Bytes) (i : Nat), x.all (fun b => decide (32 ≤ b ∧ b ≤ 126)) = true → (acc ++ x).length ≤ 200 → quo (esc x ++ 34 :: q) acc i = .ok ⟨3, acc ++ x⟩ (i + (esc x).length + 1)
  | [], q, acc, i, _, hl => by
    simp only [esc, List.flatMap_nil, List.nil_append, List.append_nil, List.length_nil, Nat.add_zero] at *
    rw [quo.eq_def]
    simp only
    rw [if_pos trivial]
    exact lim_le (t := ⟨3, acc⟩) hl
  | c :: x, q, acc, i, hx, hl => by
    simp only [List.all_cons, Bool.and_eq_true, decide_eq_true_eq] at hx
    obtain ⟨⟨h1, h2⟩, hx⟩ := hx
    have hacc : acc ++ c :: x = (acc ++ [c]) ++ x := by simp
    have ih := fun j => quo_esc_all x q (acc ++ [c]) j hx (by rw [← hacc]; exact hl)
    have he : esc (c :: x) = escB c ++ esc x := rfl
    rw [he, hacc]
    unfold escB
    by_cases hc : c = 34 ∨ c = 92
    · rw [if_pos hc]
      simp only [List.cons_append, List.nil_append]
      rw [quo.eq_def]
      simp only
      rw [if_neg (by decide), if_neg (by decide), if_pos trivial]
      rw [if_pos hc, ih]
      simp only [List.length_cons]
      congr 1; omega
    · rw [if_neg hc]
      simp only [List.cons_append, List.nil_append]
      rw [quo.eq_def]
      simp only
      rw [if_neg (fun h => hc (.inl h)), if_neg (fun h => h.elim (UInt8.not_lt.2 h1) (UInt8.not_lt.2 h2)), if_neg (fun h => hc (.inr h)), ih]
      simp only [List.length_cons]
      congr 1; omega

theorem numLen_ok {t : Tok} {q : Bytes} (ds : Bytes) (h : ds.all (isB 2) = true) (ht : t.text = ds ∨ ∃ es, es ≠ [] ∧ es.all (isB 2) = true ∧ t.text = ds ++ 46 :: es) (hq : headNot 2 q) (h46 : q.head? ≠ some 46) :
    numLen (t.text ++ q) = t.text.length := by
  rcases ht with e | ⟨es, e1, e2, e3⟩
  · rw [e]; exact numLen_plain ds q h hq h46
  · rw [e3]; exact numLen_point ds es q h e2 e1 hq

theorem take_app (x q : Bytes) : (x ++ q).take x.length = x := by simp

/-- A token that is written is read again, if what stands behind does not join. -/
theorem reread (t : Tok) (q : Bytes) (ht : TokOK t) (hq : okAfter t q) : next (spell t ++ q) = .ok t (spell t).length := by
  obtain ⟨k, x⟩ := t
  rcases ht with ⟨h1, c, h2, h3⟩ | ⟨h1, h2, ds, h3, h4, h5⟩ | ⟨h1, h2, h3⟩ | ⟨h1, h2, h3, h4, h5⟩ | ⟨h1, a, b, h2, h3, h4⟩ | ⟨h1, d, h2, h3, h4⟩ | ⟨h1, c, h2, h3⟩ | ⟨h1, h2⟩
  · simp only at h1 h2; subst h1 h2
    obtain ⟨n1, n2, n3, n4, n5, n6, n7⟩ := isB_sym_not c h3
    show next ([c] ++ q) = _
    rw [List.cons_append, next, if_neg (by rw [n1]; decide), if_neg (by rw [n2]; decide), if_neg n4, if_neg (fun h => n5 h.1), if_neg (fun h => n5 h.1), if_neg (fun h => n6 h.1), if_pos h3]
    rfl
  · simp only at h1 h2 h5; subst h1
    have hx : ∃ c y, x = c :: y ∧ isB 2 c = true := by
      cases ds with
      | nil => exact absurd rfl h3
      | cons c ds =>
        simp only [List.all_cons, Bool.and_eq_true] at h4
        rcases h5 with rfl | ⟨es, _, _, rfl⟩
        · exact ⟨c, ds, rfl, h4.1⟩
        · exact ⟨c, _, rfl, h4.1⟩
    obtain ⟨q1, q2⟩ := hq.1 rfl
    have hn : numLen (x ++ q) = x.length := numLen_ok (t := ⟨2, x⟩) ds h4 h5 q1 q2
    show next (x ++ q) = _
    obtain ⟨c, y, rfl, hc⟩ := hx
    rw [List.cons_append, next, if_pos hc, ← List.cons_append]
    unfold number
    rw [hn, take_app, lim_le (by exact h2)]
    rfl
  · simp only at h1 h2 h3; subst h1
    show next (quoteL x ++ q) = _
    unfold quoteL
    rw [List.cons_append, next, if_neg (by decide), if_neg (by decide), if_pos rfl, List.append_assoc]
    have := quo_esc_all x q [] 1 h3 h2
    simp only [List.nil_append] at this
    rw [List.singleton_append, this]
    show Res.ok _ _ = Res.ok _ (quoteL x).length
    unfold quoteL
    simp only [List.length_cons, List.length_append, List.length_nil]
    congr 1; omega
  · simp only at h1 h2 h3 h4 h5; subst h1
    have hr : runLen 3 (x ++ q) = x.length := runLen_app 3 x q h4 (hq.2 rfl)
    have hh : isAt 3 (x ++ q) 0 = true := by
      cases x with
      | nil => exact absurd rfl h3
      | cons c y =>
        simp only [List.all_cons, Bool.and_eq_true] at h4
        exact h4.1
    have h92 : (x ++ q).head? ≠ some 92 := by
      cases x with
      | nil => exact absurd rfl h3
      | cons c y =>
        simp only [List.all_cons, Bool.and_eq_true] at h4
        intro h
        have : c = 92 := by simpa using h
        exact (isB_sym_not c (.inl h4.1)).2.2.2.2.1 this
    show next ((92 :: x) ++ q) = _
    rw [List.cons_append, next, if_neg (by decide), if_neg (by decide), if_neg (by decide), if_neg (fun h => h92 h.2), if_pos ⟨rfl, hh⟩]
    unfold name
    simp only [List.drop_succ_cons, List.drop_zero]
    rw [hr, take_app, if_pos h5, lim_le (by exact h2)]
    show Res.ok _ _ = Res.ok _ (92 :: x).length
    rw [List.length_cons, Nat.add_comm]
  · simp only at h1 h2; subst h1 h2
    have hr : runLen 3 ([102, 101, 110, 99, 101] ++ (a :: b :: q)) = 5 := runLen_app 3 [102, 101, 110, 99, 101] _ (by decide) (fun c hc => by cases hc; exact isDelim_not a h3)
    show next (92 :: ([102, 101, 110, 99, 101] ++ (a :: b :: q))) = _
    rw [next, if_neg (by decide), if_neg (by decide), if_neg (by decide), if_neg (fun h => absurd h.2 (by simp)), if_pos ⟨rfl, rfl⟩]
    unfold name
    simp only [List.drop_succ_cons, List.drop_zero]
    rw [hr, if_neg (by simp), if_pos]
    · rfl
    · exact ⟨h3, h4⟩
  · simp only at h1 h2; subst h1 h2
    show next (35 :: d :: q) = _
    rw [next, if_neg (by decide), if_neg (by decide), if_neg (by decide), if_neg (fun h => absurd h.1 (by decide)), if_neg (fun h => absurd h.1 (by decide)), if_pos ⟨rfl, by simp [parAt, h3, h4]⟩]
    rfl
  · simp only at h1 h2; subst h1 h2
    obtain ⟨n1, _⟩ := isB_mark_not c h3
    show next (c :: q) = _
    rw [next, if_neg (by rw [n1]; decide), if_pos h3]
    rfl
  · simp only at h1 h2; subst h1 h2
    show next (92 :: 92 :: q) = _
    rw [next, if_neg (by decide), if_neg (by decide), if_neg (by decide), if_pos ⟨rfl, rfl⟩]
    rfl

/-- How a token begins: no blank, no point; a digit only if it is a number, a letter only if it is a symbol. -/
theorem spell_head (t : Tok) (ht : TokOK t) : ∃ c y, spell t = c :: y ∧ isB 1 c = false ∧ c ≠ 46 ∧ (isB 2 c = true → t.kind = 2) ∧ (isB 3 c = true → t.kind = 1 ∧ ∃ z, t.text = c :: z) ∧ (t.kind = 2 → isB 2 c = true) := by
  obtain ⟨k, x⟩ := t
  rcases ht with ⟨h1, c, h2, h3⟩ | ⟨h1, h2, ds, h3, h4, h5⟩ | ⟨h1, h2, h3⟩ | ⟨h1, h2, h3, h4, h5⟩ | ⟨h1, a, b, h2, h3, h4⟩ | ⟨h1, d, h2, h3, h4⟩ | ⟨h1, c, h2, h3⟩ | ⟨h1, h2⟩
  · simp only at h1 h2; subst h1 h2
    obtain ⟨n1, n2, n3, n4, n5, n6, n7⟩ := isB_sym_not c h3
    exact ⟨c, [], rfl, n3, n7, fun h => (by rw [n1] at h; cases h), fun h => ⟨rfl, [], rfl⟩, (fun h => by cases h)⟩
  · simp only at h1 h2 h5; subst h1
    have hx : ∃ c y, x = c :: y ∧ isB 2 c = true := by
      cases ds with
      | nil => exact absurd rfl h3
      | cons c ds =>
        simp only [List.all_cons, Bool.and_eq_true] at h4
        rcases h5 with rfl | ⟨es, _, _, rfl⟩
        · exact ⟨c, ds, rfl, h4.1⟩
        · exact ⟨c, _, rfl, h4.1⟩
    obtain ⟨c, y, rfl, hc⟩ := hx
    obtain ⟨n1, n2, n3, n4, n5, n6, n7, n8⟩ := isB_digit_not c hc
    exact ⟨c, y, rfl, n3, n8, fun _ => rfl, fun h => (by rw [n2] at h; cases h), fun _ => hc⟩
  · simp only at h1; subst h1
    exact ⟨34, _, rfl, rfl, by decide, (fun h => by cases h), (fun h => by cases h), (fun h => by cases h)⟩
  · simp only at h1; subst h1
    exact ⟨92, _, rfl, rfl, by decide, (fun h => by cases h), (fun h => by cases h), (fun h => by cases h)⟩
  · simp only at h1; subst h1
    exact ⟨92, _, rfl, rfl, by decide, (fun h => by cases h), (fun h => by cases h), (fun h => by cases h)⟩
  · simp only at h1; subst h1
    exact ⟨35, _, rfl, rfl, by decide, (fun h => by cases h), (fun h => by cases h), (fun h => by cases h)⟩
  · simp only at h1 h2; subst h1 h2
    obtain ⟨n1, n2, n3, n4, n5, n6, n7⟩ := isB_mark_not c h3
    exact ⟨c, [], rfl, n3, n7, fun h => (by rw [n1] at h; cases h), fun h => (by rw [n2] at h; cases h), (fun h => by cases h)⟩
  · simp only at h1 h2; subst h1 h2
    exact ⟨92, _, rfl, rfl, by decide, (fun h => by cases h), (fun h => by cases h), (fun h => by cases h)⟩

/-- A token that does not join, or a blank, may stand behind. -/
theorem okAfter_tok (a b : Tok) (hb : TokOK b) (hj : join a b = false) (q : Bytes) : okAfter a (spell b ++ q) := by
  obtain ⟨c, y, e, n1, n2, n3, n4, n5⟩ := spell_head b hb
  rw [e, List.cons_append]
  unfold join at hj
  simp only [Bool.or_eq_false_iff, Bool.and_eq_false_iff] at hj
  constructor
  · intro hk
    refine ⟨fun d hd => ?_, fun h => n2 (by simpa using h)⟩
    cases hd
    cases h2 : isB 2 c with
    | false => rfl
    | true =>
      rcases hj.1 with h | h
      · rw [hk] at h; cases h
      · rw [n3 h2] at h; cases h
  · intro hk d hd
    cases hd
    cases h3 : isB 3 c with
    | false => rfl
    | true =>
      obtain ⟨m1, z, m2⟩ := n4 h3
      rcases hj.2 with (h | h) | h
      · rw [hk] at h; cases h
      · rw [m1] at h; cases h
      · rw [m2] at h; simp only at h; rw [h3] at h; cases h
theorem okAfter_blank (a : Tok) (c : UInt8) (q : Bytes) (hc : isB 1 c = true) : okAfter a (c :: q) := by
  obtain ⟨n1, n2, n3⟩ := isB_blank_not c hc
  exact ⟨fun _ => ⟨fun d hd => by cases hd; exact n1, fun h => n3 (by simpa using h)⟩, fun _ d hd => by cases hd; exact n2⟩
theorem okAfter_end (a : Tok) : okAfter a [] := ⟨fun _ => ⟨(fun c h => nomatch h), by simp⟩, fun _ => (fun c h => nomatch h)⟩

/-- Two tokens that join are not read as the first one. -/
theorem joined_other (a b : Tok) (ha : TokOK a) (hb : TokOK b) (hj : join a b = true) (n : Nat) : next (spell a ++ spell b) ≠ .ok a n := by
  intro h
  obtain ⟨k, x⟩ := a
  obtain ⟨k', x'⟩ := b
  unfold join at hj
  simp only [Bool.or_eq_true, Bool.and_eq_true, beq_iff_eq] at hj
  rcases hj with ⟨rfl, rfl⟩ | ⟨⟨rfl, rfl⟩, hl⟩
  · obtain ⟨c, y, e, _, _, _, _, hd⟩ := spell_head ⟨2, x'⟩ hb
    replace hd := hd rfl
    have e' : x' = c :: y := e
    subst e'
    rcases ha with ⟨h1, _⟩ | ⟨_, h2, ds, h3, h4, h5⟩ | ⟨h1, _⟩ | ⟨h1, _⟩ | ⟨h1, _⟩ | ⟨h1, _⟩ | ⟨h1, _⟩ | ⟨h1, _⟩ <;> try (simp at h1)
    simp only at h5 h2
    have hs := next_spell _ _ _ h
    have hx : ∃ c y, x = c :: y ∧ isB 2 c = true := by
      cases ds with
      | nil => exact absurd rfl h3
      | cons c ds =>
        simp only [List.all_cons, Bool.and_eq_true] at h4
        rcases h5 with rfl | ⟨es, _, _, rfl⟩
        · exact ⟨c, ds, rfl, h4.1⟩
        · exact ⟨c, _, rfl, h4.1⟩
    obtain ⟨c0, y0, hx0, hc0⟩ := hx
    have hnum : next (spell ⟨2, x⟩ ++ spell ⟨2, c :: y⟩) = number (x ++ c :: y) := by
      show next (x ++ c :: y) = _
      rw [hx0, List.cons_append, next, if_pos hc0]
    rw [hnum] at h
    unfold number at h
    obtain ⟨e1, e2⟩ := lim_as h
    simp only [Tok.mk.injEq, true_and] at e1
    have hlen : numLen (x ++ c :: y) ≤ x.length := by
      have h1 := congrArg List.length e1
      rw [List.length_take] at h1
      have := numLen_le (x ++ c :: y)
      omega
    rcases h5 with rfl | ⟨es, g1, g2, rfl⟩
    · have h1 : x.length + 1 ≤ runLen 2 (x ++ c :: y) := by
        unfold runLen
        have : (x ++ c :: y).takeWhile (isB 2) = x ++ (c :: y).takeWhile (isB 2) := List.takeWhile_append_of_pos (by simpa using h4)
        rw [this, List.takeWhile_cons, if_pos hd]; simp
      unfold numLen at hlen
      split at hlen <;> omega
    · have q1 : (ds ++ 46 :: es) ++ c :: y = ds ++ 46 :: (es ++ c :: y) := by simp
      have hr : runLen 2 (ds ++ 46 :: (es ++ c :: y)) = ds.length := runLen_app 2 ds _ h4 (fun c hc => by cases hc; rfl)
      unfold numLen at hlen
      rw [q1, hr, if_pos] at hlen
      · have hdr : (ds ++ (46 :: (es ++ c :: y))).drop (ds.length + 1) = es ++ c :: y := by simp [List.drop_append]
        rw [hdr] at hlen
        have h1 : es.length + 1 ≤ runLen 2 (es ++ c :: y) := by
          unfold runLen
          have : (es ++ c :: y).takeWhile (isB 2) = es ++ (c :: y).takeWhile (isB 2) := List.takeWhile_append_of_pos (by simpa using g2)
          rw [this, List.takeWhile_cons, if_pos hd]; simp
        simp at hlen; omega
      · constructor
        · rw [List.getElem?_append_right (Nat.le_refl _), Nat.sub_self]; rfl
        · cases es with
          | nil => exact absurd rfl g1
          | cons e es =>
            have e2 : ds ++ (46 :: (e :: es ++ c :: y)) = (ds ++ [46]) ++ (e :: (es ++ c :: y)) := by simp
            have := isAt_split 2 (ds ++ [46]) (e :: (es ++ c :: y))
            rw [e2, show ds.length + 1 = (ds ++ [46]).length by simp, this]
            simp only [List.all_cons, Bool.and_eq_true] at g2
            exact g2.1
  · cases x' with
    | nil => cases hl
    | cons c y =>
      simp only at hl
      rcases ha with ⟨h1, _⟩ | ⟨h1, _⟩ | ⟨h1, _⟩ | ⟨_, h2, h3, h4, h5⟩ | ⟨h1, _⟩ | ⟨h1, _⟩ | ⟨h1, _⟩ | ⟨h1, _⟩ <;> try (simp at h1)
      simp only at h2 h3 h4 h5
      have hh : isAt 3 (x ++ c :: y) 0 = true := by
        cases x with
        | nil => exact absurd rfl h3
        | cons c y =>
          simp only [List.all_cons, Bool.and_eq_true] at h4
          exact h4.1
      have h92 : (x ++ c :: y).head? ≠ some 92 := by
        cases x with
        | nil => exact absurd rfl h3
        | cons c y =>
          simp only [List.all_cons, Bool.and_eq_true] at h4
          intro h
          have : c = 92 := by simpa using h
          exact (isB_sym_not c (.inl h4.1)).2.2.2.2.1 this
      have hname : next (spell ⟨4, x⟩ ++ spell ⟨1, c :: y⟩) = name (92 :: (x ++ c :: y)) := by
        show next (92 :: x ++ c :: y) = _
        rw [List.cons_append, next, if_neg (by decide), if_neg (by decide), if_neg (by decide), if_neg (fun h => h92 h.2), if_pos ⟨rfl, hh⟩]
      rw [hname] at h
      unfold name at h
      simp only [List.drop_succ_cons, List.drop_zero] at h
      have h1 : x.length + 1 ≤ runLen 3 (x ++ c :: y) := by
        unfold runLen
        have : (x ++ c :: y).takeWhile (isB 3) = x ++ (c :: y).takeWhile (isB 3) := List.takeWhile_append_of_pos (by simpa using h4)
        rw [this, List.takeWhile_cons, if_pos hl]; simp
      have h2 := runLen_le 3 (x ++ c :: y)
      split at h
      · obtain ⟨e1, e2⟩ := lim_as h
        simp only [Tok.mk.injEq, true_and] at e1
        have := congrArg List.length e1
        rw [List.length_take] at this
        omega
      · split at h
        · cases h
        · cases h
end Go.Proofs.Ytilgpmpiidccjaa.Lx

/- Tokens that are written one after the other are read again. -/
namespace Go.Proofs.Ytilgpmpiidccjaa.Lx

/-- The text of tokens, each behind blanks. -/
def flat : List (Bytes × Tok) → Bytes
  | [] => []
  | (s, t) :: l => s ++ (spell t ++ flat l)
/-- The tokens with their places. -/
def placed : Nat → List (Bytes × Tok) → List PTok
  | _, [] => []
  | a, (s, t) :: l => ⟨t.kind, t.text, a + s.length, a + s.length + (spell t).length⟩ :: placed (a + s.length + (spell t).length) l
/-- Nothing but blanks stands between, and something stands between tokens that join. -/
def spaced : Option Tok → List (Bytes × Tok) → Prop
  | _, [] => True
  | o, (s, t) :: l => s.all (isB 1) = true ∧ TokOK t ∧ (s = [] → ∀ a, o = some a → join a t = false) ∧ spaced (some t) l

theorem runI_isB (l : Bytes) (k : Nat) : runI 1 l k = runLen 1 (l.drop k) := by
  unfold runI runLen
  have hp : (fun b : UInt8 => (cls b.toNat : Int) == 1) = isB 1 := by
    funext b
    unfold isB
    rw [Bool.eq_iff_iff, beq_iff_eq, beq_iff_eq]
    omega
  rw [hp]

theorem spell_pos (t : Tok) (ht : TokOK t) : 0 < (spell t).length := by
  obtain ⟨c, y, e, _⟩ := spell_head t ht
  rw [e]; simp

theorem okAfter_flat (t : Tok) : ∀ (W : List (Bytes × Tok)), spaced (some t) W → okAfter t (flat W)
  | [], _ => okAfter_end t
  | (s, b) :: l, ⟨h1, h2, h3, _⟩ => by
    cases s with
    | nil => exact okAfter_tok t b h2 (h3 rfl t rfl) _
    | cons c s =>
      simp only [List.all_cons, Bool.and_eq_true] at h1
      exact okAfter_blank t c _ h1.1

theorem lexGo_flat (l : Bytes) : ∀ (W : List (Bytes × Tok)) (o : Option Tok) (p : Bytes) (f : Nat), l = p ++ flat W → W.length < f → spaced o W → lexGo l f p.length = (placed p.length W, none)
  | [], o, p, f, hl, hf, _ => by
    cases f with
    | zero => cases hf
    | succ f =>
      rw [lexGo, if_pos]
      · rfl
      · rw [hl]; unfold skip flat; simp
  | (s, t) :: W, o, p, f, hl, hf, ⟨h1, h2, h3, h4⟩ => by
    cases f with
    | zero => cases hf
    | succ f =>
      have hd : l.drop p.length = s ++ (spell t ++ flat W) := by rw [hl]; simp [flat]
      have hsk : skip l p.length = p.length + s.length := by
        unfold skip
        rw [runI_isB, hd, runLen_app 1 s _ h1]
        obtain ⟨c, y, e, n1, _⟩ := spell_head t h2
        rw [e]
        intro d hd'
        cases hd'
        exact n1
      have hl2 : l = (p ++ s) ++ (spell t ++ flat W) := by rw [hl]; simp [flat]
      have hl3 : l = (p ++ s ++ spell t) ++ flat W := by rw [hl]; simp [flat]
      have hsp := spell_pos t h2
      have hnx : next (l.drop (p.length + s.length)) = .ok t (spell t).length := by
        have : l.drop (p.length + s.length) = spell t ++ flat W := by
          rw [hl2, ← List.length_append, List.drop_left]
        rw [this]
        exact reread t _ h2 (okAfter_flat t W h4)
      have ih := lexGo_flat l W (some t) (p ++ s ++ spell t) f hl3 (by simpa using hf) h4
      rw [lexGo, hsk, if_neg]
      · rw [hnx]
        simp only
        have e3 : (p ++ s ++ spell t).length = p.length + s.length + (spell t).length := by simp [Nat.add_assoc]
        rw [e3] at ih
        rw [ih]
        rfl
      · rw [hl2]; simp; omega

theorem flat_len : ∀ (W : List (Bytes × Tok)) (o : Option Tok), spaced o W → W.length ≤ (flat W).length
  | [], _, _ => Nat.le_refl _
  | (s, t) :: W, o, ⟨_, h2, _, h4⟩ => by
    have := flat_len W (some t) h4
    have := spell_pos t h2
    simp [flat]; omega

theorem lexAll_flat (W : List (Bytes × Tok)) (h : spaced none W) : lexAll (flat W) = (placed 0 W, none) :=
  lexGo_flat (flat W) W none [] _ rfl (by have := flat_len W none h; omega) h

def tok (t : PTok) : Tok := ⟨t.kind, t.text⟩
theorem placed_toks : ∀ (W : List (Bytes × Tok)) (a : Nat), (placed a W).map tok = W.map (·.2)
  | [], _ => rfl
  | (s, t) :: W, a => by simp only [placed, List.map_cons, placed_toks W]; rfl

theorem lexGo_ok (l : Bytes) : ∀ (f a : Nat), ∀ t ∈ (lexGo l f a).1, TokOK (tok t)
  | 0, a, t, ht => by simp [lexGo] at ht
  | f + 1, a, t, ht => by
    rw [lexGo] at ht
    split at ht
    · cases ht
    · cases hn : next (l.drop (skip l a)) with
      | err i e => rw [hn] at ht; cases ht
      | ok t' n =>
        rw [hn] at ht
        rcases List.mem_cons.1 ht with rfl | h
        · exact next_tokOK _ _ _ hn
        · exact lexGo_ok l f _ t h

/-- Two tokens written one after the other. -/
theorem lexAll_two (a b : Tok) (ha : TokOK a) (hb : TokOK b) (hj : join a b = false) : ∃ x y, lexAll (spell a ++ spell b) = ([x, y], none) ∧ tok x = a ∧ tok y = b := by
  have := lexAll_flat [([], a), ([], b)] ⟨rfl, ha, (fun _ c hc => nomatch hc), rfl, hb, (fun _ c hc => by cases hc; exact hj), trivial⟩
  simp only [flat, List.nil_append, List.append_nil] at this
  exact ⟨_, _, this, rfl, rfl⟩
theorem lexAll_joined (a b : Tok) (ha : TokOK a) (hb : TokOK b) (hj : join a b = true) : (lexAll (spell a ++ spell b)).2 ≠ none ∨ (lexAll (spell a ++ spell b)).1.map tok ≠ [a, b] := by
  unfold lexAll
  obtain ⟨c, y, e, n1, _⟩ := spell_head a ha
  have hsk : skip (spell a ++ spell b) 0 = 0 := by
    unfold skip
    rw [runI_isB, List.drop_zero, e]
    have := runLen_app 1 [] (c :: y ++ spell b) rfl (fun d hd => by cases hd; exact n1)
    simpa using this
  have hp : 0 < (spell a ++ spell b).length := by have := spell_pos a ha; simp; omega
  rw [lexGo, hsk, if_neg (by omega), List.drop_zero]
  cases hn : next (spell a ++ spell b) with
  | err i e => left; simp
  | ok t n =>
    right
    intro h
    simp only [List.map_cons, List.cons.injEq] at h
    have : t = a := h.1
    subst this
    exact joined_other t b ha hb hj n hn

/-- The reference's comparison of tokens. -/
def sameT (x y : PTok) (places : Bool) : Bool := x.kind == y.kind && x.text == y.text && (!places || (x.from_ == y.from_ && x.to_ == y.to_))
def sameL : List PTok → List PTok → Bool → Bool
  | [], [], _ => true
  | x :: xs, y :: ys, p => sameT x y p && sameL xs ys p
  | _, _, _ => false
theorem sameT_iff (x y : PTok) : sameT x y false = decide (tok x = tok y) := by
  unfold sameT tok
  rw [Bool.eq_iff_iff]
  simp
theorem sameL_iff : ∀ (xs ys : List PTok), sameL xs ys false = decide (xs.map tok = ys.map tok)
  | [], [] => rfl
  | x :: xs, y :: ys => by
    rw [sameL, sameT_iff, sameL_iff xs ys]
    simp
  | [], y :: ys => by simp [sameL]
  | x :: xs, [] => by simp [sameL]
end Go.Proofs.Ytilgpmpiidccjaa.Lx

/- The tokens of a formula tree, and that they tell the tree: no program in sight. -/
namespace Go.Proofs.Ytilgpmpiidccjaa.Tr
open Lx (Tok)

def mk7 (b : UInt8) : Tok := ⟨7, [b]⟩
def name (s : Bytes) : Tok := ⟨4, s⟩
def sFrac : Bytes := [102, 114, 97, 99]
def sRoot : Bytes := [114, 111, 111, 116]
def sMatrix : Bytes := [109, 97, 116, 114, 105, 120]
def leaf (n : Nd) : Bool := (n.kind == 2) || (n.kind == 3) || (n.kind == 4)
def scripted (n : Nd) : Bool := (n.kind == 7) || (n.kind == 8) || (n.kind == 9)

mutual
/-- The tokens of an item. -/
def itemT : Nd → List Tok
  | .mk k t c ks =>
    if k = 2 then [if t.length = 1 then ⟨1, t⟩ else ⟨4, t⟩]
    else if k = 3 then [⟨2, t⟩]
    else if k = 4 then [⟨3, t⟩]
    else match ks with
      | [a] =>
        if k = 10 then name t :: argT a
        else if k = 11 then (if t = [40, 41] ∨ t = [91, 93] then mk7 (t.headD 0) :: (rowT a.kids ++ [mk7 (t.getLastD 0)]) else ⟨5, t⟩ :: argT a)
        else if k = 12 then name sMatrix :: mk7 123 :: (cellsT c 0 [a] ++ [mk7 125])
        else []
      | [a, b] =>
        if k = 5 then name sFrac :: (argT a ++ argT b)
        else if k = 6 then name sRoot :: ((if a.kids = [] then [] else mk7 91 :: (rowT a.kids ++ [mk7 93])) ++ argT b)
        else if k = 7 then baseT a ++ mk7 95 :: argT b
        else if k = 8 then baseT a ++ mk7 94 :: argT b
        else if k = 12 then name sMatrix :: mk7 123 :: (cellsT c 0 [a, b] ++ [mk7 125])
        else []
      | [a, b, d] =>
        if k = 9 then baseT a ++ mk7 95 :: (argT b ++ mk7 94 :: argT d)
        else if k = 12 then name sMatrix :: mk7 123 :: (cellsT c 0 [a, b, d] ++ [mk7 125])
        else []
      | ks => if k = 12 then name sMatrix :: mk7 123 :: (cellsT c 0 ks ++ [mk7 125]) else []
  termination_by n => 2 * count n
  decreasing_by all_goals (simp only [count_kids, countL, Nd.kids]; omega)
/-- The tokens of a row as an argument. -/
def argT : Nd → List Tok
  | .mk _ _ _ ks => match ks with
    | [x] => if leaf x then itemT x else mk7 123 :: (rowT [x] ++ [mk7 125])
    | ks => mk7 123 :: (rowT ks ++ [mk7 125])
  termination_by n => 2 * count n + 1
  decreasing_by all_goals (simp only [count_kids, countL, Nd.kids]; omega)
/-- The tokens of a row as the base of scripts. -/
def baseT : Nd → List Tok
  | .mk _ _ _ ks => match ks with
    | [x] => if scripted x then mk7 123 :: (rowT [x] ++ [mk7 125]) else itemT x
    | ks => mk7 123 :: (rowT ks ++ [mk7 125])
  termination_by n => 2 * count n + 1
  decreasing_by all_goals (simp only [count_kids, countL, Nd.kids]; omega)
/-- The tokens of a row. -/
def rowT : List Nd → List Tok
  | [] => []
  | n :: ns => itemT n ++ rowT ns
  termination_by ns => 2 * countL ns + 1
  decreasing_by all_goals (simp only [count_kids, countL, Nd.kids]; omega)
/-- The tokens of the cells of a matrix. -/
def cellsT (c : Int) : Nat → List Nd → List Tok
  | _, [] => []
  | i, n :: ns => (if i = 0 then [] else if (i : Int) % c = 0 then [⟨8, [92, 92]⟩] else [mk7 38]) ++ (rowT n.kids ++ cellsT c (i + 1) ns)
  termination_by _ ns => 2 * countL ns + 1
  decreasing_by all_goals (simp only [count_kids, countL, Nd.kids]; omega)
end
end Go.Proofs.Ytilgpmpiidccjaa.Tr
