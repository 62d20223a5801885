/- Part 15 of 48 of a proof; its texts, joined: NdC. No condition. -/
import Derived.Test.YtncnoeoicaglaaaGreatVc14
import Derived.Test.YtncnoeoicaglaaaGreatShelf

/- The walks of node's predicates on texts. -/
namespace Go.Proofs.YtncnoeoicaglaaaGreat
open Go.RowKit
theorem all_snoc' (l : List UInt8) (j : Nat) (h : j < l.length) (p : UInt8 → Bool) : (l.take (j + 1)).all p = ((l.take j).all p && p l[j]) := by
 rw [List.take_add_one, List.getElem?_eq_getElem h, List.all_append]; simp only [Option.toList_some, List.all_cons, List.all_nil, Bool.and_true]
theorem all_no (l : List UInt8) (j : Nat) (h : j < l.length) (p : UInt8 → Bool) (hn : p l[j] = false) : l.all p = false := by
 rw [List.all_eq_false]
 exact ⟨l[j], List.getElem_mem _, by rw [hn]; decide⟩
theorem isEmpty_str (s : ByteArray) : s.toList.isEmpty = (s.data.toList == []) := by
 rw [ByteArray.toList_eq]
 cases s.data.toList <;> rfl
theorem all_end (s : ByteArray) (p : UInt8 → Bool) (j : Nat) (hj : j ≤ s.size) (hn : ¬ j < s.size) (h : (s.data.toList.take j).all p = true) : s.data.toList.all p = true := by
 have : s.data.toList.length = s.size := by simp
 rwa [List.take_of_length_le (by omega)] at h
theorem letter_or_256 : ∀ n : Fin 256, Tr.letter (UInt8.ofNat n.1) = (!decide (bits .or .u8 (n.1 : Int) 32 < (97 : Int)) && !decide ((122 : Int) < bits .or .u8 (n.1 : Int) 32)) := by decide +kernel
theorem letter_or (b : UInt8) : Tr.letter b = (!decide (bits .or .u8 (b.toNat : Int) 32 < (97 : Int)) && !decide ((122 : Int) < bits .or .u8 (b.toNat : Int) 32)) := by
 have := letter_or_256 ⟨b.toNat, b.toNat_lt⟩
 simpa using this
theorem digit_256 : ∀ n : Fin 256, Tr.digit (UInt8.ofNat n.1) = (!decide ((n.1 : Int) < (48 : Int)) && !decide ((57 : Int) < (n.1 : Int))) := by decide +kernel
theorem digit_or (b : UInt8) : Tr.digit b = (!decide ((b.toNat : Int) < (48 : Int)) && !decide ((57 : Int) < (b.toNat : Int))) := by
 have := digit_256 ⟨b.toNat, b.toNat_lt⟩
 simpa using this
def plainB (b : UInt8) : Bool := decide (32 ≤ b) && decide (b ≤ 126)
theorem plain_256 : ∀ n : Fin 256, plainB (UInt8.ofNat n.1) = (!decide ((n.1 : Int) < (32 : Int)) && !decide ((126 : Int) < (n.1 : Int))) := by decide +kernel
theorem plain_or (b : UInt8) : plainB b = (!decide ((b.toNat : Int) < (32 : Int)) && !decide ((126 : Int) < (b.toNat : Int))) := by
 have := plain_256 ⟨b.toNat, b.toNat_lt⟩
 simpa using this
set_option maxHeartbeats 400000 in
theorem letters_any (s : ByteArray) (w : World) (hm : s.size ≤ 9223372036854775807) :
  Calls Tryz.prog 112 #[.string s] w fun e w' => e = .returned (.bool (s.data.toList.all Tr.letter)) ∧ w' = w := by
 go_enter Tryz.func112, Tryz.ntmps112
 go_wp2_with fail
 go_loopw [3] (fun i wr => ∃ j : Nat, i = .int .i64 j ∧ j ≤ s.size ∧ Hid ((s.data.toList.take j).all Tr.letter = true) ∧ wr = w) (fun i _ => s.size - (intOf i).toNat)
 case atStart => exact ⟨0, rfl, Nat.zero_le _, by simp [Hid], rfl⟩
 case round =>
  obtain ⟨j, rfl, hj, HA, rfl⟩ := hrel
  by_cases c1 : j < s.size
  ·have d1 : decide ((j : Int) < (s.size : Int)) = true := by simp; omega
   have d1' : (j : Int) < (s.size : Int) := by omega
   obtain ⟨b, hb⟩ : ∃ b, s[j]'c1 = b := ⟨_, rfl⟩
   have hst := all_snoc' s.data.toList j (by simpa using c1) Tr.letter
   have hno := all_no s.data.toList j (by simpa using c1) Tr.letter
   have hbl : s.data.toList[j]'(by simpa using c1) = b := hb
   rw [hbl] at hst hno
   have HS := hid hst
   have HN := hid hno
   clear hst hno hbl
   cases h1 : decide ((bits .or .u8 (b.toNat : Int) (32 : Int)) < (97 : Int)) with
   | false =>
    cases h2 : decide ((122 : Int) < (bits .or .u8 (b.toNat : Int) (32 : Int))) with
    | false =>
     go_wp2_with fail
     go_roundw
     case rel => exact ⟨j + 1, by go_num, c1, by unfold Hid; rw [HS.out, HA.out]; rw [letter_or]; simp_all, trivial⟩
     case measure => simp [intOf]; omega
    | true =>
     go_wp2_with fail
     go_ret
     exact ⟨by rw [HN.out (by rw [letter_or]; simp_all)]; rfl, rfl⟩
   | true =>
    go_wp2_with fail
    go_ret
    exact ⟨by rw [HN.out (by rw [letter_or]; simp_all)]; rfl, rfl⟩
  ·have d1 : decide ((j : Int) < (s.size : Int)) = false := by simp; omega
   go_wp2_with fail
   go_ret
   exact ⟨by rw [all_end s Tr.letter j hj c1 HA.out]; rfl, rfl⟩
set_option maxHeartbeats 400000 in
theorem digits_any (s : ByteArray) (w : World) (hm : s.size ≤ 9223372036854775807) :
  Calls Tryz.prog 116 #[.string s] w fun e w' => e = .returned (.bool (s.data.toList.all Tr.digit && !(s.data.toList == []))) ∧ w' = w := by
 go_enter Tryz.func116, Tryz.ntmps116
 go_wp2_with fail
 go_loopw [3] (fun i wr => ∃ j : Nat, i = .int .i64 j ∧ j ≤ s.size ∧ Hid ((s.data.toList.take j).all Tr.digit = true) ∧ wr = w) (fun i _ => s.size - (intOf i).toNat)
 case atStart => exact ⟨0, rfl, Nat.zero_le _, by simp [Hid], rfl⟩
 case round =>
  obtain ⟨j, rfl, hj, HA, rfl⟩ := hrel
  by_cases c1 : j < s.size
  ·have d1 : decide ((j : Int) < (s.size : Int)) = true := by simp; omega
   have d1' : (j : Int) < (s.size : Int) := by omega
   obtain ⟨b, hb⟩ : ∃ b, s[j]'c1 = b := ⟨_, rfl⟩
   have hst := all_snoc' s.data.toList j (by simpa using c1) Tr.digit
   have hno := all_no s.data.toList j (by simpa using c1) Tr.digit
   have hbl : s.data.toList[j]'(by simpa using c1) = b := hb
   rw [hbl] at hst hno
   have HS := hid hst
   have HN := hid hno
   clear hst hno hbl
   cases h3 : decide ((b.toNat : Int) < (48 : Int)) with
   | false =>
    cases h4 : decide ((57 : Int) < (b.toNat : Int)) with
    | false =>
     have h4n : decide (57 < b.toNat) = false := by have hx := h4; simp only [decide_eq_false_iff_not] at hx ⊢; omega
     go_wp2_with fail
     go_roundw
     case rel => exact ⟨j + 1, by go_num, c1, by unfold Hid; rw [HS.out, HA.out]; rw [digit_or]; simp_all, trivial⟩
     case measure => simp [intOf]; omega
    | true =>
     have h4n : decide (57 < b.toNat) = true := by have hx := h4; simp only [decide_eq_true_eq] at hx ⊢; omega
     go_wp2_with fail
     go_ret
     exact ⟨by rw [HN.out (by rw [digit_or]; simp_all)]; rfl, rfl⟩
   | true =>
    go_wp2_with fail
    go_ret
    exact ⟨by rw [HN.out (by rw [digit_or]; simp_all)]; rfl, rfl⟩
  ·have d1 : decide ((j : Int) < (s.size : Int)) = false := by simp; omega
   cases h5 : (s.data.toList == ([] : List UInt8)) with
   | false =>
    have h5s : (s == (⟨#[]⟩ : ByteArray)) = false := by rw [str_eq']; exact h5
    have h5t : (s != (⟨#[]⟩ : ByteArray)) = true := by rw [bne, h5s]; rfl
    have h5e : (ByteArray.toList s).isEmpty = false := by rw [isEmpty_str]; exact h5
    go_wp2_with fail
    go_ret
    exact ⟨ret_bool' _ _ (Eq.symm (by rw [all_end s Tr.digit j hj c1 HA.out, Bool.true_and]; simp only [*]; rfl)), rfl⟩
   | true =>
    have h5s : (s == (⟨#[]⟩ : ByteArray)) = true := by rw [str_eq']; exact h5
    have h5t : (s != (⟨#[]⟩ : ByteArray)) = false := by rw [bne, h5s]; rfl
    have h5e : (ByteArray.toList s).isEmpty = true := by rw [isEmpty_str]; exact h5
    go_wp2_with fail
    go_ret
    exact ⟨ret_bool' _ _ (Eq.symm (by rw [all_end s Tr.digit j hj c1 HA.out, Bool.true_and]; simp only [*]; rfl)), rfl⟩
set_option maxHeartbeats 400000 in
theorem plain_any (s : ByteArray) (w : World) (hm : s.size ≤ 9223372036854775807) :
  Calls Tryz.prog 79 #[.string s] w fun e w' => e = .returned (.bool (s.data.toList.all plainB && decide ((s.size : Int) ≤ (200 : Int)))) ∧ w' = w := by
 go_enter Tryz.func79, Tryz.ntmps79
 go_wp2_with fail
 go_loopw [3] (fun i wr => ∃ j : Nat, i = .int .i64 j ∧ j ≤ s.size ∧ Hid ((s.data.toList.take j).all plainB = true) ∧ wr = w) (fun i _ => s.size - (intOf i).toNat)
 case atStart => exact ⟨0, rfl, Nat.zero_le _, by simp [Hid], rfl⟩
 case round =>
  obtain ⟨j, rfl, hj, HA, rfl⟩ := hrel
  by_cases c1 : j < s.size
  ·have d1 : decide ((j : Int) < (s.size : Int)) = true := by simp; omega
   have d1' : (j : Int) < (s.size : Int) := by omega
   obtain ⟨b, hb⟩ : ∃ b, s[j]'c1 = b := ⟨_, rfl⟩
   have hst := all_snoc' s.data.toList j (by simpa using c1) plainB
   have hno := all_no s.data.toList j (by simpa using c1) plainB
   have hbl : s.data.toList[j]'(by simpa using c1) = b := hb
   rw [hbl] at hst hno
   have HS := hid hst
   have HN := hid hno
   clear hst hno hbl
   cases h6 : decide ((b.toNat : Int) < (32 : Int)) with
   | false =>
    cases h7 : decide ((126 : Int) < (b.toNat : Int)) with
    | false =>
     have h7n : decide (126 < b.toNat) = false := by have hx := h7; simp only [decide_eq_false_iff_not] at hx ⊢; omega
     go_wp2_with fail
     go_roundw
     case rel => exact ⟨j + 1, by go_num, c1, by unfold Hid; rw [HS.out, HA.out]; rw [plain_or]; simp_all, trivial⟩
     case measure => simp [intOf]; omega
    | true =>
     have h7n : decide (126 < b.toNat) = true := by have hx := h7; simp only [decide_eq_true_eq] at hx ⊢; omega
     go_wp2_with fail
     go_ret
     exact ⟨by rw [HN.out (by rw [plain_or]; simp_all)]; rfl, rfl⟩
   | true =>
    go_wp2_with fail
    go_ret
    exact ⟨by rw [HN.out (by rw [plain_or]; simp_all)]; rfl, rfl⟩
  ·have d1 : decide ((j : Int) < (s.size : Int)) = false := by simp; omega
   cases h8 : decide ((s.size : Int) ≤ (200 : Int)) with
   | false =>
    go_wp2_with fail
    go_ret
    exact ⟨ret_bool' _ _ (Eq.symm (by rw [all_end s plainB j hj c1 HA.out, Bool.true_and]; assumption)), rfl⟩
   | true =>
    go_wp2_with fail
    go_ret
    exact ⟨ret_bool' _ _ (Eq.symm (by rw [all_end s plainB j hj c1 HA.out, Bool.true_and]; assumption)), rfl⟩
set_option maxHeartbeats 400000 in
theorem accent_any (s : ByteArray) (w : World) :
  Calls Tryz.prog 80 #[.string s] w fun e w' => e = .returned (.bool (Tr.accents.contains s.data.toList)) ∧ w' = w := by
 go_enter Tryz.func80, Tryz.ntmps80
 cases h9 : (s.data.toList == ([104, 97, 116] : List UInt8)) with
 | false =>
  have h9s : (s == (⟨#[104, 97, 116]⟩ : ByteArray)) = false := by rw [str_eq']; exact h9
  have h9t : (s != (⟨#[104, 97, 116]⟩ : ByteArray)) = true := by rw [bne, h9s]; rfl
  have h9l : (ByteArray.toList s == [104, 97, 116]) = false := by rw [ByteArray.toList_eq]; exact h9
  cases h10 : (s.data.toList == ([98, 97, 114] : List UInt8)) with
  | false =>
   have h10s : (s == (⟨#[98, 97, 114]⟩ : ByteArray)) = false := by rw [str_eq']; exact h10
   have h10t : (s != (⟨#[98, 97, 114]⟩ : ByteArray)) = true := by rw [bne, h10s]; rfl
   have h10l : (ByteArray.toList s == [98, 97, 114]) = false := by rw [ByteArray.toList_eq]; exact h10
   cases h11 : (s.data.toList == ([118, 101, 99] : List UInt8)) with
   | false =>
    have h11s : (s == (⟨#[118, 101, 99]⟩ : ByteArray)) = false := by rw [str_eq']; exact h11
    have h11t : (s != (⟨#[118, 101, 99]⟩ : ByteArray)) = true := by rw [bne, h11s]; rfl
    have h11l : (ByteArray.toList s == [118, 101, 99]) = false := by rw [ByteArray.toList_eq]; exact h11
    cases h12 : (s.data.toList == ([100, 111, 116] : List UInt8)) with
    | false =>
     have h12s : (s == (⟨#[100, 111, 116]⟩ : ByteArray)) = false := by rw [str_eq']; exact h12
     have h12t : (s != (⟨#[100, 111, 116]⟩ : ByteArray)) = true := by rw [bne, h12s]; rfl
     have h12l : (ByteArray.toList s == [100, 111, 116]) = false := by rw [ByteArray.toList_eq]; exact h12
     cases h13 : (s.data.toList == ([116, 105, 108, 100, 101] : List UInt8)) with
     | false =>
      have h13s : (s == (⟨#[116, 105, 108, 100, 101]⟩ : ByteArray)) = false := by rw [str_eq']; exact h13
      have h13t : (s != (⟨#[116, 105, 108, 100, 101]⟩ : ByteArray)) = true := by rw [bne, h13s]; rfl
      have h13l : (ByteArray.toList s == [116, 105, 108, 100, 101]) = false := by rw [ByteArray.toList_eq]; exact h13
      cases h14 : (s.data.toList == ([99, 104, 101, 99, 107] : List UInt8)) with
      | false =>
       have h14s : (s == (⟨#[99, 104, 101, 99, 107]⟩ : ByteArray)) = false := by rw [str_eq']; exact h14
       have h14t : (s != (⟨#[99, 104, 101, 99, 107]⟩ : ByteArray)) = true := by rw [bne, h14s]; rfl
       have h14l : (ByteArray.toList s == [99, 104, 101, 99, 107]) = false := by rw [ByteArray.toList_eq]; exact h14
       go_wp2_with fail
       go_ret
       exact ⟨ret_bool' _ _ (by simp only [Tr.accents, List.contains_cons, List.contains_nil, *] <;> rfl), rfl⟩
      | true =>
       have h14s : (s == (⟨#[99, 104, 101, 99, 107]⟩ : ByteArray)) = true := by rw [str_eq']; exact h14
       have h14t : (s != (⟨#[99, 104, 101, 99, 107]⟩ : ByteArray)) = false := by rw [bne, h14s]; rfl
       have h14l : (ByteArray.toList s == [99, 104, 101, 99, 107]) = true := by rw [ByteArray.toList_eq]; exact h14
       go_wp2_with fail
       go_ret
       exact ⟨ret_bool' _ _ (by simp only [Tr.accents, List.contains_cons, List.contains_nil, *] <;> rfl), rfl⟩
     | true =>
      have h13s : (s == (⟨#[116, 105, 108, 100, 101]⟩ : ByteArray)) = true := by rw [str_eq']; exact h13
      have h13t : (s != (⟨#[116, 105, 108, 100, 101]⟩ : ByteArray)) = false := by rw [bne, h13s]; rfl
      have h13l : (ByteArray.toList s == [116, 105, 108, 100, 101]) = true := by rw [ByteArray.toList_eq]; exact h13
      go_wp2_with fail
      go_ret
      exact ⟨ret_bool' _ _ (by simp only [Tr.accents, List.contains_cons, List.contains_nil, *] <;> rfl), rfl⟩
    | true =>
     have h12s : (s == (⟨#[100, 111, 116]⟩ : ByteArray)) = true := by rw [str_eq']; exact h12
     have h12t : (s != (⟨#[100, 111, 116]⟩ : ByteArray)) = false := by rw [bne, h12s]; rfl
     have h12l : (ByteArray.toList s == [100, 111, 116]) = true := by rw [ByteArray.toList_eq]; exact h12
     go_wp2_with fail
     go_ret
     exact ⟨ret_bool' _ _ (by simp only [Tr.accents, List.contains_cons, List.contains_nil, *] <;> rfl), rfl⟩
   | true =>
    have h11s : (s == (⟨#[118, 101, 99]⟩ : ByteArray)) = true := by rw [str_eq']; exact h11
    have h11t : (s != (⟨#[118, 101, 99]⟩ : ByteArray)) = false := by rw [bne, h11s]; rfl
    have h11l : (ByteArray.toList s == [118, 101, 99]) = true := by rw [ByteArray.toList_eq]; exact h11
    go_wp2_with fail
    go_ret
    exact ⟨ret_bool' _ _ (by simp only [Tr.accents, List.contains_cons, List.contains_nil, *] <;> rfl), rfl⟩
  | true =>
   have h10s : (s == (⟨#[98, 97, 114]⟩ : ByteArray)) = true := by rw [str_eq']; exact h10
   have h10t : (s != (⟨#[98, 97, 114]⟩ : ByteArray)) = false := by rw [bne, h10s]; rfl
   have h10l : (ByteArray.toList s == [98, 97, 114]) = true := by rw [ByteArray.toList_eq]; exact h10
   go_wp2_with fail
   go_ret
   exact ⟨ret_bool' _ _ (by simp only [Tr.accents, List.contains_cons, List.contains_nil, *] <;> rfl), rfl⟩
 | true =>
  have h9s : (s == (⟨#[104, 97, 116]⟩ : ByteArray)) = true := by rw [str_eq']; exact h9
  have h9t : (s != (⟨#[104, 97, 116]⟩ : ByteArray)) = false := by rw [bne, h9s]; rfl
  have h9l : (ByteArray.toList s == [104, 97, 116]) = true := by rw [ByteArray.toList_eq]; exact h9
  go_wp2_with fail
  go_ret
  exact ⟨ret_bool' _ _ (by simp only [Tr.accents, List.contains_cons, List.contains_nil, *] <;> rfl), rfl⟩
set_option maxHeartbeats 400000 in
theorem keyword_any (s : ByteArray) (w : World) :
  Calls Tryz.prog 114 #[.string s] w fun e w' => e = .returned (.bool (Tr.keywords.contains s.data.toList)) ∧ w' = w := by
 go_enter Tryz.func114, Tryz.ntmps114
 cases h15 : (s.data.toList == ([102, 114, 97, 99] : List UInt8)) with
 | false =>
  have h15s : (s == (⟨#[102, 114, 97, 99]⟩ : ByteArray)) = false := by rw [str_eq']; exact h15
  have h15t : (s != (⟨#[102, 114, 97, 99]⟩ : ByteArray)) = true := by rw [bne, h15s]; rfl
  have h15l : (ByteArray.toList s == [102, 114, 97, 99]) = false := by rw [ByteArray.toList_eq]; exact h15
  cases h16 : (s.data.toList == ([114, 111, 111, 116] : List UInt8)) with
  | false =>
   have h16s : (s == (⟨#[114, 111, 111, 116]⟩ : ByteArray)) = false := by rw [str_eq']; exact h16
   have h16t : (s != (⟨#[114, 111, 111, 116]⟩ : ByteArray)) = true := by rw [bne, h16s]; rfl
   have h16l : (ByteArray.toList s == [114, 111, 111, 116]) = false := by rw [ByteArray.toList_eq]; exact h16
   cases h17 : (s.data.toList == ([109, 97, 116, 114, 105, 120] : List UInt8)) with
   | false =>
    have h17s : (s == (⟨#[109, 97, 116, 114, 105, 120]⟩ : ByteArray)) = false := by rw [str_eq']; exact h17
    have h17t : (s != (⟨#[109, 97, 116, 114, 105, 120]⟩ : ByteArray)) = true := by rw [bne, h17s]; rfl
    have h17l : (ByteArray.toList s == [109, 97, 116, 114, 105, 120]) = false := by rw [ByteArray.toList_eq]; exact h17
    cases h18 : (s.data.toList == ([102, 101, 110, 99, 101] : List UInt8)) with
    | false =>
     have h18s : (s == (⟨#[102, 101, 110, 99, 101]⟩ : ByteArray)) = false := by rw [str_eq']; exact h18
     have h18t : (s != (⟨#[102, 101, 110, 99, 101]⟩ : ByteArray)) = true := by rw [bne, h18s]; rfl
     have h18l : (ByteArray.toList s == [102, 101, 110, 99, 101]) = false := by rw [ByteArray.toList_eq]; exact h18
     go_wp2_with fail
     go_ret
     exact ⟨ret_bool' _ _ (by simp only [Tr.keywords, List.contains_cons, List.contains_nil, *] <;> rfl), rfl⟩
    | true =>
     have h18s : (s == (⟨#[102, 101, 110, 99, 101]⟩ : ByteArray)) = true := by rw [str_eq']; exact h18
     have h18t : (s != (⟨#[102, 101, 110, 99, 101]⟩ : ByteArray)) = false := by rw [bne, h18s]; rfl
     have h18l : (ByteArray.toList s == [102, 101, 110, 99, 101]) = true := by rw [ByteArray.toList_eq]; exact h18
     go_wp2_with fail
     go_ret
     exact ⟨ret_bool' _ _ (by simp only [Tr.keywords, List.contains_cons, List.contains_nil, *] <;> rfl), rfl⟩
   | true =>
    have h17s : (s == (⟨#[109, 97, 116, 114, 105, 120]⟩ : ByteArray)) = true := by rw [str_eq']; exact h17
    have h17t : (s != (⟨#[109, 97, 116, 114, 105, 120]⟩ : ByteArray)) = false := by rw [bne, h17s]; rfl
    have h17l : (ByteArray.toList s == [109, 97, 116, 114, 105, 120]) = true := by rw [ByteArray.toList_eq]; exact h17
    go_wp2_with fail
    go_ret
    exact ⟨ret_bool' _ _ (by simp only [Tr.keywords, List.contains_cons, List.contains_nil, *] <;> rfl), rfl⟩
  | true =>
   have h16s : (s == (⟨#[114, 111, 111, 116]⟩ : ByteArray)) = true := by rw [str_eq']; exact h16
   have h16t : (s != (⟨#[114, 111, 111, 116]⟩ : ByteArray)) = false := by rw [bne, h16s]; rfl
   have h16l : (ByteArray.toList s == [114, 111, 111, 116]) = true := by rw [ByteArray.toList_eq]; exact h16
   go_wp2_with fail
   go_ret
   exact ⟨ret_bool' _ _ (by simp only [Tr.keywords, List.contains_cons, List.contains_nil, *] <;> rfl), rfl⟩
 | true =>
  have h15s : (s == (⟨#[102, 114, 97, 99]⟩ : ByteArray)) = true := by rw [str_eq']; exact h15
  have h15t : (s != (⟨#[102, 114, 97, 99]⟩ : ByteArray)) = false := by rw [bne, h15s]; rfl
  have h15l : (ByteArray.toList s == [102, 114, 97, 99]) = true := by rw [ByteArray.toList_eq]; exact h15
  go_wp2_with fail
  go_ret
  exact ⟨ret_bool' _ _ (by simp only [Tr.keywords, List.contains_cons, List.contains_nil, *] <;> rfl), rfl⟩
set_option maxHeartbeats 400000 in
theorem empty_any (s : ByteArray) (w : World) :
  Calls Tryz.prog 76 #[.string s] w fun e w' => e = .returned (.bool (s.data.toList.isEmpty)) ∧ w' = w := by
 go_enter Tryz.func76, Tryz.ntmps76
 cases h19 : (s.data.toList == ([] : List UInt8)) with
 | false =>
  have h19s : (s == (⟨#[]⟩ : ByteArray)) = false := by rw [str_eq']; exact h19
  have h19t : (s != (⟨#[]⟩ : ByteArray)) = true := by rw [bne, h19s]; rfl
  have h19e : (ByteArray.toList s).isEmpty = false := by rw [isEmpty_str]; exact h19
  go_wp2_with fail
  go_ret
  exact ⟨ret_bool' _ _ (by cases hs : s.data.toList <;> simp_all), rfl⟩
 | true =>
  have h19s : (s == (⟨#[]⟩ : ByteArray)) = true := by rw [str_eq']; exact h19
  have h19t : (s != (⟨#[]⟩ : ByteArray)) = false := by rw [bne, h19s]; rfl
  have h19e : (ByteArray.toList s).isEmpty = true := by rw [isEmpty_str]; exact h19
  go_wp2_with fail
  go_ret
  exact ⟨ret_bool' _ _ (by cases hs : s.data.toList <;> simp_all), rfl⟩
end Go.Proofs.YtncnoeoicaglaaaGreat
