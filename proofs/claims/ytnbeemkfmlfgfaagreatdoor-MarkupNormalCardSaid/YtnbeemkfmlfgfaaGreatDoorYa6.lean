/- Part 6 of 35 of a proof; its texts, joined: NdC, NdD, TrS. No condition. -/
import Derived.Test.YtnbeemkfmlfgfaaGreatDoorYa5
import Derived.Test.YtnbeemkfmlfgfaaGreatDoorShelf
set_option maxRecDepth 100000
set_option maxHeartbeats 400000
namespace Go.Proofs.YtnbeemkfmlfgfaaGreatDoor
open Go.RowKit
theorem all_snoc' (l : List UInt8) (j : Nat) (h : j < l.length) (p : UInt8 → Bool) : (l.take (j + 1)).all p = ((l.take j).all p && p l[j]) := by
 rw [List.take_add_one, List.getElem?_eq_getElem h, List.all_append]; simp only [Option.toList_some, List.all_cons, List.all_nil, Bool.and_true]
theorem all_no (l : List UInt8) (j : Nat) (h : j < l.length) (p : UInt8 → Bool) (hn : p l[j] = false) : l.all p = false := by
 rw [List.all_eq_false];exact ⟨l[j], List.getElem_mem _, by rw [hn]; decide⟩
theorem isEmpty_str (s : ByteArray) : s.toList.isEmpty = (s.data.toList == []) := by
 rw [ByteArray.toList_eq];cases s.data.toList <;> rfl
theorem all_end (s : ByteArray) (p : UInt8 → Bool) (j : Nat) (hj : j ≤ s.size) (hn : ¬ j < s.size) (h : (s.data.toList.take j).all p = true) : s.data.toList.all p = true := by
 have : s.data.toList.length = s.size := by simp
 rwa [List.take_of_length_le (by omega)] at h
theorem letter_or_256 : ∀ n : Fin 256, Tr.letter (UInt8.ofNat n.1) = (!decide (bits .or .u8 (n.1 : Int) 32 < (97 : Int)) && !decide ((122 : Int) < bits .or .u8 (n.1 : Int) 32)) := by decide +kernel
theorem letter_or (b : UInt8) : Tr.letter b = (!decide (bits .or .u8 (b.toNat : Int) 32 < (97 : Int)) && !decide ((122 : Int) < bits .or .u8 (b.toNat : Int) 32)) := by
 have := letter_or_256 ⟨b.toNat, b.toNat_lt⟩;simpa using this
theorem digit_256 : ∀ n : Fin 256, Tr.digit (UInt8.ofNat n.1) = (!decide ((n.1 : Int) < (48 : Int)) && !decide ((57 : Int) < (n.1 : Int))) := by decide +kernel
theorem digit_or (b : UInt8) : Tr.digit b = (!decide ((b.toNat : Int) < (48 : Int)) && !decide ((57 : Int) < (b.toNat : Int))) := by
 have := digit_256 ⟨b.toNat, b.toNat_lt⟩;simpa using this
def plainB (b : UInt8) : Bool := decide (32 ≤ b) && decide (b ≤ 126)
theorem plain_256 : ∀ n : Fin 256, plainB (UInt8.ofNat n.1) = (!decide ((n.1 : Int) < (32 : Int)) && !decide ((126 : Int) < (n.1 : Int))) := by decide +kernel
theorem plain_or (b : UInt8) : plainB b = (!decide ((b.toNat : Int) < (32 : Int)) && !decide ((126 : Int) < (b.toNat : Int))) := by
 have := plain_256 ⟨b.toNat, b.toNat_lt⟩;simpa using this
theorem letters_any (s : ByteArray) (w : World) (hm : s.size ≤ 9223372036854775807) :
  Calls Tryz.prog 141 #[.string s] w fun e w' => e = .returned (.bool (s.data.toList.all Tr.letter)) ∧ w' = w := by
 go_enter Tryz.func141, Tryz.ntmps141;go_wp2_with fail
 go_loopw [3] (fun i wr => ∃ j : Nat, i = .int .i64 j ∧ j ≤ s.size ∧ Hid ((s.data.toList.take j).all Tr.letter = true) ∧ wr = w) (fun i _ => s.size - (intOf i).toNat)
 case atStart => exact ⟨0, rfl, Nat.zero_le _, by simp [Hid], rfl⟩
 case round =>
  obtain ⟨j, rfl, hj, HA, rfl⟩ := hrel
  by_cases c1 : j < s.size
  ·have d1 : decide ((j : Int) < (s.size : Int)) = true := by simp; omega
   have d1' : (j : Int) < (s.size : Int) := by omega
   obtain ⟨b, hb⟩ : ∃ b, s[j]'c1 = b := ⟨_, rfl⟩;have hst := all_snoc' s.data.toList j (by simpa using c1) Tr.letter;have hno := all_no s.data.toList j (by simpa using c1) Tr.letter;have hbl : s.data.toList[j]'(by simpa using c1) = b := hb;rw [hbl] at hst hno;have HS := hid hst;have HN := hid hno;clear hst hno hbl;cases h1 : decide ((bits .or .u8 (b.toNat : Int) (32 : Int)) < (97 : Int)) with
   | false =>
    cases h2 : decide ((122 : Int) < (bits .or .u8 (b.toNat : Int) (32 : Int))) with
    | false =>
     go_wp2_with fail
     go_roundw
     case rel => exact ⟨j + 1, by go_num, c1, by unfold Hid; rw [HS.out, HA.out]; rw [letter_or]; simp_all, trivial⟩
     case measure => simp [intOf]; omega
    | true =>
     go_wp2_with fail
     go_ret;exact ⟨by rw [HN.out (by rw [letter_or]; simp_all)]; rfl, rfl⟩
   | true =>
    go_wp2_with fail
    go_ret;exact ⟨by rw [HN.out (by rw [letter_or]; simp_all)]; rfl, rfl⟩
  ·have d1 : decide ((j : Int) < (s.size : Int)) = false := by simp; omega
   go_wp2_with fail
   go_ret;exact ⟨by rw [all_end s Tr.letter j hj c1 HA.out]; rfl, rfl⟩
theorem digits_any (s : ByteArray) (w : World) (hm : s.size ≤ 9223372036854775807) :
  Calls Tryz.prog 155 #[.string s] w fun e w' => e = .returned (.bool (s.data.toList.all Tr.digit && !(s.data.toList == []))) ∧ w' = w := by
 go_enter Tryz.func155, Tryz.ntmps155;go_wp2_with fail
 go_loopw [3] (fun i wr => ∃ j : Nat, i = .int .i64 j ∧ j ≤ s.size ∧ Hid ((s.data.toList.take j).all Tr.digit = true) ∧ wr = w) (fun i _ => s.size - (intOf i).toNat)
 case atStart => exact ⟨0, rfl, Nat.zero_le _, by simp [Hid], rfl⟩
 case round =>
  obtain ⟨j, rfl, hj, HA, rfl⟩ := hrel
  by_cases c1 : j < s.size
  ·have d1 : decide ((j : Int) < (s.size : Int)) = true := by simp; omega
   have d1' : (j : Int) < (s.size : Int) := by omega
   obtain ⟨b, hb⟩ : ∃ b, s[j]'c1 = b := ⟨_, rfl⟩;have hst := all_snoc' s.data.toList j (by simpa using c1) Tr.digit;have hno := all_no s.data.toList j (by simpa using c1) Tr.digit;have hbl : s.data.toList[j]'(by simpa using c1) = b := hb;rw [hbl] at hst hno;have HS := hid hst;have HN := hid hno;clear hst hno hbl;cases h3 : decide ((b.toNat : Int) < (48 : Int)) with
   | false =>
    cases h4 : decide ((57 : Int) < (b.toNat : Int)) with
    | false =>
     have h4n : decide (57 < b.toNat) = false := by have hx := h4; simp only [decide_eq_false_iff_not] at hx ⊢; omega
     go_wp2_with fail
     go_roundw
     case rel => exact ⟨j + 1, by go_num, c1, by unfold Hid; rw [HS.out, HA.out]; rw [digit_or]; simp_all, trivial⟩
     case measure => simp [intOf]; omega
    | true =>
     have h4n : decide (57 < b.toNat) = true := by have hx := h4; simp only [decide_eq_true_eq] at hx ⊢; omega
     go_wp2_with fail
     go_ret;exact ⟨by rw [HN.out (by rw [digit_or]; simp_all)]; rfl, rfl⟩
   | true =>
    go_wp2_with fail
    go_ret;exact ⟨by rw [HN.out (by rw [digit_or]; simp_all)]; rfl, rfl⟩
  ·have d1 : decide ((j : Int) < (s.size : Int)) = false := by simp; omega
   cases h5 : (s.data.toList == ([] : List UInt8)) with
   | false =>
    have h5s : (s == (⟨#[]⟩ : ByteArray)) = false := by rw [str_eq']; exact h5
    have h5t : (s != (⟨#[]⟩ : ByteArray)) = true := by rw [bne, h5s]; rfl
    have h5e : (ByteArray.toList s).isEmpty = false := by rw [isEmpty_str]; exact h5
    go_wp2_with fail
    go_ret;exact ⟨ret_bool' _ _ (Eq.symm (by rw [all_end s Tr.digit j hj c1 HA.out, Bool.true_and]; simp only [*]; rfl)), rfl⟩
   | true =>
    have h5s : (s == (⟨#[]⟩ : ByteArray)) = true := by rw [str_eq']; exact h5
    have h5t : (s != (⟨#[]⟩ : ByteArray)) = false := by rw [bne, h5s]; rfl
    have h5e : (ByteArray.toList s).isEmpty = true := by rw [isEmpty_str]; exact h5
    go_wp2_with fail
    go_ret;exact ⟨ret_bool' _ _ (Eq.symm (by rw [all_end s Tr.digit j hj c1 HA.out, Bool.true_and]; simp only [*]; rfl)), rfl⟩
theorem plain_any (s : ByteArray) (w : World) (hm : s.size ≤ 9223372036854775807) :
  Calls Tryz.prog 92 #[.string s] w fun e w' => e = .returned (.bool (s.data.toList.all plainB && decide ((s.size : Int) ≤ (200 : Int)))) ∧ w' = w := by
 go_enter Tryz.func92, Tryz.ntmps92;go_wp2_with fail
 go_loopw [3] (fun i wr => ∃ j : Nat, i = .int .i64 j ∧ j ≤ s.size ∧ Hid ((s.data.toList.take j).all plainB = true) ∧ wr = w) (fun i _ => s.size - (intOf i).toNat)
 case atStart => exact ⟨0, rfl, Nat.zero_le _, by simp [Hid], rfl⟩
 case round =>
  obtain ⟨j, rfl, hj, HA, rfl⟩ := hrel
  by_cases c1 : j < s.size
  ·have d1 : decide ((j : Int) < (s.size : Int)) = true := by simp; omega
   have d1' : (j : Int) < (s.size : Int) := by omega
   obtain ⟨b, hb⟩ : ∃ b, s[j]'c1 = b := ⟨_, rfl⟩;have hst := all_snoc' s.data.toList j (by simpa using c1) plainB;have hno := all_no s.data.toList j (by simpa using c1) plainB;have hbl : s.data.toList[j]'(by simpa using c1) = b := hb;rw [hbl] at hst hno;have HS := hid hst;have HN := hid hno;clear hst hno hbl;cases h6 : decide ((b.toNat : Int) < (32 : Int)) with
   | false =>
    cases h7 : decide ((126 : Int) < (b.toNat : Int)) with
    | false =>
     have h7n : decide (126 < b.toNat) = false := by have hx := h7; simp only [decide_eq_false_iff_not] at hx ⊢; omega
     go_wp2_with fail
     go_roundw
     case rel => exact ⟨j + 1, by go_num, c1, by unfold Hid; rw [HS.out, HA.out]; rw [plain_or]; simp_all, trivial⟩
     case measure => simp [intOf]; omega
    | true =>
     have h7n : decide (126 < b.toNat) = true := by have hx := h7; simp only [decide_eq_true_eq] at hx ⊢; omega
     go_wp2_with fail
     go_ret;exact ⟨by rw [HN.out (by rw [plain_or]; simp_all)]; rfl, rfl⟩
   | true =>
    go_wp2_with fail
    go_ret;exact ⟨by rw [HN.out (by rw [plain_or]; simp_all)]; rfl, rfl⟩
  ·have d1 : decide ((j : Int) < (s.size : Int)) = false := by simp; omega
   cases h8 : decide ((s.size : Int) ≤ (200 : Int)) with
   | false =>
    go_wp2_with fail
    go_ret;exact ⟨ret_bool' _ _ (Eq.symm (by rw [all_end s plainB j hj c1 HA.out, Bool.true_and]; assumption)), rfl⟩
   | true =>
    go_wp2_with fail
    go_ret;exact ⟨ret_bool' _ _ (Eq.symm (by rw [all_end s plainB j hj c1 HA.out, Bool.true_and]; assumption)), rfl⟩
theorem accent_any (s : ByteArray) (w : World) :
  Calls Tryz.prog 93 #[.string s] w fun e w' => e = .returned (.bool (Tr.accents.contains s.data.toList)) ∧ w' = w := by
 go_enter Tryz.func93, Tryz.ntmps93;cases h9 : (s.data.toList == ([104, 97, 116] : List UInt8)) with
 | false =>
  have h9s : (s == (⟨#[104, 97, 116]⟩ : ByteArray)) = false := by rw [str_eq']; exact h9
  have h9t : (s != (⟨#[104, 97, 116]⟩ : ByteArray)) = true := by rw [bne, h9s]; rfl
  have h9l : (ByteArray.toList s == [104, 97, 116]) = false := by rw [ByteArray.toList_eq]; exact h9
  cases h10 : (s.data.toList == ([98, 97, 114] : List UInt8)) with
  | false =>
   have h10s : (s == (⟨#[98, 97, 114]⟩ : ByteArray)) = false := by rw [str_eq']; exact h10
   have h10t : (s != (⟨#[98, 97, 114]⟩ : ByteArray)) = true := by rw [bne, h10s]; rfl
   have h10l : (ByteArray.toList s == [98, 97, 114]) = false := by rw [ByteArray.toList_eq]; exact h10
   cases h11 : (s.data.toList == ([118, 101, 99] : List UInt8)) with
   | false =>
    have h11s : (s == (⟨#[118, 101, 99]⟩ : ByteArray)) = false := by rw [str_eq']; exact h11
    have h11t : (s != (⟨#[118, 101, 99]⟩ : ByteArray)) = true := by rw [bne, h11s]; rfl
    have h11l : (ByteArray.toList s == [118, 101, 99]) = false := by rw [ByteArray.toList_eq]; exact h11
    cases h12 : (s.data.toList == ([100, 111, 116] : List UInt8)) with
    | false =>
     have h12s : (s == (⟨#[100, 111, 116]⟩ : ByteArray)) = false := by rw [str_eq']; exact h12
     have h12t : (s != (⟨#[100, 111, 116]⟩ : ByteArray)) = true := by rw [bne, h12s]; rfl
     have h12l : (ByteArray.toList s == [100, 111, 116]) = false := by rw [ByteArray.toList_eq]; exact h12
     cases h13 : (s.data.toList == ([116, 105, 108, 100, 101] : List UInt8)) with
     | false =>
      have h13s : (s == (⟨#[116, 105, 108, 100, 101]⟩ : ByteArray)) = false := by rw [str_eq']; exact h13
      have h13t : (s != (⟨#[116, 105, 108, 100, 101]⟩ : ByteArray)) = true := by rw [bne, h13s]; rfl
      have h13l : (ByteArray.toList s == [116, 105, 108, 100, 101]) = false := by rw [ByteArray.toList_eq]; exact h13
      cases h14 : (s.data.toList == ([99, 104, 101, 99, 107] : List UInt8)) with
      | false =>
       have h14s : (s == (⟨#[99, 104, 101, 99, 107]⟩ : ByteArray)) = false := by rw [str_eq']; exact h14
       have h14t : (s != (⟨#[99, 104, 101, 99, 107]⟩ : ByteArray)) = true := by rw [bne, h14s]; rfl
       have h14l : (ByteArray.toList s == [99, 104, 101, 99, 107]) = false := by rw [ByteArray.toList_eq]; exact h14
       go_wp2_with fail
       go_ret;exact ⟨ret_bool' _ _ (by simp only [Tr.accents, List.contains_cons, List.contains_nil, *] <;> rfl), rfl⟩
      | true =>
       have h14s : (s == (⟨#[99, 104, 101, 99, 107]⟩ : ByteArray)) = true := by rw [str_eq']; exact h14
       have h14t : (s != (⟨#[99, 104, 101, 99, 107]⟩ : ByteArray)) = false := by rw [bne, h14s]; rfl
       have h14l : (ByteArray.toList s == [99, 104, 101, 99, 107]) = true := by rw [ByteArray.toList_eq]; exact h14
       go_wp2_with fail
       go_ret;exact ⟨ret_bool' _ _ (by simp only [Tr.accents, List.contains_cons, List.contains_nil, *] <;> rfl), rfl⟩
     | true =>
      have h13s : (s == (⟨#[116, 105, 108, 100, 101]⟩ : ByteArray)) = true := by rw [str_eq']; exact h13
      have h13t : (s != (⟨#[116, 105, 108, 100, 101]⟩ : ByteArray)) = false := by rw [bne, h13s]; rfl
      have h13l : (ByteArray.toList s == [116, 105, 108, 100, 101]) = true := by rw [ByteArray.toList_eq]; exact h13
      go_wp2_with fail
      go_ret;exact ⟨ret_bool' _ _ (by simp only [Tr.accents, List.contains_cons, List.contains_nil, *] <;> rfl), rfl⟩
    | true =>
     have h12s : (s == (⟨#[100, 111, 116]⟩ : ByteArray)) = true := by rw [str_eq']; exact h12
     have h12t : (s != (⟨#[100, 111, 116]⟩ : ByteArray)) = false := by rw [bne, h12s]; rfl
     have h12l : (ByteArray.toList s == [100, 111, 116]) = true := by rw [ByteArray.toList_eq]; exact h12
     go_wp2_with fail
     go_ret;exact ⟨ret_bool' _ _ (by simp only [Tr.accents, List.contains_cons, List.contains_nil, *] <;> rfl), rfl⟩
   | true =>
    have h11s : (s == (⟨#[118, 101, 99]⟩ : ByteArray)) = true := by rw [str_eq']; exact h11
    have h11t : (s != (⟨#[118, 101, 99]⟩ : ByteArray)) = false := by rw [bne, h11s]; rfl
    have h11l : (ByteArray.toList s == [118, 101, 99]) = true := by rw [ByteArray.toList_eq]; exact h11
    go_wp2_with fail
    go_ret;exact ⟨ret_bool' _ _ (by simp only [Tr.accents, List.contains_cons, List.contains_nil, *] <;> rfl), rfl⟩
  | true =>
   have h10s : (s == (⟨#[98, 97, 114]⟩ : ByteArray)) = true := by rw [str_eq']; exact h10
   have h10t : (s != (⟨#[98, 97, 114]⟩ : ByteArray)) = false := by rw [bne, h10s]; rfl
   have h10l : (ByteArray.toList s == [98, 97, 114]) = true := by rw [ByteArray.toList_eq]; exact h10
   go_wp2_with fail
   go_ret;exact ⟨ret_bool' _ _ (by simp only [Tr.accents, List.contains_cons, List.contains_nil, *] <;> rfl), rfl⟩
 | true =>
  have h9s : (s == (⟨#[104, 97, 116]⟩ : ByteArray)) = true := by rw [str_eq']; exact h9
  have h9t : (s != (⟨#[104, 97, 116]⟩ : ByteArray)) = false := by rw [bne, h9s]; rfl
  have h9l : (ByteArray.toList s == [104, 97, 116]) = true := by rw [ByteArray.toList_eq]; exact h9
  go_wp2_with fail
  go_ret;exact ⟨ret_bool' _ _ (by simp only [Tr.accents, List.contains_cons, List.contains_nil, *] <;> rfl), rfl⟩
theorem keyword_any (s : ByteArray) (w : World) :
  Calls Tryz.prog 143 #[.string s] w fun e w' => e = .returned (.bool (Tr.keywords.contains s.data.toList)) ∧ w' = w := by
 go_enter Tryz.func143, Tryz.ntmps143;cases h15 : (s.data.toList == ([102, 114, 97, 99] : List UInt8)) with
 | false =>
  have h15s : (s == (⟨#[102, 114, 97, 99]⟩ : ByteArray)) = false := by rw [str_eq']; exact h15
  have h15t : (s != (⟨#[102, 114, 97, 99]⟩ : ByteArray)) = true := by rw [bne, h15s]; rfl
  have h15l : (ByteArray.toList s == [102, 114, 97, 99]) = false := by rw [ByteArray.toList_eq]; exact h15
  cases h16 : (s.data.toList == ([114, 111, 111, 116] : List UInt8)) with
  | false =>
   have h16s : (s == (⟨#[114, 111, 111, 116]⟩ : ByteArray)) = false := by rw [str_eq']; exact h16
   have h16t : (s != (⟨#[114, 111, 111, 116]⟩ : ByteArray)) = true := by rw [bne, h16s]; rfl
   have h16l : (ByteArray.toList s == [114, 111, 111, 116]) = false := by rw [ByteArray.toList_eq]; exact h16
   cases h17 : (s.data.toList == ([109, 97, 116, 114, 105, 120] : List UInt8)) with
   | false =>
    have h17s : (s == (⟨#[109, 97, 116, 114, 105, 120]⟩ : ByteArray)) = false := by rw [str_eq']; exact h17
    have h17t : (s != (⟨#[109, 97, 116, 114, 105, 120]⟩ : ByteArray)) = true := by rw [bne, h17s]; rfl
    have h17l : (ByteArray.toList s == [109, 97, 116, 114, 105, 120]) = false := by rw [ByteArray.toList_eq]; exact h17
    cases h18 : (s.data.toList == ([102, 101, 110, 99, 101] : List UInt8)) with
    | false =>
     have h18s : (s == (⟨#[102, 101, 110, 99, 101]⟩ : ByteArray)) = false := by rw [str_eq']; exact h18
     have h18t : (s != (⟨#[102, 101, 110, 99, 101]⟩ : ByteArray)) = true := by rw [bne, h18s]; rfl
     have h18l : (ByteArray.toList s == [102, 101, 110, 99, 101]) = false := by rw [ByteArray.toList_eq]; exact h18
     go_wp2_with fail
     go_ret;exact ⟨ret_bool' _ _ (by simp only [Tr.keywords, List.contains_cons, List.contains_nil, *] <;> rfl), rfl⟩
    | true =>
     have h18s : (s == (⟨#[102, 101, 110, 99, 101]⟩ : ByteArray)) = true := by rw [str_eq']; exact h18
     have h18t : (s != (⟨#[102, 101, 110, 99, 101]⟩ : ByteArray)) = false := by rw [bne, h18s]; rfl
     have h18l : (ByteArray.toList s == [102, 101, 110, 99, 101]) = true := by rw [ByteArray.toList_eq]; exact h18
     go_wp2_with fail
     go_ret;exact ⟨ret_bool' _ _ (by simp only [Tr.keywords, List.contains_cons, List.contains_nil, *] <;> rfl), rfl⟩
   | true =>
    have h17s : (s == (⟨#[109, 97, 116, 114, 105, 120]⟩ : ByteArray)) = true := by rw [str_eq']; exact h17
    have h17t : (s != (⟨#[109, 97, 116, 114, 105, 120]⟩ : ByteArray)) = false := by rw [bne, h17s]; rfl
    have h17l : (ByteArray.toList s == [109, 97, 116, 114, 105, 120]) = true := by rw [ByteArray.toList_eq]; exact h17
    go_wp2_with fail
    go_ret;exact ⟨ret_bool' _ _ (by simp only [Tr.keywords, List.contains_cons, List.contains_nil, *] <;> rfl), rfl⟩
  | true =>
   have h16s : (s == (⟨#[114, 111, 111, 116]⟩ : ByteArray)) = true := by rw [str_eq']; exact h16
   have h16t : (s != (⟨#[114, 111, 111, 116]⟩ : ByteArray)) = false := by rw [bne, h16s]; rfl
   have h16l : (ByteArray.toList s == [114, 111, 111, 116]) = true := by rw [ByteArray.toList_eq]; exact h16
   go_wp2_with fail
   go_ret;exact ⟨ret_bool' _ _ (by simp only [Tr.keywords, List.contains_cons, List.contains_nil, *] <;> rfl), rfl⟩
 | true =>
  have h15s : (s == (⟨#[102, 114, 97, 99]⟩ : ByteArray)) = true := by rw [str_eq']; exact h15
  have h15t : (s != (⟨#[102, 114, 97, 99]⟩ : ByteArray)) = false := by rw [bne, h15s]; rfl
  have h15l : (ByteArray.toList s == [102, 114, 97, 99]) = true := by rw [ByteArray.toList_eq]; exact h15
  go_wp2_with fail
  go_ret;exact ⟨ret_bool' _ _ (by simp only [Tr.keywords, List.contains_cons, List.contains_nil, *] <;> rfl), rfl⟩
theorem empty_any (s : ByteArray) (w : World) :
  Calls Tryz.prog 90 #[.string s] w fun e w' => e = .returned (.bool (s.data.toList.isEmpty)) ∧ w' = w := by
 go_enter Tryz.func90, Tryz.ntmps90;cases h19 : (s.data.toList == ([] : List UInt8)) with
 | false =>
  have h19s : (s == (⟨#[]⟩ : ByteArray)) = false := by rw [str_eq']; exact h19
  have h19t : (s != (⟨#[]⟩ : ByteArray)) = true := by rw [bne, h19s]; rfl
  have h19e : (ByteArray.toList s).isEmpty = false := by rw [isEmpty_str]; exact h19
  go_wp2_with fail
  go_ret;exact ⟨ret_bool' _ _ (by cases hs : s.data.toList <;> simp_all), rfl⟩
 | true =>
  have h19s : (s == (⟨#[]⟩ : ByteArray)) = true := by rw [str_eq']; exact h19
  have h19t : (s != (⟨#[]⟩ : ByteArray)) = false := by rw [bne, h19s]; rfl
  have h19e : (ByteArray.toList s).isEmpty = true := by rw [isEmpty_str]; exact h19
  go_wp2_with fail
  go_ret;exact ⟨ret_bool' _ _ (by cases hs : s.data.toList <;> simp_all), rfl⟩
theorem idx_contains (l : List UInt8) (c : UInt8) : decide ((0 : Int) ≤ Lib.indexByte l c) = l.contains c := by
 induction l with
 | nil => rfl
 | cons b l ih =>
  rw [Lib.indexByte, List.contains_cons];cases h : b == c with
  | true =>
   have : b = c := by simpa using h
   subst this;simp
  | false =>
   have h2 : (c == b) = false := by
    rw [beq_eq_false_iff_ne] at h ⊢; exact fun e => h e.symm
   rw [h2, Bool.false_or, ← ih]
   have hlo : -1 ≤ Lib.indexByte l c := by
    clear ih
    induction l with
    | nil => show (-1 : Int) ≤ -1; decide
    | cons b l ih => rw [Lib.indexByte]; split <;> (try split) <;> omega
   cases h3 : Lib.indexByte l c == -1 with
   | true =>
    have : Lib.indexByte l c = -1 := by simpa using h3
    rw [this]; rfl
   | false =>
    have : Lib.indexByte l c ≠ -1 := by simpa using h3
    simp only [Bool.false_eq_true, if_false];rw [Bool.eq_iff_iff, decide_eq_true_iff, decide_eq_true_iff]; omega
theorem str_one (s : ByteArray) (h : s.size = 1) : ∃ c, s = ⟨#[c]⟩ := by
 obtain ⟨⟨l⟩⟩ := s
 match l, h with
 | [c], _ => exact ⟨c, rfl⟩
theorem str_two (s : ByteArray) (h : s.size = 2) : ∃ a b, s = ⟨#[a, b]⟩ := by
 obtain ⟨⟨l⟩⟩ := s
 match l, h with
 | [a, b], _ => exact ⟨a, b, rfl⟩
theorem contains_one (l : List UInt8) (c : UInt8) (w : World) :
  Calls Tryz.prog 142 #[.string ⟨l.toArray⟩, .string ⟨#[c]⟩] w fun e w' => e = .returned (.bool (l.contains c)) ∧ w' = w := by
 have := Tryz.strings_Contains_one ⟨l.toArray⟩ c w;rw [← idx_contains]; exact this
theorem indexByte_byte (l : List UInt8) (c : UInt8) (w : World) :
  Calls Tryz.prog 156 #[.string ⟨l.toArray⟩, .int .u8 (c.toNat : Int)] w fun e w' => e = .returned (.int .i64 (Lib.indexByte l c)) ∧ w' = w := by
 have := Tryz.strings_IndexByte ⟨l.toArray⟩ (c.toNat : Int) w;simpa using this
theorem signs_perm (c : UInt8) : Tr.signs.contains c = ([43, 45, 42, 47, 61, 60, 62, 44, 59, 58, 33, 124, 39, 63, 126, 64] : List UInt8).contains c := rfl
theorem delims_256 : ∀ n : Fin 256, Tr.delims.contains (UInt8.ofNat n.1) = ([40, 41, 91, 93, 123, 125, 60, 62, 47, 124, 46] : List UInt8).contains (UInt8.ofNat n.1) := by decide +kernel
theorem delims_perm (c : UInt8) : Tr.delims.contains c = ([40, 41, 91, 93, 123, 125, 60, 62, 47, 124, 46] : List UInt8).contains c := by
 have := delims_256 ⟨c.toNat, c.toNat_lt⟩;simpa using this
theorem symbol_any (s : ByteArray) (w : World) (hm : s.size ≤ 9223372036854775807) :
  Calls Tryz.prog 79 #[.string s] w fun e w' => e = .returned (.bool (Tr.symbol s.data.toList)) ∧ w' = w := by
 by_cases h1 : s.size = 1
 ·obtain ⟨c, rfl⟩ := str_one s h1
  clear h1 hm;have hsz : (ByteArray.size ⟨#[c]⟩ : Int) = 1 := rfl
  have hsp : Tr.symbol (ByteArray.data ⟨#[c]⟩).toList = (([c] : List UInt8).all Tr.letter || ([43, 45, 42, 47, 61, 60, 62, 44, 59, 58, 33, 124, 39, 63, 126, 64] : List UInt8).contains c) := by
   show (Tr.letter c || Tr.signs.contains c) = ((Tr.letter c && true) || _);rw [Bool.and_true, signs_perm]
  have HSP := hid hsp;clear hsp;go_enter Tryz.func79, Tryz.ntmps79;go_wp2_with fail
  refine Calls.mono (letters_any (⟨#[c]⟩ : ByteArray) _ (by first | assumption | exact (show 1 ≤ 9223372036854775807 by decide))) ?_;rintro _ _ ⟨rfl, rfl⟩;cases h1 : (([c] : List UInt8).all Tr.letter) with
  | false =>
   go_wp2_with fail
   refine Calls.mono (contains_one ([43, 45, 42, 47, 61, 60, 62, 44, 59, 58, 33, 124, 39, 63, 126, 64] : List UInt8) c _) ?_;rintro _ _ ⟨rfl, rfl⟩;cases h2 : (([43, 45, 42, 47, 61, 60, 62, 44, 59, 58, 33, 124, 39, 63, 126, 64] : List UInt8).contains c) with
   | false =>
    go_wp2_with fail
    go_ret;exact ⟨ret_bool' _ _ (by rw [HSP.out] <;> (simp only [*] <;> rfl)), rfl⟩
   | true =>
    go_wp2_with fail
    go_ret;exact ⟨ret_bool' _ _ (by rw [HSP.out] <;> (simp only [*] <;> rfl)), rfl⟩
  | true =>
   go_wp2_with fail
   go_ret;exact ⟨ret_bool' _ _ (by rw [HSP.out] <;> (simp only [*] <;> rfl)), rfl⟩
 ·have h1' : ((s.size : Int) == (1 : Int)) = false := by rw [beq_eq_false_iff_ne]; omega
  have hsp : Tr.symbol s.data.toList = (decide ((2 : Int) ≤ (s.size : Int)) && (decide ((s.size : Int) ≤ (16 : Int)) && (s.data.toList.all Tr.letter && ((!Tr.keywords.contains s.data.toList) && !Tr.accents.contains s.data.toList)))) := by
   have hl : s.data.toList.length = s.size := by simp
   have e1 : decide ((2 : Int) ≤ (s.size : Int)) = decide (2 ≤ s.data.toList.length) := by rw [hl, Bool.eq_iff_iff, decide_eq_true_iff, decide_eq_true_iff]; omega
   have e2 : decide ((s.size : Int) ≤ (16 : Int)) = decide (s.data.toList.length ≤ 16) := by rw [hl, Bool.eq_iff_iff, decide_eq_true_iff, decide_eq_true_iff]; omega
   rw [e1, e2];rw [← hl] at h1;generalize s.data.toList = l at *
   match l, h1 with
   | [], _ => rfl
   | [c], h1 => exact absurd rfl h1
   | a :: b :: l, _ =>
    show ((a :: b :: l).all Tr.letter && decide (2 ≤ (a :: b :: l).length) && decide ((a :: b :: l).length ≤ 16) && !Tr.keywords.contains (a :: b :: l) && !Tr.accents.contains (a :: b :: l)) = _;generalize (a :: b :: l).all Tr.letter = x1;generalize decide (2 ≤ (a :: b :: l).length) = x2;generalize decide ((a :: b :: l).length ≤ 16) = x3;generalize Tr.keywords.contains (a :: b :: l) = x4;generalize Tr.accents.contains (a :: b :: l) = x5;cases x1 <;> cases x2 <;> cases x3 <;> cases x4 <;> cases x5 <;> rfl
  have HSP := hid hsp;clear hsp h1;go_enter Tryz.func79, Tryz.ntmps79;cases h3 : decide ((2 : Int) ≤ (s.size : Int)) with
  | false =>
   have h3n : decide (2 ≤ s.size) = false := by have hx := h3; simp only [decide_eq_false_iff_not] at hx ⊢; omega
   go_wp2_with fail
   go_ret;exact ⟨ret_bool' _ _ (by rw [HSP.out] <;> (simp only [*] <;> rfl)), rfl⟩
  | true =>
   have h3n : decide (2 ≤ s.size) = true := by have hx := h3; simp only [decide_eq_true_eq] at hx ⊢; omega
   cases h4 : decide ((s.size : Int) ≤ (16 : Int)) with
   | false =>
    go_wp2_with fail
    go_ret;exact ⟨ret_bool' _ _ (by rw [HSP.out] <;> (simp only [*] <;> rfl)), rfl⟩
   | true =>
    go_wp2_with fail
    refine Calls.mono (letters_any s _ (by first | assumption | exact (show 1 ≤ 9223372036854775807 by decide))) ?_;rintro _ _ ⟨rfl, rfl⟩;cases h5 : (s.data.toList.all Tr.letter) with
    | false =>
     go_wp2_with fail
     go_ret;exact ⟨ret_bool' _ _ (by rw [HSP.out] <;> (simp only [*] <;> rfl)), rfl⟩
    | true =>
     go_wp2_with fail
     refine Calls.mono (keyword_any s _) ?_;rintro _ _ ⟨rfl, rfl⟩;cases h6 : (Tr.keywords.contains s.data.toList) with
     | false =>
      go_wp2_with fail
      refine Calls.mono (accent_any s _) ?_;rintro _ _ ⟨rfl, rfl⟩;cases h7 : (Tr.accents.contains s.data.toList) with
      | false =>
       go_wp2_with fail
       go_ret;exact ⟨ret_bool' _ _ (by rw [HSP.out] <;> (simp only [*] <;> rfl)), rfl⟩
      | true =>
       go_wp2_with fail
       go_ret;exact ⟨ret_bool' _ _ (by rw [HSP.out] <;> (simp only [*] <;> rfl)), rfl⟩
     | true =>
      go_wp2_with fail
      go_ret;exact ⟨ret_bool' _ _ (by rw [HSP.out] <;> (simp only [*] <;> rfl)), rfl⟩
theorem fence_any (s : ByteArray) (w : World) :
  Calls Tryz.prog 94 #[.string s] w fun e w' => e = .returned (.bool (Tr.fence s.data.toList)) ∧ w' = w := by
 by_cases h1 : s.size = 2
 ·obtain ⟨a, b, rfl⟩ := str_two s h1
  clear h1;have hsz : (ByteArray.size ⟨#[a, b]⟩ : Int) = 2 := rfl
  have hsp : Tr.fence (ByteArray.data ⟨#[a, b]⟩).toList = (decide ((0 : Int) ≤ (Lib.indexByte ([40, 41, 91, 93, 123, 125, 60, 62, 47, 124, 46] : List UInt8) a)) && decide ((0 : Int) ≤ (Lib.indexByte ([40, 41, 91, 93, 123, 125, 60, 62, 47, 124, 46] : List UInt8) b))) := by
   rw [idx_contains, idx_contains, ← delims_perm, ← delims_perm]
   first | done | rfl
  have HSP := hid hsp;clear hsp;go_enter Tryz.func94, Tryz.ntmps94;go_wp2_with fail
  refine Calls.mono (indexByte_byte ([40, 41, 91, 93, 123, 125, 60, 62, 47, 124, 46] : List UInt8) a _) ?_;rintro _ _ ⟨rfl, rfl⟩;cases h8 : decide ((0 : Int) ≤ (Lib.indexByte ([40, 41, 91, 93, 123, 125, 60, 62, 47, 124, 46] : List UInt8) a)) with
  | false =>
   go_wp2_with fail
   go_ret;exact ⟨ret_bool' _ _ (by rw [HSP.out] <;> (simp only [*] <;> rfl)), rfl⟩
  | true =>
   go_wp2_with fail
   refine Calls.mono (indexByte_byte ([40, 41, 91, 93, 123, 125, 60, 62, 47, 124, 46] : List UInt8) b _) ?_;rintro _ _ ⟨rfl, rfl⟩;cases h9 : decide ((0 : Int) ≤ (Lib.indexByte ([40, 41, 91, 93, 123, 125, 60, 62, 47, 124, 46] : List UInt8) b)) with
   | false =>
    go_wp2_with fail
    go_ret;exact ⟨ret_bool' _ _ (by rw [HSP.out] <;> (simp only [*] <;> rfl)), rfl⟩
   | true =>
    go_wp2_with fail
    go_ret;exact ⟨ret_bool' _ _ (by rw [HSP.out] <;> (simp only [*] <;> rfl)), rfl⟩
 ·have h1' : ((s.size : Int) == (2 : Int)) = false := by rw [beq_eq_false_iff_ne]; omega
  have hsp : Tr.fence s.data.toList = false := by
   have hl : s.data.toList.length = s.size := by simp
   rw [← hl] at h1;generalize s.data.toList = l at *
   match l, h1 with
   | [], _ => rfl
   | [_], _ => rfl
   | [_, _], h1 => exact absurd rfl h1
   | _ :: _ :: _ :: _, _ => rfl
  have HSP := hid hsp;clear hsp h1;go_enter Tryz.func94, Tryz.ntmps94;go_wp2_with fail
  go_ret;exact ⟨ret_bool' _ _ (by rw [HSP.out] <;> (simp only [*] <;> rfl)), rfl⟩
def cutP (l : List UInt8) : List UInt8 × List UInt8 × Bool :=
 if (0 : Int) ≤ Lib.indexByte l 46 then (l.take (Lib.indexByte l 46).toNat, l.drop ((Lib.indexByte l 46).toNat + 1), true) else (l, [], false)
theorem idx_lt (l : List UInt8) (c : UInt8) : Lib.indexByte l c < l.length := by
 induction l with
 | nil => show (-1 : Int) < 0; decide
 | cons b l ih =>
  rw [Lib.indexByte, List.length_cons];split
  ·omega
  ·split <;> omega
theorem str_ext (s : ByteArray) (l : List UInt8) (h : s.data.toList = l) : s = ⟨l.toArray⟩ := by
 apply ByteArray.ext
 apply Array.toList_inj.1
 rw [h]
theorem extract_take (s : ByteArray) (k : Nat) : s.extract 0 k = ⟨(s.data.toList.take k).toArray⟩ := by
 apply str_ext
 rw [Lib.extract_data];simp
theorem extract_drop (s : ByteArray) (k : Nat) : s.extract k s.size = ⟨(s.data.toList.drop k).toArray⟩ := by
 apply str_ext
 rw [Lib.extract_to_end]
theorem ret_t3 (a b a' b' : ByteArray) (c c' : Bool) (h1 : a = a') (h2 : b = b') (h3 : c = c') : Ending.returned (.tuple #[.string a, .string b, .bool c]) = .returned (.tuple #[.string a', .string b', .bool c']) := by rw [h1, h2, h3]
theorem cut_point (s : ByteArray) (w : World) (hm : s.size ≤ 9223372036854775807) :
  Calls Tryz.prog 194 #[.string s, .string ⟨#[46]⟩] w fun e w' => e = .returned (.tuple #[.string ⟨(cutP s.data.toList).1.toArray⟩, .string ⟨(cutP s.data.toList).2.1.toArray⟩, .bool (cutP s.data.toList).2.2]) ∧ ∃ n, w' = w.drewN n := by
 have hl : s.data.toList.length = s.size := by simp
 have hlt := idx_lt s.data.toList 46;have hc := hid (show cutP s.data.toList = _ from rfl);have HIX := hid (Tryz.stringslite_Index_one s 46);rw [hl] at hlt;clear hl;unfold cutP at hc ⊢;generalize hix : Lib.indexByte s.data.toList 46 = i at *;clear hix
 by_cases h0 : 0 ≤ i
 ·have d0 : decide ((0 : Int) ≤ i) = true := by simp; omega
  obtain ⟨k, rfl⟩ : ∃ k : Nat, i = k := ⟨i.toNat, by omega⟩;clear h0 hc;go_enter Tryz.func194, Tryz.ntmps194;go_wp2_with fail
  refine (HIX.out _).mono ?_;rintro _ _ ⟨rfl, rfl⟩;have d1 : (k : Int) ≤ (s.size : Int) := by omega
  have d2 : (k : Int) + 1 ≤ (s.size : Int) := by omega
  have d3 : k ≤ s.size := by omega
  have d4 : k + 1 ≤ s.size := by omega
  go_wp2_with fail
  go_quiet (fail)
  go_wp2_with fail
  go_ret3;refine ⟨ret_t3 _ _ _ _ _ _ ?_ ?_ ?_, _, rfl⟩
  ·exact extract_take s k
  ·exact extract_drop s (k + 1)
  ·rfl
 ·have d0 : decide ((0 : Int) ≤ i) = false := by simp; omega
  rw [if_neg h0];go_enter Tryz.func194, Tryz.ntmps194;go_wp2_with fail
  refine (HIX.out _).mono ?_;rintro _ _ ⟨rfl, rfl⟩;clear hc h0;go_wp2_with fail
  go_ret3;refine ⟨?_, 0, rfl⟩
  first | rfl | exact ret_t3 _ _ _ _ _ _ rfl rfl rfl
theorem cut_any (s : ByteArray) (w : World) (hm : s.size ≤ 9223372036854775807) :
  Calls Tryz.prog 154 #[.string s, .string ⟨#[46]⟩] w fun e w' => e = .returned (.tuple #[.string ⟨(cutP s.data.toList).1.toArray⟩, .string ⟨(cutP s.data.toList).2.1.toArray⟩, .bool (cutP s.data.toList).2.2]) ∧ Fresh w w' := by
 go_enter Tryz.func154, Tryz.ntmps154;go_wp2_with fail
 refine (cut_point s _ hm).mono ?_;rintro _ _ ⟨rfl, n, rfl⟩;go_wp2_with fail
 go_ret3;exact ⟨rfl, (Touch.refl _ _).drewN _⟩
def digitsNE (l : List UInt8) : Bool := l.all Tr.digit && !(l == [])
theorem digits_ne (l : List UInt8) (w : World) (hm : ByteArray.size ⟨l.toArray⟩ ≤ 9223372036854775807) :
  Calls Tryz.prog 155 #[.string ⟨l.toArray⟩] w fun e w' => e = .returned (.bool (digitsNE l)) ∧ w' = w := digits_any ⟨l.toArray⟩ w hm
theorem cutP_nil : cutP [] = ([], [], false) := rfl
theorem cutP_cons (b : UInt8) (l : List UInt8) : cutP (b :: l) = if b = 46 then ([], l, true) else (b :: (cutP l).1, (cutP l).2.1, (cutP l).2.2) := by
 unfold cutP;rw [Lib.indexByte]
 by_cases h : b = 46
 ·subst h; simp
 ·have h' : (b == 46) = false := by simpa using h
  rw [h', if_neg h];simp only [Bool.false_eq_true, if_false]
  have hlo : -1 ≤ Lib.indexByte l 46 := by
   induction l with
   | nil => show (-1 : Int) ≤ -1; decide
   | cons b l ih => rw [Lib.indexByte]; split <;> (try split) <;> omega
  by_cases h2 : Lib.indexByte l 46 = -1
  ·rw [h2]; simp
  ·have h3 : (Lib.indexByte l 46 == -1) = false := by simpa using h2
   rw [h3];simp only [Bool.false_eq_true, if_false];rw [if_pos (by omega), if_pos (by omega)];have e : (Lib.indexByte l 46 + 1).toNat = (Lib.indexByte l 46).toNat + 1 := by omega
   rw [e];simp
theorem digit_ne_point (b : UInt8) (h : Tr.digit b = true) : b ≠ 46 := by rintro rfl; revert h; decide
theorem cut_span (l : List UInt8) : (l.takeWhile (· ≠ 46) = (cutP l).1 ∧ l.dropWhile (· ≠ 46) = if (cutP l).2.2 then 46 :: (cutP l).2.1 else []) ∧ ((cutP l).2.2 = false → (cutP l).1 = l ∧ (cutP l).2.1 = []) := by
 induction l with
 | nil => exact ⟨⟨rfl, rfl⟩, fun _ => ⟨rfl, rfl⟩⟩
 | cons b l ih =>
  rw [cutP_cons];obtain ⟨h1, h2⟩ := ih
  by_cases h : b = 46
  ·subst h
   rw [if_pos rfl];exact ⟨⟨rfl, rfl⟩, fun h => by cases h⟩
  ·rw [if_neg h]
   refine ⟨⟨?_, ?_⟩, fun hx => ?_⟩
   ·rw [List.takeWhile_cons, if_pos (by simpa using h), h1.1]
   ·rw [List.dropWhile_cons, if_pos (by simpa using h), h1.2]
   ·obtain ⟨e1, e2⟩ := h2 hx
    exact ⟨by rw [e1], e2⟩
theorem isNum_cut (l : List UInt8) : Tr.isNum l = (decide (l.length ≤ 20) && (digitsNE (cutP l).1 && (!(cutP l).2.2 || digitsNE (cutP l).2.1))) := by
 obtain ⟨h1, h2⟩ := cut_span l;unfold Tr.isNum;rw [h1.1, h1.2]
 have hall : (cutP l).2.2 = true → l.all Tr.digit = false := by
  clear h1 h2
  induction l with
  | nil => intro h; cases h
  | cons b l ih =>
   rw [cutP_cons]
   by_cases h : b = 46
   ·subst h; intro _; rfl
   ·rw [if_neg h]
    intro hx;rw [List.all_cons, ih hx, Bool.and_false]
 have hne : (cutP l).2.2 = true → l ≠ [] := by rintro h rfl; cases h
 cases hc : (cutP l).2.2 with
 | false =>
  obtain ⟨e1, e2⟩ := h2 hc;rw [e1];unfold digitsNE;cases l with
  | nil => rfl
  | cons b l => simp
 | true =>
  rw [hall hc];unfold digitsNE;generalize (cutP l).1 = a;generalize (cutP l).2.1 = b;have := hne hc;cases a <;> cases b <;> simp [this, Bool.and_assoc]
theorem cutP_len (l : List UInt8) : (cutP l).1.length ≤ l.length ∧ (cutP l).2.1.length ≤ l.length := by
 unfold cutP;split
 ·simp only [List.length_take, List.length_drop]; omega
 ·simp
theorem numText_any (s : ByteArray) (w : World) (hm : s.size ≤ 9223372036854775807) :
  Calls Tryz.prog 91 #[.string s] w fun e w' => e = .returned (.bool (Tr.isNum s.data.toList)) ∧ Fresh w w' := by
 have hl : s.data.toList.length = s.size := by simp
 have hcl := cutP_len s.data.toList;rw [hl] at hcl;have hm1 : ByteArray.size ⟨(cutP s.data.toList).2.1.toArray⟩ ≤ 9223372036854775807 := by show (cutP s.data.toList).2.1.toArray.size ≤ _; simp; omega
 have hm2 : ByteArray.size ⟨(cutP s.data.toList).1.toArray⟩ ≤ 9223372036854775807 := by show (cutP s.data.toList).1.toArray.size ≤ _; simp; omega
 have hsp : Tr.isNum s.data.toList = (decide ((s.size : Int) ≤ (20 : Int)) && (digitsNE (cutP s.data.toList).1 && (!(cutP s.data.toList).2.2 || digitsNE (cutP s.data.toList).2.1))) := by
  rw [isNum_cut, hl]; congr 1; rw [Bool.eq_iff_iff, decide_eq_true_iff, decide_eq_true_iff]; omega
 have HSP := hid hsp;clear hsp hl hcl;go_enter Tryz.func91, Tryz.ntmps91;go_wp2_with fail
 refine Calls.mono (cut_any s _ hm) ?_;rintro _ w8 ⟨rfl, hfw8⟩;have HF8 := hid (show Fresh w w8 from preA hfw8);clear hfw8;cases h10 : decide ((s.size : Int) ≤ (20 : Int)) with
 | false =>
  go_wp2_with fail
  go_ret;exact ⟨ret_bool' _ _ (by rw [HSP.out] <;> (simp only [*] <;> rfl)), (frA HF8.out)⟩
 | true =>
  go_wp2_with fail
  refine Calls.mono (digits_ne (cutP s.data.toList).1 _ hm2) ?_;rintro _ _ ⟨rfl, rfl⟩;cases h11 : (digitsNE (cutP s.data.toList).1) with
  | false =>
   go_wp2_with fail
   go_ret;exact ⟨ret_bool' _ _ (by rw [HSP.out] <;> (simp only [*] <;> rfl)), (frA HF8.out)⟩
  | true =>
   cases h12 : (cutP s.data.toList).2.2 with
   | false =>
    go_wp2_with fail
    go_ret;exact ⟨ret_bool' _ _ (by rw [HSP.out] <;> (simp only [*] <;> rfl)), (frA HF8.out)⟩
   | true =>
    go_wp2_with fail
    refine Calls.mono (digits_ne (cutP s.data.toList).2.1 _ hm1) ?_;rintro _ _ ⟨rfl, rfl⟩;cases h13 : (digitsNE (cutP s.data.toList).2.1) with
    | false =>
     go_wp2_with fail
     go_ret;exact ⟨ret_bool' _ _ (by rw [HSP.out] <;> (simp only [*] <;> rfl)), (frA HF8.out)⟩
    | true =>
     go_wp2_with fail
     go_ret;exact ⟨ret_bool' _ _ (by rw [HSP.out] <;> (simp only [*] <;> rfl)), (frA HF8.out)⟩
def NodesAt (W : World) : List Tr.Nd → List Value → Prop
 | [], cs => cs = []
 | k :: ks, cs => ∃ sl ds, cs = .int .i64 k.kind :: .string ⟨k.text.toArray⟩ :: .int .i64 k.cols :: sl :: ds ∧ RepL W k.kids sl ∧ k.text.length ≤ maxLen ∧ NodesAt W ks ds
theorem NodesAt.length {W : World} : ∀ {ks : List Tr.Nd} {cs : List Value}, NodesAt W ks cs → cs.length = ks.length * 4
 | [], cs, h => by rw [show cs = [] from h]; rfl
 | k :: ks, cs, ⟨sl, ds, h, _, _, hd⟩ => by
  have := NodesAt.length hd;rw [h];simp only [List.length_cons];omega
theorem NodesAt.fresh {W W' : World} (hf : Fresh W W') : ∀ {ks : List Tr.Nd} {cs : List Value}, NodesAt W ks cs → NodesAt W' ks cs
 | [], _, h => h
 | _ :: _, _, ⟨sl, ds, h, hr, ht, hd⟩ => ⟨sl, ds, h, hr.fresh hf, ht, hd.fresh hf⟩
theorem NodesAt.append {W : World} : ∀ {ks ms : List Tr.Nd} {cs ds : List Value}, NodesAt W ks cs → NodesAt W ms ds → NodesAt W (ks ++ ms) (cs ++ ds)
 | [], _, cs, _, h, h' => by rw [show cs = [] from h]; exact h'
 | _ :: _, _, _, _, ⟨sl, es, h, hr, ht, hd⟩, h' => ⟨sl, es ++ _, by rw [h]; rfl, hr, ht, hd.append h'⟩
theorem RepL.oneCell {W : World} {ks : List Tr.Nd} {v : Value} (h : RepL W ks v) : v.oneCell' = true := by
 obtain ⟨A, cap, rfl⟩ := h.slice;rfl
theorem NodesAt.oneCell {W : World} : ∀ {ks : List Tr.Nd} {cs : List Value}, NodesAt W ks cs → ∀ u ∈ cs, u.oneCell' = true
 | [], cs, h, u, hu => by rw [show cs = [] from h] at hu; cases hu
 | _ :: _, _, ⟨sl, ds, h, hr, _, hd⟩, u, hu => by
  rw [h] at hu
  rcases List.mem_cons.1 hu with rfl | hu
  ·rfl
  ·rcases List.mem_cons.1 hu with rfl | hu
   ·rfl
   ·rcases List.mem_cons.1 hu with rfl | hu
    ·rfl
    ·rcases List.mem_cons.1 hu with rfl | hu
     ·exact hr.oneCell
     ·exact hd.oneCell u hu
theorem nodes_of {W : World} {g : Nat} : ∀ (ks : List Tr.Nd) (o : Nat) (sl : Nat → Value), (∀ i (hi : i < ks.length), ks[i].text.length ≤ maxLen) → (∀ i (hi : i < ks.length), W.cell? ⟨g, o + i * 4, none⟩ = some (.int .i64 ks[i].kind)) →
  (∀ i (hi : i < ks.length), W.cell? ⟨g, o + i * 4 + 1, none⟩ = some (.string ⟨ks[i].text.toArray⟩)) → (∀ i (hi : i < ks.length), W.cell? ⟨g, o + i * 4 + 2, none⟩ = some (.int .i64 ks[i].cols)) → (∀ i, i < ks.length → W.cell? ⟨g, o + i * 4 + 3, none⟩ = some (sl i)) →
  (∀ i (hi : i < ks.length), RepL W ks[i].kids (sl i)) → ∃ cs, NodesAt W ks cs ∧ ∀ j u, cs[j]? = some u → W.cell? ⟨g, o + j, none⟩ = some u
 | [], o, sl, _, _, _, _, _, _ => ⟨[], rfl, fun j u hu => by simp at hu⟩
 | k :: ks, o, sl, ht, h0, h1, h2, h3, hk => by
  have e : ∀ i, o + (i + 1) * 4 = o + 4 + i * 4 := fun i => by omega
  obtain ⟨cs, hc, hx⟩ := nodes_of ks (o + 4) (fun i => sl (i + 1)) (fun i hi => ht (i + 1) (by simpa using hi)) (fun i hi => by rw [← e]; exact h0 (i + 1) (by simpa using hi)) (fun i hi => by rw [← e]; exact h1 (i + 1) (by simpa using hi))
   (fun i hi => by rw [← e]; exact h2 (i + 1) (by simpa using hi)) (fun i hi => by rw [← e]; exact h3 (i + 1) (by simpa using hi)) (fun i hi => hk (i + 1) (by simpa using hi))
  refine ⟨_, ⟨sl 0, cs, rfl, hk 0 (by simp), ht 0 (by simp), hc⟩, fun j u hu => ?_⟩
  match j, hu with
  | 0, hu => have := h0 0 (by simp); simp at hu this; rw [← hu]; exact this
  | 1, hu => have := h1 0 (by simp); simp at hu this; rw [← hu]; exact this
  | 2, hu => have := h2 0 (by simp); simp at hu this; rw [← hu]; exact this
  | 3, hu => have := h3 0 (by simp); simp at hu this; rw [← hu]; exact this
  | j + 4, hu =>
   have := hx j u (by simpa using hu);rw [show o + (j + 4) = o + 4 + j by omega];exact this
theorem RepL.cells {W : World} {ks : List Tr.Nd} {A : Option Addr} {n cap : Nat} (h : RepL W ks (.slice A n cap)) :
  n = ks.length ∧ ∃ cs, NodesAt W ks cs ∧ (ks = [] ∨ ∃ g o, A = some ⟨g, o, none⟩ ∧ g < W.heap.size ∧ ∀ j u, cs[j]? = some u → W.cell? ⟨g, o + j, none⟩ = some u) := by
 generalize hv : Value.slice A n cap = v at h;cases h with
 | nil A' cap' => cases hv; exact ⟨rfl, [], rfl, .inl rfl⟩
 | row g o cap' _ sl hg hl ht h0 h1 h2 h3 hk =>
  cases hv;obtain ⟨cs, h1', h2'⟩ := nodes_of ks o sl ht h0 h1 h2 h3 hk;exact ⟨rfl, cs, h1', .inr ⟨g, o, rfl, hg, h2'⟩⟩
theorem NodesAt.get {W : World} : ∀ {ks : List Tr.Nd} {cs : List Value}, NodesAt W ks cs → ∀ i (hi : i < ks.length), ∃ sl, cs[i * 4]? = some (.int .i64 ks[i].kind) ∧ cs[i * 4 + 1]? = some (.string ⟨ks[i].text.toArray⟩) ∧ cs[i * 4 + 2]? = some (.int .i64 ks[i].cols) ∧ cs[i * 4 + 3]? = some sl ∧
  RepL W ks[i].kids sl ∧ ks[i].text.length ≤ maxLen
 | [], _, _, i, hi => by simp at hi
 | k :: ks, cs, ⟨sl, ds, h, hr, ht, hd⟩, i, hi => by
  subst h;cases i with
  | zero => exact ⟨sl, rfl, rfl, rfl, rfl, hr, ht⟩
  | succ i =>
   obtain ⟨s, g0, g1, g2, g3, g4, g5⟩ := hd.get i (by simpa using hi);refine ⟨s, ?_, ?_, ?_, ?_, g4, g5⟩
   ·rw [show (i + 1) * 4 = i * 4 + 4 by omega]; exact g0
   ·rw [show (i + 1) * 4 + 1 = i * 4 + 1 + 4 by omega]; exact g1
   ·rw [show (i + 1) * 4 + 2 = i * 4 + 2 + 4 by omega]; exact g2
   ·rw [show (i + 1) * 4 + 3 = i * 4 + 3 + 4 by omega]; exact g3
theorem NodesAt.rep {W : World} {ks : List Tr.Nd} {cs : List Value} {g cap : Nat} (h : NodesAt W ks cs) (hg : g < W.heap.size) (hl : ks.length ≤ maxLen) (hc : ∀ j u, cs[j]? = some u → W.cell? ⟨g, j, none⟩ = some u) : RepL W ks (.slice (some ⟨g, 0, none⟩) ks.length cap) := by
 refine RepL.row g 0 cap ks (fun i => (cs[i * 4 + 3]?).getD (.bool false)) hg hl ?_ ?_ ?_ ?_ ?_ ?_
 all_goals (intro i hi; obtain ⟨sl, g0, g1, g2, g3, g4, g5⟩ := h.get i hi)
 ·exact g5
 ·rw [Nat.zero_add]; exact hc _ _ g0
 ·rw [Nat.zero_add]; exact hc _ _ g1
 ·rw [Nat.zero_add]; exact hc _ _ g2
 ·rw [Nat.zero_add, g3]; exact hc _ _ g3
 ·rw [g3]; exact g4
theorem NodesAt.own {W : World} {ks : List Tr.Nd} {cs : List Value} {B e : Nat} {v : Value} (h : NodesAt W ks cs) (ho : W.ownsRow B e 4 v ks.length cs) : RepL W ks v := by
 rcases ho.2 with ⟨rfl, h0⟩ | ⟨g, cap, cur, rfl, hB, hb, h1, h2, _⟩
 ·rw [List.length_eq_zero_iff.1 h0]
  exact .nil _ _
 ·exact h.rep (ho.lt g rfl).2 (Nat.le_trans h1 h2) fun j u hu => by
   have := ho.cells (g := g) rfl j u hu;rw [Addr.add_mid, Nat.zero_add] at this;exact this
end Go.Proofs.YtnbeemkfmlfgfaaGreatDoor
