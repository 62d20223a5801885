/- Part 17 of 45 of a proof; its texts, joined: NdK, NdL. No condition. -/
import Derived.Test.YtgfhlfbcoimojaaGreatVb14
import Derived.Test.YtgfhlfbcoimojaaGreatVb16

/- The walks of the reference's predicates on bytes and texts. -/
namespace Go.Proofs.YtgfhlfbcoimojaaGreat
open Go.RowKit
theorem letter_ge_256 : ∀ n : Fin 256, Tr.letter (UInt8.ofNat n.1) = ((decide ((97 : Int) ≤ (n.1 : Int)) && decide ((n.1 : Int) ≤ (122 : Int))) || (decide ((65 : Int) ≤ (n.1 : Int)) && decide ((n.1 : Int) ≤ (90 : Int)))) := by decide +kernel
theorem letter_ge (b : UInt8) : Tr.letter b = ((decide ((97 : Int) ≤ (b.toNat : Int)) && decide ((b.toNat : Int) ≤ (122 : Int))) || (decide ((65 : Int) ≤ (b.toNat : Int)) && decide ((b.toNat : Int) ≤ (90 : Int)))) := by
 have := letter_ge_256 ⟨b.toNat, b.toNat_lt⟩
 simpa using this
theorem digit_ge_256 : ∀ n : Fin 256, Tr.digit (UInt8.ofNat n.1) = (decide ((48 : Int) ≤ (n.1 : Int)) && decide ((n.1 : Int) ≤ (57 : Int))) := by decide +kernel
theorem digit_ge (b : UInt8) : Tr.digit b = (decide ((48 : Int) ≤ (b.toNat : Int)) && decide ((b.toNat : Int) ≤ (57 : Int))) := by
 have := digit_ge_256 ⟨b.toNat, b.toNat_lt⟩
 simpa using this
theorem letter_byte (b : UInt8) (w : World) :
  Calls Tryz.prog 29 #[.int .u8 (b.toNat : Int)] w fun e w' => e = .returned (.bool (Tr.letter b)) ∧ w' = w := by
 go_enter Tryz.func29, Tryz.ntmps29
 cases h1 : decide ((97 : Int) ≤ (b.toNat : Int)) with
 | false =>
  have h1n : decide (97 ≤ b.toNat) = false := by have hx := h1; simp only [decide_eq_false_iff_not] at hx ⊢; omega
  cases h2 : decide ((65 : Int) ≤ (b.toNat : Int)) with
  | false =>
   have h2n : decide (65 ≤ b.toNat) = false := by have hx := h2; simp only [decide_eq_false_iff_not] at hx ⊢; omega
   go_wp2_with fail
   go_ret
   exact ⟨ret_bool' _ _ (by rw [letter_ge]; simp only [*] <;> rfl), rfl⟩
  | true =>
   have h2n : decide (65 ≤ b.toNat) = true := by have hx := h2; simp only [decide_eq_true_eq] at hx ⊢; omega
   cases h3 : decide ((b.toNat : Int) ≤ (90 : Int)) with
   | false =>
    go_wp2_with fail
    go_ret
    exact ⟨ret_bool' _ _ (by rw [letter_ge]; simp only [*] <;> rfl), rfl⟩
   | true =>
    go_wp2_with fail
    go_ret
    exact ⟨ret_bool' _ _ (by rw [letter_ge]; simp only [*] <;> rfl), rfl⟩
 | true =>
  have h1n : decide (97 ≤ b.toNat) = true := by have hx := h1; simp only [decide_eq_true_eq] at hx ⊢; omega
  cases h4 : decide ((b.toNat : Int) ≤ (122 : Int)) with
  | false =>
   cases h5 : decide ((65 : Int) ≤ (b.toNat : Int)) with
   | false =>
    have h5n : decide (65 ≤ b.toNat) = false := by have hx := h5; simp only [decide_eq_false_iff_not] at hx ⊢; omega
    go_wp2_with fail
    go_ret
    exact ⟨ret_bool' _ _ (by rw [letter_ge]; simp only [*] <;> rfl), rfl⟩
   | true =>
    have h5n : decide (65 ≤ b.toNat) = true := by have hx := h5; simp only [decide_eq_true_eq] at hx ⊢; omega
    cases h6 : decide ((b.toNat : Int) ≤ (90 : Int)) with
    | false =>
     go_wp2_with fail
     go_ret
     exact ⟨ret_bool' _ _ (by rw [letter_ge]; simp only [*] <;> rfl), rfl⟩
    | true =>
     go_wp2_with fail
     go_ret
     exact ⟨ret_bool' _ _ (by rw [letter_ge]; simp only [*] <;> rfl), rfl⟩
  | true =>
   go_wp2_with fail
   go_ret
   exact ⟨ret_bool' _ _ (by rw [letter_ge]; simp only [*] <;> rfl), rfl⟩
theorem digit_byte (b : UInt8) (w : World) :
  Calls Tryz.prog 54 #[.int .u8 (b.toNat : Int)] w fun e w' => e = .returned (.bool (Tr.digit b)) ∧ w' = w := by
 go_enter Tryz.func54, Tryz.ntmps54
 cases h7 : decide ((48 : Int) ≤ (b.toNat : Int)) with
 | false =>
  have h7n : decide (48 ≤ b.toNat) = false := by have hx := h7; simp only [decide_eq_false_iff_not] at hx ⊢; omega
  go_wp2_with fail
  go_ret
  exact ⟨ret_bool' _ _ (by rw [digit_ge]; simp only [*] <;> rfl), rfl⟩
 | true =>
  have h7n : decide (48 ≤ b.toNat) = true := by have hx := h7; simp only [decide_eq_true_eq] at hx ⊢; omega
  cases h8 : decide ((b.toNat : Int) ≤ (57 : Int)) with
  | false =>
   go_wp2_with fail
   go_ret
   exact ⟨ret_bool' _ _ (by rw [digit_ge]; simp only [*] <;> rfl), rfl⟩
  | true =>
   go_wp2_with fail
   go_ret
   exact ⟨ret_bool' _ _ (by rw [digit_ge]; simp only [*] <;> rfl), rfl⟩
set_option maxHeartbeats 400000 in
theorem printable_any (s : ByteArray) (w : World) (hm : s.size ≤ 9223372036854775807) :
  Calls Tryz.prog 128 #[.string s] w fun e w' => e = .returned (.bool (s.data.toList.all plainB)) ∧ w' = w := by
 go_enter Tryz.func128, Tryz.ntmps128
 go_wp2_with fail
 go_loopw [3] (fun i wr => ∃ j : Nat, i = .int .i64 j ∧ j ≤ s.size ∧ Hid ((s.data.toList.take j).all plainB = true) ∧ wr = w) (fun i _ => s.size - (intOf i).toNat)
 case atStart => exact ⟨0, rfl, Nat.zero_le _, by simp [Hid], rfl⟩
 case round =>
  obtain ⟨j, rfl, hj, HA, rfl⟩ := hrel
  by_cases c1 : j < s.size
  ·have d1 : decide ((j : Int) < (s.size : Int)) = true := by simp; omega
   have d1' : (j : Int) < (s.size : Int) := by omega
   obtain ⟨b, hb⟩ : ∃ b, s[j]'c1 = b := ⟨_, rfl⟩
   have hst := all_snoc' s.data.toList j (by simpa using c1) plainB
   have hno := all_no s.data.toList j (by simpa using c1) plainB
   have hbl : s.data.toList[j]'(by simpa using c1) = b := hb
   rw [hbl] at hst hno
   have HS := hid hst
   have HN := hid hno
   clear hst hno hbl
   cases h9 : decide ((b.toNat : Int) < (32 : Int)) with
   | false =>
    cases h10 : decide ((126 : Int) < (b.toNat : Int)) with
    | false =>
     have h10n : decide (126 < b.toNat) = false := by have hx := h10; simp only [decide_eq_false_iff_not] at hx ⊢; omega
     go_wp2_with fail
     go_roundw
     case rel => exact ⟨j + 1, by go_num, c1, by unfold Hid; rw [HS.out, HA.out]; rw [plain_or]; simp_all, trivial⟩
     case measure => simp [intOf]; omega
    | true =>
     have h10n : decide (126 < b.toNat) = true := by have hx := h10; simp only [decide_eq_true_eq] at hx ⊢; omega
     go_wp2_with fail
     go_ret
     exact ⟨by rw [HN.out (by rw [plain_or]; simp_all)]; rfl, rfl⟩
   | true =>
    go_wp2_with fail
    go_ret
    exact ⟨by rw [HN.out (by rw [plain_or]; simp_all)]; rfl, rfl⟩
  ·have d1 : decide ((j : Int) < (s.size : Int)) = false := by simp; omega
   go_wp2_with fail
   go_ret
   exact ⟨by rw [all_end s plainB j hj c1 HA.out]; rfl, rfl⟩
def notB (c b : UInt8) : Bool := !(b == c)
theorem notB_int (c b : UInt8) : notB c b = !((b.toNat : Int) == (c.toNat : Int)) := by
 unfold notB
 congr 1
 rw [Bool.eq_iff_iff, beq_iff_eq, beq_iff_eq]
 constructor
 ·rintro rfl; rfl
 ·intro h; exact UInt8.toNat_inj.1 (by omega)
theorem has_not (l : List UInt8) (c : UInt8) : l.contains c = !(l.all (notB c)) := by
 induction l with
 | nil => rfl
 | cons b l ih =>
  rw [List.contains_cons, List.all_cons, ih]
  unfold notB
  rw [show (c == b) = (b == c) from by rw [Bool.eq_iff_iff, beq_iff_eq, beq_iff_eq]; exact eq_comm]
  cases b == c <;> simp
set_option maxHeartbeats 400000 in
theorem has_any (s : ByteArray) (c : UInt8) (w : World) (hm : s.size ≤ 9223372036854775807) :
  Calls Tryz.prog 93 #[.string s, .int .u8 (c.toNat : Int)] w fun e w' => e = .returned (.bool (s.data.toList.contains c)) ∧ w' = w := by
 rw [has_not]
 go_enter Tryz.func93, Tryz.ntmps93
 go_wp2_with fail
 go_loopw [5] (fun i wr => ∃ j : Nat, i = .int .i64 j ∧ j ≤ s.size ∧ Hid ((s.data.toList.take j).all (notB c) = true) ∧ wr = w) (fun i _ => s.size - (intOf i).toNat)
 case atStart => exact ⟨0, rfl, Nat.zero_le _, by simp [Hid], rfl⟩
 case round =>
  obtain ⟨j, rfl, hj, HA, rfl⟩ := hrel
  by_cases c1 : j < s.size
  ·have d1 : decide ((j : Int) < (s.size : Int)) = true := by simp; omega
   have d1' : (j : Int) < (s.size : Int) := by omega
   obtain ⟨b, hb⟩ : ∃ b, s[j]'c1 = b := ⟨_, rfl⟩
   have hst := all_snoc' s.data.toList j (by simpa using c1) (notB c)
   have hno := all_no s.data.toList j (by simpa using c1) (notB c)
   have hbl : s.data.toList[j]'(by simpa using c1) = b := hb
   rw [hbl] at hst hno
   have HS := hid hst
   have HN := hid hno
   clear hst hno hbl
   cases h11 : ((b.toNat : Int) == (c.toNat : Int)) with
   | false =>
    have h11m : ((b.toNat : Int) != (c.toNat : Int)) = true := by rw [bne, h11]; rfl
    go_wp2_with fail
    go_roundw
    case rel => exact ⟨j + 1, by go_num, c1, by unfold Hid; rw [HS.out, HA.out]; rw [notB_int]; simp only [*] <;> rfl, trivial⟩
    case measure => simp [intOf]; omega
   | true =>
    have h11m : ((b.toNat : Int) != (c.toNat : Int)) = false := by rw [bne, h11]; rfl
    go_wp2_with fail
    go_ret
    exact ⟨by rw [HN.out (by rw [notB_int]; simp only [*] <;> rfl)]; rfl, rfl⟩
  ·have d1 : decide ((j : Int) < (s.size : Int)) = false := by simp; omega
   go_wp2_with fail
   go_ret
   exact ⟨by rw [all_end s (notB c) j hj c1 HA.out]; rfl, rfl⟩
end Go.Proofs.YtgfhlfbcoimojaaGreat

/- The walks of the reference's predicates on texts and lists. -/
namespace Go.Proofs.YtgfhlfbcoimojaaGreat
open Go.RowKit
theorem character_byte (b : UInt8) (w : World) :
  Calls Tryz.prog 60 #[.int .u8 (b.toNat : Int)] w fun e w' => e = .returned (.bool (Tr.character b)) ∧ w' = w := by
 go_enter Tryz.func60, Tryz.ntmps60
 go_wp2_with fail
 refine Calls.mono (letter_byte b _) ?_
 rintro _ w1q ⟨rfl, hqw1⟩
 replace hqw1 := hqw1.symm
 subst hqw1
 cases h1 : (Tr.letter b) with
 | false =>
  go_wp2_with fail
  refine Calls.mono (has_any ⟨(Tr.signs).toArray⟩ b _ (by decide)) ?_
  rintro _ w2q ⟨rfl, hqw2⟩
  replace hqw2 := hqw2.symm
  subst hqw2
  cases h2 : (Tr.signs.contains b) with
  | false =>
   go_wp2_with fail
   go_ret
   exact ⟨ret_bool' _ _ (by unfold Tr.character; simp only [*] <;> rfl), rfl⟩
  | true =>
   go_wp2_with fail
   go_ret
   exact ⟨ret_bool' _ _ (by unfold Tr.character; simp only [*] <;> rfl), rfl⟩
 | true =>
  go_wp2_with fail
  go_ret
  exact ⟨ret_bool' _ _ (by unfold Tr.character; simp only [*] <;> rfl), rfl⟩
def strRow (l : List Tr.Bytes) : Array Value := (l.map fun s => Value.string ⟨s.toArray⟩).toArray
theorem strRow_get {l : List Tr.Bytes} {W : World} {g : Nat} (h : Blk W g 9 (strRow l)) (i : Nat) (hi : i < l.length) : W.cell? ⟨g, i, none⟩ = some (.string ⟨l[i].toArray⟩) := by
 rw [h.cell]
 simp [strRow, hi]
theorem keywords_any (w : World) : Calls Tryz.prog 153 #[] w fun e w' => e = .returned (.slice (some ⟨w.heap.size, 0, none⟩) 4 4) ∧ Fresh w w' ∧ Blk w' w.heap.size 9 (strRow Tr.keywords) := by
 go_enter Tryz.func153, Tryz.ntmps153
 go_wp2_with fail
 go_ret
 exact ⟨rfl, (Touch.refl _ _).alloc _, Blk.new _ _ _⟩
theorem accents_any (w : World) : Calls Tryz.prog 130 #[] w fun e w' => e = .returned (.slice (some ⟨w.heap.size, 0, none⟩) 6 6) ∧ Fresh w w' ∧ Blk w' w.heap.size 9 (strRow Tr.accents) := by
 go_enter Tryz.func130, Tryz.ntmps130
 go_wp2_with fail
 go_ret
 exact ⟨rfl, (Touch.refl _ _).alloc _, Blk.new _ _ _⟩
theorem contains_snoc (l : List Tr.Bytes) (x : Tr.Bytes) (j : Nat) (h : j < l.length) : (l.take (j + 1)).contains x = ((l.take j).contains x || (l[j] == x)) := by
 rw [List.take_succ_eq_append_getElem h]
 rw [Bool.eq_iff_iff]
 simp only [List.contains_iff_mem, List.mem_append, List.mem_singleton, Bool.or_eq_true, beq_iff_eq]
 rw [eq_comm (a := x)]
theorem contains_in (l : List Tr.Bytes) (x : Tr.Bytes) (j : Nat) (h : j < l.length) (e : (l[j] == x) = true) : l.contains x = true := by
 rw [List.contains_iff_mem]
 rw [beq_iff_eq] at e
 exact e ▸ List.getElem_mem h
set_option maxHeartbeats 1000000 in
theorem in_any (l : List Tr.Bytes) (s : ByteArray) (g : Nat) (w : World) (h : Blk w g 9 (strRow l)) (hl : l.length ≤ 1000) :
  Calls Tryz.prog 129 #[.slice (some ⟨g, 0, none⟩) l.length l.length, .string s] w fun e w' => e = .returned (.bool (l.contains s.data.toList)) ∧ w' = w := by
 have HG := hid h
 have hg := h.lt
 clear h
 go_enter Tryz.func129, Tryz.ntmps129
 go_wp2_with fail
 go_loopw [5] (fun i wr => ∃ j : Nat, i = .int .i64 j ∧ j ≤ l.length ∧ Hid ((l.take j).contains s.data.toList = false) ∧ wr = w) (fun i _ => l.length - (intOf i).toNat)
 case atStart => exact ⟨0, rfl, Nat.zero_le _, by simp [Hid], rfl⟩
 case round =>
  obtain ⟨j, rfl, hj, HA, rfl⟩ := hrel
  by_cases c1 : j < l.length
  ·have d1 : decide ((j : Int) < (l.length : Int)) = true := by simp only [decide_eq_true_eq]; omega
   have d1n : decide (j < l.length) = true := by simp only [decide_eq_true_eq]; omega
   have d1' : (j : Int) < (l.length : Int) := by omega
   have q := strRow_get HG.out j c1
   have HS := hid (contains_snoc l s.data.toList j c1)
   have HN := hid (contains_in l s.data.toList j c1)
   generalize l[j] = x at *
   cases h1 : (x == s.data.toList) with
   | false =>
    have h1s : ((⟨x.toArray⟩ : ByteArray) == s) = false := by rw [str_eq']; exact h1
    have h1t : ((⟨x.toArray⟩ : ByteArray) != s) = true := by rw [bne, h1s]; rfl
    have h1v : (x == ByteArray.toList s) = false := by simp only [ByteArray.toList_eq]; exact h1
    go_wp2_with fail
    go_roundw
    case rel => exact ⟨j + 1, by go_num, c1, by unfold Hid; rw [HS.out, HA.out]; simp_all, trivial⟩
    case measure => simp [intOf]; omega
   | true =>
    have h1s : ((⟨x.toArray⟩ : ByteArray) == s) = true := by rw [str_eq']; exact h1
    have h1t : ((⟨x.toArray⟩ : ByteArray) != s) = false := by rw [bne, h1s]; rfl
    have h1v : (x == ByteArray.toList s) = true := by simp only [ByteArray.toList_eq]; exact h1
    go_wp2_with fail
    go_ret
    exact ⟨by rw [HN.out (by assumption)]; rfl, rfl⟩
  ·have d1 : decide ((j : Int) < (l.length : Int)) = false := by simp only [decide_eq_false_iff_not]; omega
   have d1n : decide (j < l.length) = false := by simp only [decide_eq_false_iff_not]; omega
   obtain rfl : j = l.length := by omega
   go_wp2_with fail
   go_ret
   exact ⟨by have := HA.out; rw [List.take_length] at this; rw [this]; rfl, rfl⟩
theorem symbol_len (s : Tr.Bytes) (h : s.length ≠ 1) : Tr.symbol s = (s.all Tr.letter && decide (2 ≤ s.length) && decide (s.length ≤ 16) && !Tr.keywords.contains s && !Tr.accents.contains s) := by
 unfold Tr.symbol
 match s, h with
 | [], _ => rfl
 | [c], h => exact absurd rfl h
 | a :: b :: l, _ => rfl
set_option maxHeartbeats 1000000 in
theorem rSymbol_any (s : ByteArray) (w : World) (hm : s.size ≤ 9223372036854775807) :
  Calls Tryz.prog 126 #[.string s] w fun e w' => e = .returned (.bool (Tr.symbol s.data.toList)) ∧ Fresh w w' := by
 by_cases h1 : s.size = 1
 ·obtain ⟨b, rfl⟩ := str_one s h1
  clear h1
  go_enter Tryz.func126, Tryz.ntmps126
  go_wp2_with fail
  refine Calls.mono (character_byte b _) ?_
  rintro _ _ ⟨rfl, rfl⟩
  go_wp2_with fail
  go_ret
  exact ⟨rfl, Touch.refl _ _⟩
 ·have d1 : ((s.size : Int) == (1 : Int)) = false := by simp only [beq_eq_false_iff_ne]; omega
  have d1n : (s.size == 1) = false := by simp only [beq_eq_false_iff_ne]; omega
  have d1' : ¬ (s.size : Int) = 1 := by omega
  have HSY := hid (symbol_len s.data.toList (by simpa using h1))
  have hlen : s.data.toList.length = s.size := by simp
  clear h1
  rw [hlen] at HSY
  go_enter Tryz.func126, Tryz.ntmps126
  go_wp2_with fail
  go_loopw [3] (fun i wr => ∃ j : Nat, i = .int .i64 j ∧ j ≤ s.size ∧ Hid ((s.data.toList.take j).all Tr.letter = true) ∧ wr = w) (fun i _ => s.size - (intOf i).toNat)
  case atStart => exact ⟨0, rfl, Nat.zero_le _, by simp [Hid], rfl⟩
  case round =>
   obtain ⟨j, rfl, hj, HA, rfl⟩ := hrel
   by_cases c1 : j < s.size
   ·have d1 : decide ((j : Int) < (s.size : Int)) = true := by simp; omega
    have d1' : (j : Int) < (s.size : Int) := by omega
    obtain ⟨b, hb⟩ : ∃ b, s[j]'c1 = b := ⟨_, rfl⟩
    have hst := all_snoc' s.data.toList j (by simpa using c1) Tr.letter
    have hno := all_no s.data.toList j (by simpa using c1) Tr.letter
    have hbl : s.data.toList[j]'(by simpa using c1) = b := hb
    rw [hbl] at hst hno
    have HS := hid hst
    have HN := hid hno
    clear hst hno hbl
    go_wp2_with fail
    refine Calls.mono (letter_byte b _) ?_
    rintro _ w1q ⟨rfl, hqw1⟩
    replace hqw1 := hqw1.symm
    subst hqw1
    cases h1 : (Tr.letter b) with
    | false =>
     go_wp2_with fail
     go_ret
     exact ⟨ret_bool' _ _ (by rw [HSY.out]; first | (have hn := HN.out (by assumption); simp_all) | (have ha := all_end s Tr.letter j hj c1 HA.out; simp_all <;> omega)), (Touch.refl _ _)⟩
    | true =>
     go_wp2_with fail
     go_roundw
     case rel => exact ⟨j + 1, by go_num, c1, by unfold Hid; rw [HS.out, HA.out]; simp only [*] <;> rfl, trivial⟩
     case measure => simp [intOf]; omega
   ·have d1 : decide ((j : Int) < (s.size : Int)) = false := by simp; omega
    cases h2 : decide ((2 : Int) ≤ (s.size : Int)) with
    | false =>
     have h2n : decide (2 ≤ s.size) = false := by have hx := h2; simp only [decide_eq_false_iff_not] at hx ⊢; omega
     go_wp2_with fail
     go_ret
     exact ⟨ret_bool' _ _ (by rw [HSY.out]; first | (have hn := HN.out (by assumption); simp_all) | (have ha := all_end s Tr.letter j hj c1 HA.out; simp_all <;> omega)), (Touch.refl _ _)⟩
    | true =>
     have h2n : decide (2 ≤ s.size) = true := by have hx := h2; simp only [decide_eq_true_eq] at hx ⊢; omega
     cases h3 : decide ((s.size : Int) ≤ (16 : Int)) with
     | false =>
      go_wp2_with fail
      go_ret
      exact ⟨ret_bool' _ _ (by rw [HSY.out]; first | (have hn := HN.out (by assumption); simp_all) | (have ha := all_end s Tr.letter j hj c1 HA.out; simp_all <;> omega)), (Touch.refl _ _)⟩
     | true =>
      go_wp2_with fail
      refine Calls.mono (keywords_any _) ?_
      rintro _ w2 ⟨rfl, hfw2, hkw2⟩
      have HKW2 := hid hkw2
      clear hkw2
      have HF2 := hid (show Fresh wr w2 from preA hfw2)
      clear hfw2
      go_wp2_with fail
      refine Calls.mono (in_any Tr.keywords s _ _ HKW2.out (by decide)) ?_
      rintro _ w3q ⟨rfl, hqw3⟩
      replace hqw3 := hqw3.symm
      subst hqw3
      cases h4 : (Tr.keywords.contains s.data.toList) with
      | false =>
       go_wp2_with fail
       refine Calls.mono (accents_any _) ?_
       rintro _ w4 ⟨rfl, hfw4, hkw4⟩
       have HKW4 := hid hkw4
       clear hkw4
       have HF4 := hid (show Fresh w2 w4 from preA hfw4)
       clear hfw4
       go_wp2_with fail
       refine Calls.mono (in_any Tr.accents s _ _ HKW4.out (by decide)) ?_
       rintro _ w5q ⟨rfl, hqw5⟩
       replace hqw5 := hqw5.symm
       subst hqw5
       cases h5 : (Tr.accents.contains s.data.toList) with
       | false =>
        go_wp2_with fail
        go_ret
        exact ⟨ret_bool' _ _ (by rw [HSY.out]; first | (have hn := HN.out (by assumption); simp_all) | (have ha := all_end s Tr.letter j hj c1 HA.out; simp_all <;> omega)), (HF2.out.trans HF4.out)⟩
       | true =>
        go_wp2_with fail
        go_ret
        exact ⟨ret_bool' _ _ (by rw [HSY.out]; first | (have hn := HN.out (by assumption); simp_all) | (have ha := all_end s Tr.letter j hj c1 HA.out; simp_all <;> omega)), (HF2.out.trans HF4.out)⟩
      | true =>
       go_wp2_with fail
       go_ret
       exact ⟨ret_bool' _ _ (by rw [HSY.out]; first | (have hn := HN.out (by assumption); simp_all) | (have ha := all_end s Tr.letter j hj c1 HA.out; simp_all <;> omega)), HF2.out⟩
end Go.Proofs.YtgfhlfbcoimojaaGreat
