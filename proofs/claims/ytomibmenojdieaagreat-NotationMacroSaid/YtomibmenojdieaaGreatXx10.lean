/- Part 10 of 42 of a proof; its texts, joined: NdK, NdL, NdM. No condition. -/
import Derived.Test.YtomibmenojdieaaGreatXx8
import Derived.Test.YtomibmenojdieaaGreatXx9
set_option maxRecDepth 100000
set_option maxHeartbeats 2000000
namespace Go.Proofs.YtomibmenojdieaaGreat
open Go.RowKit
theorem letter_ge_256 : ∀ n : Fin 256, Tr.letter (UInt8.ofNat n.1) = ((decide ((97 : Int) ≤ (n.1 : Int)) && decide ((n.1 : Int) ≤ (122 : Int))) || (decide ((65 : Int) ≤ (n.1 : Int)) && decide ((n.1 : Int) ≤ (90 : Int)))) := by decide +kernel
theorem letter_ge (b : UInt8) : Tr.letter b = ((decide ((97 : Int) ≤ (b.toNat : Int)) && decide ((b.toNat : Int) ≤ (122 : Int))) || (decide ((65 : Int) ≤ (b.toNat : Int)) && decide ((b.toNat : Int) ≤ (90 : Int)))) := by
 have := letter_ge_256 ⟨b.toNat, b.toNat_lt⟩;simpa using this
theorem digit_ge_256 : ∀ n : Fin 256, Tr.digit (UInt8.ofNat n.1) = (decide ((48 : Int) ≤ (n.1 : Int)) && decide ((n.1 : Int) ≤ (57 : Int))) := by decide +kernel
theorem digit_ge (b : UInt8) : Tr.digit b = (decide ((48 : Int) ≤ (b.toNat : Int)) && decide ((b.toNat : Int) ≤ (57 : Int))) := by
 have := digit_ge_256 ⟨b.toNat, b.toNat_lt⟩;simpa using this
theorem letter_byte (b : UInt8) (w : World) :
  Calls Tryz.prog 94 #[.int .u8 (b.toNat : Int)] w fun e w' => e = .returned (.bool (Tr.letter b)) ∧ w' = w := by
 go_enter Tryz.func94, Tryz.ntmps94;cases h1 : decide ((97 : Int) ≤ (b.toNat : Int)) with
 | false =>
  have h1n : decide (97 ≤ b.toNat) = false := by have hx := h1; simp only [decide_eq_false_iff_not] at hx ⊢; omega
  cases h2 : decide ((65 : Int) ≤ (b.toNat : Int)) with
  | false =>
   have h2n : decide (65 ≤ b.toNat) = false := by have hx := h2; simp only [decide_eq_false_iff_not] at hx ⊢; omega
   go_wp2_with fail
   go_ret;exact ⟨ret_bool' _ _ (by rw [letter_ge]; simp only [*] <;> rfl), rfl⟩
  | true =>
   have h2n : decide (65 ≤ b.toNat) = true := by have hx := h2; simp only [decide_eq_true_eq] at hx ⊢; omega
   cases h3 : decide ((b.toNat : Int) ≤ (90 : Int)) with
   | false =>
    go_wp2_with fail
    go_ret;exact ⟨ret_bool' _ _ (by rw [letter_ge]; simp only [*] <;> rfl), rfl⟩
   | true =>
    go_wp2_with fail
    go_ret;exact ⟨ret_bool' _ _ (by rw [letter_ge]; simp only [*] <;> rfl), rfl⟩
 | true =>
  have h1n : decide (97 ≤ b.toNat) = true := by have hx := h1; simp only [decide_eq_true_eq] at hx ⊢; omega
  cases h4 : decide ((b.toNat : Int) ≤ (122 : Int)) with
  | false =>
   cases h5 : decide ((65 : Int) ≤ (b.toNat : Int)) with
   | false =>
    have h5n : decide (65 ≤ b.toNat) = false := by have hx := h5; simp only [decide_eq_false_iff_not] at hx ⊢; omega
    go_wp2_with fail
    go_ret;exact ⟨ret_bool' _ _ (by rw [letter_ge]; simp only [*] <;> rfl), rfl⟩
   | true =>
    have h5n : decide (65 ≤ b.toNat) = true := by have hx := h5; simp only [decide_eq_true_eq] at hx ⊢; omega
    cases h6 : decide ((b.toNat : Int) ≤ (90 : Int)) with
    | false =>
     go_wp2_with fail
     go_ret;exact ⟨ret_bool' _ _ (by rw [letter_ge]; simp only [*] <;> rfl), rfl⟩
    | true =>
     go_wp2_with fail
     go_ret;exact ⟨ret_bool' _ _ (by rw [letter_ge]; simp only [*] <;> rfl), rfl⟩
  | true =>
   go_wp2_with fail
   go_ret;exact ⟨ret_bool' _ _ (by rw [letter_ge]; simp only [*] <;> rfl), rfl⟩
theorem digit_byte (b : UInt8) (w : World) :
  Calls Tryz.prog 96 #[.int .u8 (b.toNat : Int)] w fun e w' => e = .returned (.bool (Tr.digit b)) ∧ w' = w := by
 go_enter Tryz.func96, Tryz.ntmps96;cases h7 : decide ((48 : Int) ≤ (b.toNat : Int)) with
 | false =>
  have h7n : decide (48 ≤ b.toNat) = false := by have hx := h7; simp only [decide_eq_false_iff_not] at hx ⊢; omega
  go_wp2_with fail
  go_ret;exact ⟨ret_bool' _ _ (by rw [digit_ge]; simp only [*] <;> rfl), rfl⟩
 | true =>
  have h7n : decide (48 ≤ b.toNat) = true := by have hx := h7; simp only [decide_eq_true_eq] at hx ⊢; omega
  cases h8 : decide ((b.toNat : Int) ≤ (57 : Int)) with
  | false =>
   go_wp2_with fail
   go_ret;exact ⟨ret_bool' _ _ (by rw [digit_ge]; simp only [*] <;> rfl), rfl⟩
  | true =>
   go_wp2_with fail
   go_ret;exact ⟨ret_bool' _ _ (by rw [digit_ge]; simp only [*] <;> rfl), rfl⟩
theorem printable_any (s : ByteArray) (w : World) (hm : s.size ≤ 9223372036854775807) :
  Calls Tryz.prog 77 #[.string s] w fun e w' => e = .returned (.bool (s.data.toList.all plainB)) ∧ w' = w := by
 go_enter Tryz.func77, Tryz.ntmps77;go_wp2_with fail
 go_loopw [3] (fun i wr => ∃ j : Nat, i = .int .i64 j ∧ j ≤ s.size ∧ Hid ((s.data.toList.take j).all plainB = true) ∧ wr = w) (fun i _ => s.size - (intOf i).toNat)
 case atStart => exact ⟨0, rfl, Nat.zero_le _, by simp [Hid], rfl⟩
 case round =>
  obtain ⟨j, rfl, hj, HA, rfl⟩ := hrel
  by_cases c1 : j < s.size
  ·have d1 : decide ((j : Int) < (s.size : Int)) = true := by simp; omega
   have d1' : (j : Int) < (s.size : Int) := by omega
   obtain ⟨b, hb⟩ : ∃ b, s[j]'c1 = b := ⟨_, rfl⟩;have hst := all_snoc' s.data.toList j (by simpa using c1) plainB;have hno := all_no s.data.toList j (by simpa using c1) plainB;have hbl : s.data.toList[j]'(by simpa using c1) = b := hb;rw [hbl] at hst hno;have HS := hid hst;have HN := hid hno;clear hst hno hbl;cases h9 : decide ((b.toNat : Int) < (32 : Int)) with
   | false =>
    cases h10 : decide ((126 : Int) < (b.toNat : Int)) with
    | false =>
     have h10n : decide (126 < b.toNat) = false := by have hx := h10; simp only [decide_eq_false_iff_not] at hx ⊢; omega
     go_wp2_with fail
     go_roundw
     case rel => exact ⟨j + 1, by go_num, c1, by unfold Hid; rw [HS.out, HA.out]; rw [plain_or]; simp_all, trivial⟩
     case measure => simp [intOf]; omega
    | true =>
     have h10n : decide (126 < b.toNat) = true := by have hx := h10; simp only [decide_eq_true_eq] at hx ⊢; omega
     go_wp2_with fail
     go_ret;exact ⟨by rw [HN.out (by rw [plain_or]; simp_all)]; rfl, rfl⟩
   | true =>
    go_wp2_with fail
    go_ret;exact ⟨by rw [HN.out (by rw [plain_or]; simp_all)]; rfl, rfl⟩
  ·have d1 : decide ((j : Int) < (s.size : Int)) = false := by simp; omega
   go_wp2_with fail
   go_ret;exact ⟨by rw [all_end s plainB j hj c1 HA.out]; rfl, rfl⟩
def notB (c b : UInt8) : Bool := !(b == c)
theorem notB_int (c b : UInt8) : notB c b = !((b.toNat : Int) == (c.toNat : Int)) := by
 unfold notB
 congr 1
 rw [Bool.eq_iff_iff, beq_iff_eq, beq_iff_eq];constructor
 ·rintro rfl; rfl
 ·intro h; exact UInt8.toNat_inj.1 (by omega)
theorem has_not (l : List UInt8) (c : UInt8) : l.contains c = !(l.all (notB c)) := by
 induction l with
 | nil => rfl
 | cons b l ih =>
  rw [List.contains_cons, List.all_cons, ih];unfold notB;rw [show (c == b) = (b == c) from by rw [Bool.eq_iff_iff, beq_iff_eq, beq_iff_eq]; exact eq_comm];cases b == c <;> simp
theorem has_any (s : ByteArray) (c : UInt8) (w : World) (hm : s.size ≤ 9223372036854775807) :
  Calls Tryz.prog 80 #[.string s, .int .u8 (c.toNat : Int)] w fun e w' => e = .returned (.bool (s.data.toList.contains c)) ∧ w' = w := by
 rw [has_not];go_enter Tryz.func80, Tryz.ntmps80;go_wp2_with fail
 go_loopw [5] (fun i wr => ∃ j : Nat, i = .int .i64 j ∧ j ≤ s.size ∧ Hid ((s.data.toList.take j).all (notB c) = true) ∧ wr = w) (fun i _ => s.size - (intOf i).toNat)
 case atStart => exact ⟨0, rfl, Nat.zero_le _, by simp [Hid], rfl⟩
 case round =>
  obtain ⟨j, rfl, hj, HA, rfl⟩ := hrel
  by_cases c1 : j < s.size
  ·have d1 : decide ((j : Int) < (s.size : Int)) = true := by simp; omega
   have d1' : (j : Int) < (s.size : Int) := by omega
   obtain ⟨b, hb⟩ : ∃ b, s[j]'c1 = b := ⟨_, rfl⟩;have hst := all_snoc' s.data.toList j (by simpa using c1) (notB c);have hno := all_no s.data.toList j (by simpa using c1) (notB c);have hbl : s.data.toList[j]'(by simpa using c1) = b := hb;rw [hbl] at hst hno;have HS := hid hst;have HN := hid hno;clear hst hno hbl;cases h11 : ((b.toNat : Int) == (c.toNat : Int)) with
   | false =>
    have h11m : ((b.toNat : Int) != (c.toNat : Int)) = true := by rw [bne, h11]; rfl
    go_wp2_with fail
    go_roundw
    case rel => exact ⟨j + 1, by go_num, c1, by unfold Hid; rw [HS.out, HA.out]; rw [notB_int]; simp only [*] <;> rfl, trivial⟩
    case measure => simp [intOf]; omega
   | true =>
    have h11m : ((b.toNat : Int) != (c.toNat : Int)) = false := by rw [bne, h11]; rfl
    go_wp2_with fail
    go_ret;exact ⟨by rw [HN.out (by rw [notB_int]; simp only [*] <;> rfl)]; rfl, rfl⟩
  ·have d1 : decide ((j : Int) < (s.size : Int)) = false := by simp; omega
   go_wp2_with fail
   go_ret;exact ⟨by rw [all_end s (notB c) j hj c1 HA.out]; rfl, rfl⟩
theorem character_byte (b : UInt8) (w : World) :
  Calls Tryz.prog 93 #[.int .u8 (b.toNat : Int)] w fun e w' => e = .returned (.bool (Tr.character b)) ∧ w' = w := by
 go_enter Tryz.func93, Tryz.ntmps93;go_wp2_with fail
 refine Calls.mono (letter_byte b _) ?_;rintro _ w1q ⟨rfl, hqw1⟩;replace hqw1 := hqw1.symm;subst hqw1;cases h1 : (Tr.letter b) with
 | false =>
  go_wp2_with fail
  refine Calls.mono (has_any ⟨(Tr.signs).toArray⟩ b _ (by decide)) ?_;rintro _ w2q ⟨rfl, hqw2⟩;replace hqw2 := hqw2.symm;subst hqw2;cases h2 : (Tr.signs.contains b) with
  | false =>
   go_wp2_with fail
   go_ret;exact ⟨ret_bool' _ _ (by unfold Tr.character; simp only [*] <;> rfl), rfl⟩
  | true =>
   go_wp2_with fail
   go_ret;exact ⟨ret_bool' _ _ (by unfold Tr.character; simp only [*] <;> rfl), rfl⟩
 | true =>
  go_wp2_with fail
  go_ret;exact ⟨ret_bool' _ _ (by unfold Tr.character; simp only [*] <;> rfl), rfl⟩
def strRow (l : List Tr.Bytes) : Array Value := (l.map fun s => Value.string ⟨s.toArray⟩).toArray
theorem strRow_get {l : List Tr.Bytes} {W : World} {g : Nat} (h : Blk W g 9 (strRow l)) (i : Nat) (hi : i < l.length) : W.cell? ⟨g, i, none⟩ = some (.string ⟨l[i].toArray⟩) := by
 rw [h.cell];simp [strRow, hi]
theorem keywords_any (w : World) : Calls Tryz.prog 95 #[] w fun e w' => e = .returned (.slice (some ⟨w.heap.size, 0, none⟩) 4 4) ∧ Fresh w w' ∧ Blk w' w.heap.size 9 (strRow Tr.keywords) := by
 go_enter Tryz.func95, Tryz.ntmps95;go_wp2_with fail
 go_ret;exact ⟨rfl, (Touch.refl _ _).alloc _, Blk.new _ _ _⟩
theorem accents_any (w : World) : Calls Tryz.prog 79 #[] w fun e w' => e = .returned (.slice (some ⟨w.heap.size, 0, none⟩) 6 6) ∧ Fresh w w' ∧ Blk w' w.heap.size 9 (strRow Tr.accents) := by
 go_enter Tryz.func79, Tryz.ntmps79;go_wp2_with fail
 go_ret;exact ⟨rfl, (Touch.refl _ _).alloc _, Blk.new _ _ _⟩
theorem contains_snoc (l : List Tr.Bytes) (x : Tr.Bytes) (j : Nat) (h : j < l.length) : (l.take (j + 1)).contains x = ((l.take j).contains x || (l[j] == x)) := by
 rw [List.take_succ_eq_append_getElem h];rw [Bool.eq_iff_iff];simp only [List.contains_iff_mem, List.mem_append, List.mem_singleton, Bool.or_eq_true, beq_iff_eq];rw [eq_comm (a := x)]
theorem contains_in (l : List Tr.Bytes) (x : Tr.Bytes) (j : Nat) (h : j < l.length) (e : (l[j] == x) = true) : l.contains x = true := by
 rw [List.contains_iff_mem];rw [beq_iff_eq] at e;exact e ▸ List.getElem_mem h
theorem in_any (l : List Tr.Bytes) (s : ByteArray) (g : Nat) (w : World) (h : Blk w g 9 (strRow l)) (hl : l.length ≤ 1000) :
  Calls Tryz.prog 78 #[.slice (some ⟨g, 0, none⟩) l.length l.length, .string s] w fun e w' => e = .returned (.bool (l.contains s.data.toList)) ∧ w' = w := by
 have HG := hid h;have hg := h.lt;clear h;go_enter Tryz.func78, Tryz.ntmps78;go_wp2_with fail
 go_loopw [5] (fun i wr => ∃ j : Nat, i = .int .i64 j ∧ j ≤ l.length ∧ Hid ((l.take j).contains s.data.toList = false) ∧ wr = w) (fun i _ => l.length - (intOf i).toNat)
 case atStart => exact ⟨0, rfl, Nat.zero_le _, by simp [Hid], rfl⟩
 case round =>
  obtain ⟨j, rfl, hj, HA, rfl⟩ := hrel
  by_cases c1 : j < l.length
  ·have d1 : decide ((j : Int) < (l.length : Int)) = true := dT (by omega)
   have d1n : decide (j < l.length) = true := dT (by omega);have d1' : (j : Int) < (l.length : Int) := by omega
   have q := strRow_get HG.out j c1;have HS := hid (contains_snoc l s.data.toList j c1);have HN := hid (contains_in l s.data.toList j c1);generalize l[j] = x at *;cases h1 : (x == s.data.toList) with
   | false =>
    have h1s : ((⟨x.toArray⟩ : ByteArray) == s) = false := by rw [str_eq']; exact h1
    have h1t : ((⟨x.toArray⟩ : ByteArray) != s) = true := by rw [bne, h1s]; rfl
    have h1v : (x == ByteArray.toList s) = false := by simp only [ByteArray.toList_eq]; exact h1
    go_wp2_with fail
    go_roundw
    case rel => exact ⟨j + 1, by go_num, c1, by unfold Hid; rw [HS.out, HA.out]; simp_all, trivial⟩
    case measure => simp [intOf]; omega
   | true =>
    have h1s : ((⟨x.toArray⟩ : ByteArray) == s) = true := by rw [str_eq']; exact h1
    have h1t : ((⟨x.toArray⟩ : ByteArray) != s) = false := by rw [bne, h1s]; rfl
    have h1v : (x == ByteArray.toList s) = true := by simp only [ByteArray.toList_eq]; exact h1
    go_wp2_with fail
    go_ret;exact ⟨by rw [HN.out (by assumption)]; rfl, rfl⟩
  ·have d1 : decide ((j : Int) < (l.length : Int)) = false := dF (by omega)
   have d1n : decide (j < l.length) = false := dF (by omega);obtain rfl : j = l.length := by omega
   go_wp2_with fail
   go_ret;exact ⟨by have := HA.out; rw [List.take_length] at this; rw [this]; rfl, rfl⟩
theorem symbol_len (s : Tr.Bytes) (h : s.length ≠ 1) : Tr.symbol s = (s.all Tr.letter && decide (2 ≤ s.length) && decide (s.length ≤ 16) && !Tr.keywords.contains s && !Tr.accents.contains s) := by
 unfold Tr.symbol
 match s, h with
 | [], _ => rfl
 | [c], h => exact absurd rfl h
 | a :: b :: l, _ => rfl
theorem rSymbol_any (s : ByteArray) (w : World) (hm : s.size ≤ 9223372036854775807) :
  Calls Tryz.prog 75 #[.string s] w fun e w' => e = .returned (.bool (Tr.symbol s.data.toList)) ∧ Fresh w w' := by
 by_cases h1 : s.size = 1
 ·obtain ⟨b, rfl⟩ := str_one s h1
  clear h1;go_enter Tryz.func75, Tryz.ntmps75;go_wp2_with fail
  refine Calls.mono (character_byte b _) ?_;rintro _ _ ⟨rfl, rfl⟩;go_wp2_with fail
  go_ret;exact ⟨rfl, Touch.refl _ _⟩
 ·have d1 : ((s.size : Int) == (1 : Int)) = false := by simp only [beq_eq_false_iff_ne]; omega
  have d1n : (s.size == 1) = false := by simp only [beq_eq_false_iff_ne]; omega
  have d1' : ¬ (s.size : Int) = 1 := by omega
  have HSY := hid (symbol_len s.data.toList (by simpa using h1));have hlen : s.data.toList.length = s.size := by simp
  clear h1;rw [hlen] at HSY;go_enter Tryz.func75, Tryz.ntmps75;go_wp2_with fail
  go_loopw [3] (fun i wr => ∃ j : Nat, i = .int .i64 j ∧ j ≤ s.size ∧ Hid ((s.data.toList.take j).all Tr.letter = true) ∧ wr = w) (fun i _ => s.size - (intOf i).toNat)
  case atStart => exact ⟨0, rfl, Nat.zero_le _, by simp [Hid], rfl⟩
  case round =>
   obtain ⟨j, rfl, hj, HA, rfl⟩ := hrel
   by_cases c1 : j < s.size
   ·have d1 : decide ((j : Int) < (s.size : Int)) = true := by simp; omega
    have d1' : (j : Int) < (s.size : Int) := by omega
    obtain ⟨b, hb⟩ : ∃ b, s[j]'c1 = b := ⟨_, rfl⟩;have hst := all_snoc' s.data.toList j (by simpa using c1) Tr.letter;have hno := all_no s.data.toList j (by simpa using c1) Tr.letter;have hbl : s.data.toList[j]'(by simpa using c1) = b := hb;rw [hbl] at hst hno;have HS := hid hst;have HN := hid hno;clear hst hno hbl;go_wp2_with fail
    refine Calls.mono (letter_byte b _) ?_;rintro _ w1q ⟨rfl, hqw1⟩;replace hqw1 := hqw1.symm;subst hqw1;cases h1 : (Tr.letter b) with
    | false =>
     go_wp2_with fail
     go_ret;exact ⟨ret_bool' _ _ (by rw [HSY.out]; first | (have hn := HN.out (by assumption); simp_all) | (have ha := all_end s Tr.letter j hj c1 HA.out; simp_all <;> omega)), (Touch.refl _ _)⟩
    | true =>
     go_wp2_with fail
     go_roundw
     case rel => exact ⟨j + 1, by go_num, c1, by unfold Hid; rw [HS.out, HA.out]; simp only [*] <;> rfl, trivial⟩
     case measure => simp [intOf]; omega
   ·have d1 : decide ((j : Int) < (s.size : Int)) = false := by simp; omega
    cases h2 : decide ((2 : Int) ≤ (s.size : Int)) with
    | false =>
     have h2n : decide (2 ≤ s.size) = false := by have hx := h2; simp only [decide_eq_false_iff_not] at hx ⊢; omega
     go_wp2_with fail
     go_ret;exact ⟨ret_bool' _ _ (by rw [HSY.out]; first | (have hn := HN.out (by assumption); simp_all) | (have ha := all_end s Tr.letter j hj c1 HA.out; simp_all <;> omega)), (Touch.refl _ _)⟩
    | true =>
     have h2n : decide (2 ≤ s.size) = true := by have hx := h2; simp only [decide_eq_true_eq] at hx ⊢; omega
     cases h3 : decide ((s.size : Int) ≤ (16 : Int)) with
     | false =>
      go_wp2_with fail
      go_ret;exact ⟨ret_bool' _ _ (by rw [HSY.out]; first | (have hn := HN.out (by assumption); simp_all) | (have ha := all_end s Tr.letter j hj c1 HA.out; simp_all <;> omega)), (Touch.refl _ _)⟩
     | true =>
      go_wp2_with fail
      refine Calls.mono (keywords_any _) ?_;rintro _ w2 ⟨rfl, hfw2, hkw2⟩;have HKW2 := hid hkw2;clear hkw2;have HF2 := hid (show Fresh wr w2 from preA hfw2);clear hfw2;go_wp2_with fail
      refine Calls.mono (in_any Tr.keywords s _ _ HKW2.out (by decide)) ?_;rintro _ w3q ⟨rfl, hqw3⟩;replace hqw3 := hqw3.symm;subst hqw3;cases h4 : (Tr.keywords.contains s.data.toList) with
      | false =>
       go_wp2_with fail
       refine Calls.mono (accents_any _) ?_;rintro _ w4 ⟨rfl, hfw4, hkw4⟩;have HKW4 := hid hkw4;clear hkw4;have HF4 := hid (show Fresh w2 w4 from preA hfw4);clear hfw4;go_wp2_with fail
       refine Calls.mono (in_any Tr.accents s _ _ HKW4.out (by decide)) ?_;rintro _ w5q ⟨rfl, hqw5⟩;replace hqw5 := hqw5.symm;subst hqw5;cases h5 : (Tr.accents.contains s.data.toList) with
       | false =>
        go_wp2_with fail
        go_ret;exact ⟨ret_bool' _ _ (by rw [HSY.out]; first | (have hn := HN.out (by assumption); simp_all) | (have ha := all_end s Tr.letter j hj c1 HA.out; simp_all <;> omega)), (HF2.out.trans HF4.out)⟩
       | true =>
        go_wp2_with fail
        go_ret;exact ⟨ret_bool' _ _ (by rw [HSY.out]; first | (have hn := HN.out (by assumption); simp_all) | (have ha := all_end s Tr.letter j hj c1 HA.out; simp_all <;> omega)), (HF2.out.trans HF4.out)⟩
      | true =>
       go_wp2_with fail
       go_ret;exact ⟨ret_bool' _ _ (by rw [HSY.out]; first | (have hn := HN.out (by assumption); simp_all) | (have ha := all_end s Tr.letter j hj c1 HA.out; simp_all <;> omega)), HF2.out⟩
def pd (b : UInt8) : Bool := b == 46 || Tr.digit b
def numF (s : List UInt8) : Bool := decide (0 < s.length) && (decide (s.length ≤ 20) && (s.all pd && (!(s.head? == some 46) && (!(s.getLast? == some 46) && decide (s.count 46 ≤ 1)))))
theorem pd_no (l : List UInt8) (h : ∀ b ∈ l, b ≠ 46) : l.all pd = l.all Tr.digit ∧ l.count 46 = 0 := by
 induction l with
 | nil => exact ⟨rfl, rfl⟩
 | cons b l ih =>
  obtain ⟨h1, h2⟩ := ih fun x hx => h x (by simp [hx])
  have hb := h b (by simp);refine ⟨?_, ?_⟩
  ·rw [List.all_cons, List.all_cons, h1]
   unfold pd;rw [show (b == 46) = false from by simpa using hb, Bool.false_or]
  ·rw [List.count_cons, h2, show (b == 46) = false from by simpa using hb]
   rfl
theorem pd_digit (l : List UInt8) (h : l.all Tr.digit = true) : ∀ b ∈ l, b ≠ 46 := fun b hb => digit_ne_point b (List.all_eq_true.1 h b hb)
theorem head_no (l : List UInt8) (h : ∀ b ∈ l, b ≠ 46) : (l.head? == some 46) = false := by
 rw [beq_eq_false_iff_ne];intro e;exact h 46 (List.mem_of_head? e) rfl
theorem last_no (l : List UInt8) (h : ∀ b ∈ l, b ≠ 46) : (l.getLast? == some 46) = false := by
 rw [beq_eq_false_iff_ne];intro e;exact h 46 (List.mem_of_getLast? e) rfl
theorem numF_isNum (s : List UInt8) : numF s = Tr.isNum s := by
 rw [isNum_cut];obtain ⟨⟨h1, h2⟩, h3⟩ := cut_span s;have hs : (s.takeWhile (· ≠ 46)) ++ (s.dropWhile (· ≠ 46)) = s := List.takeWhile_append_dropWhile
 have hno : ∀ b ∈ (cutP s).1, b ≠ 46 := by
  rw [← h1];intro b hb;have := List.all_eq_true.1 (List.all_takeWhile (p := fun b : UInt8 => decide (b ≠ 46)) (l := s)) b hb;simpa using this
 rw [h1, h2] at hs;clear h1 h2;generalize cutP s = c at *;obtain ⟨a, b, f⟩ := c;simp only at *;obtain ⟨e1, e2⟩ := pd_no a hno;cases f with
 | false =>
  simp only [Bool.false_eq_true, if_false, List.append_nil] at hs;subst hs;unfold numF digitsNE;rw [e1, e2, head_no a hno, last_no a hno];rw [Bool.eq_iff_iff];simp only [Bool.and_eq_true, decide_eq_true_eq, Bool.not_false, Bool.true_or, Bool.and_true, Nat.zero_le, decide_true, Bool.not_eq_true', beq_eq_false_iff_ne, List.length_pos_iff];constructor
  ·rintro ⟨g1, g2, g3⟩; exact ⟨g2, g3, g1⟩
  ·rintro ⟨g2, g3, g1⟩; exact ⟨g1, g2, g3⟩
 | true =>
  simp only [if_true] at hs;subst hs;unfold numF digitsNE;rw [Bool.eq_iff_iff];simp only [Bool.and_eq_true, decide_eq_true_eq, Bool.not_true, Bool.false_or, Bool.not_eq_true', beq_eq_false_iff_ne, List.all_append, List.all_cons, List.count_append, List.count_cons, e1, e2];have hp : pd 46 = true := by decide
  constructor
  ·rintro ⟨_, g2, ⟨g3, _, g4⟩, g5, g6, g7⟩
   have hc : b.count 46 = 0 := by simp at g7; omega
   have hb : ∀ x ∈ b, x ≠ 46 := fun x hx e => by
    have := List.count_pos_iff.2 (e ▸ hx);omega
   refine ⟨g2, ⟨g3, ?_⟩, (pd_no b hb).1 ▸ g4, ?_⟩
   ·rintro rfl; exact g5 rfl
   ·rintro rfl; exact g6 (by simp)
  ·rintro ⟨g2, ⟨g3, g4⟩, g5, g6⟩
   have hb := pd_digit b g5;obtain ⟨k1, k2⟩ := pd_no b hb;refine ⟨by simp only [List.length_append, List.length_cons]; omega, g2, ⟨g3, hp, by rw [k1]; exact g5⟩, ?_, ?_, by rw [k2]; simp⟩
   ·intro e
    cases a with
    | nil => exact g4 rfl
    | cons x a => simp at e; exact hno x (by simp) e
   ·intro e
    have hl : (a ++ 46 :: b).getLast? = b.getLast? := by
     cases b with
     | nil => exact absurd rfl g6
     | cons y b => 
      obtain ⟨z, hz⟩ : ∃ z, (y :: b).getLast? = some z := ⟨_, List.getLast?_eq_some_getLast (by simp)⟩;rw [List.getLast?_append, List.getLast?_cons_cons, hz]; rfl
    rw [hl] at e;exact hb 46 (List.mem_of_getLast? e) rfl
theorem byte_int (b c : UInt8) : (b == c) = ((b.toNat : Int) == (c.toNat : Int)) := by
 rw [Bool.eq_iff_iff, beq_iff_eq, beq_iff_eq];constructor
 ·rintro rfl; rfl
 ·intro h; exact UInt8.toNat_inj.1 (by omega)
def numAt (s : List UInt8) (j : Nat) : Bool := (s.take j).all pd && ((j == 0 || !(s.head? == some 46)) && (decide (j < s.length) || !(s.getLast? == some 46)))
theorem numAt_zero (s : List UInt8) (h : 0 < s.length) : numAt s 0 = true := by simp [numAt, h]
theorem last_at (s : List UInt8) (j : Nat) (h : j < s.length) (hl : ¬ j + 1 < s.length) : s.getLast? = some s[j] := by
 rw [List.getLast?_eq_getElem?, List.getElem?_eq_getElem (by omega)]
 congr 2
 omega
theorem numAt_point (s : List UInt8) (j : Nat) (h : j < s.length) (hb : s[j] = 46) (h1 : 0 < j) (h2 : (j : Int) < (s.length : Int) - 1) (hn : numAt s j = true) : numAt s (j + 1) = true ∧ (s.take (j + 1)).count 46 = (s.take j).count 46 + 1 := by
 unfold numAt at hn ⊢;rw [List.take_succ_eq_append_getElem h, hb];simp only [Bool.and_eq_true, Bool.or_eq_true, beq_iff_eq, Bool.not_eq_true', decide_eq_true_eq, List.all_append, List.count_append] at hn ⊢;obtain ⟨g1, g2, g3⟩ := hn;refine ⟨⟨⟨g1, by decide⟩, ?_, .inl (by omega)⟩, by simp⟩
 rcases g2 with g2 | g2
 ·omega
 ·exact .inr g2
theorem numAt_digit (s : List UInt8) (j : Nat) (h : j < s.length) (hb : Tr.digit s[j] = true) (hn : numAt s j = true) : numAt s (j + 1) = true ∧ (s.take (j + 1)).count 46 = (s.take j).count 46 := by
 have hne := digit_ne_point _ hb;unfold numAt at hn ⊢;rw [List.take_succ_eq_append_getElem h];simp only [Bool.and_eq_true, Bool.or_eq_true, beq_iff_eq, Bool.not_eq_true', decide_eq_true_eq, List.all_append, List.count_append, List.all_cons, List.all_nil, and_true] at hn ⊢;obtain ⟨g1, g2, g3⟩ := hn;refine ⟨⟨⟨g1, by simp [pd, hb]⟩, .inr ?_, ?_⟩, ?_⟩
 ·rcases g2 with g2 | g2
  ·subst g2
   rw [beq_eq_false_iff_ne];intro e;rw [List.head?_eq_getElem?, List.getElem?_eq_getElem h] at e;exact hne (by simpa using e)
  ·exact g2
 ·by_cases hl : j + 1 < s.length
  ·exact .inl hl
  ·refine .inr ?_
   rw [last_at s j h hl, beq_eq_false_iff_ne];intro e;exact hne (by simpa using e)
 ·rw [List.count_cons, show (s[j] == 46) = false from by simpa using hne]; simp
theorem numAt_no (s : List UInt8) (j : Nat) (h : j < s.length) (hd : Tr.digit s[j] = false) (hp : s[j] ≠ 46 ∨ j = 0 ∨ ¬ (j : Int) < (s.length : Int) - 1) : Tr.isNum s = false := by
 rw [← numF_isNum, ← Bool.not_eq_true];unfold numF;simp only [Bool.and_eq_true, decide_eq_true_eq, Bool.not_eq_true', beq_eq_false_iff_ne];rintro ⟨_, _, g1, g2, g3, _⟩;have hm := List.all_eq_true.1 g1 s[j] (List.getElem_mem h);unfold pd at hm;rw [hd, Bool.or_false, beq_iff_eq] at hm
 rcases hp with hp | hp | hp
 ·exact hp hm
 ·subst hp
  exact g2 (by rw [List.head?_eq_getElem?, List.getElem?_eq_getElem h, hm])
 ·exact g3 (by rw [last_at s j h (by omega), hm])
theorem numAt_end (s : List UInt8) (h : 0 < s.length → numAt s s.length = true) : Tr.isNum s = (decide (0 < s.length) && (decide (s.length ≤ 20) && decide (s.count 46 ≤ 1))) := by
 rw [← numF_isNum];unfold numF
 by_cases h0 : 0 < s.length
 ·have h1 := h h0
  unfold numAt at h1;rw [List.take_length] at h1;simp only [Bool.and_eq_true, Bool.or_eq_true, beq_iff_eq, decide_eq_true_eq, Nat.lt_irrefl, false_or, Nat.ne_of_gt h0] at h1;obtain ⟨g1, g2, g3⟩ := h1;rw [g1, g2, g3];simp
 ·simp [h0]
theorem rNumber_any (s : ByteArray) (w : World) (hm : s.size ≤ 9223372036854775807) :
  Calls Tryz.prog 76 #[.string s] w fun e w' => e = .returned (.bool (Tr.isNum s.data.toList)) ∧ w' = w := by
 have hlen : s.data.toList.length = s.size := by simp
 have HLEN := hid hlen;clear hlen;go_enter Tryz.func76, Tryz.ntmps76;go_wp2_with fail
 go_loopw [3, 4] (fun p i wr => ∃ j : Nat, p = .int .i64 ((s.data.toList.take j).count 46 : Nat) ∧ i = .int .i64 j ∧ j ≤ s.size ∧ Hid (0 < s.size → numAt s.data.toList j = true) ∧ wr = w) (fun _ i _ => s.size - (intOf i).toNat)
 case atStart => exact ⟨0, rfl, rfl, Nat.zero_le _, fun h => numAt_zero _ (by rw [HLEN.out]; exact h), rfl⟩
 case round =>
  obtain ⟨j, rfl, rfl, hj, HA, rfl⟩ := hrel
  by_cases c1 : j < s.size
  ·have d1 : decide ((j : Int) < (s.size : Int)) = true := dT (by omega)
   have d1n : decide (j < s.size) = true := dT (by omega);have d1' : (j : Int) < (s.size : Int) := by omega
   have c2 : j < s.data.toList.length := by rw [HLEN.out]; exact c1
   have hcm : (s.data.toList.take j).count 46 ≤ j := Nat.le_trans List.count_le_length (List.length_take_le _ _);have HP := hid (numAt_point s.data.toList j c2);have HD := hid (numAt_digit s.data.toList j c2);have HN := hid (numAt_no s.data.toList j c2);rw [HLEN.out] at HP HN;obtain ⟨n, hn⟩ : ∃ n, (s.data.toList.take j).count 46 = n := ⟨_, rfl⟩;rw [hn] at HP HD hcm ⊢;clear hn;obtain ⟨b, hb⟩ : ∃ b, s.data.toList[j]'c2 = b := ⟨_, rfl⟩;have hsb : s[j]'c1 = b := hb;rw [hb] at HP HD HN;clear hb c2;cases h1 : ((b.toNat : Int) == (46 : Int)) with
   | false =>
    have h1m : ((b.toNat : Int) != (46 : Int)) = true := by rw [bne, h1]; rfl
    go_wp2_with fail
    refine Calls.mono (digit_byte b _) ?_;rintro _ w1q ⟨rfl, hqw1⟩;replace hqw1 := hqw1.symm;subst hqw1;cases h2 : (Tr.digit b) with
    | false =>
     go_wp2_with fail
     go_ret;exact ⟨ret_bool' _ _ (by rw [HN.out (by assumption) (.inl (by rw [ne_eq, ← beq_iff_eq, byte_int]; simp_all))]), rfl⟩
    | true =>
     go_wp2_with fail
     go_roundw
     case rel =>
      have hz := HD.out (by assumption) (HA.out (by omega));exact ⟨j + 1, by rw [hz.2] <;> go_num, by go_num, c1, fun _ => hz.1, trivial⟩
     case measure => simp [intOf]; omega
   | true =>
    have h1m : ((b.toNat : Int) != (46 : Int)) = false := by rw [bne, h1]; rfl
    cases h3 : decide ((0 : Int) < (j : Int)) with
    | false =>
     have h3n : decide (0 < j) = false := by have hx := h3; simp only [decide_eq_false_iff_not] at hx ⊢; omega
     go_wp2_with fail
     refine Calls.mono (digit_byte b _) ?_;rintro _ w2q ⟨rfl, hqw2⟩;replace hqw2 := hqw2.symm;subst hqw2;cases h4 : (Tr.digit b) with
     | false =>
      go_wp2_with fail
      go_ret;exact ⟨ret_bool' _ _ (by rw [HN.out (by assumption) (.inr (.inl (by have := of_decide_eq_false (by assumption : decide ((0 : Int) < (j : Int)) = false); omega)))]), rfl⟩
     | true =>
      go_wp2_with fail
      go_roundw
      case rel =>
       have hz := HD.out (by assumption) (HA.out (by omega));exact ⟨j + 1, by rw [hz.2] <;> go_num, by go_num, c1, fun _ => hz.1, trivial⟩
      case measure => simp [intOf]; omega
    | true =>
     have h3n : decide (0 < j) = true := by have hx := h3; simp only [decide_eq_true_eq] at hx ⊢; omega
     cases h5 : decide ((j : Int) < ((s.size : Int) - (1 : Int))) with
     | false =>
      go_wp2_with fail
      refine Calls.mono (digit_byte b _) ?_;rintro _ w3q ⟨rfl, hqw3⟩;replace hqw3 := hqw3.symm;subst hqw3;cases h6 : (Tr.digit b) with
      | false =>
       go_wp2_with fail
       go_ret;exact ⟨ret_bool' _ _ (by rw [HN.out (by assumption) (.inr (.inr (by have := of_decide_eq_false (by assumption : decide ((j : Int) < (s.size : Int) - (1 : Int)) = false); omega)))]), rfl⟩
      | true =>
       go_wp2_with fail
       go_roundw
       case rel =>
        have hz := HD.out (by assumption) (HA.out (by omega));exact ⟨j + 1, by rw [hz.2] <;> go_num, by go_num, c1, fun _ => hz.1, trivial⟩
       case measure => simp [intOf]; omega
     | true =>
      go_wp2_with fail
      go_roundw
      case rel =>
       have hz := HP.out (by rw [← beq_iff_eq, byte_int]; assumption) (by have := of_decide_eq_true (by assumption : decide ((0 : Int) < (j : Int)) = true); omega) (of_decide_eq_true (by assumption)) (HA.out (by omega));exact ⟨j + 1, by rw [hz.2] <;> go_num, by go_num, c1, fun _ => hz.1, trivial⟩
      case measure => simp [intOf]; omega
  ·have d1 : decide ((j : Int) < (s.size : Int)) = false := dF (by omega)
   have d1n : decide (j < s.size) = false := dF (by omega);obtain rfl : j = s.size := by omega
   have htk : s.data.toList.take s.size = s.data.toList := List.take_of_length_le (by rw [HLEN.out]; exact Nat.le_refl _);have HE := hid (numAt_end s.data.toList (by rw [HLEN.out]; exact HA.out));rw [HLEN.out] at HE;rw [htk];obtain ⟨n, hn⟩ : ∃ n, s.data.toList.count 46 = n := ⟨_, rfl⟩;rw [hn] at HE ⊢;clear hn htk;cases h7 : decide ((0 : Int) < (s.size : Int)) with
   | false =>
    have h7n : decide (0 < s.size) = false := by have hx := h7; simp only [decide_eq_false_iff_not] at hx ⊢; omega
    go_wp2_with fail
    go_ret;exact ⟨ret_bool' _ _ (by rw [HE.out]; simp_all <;> omega), rfl⟩
   | true =>
    have h7n : decide (0 < s.size) = true := by have hx := h7; simp only [decide_eq_true_eq] at hx ⊢; omega
    cases h8 : decide ((s.size : Int) ≤ (20 : Int)) with
    | false =>
     go_wp2_with fail
     go_ret;exact ⟨ret_bool' _ _ (by rw [HE.out]; simp_all <;> omega), rfl⟩
    | true =>
     cases h9 : decide ((n : Int) ≤ (1 : Int)) with
     | false =>
      have h9n : decide (n ≤ 1) = false := by have hx := h9; simp only [decide_eq_false_iff_not] at hx ⊢; omega
      go_wp2_with fail
      go_ret;exact ⟨ret_bool' _ _ (by rw [HE.out]; simp_all <;> omega), rfl⟩
     | true =>
      have h9n : decide (n ≤ 1) = true := by have hx := h9; simp only [decide_eq_true_eq] at hx ⊢; omega
      go_wp2_with fail
      go_ret;exact ⟨ret_bool' _ _ (by rw [HE.out]; simp_all <;> omega), rfl⟩
end Go.Proofs.YtomibmenojdieaaGreat
