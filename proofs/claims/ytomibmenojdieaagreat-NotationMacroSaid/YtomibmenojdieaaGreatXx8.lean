/- Part 8 of 42 of a proof; its texts, joined: NdD, NdE, NdF, NdG. No condition. -/
import Derived.Test.YtomibmenojdieaaGreatXx7
import Derived.Laws.Rows
set_option maxRecDepth 100000
set_option maxHeartbeats 2000000
namespace Go.Proofs.YtomibmenojdieaaGreat
open Go.RowKit
theorem idx_contains (l : List UInt8) (c : UInt8) : decide ((0 : Int) ≤ Lib.indexByte l c) = l.contains c := by
 induction l with
 | nil => rfl
 | cons b l ih =>
  rw [Lib.indexByte, List.contains_cons];cases h : b == c with
  | true =>
   have : b = c := by simpa using h
   subst this;simp
  | false =>
   have h2 : (c == b) = false := by
    rw [beq_eq_false_iff_ne] at h ⊢; exact fun e => h e.symm
   rw [h2, Bool.false_or, ← ih]
   have hlo : -1 ≤ Lib.indexByte l c := by
    clear ih
    induction l with
    | nil => show (-1 : Int) ≤ -1; decide
    | cons b l ih => rw [Lib.indexByte]; split <;> (try split) <;> omega
   cases h3 : Lib.indexByte l c == -1 with
   | true =>
    have : Lib.indexByte l c = -1 := by simpa using h3
    rw [this]; rfl
   | false =>
    have : Lib.indexByte l c ≠ -1 := by simpa using h3
    simp only [Bool.false_eq_true, if_false];rw [Bool.eq_iff_iff, decide_eq_true_iff, decide_eq_true_iff]; omega
theorem str_one (s : ByteArray) (h : s.size = 1) : ∃ c, s = ⟨#[c]⟩ := by
 obtain ⟨⟨l⟩⟩ := s
 match l, h with
 | [c], _ => exact ⟨c, rfl⟩
theorem str_two (s : ByteArray) (h : s.size = 2) : ∃ a b, s = ⟨#[a, b]⟩ := by
 obtain ⟨⟨l⟩⟩ := s
 match l, h with
 | [a, b], _ => exact ⟨a, b, rfl⟩
theorem contains_one (l : List UInt8) (c : UInt8) (w : World) :
  Calls Tryz.prog 60 #[.string ⟨l.toArray⟩, .string ⟨#[c]⟩] w fun e w' => e = .returned (.bool (l.contains c)) ∧ w' = w := by
 have := Tryz.strings_Contains_one ⟨l.toArray⟩ c w;rw [← idx_contains]; exact this
theorem indexByte_byte (l : List UInt8) (c : UInt8) (w : World) :
  Calls Tryz.prog 74 #[.string ⟨l.toArray⟩, .int .u8 (c.toNat : Int)] w fun e w' => e = .returned (.int .i64 (Lib.indexByte l c)) ∧ w' = w := by
 have := Tryz.strings_IndexByte ⟨l.toArray⟩ (c.toNat : Int) w;simpa using this
theorem signs_perm (c : UInt8) : Tr.signs.contains c = ([43, 45, 42, 47, 61, 60, 62, 44, 59, 58, 33, 124, 39, 63, 126, 64] : List UInt8).contains c := rfl
theorem delims_256 : ∀ n : Fin 256, Tr.delims.contains (UInt8.ofNat n.1) = ([40, 41, 91, 93, 123, 125, 60, 62, 47, 124, 46] : List UInt8).contains (UInt8.ofNat n.1) := by decide +kernel
theorem delims_perm (c : UInt8) : Tr.delims.contains c = ([40, 41, 91, 93, 123, 125, 60, 62, 47, 124, 46] : List UInt8).contains c := by
 have := delims_256 ⟨c.toNat, c.toNat_lt⟩;simpa using this
theorem symbol_any (s : ByteArray) (w : World) (hm : s.size ≤ 9223372036854775807) :
  Calls Tryz.prog 38 #[.string s] w fun e w' => e = .returned (.bool (Tr.symbol s.data.toList)) ∧ w' = w := by
 by_cases h1 : s.size = 1
 ·obtain ⟨c, rfl⟩ := str_one s h1
  clear h1 hm;have hsz : (ByteArray.size ⟨#[c]⟩ : Int) = 1 := rfl
  have hsp : Tr.symbol (ByteArray.data ⟨#[c]⟩).toList = (([c] : List UInt8).all Tr.letter || ([43, 45, 42, 47, 61, 60, 62, 44, 59, 58, 33, 124, 39, 63, 126, 64] : List UInt8).contains c) := by
   show (Tr.letter c || Tr.signs.contains c) = ((Tr.letter c && true) || _);rw [Bool.and_true, signs_perm]
  have HSP := hid hsp;clear hsp;go_enter Tryz.func38, Tryz.ntmps38;go_wp2_with fail
  refine Calls.mono (letters_any (⟨#[c]⟩ : ByteArray) _ (by first | assumption | exact (show 1 ≤ 9223372036854775807 by decide))) ?_;rintro _ _ ⟨rfl, rfl⟩;cases h1 : (([c] : List UInt8).all Tr.letter) with
  | false =>
   go_wp2_with fail
   refine Calls.mono (contains_one ([43, 45, 42, 47, 61, 60, 62, 44, 59, 58, 33, 124, 39, 63, 126, 64] : List UInt8) c _) ?_;rintro _ _ ⟨rfl, rfl⟩;cases h2 : (([43, 45, 42, 47, 61, 60, 62, 44, 59, 58, 33, 124, 39, 63, 126, 64] : List UInt8).contains c) with
   | false =>
    go_wp2_with fail
    go_ret;exact ⟨ret_bool' _ _ (by rw [HSP.out] <;> (simp only [*] <;> rfl)), rfl⟩
   | true =>
    go_wp2_with fail
    go_ret;exact ⟨ret_bool' _ _ (by rw [HSP.out] <;> (simp only [*] <;> rfl)), rfl⟩
  | true =>
   go_wp2_with fail
   go_ret;exact ⟨ret_bool' _ _ (by rw [HSP.out] <;> (simp only [*] <;> rfl)), rfl⟩
 ·have h1' : ((s.size : Int) == (1 : Int)) = false := by rw [beq_eq_false_iff_ne]; omega
  have hsp : Tr.symbol s.data.toList = (decide ((2 : Int) ≤ (s.size : Int)) && (decide ((s.size : Int) ≤ (16 : Int)) && (s.data.toList.all Tr.letter && ((!Tr.keywords.contains s.data.toList) && !Tr.accents.contains s.data.toList)))) := by
   have hl : s.data.toList.length = s.size := by simp
   have e1 : decide ((2 : Int) ≤ (s.size : Int)) = decide (2 ≤ s.data.toList.length) := by rw [hl, Bool.eq_iff_iff, decide_eq_true_iff, decide_eq_true_iff]; omega
   have e2 : decide ((s.size : Int) ≤ (16 : Int)) = decide (s.data.toList.length ≤ 16) := by rw [hl, Bool.eq_iff_iff, decide_eq_true_iff, decide_eq_true_iff]; omega
   rw [e1, e2];rw [← hl] at h1;generalize s.data.toList = l at *
   match l, h1 with
   | [], _ => rfl
   | [c], h1 => exact absurd rfl h1
   | a :: b :: l, _ =>
    show ((a :: b :: l).all Tr.letter && decide (2 ≤ (a :: b :: l).length) && decide ((a :: b :: l).length ≤ 16) && !Tr.keywords.contains (a :: b :: l) && !Tr.accents.contains (a :: b :: l)) = _;generalize (a :: b :: l).all Tr.letter = x1;generalize decide (2 ≤ (a :: b :: l).length) = x2;generalize decide ((a :: b :: l).length ≤ 16) = x3;generalize Tr.keywords.contains (a :: b :: l) = x4;generalize Tr.accents.contains (a :: b :: l) = x5;cases x1 <;> cases x2 <;> cases x3 <;> cases x4 <;> cases x5 <;> rfl
  have HSP := hid hsp;clear hsp h1;go_enter Tryz.func38, Tryz.ntmps38;cases h3 : decide ((2 : Int) ≤ (s.size : Int)) with
  | false =>
   have h3n : decide (2 ≤ s.size) = false := by have hx := h3; simp only [decide_eq_false_iff_not] at hx ⊢; omega
   go_wp2_with fail
   go_ret;exact ⟨ret_bool' _ _ (by rw [HSP.out] <;> (simp only [*] <;> rfl)), rfl⟩
  | true =>
   have h3n : decide (2 ≤ s.size) = true := by have hx := h3; simp only [decide_eq_true_eq] at hx ⊢; omega
   cases h4 : decide ((s.size : Int) ≤ (16 : Int)) with
   | false =>
    go_wp2_with fail
    go_ret;exact ⟨ret_bool' _ _ (by rw [HSP.out] <;> (simp only [*] <;> rfl)), rfl⟩
   | true =>
    go_wp2_with fail
    refine Calls.mono (letters_any s _ (by first | assumption | exact (show 1 ≤ 9223372036854775807 by decide))) ?_;rintro _ _ ⟨rfl, rfl⟩;cases h5 : (s.data.toList.all Tr.letter) with
    | false =>
     go_wp2_with fail
     go_ret;exact ⟨ret_bool' _ _ (by rw [HSP.out] <;> (simp only [*] <;> rfl)), rfl⟩
    | true =>
     go_wp2_with fail
     refine Calls.mono (keyword_any s _) ?_;rintro _ _ ⟨rfl, rfl⟩;cases h6 : (Tr.keywords.contains s.data.toList) with
     | false =>
      go_wp2_with fail
      refine Calls.mono (accent_any s _) ?_;rintro _ _ ⟨rfl, rfl⟩;cases h7 : (Tr.accents.contains s.data.toList) with
      | false =>
       go_wp2_with fail
       go_ret;exact ⟨ret_bool' _ _ (by rw [HSP.out] <;> (simp only [*] <;> rfl)), rfl⟩
      | true =>
       go_wp2_with fail
       go_ret;exact ⟨ret_bool' _ _ (by rw [HSP.out] <;> (simp only [*] <;> rfl)), rfl⟩
     | true =>
      go_wp2_with fail
      go_ret;exact ⟨ret_bool' _ _ (by rw [HSP.out] <;> (simp only [*] <;> rfl)), rfl⟩
theorem fence_any (s : ByteArray) (w : World) :
  Calls Tryz.prog 53 #[.string s] w fun e w' => e = .returned (.bool (Tr.fence s.data.toList)) ∧ w' = w := by
 by_cases h1 : s.size = 2
 ·obtain ⟨a, b, rfl⟩ := str_two s h1
  clear h1;have hsz : (ByteArray.size ⟨#[a, b]⟩ : Int) = 2 := rfl
  have hsp : Tr.fence (ByteArray.data ⟨#[a, b]⟩).toList = (decide ((0 : Int) ≤ (Lib.indexByte ([40, 41, 91, 93, 123, 125, 60, 62, 47, 124, 46] : List UInt8) a)) && decide ((0 : Int) ≤ (Lib.indexByte ([40, 41, 91, 93, 123, 125, 60, 62, 47, 124, 46] : List UInt8) b))) := by
   rw [idx_contains, idx_contains, ← delims_perm, ← delims_perm]
   first | done | rfl
  have HSP := hid hsp;clear hsp;go_enter Tryz.func53, Tryz.ntmps53;go_wp2_with fail
  refine Calls.mono (indexByte_byte ([40, 41, 91, 93, 123, 125, 60, 62, 47, 124, 46] : List UInt8) a _) ?_;rintro _ _ ⟨rfl, rfl⟩;cases h8 : decide ((0 : Int) ≤ (Lib.indexByte ([40, 41, 91, 93, 123, 125, 60, 62, 47, 124, 46] : List UInt8) a)) with
  | false =>
   go_wp2_with fail
   go_ret;exact ⟨ret_bool' _ _ (by rw [HSP.out] <;> (simp only [*] <;> rfl)), rfl⟩
  | true =>
   go_wp2_with fail
   refine Calls.mono (indexByte_byte ([40, 41, 91, 93, 123, 125, 60, 62, 47, 124, 46] : List UInt8) b _) ?_;rintro _ _ ⟨rfl, rfl⟩;cases h9 : decide ((0 : Int) ≤ (Lib.indexByte ([40, 41, 91, 93, 123, 125, 60, 62, 47, 124, 46] : List UInt8) b)) with
   | false =>
    go_wp2_with fail
    go_ret;exact ⟨ret_bool' _ _ (by rw [HSP.out] <;> (simp only [*] <;> rfl)), rfl⟩
   | true =>
    go_wp2_with fail
    go_ret;exact ⟨ret_bool' _ _ (by rw [HSP.out] <;> (simp only [*] <;> rfl)), rfl⟩
 ·have h1' : ((s.size : Int) == (2 : Int)) = false := by rw [beq_eq_false_iff_ne]; omega
  have hsp : Tr.fence s.data.toList = false := by
   have hl : s.data.toList.length = s.size := by simp
   rw [← hl] at h1;generalize s.data.toList = l at *
   match l, h1 with
   | [], _ => rfl
   | [_], _ => rfl
   | [_, _], h1 => exact absurd rfl h1
   | _ :: _ :: _ :: _, _ => rfl
  have HSP := hid hsp;clear hsp h1;go_enter Tryz.func53, Tryz.ntmps53;go_wp2_with fail
  go_ret;exact ⟨ret_bool' _ _ (by rw [HSP.out] <;> (simp only [*] <;> rfl)), rfl⟩
def cutP (l : List UInt8) : List UInt8 × List UInt8 × Bool :=
 if (0 : Int) ≤ Lib.indexByte l 46 then (l.take (Lib.indexByte l 46).toNat, l.drop ((Lib.indexByte l 46).toNat + 1), true) else (l, [], false)
theorem idx_lt (l : List UInt8) (c : UInt8) : Lib.indexByte l c < l.length := by
 induction l with
 | nil => show (-1 : Int) < 0; decide
 | cons b l ih =>
  rw [Lib.indexByte, List.length_cons];split
  ·omega
  ·split <;> omega
theorem str_ext (s : ByteArray) (l : List UInt8) (h : s.data.toList = l) : s = ⟨l.toArray⟩ := by
 apply ByteArray.ext
 apply Array.toList_inj.1
 rw [h]
theorem extract_take (s : ByteArray) (k : Nat) : s.extract 0 k = ⟨(s.data.toList.take k).toArray⟩ := by
 apply str_ext
 rw [Lib.extract_data];simp
theorem extract_drop (s : ByteArray) (k : Nat) : s.extract k s.size = ⟨(s.data.toList.drop k).toArray⟩ := by
 apply str_ext
 rw [Lib.extract_to_end]
theorem ret_t3 (a b a' b' : ByteArray) (c c' : Bool) (h1 : a = a') (h2 : b = b') (h3 : c = c') : Ending.returned (.tuple #[.string a, .string b, .bool c]) = .returned (.tuple #[.string a', .string b', .bool c']) := by rw [h1, h2, h3]
theorem cut_point (s : ByteArray) (w : World) (hm : s.size ≤ 9223372036854775807) :
  Calls Tryz.prog 91 #[.string s, .string ⟨#[46]⟩] w fun e w' => e = .returned (.tuple #[.string ⟨(cutP s.data.toList).1.toArray⟩, .string ⟨(cutP s.data.toList).2.1.toArray⟩, .bool (cutP s.data.toList).2.2]) ∧ ∃ n, w' = w.drewN n := by
 have hl : s.data.toList.length = s.size := by simp
 have hlt := idx_lt s.data.toList 46;have hc := hid (show cutP s.data.toList = _ from rfl);have HIX := hid (Tryz.stringslite_Index_one s 46);rw [hl] at hlt;clear hl;unfold cutP at hc ⊢;generalize hix : Lib.indexByte s.data.toList 46 = i at *;clear hix
 by_cases h0 : 0 ≤ i
 ·have d0 : decide ((0 : Int) ≤ i) = true := by simp; omega
  obtain ⟨k, rfl⟩ : ∃ k : Nat, i = k := ⟨i.toNat, by omega⟩;clear h0 hc;go_enter Tryz.func91, Tryz.ntmps91;go_wp2_with fail
  refine (HIX.out _).mono ?_;rintro _ _ ⟨rfl, rfl⟩;have d1 : (k : Int) ≤ (s.size : Int) := by omega
  have d2 : (k : Int) + 1 ≤ (s.size : Int) := by omega
  have d3 : k ≤ s.size := by omega
  have d4 : k + 1 ≤ s.size := by omega
  go_wp2_with fail
  go_quiet (fail)
  go_wp2_with fail
  go_ret3;refine ⟨ret_t3 _ _ _ _ _ _ ?_ ?_ ?_, _, rfl⟩
  ·exact extract_take s k
  ·exact extract_drop s (k + 1)
  ·rfl
 ·have d0 : decide ((0 : Int) ≤ i) = false := by simp; omega
  rw [if_neg h0];go_enter Tryz.func91, Tryz.ntmps91;go_wp2_with fail
  refine (HIX.out _).mono ?_;rintro _ _ ⟨rfl, rfl⟩;clear hc h0;go_wp2_with fail
  go_ret3;refine ⟨?_, 0, rfl⟩
  first | rfl | exact ret_t3 _ _ _ _ _ _ rfl rfl rfl
theorem cut_any (s : ByteArray) (w : World) (hm : s.size ≤ 9223372036854775807) :
  Calls Tryz.prog 72 #[.string s, .string ⟨#[46]⟩] w fun e w' => e = .returned (.tuple #[.string ⟨(cutP s.data.toList).1.toArray⟩, .string ⟨(cutP s.data.toList).2.1.toArray⟩, .bool (cutP s.data.toList).2.2]) ∧ Fresh w w' := by
 go_enter Tryz.func72, Tryz.ntmps72;go_wp2_with fail
 refine (cut_point s _ hm).mono ?_;rintro _ _ ⟨rfl, n, rfl⟩;go_wp2_with fail
 go_ret3;exact ⟨rfl, (Touch.refl _ _).drewN _⟩
def digitsNE (l : List UInt8) : Bool := l.all Tr.digit && !(l == [])
theorem digits_ne (l : List UInt8) (w : World) (hm : ByteArray.size ⟨l.toArray⟩ ≤ 9223372036854775807) :
  Calls Tryz.prog 73 #[.string ⟨l.toArray⟩] w fun e w' => e = .returned (.bool (digitsNE l)) ∧ w' = w := digits_any ⟨l.toArray⟩ w hm
theorem cutP_cons (b : UInt8) (l : List UInt8) : cutP (b :: l) = if b = 46 then ([], l, true) else (b :: (cutP l).1, (cutP l).2.1, (cutP l).2.2) := by
 unfold cutP;rw [Lib.indexByte]
 by_cases h : b = 46
 ·subst h; simp
 ·have h' : (b == 46) = false := by simpa using h
  rw [h', if_neg h];simp only [Bool.false_eq_true, if_false]
  have hlo : -1 ≤ Lib.indexByte l 46 := by
   induction l with
   | nil => show (-1 : Int) ≤ -1; decide
   | cons b l ih => rw [Lib.indexByte]; split <;> (try split) <;> omega
  by_cases h2 : Lib.indexByte l 46 = -1
  ·rw [h2]; simp
  ·have h3 : (Lib.indexByte l 46 == -1) = false := by simpa using h2
   rw [h3];simp only [Bool.false_eq_true, if_false];rw [if_pos (by omega), if_pos (by omega)];have e : (Lib.indexByte l 46 + 1).toNat = (Lib.indexByte l 46).toNat + 1 := by omega
   rw [e];simp
theorem digit_ne_point (b : UInt8) (h : Tr.digit b = true) : b ≠ 46 := by rintro rfl; revert h; decide
theorem cut_span (l : List UInt8) : (l.takeWhile (· ≠ 46) = (cutP l).1 ∧ l.dropWhile (· ≠ 46) = if (cutP l).2.2 then 46 :: (cutP l).2.1 else []) ∧ ((cutP l).2.2 = false → (cutP l).1 = l ∧ (cutP l).2.1 = []) := by
 induction l with
 | nil => exact ⟨⟨rfl, rfl⟩, fun _ => ⟨rfl, rfl⟩⟩
 | cons b l ih =>
  rw [cutP_cons];obtain ⟨h1, h2⟩ := ih
  by_cases h : b = 46
  ·subst h
   rw [if_pos rfl];exact ⟨⟨rfl, rfl⟩, fun h => by cases h⟩
  ·rw [if_neg h]
   refine ⟨⟨?_, ?_⟩, fun hx => ?_⟩
   ·rw [List.takeWhile_cons, if_pos (by simpa using h), h1.1]
   ·rw [List.dropWhile_cons, if_pos (by simpa using h), h1.2]
   ·obtain ⟨e1, e2⟩ := h2 hx
    exact ⟨by rw [e1], e2⟩
theorem isNum_cut (l : List UInt8) : Tr.isNum l = (decide (l.length ≤ 20) && (digitsNE (cutP l).1 && (!(cutP l).2.2 || digitsNE (cutP l).2.1))) := by
 obtain ⟨h1, h2⟩ := cut_span l;unfold Tr.isNum;rw [h1.1, h1.2]
 have hall : (cutP l).2.2 = true → l.all Tr.digit = false := by
  clear h1 h2
  induction l with
  | nil => intro h; cases h
  | cons b l ih =>
   rw [cutP_cons]
   by_cases h : b = 46
   ·subst h; intro _; rfl
   ·rw [if_neg h]
    intro hx;rw [List.all_cons, ih hx, Bool.and_false]
 have hne : (cutP l).2.2 = true → l ≠ [] := by rintro h rfl; cases h
 cases hc : (cutP l).2.2 with
 | false =>
  obtain ⟨e1, e2⟩ := h2 hc;rw [e1];unfold digitsNE;cases l with
  | nil => rfl
  | cons b l => simp
 | true =>
  rw [hall hc];unfold digitsNE;generalize (cutP l).1 = a;generalize (cutP l).2.1 = b;have := hne hc;cases a <;> cases b <;> simp [this, Bool.and_assoc]
theorem cutP_len (l : List UInt8) : (cutP l).1.length ≤ l.length ∧ (cutP l).2.1.length ≤ l.length := by
 unfold cutP;split
 ·simp only [List.length_take, List.length_drop]; omega
 ·simp
theorem numText_any (s : ByteArray) (w : World) (hm : s.size ≤ 9223372036854775807) :
  Calls Tryz.prog 50 #[.string s] w fun e w' => e = .returned (.bool (Tr.isNum s.data.toList)) ∧ Fresh w w' := by
 have hl : s.data.toList.length = s.size := by simp
 have hcl := cutP_len s.data.toList;rw [hl] at hcl;have hm1 : ByteArray.size ⟨(cutP s.data.toList).2.1.toArray⟩ ≤ 9223372036854775807 := by show (cutP s.data.toList).2.1.toArray.size ≤ _; simp; omega
 have hm2 : ByteArray.size ⟨(cutP s.data.toList).1.toArray⟩ ≤ 9223372036854775807 := by show (cutP s.data.toList).1.toArray.size ≤ _; simp; omega
 have hsp : Tr.isNum s.data.toList = (decide ((s.size : Int) ≤ (20 : Int)) && (digitsNE (cutP s.data.toList).1 && (!(cutP s.data.toList).2.2 || digitsNE (cutP s.data.toList).2.1))) := by
  rw [isNum_cut, hl]; congr 1; rw [Bool.eq_iff_iff, decide_eq_true_iff, decide_eq_true_iff]; omega
 have HSP := hid hsp;clear hsp hl hcl;go_enter Tryz.func50, Tryz.ntmps50;go_wp2_with fail
 refine Calls.mono (cut_any s _ hm) ?_;rintro _ w8 ⟨rfl, hfw8⟩;have HF8 := hid (show Fresh w w8 from preA hfw8);clear hfw8;cases h10 : decide ((s.size : Int) ≤ (20 : Int)) with
 | false =>
  go_wp2_with fail
  go_ret;exact ⟨ret_bool' _ _ (by rw [HSP.out] <;> (simp only [*] <;> rfl)), (frA HF8.out)⟩
 | true =>
  go_wp2_with fail
  refine Calls.mono (digits_ne (cutP s.data.toList).1 _ hm2) ?_;rintro _ _ ⟨rfl, rfl⟩;cases h11 : (digitsNE (cutP s.data.toList).1) with
  | false =>
   go_wp2_with fail
   go_ret;exact ⟨ret_bool' _ _ (by rw [HSP.out] <;> (simp only [*] <;> rfl)), (frA HF8.out)⟩
  | true =>
   cases h12 : (cutP s.data.toList).2.2 with
   | false =>
    go_wp2_with fail
    go_ret;exact ⟨ret_bool' _ _ (by rw [HSP.out] <;> (simp only [*] <;> rfl)), (frA HF8.out)⟩
   | true =>
    go_wp2_with fail
    refine Calls.mono (digits_ne (cutP s.data.toList).2.1 _ hm1) ?_;rintro _ _ ⟨rfl, rfl⟩;cases h13 : (digitsNE (cutP s.data.toList).2.1) with
    | false =>
     go_wp2_with fail
     go_ret;exact ⟨ret_bool' _ _ (by rw [HSP.out] <;> (simp only [*] <;> rfl)), (frA HF8.out)⟩
    | true =>
     go_wp2_with fail
     go_ret;exact ⟨ret_bool' _ _ (by rw [HSP.out] <;> (simp only [*] <;> rfl)), (frA HF8.out)⟩
end Go.Proofs.YtomibmenojdieaaGreat
namespace Go.Proofs.YtomibmenojdieaaGreat
open Go.RowKit
attribute [local go_sem] Oper.semAt_some
def kindV1 : Value := .agg #[.string ⟨#[114, 111, 119]⟩, .int .i64 0, .func (.func 49) #[] #[]]
theorem built_kind1 : Tryz.prog.built 83 [(0, .string ⟨#[114, 111, 119]⟩), (1, .int .i64 0), (2, .func (.func 49) #[] #[])] = some #[.string ⟨#[114, 111, 119]⟩, .int .i64 0, .func (.func 49) #[] #[]] := by kernel_rfl
def kindV2 : Value := .agg #[.string ⟨#[115, 121, 109]⟩, .int .i64 0, .func (.func 38) #[] #[]]
theorem built_kind2 : Tryz.prog.built 83 [(0, .string ⟨#[115, 121, 109]⟩), (1, .int .i64 0), (2, .func (.func 38) #[] #[])] = some #[.string ⟨#[115, 121, 109]⟩, .int .i64 0, .func (.func 38) #[] #[]] := by kernel_rfl
def kindV3 : Value := .agg #[.string ⟨#[110, 117, 109]⟩, .int .i64 0, .func (.func 50) #[] #[]]
theorem built_kind3 : Tryz.prog.built 83 [(0, .string ⟨#[110, 117, 109]⟩), (1, .int .i64 0), (2, .func (.func 50) #[] #[])] = some #[.string ⟨#[110, 117, 109]⟩, .int .i64 0, .func (.func 50) #[] #[]] := by kernel_rfl
def kindV4 : Value := .agg #[.string ⟨#[116, 101, 120, 116]⟩, .int .i64 0, .func (.func 51) #[] #[]]
theorem built_kind4 : Tryz.prog.built 83 [(0, .string ⟨#[116, 101, 120, 116]⟩), (1, .int .i64 0), (2, .func (.func 51) #[] #[])] = some #[.string ⟨#[116, 101, 120, 116]⟩, .int .i64 0, .func (.func 51) #[] #[]] := by kernel_rfl
def kindV5 : Value := .agg #[.string ⟨#[102, 114, 97, 99]⟩, .int .i64 2, .func (.func 49) #[] #[]]
theorem built_kind5 : Tryz.prog.built 83 [(0, .string ⟨#[102, 114, 97, 99]⟩), (1, .int .i64 2), (2, .func (.func 49) #[] #[])] = some #[.string ⟨#[102, 114, 97, 99]⟩, .int .i64 2, .func (.func 49) #[] #[]] := by kernel_rfl
def kindV6 : Value := .agg #[.string ⟨#[114, 111, 111, 116]⟩, .int .i64 2, .func (.func 49) #[] #[]]
theorem built_kind6 : Tryz.prog.built 83 [(0, .string ⟨#[114, 111, 111, 116]⟩), (1, .int .i64 2), (2, .func (.func 49) #[] #[])] = some #[.string ⟨#[114, 111, 111, 116]⟩, .int .i64 2, .func (.func 49) #[] #[]] := by kernel_rfl
def kindV7 : Value := .agg #[.string ⟨#[115, 117, 98]⟩, .int .i64 2, .func (.func 49) #[] #[]]
theorem built_kind7 : Tryz.prog.built 83 [(0, .string ⟨#[115, 117, 98]⟩), (1, .int .i64 2), (2, .func (.func 49) #[] #[])] = some #[.string ⟨#[115, 117, 98]⟩, .int .i64 2, .func (.func 49) #[] #[]] := by kernel_rfl
def kindV8 : Value := .agg #[.string ⟨#[115, 117, 112]⟩, .int .i64 2, .func (.func 49) #[] #[]]
theorem built_kind8 : Tryz.prog.built 83 [(0, .string ⟨#[115, 117, 112]⟩), (1, .int .i64 2), (2, .func (.func 49) #[] #[])] = some #[.string ⟨#[115, 117, 112]⟩, .int .i64 2, .func (.func 49) #[] #[]] := by kernel_rfl
def kindV9 : Value := .agg #[.string ⟨#[98, 111, 116, 104]⟩, .int .i64 3, .func (.func 49) #[] #[]]
theorem built_kind9 : Tryz.prog.built 83 [(0, .string ⟨#[98, 111, 116, 104]⟩), (1, .int .i64 3), (2, .func (.func 49) #[] #[])] = some #[.string ⟨#[98, 111, 116, 104]⟩, .int .i64 3, .func (.func 49) #[] #[]] := by kernel_rfl
def kindV10 : Value := .agg #[.string ⟨#[97, 99, 99, 101, 110, 116]⟩, .int .i64 1, .func (.func 52) #[] #[]]
theorem built_kind10 : Tryz.prog.built 83 [(0, .string ⟨#[97, 99, 99, 101, 110, 116]⟩), (1, .int .i64 1), (2, .func (.func 52) #[] #[])] = some #[.string ⟨#[97, 99, 99, 101, 110, 116]⟩, .int .i64 1, .func (.func 52) #[] #[]] := by kernel_rfl
def kindV11 : Value := .agg #[.string ⟨#[102, 101, 110, 99, 101]⟩, .int .i64 1, .func (.func 53) #[] #[]]
theorem built_kind11 : Tryz.prog.built 83 [(0, .string ⟨#[102, 101, 110, 99, 101]⟩), (1, .int .i64 1), (2, .func (.func 53) #[] #[])] = some #[.string ⟨#[102, 101, 110, 99, 101]⟩, .int .i64 1, .func (.func 53) #[] #[]] := by kernel_rfl
def kindV12 : Value := .agg #[.string ⟨#[109, 97, 116, 114, 105, 120]⟩, .int .i64 0, .func (.func 49) #[] #[]]
theorem built_kind12 : Tryz.prog.built 83 [(0, .string ⟨#[109, 97, 116, 114, 105, 120]⟩), (1, .int .i64 0), (2, .func (.func 49) #[] #[])] = some #[.string ⟨#[109, 97, 116, 114, 105, 120]⟩, .int .i64 0, .func (.func 49) #[] #[]] := by kernel_rfl
def kindCells : Array Value := #[.string ⟨#[]⟩, .int .i64 0, .nilFunc, .string ⟨#[114, 111, 119]⟩, .int .i64 0, .func (.func 49) #[] #[], .string ⟨#[115, 121, 109]⟩, .int .i64 0, .func (.func 38) #[] #[], .string ⟨#[110, 117, 109]⟩, .int .i64 0, .func (.func 50) #[] #[], .string ⟨#[116, 101, 120, 116]⟩, .int .i64 0, .func (.func 51) #[] #[], .string ⟨#[102, 114, 97, 99]⟩, .int .i64 2, .func (.func 49) #[] #[], .string ⟨#[114, 111, 111, 116]⟩, .int .i64 2, .func (.func 49) #[] #[], .string ⟨#[115, 117, 98]⟩, .int .i64 2, .func (.func 49) #[] #[], .string ⟨#[115, 117, 112]⟩, .int .i64 2, .func (.func 49) #[] #[], .string ⟨#[98, 111, 116, 104]⟩, .int .i64 3, .func (.func 49) #[] #[], .string ⟨#[97, 99, 99, 101, 110, 116]⟩, .int .i64 1, .func (.func 52) #[] #[], .string ⟨#[102, 101, 110, 99, 101]⟩, .int .i64 1, .func (.func 53) #[] #[], .string ⟨#[109, 97, 116, 114, 105, 120]⟩, .int .i64 0, .func (.func 49) #[] #[]]
def zeroKinds : Array Value := #[.string ⟨#[]⟩, .int .i64 0, .nilFunc, .string ⟨#[]⟩, .int .i64 0, .nilFunc, .string ⟨#[]⟩, .int .i64 0, .nilFunc, .string ⟨#[]⟩, .int .i64 0, .nilFunc, .string ⟨#[]⟩, .int .i64 0, .nilFunc, .string ⟨#[]⟩, .int .i64 0, .nilFunc, .string ⟨#[]⟩, .int .i64 0, .nilFunc, .string ⟨#[]⟩, .int .i64 0, .nilFunc, .string ⟨#[]⟩, .int .i64 0, .nilFunc, .string ⟨#[]⟩, .int .i64 0, .nilFunc, .string ⟨#[]⟩, .int .i64 0, .nilFunc, .string ⟨#[]⟩, .int .i64 0, .nilFunc, .string ⟨#[]⟩, .int .i64 0, .nilFunc]
theorem zeroKinds_run (w : World) : (zeroValue 84).run Tryz.prog w = .ok (.agg zeroKinds) w := by kernel_rfl
theorem built_kinds : Tryz.prog.built 84 [(1, kindV1), (2, kindV2), (3, kindV3), (4, kindV4), (5, kindV5), (6, kindV6), (7, kindV7), (8, kindV8), (9, kindV9), (10, kindV10), (11, kindV11), (12, kindV12)] = some kindCells := by kernel_rfl
theorem infoKinds : (Tryz.prog.info? 84).map (·.size) = some 39 := by kernel_rfl
theorem kindCells_one : kindCells.all (·.oneCell') = true := by kernel_rfl
theorem wpList_build_kind {t : TypeId} {cs : Array Value} {ops : Array Oper} {rest : List Oper} {o : Oper} {a : Act} {w : World} {Q : Exit → Act → World → Prop} (vs : List (Nat × Value)) (hb : Tryz.prog.built t vs = some cs) (xs : Array (Nat × Operand)) (hg : o.guard = none) (ho : o.op = .build t xs)
  (hx : (xs.map fun p => (p.1, a.eval p.2)) = vs.toArray) (v : Value) (hv : v = .agg cs) (h : wpList Tryz.prog ops Q rest (a.put o.dst v) w) : wpList Tryz.prog ops Q (o :: rest) a w := by
 subst hv;refine wpList_plain hg fun K hK => ?_
 unfold Oper.wp execOp;simp only [ho, Sem.run_bind, hx];rw [run_build w t vs.toArray _ hb];simp only [Result.andThen_ok];exact hK _ _ h
theorem kinds_any (w : World) :
  Calls Tryz.prog 31 #[] w fun e w' => e = .returned (.agg kindCells) ∧ Fresh w w' := by
 have hz := zeroKinds_run;go_enter Tryz.func31, Tryz.ntmps31
 go_wp2_with (first
  | (refine wpList_build_kind _ built_kind1 _ rfl rfl rfl kindV1 rfl ?_)
  | (refine wpList_build_kind _ built_kind2 _ rfl rfl rfl kindV2 rfl ?_)
  | (refine wpList_build_kind _ built_kind3 _ rfl rfl rfl kindV3 rfl ?_)
  | (refine wpList_build_kind _ built_kind4 _ rfl rfl rfl kindV4 rfl ?_)
  | (refine wpList_build_kind _ built_kind5 _ rfl rfl rfl kindV5 rfl ?_)
  | (refine wpList_build_kind _ built_kind6 _ rfl rfl rfl kindV6 rfl ?_)
  | (refine wpList_build_kind _ built_kind7 _ rfl rfl rfl kindV7 rfl ?_)
  | (refine wpList_build_kind _ built_kind8 _ rfl rfl rfl kindV8 rfl ?_)
  | (refine wpList_build_kind _ built_kind9 _ rfl rfl rfl kindV9 rfl ?_)
  | (refine wpList_build_kind _ built_kind10 _ rfl rfl rfl kindV10 rfl ?_)
  | (refine wpList_build_kind _ built_kind11 _ rfl rfl rfl kindV11 rfl ?_)
  | (refine wpList_build_kind _ built_kind12 _ rfl rfl rfl kindV12 rfl ?_)
  | (refine wpList_build_kind _ built_kinds _ rfl rfl rfl (.agg kindCells) rfl ?_)
  | (refine wpList_store_row rfl 84 _ _ rfl w.heap.size kindCells rfl rfl 84 zeroKinds (Blk.new _ _ _) infoKinds rfl kindCells_one ?_))
 refine bodyPost_ret (results_cell_row (fn := Tryz.f31) (p := 0) rfl _ _ w.heap.size 84 kindCells (0, 0) _ rfl (setRow_heap _ _ _ _ _ _ (Blk.new _ _ _)) Tryz.underlying84 rfl infoKinds) rfl ?_;exact ⟨rfl, ((Touch.refl _ w).alloc _).setRow (.inr (Nat.le_refl _)) _⟩
end Go.Proofs.YtomibmenojdieaaGreat
namespace Go.Proofs.YtomibmenojdieaaGreat
open Go.RowKit
theorem same_fresh {f : Nat} {args : Array Value} {v : Value} {w : World} (h : Calls Tryz.prog f args w fun e w' => e = .returned v ∧ w' = w) : Calls Tryz.prog f args w fun e w' => e = .returned v ∧ Fresh w w' :=
 h.mono fun _ _ h => ⟨h.1, by rw [h.2]; exact Touch.refl _ _⟩
def checkCells (m : Int) : Array Value := kindCells.push (.int .i64 m)
def ownRest (k c : Int) (n : Nat) (slots : Int) : Bool :=
 if k == 1 then (c == (0 : Int)) && decide ((n : Int) ≤ (200 : Int))
 else if k == 12 then decide ((1 : Int) ≤ c) && (decide (c ≤ (16 : Int)) && (decide ((1 : Int) ≤ (n : Int)) && (decide ((n : Int) ≤ (256 : Int)) && (((n : Int) % c) == (0 : Int)))))
 else (c == (0 : Int)) && ((n : Int) == slots)
theorem own_gen (t : List UInt8) (cols slots : Int) (k len : Nat) (fid : Nat) (tx : Bool) (A : Option Addr) (cap c g o : Nat) (w : World) (hk1 : 1 ≤ k) (hk2 : k ≤ 12) (hcf : ∀ (a : Array Value) (w' : World), (callFunc fid a).run Tryz.prog w' = .ok (.enter fid a) w')
  (ct : ∀ w', Calls Tryz.prog fid #[.string ⟨t.toArray⟩] w' fun e w'' => e = .returned (.bool tx) ∧ Fresh w' w'')
  (a0 : w.cell? ⟨g, o, none⟩ = some (.int .i64 (k : Int))) (a1 : w.cell? ⟨g, o + 1, none⟩ = some (.string ⟨t.toArray⟩)) (a2 : w.cell? ⟨g, o + 2, none⟩ = some (.int .i64 cols)) (a3 : w.cell? ⟨g, o + 3, none⟩ = some (.slice A len cap))
  (c1 : w.cell? ⟨c, k * 3 + 1, none⟩ = some (.int .i64 slots)) (c2 : w.cell? ⟨c, k * 3 + 2, none⟩ = some (.func (.func fid) #[] #[])) :
  Calls Tryz.prog 54 #[.pointer (some ⟨c, 0, none⟩), .pointer (some ⟨g, o, none⟩)] w fun e w' => e = .returned (.bool (tx && ownRest k cols len slots)) ∧ Fresh w w' := by
 have CT := hid ct;clear ct;have e1 : decide ((k : Int) < (1 : Int)) = false := dF (by omega);have e2 : decide ((12 : Int) < (k : Int)) = false := dF (by omega);have e3 : decide (k < 1) = false := dF (by omega);have e4 : decide (12 < k) = false := dF (by omega);have e5 : (k : Int) < 13 := by omega
 have e6 : k < 13 := by omega
 go_enter Tryz.func54, Tryz.ntmps54;go_wp2_with fail
 refine forget_world (fun W => Fresh w W) frR ?_;rintro w1 hfw1;have HF1 := hid hfw1;clear hfw1;obtain ⟨a0_w1, a1_w1, a2_w1, a3_w1⟩ := mv4 HF1.out a0 a1 a2 a3;have c1_w1 := Touch.cell HF1.out c1 (fun h => h);have c2_w1 := Touch.cell HF1.out c2 (fun h => h);clear a0 a1 a2 a3 c1 c2;have ga0_w1 := cR a0_w1;have ga1_w1 := cR a1_w1;have ga2_w1 := cR a2_w1;have ga3_w1 := cR a3_w1;have gc1_w1 := cR c1_w1;have gc2_w1 := cR c2_w1;have C0_w1 := hid (calmF (P := Tryz.prog) w1 (fun w hw => CT.out _));refine wp_region_quiet_below (by kernel_rfl) (by kernel_rfl) ?_
 repeat (quiet_step (first | with_reducible exact C0_w1.out _ _))
 refine wpQuiet_nil ?_;rintro w2 ⟨⟨_, _⟩, hWw2⟩;have hfw2 : Fresh w1 w2 := by rw [hWw2]; exact fresh_of_below (below_regrown _ _ _)
 clear hWw2 ga0_w1 ga1_w1 ga2_w1 ga3_w1 gc1_w1 gc2_w1;have HF2 := hid (show Fresh w1 w2 from preA hfw2);obtain ⟨a0_w2, a1_w2, a2_w2, a3_w2⟩ := mv4 HF2.out a0_w1 a1_w1 a2_w1 a3_w1;have c1_w2 := Touch.cell HF2.out c1_w1 (fun h => h);have c2_w2 := Touch.cell HF2.out c2_w1 (fun h => h);clear a0_w1 a1_w1 a2_w1 a3_w1 c1_w1 c2_w1;clear hfw2;cases h1 : tx with
 | false =>
  go_wp2_with fail
  go_ret;exact ⟨ret_bool' _ _ (by unfold ownRest; simp only [*] <;> rfl), (frA (HF1.out.trans HF2.out))⟩
 | true =>
  cases h2 : ((k : Int) == (1 : Int)) with
  | false =>
   have h2m : ((k : Int) != (1 : Int)) = true := by rw [bne, h2]; rfl
   have h2n : (k == 1) = false := by have hx := h2; simp only [beq_eq_false_iff_ne, ne_eq] at hx ⊢; omega
   cases h3 : ((k : Int) == (12 : Int)) with
   | false =>
    have h3m : ((k : Int) != (12 : Int)) = true := by rw [bne, h3]; rfl
    have h3n : (k == 12) = false := by have hx := h3; simp only [beq_eq_false_iff_ne, ne_eq] at hx ⊢; omega
    cases h4 : (cols == (0 : Int)) with
    | false =>
     have h4m : (cols != (0 : Int)) = true := by rw [bne, h4]; rfl
     go_wp2_with fail
     go_quiet (fail)
     go_wp2_with fail
     go_ret;exact ⟨ret_bool' _ _ (by unfold ownRest; simp only [*] <;> rfl), (frA (HF1.out.trans HF2.out))⟩
    | true =>
     have h4m : (cols != (0 : Int)) = false := by rw [bne, h4]; rfl
     go_wp2_with fail
     go_quiet (fail)
     cases h5 : ((len : Int) == slots) with
     | false =>
      have h5m : ((len : Int) != slots) = true := by rw [bne, h5]; rfl
      go_wp2_with fail
      go_ret;exact ⟨ret_bool' _ _ (by unfold ownRest; simp only [*] <;> rfl), (frA (HF1.out.trans HF2.out))⟩
     | true =>
      have h5m : ((len : Int) != slots) = false := by rw [bne, h5]; rfl
      go_wp2_with fail
      go_ret;exact ⟨ret_bool' _ _ (by unfold ownRest; simp only [*] <;> rfl), (frA (HF1.out.trans HF2.out))⟩
   | true =>
    have h3m : ((k : Int) != (12 : Int)) = false := by rw [bne, h3]; rfl
    have h3n : (k == 12) = true := by have hx := h3; simp only [beq_iff_eq] at hx ⊢; omega
    cases h6 : decide ((1 : Int) ≤ cols) with
    | false =>
     go_wp2_with fail
     go_quiet (fail)
     go_wp2_with fail
     go_ret;exact ⟨ret_bool' _ _ (by unfold ownRest; simp only [*] <;> rfl), (frA (HF1.out.trans HF2.out))⟩
    | true =>
     have h6p := of_decide_eq_true h6;cases h7 : decide (cols ≤ (16 : Int)) with
     | false =>
      go_wp2_with fail
      go_quiet (fail)
      go_wp2_with fail
      go_ret;exact ⟨ret_bool' _ _ (by unfold ownRest; simp only [*] <;> rfl), (frA (HF1.out.trans HF2.out))⟩
     | true =>
      have h7p := of_decide_eq_true h7;cases h8 : decide ((1 : Int) ≤ (len : Int)) with
      | false =>
       have h8n : decide (1 ≤ len) = false := by have hx := h8; simp only [decide_eq_false_iff_not] at hx ⊢; omega
       go_wp2_with fail
       go_quiet (fail)
       go_wp2_with fail
       go_ret;exact ⟨ret_bool' _ _ (by unfold ownRest; simp only [*] <;> rfl), (frA (HF1.out.trans HF2.out))⟩
      | true =>
       have h8p := of_decide_eq_true h8;have h8n : decide (1 ≤ len) = true := by have hx := h8; simp only [decide_eq_true_eq] at hx ⊢; omega
       cases h9 : decide ((len : Int) ≤ (256 : Int)) with
       | false =>
        have h9n : decide (len ≤ 256) = false := by have hx := h9; simp only [decide_eq_false_iff_not] at hx ⊢; omega
        go_wp2_with fail
        go_quiet (fail)
        go_wp2_with fail
        go_ret;exact ⟨ret_bool' _ _ (by unfold ownRest; simp only [*] <;> rfl), (frA (HF1.out.trans HF2.out))⟩
       | true =>
        have h9p := of_decide_eq_true h9;have h9n : decide (len ≤ 256) = true := by have hx := h9; simp only [decide_eq_true_eq] at hx ⊢; omega
        go_wp2_with fail
        go_quiet (fail)
        cases h10 : (((len : Int) % cols) == (0 : Int)) with
        | false =>
         have h10m : (((len : Int) % cols) != (0 : Int)) = true := by rw [bne, h10]; rfl
         go_wp2_with fail
         go_ret;exact ⟨ret_bool' _ _ (by unfold ownRest; simp only [*] <;> rfl), (frA (HF1.out.trans HF2.out))⟩
        | true =>
         have h10m : (((len : Int) % cols) != (0 : Int)) = false := by rw [bne, h10]; rfl
         go_wp2_with fail
         go_ret;exact ⟨ret_bool' _ _ (by unfold ownRest; simp only [*] <;> rfl), (frA (HF1.out.trans HF2.out))⟩
  | true =>
   have h2m : ((k : Int) != (1 : Int)) = false := by rw [bne, h2]; rfl
   have h2n : (k == 1) = true := by have hx := h2; simp only [beq_iff_eq] at hx ⊢; omega
   cases h11 : (cols == (0 : Int)) with
   | false =>
    have h11m : (cols != (0 : Int)) = true := by rw [bne, h11]; rfl
    go_wp2_with fail
    go_ret;exact ⟨ret_bool' _ _ (by unfold ownRest; simp only [*] <;> rfl), (frA (HF1.out.trans HF2.out))⟩
   | true =>
    have h11m : (cols != (0 : Int)) = false := by rw [bne, h11]; rfl
    cases h12 : decide ((len : Int) ≤ (200 : Int)) with
    | false =>
     have h12n : decide (len ≤ 200) = false := by have hx := h12; simp only [decide_eq_false_iff_not] at hx ⊢; omega
     go_wp2_with fail
     go_ret;exact ⟨ret_bool' _ _ (by unfold ownRest; simp only [*] <;> rfl), (frA (HF1.out.trans HF2.out))⟩
    | true =>
     have h12p := of_decide_eq_true h12;have h12n : decide (len ≤ 200) = true := by have hx := h12; simp only [decide_eq_true_eq] at hx ⊢; omega
     go_wp2_with fail
     go_ret;exact ⟨ret_bool' _ _ (by unfold ownRest; simp only [*] <;> rfl), (frA (HF1.out.trans HF2.out))⟩
def ownF (n : Tr.Nd) : Bool := decide (1 ≤ n.kind) && (decide (n.kind ≤ 12) && (Tr.textOK n.kind n.text && Tr.kidsOK n.kind n.cols n.kids.length))
theorem own_lo (n : Tr.Nd) (c g o : Nat) (w : World) (hk : n.kind < 1)
  (a0 : w.cell? ⟨g, o, none⟩ = some (.int .i64 n.kind)) :
  Calls Tryz.prog 54 #[.pointer (some ⟨c, 0, none⟩), .pointer (some ⟨g, o, none⟩)] w fun e w' => e = .returned (.bool false) ∧ Fresh w w' := by
 have e1 : decide (n.kind < (1 : Int)) = true := dT (by omega);have e2 : decide ((12 : Int) < n.kind) = false := dF (by omega);clear hk;go_enter Tryz.func54, Tryz.ntmps54;go_wp2_with fail
 go_quiet (fail)
 go_wp2_with fail
 go_ret;exact ⟨rfl, frR⟩
theorem own_hi (n : Tr.Nd) (c g o : Nat) (w : World) (hk : 12 < n.kind)
  (a0 : w.cell? ⟨g, o, none⟩ = some (.int .i64 n.kind)) :
  Calls Tryz.prog 54 #[.pointer (some ⟨c, 0, none⟩), .pointer (some ⟨g, o, none⟩)] w fun e w' => e = .returned (.bool false) ∧ Fresh w w' := by
 have e1 : decide (n.kind < (1 : Int)) = false := dF (by omega);have e2 : decide ((12 : Int) < n.kind) = true := dT (by omega);clear hk;go_enter Tryz.func54, Tryz.ntmps54;go_wp2_with fail
 go_quiet (fail)
 go_wp2_with fail
 go_ret;exact ⟨rfl, frR⟩
theorem dec_len (a b : Nat) : decide ((a : Int) ≤ (b : Int)) = decide (a ≤ b) := by rw [Bool.eq_iff_iff, decide_eq_true_iff, decide_eq_true_iff]; omega
theorem plain_text (t : List UInt8) : Tr.textOK ((4 : Nat) : Int) t = (t.all plainB && decide ((ByteArray.size ⟨t.toArray⟩ : Int) ≤ (200 : Int))) := by
 show (decide (t.length ≤ 200) && Tr.printable t) = _;have : (ByteArray.size ⟨t.toArray⟩) = t.length := by show t.toArray.size = _; simp
 rw [this, show decide ((t.length : Int) ≤ (200 : Int)) = decide (t.length ≤ 200) from dec_len t.length 200, Bool.and_comm];rfl
theorem ownF_at (k : Nat) (n : Tr.Nd) (tx : Bool) (slots : Int) (hk : n.kind = k) (h1 : 1 ≤ k) (h2 : k ≤ 12) (ht : Tr.textOK n.kind n.text = tx)
  (hs : (k = 5 ∨ k = 6 ∨ k = 7 ∨ k = 8 → slots = 2) ∧ (k = 9 → slots = 3) ∧ (k = 10 ∨ k = 11 → slots = 1) ∧ (k = 2 ∨ k = 3 ∨ k = 4 → slots = 0)) : ownF n = (tx && ownRest k n.cols n.kids.length slots) := by
 unfold ownF;rw [ht, hk];have e1 : decide ((1 : Int) ≤ (k : Int)) = true := by simp; omega
 have e2 : decide ((k : Int) ≤ 12) = true := by simp; omega
 rw [e1, e2, Bool.true_and, Bool.true_and]
 congr 1
 unfold Tr.kidsOK ownRest;generalize n.kids.length = m;generalize n.cols = c;obtain ⟨s1, s2, s3, s4⟩ := hs
 by_cases k12 : k = 12
 ·subst k12
  rw [if_pos (show ((12 : Nat) : Int) = 12 from rfl), if_neg (show ¬ (((12 : Nat) : Int) == 1) = true by decide), if_pos (show (((12 : Nat) : Int) == 12) = true by decide)];have f1 : decide ((1 : Int) ≤ (m : Int)) = decide (1 ≤ m) := dec_len 1 m;have f2 : decide ((m : Int) ≤ (256 : Int)) = decide (m ≤ 256) := dec_len m 256;show (decide (1 ≤ c) && decide (c ≤ 16) && decide (1 ≤ m) && decide (m ≤ 256) && decide ((m : Int) % c = 0)) = (decide (1 ≤ c) && (decide (c ≤ 16) && (decide ((1 : Int) ≤ (m : Int)) && (decide ((m : Int) ≤ (256 : Int)) && ((m : Int) % c == 0)))));rw [f1, f2];simp only [Bool.and_assoc];rfl
 ·have k12' : ¬ (k : Int) = 12 := by omega
  have k12'' : ((k : Int) == 12) = false := by simpa using k12'
  rw [if_neg k12', k12'']
  by_cases hc : c = 0
  ·subst hc
   simp only [ne_eq, not_true_eq_false, if_false, Bool.false_eq_true]
   by_cases k1 : k = 1
   ·subst k1
    rw [if_pos (show ((1 : Nat) : Int) = 1 from rfl), if_pos (show (((1 : Nat) : Int) == 1) = true by decide)];exact (dec_len m 200).symm
   ·have k1' : ¬ (k : Int) = 1 := by omega
    have k1'' : ((k : Int) == 1) = false := by simpa using k1'
    rw [if_neg k1', k1''];simp only [Bool.false_eq_true, if_false, BEq.rfl, Bool.true_and]
    have dn : ∀ (j : Nat) (sl : Int), sl = j → decide (m = j) = ((m : Int) == sl) := by
     intro j sl h; subst h; rw [Bool.eq_iff_iff, decide_eq_true_iff, beq_iff_eq]; omega
    split
    ·exact dn 0 slots (s4 (by omega))
    ·split
     ·exact dn 2 slots (s1 (by omega))
     ·split
      ·exact dn 3 slots (s2 (by omega))
      ·split
       ·exact dn 1 slots (s3 (by omega))
       ·omega
  ·have hc' : (c == 0) = false := by simpa using hc
   rw [if_pos hc, hc'];simp
theorem own_any (n : Tr.Nd) (A : Option Addr) (cap c g o : Nat) (m : Int) (w : World) (hc : Blk w c 87 (checkCells m)) (hm : n.text.length ≤ 9223372036854775807)
  (a0 : w.cell? ⟨g, o, none⟩ = some (.int .i64 n.kind)) (a1 : w.cell? ⟨g, o + 1, none⟩ = some (.string ⟨n.text.toArray⟩)) (a2 : w.cell? ⟨g, o + 2, none⟩ = some (.int .i64 n.cols)) (a3 : w.cell? ⟨g, o + 3, none⟩ = some (.slice A n.kids.length cap)) :
  Calls Tryz.prog 54 #[.pointer (some ⟨c, 0, none⟩), .pointer (some ⟨g, o, none⟩)] w fun e w' => e = .returned (.bool (ownF n)) ∧ Fresh w w' := by
 by_cases h1 : n.kind < 1
 ·have e : ownF n = false := by
   unfold ownF;have : decide (1 ≤ n.kind) = false := by simp; omega
   rw [this]; rfl
  rw [e];exact own_lo n c g o w h1 a0
 by_cases h2 : 12 < n.kind
 ·have e : ownF n = false := by
   unfold ownF;have : decide (n.kind ≤ 12) = false := by simp; omega
   rw [this, Bool.false_and, Bool.and_false]
  rw [e];exact own_hi n c g o w h2 a0
 obtain ⟨k, hk⟩ : ∃ k : Nat, n.kind = k := ⟨n.kind.toNat, by omega⟩;have k1 : 1 ≤ k := by omega
 have k2 : k ≤ 12 := by omega
 rw [hk] at a0
 match k, k1, k2, hk, a0 with
 | 1, k1, k2, hk, a0 =>
  rw [ownF_at 1 n (n.text.isEmpty) 0 hk k1 k2 (by rw [hk]; rfl) (by decide)];exact own_gen n.text n.cols 0 1 n.kids.length 49 _ A cap c g o w k1 k2 (fun _ _ => by kernel_rfl) (fun w' => same_fresh (empty_any ⟨n.text.toArray⟩ w')) a0 a1 a2 a3 (hc.cell 4) (hc.cell 5)
 | 2, k1, k2, hk, a0 =>
  rw [ownF_at 2 n (Tr.symbol n.text) 0 hk k1 k2 (by rw [hk]; rfl) (by decide)];exact own_gen n.text n.cols 0 2 n.kids.length 38 _ A cap c g o w k1 k2 (fun _ _ => by kernel_rfl) (fun w' => same_fresh (symbol_any ⟨n.text.toArray⟩ w' (by show n.text.toArray.size ≤ _; simpa using hm))) a0 a1 a2 a3 (hc.cell 7) (hc.cell 8)
 | 3, k1, k2, hk, a0 =>
  rw [ownF_at 3 n (Tr.isNum n.text) 0 hk k1 k2 (by rw [hk]; rfl) (by decide)];exact own_gen n.text n.cols 0 3 n.kids.length 50 _ A cap c g o w k1 k2 (fun _ _ => by kernel_rfl) (fun w' => numText_any ⟨n.text.toArray⟩ w' (by show n.text.toArray.size ≤ _; simpa using hm)) a0 a1 a2 a3 (hc.cell 10) (hc.cell 11)
 | 4, k1, k2, hk, a0 =>
  rw [ownF_at 4 n ((n.text.all plainB && decide ((ByteArray.size ⟨n.text.toArray⟩ : Int) ≤ (200 : Int)))) 0 hk k1 k2 (by rw [hk]; exact plain_text n.text) (by decide)];exact own_gen n.text n.cols 0 4 n.kids.length 51 _ A cap c g o w k1 k2 (fun _ _ => by kernel_rfl) (fun w' => same_fresh (plain_any ⟨n.text.toArray⟩ w' (by show n.text.toArray.size ≤ _; simpa using hm))) a0 a1 a2 a3 (hc.cell 13) (hc.cell 14)
 | 5, k1, k2, hk, a0 =>
  rw [ownF_at 5 n (n.text.isEmpty) 2 hk k1 k2 (by rw [hk]; rfl) (by decide)];exact own_gen n.text n.cols 2 5 n.kids.length 49 _ A cap c g o w k1 k2 (fun _ _ => by kernel_rfl) (fun w' => same_fresh (empty_any ⟨n.text.toArray⟩ w')) a0 a1 a2 a3 (hc.cell 16) (hc.cell 17)
 | 6, k1, k2, hk, a0 =>
  rw [ownF_at 6 n (n.text.isEmpty) 2 hk k1 k2 (by rw [hk]; rfl) (by decide)];exact own_gen n.text n.cols 2 6 n.kids.length 49 _ A cap c g o w k1 k2 (fun _ _ => by kernel_rfl) (fun w' => same_fresh (empty_any ⟨n.text.toArray⟩ w')) a0 a1 a2 a3 (hc.cell 19) (hc.cell 20)
 | 7, k1, k2, hk, a0 =>
  rw [ownF_at 7 n (n.text.isEmpty) 2 hk k1 k2 (by rw [hk]; rfl) (by decide)];exact own_gen n.text n.cols 2 7 n.kids.length 49 _ A cap c g o w k1 k2 (fun _ _ => by kernel_rfl) (fun w' => same_fresh (empty_any ⟨n.text.toArray⟩ w')) a0 a1 a2 a3 (hc.cell 22) (hc.cell 23)
 | 8, k1, k2, hk, a0 =>
  rw [ownF_at 8 n (n.text.isEmpty) 2 hk k1 k2 (by rw [hk]; rfl) (by decide)];exact own_gen n.text n.cols 2 8 n.kids.length 49 _ A cap c g o w k1 k2 (fun _ _ => by kernel_rfl) (fun w' => same_fresh (empty_any ⟨n.text.toArray⟩ w')) a0 a1 a2 a3 (hc.cell 25) (hc.cell 26)
 | 9, k1, k2, hk, a0 =>
  rw [ownF_at 9 n (n.text.isEmpty) 3 hk k1 k2 (by rw [hk]; rfl) (by decide)];exact own_gen n.text n.cols 3 9 n.kids.length 49 _ A cap c g o w k1 k2 (fun _ _ => by kernel_rfl) (fun w' => same_fresh (empty_any ⟨n.text.toArray⟩ w')) a0 a1 a2 a3 (hc.cell 28) (hc.cell 29)
 | 10, k1, k2, hk, a0 =>
  rw [ownF_at 10 n (Tr.accents.contains n.text) 1 hk k1 k2 (by rw [hk]; rfl) (by decide)];exact own_gen n.text n.cols 1 10 n.kids.length 52 _ A cap c g o w k1 k2 (fun _ _ => by kernel_rfl) (fun w' => same_fresh (accent_any ⟨n.text.toArray⟩ w')) a0 a1 a2 a3 (hc.cell 31) (hc.cell 32)
 | 11, k1, k2, hk, a0 =>
  rw [ownF_at 11 n (Tr.fence n.text) 1 hk k1 k2 (by rw [hk]; rfl) (by decide)];exact own_gen n.text n.cols 1 11 n.kids.length 53 _ A cap c g o w k1 k2 (fun _ _ => by kernel_rfl) (fun w' => same_fresh (fence_any ⟨n.text.toArray⟩ w')) a0 a1 a2 a3 (hc.cell 34) (hc.cell 35)
 | 12, k1, k2, hk, a0 =>
  rw [ownF_at 12 n (n.text.isEmpty) 0 hk k1 k2 (by rw [hk]; rfl) (by decide)];exact own_gen n.text n.cols 0 12 n.kids.length 49 _ A cap c g o w k1 k2 (fun _ _ => by kernel_rfl) (fun w' => same_fresh (empty_any ⟨n.text.toArray⟩ w')) a0 a1 a2 a3 (hc.cell 37) (hc.cell 38)
end Go.Proofs.YtomibmenojdieaaGreat
