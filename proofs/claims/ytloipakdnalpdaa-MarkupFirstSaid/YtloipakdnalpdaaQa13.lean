/- Part 13 of 20 of a proof; its texts, joined: MkA, XmA, ElG, XmB, XmC. No condition. -/
import Derived.Test.YtloipakdnalpdaaQa12
import Derived.Test.YtloipakdnalpdaaQa9
import Derived.Test.YtloipakdnalpdaaQa2
set_option maxRecDepth 100000
set_option maxHeartbeats 1000000
namespace Go.Proofs.Ytloipakdnalpdaa
open Go.RowKit
theorem or32_256 : ∀ n : Fin 256, bits BinOp.or IntKind.u8 (n.1 : Int) 32 = ((n.1 ||| 32 : Nat) : Int) := by decide +kernel
theorem or32_is (b : UInt8) : bits BinOp.or IntKind.u8 (b.toNat : Int) 32 = ((b.toNat ||| 32 : Nat) : Int) := or32_256 ⟨b.toNat, b.toNat_lt⟩
theorem or32_l256 : ∀ n : Fin 256, (decide ((97 : Int) ≤ ((n.1 ||| 32 : Nat) : Int)) && decide (((n.1 ||| 32 : Nat) : Int) ≤ (122 : Int))) = El.letter (UInt8.ofNat n.1) := by decide +kernel
theorem or32 (b : UInt8) : (decide ((97 : Int) ≤ ((b.toNat ||| 32 : Nat) : Int)) && decide (((b.toNat ||| 32 : Nat) : Int) ≤ (122 : Int))) = El.letter b := by
 have := or32_l256 ⟨b.toNat, b.toNat_lt⟩;simpa using this
theorem first_byte {s : ByteArray} {b : UInt8} {r : List UInt8} (hs : s.data.toList = b :: r) : s.toList.isEmpty = false ∧ ∃ h : 0 < s.size, s[0] = b := by
 have hl : s.data.toList.length = s.size := by simp
 have hsz : 0 < s.size := by rw [← hl, hs]; simp
 refine ⟨?_, hsz, ?_⟩
 ·rw [ByteArray.toList_eq, hs]; rfl
 ·have : s.data.toList[0]'(by rw [hs]; simp) = b := by simp [hs]
  rw [← this];simp
  rfl
theorem mletter_any (s : ByteArray) (w : World) : Calls Try.prog 48 #[.string s] w fun e w' => e = .returned (.bool (El.lett s.data.toList)) ∧ w' = w := by
 cases hs : s.data.toList with
 | nil =>
  have e0 : s.toList.isEmpty = true := by rw [ByteArray.toList_eq, hs]; rfl
  clear hs;go_enter Try.func48, Try.ntmps48;go_wp2_with fail
  go_ret;exact ⟨rfl, rfl⟩
 | cons b r =>
  obtain ⟨e0, hsz, hb⟩ := first_byte hs;clear hs;have hx : bits BinOp.or IntKind.u8 ((s[0]'hsz).toNat : Int) 32 = ((b.toNat ||| 32 : Nat) : Int) := by rw [hb]; exact or32_is b
  clear hb;have hl := or32 b;show Calls _ _ _ _ fun e w' => e = .returned (.bool (El.letter b)) ∧ w' = w
  rw [← hl];clear hl;cases h1 : decide ((97 : Int) ≤ ((b.toNat ||| 32 : Nat) : Int)) with
  | false =>
   have h1n : decide (97 ≤ b.toNat ||| 32) = false := by have hx := h1; simp only [decide_eq_false_iff_not] at hx ⊢; omega
   go_enter Try.func48, Try.ntmps48;go_wp2_with fail
   go_ret;exact ⟨rfl, rfl⟩
  | true =>
   have h1n : decide (97 ≤ b.toNat ||| 32) = true := by have hx := h1; simp only [decide_eq_true_eq] at hx ⊢; omega
   cases h2 : decide (((b.toNat ||| 32 : Nat) : Int) ≤ (122 : Int)) with
   | false =>
    have h2n : decide (b.toNat ||| 32 ≤ 122) = false := by have hx := h2; simp only [decide_eq_false_iff_not] at hx ⊢; omega
    go_enter Try.func48, Try.ntmps48;go_wp2_with fail
    go_ret;exact ⟨rfl, rfl⟩
   | true =>
    have h2n : decide (b.toNat ||| 32 ≤ 122) = true := by have hx := h2; simp only [decide_eq_true_eq] at hx ⊢; omega
    go_enter Try.func48, Try.ntmps48;go_wp2_with fail
    go_ret;exact ⟨rfl, rfl⟩
def letts (s : List UInt8) : Bool := decide (1 < s.length) || (s.length == 1 && El.lett s)
theorem rletters_any (s : ByteArray) (w : World) : Calls Try.prog 58 #[.string s] w fun e w' => e = .returned (.bool (letts s.data.toList)) ∧ w' = w := by
 have hl : s.data.toList.length = s.size := by simp
 unfold letts;rw [hl]
 by_cases c1 : 1 < s.size
 ·have d1 : decide ((1 : Int) < (s.size : Int)) = true := dT (by omega)
  have d1n : decide (1 < s.size) = true := dT c1;rw [d1n];go_enter Try.func58, Try.ntmps58;go_wp2_with fail
  go_ret;exact ⟨rfl, rfl⟩
 ·have d1 : decide ((1 : Int) < (s.size : Int)) = false := dF (by omega)
  have d1n : decide (1 < s.size) = false := dF c1;rw [d1n];cases hs : s.data.toList with
  | nil =>
   have hz : s.size = 0 := by rw [← hl, hs]; rfl
   have d2 : ((s.size : Int) == (1 : Int)) = false := by rw [hz]; rfl
   have d2n : (s.size == 1) = false := by rw [hz]; rfl
   rw [d2n];clear hs hl hz;go_enter Try.func58, Try.ntmps58;go_wp2_with fail
   go_ret;exact ⟨rfl, rfl⟩
  | cons b r =>
   obtain ⟨_, hsz, hb⟩ := first_byte hs;have hz : s.size = 1 := by omega
   have d2 : ((s.size : Int) == (1 : Int)) = true := by rw [hz]; rfl
   have d2n : (s.size == 1) = true := by rw [hz]; rfl
   rw [d2n];clear hs hl hz;have HB := hid hb;have HL := hid (fun w => letter_byte (s[0]'hsz) w);clear hb;go_enter Try.func58, Try.ntmps58;go_wp2_with fail
   refine (HL.out _).mono ?_;rintro _ w' ⟨rfl, hw⟩;subst hw;go_wp2_with fail
   go_ret;exact ⟨ret_bool (by rw [HB.out]; rfl), rfl⟩
theorem inner_256 : ∀ n : Fin 256, El.inner (UInt8.ofNat n.1) = (El.letter (UInt8.ofNat n.1) || (decide ((48 : Int) ≤ (n.1 : Int)) && decide ((n.1 : Int) ≤ (57 : Int))) || ((n.1 : Int) == (45 : Int))) := by decide +kernel
theorem inner_or (b : UInt8) : El.inner b = (El.letter b || (decide ((48 : Int) ≤ (b.toNat : Int)) && decide ((b.toNat : Int) ≤ (57 : Int))) || ((b.toNat : Int) == (45 : Int))) := by
 have := inner_256 ⟨b.toNat, b.toNat_lt⟩;simpa using this
theorem prin_256 : ∀ n : Fin 256, El.printable (UInt8.ofNat n.1) = (decide ((32 : Int) ≤ (n.1 : Int)) && decide ((n.1 : Int) ≤ (126 : Int))) := by decide +kernel
theorem prin_or (b : UInt8) : El.printable b = (decide ((32 : Int) ≤ (b.toNat : Int)) && decide ((b.toNat : Int) ≤ (126 : Int))) := by
 have := prin_256 ⟨b.toNat, b.toNat_lt⟩;simpa using this
theorem xletter_byte (b : UInt8) (w : World) : Calls Try.prog 80 #[.int .u8 (b.toNat : Int)] w fun e w' => e = .returned (.bool (El.letter b)) ∧ w' = w := by
 have hx := or32_is b;rw [← or32 b];cases h1 : decide ((97 : Int) ≤ ((b.toNat ||| 32 : Nat) : Int)) with
 | false =>
  have h1n : decide (97 ≤ b.toNat ||| 32) = false := by have hx := h1; simp only [decide_eq_false_iff_not] at hx ⊢; omega
  go_enter Try.func80, Try.ntmps80;go_wp2_with fail
  go_ret;exact ⟨rfl, rfl⟩
 | true =>
  have h1n : decide (97 ≤ b.toNat ||| 32) = true := by have hx := h1; simp only [decide_eq_true_eq] at hx ⊢; omega
  cases h2 : decide (((b.toNat ||| 32 : Nat) : Int) ≤ (122 : Int)) with
  | false =>
   have h2n : decide (b.toNat ||| 32 ≤ 122) = false := by have hx := h2; simp only [decide_eq_false_iff_not] at hx ⊢; omega
   go_enter Try.func80, Try.ntmps80;go_wp2_with fail
   go_ret;exact ⟨rfl, rfl⟩
  | true =>
   have h2n : decide (b.toNat ||| 32 ≤ 122) = true := by have hx := h2; simp only [decide_eq_true_eq] at hx ⊢; omega
   go_enter Try.func80, Try.ntmps80;go_wp2_with fail
   go_ret;exact ⟨rfl, rfl⟩
theorem xinname_byte (b : UInt8) (w : World) : Calls Try.prog 79 #[.int .u8 (b.toNat : Int)] w fun e w' => e = .returned (.bool (El.inner b)) ∧ w' = w := by
 go_enter Try.func79, Try.ntmps79;go_wp2_with fail
 refine Calls.mono (xletter_byte b _) ?_;rintro _ w1q ⟨rfl, hqw1⟩;replace hqw1 := hqw1.symm;subst hqw1;cases h1 : (El.letter b) with
 | false =>
  cases h2 : decide ((48 : Int) ≤ (b.toNat : Int)) with
  | false =>
   have h2n : decide (48 ≤ b.toNat) = false := by have hx := h2; simp only [decide_eq_false_iff_not] at hx ⊢; omega
   cases h3 : ((b.toNat : Int) == (45 : Int)) with
   | false =>
    have h3m : ((b.toNat : Int) != (45 : Int)) = true := by rw [bne, h3]; rfl
    go_wp2_with fail
    go_ret;exact ⟨ret_bool' _ _ (by rw [inner_or]; simp only [*] <;> rfl), rfl⟩
   | true =>
    have h3m : ((b.toNat : Int) != (45 : Int)) = false := by rw [bne, h3]; rfl
    go_wp2_with fail
    go_ret;exact ⟨ret_bool' _ _ (by rw [inner_or]; simp only [*] <;> rfl), rfl⟩
  | true =>
   have h2n : decide (48 ≤ b.toNat) = true := by have hx := h2; simp only [decide_eq_true_eq] at hx ⊢; omega
   cases h4 : decide ((b.toNat : Int) ≤ (57 : Int)) with
   | false =>
    have h4n : decide (b.toNat ≤ 57) = false := by have hx := h4; simp only [decide_eq_false_iff_not] at hx ⊢; omega
    cases h5 : ((b.toNat : Int) == (45 : Int)) with
    | false =>
     have h5m : ((b.toNat : Int) != (45 : Int)) = true := by rw [bne, h5]; rfl
     go_wp2_with fail
     go_ret;exact ⟨ret_bool' _ _ (by rw [inner_or]; simp only [*] <;> rfl), rfl⟩
    | true =>
     have h5m : ((b.toNat : Int) != (45 : Int)) = false := by rw [bne, h5]; rfl
     go_wp2_with fail
     go_ret;exact ⟨ret_bool' _ _ (by rw [inner_or]; simp only [*] <;> rfl), rfl⟩
   | true =>
    have h4n : decide (b.toNat ≤ 57) = true := by have hx := h4; simp only [decide_eq_true_eq] at hx ⊢; omega
    go_wp2_with fail
    go_ret;exact ⟨ret_bool' _ _ (by rw [inner_or]; simp only [*] <;> rfl), rfl⟩
 | true =>
  go_wp2_with fail
  go_ret;exact ⟨ret_bool' _ _ (by rw [inner_or]; simp only [*] <;> rfl), rfl⟩
theorem xprintable_byte (b : UInt8) (w : World) : Calls Try.prog 81 #[.int .u8 (b.toNat : Int)] w fun e w' => e = .returned (.bool (El.printable b)) ∧ w' = w := by
 go_enter Try.func81, Try.ntmps81;cases h6 : decide ((32 : Int) ≤ (b.toNat : Int)) with
 | false =>
  have h6n : decide (32 ≤ b.toNat) = false := by have hx := h6; simp only [decide_eq_false_iff_not] at hx ⊢; omega
  go_wp2_with fail
  go_ret;exact ⟨ret_bool' _ _ (by rw [prin_or]; simp only [*] <;> rfl), rfl⟩
 | true =>
  have h6n : decide (32 ≤ b.toNat) = true := by have hx := h6; simp only [decide_eq_true_eq] at hx ⊢; omega
  cases h7 : decide ((b.toNat : Int) ≤ (126 : Int)) with
  | false =>
   have h7n : decide (b.toNat ≤ 126) = false := by have hx := h7; simp only [decide_eq_false_iff_not] at hx ⊢; omega
   go_wp2_with fail
   go_ret;exact ⟨ret_bool' _ _ (by rw [prin_or]; simp only [*] <;> rfl), rfl⟩
  | true =>
   have h7n : decide (b.toNat ≤ 126) = true := by have hx := h7; simp only [decide_eq_true_eq] at hx ⊢; omega
   go_wp2_with fail
   go_ret;exact ⟨ret_bool' _ _ (by rw [prin_or]; simp only [*] <;> rfl), rfl⟩
theorem xvalue_any (s : ByteArray) (w : World) (hm : s.size ≤ 9223372036854775807) : Calls Try.prog 61 #[.string s] w fun e w' => e = .returned (.bool (El.valueOK s.data.toList)) ∧ w' = w := by
 go_enter Try.func61, Try.ntmps61;go_wp2_with fail
 go_loopw [3] (fun i wr => ∃ j : Nat, i = .int .i64 j ∧ j ≤ s.size ∧ Hid ((s.data.toList.take j).all El.printable = true) ∧ wr = w) (fun i _ => s.size - (intOf i).toNat)
 case atStart => exact ⟨0, rfl, Nat.zero_le _, by simp [Hid], rfl⟩
 case round =>
  obtain ⟨j, rfl, hj, HA, rfl⟩ := hrel
  by_cases c1 : j < s.size
  ·have d1 : decide ((j : Int) < (s.size : Int)) = true := by simp; omega
   have d1' : (j : Int) < (s.size : Int) := by omega
   obtain ⟨b, hb⟩ : ∃ b, s[j]'c1 = b := ⟨_, rfl⟩;have hst := all_snoc' s.data.toList j (by simpa using c1) El.printable;have hno := all_no s.data.toList j (by simpa using c1) El.printable;have hbl : s.data.toList[j]'(by simpa using c1) = b := hb;rw [hbl] at hst hno;have HS := hid hst;have HN := hid hno;clear hst hno hbl;go_wp2_with fail
   refine Calls.mono (xprintable_byte b _) ?_;rintro _ w2q ⟨rfl, hqw2⟩;replace hqw2 := hqw2.symm;subst hqw2;cases h8 : (El.printable b) with
   | false =>
    go_wp2_with fail
    go_ret;exact ⟨ret_bool' _ _ (by unfold El.valueOK; rw [HN.out (by assumption)]; rfl), rfl⟩
   | true =>
    go_wp2_with fail
    go_roundw
    case rel => exact ⟨j + 1, by go_num, c1, by unfold Hid; rw [HS.out, HA.out]; simp_all, trivial⟩
    case measure => simp [intOf]; omega
  ·have d1 : decide ((j : Int) < (s.size : Int)) = false := by simp; omega
   go_wp2_with fail
   go_ret;exact ⟨ret_bool' _ _ (by unfold El.valueOK; rw [all_end s El.printable j hj c1 HA.out]; rw [show s.data.toList.length = s.size by simp, Bool.eq_iff_iff]; simp; omega), rfl⟩
theorem nameOK_in (s : List UInt8) (h : s.all El.inner = false) : El.nameOK s = false := by
 cases s with
 | nil => rfl
 | cons b r =>
  rw [List.all_cons] at h;show (El.letter b && r.all El.inner) = false;cases hl : El.letter b with
  | false => rfl
  | true =>
   have : El.inner b = true := by unfold El.inner; rw [hl]; rfl
   rw [this, Bool.true_and] at h;rw [h]; rfl
theorem letter_inner (b : UInt8) (h : El.letter b = true) : El.inner b = true := by unfold El.inner; rw [h]; rfl
theorem nameOK_of (s : List UInt8) (h : s.all El.inner = true) : El.nameOK s = El.lett s := by
 cases s with
 | nil => rfl
 | cons b r =>
  rw [List.all_cons, Bool.and_eq_true] at h;show (El.letter b && r.all El.inner) = El.letter b;rw [h.2, Bool.and_true]
theorem xname_any (s : ByteArray) (w : World) (hm : s.size ≤ 9223372036854775807) : Calls Try.prog 60 #[.string s] w fun e w' => e = .returned (.bool (El.nameOK s.data.toList)) ∧ w' = w := by
 go_enter Try.func60, Try.ntmps60;go_wp2_with fail
 go_loopw [3] (fun i wr => ∃ j : Nat, i = .int .i64 j ∧ j ≤ s.size ∧ Hid ((s.data.toList.take j).all El.inner = true) ∧ wr = w) (fun i _ => s.size - (intOf i).toNat)
 case atStart => exact ⟨0, rfl, Nat.zero_le _, by simp [Hid], rfl⟩
 case round =>
  obtain ⟨j, rfl, hj, HA, rfl⟩ := hrel
  by_cases c1 : j < s.size
  ·have d1 : decide ((j : Int) < (s.size : Int)) = true := by simp; omega
   have d1' : (j : Int) < (s.size : Int) := by omega
   obtain ⟨b, hb⟩ : ∃ b, s[j]'c1 = b := ⟨_, rfl⟩;have hst := all_snoc' s.data.toList j (by simpa using c1) El.inner;have hno := all_no s.data.toList j (by simpa using c1) El.inner;have hbl : s.data.toList[j]'(by simpa using c1) = b := hb;rw [hbl] at hst hno;have HS := hid hst;have HN := hid hno;clear hst hno hbl;go_wp2_with fail
   refine Calls.mono (xinname_byte b _) ?_;rintro _ w3q ⟨rfl, hqw3⟩;replace hqw3 := hqw3.symm;subst hqw3;cases h9 : (El.inner b) with
   | false =>
    go_wp2_with fail
    go_ret;exact ⟨ret_bool' _ _ (by rw [nameOK_in _ (HN.out (by assumption))]), rfl⟩
   | true =>
    go_wp2_with fail
    go_roundw
    case rel => exact ⟨j + 1, by go_num, c1, by unfold Hid; rw [HS.out, HA.out]; simp_all, trivial⟩
    case measure => simp [intOf]; omega
  ·have d1 : decide ((j : Int) < (s.size : Int)) = false := by simp; omega
   have HALL := hid (nameOK_of _ (all_end s El.inner j hj c1 HA.out));cases hs : s.data.toList with
   | nil =>
    have e0 : s.toList.isEmpty = true := by rw [ByteArray.toList_eq, hs]; rfl
    have HALL2 := hid (show El.nameOK s.data.toList = false from by rw [HALL.out, hs]; rfl);clear hs;go_wp2_with fail
    go_ret;exact ⟨ret_bool' _ _ HALL2.out.symm, rfl⟩
   | cons b r =>
    obtain ⟨e0, hsz, hb⟩ := first_byte hs;have HALL2 := hid (show El.nameOK s.data.toList = El.letter b from by rw [HALL.out, hs]; rfl);clear hs;go_wp2_with fail
    refine (xletter_byte b _).mono ?_;rintro _ w1 ⟨rfl, hw1⟩;replace hw1 := hw1.symm;subst hw1;go_wp2_with fail
    go_ret;exact ⟨ret_bool' _ _ HALL2.out.symm, rfl⟩
end Go.Proofs.Ytloipakdnalpdaa
namespace Go.Proofs.Ytloipakdnalpdaa
open Go.RowKit
open El (E Attrs)
def Stab (S : Nat → Prop) (w : World) (P : World → Prop) : Prop := ∀ W', Touch S w W' → P W'
theorem Stab.now {S : Nat → Prop} {w : World} {P : World → Prop} (h : Stab S w P) : P w := h w (Touch.refl _ _)
theorem Touch.join {S S1 S2 : Nat → Prop} {a b c : World} (h : Touch S1 a b) (k : Touch S2 b c) (h1 : ∀ i, i < a.heap.size → S1 i → S i) (h2 : ∀ i, i < a.heap.size → S2 i → S i) : Touch S a c :=
 ⟨k.os.trans h.os, k.tape.trans h.tape, k.output.trans h.output, Nat.le_trans h.size k.size, fun i hi hn =>
  (k.block i (Nat.lt_of_lt_of_le hi h.size) (fun hs => hn (h2 i hi hs))).trans (h.block i hi (fun hs => hn (h1 i hi hs)))⟩
theorem Stab.step {S S1 S2 : Nat → Prop} {w w1 : World} {P : World → Prop} (h : Stab S w P) (ht : Touch S1 w w1) (h1 : ∀ i, i < w.heap.size → S1 i → S i) (h2 : ∀ i, i < w.heap.size → S2 i → S i) : Stab S2 w1 P :=
 fun W' hW => h W' (ht.join hW h1 h2)
theorem Stab.fresh {S : Nat → Prop} {w w1 : World} {P : World → Prop} (h : Stab S w P) (ht : Fresh w w1) : Stab S w1 P := h.step ht (fun _ _ h => h.elim) (fun _ _ h => h)
theorem Stab.mono {S S' : Nat → Prop} {w : World} {P : World → Prop} (h : Stab S w P) (hS : ∀ i, i < w.heap.size → S' i → S i) : Stab S' w P := h.step (Touch.refl (fun _ => False) w) (fun _ _ h => h.elim) hS
theorem Stab.imp {S : Nat → Prop} {w : World} {P Q : World → Prop} (h : Stab S w P) (hPQ : ∀ W, P W → Q W) : Stab S w Q := fun W hW => hPQ W (h W hW)
theorem Stab.and {S : Nat → Prop} {w : World} {P Q : World → Prop} (h : Stab S w P) (h' : Stab S w Q) : Stab S w fun W => P W ∧ Q W := fun W hW => ⟨h W hW, h' W hW⟩
def Made (w w' : World) (P : World → Prop) : Prop := Fresh w w' ∧ Stab (fun k => k < w.heap.size) w' P
def ElsAt (W : World) : List E → List Value → Prop
 | [], cs => cs = []
 | e :: es, cs => ∃ va vk ds, cs = .string ⟨e.name.toArray⟩ :: va :: vk :: .string ⟨e.text.toArray⟩ :: ds ∧ RepV W e va vk ∧ ElsAt W es ds
theorem ElsAt.length {W : World} : ∀ {es : List E} {cs : List Value}, ElsAt W es cs → cs.length = es.length * 4
 | [], cs, h => by rw [show cs = [] from h]; rfl
 | e :: es, cs, ⟨va, vk, ds, h, _, hd⟩ => by
  have := ElsAt.length hd;rw [h];simp only [List.length_cons];omega
theorem ElsAt.append {W : World} : ∀ {es fs : List E} {cs ds : List Value}, ElsAt W es cs → ElsAt W fs ds → ElsAt W (es ++ fs) (cs ++ ds)
 | [], _, cs, _, h, h' => by rw [show cs = [] from h]; exact h'
 | _ :: _, _, _, _, ⟨va, vk, cs, h, hr, hd⟩, h' => ⟨va, vk, cs ++ _, by rw [h]; rfl, hr, hd.append h'⟩
theorem ElsAt.one {W : World} {e : E} {va vk : Value} (h : RepV W e va vk) : ElsAt W [e] [.string ⟨e.name.toArray⟩, va, vk, .string ⟨e.text.toArray⟩] := ⟨va, vk, [], rfl, h, rfl⟩
theorem ElsAt.get {W : World} : ∀ {es : List E} {cs : List Value}, ElsAt W es cs → ∀ i (hi : i < es.length), ∃ va vk, cs[i * 4]? = some (.string ⟨es[i].name.toArray⟩) ∧ cs[i * 4 + 1]? = some va ∧ cs[i * 4 + 2]? = some vk ∧ cs[i * 4 + 3]? = some (.string ⟨es[i].text.toArray⟩) ∧ RepV W es[i] va vk
 | [], _, _, i, hi => by simp at hi
 | e :: es, cs, ⟨va, vk, ds, h, hr, hd⟩, i, hi => by
  subst h;cases i with
  | zero => exact ⟨va, vk, rfl, rfl, rfl, rfl, hr⟩
  | succ i =>
   obtain ⟨a, k, g0, g1, g2, g3, g4⟩ := hd.get i (by simpa using hi);refine ⟨a, k, ?_, ?_, ?_, ?_, g4⟩
   ·rw [show (i + 1) * 4 = i * 4 + 4 by omega]; exact g0
   ·rw [show (i + 1) * 4 + 1 = i * 4 + 1 + 4 by omega]; exact g1
   ·rw [show (i + 1) * 4 + 2 = i * 4 + 2 + 4 by omega]; exact g2
   ·rw [show (i + 1) * 4 + 3 = i * 4 + 3 + 4 by omega]; exact g3
theorem ElsAt.rep {W : World} {es : List E} {cs : List Value} {g cap : Nat} (h : ElsAt W es cs) (hg : g < W.heap.size) (hl : es.length ≤ maxLen) (hc : ∀ j u, cs[j]? = some u → W.cell? ⟨g, j, none⟩ = some u) : RepE W es (.slice (some ⟨g, 0, none⟩) es.length cap) := by
 refine RepE.row g 0 cap es (fun i => (cs[i * 4 + 1]?).getD (.bool false)) (fun i => (cs[i * 4 + 2]?).getD (.bool false)) hg hl ?_ ?_ ?_ ?_ ?_ ?_ ?_
 all_goals (intro i hi; obtain ⟨va, vk, g0, g1, g2, g3, g4⟩ := h.get i hi)
 ·exact g4.2.2
 ·rw [Nat.zero_add]; exact hc _ _ g0
 ·rw [Nat.zero_add, g1]; exact hc _ _ g1
 ·rw [Nat.zero_add, g2]; exact hc _ _ g2
 ·rw [Nat.zero_add]; exact hc _ _ g3
 ·rw [g1]; exact g4.1
 ·rw [g2]; exact g4.2.1
theorem ElsAt.own {W : World} {es : List E} {cs : List Value} {B t : Nat} {v : Value} (h : ElsAt W es cs) (ho : W.ownsRow B t 4 v es.length cs) : RepE W es v := by
 rcases ho.2 with ⟨rfl, h0⟩ | ⟨g, cap, cur, rfl, hB, hb, h1, h2, _⟩
 ·rw [List.length_eq_zero_iff.1 h0]
  exact .nil _ _
 ·exact h.rep (ho.lt g rfl).2 (Nat.le_trans h1 h2) fun j u hu => by
   have := ho.cells (g := g) rfl j u hu;rw [Addr.add_mid, Nat.zero_add] at this;exact this
theorem own_slc {W : World} {B e size n : Nat} {v : Value} {xs : List Value} (h : W.ownsRow B e size v n xs) : ∃ A c, v = .slice A n c := by
 rcases h.2 with ⟨h1, h2⟩ | ⟨g, cap, cur, h1, _⟩
 ·exact ⟨none, 0, by rw [h1, h2]⟩
 ·exact ⟨_, _, h1⟩
def GrowE (B : Nat) (w : World) (es : List E) (v : Value) : Prop := B ≤ w.heap.size ∧ ∃ cs, w.ownsRow B 30 4 v es.length cs ∧ Stab (fun k => v.ownBlock = some k ∨ k < B) w fun W => ElsAt W es cs
theorem GrowE.nil {B : Nat} {w : World} (hB : B ≤ w.heap.size) : GrowE B w [] (.slice none 0 0) := ⟨hB, [], World.ownsRow_nil _ _ _ _, fun _ _ => rfl⟩
theorem GrowE.own_lt {B : Nat} {w : World} {es : List E} {v : Value} (h : GrowE B w es v) : ∀ k, v.ownBlock = some k → B ≤ k ∧ k < w.heap.size := fun k hk => by
 obtain ⟨_, cs, h1, _⟩ := h;exact h1.lt k hk
theorem GrowE.slice {B : Nat} {w : World} {es : List E} {v : Value} (h : GrowE B w es v) : ∃ A cap, v = .slice A es.length cap := by
 obtain ⟨_, cs, h1, _⟩ := h;exact own_slc h1
theorem GrowE.mv {B : Nat} {w w1 : World} {es : List E} {v : Value} {S : Nat → Prop} (h : GrowE B w es v) (ht : Touch S w w1) (hS : ∀ k, S k → k < w.heap.size → k < B) : GrowE B w1 es v := by
 obtain ⟨hB, cs, h1, h2⟩ := h;refine ⟨Nat.le_trans hB ht.size, cs, ownsRow_touch h1 ht fun k hk hs => ?_, h2.step ht (fun i hi hs => .inr (hS i hs hi)) (fun _ _ h => h)⟩;have h3 := h1.lt k hk;have := hS k hs h3.2;omega
theorem GrowE.fresh {B : Nat} {w w1 : World} {es : List E} {v : Value} (h : GrowE B w es v) (ht : Fresh w w1) : GrowE B w1 es v := h.mv ht fun _ h => h.elim
theorem GrowE.rep {B : Nat} {w : World} {es : List E} {v : Value} (h : GrowE B w es v) : RepE w es v := by
 obtain ⟨_, cs, h1, h2⟩ := h;exact h2.now.own h1
theorem GrowE.done {B : Nat} {w : World} {es : List E} {v : Value} (h : GrowE B w es v) : Stab (fun k => k < B) w fun W => RepE W es v := fun _ hW => (h.mv hW fun _ h _ => h).rep
theorem RepE.oneCell {W : World} {es : List E} {v : Value} (h : RepE W es v) : v.oneCell' = true := by
 obtain ⟨A, cap, rfl⟩ := h.slice;rfl
theorem RepA.oneCell {W : World} {ats : Attrs} {v : Value} (h : RepA W ats v) : v.oneCell' = true := by
 obtain ⟨A, cap, rfl⟩ := h.slice;rfl
section
variable {w : World} {ops : Array Oper} {rest : List Oper} {o : Oper} {a : Act} {Q : Exit → Act → World → Prop}
theorem wpList_append_elem (hgd : o.guard = none) (s x : Operand)
  (ho : o.op = .call { callee := .builtin .append, args := #[s, x], argTypes := #[28, 28] })
  {B n g : Nat} {es : List E} {v : Value} (h : GrowE B w es v) (hn : es.length = n) (hs : a.eval s = v) (e : E) {va vk : Value} (hb : Blk w g 30 #[.string ⟨e.name.toArray⟩, va, vk, .string ⟨e.text.toArray⟩]) (hx : a.eval x = .slice (some ⟨g, 0, none⟩) 1 1)
  (w0 : Nat) (hB : B ≤ w0) (hown : ∀ k, v.ownBlock = some k → k < w0) (hrv : Stab (fun k => k < w0) w fun W => RepV W e va vk) (hlen : n < 2 ^ 40)
  (hK : ∀ A cp w', GrowE B w' (es ++ [e]) (.slice A (n + 1) cp) → Touch (fun k => v.ownBlock = some k) w w' → ((Value.slice A (n + 1) cp).ownBlock = v.ownBlock ∨ (Value.slice A (n + 1) cp).ownBlock = some w.heap.size) → wpList Try.prog ops Q rest (a.put o.dst (.slice A (n + 1) cp)) w') : wpList Try.prog ops Q (o :: rest) a w := by
 subst hn;obtain ⟨hBw, cs, h1, h2⟩ := h;obtain ⟨i, hi, hz0, hz1, hz2⟩ := info_parts infoElem;have hv := hrv.now
 have h3 : ∀ u ∈ [Value.string ⟨e.name.toArray⟩, va, vk, .string ⟨e.text.toArray⟩], u.oneCell' = true := by
  intro u hu;simp only [List.mem_cons, List.not_mem_nil, or_false] at hu
  rcases hu with rfl | rfl | rfl | rfl
  ·rfl
  ·exact hv.1.oneCell
  ·exact hv.2.1.oneCell
  ·rfl
 refine wpList_append_src _ hgd s x 28 ho B 30 i _ 4 80 Try.underlying28 hi hz0 hz1 hz2 rfl (by decide) v es.length cs hs h1 _ 1 _ hx (Src.of_blk hb rfl) h3 (by simp only [maxLen]; omega) (by omega) hBw fun v' w' ho' hgr hv' => ?_
 obtain ⟨A, cp, rfl⟩ := own_slc ho';have ht : Touch (fun k => v.ownBlock = some k) w w' := Touch.grown (Touch.refl _ _) hgr fun k hk => .inl hk
 refine hK A cp w' ⟨Nat.le_trans hBw hgr.size, _, by rw [List.length_append]; exact ho', ?_⟩ ht hv'
 have hS : ∀ i, i < w.heap.size → ((Value.slice A (es.length + 1) cp).ownBlock = some i ∨ i < B) → (v.ownBlock = some i ∨ i < B) := fun i hi hs => by
  rcases hs with hs | hs
  ·rcases hv' with h6 | h6 <;> rw [h6] at hs
   ·exact .inl hs
   ·cases hs; omega
  ·exact .inr hs
 refine ((h2.step ht (fun i _ hs => .inl hs) hS).and (hrv.step ht (fun i hi hs => hown i hs) fun i hi hs => ?_)).imp fun W ⟨h6, h7⟩ => h6.append (ElsAt.one h7)
 rcases hS i hi hs with h6 | h6
 ·exact hown i h6
 ·omega
end
theorem str_decT (a b : List UInt8) (p : Bool) (h : (a == b) = p) : ((⟨a.toArray⟩ : ByteArray) == (⟨b.toArray⟩ : ByteArray)) = p := by
 rw [str_eq', ← h]
theorem xhas1_any (x nm : List UInt8) (y : ByteArray) (p : Nat) (w : World) (hp : w.cell? ⟨p, 0, none⟩ = some (.string ⟨nm.toArray⟩)) :
  Calls Try.prog 83 #[.agg #[.string ⟨x.toArray⟩, .string y], .pointer (some ⟨p, 0, none⟩)] w fun e w' => e = .returned (.bool (x == nm)) ∧ Fresh w w' := by
 have hlt := bL hp;go_enter Try.func83, Try.ntmps83;go_wp2_with fail
 go_ret;exact ⟨rfl, frR⟩
theorem any_snoc {α : Type} (l : List α) (j : Nat) (h : j < l.length) (p : α → Bool) : (l.take (j + 1)).any p = ((l.take j).any p || p l[j]) := by
 rw [List.take_add_one, List.getElem?_eq_getElem h, List.any_append]; simp only [Option.toList_some, List.any_cons, List.any_nil, Bool.or_false]
theorem xindex_any (ats : Attrs) (nm : List UInt8) (p : Nat) (va : Value) (w : World) (ha : RepA w ats va) (hp : w.cell? ⟨p, 0, none⟩ = some (.string ⟨nm.toArray⟩)) :
  Calls Try.prog 89 #[va, .func (.func 83) #[] #[.pointer (some ⟨p, 0, none⟩)]] w fun e w' => ∃ k : Int, e = .returned (.int .i64 k) ∧ decide (0 ≤ k) = ats.any (fun x => x.1 == nm) ∧ Fresh w w' := by
 have hl1 : ats.length ≤ maxLen := by obtain ⟨_, _, _, h, _⟩ := ha; exact h.1
 unfold maxLen at hl1;obtain ⟨A, ca, rfl⟩ := ha.slice;have HA := hid ha;have HP := hid hp;clear ha hp;go_enter Try.func89, Try.ntmps89;go_wp2_with fail
 go_loopw [8] (fun i wr => ∃ j : Nat, i = .int .i64 j ∧ j ≤ ats.length ∧ Hid ((ats.take j).any (fun x => x.1 == nm) = false) ∧ Hid (Fresh w wr)) (fun i _ => ats.length - (intOf i).toNat)
 case atStart => exact ⟨0, rfl, Nat.zero_le _, by simp [Hid], Touch.refl _ _⟩
 case round =>
  obtain ⟨j, rfl, hj, HT, HF⟩ := hrel
  by_cases c1 : j < ats.length
  ·have d1 : decide ((j : Int) < (ats.length : Int)) = true := dT (by omega)
   have d1' : (j : Int) < (ats.length : Int) := by omega
   obtain ⟨g, o, rfl, hg, m0, m1, _, _⟩ := HA.out.get j c1;have e0 := HF.out.cell m0 (fun h => h);have f0 := HF.out.cell m1 (fun h => h);clear m0 m1;have HS := hid (any_snoc ats j c1 (fun x => x.1 == nm));have HIN := hid (show (ats[j].1 == nm) = true → ats.any (fun x => x.1 == nm) = true from fun h => List.any_eq_true.2 ⟨ats[j], List.getElem_mem c1, h⟩);generalize ats[j] = x at *;go_wp2_with fail
   refine (xhas1_any x.1 nm _ p _ (HF.out.cell HP.out fun h => h)).mono ?_;rintro _ w1 ⟨rfl, hf⟩;have HF1 := hid (HF.out.trans hf);clear hf;cases h4 : x.1 == nm with
   | true =>
    have HI2 := hid (HIN.out h4);clear h4;go_wp2_with fail
    go_ret;exact ⟨_, rfl, by rw [HI2.out]; exact dT (by omega), HF1.out⟩
   | false =>
    have HS2 := hid (show (ats.take (j + 1)).any (fun x => x.1 == nm) = false by rw [HS.out, HT.out, h4]; rfl);clear h4;go_wp2_with fail
    go_roundw
    case rel => exact ⟨j + 1, by go_num, c1, HS2, HF1⟩
    case measure => simp [intOf]; omega
  ·have d1 : decide ((j : Int) < (ats.length : Int)) = false := dF (by omega)
   obtain rfl : j = ats.length := by omega
   go_wp2_with fail
   go_ret;refine ⟨_, rfl, ?_, HF.out⟩;have := HT.out;rw [List.take_length] at this;rw [this]; rfl
theorem xcontains_any (ats : Attrs) (nm : List UInt8) (p : Nat) (va : Value) (w : World) (ha : RepA w ats va) (hp : w.cell? ⟨p, 0, none⟩ = some (.string ⟨nm.toArray⟩)) :
  Calls Try.prog 82 #[va, .func (.func 83) #[] #[.pointer (some ⟨p, 0, none⟩)]] w fun e w' => e = .returned (.bool (ats.any (fun x => x.1 == nm))) ∧ Fresh w w' := by
 obtain ⟨A, ca, rfl⟩ := ha.slice;have HA := hid ha;have HP := hid hp;clear ha hp;go_enter Try.func82, Try.ntmps82;go_wp2_with fail
 refine (xindex_any ats nm p _ _ HA.out HP.out).mono ?_;rintro _ w1 ⟨k, rfl, hk, hf⟩;have HF := hid hf;have HK := hid hk;clear hf hk;go_wp2_with fail
 go_ret;exact ⟨ret_bool' _ _ HK.out, HF.out⟩
theorem xhas_any (ats : Attrs) (nm : List UInt8) (va : Value) (w : World) (ha : RepA w ats va) :
  Calls Try.prog 62 #[va, .string ⟨nm.toArray⟩] w fun e w' => e = .returned (.bool (ats.any (fun x => x.1 == nm))) ∧ Fresh w w' := by
 obtain ⟨A, ca, rfl⟩ := ha.slice;have HA := hid ha;clear ha;go_enter Try.func62, Try.ntmps62;go_wp2_with fail
 refine (xcontains_any ats nm w.heap.size _ _ (by exact HA.out.fresh frR) (by exact (Blk.new _ _ _).cell 0)).mono ?_;rintro _ w1 ⟨rfl, hf⟩;have HF := hid (show Fresh w w1 from preA hf);clear hf;go_wp2_with fail
 go_ret;exact ⟨rfl, HF.out⟩
def NoStr (w : World) (b : Nat) : Prop := ∀ o x, w.cell? ⟨b, o, none⟩ ≠ some (.string x)
theorem NoStr.int {w : World} {c : Nat} {k : Int} (h : Blk w c 3 #[.int .i64 k]) : NoStr w c := by
 intro o x hx;rw [h.cell] at hx
 match o with
 | 0 => cases hx
 | _ + 1 => cases hx
theorem RepA.turn {S : Nat → Prop} {W W' : World} {ats : Attrs} {v : Value} (h : RepA W ats v) (ht : Touch S W W') (hS : ∀ b, S b → NoStr W b) : RepA W' ats v := by
 obtain ⟨A, cap, h1, h2, h3, h4⟩ := h;refine ⟨A, cap, h1, h2, h3, h4.imp id ?_⟩;rintro ⟨g, o, hA, hg, hc⟩;refine ⟨g, o, hA, Nat.lt_of_lt_of_le hg ht.size, fun i hi => ?_⟩;have hn : ¬ S g := fun hs => hS g hs _ _ (hc i hi).1
 exact ⟨ht.cell (hc i hi).1 hn, ht.cell (hc i hi).2 hn⟩
theorem RepE.turn {S : Nat → Prop} {W W' : World} {es : List E} {v : Value} (h : RepE W es v) (ht : Touch S W W') (hS : ∀ b, S b → NoStr W b) : RepE W' es v := by
 induction h with
 | nil A cap => exact .nil A cap
 | row g o cap es al sl hg hl htx h0 h1 h2 h3 ha hk ih =>
  have hn : ∀ i, i < es.length → ¬ S g := fun i hi hs => hS g hs _ _ (h0 i hi)
  exact .row g o cap es al sl (Nat.lt_of_lt_of_le hg ht.size) hl htx (fun i hi => ht.cell (h0 i hi) (hn i hi)) (fun i hi => ht.cell (h1 i hi) (hn i hi)) (fun i hi => ht.cell (h2 i hi) (hn i hi)) (fun i hi => ht.cell (h3 i hi) (hn i hi)) (fun i hi => (ha i hi).turn ht hS) ih
theorem RepV.turn {S : Nat → Prop} {W W' : World} {e : E} {va vk : Value} (h : RepV W e va vk) (ht : Touch S W W') (hS : ∀ b, S b → NoStr W b) : RepV W' e va vk := ⟨h.1.turn ht hS, h.2.1.turn ht hS, h.2.2⟩
theorem RepA.take {W : World} {ats : Attrs} {A : Option Addr} {len cap : Nat} (h : RepA W ats (.slice A len cap)) (i : Nat) (hi : i ≤ ats.length) : RepA W (ats.take i) (.slice A i cap) := by
 obtain ⟨A', cap', h1, h2, h3, h4⟩ := h;cases h1;have hln : (ats.take i).length = i := by rw [List.length_take]; omega
 refine ⟨A, cap, by rw [hln], ⟨by rw [hln]; omega, by rw [hln]; omega⟩, fun x hx => h3 x (List.mem_of_mem_take hx), ?_⟩
 rcases h4 with rfl | ⟨g, o, hA, hg, hc⟩
 ·exact .inl (by simp)
 ·refine .inr ⟨g, o, hA, hg, fun k hk => ?_⟩
  have := hc k (by omega);simpa using this
theorem RepA.cap {W : World} {ats : Attrs} {A : Option Addr} {len cap : Nat} (h : RepA W ats (.slice A len cap)) : ats.length ≤ cap := by
 obtain ⟨A', cap', h1, h2, h3, h4⟩ := h;cases h1;exact h2.2
def ElAt (w : World) (g o : Nat) (e : E) (va vk : Value) : Prop := g < w.heap.size ∧ w.cell? ⟨g, o, none⟩ = some (.string ⟨e.name.toArray⟩) ∧ w.cell? ⟨g, o + 1, none⟩ = some va ∧ w.cell? ⟨g, o + 2, none⟩ = some vk ∧ w.cell? ⟨g, o + 3, none⟩ = some (.string ⟨e.text.toArray⟩) ∧ RepV w e va vk
theorem ElAt.turn {S : Nat → Prop} {w w' : World} {g o : Nat} {e : E} {va vk : Value} (h : ElAt w g o e va vk) (ht : Touch S w w') (hS : ∀ b, S b → NoStr w b) : ElAt w' g o e va vk := by
 have hn : ¬ S g := fun hs => hS g hs _ _ h.2.1
 exact ⟨Nat.lt_of_lt_of_le h.1 ht.size, ht.cell h.2.1 hn, ht.cell h.2.2.1 hn, ht.cell h.2.2.2.1 hn, ht.cell h.2.2.2.2.1 hn, h.2.2.2.2.2.turn ht hS⟩
theorem ElAt.fresh {w w' : World} {g o : Nat} {e : E} {va vk : Value} (h : ElAt w g o e va vk) (ht : Fresh w w') : ElAt w' g o e va vk := h.turn ht fun _ hf => hf.elim
theorem ElAt.ne {w : World} {g o : Nat} {e : E} {va vk : Value} (h : ElAt w g o e va vk) {c : Nat} (hc : NoStr w c) : g ≠ c := fun he => hc o _ (he ▸ h.2.1)
theorem RepE.elAt {W : World} {es : List E} {A : Option Addr} {len cap : Nat} (h : RepE W es (.slice A len cap)) (i : Nat) (hi : i < es.length) :
  ∃ g o va vk, A = some ⟨g, o, none⟩ ∧ ElAt W g (o + i * 4) es[i] va vk := by
 obtain ⟨g, o, va, vk, hA, hg, h0, h1, h2, h3, hr⟩ := h.get i hi;exact ⟨g, o, va, vk, hA, hg, h0, h1, h2, h3, hr⟩
namespace El
def vald (d k : Nat) (e : E) : Bool := proper e && decide (d + depth e ≤ 65) && decide (k + count e ≤ 3000)
def valdL (d k : Nat) (l : List E) : Bool := properL l && decide (d + depthL l ≤ 65) && decide (k + countL l ≤ 3000)
theorem vald_top (e : E) : vald 1 0 e = valid e := by
 unfold vald valid;rw [Bool.eq_iff_iff];simp only [Bool.and_eq_true, decide_eq_true_eq, Nat.zero_add];constructor
 ·rintro ⟨⟨h1, h2⟩, h3⟩; exact ⟨⟨h1, h3⟩, by omega⟩
 ·rintro ⟨⟨h1, h2⟩, h3⟩; exact ⟨⟨h1, by omega⟩, h2⟩
theorem vald_eq (d k : Nat) (e : E) : vald d k e = (decide (k + 1 ≤ 3000) && decide (d ≤ 64) && ownOK e && valdL (d + 1) (k + 1) e.kids) := by
 unfold vald valdL;rw [proper_eq, depth_kids, count_kids, Bool.eq_iff_iff];simp only [Bool.and_eq_true, decide_eq_true_eq];constructor
 ·rintro ⟨⟨⟨h1, h2⟩, h3⟩, h4⟩; exact ⟨⟨⟨by omega, by omega⟩, h1⟩, ⟨h2, by omega⟩, by omega⟩
 ·rintro ⟨⟨⟨h1, h2⟩, h3⟩, ⟨h4, h5⟩, h6⟩; exact ⟨⟨⟨h3, h4⟩, by omega⟩, by omega⟩
theorem valdL_snoc (d k : Nat) (l : List E) (j : Nat) (h : j < l.length) : valdL d k (l.take (j + 1)) = (valdL d k (l.take j) && vald d (k + countL (l.take j)) l[j]) := by
 unfold valdL vald;rw [properL_all, properL_all, depthL_take l j h, countL_take l j h, List.take_add_one, List.getElem?_eq_getElem h, List.all_append];simp only [Option.toList_some, List.all_cons, List.all_nil, Bool.and_true];rw [Bool.eq_iff_iff];simp only [Bool.and_eq_true, decide_eq_true_eq];constructor
 ·rintro ⟨⟨⟨h1, h2⟩, h3⟩, h4⟩; exact ⟨⟨⟨h1, by omega⟩, by omega⟩, ⟨h2, by omega⟩, by omega⟩
 ·rintro ⟨⟨⟨h1, h2⟩, h3⟩, ⟨h4, h5⟩, h6⟩; exact ⟨⟨⟨h1, h4⟩, by omega⟩, by omega⟩
theorem valdL_no (d k : Nat) (l : List E) (j : Nat) (h : valdL d k (l.take j) = false) : valdL d k l = false := by
 rw [← Bool.not_eq_true] at h ⊢;intro h';apply h
 unfold valdL at h' ⊢;simp only [Bool.and_eq_true, decide_eq_true_eq] at h' ⊢;obtain ⟨⟨h1, h2⟩, h3⟩ := h';have := countL_le l j
 have hd : depthL (l.take j) ≤ depthL l := by
  have e : l = l.take j ++ l.drop j := (List.take_append_drop j l).symm;have := depthL_app (l.take j) (l.drop j);rw [← e] at this;omega
 refine ⟨⟨?_, by omega⟩, by omega⟩;rw [properL_all] at h1 ⊢;rw [List.all_eq_true] at h1 ⊢;exact fun x hx => h1 x (List.mem_of_mem_take hx)
theorem attrsOK_nil : attrsOK [] = true := rfl
theorem attrsOK_snoc (l : Attrs) (j : Nat) (h : j < l.length) : attrsOK (l.take (j + 1)) = (attrsOK (l.take j) && (nameOK l[j].1 && valueOK l[j].2 && !(l.take j).any (fun x => x.1 == l[j].1))) := by
 unfold attrsOK;rw [List.take_add_one, List.getElem?_eq_getElem h, List.all_append, List.map_append];simp only [Option.toList_some, List.all_cons, List.all_nil, Bool.and_true, List.map_cons, List.map_nil];rw [Bool.eq_iff_iff];simp only [Bool.and_eq_true, decide_eq_true_eq, Bool.not_eq_true', List.any_eq_false, List.nodup_append, List.mem_map, List.mem_singleton, beq_iff_eq];constructor
 ·rintro ⟨⟨h1, h2, h3⟩, h4, h5, h6⟩
  refine ⟨⟨h1, h4⟩, ⟨h2, h3⟩, fun x hx he => ?_⟩;exact h6 _ ⟨x, hx, rfl⟩ _ rfl he
 ·rintro ⟨⟨h1, h4⟩, ⟨h2, h3⟩, h5⟩
  refine ⟨⟨h1, h2, h3⟩, h4, by simp, ?_⟩;rintro _ ⟨x, hx, rfl⟩ _ rfl he;exact h5 x hx he
theorem attrsOK_no (l : Attrs) (j : Nat) (h : attrsOK (l.take j) = false) : attrsOK l = false := by
 rw [← Bool.not_eq_true] at h ⊢;intro h';apply h
 unfold attrsOK at h' ⊢;simp only [Bool.and_eq_true, decide_eq_true_eq] at h' ⊢;obtain ⟨h1, h2⟩ := h';refine ⟨?_, ?_⟩
 ·rw [List.all_eq_true] at h1 ⊢
  exact fun x hx => h1 x (List.mem_of_mem_take hx)
 ·rw [List.map_take]
  exact (List.take_sublist _ _).nodup h2
end El
end Go.Proofs.Ytloipakdnalpdaa
