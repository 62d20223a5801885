/- Part 11 of 33 of a proof; its texts, joined: ElM, ElP, MkA, XmA, MoL. No condition. -/
import Derived.Test.YtfnjcldgicohaaaGreatWa1
import Derived.Test.YtfnjcldgicohaaaGreatWa8
set_option maxRecDepth 100000
set_option maxHeartbeats 1000000
namespace Go.Proofs.YtfnjcldgicohaaaGreat.El
abbrev Bytes := List UInt8
abbrev Attrs := List (Bytes × Bytes)
inductive E where
 | mk (name : Bytes) (attrs : Attrs) (kids : List E) (text : Bytes)
namespace E
def name : E → Bytes | mk n _ _ _ => n
def attrs : E → Attrs | mk _ a _ _ => a
def kids : E → List E | mk _ _ k _ => k
def text : E → Bytes | mk _ _ _ t => t
end E
theorem E.eta (e : E) : e = .mk e.name e.attrs e.kids e.text := by cases e; rfl
mutual
def count : E → Nat
 | .mk _ _ ks _ => 1 + countL ks
def countL : List E → Nat
 | [] => 0
 | n :: ns => count n + countL ns
end
mutual
def depth : E → Nat
 | .mk _ _ ks _ => depthL ks + 1
def depthL : List E → Nat
 | [] => 0
 | n :: ns => max (depth n) (depthL ns)
end
theorem count_pos (n : E) : 0 < count n := by cases n; rw [count]; omega
theorem depth_pos (n : E) : 0 < depth n := by cases n; rw [depth]; omega
theorem count_kids (n : E) : count n = 1 + countL n.kids := by cases n; rw [count]; rfl
theorem depth_kids (n : E) : depth n = depthL n.kids + 1 := by cases n; rw [depth]; rfl
theorem countL_take (l : List E) (i : Nat) (h : i < l.length) : countL (l.take (i + 1)) = countL (l.take i) + count l[i] := by
 induction l generalizing i with
 | nil => simp at h
 | cons x l ih =>
  cases i with
  | zero => simp [countL]
  | succ i =>
   simp only [List.take_succ_cons, countL, List.getElem_cons_succ];rw [ih i (by simpa using h)]; omega
theorem countL_app (l m : List E) : countL (l ++ m) = countL l + countL m := by
 induction l with
 | nil => simp [countL]
 | cons x l ih => rw [List.cons_append, countL, countL, ih]; omega
theorem depthL_app (l m : List E) : depthL (l ++ m) = max (depthL l) (depthL m) := by
 induction l with
 | nil => simp [depthL]
 | cons x l ih => rw [List.cons_append, depthL, depthL, ih]; omega
theorem depthL_take (l : List E) (i : Nat) (h : i < l.length) : depthL (l.take (i + 1)) = max (depthL (l.take i)) (depth l[i]) := by
 rw [List.take_add_one, List.getElem?_eq_getElem h, depthL_app];simp [depthL]
theorem countL_le (l : List E) (i : Nat) : countL (l.take i) ≤ countL l := by
 induction l generalizing i with
 | nil => simp [countL]
 | cons x l ih =>
  cases i with
  | zero => simp [countL]
  | succ i => simp only [List.take_succ_cons, countL]; have := ih i; omega
theorem count_mem {l : List E} {n : E} (h : n ∈ l) : count n ≤ countL l := by
 induction l with
 | nil => cases h
 | cons x l ih =>
  rw [countL]
  rcases List.mem_cons.1 h with rfl | h
  ·omega
  ·have := ih h; omega
theorem depth_mem {l : List E} {n : E} (h : n ∈ l) : depth n ≤ depthL l := by
 induction l with
 | nil => cases h
 | cons x l ih =>
  rw [depthL]
  rcases List.mem_cons.1 h with rfl | h
  ·omega
  ·have := ih h; omega
theorem countL_len (l : List E) : l.length ≤ countL l := by
 induction l with
 | nil => simp [countL]
 | cons x l ih => rw [countL]; have := count_pos x; simp; omega
theorem E.ind {p : E → Prop} (h : ∀ n, (∀ m ∈ n.kids, p m) → p n) (n : E) : p n := by
 have : ∀ k n, count n ≤ k → p n := by
  intro k
  induction k with
  | zero => intro n hn; have := count_pos n; omega
  | succ k ih =>
   intro n hn;refine h n fun m hm => ih m ?_
   have := count_mem hm;have := count_kids n;omega
 exact this _ n (Nat.le_refl _)
def letter (b : UInt8) : Bool := (decide (97 ≤ b) && decide (b ≤ 122)) || (decide (65 ≤ b) && decide (b ≤ 90))
def inner (b : UInt8) : Bool := letter b || (decide (48 ≤ b) && decide (b ≤ 57)) || b == 45
def printable (b : UInt8) : Bool := decide (32 ≤ b) && decide (b ≤ 126)
def nameOK : Bytes → Bool
 | [] => false
 | b :: s => letter b && s.all inner
def valueOK (s : Bytes) : Bool := s.all printable && decide (s.length ≤ 200)
def attrsOK (a : Attrs) : Bool := a.all (fun x => nameOK x.1 && valueOK x.2) && decide (a.map (·.1)).Nodup
def ownOK (e : E) : Bool := nameOK e.name && valueOK e.text && (e.text.isEmpty || e.kids.isEmpty) && decide (e.attrs.length ≤ 8) && attrsOK e.attrs
mutual
def proper : E → Bool
 | .mk n a ks t => ownOK (.mk n a ks t) && properL ks
def properL : List E → Bool
 | [] => true
 | x :: xs => proper x && properL xs
end
def valid (e : E) : Bool := proper e && decide (count e ≤ 3000) && decide (depth e ≤ 64)
theorem proper_eq (e : E) : proper e = (ownOK e && properL e.kids) := by cases e; rw [proper]; rfl
theorem properL_all (l : List E) : properL l = l.all proper := by
 induction l with
 | nil => rw [properL]; rfl
 | cons x l ih => rw [properL, ih, List.all_cons]
mutual
def eqE : E → E → Bool
 | .mk n a ks t, .mk n' a' ks' t' => n == n' && a == a' && t == t' && eqL ks ks'
def eqL : List E → List E → Bool
 | [], [] => true
 | n :: ns, m :: ms => eqE n m && eqL ns ms
 | _, _ => false
end
theorem eqE_eq (n m : E) : eqE n m = ((n.name == m.name) && (n.attrs == m.attrs) && (n.text == m.text) && eqL n.kids m.kids) := by
 cases n; cases m; rw [eqE]; rfl
theorem eqE_iff (n : E) : ∀ m, eqE n m = true ↔ n = m := by
 induction n using E.ind with
 | h n ih =>
  intro m
  have hL : ∀ (l l' : List E), (∀ x ∈ l, ∀ y, eqE x y = true ↔ x = y) → (eqL l l' = true ↔ l = l') := by
   intro l
   induction l with
   | nil => intro l' _; cases l' <;> simp [eqL]
   | cons x l ihl =>
    intro l' h;cases l' with
    | nil => simp [eqL]
    | cons y l' =>
     rw [eqL, Bool.and_eq_true, h x (by simp) y, ihl l' (fun z hz => h z (by simp [hz]))];simp
  rw [eqE_eq, Bool.and_eq_true, Bool.and_eq_true, Bool.and_eq_true, hL n.kids m.kids ih, beq_iff_eq, beq_iff_eq, beq_iff_eq, E.eta n, E.eta m];simp [E.name, E.attrs, E.kids, E.text]
  constructor
  ·rintro ⟨⟨⟨h1, h2⟩, h3⟩, h4⟩; exact ⟨h1, h2, h4, h3⟩
  ·rintro ⟨h1, h2, h4, h3⟩; exact ⟨⟨⟨h1, h2⟩, h3⟩, h4⟩
theorem eqE_self (n : E) : eqE n n = true := (eqE_iff n n).2 rfl
theorem eqL_length : ∀ (l m : List E), l.length ≠ m.length → eqL l m = false
 | [], [], h => absurd rfl h
 | [], _ :: _, _ => by rw [eqL] <;> simp
 | _ :: _, [], _ => by rw [eqL] <;> simp
 | x :: l, y :: m, h => by rw [eqL, eqL_length l m (by simpa using h), Bool.and_false]
end Go.Proofs.YtfnjcldgicohaaaGreat.El
namespace Go.Proofs.YtfnjcldgicohaaaGreat.El
open Tr (Nd)
def nMath : Bytes := [109, 97, 116, 104]
def nMi : Bytes := [109, 105]
def nMo : Bytes := [109, 111]
def nMn : Bytes := [109, 110]
def nMtext : Bytes := [109, 116, 101, 120, 116]
def nMrow : Bytes := [109, 114, 111, 119]
def nMfrac : Bytes := [109, 102, 114, 97, 99]
def nMsqrt : Bytes := [109, 115, 113, 114, 116]
def nMroot : Bytes := [109, 114, 111, 111, 116]
def nMsub : Bytes := [109, 115, 117, 98]
def nMsup : Bytes := [109, 115, 117, 112]
def nMsubsup : Bytes := [109, 115, 117, 98, 115, 117, 112]
def nMover : Bytes := [109, 111, 118, 101, 114]
def nAccent : Bytes := [97, 99, 99, 101, 110, 116]
def nMfenced : Bytes := [109, 102, 101, 110, 99, 101, 100]
def nOpen : Bytes := [111, 112, 101, 110]
def nClose : Bytes := [99, 108, 111, 115, 101]
def nMtable : Bytes := [109, 116, 97, 98, 108, 101]
def nMtr : Bytes := [109, 116, 114]
def nMtd : Bytes := [109, 116, 100]
def grid {α : Type} (c : Nat) (l : List α) : List (List α) := (List.range ((l.length + c - 1) / c)).map fun r => (l.drop (r * c)).take c
theorem grid_cut {α : Type} (c : Nat) (hc : 0 < c) (l : List α) (i r : Nat) (h : r * c + c ≤ i) : ((l.take i).drop (r * c)).take c = (l.drop (r * c)).take c := by
 rw [List.drop_take, List.take_take, Nat.min_eq_left (by omega)]
theorem ceil_mul (c k : Nat) (hc : 0 < c) : (k * c + c - 1) / c = k := by
 rw [show k * c + c - 1 = c * k + (c - 1) by rw [Nat.mul_comm]; omega, Nat.mul_add_div hc, Nat.div_eq_of_lt (by omega)];omega
theorem ceil_in (c k j : Nat) (hc : 0 < c) (hj : 0 < j) (hjc : j ≤ c) : (k * c + j + c - 1) / c = k + 1 := by
 rw [show k * c + j + c - 1 = c * (k + 1) + (j - 1) by rw [Nat.mul_comm c, Nat.add_mul]; omega, Nat.mul_add_div hc, Nat.div_eq_of_lt (by omega)]
theorem grid_nil {α : Type} (c : Nat) (hc : 0 < c) : grid c ([] : List α) = [] := by
 unfold grid;rw [show (List.length ([] : List α) + c - 1) / c = 0 from Nat.div_eq_of_lt (by simp; omega)];rfl
theorem grid_row {α : Type} (c : Nat) (hc : 0 < c) (l : List α) (k : Nat) (h : k * c + c ≤ l.length) : grid c (l.take (k * c + c)) = grid c (l.take (k * c)) ++ [(l.drop (k * c)).take c] := by
 unfold grid;rw [List.length_take, List.length_take, Nat.min_eq_left h, Nat.min_eq_left (by omega), ceil_mul c k hc, ceil_in c k c hc hc (Nat.le_refl _), List.range_succ, List.map_append]
 congr 1
 ·refine List.map_congr_left fun r hr => ?_
  have hr := List.mem_range.1 hr;have h1 : r * c + c ≤ k * c := by rw [← Nat.succ_mul]; exact Nat.mul_le_mul_right _ hr
  rw [grid_cut c hc l _ r (by omega), grid_cut c hc l _ r h1]
 ·rw [List.map_singleton, grid_cut c hc l _ k (Nat.le_refl _)]
theorem grid_new {α : Type} (c : Nat) (hc : 0 < c) (l : List α) (k : Nat) (h : k * c < l.length) : grid c (l.take (k * c + 1)) = grid c (l.take (k * c)) ++ [[l[k * c]]] := by
 unfold grid;rw [List.length_take, List.length_take, Nat.min_eq_left (by omega), Nat.min_eq_left (by omega), ceil_mul c k hc, ceil_in c k 1 hc (by omega) hc, List.range_succ, List.map_append]
 congr 1
 ·refine List.map_congr_left fun r hr => ?_
  have hr := List.mem_range.1 hr;have h1 : r * c + c ≤ k * c := by rw [← Nat.succ_mul]; exact Nat.mul_le_mul_right _ hr
  rw [grid_cut c hc l _ r (by omega), grid_cut c hc l _ r h1]
 ·rw [List.map_singleton, List.drop_take, show k * c + 1 - k * c = 1 by omega, List.take_take, Nat.min_eq_right (by omega), List.drop_eq_getElem_cons h]
  rfl
theorem grid_more {α : Type} (c : Nat) (hc : 0 < c) (l : List α) (k j : Nat) (hj : 0 < j) (hjc : j < c) (h : k * c + j < l.length) :
  ∃ L r, grid c (l.take (k * c + j)) = L ++ [r] ∧ grid c (l.take (k * c + j + 1)) = L ++ [r ++ [l[k * c + j]]] ∧ r.length = j := by
 refine ⟨(List.range k).map fun r => (l.drop (r * c)).take c, (l.drop (k * c)).take j, ?_, ?_, ?_⟩
 ·unfold grid
  rw [List.length_take, Nat.min_eq_left (by omega), ceil_in c k j hc hj (by omega), List.range_succ, List.map_append]
  congr 1
  ·refine List.map_congr_left fun r hr => ?_
   have hr := List.mem_range.1 hr;have h1 : r * c + c ≤ k * c := by rw [← Nat.succ_mul]; exact Nat.mul_le_mul_right _ hr
   rw [grid_cut c hc l _ r (by omega)]
  ·rw [List.map_singleton, List.drop_take, List.take_take, show min c (k * c + j - k * c) = j by omega]
 ·unfold grid
  rw [List.length_take, Nat.min_eq_left (by omega), show k * c + j + 1 = k * c + (j + 1) by omega, ceil_in c k (j + 1) hc (by omega) (by omega), List.range_succ, List.map_append]
  congr 1
  ·refine List.map_congr_left fun r hr => ?_
   have hr := List.mem_range.1 hr;have h1 : r * c + c ≤ k * c := by rw [← Nat.succ_mul]; exact Nat.mul_le_mul_right _ hr
   rw [grid_cut c hc l _ r (by omega)]
  ·rw [List.map_singleton, List.drop_take, List.take_take, show min c (k * c + (j + 1) - k * c) = j + 1 by omega, List.take_add_one, List.getElem?_drop, List.getElem?_eq_getElem h]
   rfl
 ·rw [List.length_take, List.length_drop]; omega
def mrow (n : Bytes) (l : List E) : E := .mk n [] l []
def lett : Bytes → Bool
 | [] => false
 | b :: _ => letter b
def mkE (k : Int) (t : Bytes) (c : Int) (ss : List (List E)) : E :=
 if k = 2 then .mk (if lett t then nMi else nMo) [] [] t
 else if k = 3 then .mk nMn [] [] t
 else if k = 4 then .mk nMtext [] [] t
 else if k = 6 then (match ss with
  | [] :: r => .mk nMsqrt [] (r.map (mrow nMrow)) []
  | a :: b :: _ => .mk nMroot [] [mrow nMrow b, mrow nMrow a] []
  | _ => .mk [] [] [] [])
 else if k = 10 then .mk nMover [(nAccent, t)] (ss.map (mrow nMrow)) []
 else if k = 11 then .mk nMfenced [(nOpen, t.take 1), (nClose, t.drop 1)] (ss.map (mrow nMrow)) []
 else if k = 12 then .mk nMtable [] ((grid c.toNat (ss.map (mrow nMtd))).map (mrow nMtr)) []
 else .mk (if k = 5 then nMfrac else if k = 7 then nMsub else if k = 8 then nMsup else nMsubsup) [] (ss.map (mrow nMrow)) []
mutual
def elE : Nd → E
 | .mk k t c ks => mkE k t c (slotsE ks)
def elK : List Nd → List E
 | [] => []
 | n :: ns => elE n :: elK ns
def slotsE : List Nd → List (List E)
 | [] => []
 | .mk _ _ _ ks :: ns => elK ks :: slotsE ns
end
def elM (n : Nd) : E := mrow nMath (elK n.kids)
theorem elE_eq (n : Nd) : elE n = mkE n.kind n.text n.cols (slotsE n.kids) := by cases n; rw [elE]; rfl
theorem elK_map (l : List Nd) : elK l = l.map elE := by
 induction l with
 | nil => rw [elK]; rfl
 | cons x l ih => rw [elK, ih]; rfl
theorem slotsE_map (l : List Nd) : slotsE l = l.map fun n => elK n.kids := by
 induction l with
 | nil => rw [slotsE]; rfl
 | cons x l ih => cases x; rw [slotsE, ih]; rfl
end Go.Proofs.YtfnjcldgicohaaaGreat.El
namespace Go.Proofs.YtfnjcldgicohaaaGreat
open Go.RowKit
theorem or32_256 : ∀ n : Fin 256, bits BinOp.or IntKind.u8 (n.1 : Int) 32 = ((n.1 ||| 32 : Nat) : Int) := by decide +kernel
theorem or32_is (b : UInt8) : bits BinOp.or IntKind.u8 (b.toNat : Int) 32 = ((b.toNat ||| 32 : Nat) : Int) := or32_256 ⟨b.toNat, b.toNat_lt⟩
theorem or32_l256 : ∀ n : Fin 256, (decide ((97 : Int) ≤ ((n.1 ||| 32 : Nat) : Int)) && decide (((n.1 ||| 32 : Nat) : Int) ≤ (122 : Int))) = El.letter (UInt8.ofNat n.1) := by decide +kernel
theorem or32 (b : UInt8) : (decide ((97 : Int) ≤ ((b.toNat ||| 32 : Nat) : Int)) && decide (((b.toNat ||| 32 : Nat) : Int) ≤ (122 : Int))) = El.letter b := by
 have := or32_l256 ⟨b.toNat, b.toNat_lt⟩;simpa using this
theorem first_byte {s : ByteArray} {b : UInt8} {r : List UInt8} (hs : s.data.toList = b :: r) : s.toList.isEmpty = false ∧ ∃ h : 0 < s.size, s[0] = b := by
 have hl : s.data.toList.length = s.size := by simp
 have hsz : 0 < s.size := by rw [← hl, hs]; simp
 refine ⟨?_, hsz, ?_⟩
 ·rw [ByteArray.toList_eq, hs]; rfl
 ·have : s.data.toList[0]'(by rw [hs]; simp) = b := by simp [hs]
  rw [← this];simp
  rfl
theorem mletter_any (s : ByteArray) (w : World) : Calls Tryz.prog 43 #[.string s] w fun e w' => e = .returned (.bool (El.lett s.data.toList)) ∧ w' = w := by
 cases hs : s.data.toList with
 | nil =>
  have e0 : s.toList.isEmpty = true := by rw [ByteArray.toList_eq, hs]; rfl
  clear hs;go_enter Tryz.func43, Tryz.ntmps43;go_wp2_with fail
  go_ret;exact ⟨rfl, rfl⟩
 | cons b r =>
  obtain ⟨e0, hsz, hb⟩ := first_byte hs;clear hs;have hx : bits BinOp.or IntKind.u8 ((s[0]'hsz).toNat : Int) 32 = ((b.toNat ||| 32 : Nat) : Int) := by rw [hb]; exact or32_is b
  clear hb;have hl := or32 b;show Calls _ _ _ _ fun e w' => e = .returned (.bool (El.letter b)) ∧ w' = w
  rw [← hl];clear hl;cases h1 : decide ((97 : Int) ≤ ((b.toNat ||| 32 : Nat) : Int)) with
  | false =>
   have h1n : decide (97 ≤ b.toNat ||| 32) = false := by have hx := h1; simp only [decide_eq_false_iff_not] at hx ⊢; omega
   go_enter Tryz.func43, Tryz.ntmps43;go_wp2_with fail
   go_ret;exact ⟨rfl, rfl⟩
  | true =>
   have h1n : decide (97 ≤ b.toNat ||| 32) = true := by have hx := h1; simp only [decide_eq_true_eq] at hx ⊢; omega
   cases h2 : decide (((b.toNat ||| 32 : Nat) : Int) ≤ (122 : Int)) with
   | false =>
    have h2n : decide (b.toNat ||| 32 ≤ 122) = false := by have hx := h2; simp only [decide_eq_false_iff_not] at hx ⊢; omega
    go_enter Tryz.func43, Tryz.ntmps43;go_wp2_with fail
    go_ret;exact ⟨rfl, rfl⟩
   | true =>
    have h2n : decide (b.toNat ||| 32 ≤ 122) = true := by have hx := h2; simp only [decide_eq_true_eq] at hx ⊢; omega
    go_enter Tryz.func43, Tryz.ntmps43;go_wp2_with fail
    go_ret;exact ⟨rfl, rfl⟩
def letts (s : List UInt8) : Bool := decide (1 < s.length) || (s.length == 1 && El.lett s)
theorem rletters_any (s : ByteArray) (w : World) : Calls Tryz.prog 81 #[.string s] w fun e w' => e = .returned (.bool (letts s.data.toList)) ∧ w' = w := by
 have hl : s.data.toList.length = s.size := by simp
 unfold letts;rw [hl]
 by_cases c1 : 1 < s.size
 ·have d1 : decide ((1 : Int) < (s.size : Int)) = true := dT (by omega)
  have d1n : decide (1 < s.size) = true := dT c1;rw [d1n];go_enter Tryz.func81, Tryz.ntmps81;go_wp2_with fail
  go_ret;exact ⟨rfl, rfl⟩
 ·have d1 : decide ((1 : Int) < (s.size : Int)) = false := dF (by omega)
  have d1n : decide (1 < s.size) = false := dF c1;rw [d1n];cases hs : s.data.toList with
  | nil =>
   have hz : s.size = 0 := by rw [← hl, hs]; rfl
   have d2 : ((s.size : Int) == (1 : Int)) = false := by rw [hz]; rfl
   have d2n : (s.size == 1) = false := by rw [hz]; rfl
   rw [d2n];clear hs hl hz;go_enter Tryz.func81, Tryz.ntmps81;go_wp2_with fail
   go_ret;exact ⟨rfl, rfl⟩
  | cons b r =>
   obtain ⟨_, hsz, hb⟩ := first_byte hs;have hz : s.size = 1 := by omega
   have d2 : ((s.size : Int) == (1 : Int)) = true := by rw [hz]; rfl
   have d2n : (s.size == 1) = true := by rw [hz]; rfl
   rw [d2n];clear hs hl hz;have HB := hid hb;have HL := hid (fun w => letter_byte (s[0]'hsz) w);clear hb;go_enter Tryz.func81, Tryz.ntmps81;go_wp2_with fail
   refine (HL.out _).mono ?_;rintro _ w' ⟨rfl, hw⟩;subst hw;go_wp2_with fail
   go_ret;exact ⟨ret_bool (by rw [HB.out]; rfl), rfl⟩
theorem inner_256 : ∀ n : Fin 256, El.inner (UInt8.ofNat n.1) = (El.letter (UInt8.ofNat n.1) || (decide ((48 : Int) ≤ (n.1 : Int)) && decide ((n.1 : Int) ≤ (57 : Int))) || ((n.1 : Int) == (45 : Int))) := by decide +kernel
theorem inner_or (b : UInt8) : El.inner b = (El.letter b || (decide ((48 : Int) ≤ (b.toNat : Int)) && decide ((b.toNat : Int) ≤ (57 : Int))) || ((b.toNat : Int) == (45 : Int))) := by
 have := inner_256 ⟨b.toNat, b.toNat_lt⟩;simpa using this
theorem prin_256 : ∀ n : Fin 256, El.printable (UInt8.ofNat n.1) = (decide ((32 : Int) ≤ (n.1 : Int)) && decide ((n.1 : Int) ≤ (126 : Int))) := by decide +kernel
theorem prin_or (b : UInt8) : El.printable b = (decide ((32 : Int) ≤ (b.toNat : Int)) && decide ((b.toNat : Int) ≤ (126 : Int))) := by
 have := prin_256 ⟨b.toNat, b.toNat_lt⟩;simpa using this
theorem xletter_byte (b : UInt8) (w : World) : Calls Tryz.prog 67 #[.int .u8 (b.toNat : Int)] w fun e w' => e = .returned (.bool (El.letter b)) ∧ w' = w := by
 have hx := or32_is b;rw [← or32 b];cases h1 : decide ((97 : Int) ≤ ((b.toNat ||| 32 : Nat) : Int)) with
 | false =>
  have h1n : decide (97 ≤ b.toNat ||| 32) = false := by have hx := h1; simp only [decide_eq_false_iff_not] at hx ⊢; omega
  go_enter Tryz.func67, Tryz.ntmps67;go_wp2_with fail
  go_ret;exact ⟨rfl, rfl⟩
 | true =>
  have h1n : decide (97 ≤ b.toNat ||| 32) = true := by have hx := h1; simp only [decide_eq_true_eq] at hx ⊢; omega
  cases h2 : decide (((b.toNat ||| 32 : Nat) : Int) ≤ (122 : Int)) with
  | false =>
   have h2n : decide (b.toNat ||| 32 ≤ 122) = false := by have hx := h2; simp only [decide_eq_false_iff_not] at hx ⊢; omega
   go_enter Tryz.func67, Tryz.ntmps67;go_wp2_with fail
   go_ret;exact ⟨rfl, rfl⟩
  | true =>
   have h2n : decide (b.toNat ||| 32 ≤ 122) = true := by have hx := h2; simp only [decide_eq_true_eq] at hx ⊢; omega
   go_enter Tryz.func67, Tryz.ntmps67;go_wp2_with fail
   go_ret;exact ⟨rfl, rfl⟩
theorem xinname_byte (b : UInt8) (w : World) : Calls Tryz.prog 66 #[.int .u8 (b.toNat : Int)] w fun e w' => e = .returned (.bool (El.inner b)) ∧ w' = w := by
 go_enter Tryz.func66, Tryz.ntmps66;go_wp2_with fail
 refine Calls.mono (xletter_byte b _) ?_;rintro _ w1q ⟨rfl, hqw1⟩;replace hqw1 := hqw1.symm;subst hqw1;cases h1 : (El.letter b) with
 | false =>
  cases h2 : decide ((48 : Int) ≤ (b.toNat : Int)) with
  | false =>
   have h2n : decide (48 ≤ b.toNat) = false := by have hx := h2; simp only [decide_eq_false_iff_not] at hx ⊢; omega
   cases h3 : ((b.toNat : Int) == (45 : Int)) with
   | false =>
    have h3m : ((b.toNat : Int) != (45 : Int)) = true := by rw [bne, h3]; rfl
    go_wp2_with fail
    go_ret;exact ⟨ret_bool' _ _ (by rw [inner_or]; simp only [*] <;> rfl), rfl⟩
   | true =>
    have h3m : ((b.toNat : Int) != (45 : Int)) = false := by rw [bne, h3]; rfl
    go_wp2_with fail
    go_ret;exact ⟨ret_bool' _ _ (by rw [inner_or]; simp only [*] <;> rfl), rfl⟩
  | true =>
   have h2n : decide (48 ≤ b.toNat) = true := by have hx := h2; simp only [decide_eq_true_eq] at hx ⊢; omega
   cases h4 : decide ((b.toNat : Int) ≤ (57 : Int)) with
   | false =>
    have h4n : decide (b.toNat ≤ 57) = false := by have hx := h4; simp only [decide_eq_false_iff_not] at hx ⊢; omega
    cases h5 : ((b.toNat : Int) == (45 : Int)) with
    | false =>
     have h5m : ((b.toNat : Int) != (45 : Int)) = true := by rw [bne, h5]; rfl
     go_wp2_with fail
     go_ret;exact ⟨ret_bool' _ _ (by rw [inner_or]; simp only [*] <;> rfl), rfl⟩
    | true =>
     have h5m : ((b.toNat : Int) != (45 : Int)) = false := by rw [bne, h5]; rfl
     go_wp2_with fail
     go_ret;exact ⟨ret_bool' _ _ (by rw [inner_or]; simp only [*] <;> rfl), rfl⟩
   | true =>
    have h4n : decide (b.toNat ≤ 57) = true := by have hx := h4; simp only [decide_eq_true_eq] at hx ⊢; omega
    go_wp2_with fail
    go_ret;exact ⟨ret_bool' _ _ (by rw [inner_or]; simp only [*] <;> rfl), rfl⟩
 | true =>
  go_wp2_with fail
  go_ret;exact ⟨ret_bool' _ _ (by rw [inner_or]; simp only [*] <;> rfl), rfl⟩
theorem xprintable_byte (b : UInt8) (w : World) : Calls Tryz.prog 68 #[.int .u8 (b.toNat : Int)] w fun e w' => e = .returned (.bool (El.printable b)) ∧ w' = w := by
 go_enter Tryz.func68, Tryz.ntmps68;cases h6 : decide ((32 : Int) ≤ (b.toNat : Int)) with
 | false =>
  have h6n : decide (32 ≤ b.toNat) = false := by have hx := h6; simp only [decide_eq_false_iff_not] at hx ⊢; omega
  go_wp2_with fail
  go_ret;exact ⟨ret_bool' _ _ (by rw [prin_or]; simp only [*] <;> rfl), rfl⟩
 | true =>
  have h6n : decide (32 ≤ b.toNat) = true := by have hx := h6; simp only [decide_eq_true_eq] at hx ⊢; omega
  cases h7 : decide ((b.toNat : Int) ≤ (126 : Int)) with
  | false =>
   have h7n : decide (b.toNat ≤ 126) = false := by have hx := h7; simp only [decide_eq_false_iff_not] at hx ⊢; omega
   go_wp2_with fail
   go_ret;exact ⟨ret_bool' _ _ (by rw [prin_or]; simp only [*] <;> rfl), rfl⟩
  | true =>
   have h7n : decide (b.toNat ≤ 126) = true := by have hx := h7; simp only [decide_eq_true_eq] at hx ⊢; omega
   go_wp2_with fail
   go_ret;exact ⟨ret_bool' _ _ (by rw [prin_or]; simp only [*] <;> rfl), rfl⟩
theorem xvalue_any (s : ByteArray) (w : World) (hm : s.size ≤ 9223372036854775807) : Calls Tryz.prog 40 #[.string s] w fun e w' => e = .returned (.bool (El.valueOK s.data.toList)) ∧ w' = w := by
 go_enter Tryz.func40, Tryz.ntmps40;go_wp2_with fail
 go_loopw [3] (fun i wr => ∃ j : Nat, i = .int .i64 j ∧ j ≤ s.size ∧ Hid ((s.data.toList.take j).all El.printable = true) ∧ wr = w) (fun i _ => s.size - (intOf i).toNat)
 case atStart => exact ⟨0, rfl, Nat.zero_le _, by simp [Hid], rfl⟩
 case round =>
  obtain ⟨j, rfl, hj, HA, rfl⟩ := hrel
  by_cases c1 : j < s.size
  ·have d1 : decide ((j : Int) < (s.size : Int)) = true := by simp; omega
   have d1' : (j : Int) < (s.size : Int) := by omega
   obtain ⟨b, hb⟩ : ∃ b, s[j]'c1 = b := ⟨_, rfl⟩;have hst := all_snoc' s.data.toList j (by simpa using c1) El.printable;have hno := all_no s.data.toList j (by simpa using c1) El.printable;have hbl : s.data.toList[j]'(by simpa using c1) = b := hb;rw [hbl] at hst hno;have HS := hid hst;have HN := hid hno;clear hst hno hbl;go_wp2_with fail
   refine Calls.mono (xprintable_byte b _) ?_;rintro _ w2q ⟨rfl, hqw2⟩;replace hqw2 := hqw2.symm;subst hqw2;cases h8 : (El.printable b) with
   | false =>
    go_wp2_with fail
    go_ret;exact ⟨ret_bool' _ _ (by unfold El.valueOK; rw [HN.out (by assumption)]; rfl), rfl⟩
   | true =>
    go_wp2_with fail
    go_roundw
    case rel => exact ⟨j + 1, by go_num, c1, by unfold Hid; rw [HS.out, HA.out]; simp_all, trivial⟩
    case measure => simp [intOf]; omega
  ·have d1 : decide ((j : Int) < (s.size : Int)) = false := by simp; omega
   go_wp2_with fail
   go_ret;exact ⟨ret_bool' _ _ (by unfold El.valueOK; rw [all_end s El.printable j hj c1 HA.out]; rw [show s.data.toList.length = s.size by simp, Bool.eq_iff_iff]; simp; omega), rfl⟩
theorem nameOK_in (s : List UInt8) (h : s.all El.inner = false) : El.nameOK s = false := by
 cases s with
 | nil => rfl
 | cons b r =>
  rw [List.all_cons] at h;show (El.letter b && r.all El.inner) = false;cases hl : El.letter b with
  | false => rfl
  | true =>
   have : El.inner b = true := by unfold El.inner; rw [hl]; rfl
   rw [this, Bool.true_and] at h;rw [h]; rfl
theorem letter_inner (b : UInt8) (h : El.letter b = true) : El.inner b = true := by unfold El.inner; rw [h]; rfl
theorem nameOK_of (s : List UInt8) (h : s.all El.inner = true) : El.nameOK s = El.lett s := by
 cases s with
 | nil => rfl
 | cons b r =>
  rw [List.all_cons, Bool.and_eq_true] at h;show (El.letter b && r.all El.inner) = El.letter b;rw [h.2, Bool.and_true]
theorem xname_any (s : ByteArray) (w : World) (hm : s.size ≤ 9223372036854775807) : Calls Tryz.prog 39 #[.string s] w fun e w' => e = .returned (.bool (El.nameOK s.data.toList)) ∧ w' = w := by
 go_enter Tryz.func39, Tryz.ntmps39;go_wp2_with fail
 go_loopw [3] (fun i wr => ∃ j : Nat, i = .int .i64 j ∧ j ≤ s.size ∧ Hid ((s.data.toList.take j).all El.inner = true) ∧ wr = w) (fun i _ => s.size - (intOf i).toNat)
 case atStart => exact ⟨0, rfl, Nat.zero_le _, by simp [Hid], rfl⟩
 case round =>
  obtain ⟨j, rfl, hj, HA, rfl⟩ := hrel
  by_cases c1 : j < s.size
  ·have d1 : decide ((j : Int) < (s.size : Int)) = true := by simp; omega
   have d1' : (j : Int) < (s.size : Int) := by omega
   obtain ⟨b, hb⟩ : ∃ b, s[j]'c1 = b := ⟨_, rfl⟩;have hst := all_snoc' s.data.toList j (by simpa using c1) El.inner;have hno := all_no s.data.toList j (by simpa using c1) El.inner;have hbl : s.data.toList[j]'(by simpa using c1) = b := hb;rw [hbl] at hst hno;have HS := hid hst;have HN := hid hno;clear hst hno hbl;go_wp2_with fail
   refine Calls.mono (xinname_byte b _) ?_;rintro _ w3q ⟨rfl, hqw3⟩;replace hqw3 := hqw3.symm;subst hqw3;cases h9 : (El.inner b) with
   | false =>
    go_wp2_with fail
    go_ret;exact ⟨ret_bool' _ _ (by rw [nameOK_in _ (HN.out (by assumption))]), rfl⟩
   | true =>
    go_wp2_with fail
    go_roundw
    case rel => exact ⟨j + 1, by go_num, c1, by unfold Hid; rw [HS.out, HA.out]; simp_all, trivial⟩
    case measure => simp [intOf]; omega
  ·have d1 : decide ((j : Int) < (s.size : Int)) = false := by simp; omega
   have HALL := hid (nameOK_of _ (all_end s El.inner j hj c1 HA.out));cases hs : s.data.toList with
   | nil =>
    have e0 : s.toList.isEmpty = true := by rw [ByteArray.toList_eq, hs]; rfl
    have HALL2 := hid (show El.nameOK s.data.toList = false from by rw [HALL.out, hs]; rfl);clear hs;go_wp2_with fail
    go_ret;exact ⟨ret_bool' _ _ HALL2.out.symm, rfl⟩
   | cons b r =>
    obtain ⟨e0, hsz, hb⟩ := first_byte hs;have HALL2 := hid (show El.nameOK s.data.toList = El.letter b from by rw [HALL.out, hs]; rfl);clear hs;go_wp2_with fail
    refine (xletter_byte b _).mono ?_;rintro _ w1 ⟨rfl, hw1⟩;replace hw1 := hw1.symm;subst hw1;go_wp2_with fail
    go_ret;exact ⟨ret_bool' _ _ HALL2.out.symm, rfl⟩
theorem lett23_256 : ∀ n : Fin 256, El.letter (UInt8.ofNat n.1) = ((decide ((97 : Int) ≤ (n.1 : Int)) && decide ((n.1 : Int) ≤ (122 : Int))) || (decide ((65 : Int) ≤ (n.1 : Int)) && decide ((n.1 : Int) ≤ (90 : Int)))) := by decide +kernel
theorem lett23_or (b : UInt8) : El.letter b = ((decide ((97 : Int) ≤ (b.toNat : Int)) && decide ((b.toNat : Int) ≤ (122 : Int))) || (decide ((65 : Int) ≤ (b.toNat : Int)) && decide ((b.toNat : Int) ≤ (90 : Int)))) := by
 have := lett23_256 ⟨b.toNat, b.toNat_lt⟩;simpa using this
theorem prin23_256 : ∀ n : Fin 256, El.printable (UInt8.ofNat n.1) = (!decide ((n.1 : Int) < (32 : Int)) && !decide ((126 : Int) < (n.1 : Int))) := by decide +kernel
theorem prin23_or (b : UInt8) : El.printable b = (!decide ((b.toNat : Int) < (32 : Int)) && !decide ((126 : Int) < (b.toNat : Int))) := by
 have := prin23_256 ⟨b.toNat, b.toNat_lt⟩;simpa using this
theorem rletter23_byte (b : UInt8) (w : World) : Calls Tryz.prog 78 #[.int .u8 (b.toNat : Int)] w fun e w' => e = .returned (.bool (El.letter b)) ∧ w' = w := by
 go_enter Tryz.func78, Tryz.ntmps78;cases h1 : decide ((97 : Int) ≤ (b.toNat : Int)) with
 | false =>
  have h1n : decide (97 ≤ b.toNat) = false := by have hx := h1; simp only [decide_eq_false_iff_not] at hx ⊢; omega
  cases h2 : decide ((65 : Int) ≤ (b.toNat : Int)) with
  | false =>
   have h2n : decide (65 ≤ b.toNat) = false := by have hx := h2; simp only [decide_eq_false_iff_not] at hx ⊢; omega
   go_wp2_with fail
   go_ret;exact ⟨ret_bool' _ _ (by rw [lett23_or]; simp only [*] <;> rfl), rfl⟩
  | true =>
   have h2n : decide (65 ≤ b.toNat) = true := by have hx := h2; simp only [decide_eq_true_eq] at hx ⊢; omega
   cases h3 : decide ((b.toNat : Int) ≤ (90 : Int)) with
   | false =>
    have h3n : decide (b.toNat ≤ 90) = false := by have hx := h3; simp only [decide_eq_false_iff_not] at hx ⊢; omega
    go_wp2_with fail
    go_ret;exact ⟨ret_bool' _ _ (by rw [lett23_or]; simp only [*] <;> rfl), rfl⟩
   | true =>
    have h3n : decide (b.toNat ≤ 90) = true := by have hx := h3; simp only [decide_eq_true_eq] at hx ⊢; omega
    go_wp2_with fail
    go_ret;exact ⟨ret_bool' _ _ (by rw [lett23_or]; simp only [*] <;> rfl), rfl⟩
 | true =>
  have h1n : decide (97 ≤ b.toNat) = true := by have hx := h1; simp only [decide_eq_true_eq] at hx ⊢; omega
  cases h4 : decide ((b.toNat : Int) ≤ (122 : Int)) with
  | false =>
   have h4n : decide (b.toNat ≤ 122) = false := by have hx := h4; simp only [decide_eq_false_iff_not] at hx ⊢; omega
   cases h5 : decide ((65 : Int) ≤ (b.toNat : Int)) with
   | false =>
    have h5n : decide (65 ≤ b.toNat) = false := by have hx := h5; simp only [decide_eq_false_iff_not] at hx ⊢; omega
    go_wp2_with fail
    go_ret;exact ⟨ret_bool' _ _ (by rw [lett23_or]; simp only [*] <;> rfl), rfl⟩
   | true =>
    have h5n : decide (65 ≤ b.toNat) = true := by have hx := h5; simp only [decide_eq_true_eq] at hx ⊢; omega
    cases h6 : decide ((b.toNat : Int) ≤ (90 : Int)) with
    | false =>
     have h6n : decide (b.toNat ≤ 90) = false := by have hx := h6; simp only [decide_eq_false_iff_not] at hx ⊢; omega
     go_wp2_with fail
     go_ret;exact ⟨ret_bool' _ _ (by rw [lett23_or]; simp only [*] <;> rfl), rfl⟩
    | true =>
     have h6n : decide (b.toNat ≤ 90) = true := by have hx := h6; simp only [decide_eq_true_eq] at hx ⊢; omega
     go_wp2_with fail
     go_ret;exact ⟨ret_bool' _ _ (by rw [lett23_or]; simp only [*] <;> rfl), rfl⟩
  | true =>
   have h4n : decide (b.toNat ≤ 122) = true := by have hx := h4; simp only [decide_eq_true_eq] at hx ⊢; omega
   go_wp2_with fail
   go_ret;exact ⟨ret_bool' _ _ (by rw [lett23_or]; simp only [*] <;> rfl), rfl⟩
theorem rinner23_byte (b : UInt8) (w : World) : Calls Tryz.prog 79 #[.int .u8 (b.toNat : Int)] w fun e w' => e = .returned (.bool (El.inner b)) ∧ w' = w := by
 go_enter Tryz.func79, Tryz.ntmps79;go_wp2_with fail
 refine Calls.mono (rletter23_byte b _) ?_;rintro _ w1q ⟨rfl, hqw1⟩;replace hqw1 := hqw1.symm;subst hqw1;cases h7 : (El.letter b) with
 | false =>
  cases h8 : decide ((48 : Int) ≤ (b.toNat : Int)) with
  | false =>
   have h8n : decide (48 ≤ b.toNat) = false := by have hx := h8; simp only [decide_eq_false_iff_not] at hx ⊢; omega
   cases h9 : ((b.toNat : Int) == (45 : Int)) with
   | false =>
    have h9m : ((b.toNat : Int) != (45 : Int)) = true := by rw [bne, h9]; rfl
    go_wp2_with fail
    go_ret;exact ⟨ret_bool' _ _ (by rw [inner_or]; simp only [*] <;> rfl), rfl⟩
   | true =>
    have h9m : ((b.toNat : Int) != (45 : Int)) = false := by rw [bne, h9]; rfl
    go_wp2_with fail
    go_ret;exact ⟨ret_bool' _ _ (by rw [inner_or]; simp only [*] <;> rfl), rfl⟩
  | true =>
   have h8n : decide (48 ≤ b.toNat) = true := by have hx := h8; simp only [decide_eq_true_eq] at hx ⊢; omega
   cases h10 : decide ((b.toNat : Int) ≤ (57 : Int)) with
   | false =>
    have h10n : decide (b.toNat ≤ 57) = false := by have hx := h10; simp only [decide_eq_false_iff_not] at hx ⊢; omega
    cases h11 : ((b.toNat : Int) == (45 : Int)) with
    | false =>
     have h11m : ((b.toNat : Int) != (45 : Int)) = true := by rw [bne, h11]; rfl
     go_wp2_with fail
     go_ret;exact ⟨ret_bool' _ _ (by rw [inner_or]; simp only [*] <;> rfl), rfl⟩
    | true =>
     have h11m : ((b.toNat : Int) != (45 : Int)) = false := by rw [bne, h11]; rfl
     go_wp2_with fail
     go_ret;exact ⟨ret_bool' _ _ (by rw [inner_or]; simp only [*] <;> rfl), rfl⟩
   | true =>
    have h10n : decide (b.toNat ≤ 57) = true := by have hx := h10; simp only [decide_eq_true_eq] at hx ⊢; omega
    go_wp2_with fail
    go_ret;exact ⟨ret_bool' _ _ (by rw [inner_or]; simp only [*] <;> rfl), rfl⟩
 | true =>
  go_wp2_with fail
  go_ret;exact ⟨ret_bool' _ _ (by rw [inner_or]; simp only [*] <;> rfl), rfl⟩
theorem rvalue_any (s : ByteArray) (w : World) (hm : s.size ≤ 9223372036854775807) : Calls Tryz.prog 55 #[.string s] w fun e w' => e = .returned (.bool (El.valueOK s.data.toList)) ∧ w' = w := by
 go_enter Tryz.func55, Tryz.ntmps55;go_wp2_with fail
 go_loopw [3] (fun i wr => ∃ j : Nat, i = .int .i64 j ∧ j ≤ s.size ∧ Hid ((s.data.toList.take j).all El.printable = true) ∧ wr = w) (fun i _ => s.size - (intOf i).toNat)
 case atStart => exact ⟨0, rfl, Nat.zero_le _, by simp [Hid], rfl⟩
 case round =>
  obtain ⟨j, rfl, hj, HA, rfl⟩ := hrel
  by_cases c1 : j < s.size
  ·have d1 : decide ((j : Int) < (s.size : Int)) = true := by simp; omega
   have d1' : (j : Int) < (s.size : Int) := by omega
   obtain ⟨b, hb⟩ : ∃ b, s[j]'c1 = b := ⟨_, rfl⟩;have hst := all_snoc' s.data.toList j (by simpa using c1) El.printable;have hno := all_no s.data.toList j (by simpa using c1) El.printable;have hbl : s.data.toList[j]'(by simpa using c1) = b := hb;rw [hbl] at hst hno;have HS := hid hst;have HN := hid hno;clear hst hno hbl;cases h12 : decide ((b.toNat : Int) < (32 : Int)) with
   | false =>
    have h12n : decide (b.toNat < 32) = false := by have hx := h12; simp only [decide_eq_false_iff_not] at hx ⊢; omega
    cases h13 : decide ((126 : Int) < (b.toNat : Int)) with
    | false =>
     have h13n : decide (126 < b.toNat) = false := by have hx := h13; simp only [decide_eq_false_iff_not] at hx ⊢; omega
     go_wp2_with fail
     go_roundw
     case rel => exact ⟨j + 1, by go_num, c1, by unfold Hid; rw [HS.out, HA.out]; rw [prin23_or]; simp only [*] <;> rfl, trivial⟩
     case measure => simp [intOf]; omega
    | true =>
     have h13n : decide (126 < b.toNat) = true := by have hx := h13; simp only [decide_eq_true_eq] at hx ⊢; omega
     go_wp2_with fail
     go_ret;exact ⟨ret_bool' _ _ (by unfold El.valueOK; rw [HN.out (by rw [prin23_or]; simp only [*] <;> rfl)]; rfl), rfl⟩
   | true =>
    have h12n : decide (b.toNat < 32) = true := by have hx := h12; simp only [decide_eq_true_eq] at hx ⊢; omega
    go_wp2_with fail
    go_ret;exact ⟨ret_bool' _ _ (by unfold El.valueOK; rw [HN.out (by rw [prin23_or]; simp only [*] <;> rfl)]; rfl), rfl⟩
  ·have d1 : decide ((j : Int) < (s.size : Int)) = false := by simp; omega
   go_wp2_with fail
   go_ret;exact ⟨ret_bool' _ _ (by unfold El.valueOK; rw [all_end s El.printable j hj c1 HA.out]; rw [show s.data.toList.length = s.size by simp, Bool.eq_iff_iff]; simp; omega), rfl⟩
theorem rvalue_list (l : List UInt8) (w : World) (h : l.length ≤ 9223372036854775807) : Calls Tryz.prog 55 #[.string ⟨l.toArray⟩] w fun e w' => e = .returned (.bool (El.valueOK l)) ∧ Fresh w w' :=
 (rvalue_any ⟨l.toArray⟩ w h).mono fun e w' ⟨h1, h2⟩ => ⟨h1, by rw [h2]; exact Touch.refl _ _⟩
theorem nameOK_first (s : List UInt8) (b : UInt8) (h : 0 < s.length) (hb : s[0] = b) (hl : El.letter b = false) : El.nameOK s = false := by
 cases s with
 | nil => cases h
 | cons c s =>
  have : c = b := hb;show (El.letter c && s.all El.inner) = false;rw [this, hl]; rfl
theorem lett_first (s : List UInt8) (b : UInt8) (h : 0 < s.length) (hb : s[0] = b) (hl : El.letter b = true) : El.lett s = true := by
 cases s with
 | nil => cases h
 | cons c s =>
  have : c = b := hb;show El.letter c = true;rw [this, hl]
theorem lett_nil (s : List UInt8) (h : s.length = 0) : El.lett s = false := by
 cases s with
 | nil => rfl
 | cons c s => cases h
theorem rname23_any (s : ByteArray) (w : World) (hm : s.size ≤ 9223372036854775807) : Calls Tryz.prog 54 #[.string s] w fun e w' => e = .returned (.bool (El.nameOK s.data.toList)) ∧ w' = w := by
 go_enter Tryz.func54, Tryz.ntmps54;go_wp2_with fail
 go_loopw [3] (fun i wr => ∃ j : Nat, i = .int .i64 j ∧ j ≤ s.size ∧ Hid ((s.data.toList.take j).all El.inner = true ∧ (0 < j → El.lett s.data.toList = true)) ∧ wr = w) (fun i _ => s.size - (intOf i).toNat)
 case atStart => exact ⟨0, rfl, Nat.zero_le _, ⟨by simp, fun h => absurd h (by decide)⟩, rfl⟩
 case round =>
  obtain ⟨j, rfl, hj, HA, rfl⟩ := hrel
  by_cases c1 : j < s.size
  ·have d1 : decide ((j : Int) < (s.size : Int)) = true := by simp; omega
   have d1' : (j : Int) < (s.size : Int) := by omega
   obtain ⟨b, hb⟩ : ∃ b, s[j]'c1 = b := ⟨_, rfl⟩;have hst := all_snoc' s.data.toList j (by simpa using c1) El.inner;have hno := all_no s.data.toList j (by simpa using c1) El.inner;have hbl : s.data.toList[j]'(by simpa using c1) = b := hb;rw [hbl] at hst hno;have HS := hid hst;have HN := hid hno;clear hst hno
   have hways : (((j : Int) == (0 : Int)) = true ∧ El.letter b = false ∧ El.nameOK s.data.toList = false) ∨ ((((j : Int) == (0 : Int)) = true ∧ El.letter b = true ∨ ((j : Int) == (0 : Int)) = false) ∧ El.lett s.data.toList = true) := by
    by_cases h0 : j = 0
    ·subst h0
     cases hl : El.letter b with
     | false => exact .inl ⟨rfl, rfl, nameOK_first _ b (by simpa using c1) hbl hl⟩
     | true => exact .inr ⟨.inl ⟨rfl, rfl⟩, lett_first _ b (by simpa using c1) hbl hl⟩
    ·exact .inr ⟨.inr (by rw [beq_eq_false_iff_ne]; omega), HA.out.2 (by omega)⟩
   clear hbl
   rcases hways with ⟨h0, hl, hno⟩ | ⟨⟨h0, hl⟩ | h0, hlt⟩
   focus
    have HNO := hid hno;clear hno;have h0n : (j == 0) = true := by rw [beq_iff_eq] at h0 ⊢; omega
    go_wp2_with fail
    refine Calls.mono (rletter23_byte b _) ?_;rintro _ w3q ⟨rfl, hqw3⟩;replace hqw3 := hqw3.symm;subst hqw3;go_wp2_with fail
    go_ret;exact ⟨ret_bool' _ _ (by rw [HNO.out]), rfl⟩
   focus
    have HLT := hid hlt;clear hlt;have h0n : (j == 0) = true := by rw [beq_iff_eq] at h0 ⊢; omega
    go_wp2_with fail
    refine Calls.mono (rletter23_byte b _) ?_;rintro _ w3q ⟨rfl, hqw3⟩;replace hqw3 := hqw3.symm;subst hqw3;go_wp2_with fail
   rotate_left
   focus
    have HLT := hid hlt;clear hlt;have h0n : (j == 0) = false := by rw [beq_eq_false_iff_ne] at h0 ⊢; omega
    go_wp2_with fail
   all_goals
    refine Calls.mono (rinner23_byte b _) ?_;rintro _ w4q ⟨rfl, hqw4⟩;replace hqw4 := hqw4.symm;subst hqw4;cases h9 : (El.inner b) with
    | false =>
     go_wp2_with fail
     go_ret;exact ⟨ret_bool' _ _ (by rw [nameOK_in _ (HN.out (by assumption))]), rfl⟩
    | true =>
     go_wp2_with fail
     go_roundw
     case rel => exact ⟨j + 1, by go_num, c1, ⟨by rw [HS.out, HA.out.1]; simp_all, fun _ => HLT.out⟩, trivial⟩
     case measure => simp [intOf]; omega
  ·have d1 : decide ((j : Int) < (s.size : Int)) = false := by simp; omega
   have HALL := hid (nameOK_of _ (all_end s El.inner j hj c1 HA.out.1))
   have HV := hid (show El.nameOK s.data.toList = decide ((1 : Int) ≤ (s.size : Int)) by
    rw [HALL.out]
    rcases Nat.eq_zero_or_pos j with h | h
    ·have h0 : s.size = 0 := by omega
     rw [lett_nil _ (by simpa using h0), h0]; rfl
    ·rw [HA.out.2 h]; exact (decide_eq_true (by omega)).symm)
   go_wp2_with fail
   go_ret;exact ⟨ret_bool' _ _ HV.out.symm, rfl⟩
theorem rname23_list (l : List UInt8) (w : World) (h : l.length ≤ 9223372036854775807) : Calls Tryz.prog 54 #[.string ⟨l.toArray⟩] w fun e w' => e = .returned (.bool (El.nameOK l)) ∧ Fresh w w' :=
 (rname23_any ⟨l.toArray⟩ w h).mono fun e w' ⟨h1, h2⟩ => ⟨h1, by rw [h2]; exact Touch.refl _ _⟩
end Go.Proofs.YtfnjcldgicohaaaGreat
