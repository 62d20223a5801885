/- Part 22 of 42 of a proof; its texts, joined: SpF, NvD. No condition. -/
import Derived.Test.YtomibmenojdieaaGreatXx5
import Derived.Test.YtomibmenojdieaaGreatXx8
set_option maxRecDepth 100000
set_option maxHeartbeats 3000000
namespace Go.Proofs.YtomibmenojdieaaGreat
open Go.RowKit
structure RQ (w : World) (acc : List UInt8) (n g cap : Nat) (wr : World) : Prop where
 own : wr.ownsRow w.heap.size 5 1 (.slice (some ⟨g, 0, none⟩) n cap) n (Lib.byteCells acc)
 fresh : Fresh w wr
theorem one_cell (wr : World) (x : Value) : ∀ (j : Nat) (u : Value), [x][j]? = some u → (wr.alloc (.cells #[x] 5)).cell? ((⟨wr.heap.size, 0, none⟩ : Addr).add j) = some u := by
 intro j u hj
 match j, hj with
 | 0, hj =>
  simp at hj; subst hj
  exact (Blk.new wr 5 #[x]).cell 0
theorem RQ.next (c : UInt8) {w wr w' : World} {acc : List UInt8} {n g cap : Nat} {v : Value} {o : Obj} (h : RQ w acc n g cap wr) (hown : w'.ownsRow w.heap.size 5 1 v (n + 1) (Lib.byteCells acc ++ [.int .u8 c.toNat]))
  (hg : (wr.alloc o).grownBy w' (Value.slice (some ⟨g, 0, none⟩) n cap).ownBlock) : ∃ g' cap', v = .slice (some ⟨g', 0, none⟩) (n + 1) cap' ∧ RQ w (acc ++ [c]) (n + 1) g' cap' w' := by
 obtain ⟨g', cap', rfl⟩ : ∃ g' cap', v = .slice (some ⟨g', 0, none⟩) (n + 1) cap' := by
  rcases hown.2 with ⟨_, h0⟩ | ⟨g', cap', cur, hv, _⟩
  ·omega
  ·exact ⟨g', cap', hv⟩
 refine ⟨g', cap', rfl, ?_, ?_⟩
 ·rw [byteCells_snoc]; exact hown
 ·have hl := (h.own.lt g rfl).1
  refine h.fresh.trans' (S' := (· = g)) (((Touch.refl (· = g) wr).alloc o).grown hg (fun k hk => .inl ?_)) (fun k hk => .inr (by omega));simp [Value.ownBlock] at hk; exact hk.symm
theorem rQuoted_any (t : ByteArray) (w : World) (hm : t.size ≤ 1000000000) :
  Calls Tryz.prog 23 #[.string t] w fun e w' => e = .returned (.string ⟨(Lx.quoteL t.data.toList).toArray⟩) ∧ Fresh w w' := by
 obtain ⟨i0, hi, hz0, hz1, hz2⟩ := info_parts infoU8;have hll : t.data.toList.length = t.size := by simp
 have HLL := hid hll;clear hll;go_enter Tryz.func23, Tryz.ntmps23;go_wp2_with fail
 have hs0 : RQ w [34] 1 w.heap.size 1 (w.alloc (.cells #[.int .u8 34] 5)) :=
  ⟨⟨rfl, .inr ⟨w.heap.size, 1, #[.int .u8 34], rfl, Nat.le_refl _, (Blk.new w 5 #[.int .u8 34]), Nat.le_refl _, by decide, rfl, rfl⟩⟩, (Touch.refl _ w).alloc _⟩
 have HS0 := hid hs0;clear hs0
 go_loopw [3, 4] (fun x i wr => ∃ (j : Nat) (acc : List UInt8) (n g cap : Nat), x = .slice (some ⟨g, 0, none⟩) n cap ∧ i = .int .i64 j ∧ j ≤ t.size ∧ n ≤ 2 * j + 1 ∧ Hid (acc = 34 :: Lx.esc (t.data.toList.take j)) ∧ Hid (RQ w acc n g cap wr)) (fun _ i _ => t.size - (intOf i).toNat)
 case atStart => exact ⟨0, [34], 1, w.heap.size, 1, rfl, rfl, Nat.zero_le _, Nat.le_refl _, rfl, HS0⟩
 case round =>
  obtain ⟨j, acc, n, g, cap, rfl, rfl, hj, hacc, HA, HS⟩ := hrel;clear HS0
  by_cases c1 : j < t.size
  ·have b1 : decide ((j : Int) < (t.size : Int)) = true := by simp; omega
   have b1' : (j : Int) < (t.size : Int) := by omega
   have htk : t.data.toList.take (j + 1) = t.data.toList.take j ++ [t[j]'c1] := by
    rw [List.take_add_one, List.getElem?_eq_getElem (by rw [HLL.out]; exact c1)]; rfl
   have HTK := hid htk;clear htk
   by_cases c2 : t[j]'c1 = 34
   ·have b2 : (((t[j]'c1).toNat : Int) == 34) = true := u8_eq_of _ 34 c2
    have HE := hid (show Lx.escB (t[j]'c1) = [92, t[j]'c1] by unfold Lx.escB; rw [if_pos (.inl c2)]);clear c2
    go_wp2_with (at_builtin; refine wpList_append_own _ rfl _ _ 92 rfl w.heap.size 5 i0 (.int .u8 0) 1 1 Tryz.underlying92 hi hz0 hz1 hz2 rfl (by decide) _ _ _ rfl (HS.out.own.alloc _) ⟨wr.heap.size, 0, none⟩ 1 1 [.int .u8 (((92 : UInt8).toNat : Nat) : Int)] rfl rfl ?c1 ?c2 ?c3 ?c4 ?c5 ?_)
    case c1 => exact one_cell _ _
    case c2 => intro u hu; simp at hu; subst hu; rfl
    case c3 => unfold maxLen; omega
    case c4 => omega
    case c5 => have := HS.out.fresh.size; simp; omega
    intro v2 w2 hown2 hgrow2 _;obtain ⟨g2, cap2, rfl, hn2⟩ := RQ.next 92 HS.out hown2 hgrow2;have HN2 := hid hn2;clear hown2 hgrow2 hn2
    go_wp2_with (at_builtin; refine wpList_append_own _ rfl _ _ 92 rfl w.heap.size 5 i0 (.int .u8 0) 1 1 Tryz.underlying92 hi hz0 hz1 hz2 rfl (by decide) _ _ _ rfl (HN2.out.own.alloc _) ⟨w2.heap.size, 0, none⟩ 1 1 [.int .u8 ((t[j]'c1).toNat : Int)] rfl rfl ?c1 ?c2 ?c3 ?c4 ?c5 ?_)
    case c1 => exact one_cell _ _
    case c2 => intro u hu; simp at hu; subst hu; rfl
    case c3 => unfold maxLen; omega
    case c4 => omega
    case c5 => have := HN2.out.fresh.size; simp; omega
    intro v3 w3 hown3 hgrow3 _;obtain ⟨g3, cap3, rfl, hn3⟩ := RQ.next (t[j]'c1) HN2.out hown3 hgrow3;have HN3 := hid hn3;clear hown3 hgrow3 hn3;go_wp2_with fail
    go_roundw
    case rel => exact ⟨j + 1, acc ++ [92] ++ [t[j]'c1], n + 1 + 1, _, _, rfl, by go_num, c1, by omega, by rw [HTK.out, Lx.esc_snoc, HE.out, HA.out]; simp [Hid], HN3⟩
    case measure => simp [intOf]; omega
   ·have b2 : (((t[j]'c1).toNat : Int) == 34) = false := u8_ne_of _ 34 c2
    by_cases c3 : t[j]'c1 = 92
    ·have b3 : (((t[j]'c1).toNat : Int) == 92) = true := u8_eq_of _ 92 c3
     have HE := hid (show Lx.escB (t[j]'c1) = [92, t[j]'c1] by unfold Lx.escB; rw [if_pos (.inr c3)]);clear c2 c3
     go_wp2_with (at_builtin; refine wpList_append_own _ rfl _ _ 92 rfl w.heap.size 5 i0 (.int .u8 0) 1 1 Tryz.underlying92 hi hz0 hz1 hz2 rfl (by decide) _ _ _ rfl (HS.out.own.alloc _) ⟨wr.heap.size, 0, none⟩ 1 1 [.int .u8 (((92 : UInt8).toNat : Nat) : Int)] rfl rfl ?c1 ?c2 ?c3 ?c4 ?c5 ?_)
     case c1 => exact one_cell _ _
     case c2 => intro u hu; simp at hu; subst hu; rfl
     case c3 => unfold maxLen; omega
     case c4 => omega
     case c5 => have := HS.out.fresh.size; simp; omega
     intro v2 w2 hown2 hgrow2 _;obtain ⟨g2, cap2, rfl, hn2⟩ := RQ.next 92 HS.out hown2 hgrow2;have HN2 := hid hn2;clear hown2 hgrow2 hn2
     go_wp2_with (at_builtin; refine wpList_append_own _ rfl _ _ 92 rfl w.heap.size 5 i0 (.int .u8 0) 1 1 Tryz.underlying92 hi hz0 hz1 hz2 rfl (by decide) _ _ _ rfl (HN2.out.own.alloc _) ⟨w2.heap.size, 0, none⟩ 1 1 [.int .u8 ((t[j]'c1).toNat : Int)] rfl rfl ?c1 ?c2 ?c3 ?c4 ?c5 ?_)
     case c1 => exact one_cell _ _
     case c2 => intro u hu; simp at hu; subst hu; rfl
     case c3 => unfold maxLen; omega
     case c4 => omega
     case c5 => have := HN2.out.fresh.size; simp; omega
     intro v3 w3 hown3 hgrow3 _;obtain ⟨g3, cap3, rfl, hn3⟩ := RQ.next (t[j]'c1) HN2.out hown3 hgrow3;have HN3 := hid hn3;clear hown3 hgrow3 hn3;go_wp2_with fail
     go_roundw
     case rel => exact ⟨j + 1, acc ++ [92] ++ [t[j]'c1], n + 1 + 1, _, _, rfl, by go_num, c1, by omega, by rw [HTK.out, Lx.esc_snoc, HE.out, HA.out]; simp [Hid], HN3⟩
     case measure => simp [intOf]; omega
    ·have b3 : (((t[j]'c1).toNat : Int) == 92) = false := u8_ne_of _ 92 c3
     have HE := hid (show Lx.escB (t[j]'c1) = [t[j]'c1] by unfold Lx.escB; rw [if_neg (by rintro (h | h) <;> contradiction)]);clear c2 c3
     go_wp2_with (at_builtin; refine wpList_append_own _ rfl _ _ 92 rfl w.heap.size 5 i0 (.int .u8 0) 1 1 Tryz.underlying92 hi hz0 hz1 hz2 rfl (by decide) _ _ _ rfl (HS.out.own.alloc _) ⟨wr.heap.size, 0, none⟩ 1 1 [.int .u8 ((t[j]'c1).toNat : Int)] rfl rfl ?c1 ?c2 ?c3 ?c4 ?c5 ?_)
     case c1 => exact one_cell _ _
     case c2 => intro u hu; simp at hu; subst hu; rfl
     case c3 => unfold maxLen; omega
     case c4 => omega
     case c5 => have := HS.out.fresh.size; simp; omega
     intro v2 w2 hown2 hgrow2 _;obtain ⟨g2, cap2, rfl, hn2⟩ := RQ.next (t[j]'c1) HS.out hown2 hgrow2;have HN2 := hid hn2;clear hown2 hgrow2 hn2;go_wp2_with fail
     go_roundw
     case rel => exact ⟨j + 1, acc ++ [t[j]'c1], n + 1, _, _, rfl, by go_num, c1, by omega, by rw [HTK.out, Lx.esc_snoc, HE.out, HA.out]; simp [Hid], HN2⟩
     case measure => simp [intOf]; omega
  ·have b1 : decide ((j : Int) < (t.size : Int)) = false := by simp; omega
   have htk : t.data.toList.take j = t.data.toList := List.take_of_length_le (by rw [HLL.out]; omega);have HTK := hid htk;clear htk
   go_wp2_with (at_builtin; refine wpList_append_own _ rfl _ _ 92 rfl w.heap.size 5 i0 (.int .u8 0) 1 1 Tryz.underlying92 hi hz0 hz1 hz2 rfl (by decide) _ _ _ rfl (HS.out.own.alloc _) ⟨wr.heap.size, 0, none⟩ 1 1 [.int .u8 (((34 : UInt8).toNat : Nat) : Int)] rfl rfl ?c1 ?c2 ?c3 ?c4 ?c5 ?_)
   case c1 => exact one_cell _ _
   case c2 => intro u hu; simp at hu; subst hu; rfl
   case c3 => unfold maxLen; omega
   case c4 => omega
   case c5 => have := HS.out.fresh.size; simp; omega
   intro v2 w2 hown2 hgrow2 _;obtain ⟨g2, cap2, rfl, hn2⟩ := RQ.next 34 HS.out hown2 hgrow2;have HN2 := hid hn2;clear hown2 hgrow2 hn2;clear HS
   have hlen : (acc ++ [34]).length = n + 1 := by
    have := HN2.out.own.1;simpa [Lib.byteCells] using this
   have hconv : (convert 92 9 (.slice (some ⟨g2, 0, none⟩) (n + 1) cap2)).run Tryz.prog w2 = .ok (.string ⟨(acc ++ [34]).toArray⟩) w2 := by
    rw [← hlen];refine run_convert_bytes_back w2 92 9 5 ⟨g2, 0, none⟩ cap2 (acc ++ [34]) Tryz.underlying92 Tryz.underlying5 Tryz.underlying9 ?_;intro j hj;exact HN2.out.own.cells rfl j _ (by unfold Lib.byteCells; rw [List.getElem?_map, List.getElem?_eq_getElem hj]; rfl)
   have HL := hid hlen;clear hlen;go_wp2_with fail
   go_ret;exact ⟨by rw [HA.out, HTK.out]; rfl, HN2.out.fresh⟩
end Go.Proofs.YtomibmenojdieaaGreat
namespace Go.Proofs.YtomibmenojdieaaGreat
open Go.RowKit
open Tr (Nd)
def kname : Nat → List UInt8
 | 1 => [114, 111, 119]
 | 2 => [115, 121, 109]
 | 3 => [110, 117, 109]
 | 4 => [116, 101, 120, 116]
 | 5 => [102, 114, 97, 99]
 | 6 => [114, 111, 111, 116]
 | 7 => [115, 117, 98]
 | 8 => [115, 117, 112]
 | 9 => [98, 111, 116, 104]
 | _ => []
theorem kname_len (k : Nat) : (kname k).length ≤ 4 := by unfold kname; split <;> decide
mutual
def dumpT : Nd → List UInt8
 | .mk k t _ ks => kname k.toNat ++ ((if t = [] then [] else 58 :: Lx.quoteL t) ++ (if ks = [] then [] else 40 :: (dumpL true ks ++ [41])))
def dumpL : Bool → List Nd → List UInt8
 | _, [] => []
 | f, n :: ns => (if f then [] else [32]) ++ (dumpT n ++ dumpL false ns)
end
mutual
def dumpOK : Nd → Bool
 | .mk k t c ks => decide (1 ≤ k) && decide (k ≤ 9) && (c == 0) && decide (t.length ≤ 200) && dumpOKL ks
def dumpOKL : List Nd → Bool
 | [] => true
 | n :: ns => dumpOK n && dumpOKL ns
end
theorem dumpOKL_get {l : List Nd} (h : dumpOKL l = true) : ∀ i (hi : i < l.length), dumpOK l[i] = true := by
 induction l with
 | nil => intro i hi; simp at hi
 | cons x l ih =>
  rw [dumpOKL, Bool.and_eq_true] at h;intro i hi;cases i with
  | zero => exact h.1
  | succ i => exact ih h.2 i (by simpa using hi)
theorem dumpL_append : ∀ (l m : List Nd) (f : Bool), dumpL f (l ++ m) = dumpL f l ++ dumpL (f && l.isEmpty) m
 | [], m, f => by simp [dumpL]
 | x :: l, m, f => by
  simp only [List.cons_append, dumpL, dumpL_append l m false, Bool.false_and, List.isEmpty_cons, Bool.and_false, List.append_assoc]
theorem dumpL_take (l : List Nd) (j : Nat) (h : j < l.length) : dumpL true (l.take (j + 1)) = dumpL true (l.take j) ++ ((if j = 0 then [] else [32]) ++ dumpT l[j]) := by
 rw [List.take_succ_eq_append_getElem h, dumpL_append]
 congr 1
 have e : (true && (l.take j).isEmpty) = decide (j = 0) := by
  cases j with
  | zero => rfl
  | succ j =>
   cases l with
   | nil => simp at h
   | cons x l => rfl
 rw [e];simp only [dumpL, List.append_nil, decide_eq_true_eq]
theorem dumpL_le (l : List Nd) (j : Nat) : (dumpL true (l.take j)).length ≤ (dumpL true l).length := by
 have := congrArg List.length (dumpL_append (l.take j) (l.drop j) true);rw [List.take_append_drop, List.length_append] at this;omega
def dumpH (k : Nat) (t : List UInt8) : List UInt8 := kname k ++ (if t = [] then [] else 58 :: Lx.quoteL t)
theorem str_nil_right (l : List UInt8) : (⟨l.toArray⟩ : ByteArray) ++ ⟨#[]⟩ = ⟨l.toArray⟩ := by
 apply ByteArray.ext
 simp [ByteArray.data_append]
theorem str_apps3 (a b c : List UInt8) : (⟨(a ++ b ++ c).toArray⟩ : ByteArray) = ⟨a.toArray⟩ ++ ⟨b.toArray⟩ ++ ⟨c.toArray⟩ := by
 apply ByteArray.ext
 simp [ByteArray.data_append]
theorem int_digit (k : Nat) (w : World) (hk : k ≤ 9) : Calls Tryz.prog 22 #[.int .i64 (k : Int)] w fun e w' => e = .returned (.string ⟨[UInt8.ofNat (48 + k)].toArray⟩) ∧ Fresh w w' := by
 have d0 : decide ((k : Int) < 0) = false := by simp
 have d1 : decide ((10 : Int) ≤ (k : Int)) = false := by simp; omega
 obtain ⟨b, hb0⟩ : ∃ b, UInt8.ofNat (48 + k) = b := ⟨_, rfl⟩;have HB0 := hid (show ((b.toNat : Nat) : Int) = 48 + (k : Int) by rw [← hb0, UInt8.toNat_ofNat']; omega);rw [hb0];clear hb0;go_enter Tryz.func22, Tryz.ntmps22;go_wp2_with fail
 go_loopw [0, 4] (fun a s wr => a = .int .i64 (k : Int) ∧ s = .string ⟨#[]⟩ ∧ wr = w) (fun _ _ _ => 0)
 case atStart => exact ⟨rfl, rfl, rfl⟩
 case round =>
  obtain ⟨rfl, rfl, rfl⟩ := hrel;have hb := HB0.out
  have hconv : (convert 92 9 (.slice (some ⟨wr.heap.size, 0, none⟩) 1 1)).run Tryz.prog (wr.alloc (.cells #[.int .u8 (48 + (k : Int))] 5)) = .ok (.string ⟨[b].toArray⟩) (wr.alloc (.cells #[.int .u8 (48 + (k : Int))] 5)) := by
   refine run_convert_bytes_back _ 92 9 5 ⟨wr.heap.size, 0, none⟩ 1 [b] Tryz.underlying92 Tryz.underlying5 Tryz.underlying9 ?_;intro j hj;obtain rfl : j = 0 := by simpa using hj
   show _ = some (Value.int .u8 ((b.toNat : Nat) : Int));rw [hb];exact (Blk.new wr 5 #[.int .u8 (48 + (k : Int))]).cell 0
  clear hb;go_wp2_with fail
  go_ret;exact ⟨by rw [← str_nil_right [b]]; rfl, (Touch.refl _ _).alloc _⟩
theorem dump_any (m : Nat) : ∀ (n : Nd) (sl : Value) (w : World), Tr.count n ≤ m → RepL w n.kids sl → dumpOK n = true → (dumpT n).length ≤ 100000 →
  Calls Tryz.prog 11 #[.agg #[.int .i64 n.kind, .string ⟨n.text.toArray⟩, .int .i64 n.cols, sl]] w fun e w' => e = .returned (.string ⟨(dumpT n).toArray⟩) ∧ Fresh w w' := by
 induction m with
 | zero => intro n _ _ h; have := Tr.count_pos n; omega
 | succ m ih =>
  rintro ⟨kd, t, c, ks⟩ sl w hc hr hok hlen;have HR := hid hr;obtain ⟨A, cap, rfl⟩ := hr.slice;have hD : dumpT (.mk kd t c ks) = dumpH kd.toNat t ++ (if ks = [] then [] else 40 :: (dumpL true ks ++ [41])) := by rw [dumpT]; unfold dumpH; rw [List.append_assoc]
  rw [dumpOK] at hok;simp only [Bool.and_eq_true, decide_eq_true_eq, beq_iff_eq] at hok;obtain ⟨⟨⟨⟨k1, k9⟩, rfl⟩, ht⟩, hks⟩ := hok;obtain ⟨k, rfl⟩ := Int.eq_ofNat_of_zero_le (by omega : 0 ≤ kd);have HK := hid hks;have HD := hid hD;have HC := hid hc;clear hD hc hks hr;simp only [Nd.kind, Nd.text, Nd.cols, Nd.kids] at HR ⊢;have HIH := hid ih;clear ih;have g1 : decide ((1 : Int) ≤ (k : Int)) = true := dT (by omega);have g12 : decide ((k : Int) ≤ 12) = true := dT (by omega);go_enter Tryz.func11, Tryz.ntmps11;go_wp2_with fail
  have HB := hid ((Blk.new w 35 #[.int .i64 (k : Int), .string ⟨t.toArray⟩, .int .i64 0, .slice A ks.length cap]).alloc (.cells #[.string ⟨#[]⟩, .string ⟨#[114, 111, 119]⟩, .string ⟨#[115, 121, 109]⟩, .string ⟨#[110, 117, 109]⟩, .string ⟨#[116, 101, 120, 116]⟩, .string ⟨#[102, 114, 97, 99]⟩, .string ⟨#[114, 111, 111, 116]⟩, .string ⟨#[115, 117, 98]⟩, .string ⟨#[115, 117, 112]⟩, .string ⟨#[98, 111, 116, 104]⟩, .string ⟨#[97, 99, 99, 101, 110, 116]⟩, .string ⟨#[102, 101, 110, 99, 101]⟩, .string ⟨#[109, 97, 116, 114, 105, 120]⟩] 63));have HM := hid (Blk.new2 w (.cells #[.int .i64 (k : Int), .string ⟨t.toArray⟩, .int .i64 0, .slice A ks.length cap] 35) 63 #[.string ⟨#[]⟩, .string ⟨#[114, 111, 119]⟩, .string ⟨#[115, 121, 109]⟩, .string ⟨#[110, 117, 109]⟩, .string ⟨#[116, 101, 120, 116]⟩, .string ⟨#[102, 114, 97, 99]⟩, .string ⟨#[114, 111, 111, 116]⟩, .string ⟨#[115, 117, 98]⟩, .string ⟨#[115, 117, 112]⟩, .string ⟨#[98, 111, 116, 104]⟩, .string ⟨#[97, 99, 99, 101, 110, 116]⟩, .string ⟨#[102, 101, 110, 99, 101]⟩, .string ⟨#[109, 97, 116, 114, 105, 120]⟩]);have HF := hid (((Touch.refl (fun _ => False) w).alloc (.cells #[.int .i64 (k : Int), .string ⟨t.toArray⟩, .int .i64 0, .slice A ks.length cap] 35)).alloc (.cells #[.string ⟨#[]⟩, .string ⟨#[114, 111, 119]⟩, .string ⟨#[115, 121, 109]⟩, .string ⟨#[110, 117, 109]⟩, .string ⟨#[116, 101, 120, 116]⟩, .string ⟨#[102, 114, 97, 99]⟩, .string ⟨#[114, 111, 111, 116]⟩, .string ⟨#[115, 117, 98]⟩, .string ⟨#[115, 117, 112]⟩, .string ⟨#[98, 111, 116, 104]⟩, .string ⟨#[97, 99, 99, 101, 110, 116]⟩, .string ⟨#[102, 101, 110, 99, 101]⟩, .string ⟨#[109, 97, 116, 114, 105, 120]⟩] 63));refine (int_digit k _ (by omega)).mono ?_;rintro _ w1 ⟨rfl, hf1⟩;have HB1 := hid (hf1.blk HB.out fun h => h);have HM1 := hid (hf1.blk HM.out fun h => h);have HF1 := hid (HF.out.trans hf1);clear hf1 HB HM HF;obtain ⟨p0, p1, p2, p3, _, _, _, _, hlt⟩ := Blk.four HB1.out;have hlm := HM1.out.lt
  have hcn : w1.cell? ⟨w.heap.size + 1, k, none⟩ = some (.string ⟨(kname k).toArray⟩) := by
   rw [HM1.out.cell];have : k = 1 ∨ k = 2 ∨ k = 3 ∨ k = 4 ∨ k = 5 ∨ k = 6 ∨ k = 7 ∨ k = 8 ∨ k = 9 := by omega
   rcases this with rfl | rfl | rfl | rfl | rfl | rfl | rfl | rfl | rfl <;> rfl
  have hadd := run_string_add_lists (P := Tryz.prog) w1 [110, 111, 100, 101] [UInt8.ofNat (48 + k)] (by simp) (by simp);have hk13 : (k : Int) < 13 := by omega
  obtain ⟨nm, hnm⟩ : ∃ nm, kname k = nm := ⟨_, rfl⟩;have hnl := kname_len k;rw [hnm] at hcn hnl;have HNM := hid hnm;have HD2 := hid (show dumpT (.mk (k : Int) t 0 ks) = (nm ++ (if t = [] then [] else 58 :: Lx.quoteL t)) ++ (if ks = [] then [] else 40 :: (dumpL true ks ++ [41])) by rw [HD.out]; unfold dumpH; rw [Int.toNat_natCast, hnm]);have HL := hid hlen;clear hnm HD hlen
  by_cases ht0 : t = []
  ·subst ht0
   have HT := hid (show nm ++ (if ([] : List UInt8) = [] then [] else 58 :: Lx.quoteL []) = nm by simp);obtain ⟨P, hP⟩ : ∃ P, nm = P := ⟨_, rfl⟩;subst hP
   by_cases hk0 : ks = []
   ·subst hk0
    have l0 : ((([] : List Nd).length : Int) == 0) = true := rfl;go_wp2_with fail
    go_ret;have hfin : dumpT (.mk (k : Int) [] 0 []) = nm := by rw [HD2.out, HT.out]; simp
    exact ⟨by rw [hfin]; rfl, HF1.out⟩
   ·have l0 : ((ks.length : Int) == 0) = false := by rw [beq_eq_false_iff_ne]; intro h; exact hk0 (List.length_eq_zero_iff.1 (by omega))
    generalize nm = P at *;have HPRE := hid (show dumpT (.mk (k : Int) [] 0 ks) = P ++ 40 :: (dumpL true ks ++ [41]) by rw [HD2.out, HT.out, if_neg hk0]);have HPL := hid (show P.length + (dumpL true ks).length + 2 ≤ 100000 by have := HL.out; rw [HPRE.out, List.length_append, List.length_cons, List.length_append] at this; simp at this ⊢; omega);have hplen := HPL.out;have hln := HR.out.len;unfold maxLen at hln;have hadd2 := fun W : World => run_string_add_lists (P := Tryz.prog) W P [40] (by omega) (by simp)
    go_wp2_with fail
    clear hadd2
    go_loopw [4, 5] (fun x i wr => ∃ j : Nat, i = .int .i64 j ∧ j ≤ ks.length ∧ x = .string ⟨(P ++ 40 :: dumpL true (ks.take j)).toArray⟩ ∧ Hid (Blk wr w.heap.size 35 #[.int .i64 (k : Int), .string ⟨([] : List UInt8).toArray⟩, .int .i64 0, .slice A ks.length cap]) ∧ Hid (Fresh w wr)) (fun _ i _ => ks.length - (intOf i).toNat)
    case atStart => exact ⟨0, rfl, Nat.zero_le _, by rw [List.take_zero, dumpL], HB1, HF1⟩
    case round =>
     obtain ⟨j, rfl, hj, rfl, HBR, HFR⟩ := hrel;have hle := dumpL_le ks j;have hacl : (P ++ 40 :: dumpL true (ks.take j)).length = P.length + 1 + (dumpL true (ks.take j)).length := by rw [List.length_append, List.length_cons]; omega
     by_cases c1 : j < ks.length
     ·have d1 : decide ((j : Int) < (ks.length : Int)) = true := dT (by omega)
      have d1n : decide (j < ks.length) = true := dT (by omega);have d1' : (j : Int) < (ks.length : Int) := by omega
      have HTK := hid (dumpL_take ks j c1);have hle2 := dumpL_le ks (j + 1);have hcx := Tr.count_mem (List.getElem_mem (l := ks) (n := j) c1);have hcm : Tr.count (.mk (k : Int) [] 0 ks) = 1 + Tr.countL ks := by rw [Tr.count]
      have hcn := HC.out;rw [hcm] at hcn;have HOKX := hid (dumpOKL_get HK.out j c1);obtain ⟨g, o, sl, rfl, hg', m0, m1, m2, m3, hrk⟩ := HR.out.get j c1;have HRK := hid (hrk.fresh HFR.out);have r0 := HFR.out.cell m0 (fun h => h);have r1 := HFR.out.cell m1 (fun h => h);have r2 := HFR.out.cell m2 (fun h => h);have r3 := HFR.out.cell m3 (fun h => h);rw [HTK.out] at hle2;clear m0 m1 m2 m3 hrk hcm;generalize ks[j] = x at *;obtain ⟨acc, hacc⟩ : ∃ acc, P ++ 40 :: dumpL true (ks.take j) = acc := ⟨_, rfl⟩;have HACC := hid hacc;rw [hacc] at hacl;rw [hacc];clear hacc;obtain ⟨q0, q1, q2, q3, _, _, _, _, hlt⟩ := Blk.four HBR.out
      by_cases c4 : j = 0
      ·have d2 : decide ((0 : Int) < (j : Int)) = false := dF (by omega)
       have d2n : decide (0 < j) = false := dF (by omega);rw [if_pos c4] at HTK hle2;simp only [List.length_append, List.length_nil] at hle2;have hdx : (dumpT x).length ≤ 100000 := by omega
       have hz0 := c4;have hadd4 := fun W : World => run_string_add_lists (P := Tryz.prog) W acc (dumpT x) (by omega) (by omega)
       clear c4 hz0;go_wp2_with fail
       refine (HIH.out x sl _ (by omega) HRK.out HOKX.out hdx).mono ?_;rintro _ w3 ⟨rfl, hf3⟩;have HF3 := hid (HFR.out.trans hf3);have HB3 := hid (hf3.blk HBR.out (fun h => h));clear hf3 q0 q1 q2 q3 r0 r1 r2 r3 hlt;go_wp2_with fail
       go_roundw
       case rel =>
        refine ⟨j + 1, by go_num, c1, ?_, HB3, HF3⟩;rw [HTK.out, ← HACC.out];simp
       case measure => simp [intOf]; omega
      ·have d2 : decide ((0 : Int) < (j : Int)) = true := dT (by omega)
       have d2n : decide (0 < j) = true := dT (by omega);rw [if_neg c4] at HTK hle2;simp only [List.length_append, List.length_cons, List.length_nil] at hle2;have hdx : (dumpT x).length ≤ 100000 := by omega
       have hadd3 := fun W : World => run_string_add_lists (P := Tryz.prog) W acc [32] (by omega) (by simp)
       have hadd4 := fun W : World => run_string_add_lists (P := Tryz.prog) W (acc ++ [32]) (dumpT x) (by simp only [List.length_append, List.length_cons, List.length_nil]; omega) (by omega)
       clear c4;go_wp2_with fail
       refine (HIH.out x sl _ (by omega) HRK.out HOKX.out hdx).mono ?_;rintro _ w3 ⟨rfl, hf3⟩;have HF3 := hid (HFR.out.trans hf3);have HB3 := hid (hf3.blk HBR.out (fun h => h));clear hf3 q0 q1 q2 q3 r0 r1 r2 r3 hlt;go_wp2_with fail
       go_roundw
       case rel =>
        refine ⟨j + 1, by go_num, c1, ?_, HB3, HF3⟩;rw [HTK.out, ← HACC.out];simp
       case measure => simp [intOf]; omega
     ·have d1 : decide ((j : Int) < (ks.length : Int)) = false := dF (by omega)
      have d1n : decide (j < ks.length) = false := dF (by omega);obtain rfl : j = ks.length := by omega
      rw [List.take_length] at *;obtain ⟨q0, q1, q2, q3, _, _, _, _, hlt⟩ := Blk.four HBR.out;have hadd3 := fun W : World => run_string_add_lists (P := Tryz.prog) W (P ++ 40 :: dumpL true ks) [41] (by omega) (by simp)
      go_wp2_with fail
      go_ret;exact ⟨by rw [HPRE.out]; simp, HFR.out⟩
  ·have s0 : (t == ([] : List UInt8)) = false := by simpa using ht0
   have s1 : ((⟨t.toArray⟩ : ByteArray) == (⟨#[]⟩ : ByteArray)) = false := by rw [str_eq']; exact s0
   have s2 : ((⟨t.toArray⟩ : ByteArray) != (⟨#[]⟩ : ByteArray)) = true := by rw [bne, s1]; rfl
   have s3 : (ByteArray.toList (⟨t.toArray⟩ : ByteArray)).isEmpty = false := by rw [isEmpty_str]; exact s0
   have HT := hid (show nm ++ (if t = [] then [] else 58 :: Lx.quoteL t) = nm ++ [58] ++ Lx.quoteL t by rw [if_neg ht0, List.append_assoc]; rfl);have hqs : (⟨t.toArray⟩ : ByteArray).size ≤ 1000000000 := by show t.toArray.size ≤ _; rw [List.size_toArray]; omega
   have HQL := hid (show (nm ++ [58] ++ Lx.quoteL t).length ≤ 1000 by unfold Lx.quoteL; have := Lx.esc_len t; simp; omega);have hql : (Lx.quoteL t).length ≤ 1000 := by unfold Lx.quoteL; have := Lx.esc_len t; simp; omega
   by_cases hk0 : ks = []
   ·subst hk0
    have l0 : ((([] : List Nd).length : Int) == 0) = true := rfl;go_wp2_with fail
    refine (rQuoted_any ⟨t.toArray⟩ _ hqs).mono ?_;rintro _ w2 ⟨rfl, hf2⟩;have HB2 := hid (hf2.blk HB1.out fun h => h);have HF2 := hid (HF1.out.trans hf2);clear hf2 p0 p1 p2 p3 hlt;obtain ⟨p0, p1, p2, p3, _, _, _, _, hlt⟩ := Blk.four HB2.out;rw [show (⟨t.toArray⟩ : ByteArray).data.toList = t from rfl];have hadd3 := fun W : World => run_string_add_lists (P := Tryz.prog) W nm [58] (by omega) (by simp)
    have hadd4 := fun W : World => run_string_add_lists (P := Tryz.prog) W (nm ++ [58]) (Lx.quoteL t) (by simp; omega) (by omega)
    obtain ⟨P, hP⟩ : ∃ P, nm ++ [58] ++ Lx.quoteL t = P := ⟨_, rfl⟩;have HPQ := hid hP;rw [hP] at HT HQL hadd4;clear hP;go_wp2_with fail
    go_ret;have hfin : dumpT (.mk (k : Int) t 0 []) = P := by rw [HD2.out, HT.out]; simp
    exact ⟨by rw [hfin, ← HPQ.out, str_apps3]; rfl, HF2.out⟩
   ·have l0 : ((ks.length : Int) == 0) = false := by rw [beq_eq_false_iff_ne]; intro h; exact hk0 (List.length_eq_zero_iff.1 (by omega))
    go_wp2_with fail
    refine (rQuoted_any ⟨t.toArray⟩ _ hqs).mono ?_;rintro _ w2 ⟨rfl, hf2⟩;have HB2 := hid (hf2.blk HB1.out fun h => h);have HF2 := hid (HF1.out.trans hf2);clear hf2 p0 p1 p2 p3 hlt;obtain ⟨p0, p1, p2, p3, _, _, _, _, hlt⟩ := Blk.four HB2.out;rw [show (⟨t.toArray⟩ : ByteArray).data.toList = t from rfl];have hadd3 := fun W : World => run_string_add_lists (P := Tryz.prog) W nm [58] (by omega) (by simp)
    have hadd4 := fun W : World => run_string_add_lists (P := Tryz.prog) W (nm ++ [58]) (Lx.quoteL t) (by simp; omega) (by omega)
    obtain ⟨P, hP⟩ : ∃ P, nm ++ [58] ++ Lx.quoteL t = P := ⟨_, rfl⟩;have HPQ := hid hP;rw [hP] at HT HQL hadd4;clear hP;have HPRE := hid (show dumpT (.mk (k : Int) t 0 ks) = P ++ 40 :: (dumpL true ks ++ [41]) by rw [HD2.out, HT.out, if_neg hk0]);have HPL := hid (show P.length + (dumpL true ks).length + 2 ≤ 100000 by have := HL.out; rw [HPRE.out, List.length_append, List.length_cons, List.length_append] at this; simp at this ⊢; omega);have hplen := HPL.out;have hln := HR.out.len;unfold maxLen at hln;have hadd2 := fun W : World => run_string_add_lists (P := Tryz.prog) W P [40] (by omega) (by simp)
    go_wp2_with fail
    clear hadd2
    go_loopw [4, 5] (fun x i wr => ∃ j : Nat, i = .int .i64 j ∧ j ≤ ks.length ∧ x = .string ⟨(P ++ 40 :: dumpL true (ks.take j)).toArray⟩ ∧ Hid (Blk wr w.heap.size 35 #[.int .i64 (k : Int), .string ⟨t.toArray⟩, .int .i64 0, .slice A ks.length cap]) ∧ Hid (Fresh w wr)) (fun _ i _ => ks.length - (intOf i).toNat)
    case atStart => exact ⟨0, rfl, Nat.zero_le _, by rw [← HPQ.out]; rw [List.take_zero, dumpL]; exact congrArg Value.string (by apply ByteArray.ext; simp [ByteArray.data_append]), HB2, HF2⟩
    case round =>
     obtain ⟨j, rfl, hj, rfl, HBR, HFR⟩ := hrel;have hle := dumpL_le ks j;have hacl : (P ++ 40 :: dumpL true (ks.take j)).length = P.length + 1 + (dumpL true (ks.take j)).length := by rw [List.length_append, List.length_cons]; omega
     by_cases c1 : j < ks.length
     ·have d1 : decide ((j : Int) < (ks.length : Int)) = true := dT (by omega)
      have d1n : decide (j < ks.length) = true := dT (by omega);have d1' : (j : Int) < (ks.length : Int) := by omega
      have HTK := hid (dumpL_take ks j c1);have hle2 := dumpL_le ks (j + 1);have hcx := Tr.count_mem (List.getElem_mem (l := ks) (n := j) c1);have hcm : Tr.count (.mk (k : Int) t 0 ks) = 1 + Tr.countL ks := by rw [Tr.count]
      have hcn := HC.out;rw [hcm] at hcn;have HOKX := hid (dumpOKL_get HK.out j c1);obtain ⟨g, o, sl, rfl, hg', m0, m1, m2, m3, hrk⟩ := HR.out.get j c1;have HRK := hid (hrk.fresh HFR.out);have r0 := HFR.out.cell m0 (fun h => h);have r1 := HFR.out.cell m1 (fun h => h);have r2 := HFR.out.cell m2 (fun h => h);have r3 := HFR.out.cell m3 (fun h => h);rw [HTK.out] at hle2;clear m0 m1 m2 m3 hrk hcm;generalize ks[j] = x at *;obtain ⟨acc, hacc⟩ : ∃ acc, P ++ 40 :: dumpL true (ks.take j) = acc := ⟨_, rfl⟩;have HACC := hid hacc;rw [hacc] at hacl;rw [hacc];clear hacc;obtain ⟨q0, q1, q2, q3, _, _, _, _, hlt⟩ := Blk.four HBR.out
      by_cases c4 : j = 0
      ·have d2 : decide ((0 : Int) < (j : Int)) = false := dF (by omega)
       have d2n : decide (0 < j) = false := dF (by omega);rw [if_pos c4] at HTK hle2;simp only [List.length_append, List.length_nil] at hle2;have hdx : (dumpT x).length ≤ 100000 := by omega
       have hz0 := c4;have hadd4 := fun W : World => run_string_add_lists (P := Tryz.prog) W acc (dumpT x) (by omega) (by omega)
       clear c4 hz0;go_wp2_with fail
       refine (HIH.out x sl _ (by omega) HRK.out HOKX.out hdx).mono ?_;rintro _ w3 ⟨rfl, hf3⟩;have HF3 := hid (HFR.out.trans hf3);have HB3 := hid (hf3.blk HBR.out (fun h => h));clear hf3 q0 q1 q2 q3 r0 r1 r2 r3 hlt;go_wp2_with fail
       go_roundw
       case rel =>
        refine ⟨j + 1, by go_num, c1, ?_, HB3, HF3⟩;rw [HTK.out, ← HACC.out];simp
       case measure => simp [intOf]; omega
      ·have d2 : decide ((0 : Int) < (j : Int)) = true := dT (by omega)
       have d2n : decide (0 < j) = true := dT (by omega);rw [if_neg c4] at HTK hle2;simp only [List.length_append, List.length_cons, List.length_nil] at hle2;have hdx : (dumpT x).length ≤ 100000 := by omega
       have hadd3 := fun W : World => run_string_add_lists (P := Tryz.prog) W acc [32] (by omega) (by simp)
       have hadd4 := fun W : World => run_string_add_lists (P := Tryz.prog) W (acc ++ [32]) (dumpT x) (by simp only [List.length_append, List.length_cons, List.length_nil]; omega) (by omega)
       clear c4;go_wp2_with fail
       refine (HIH.out x sl _ (by omega) HRK.out HOKX.out hdx).mono ?_;rintro _ w3 ⟨rfl, hf3⟩;have HF3 := hid (HFR.out.trans hf3);have HB3 := hid (hf3.blk HBR.out (fun h => h));clear hf3 q0 q1 q2 q3 r0 r1 r2 r3 hlt;go_wp2_with fail
       go_roundw
       case rel =>
        refine ⟨j + 1, by go_num, c1, ?_, HB3, HF3⟩;rw [HTK.out, ← HACC.out];simp
       case measure => simp [intOf]; omega
     ·have d1 : decide ((j : Int) < (ks.length : Int)) = false := dF (by omega)
      have d1n : decide (j < ks.length) = false := dF (by omega);obtain rfl : j = ks.length := by omega
      rw [List.take_length] at *;obtain ⟨q0, q1, q2, q3, _, _, _, _, hlt⟩ := Blk.four HBR.out;have hadd3 := fun W : World => run_string_add_lists (P := Tryz.prog) W (P ++ 40 :: dumpL true ks) [41] (by omega) (by simp)
      go_wp2_with fail
      go_ret;exact ⟨by rw [HPRE.out]; simp, HFR.out⟩
end Go.Proofs.YtomibmenojdieaaGreat
