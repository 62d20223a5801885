/- Part 26 of 48 of a proof; its texts, joined: NvD, PrZ. No condition. -/
import Derived.Test.YtncnoeoicaglaaaGreatVc16
import Derived.Test.YtncnoeoicaglaaaGreatVc25
import Derived.Test.YtncnoeoicaglaaaGreatVc14
import Derived.Test.YtncnoeoicaglaaaGreatVc9

/- The walks of the reference's Int (of one digit) and Dump. -/
namespace Go.Proofs.YtncnoeoicaglaaaGreat
open Go.RowKit
open Tr (Nd)
def kname : Nat → List UInt8
 | 1 => [114, 111, 119]
 | 2 => [115, 121, 109]
 | 3 => [110, 117, 109]
 | 4 => [116, 101, 120, 116]
 | 5 => [102, 114, 97, 99]
 | 6 => [114, 111, 111, 116]
 | 7 => [115, 117, 98]
 | 8 => [115, 117, 112]
 | 9 => [98, 111, 116, 104]
 | _ => []
theorem kname_len (k : Nat) : (kname k).length ≤ 4 := by unfold kname; split <;> decide
mutual
def dumpT : Nd → List UInt8
 | .mk k t _ ks => kname k.toNat ++ ((if t = [] then [] else 58 :: Lx.quoteL t) ++ (if ks = [] then [] else 40 :: (dumpL true ks ++ [41])))
def dumpL : Bool → List Nd → List UInt8
 | _, [] => []
 | f, n :: ns => (if f then [] else [32]) ++ (dumpT n ++ dumpL false ns)
end
mutual
def dumpOK : Nd → Bool
 | .mk k t c ks => decide (1 ≤ k) && decide (k ≤ 9) && (c == 0) && decide (t.length ≤ 200) && dumpOKL ks
def dumpOKL : List Nd → Bool
 | [] => true
 | n :: ns => dumpOK n && dumpOKL ns
end
theorem dumpOKL_get {l : List Nd} (h : dumpOKL l = true) : ∀ i (hi : i < l.length), dumpOK l[i] = true := by
 induction l with
 | nil => intro i hi; simp at hi
 | cons x l ih =>
  rw [dumpOKL, Bool.and_eq_true] at h
  intro i hi
  cases i with
  | zero => exact h.1
  | succ i => exact ih h.2 i (by simpa using hi)
theorem dumpL_append : ∀ (l m : List Nd) (f : Bool), dumpL f (l ++ m) = dumpL f l ++ dumpL (f && l.isEmpty) m
 | [], m, f => by simp [dumpL]
 | x :: l, m, f => by
  simp only [List.cons_append, dumpL, dumpL_append l m false, Bool.false_and, List.isEmpty_cons, Bool.and_false, List.append_assoc]
theorem dumpL_take (l : List Nd) (j : Nat) (h : j < l.length) : dumpL true (l.take (j + 1)) = dumpL true (l.take j) ++ ((if j = 0 then [] else [32]) ++ dumpT l[j]) := by
 rw [List.take_succ_eq_append_getElem h, dumpL_append]
 congr 1
 have e : (true && (l.take j).isEmpty) = decide (j = 0) := by
  cases j with
  | zero => rfl
  | succ j =>
   cases l with
   | nil => simp at h
   | cons x l => rfl
 rw [e]
 simp only [dumpL, List.append_nil, decide_eq_true_eq]
theorem dumpL_le (l : List Nd) (j : Nat) : (dumpL true (l.take j)).length ≤ (dumpL true l).length := by
 have := congrArg List.length (dumpL_append (l.take j) (l.drop j) true)
 rw [List.take_append_drop, List.length_append] at this
 omega
def dumpH (k : Nat) (t : List UInt8) : List UInt8 := kname k ++ (if t = [] then [] else 58 :: Lx.quoteL t)
theorem str_nil_right (l : List UInt8) : (⟨l.toArray⟩ : ByteArray) ++ ⟨#[]⟩ = ⟨l.toArray⟩ := by
 apply ByteArray.ext
 simp [ByteArray.data_append]
theorem str_apps3 (a b c : List UInt8) : (⟨(a ++ b ++ c).toArray⟩ : ByteArray) = ⟨a.toArray⟩ ++ ⟨b.toArray⟩ ++ ⟨c.toArray⟩ := by
 apply ByteArray.ext
 simp [ByteArray.data_append]
set_option maxRecDepth 100000 in
set_option maxHeartbeats 1000000 in
theorem int_digit (k : Nat) (w : World) (hk : k ≤ 9) : Calls Tryz.prog 39 #[.int .i64 (k : Int)] w fun e w' => e = .returned (.string ⟨[UInt8.ofNat (48 + k)].toArray⟩) ∧ Fresh w w' := by
 have d0 : decide ((k : Int) < 0) = false := by simp
 have d1 : decide ((10 : Int) ≤ (k : Int)) = false := by simp; omega
 obtain ⟨b, hb0⟩ : ∃ b, UInt8.ofNat (48 + k) = b := ⟨_, rfl⟩
 have HB0 := hid (show ((b.toNat : Nat) : Int) = 48 + (k : Int) by rw [← hb0, UInt8.toNat_ofNat']; omega)
 rw [hb0]
 clear hb0
 go_enter Tryz.func39, Tryz.ntmps39
 go_wp2_with fail
 go_loopw [0, 4] (fun a s wr => a = .int .i64 (k : Int) ∧ s = .string ⟨#[]⟩ ∧ wr = w) (fun _ _ _ => 0)
 case atStart => exact ⟨rfl, rfl, rfl⟩
 case round =>
  obtain ⟨rfl, rfl, rfl⟩ := hrel
  have hb := HB0.out
  have hconv : (convert 22 9 (.slice (some ⟨wr.heap.size, 0, none⟩) 1 1)).run Tryz.prog (wr.alloc (.cells #[.int .u8 (48 + (k : Int))] 5)) = .ok (.string ⟨[b].toArray⟩) (wr.alloc (.cells #[.int .u8 (48 + (k : Int))] 5)) := by
   refine run_convert_bytes_back _ 22 9 5 ⟨wr.heap.size, 0, none⟩ 1 [b] Tryz.underlying22 Tryz.underlying5 Tryz.underlying9 ?_
   intro j hj
   obtain rfl : j = 0 := by simpa using hj
   show _ = some (Value.int .u8 ((b.toNat : Nat) : Int))
   rw [hb]
   exact (Blk.new wr 5 #[.int .u8 (48 + (k : Int))]).cell 0
  clear hb
  go_wp2_with fail
  go_ret
  exact ⟨by rw [← str_nil_right [b]]; rfl, (Touch.refl _ _).alloc _⟩
set_option maxRecDepth 100000 in
set_option maxHeartbeats 3000000 in
theorem dump_any (m : Nat) : ∀ (n : Nd) (sl : Value) (w : World), Tr.count n ≤ m → RepL w n.kids sl → dumpOK n = true → (dumpT n).length ≤ 100000 →
  Calls Tryz.prog 18 #[.agg #[.int .i64 n.kind, .string ⟨n.text.toArray⟩, .int .i64 n.cols, sl]] w fun e w' => e = .returned (.string ⟨(dumpT n).toArray⟩) ∧ Fresh w w' := by
 induction m with
 | zero => intro n _ _ h; have := Tr.count_pos n; omega
 | succ m ih =>
  rintro ⟨kd, t, c, ks⟩ sl w hc hr hok hlen
  have HR := hid hr
  obtain ⟨A, cap, rfl⟩ := hr.slice
  have hD : dumpT (.mk kd t c ks) = dumpH kd.toNat t ++ (if ks = [] then [] else 40 :: (dumpL true ks ++ [41])) := by rw [dumpT]; unfold dumpH; rw [List.append_assoc]
  rw [dumpOK] at hok
  simp only [Bool.and_eq_true, decide_eq_true_eq, beq_iff_eq] at hok
  obtain ⟨⟨⟨⟨k1, k9⟩, rfl⟩, ht⟩, hks⟩ := hok
  obtain ⟨k, rfl⟩ := Int.eq_ofNat_of_zero_le (by omega : 0 ≤ kd)
  have HK := hid hks
  have HD := hid hD
  have HC := hid hc
  clear hD hc hks hr
  simp only [Nd.kind, Nd.text, Nd.cols, Nd.kids] at HR ⊢
  have HIH := hid ih
  clear ih
  have g1 : decide ((1 : Int) ≤ (k : Int)) = true := by simp only [decide_eq_true_eq]; omega
  have g12 : decide ((k : Int) ≤ 12) = true := by simp only [decide_eq_true_eq]; omega
  go_enter Tryz.func18, Tryz.ntmps18
  go_wp2_with fail
  have HB := hid ((Blk.new w 26 #[.int .i64 (k : Int), .string ⟨t.toArray⟩, .int .i64 0, .slice A ks.length cap]).alloc (.cells #[.string ⟨#[]⟩, .string ⟨#[114, 111, 119]⟩, .string ⟨#[115, 121, 109]⟩, .string ⟨#[110, 117, 109]⟩, .string ⟨#[116, 101, 120, 116]⟩, .string ⟨#[102, 114, 97, 99]⟩, .string ⟨#[114, 111, 111, 116]⟩, .string ⟨#[115, 117, 98]⟩, .string ⟨#[115, 117, 112]⟩, .string ⟨#[98, 111, 116, 104]⟩, .string ⟨#[97, 99, 99, 101, 110, 116]⟩, .string ⟨#[102, 101, 110, 99, 101]⟩, .string ⟨#[109, 97, 116, 114, 105, 120]⟩] 87))
  have HM := hid (Blk.new2 w (.cells #[.int .i64 (k : Int), .string ⟨t.toArray⟩, .int .i64 0, .slice A ks.length cap] 26) 87 #[.string ⟨#[]⟩, .string ⟨#[114, 111, 119]⟩, .string ⟨#[115, 121, 109]⟩, .string ⟨#[110, 117, 109]⟩, .string ⟨#[116, 101, 120, 116]⟩, .string ⟨#[102, 114, 97, 99]⟩, .string ⟨#[114, 111, 111, 116]⟩, .string ⟨#[115, 117, 98]⟩, .string ⟨#[115, 117, 112]⟩, .string ⟨#[98, 111, 116, 104]⟩, .string ⟨#[97, 99, 99, 101, 110, 116]⟩, .string ⟨#[102, 101, 110, 99, 101]⟩, .string ⟨#[109, 97, 116, 114, 105, 120]⟩])
  have HF := hid (((Touch.refl (fun _ => False) w).alloc (.cells #[.int .i64 (k : Int), .string ⟨t.toArray⟩, .int .i64 0, .slice A ks.length cap] 26)).alloc (.cells #[.string ⟨#[]⟩, .string ⟨#[114, 111, 119]⟩, .string ⟨#[115, 121, 109]⟩, .string ⟨#[110, 117, 109]⟩, .string ⟨#[116, 101, 120, 116]⟩, .string ⟨#[102, 114, 97, 99]⟩, .string ⟨#[114, 111, 111, 116]⟩, .string ⟨#[115, 117, 98]⟩, .string ⟨#[115, 117, 112]⟩, .string ⟨#[98, 111, 116, 104]⟩, .string ⟨#[97, 99, 99, 101, 110, 116]⟩, .string ⟨#[102, 101, 110, 99, 101]⟩, .string ⟨#[109, 97, 116, 114, 105, 120]⟩] 87))
  refine (int_digit k _ (by omega)).mono ?_
  rintro _ w1 ⟨rfl, hf1⟩
  have HB1 := hid (hf1.blk HB.out fun h => h)
  have HM1 := hid (hf1.blk HM.out fun h => h)
  have HF1 := hid (HF.out.trans hf1)
  clear hf1 HB HM HF
  obtain ⟨p0, p1, p2, p3, _, _, _, _, hlt⟩ := Blk.four HB1.out
  have hlm := HM1.out.lt
  have hcn : w1.cell? ⟨w.heap.size + 1, k, none⟩ = some (.string ⟨(kname k).toArray⟩) := by
   rw [HM1.out.cell]
   have : k = 1 ∨ k = 2 ∨ k = 3 ∨ k = 4 ∨ k = 5 ∨ k = 6 ∨ k = 7 ∨ k = 8 ∨ k = 9 := by omega
   rcases this with rfl | rfl | rfl | rfl | rfl | rfl | rfl | rfl | rfl <;> rfl
  have hadd := run_string_add_lists (P := Tryz.prog) w1 [110, 111, 100, 101] [UInt8.ofNat (48 + k)] (by simp) (by simp)
  have hk13 : (k : Int) < 13 := by omega
  obtain ⟨nm, hnm⟩ : ∃ nm, kname k = nm := ⟨_, rfl⟩
  have hnl := kname_len k
  rw [hnm] at hcn hnl
  have HNM := hid hnm
  have HD2 := hid (show dumpT (.mk (k : Int) t 0 ks) = (nm ++ (if t = [] then [] else 58 :: Lx.quoteL t)) ++ (if ks = [] then [] else 40 :: (dumpL true ks ++ [41])) by rw [HD.out]; unfold dumpH; rw [Int.toNat_natCast, hnm])
  have HL := hid hlen
  clear hnm HD hlen
  by_cases ht0 : t = []
  ·subst ht0
   have HT := hid (show nm ++ (if ([] : List UInt8) = [] then [] else 58 :: Lx.quoteL []) = nm by simp)
   obtain ⟨P, hP⟩ : ∃ P, nm = P := ⟨_, rfl⟩
   subst hP
   by_cases hk0 : ks = []
   ·subst hk0
    have l0 : ((([] : List Nd).length : Int) == 0) = true := rfl
    go_wp2_with fail
    go_ret
    have hfin : dumpT (.mk (k : Int) [] 0 []) = nm := by rw [HD2.out, HT.out]; simp
    exact ⟨by rw [hfin]; rfl, HF1.out⟩
   ·have l0 : ((ks.length : Int) == 0) = false := by rw [beq_eq_false_iff_ne]; intro h; exact hk0 (List.length_eq_zero_iff.1 (by omega))
    generalize nm = P at *
    have HPRE := hid (show dumpT (.mk (k : Int) [] 0 ks) = P ++ 40 :: (dumpL true ks ++ [41]) by rw [HD2.out, HT.out, if_neg hk0])
    have HPL := hid (show P.length + (dumpL true ks).length + 2 ≤ 100000 by have := HL.out; rw [HPRE.out, List.length_append, List.length_cons, List.length_append] at this; simp at this ⊢; omega)
    have hplen := HPL.out
    have hln := HR.out.len
    unfold maxLen at hln
    have hadd2 := fun W : World => run_string_add_lists (P := Tryz.prog) W P [40] (by omega) (by simp)
    go_wp2_with fail
    clear hadd2
    go_loopw [4, 5] (fun x i wr => ∃ j : Nat, i = .int .i64 j ∧ j ≤ ks.length ∧ x = .string ⟨(P ++ 40 :: dumpL true (ks.take j)).toArray⟩ ∧ Hid (Blk wr w.heap.size 26 #[.int .i64 (k : Int), .string ⟨([] : List UInt8).toArray⟩, .int .i64 0, .slice A ks.length cap]) ∧ Hid (Fresh w wr)) (fun _ i _ => ks.length - (intOf i).toNat)
    case atStart => exact ⟨0, rfl, Nat.zero_le _, by rw [List.take_zero, dumpL], HB1, HF1⟩
    case round =>
     obtain ⟨j, rfl, hj, rfl, HBR, HFR⟩ := hrel
     have hle := dumpL_le ks j
     have hacl : (P ++ 40 :: dumpL true (ks.take j)).length = P.length + 1 + (dumpL true (ks.take j)).length := by rw [List.length_append, List.length_cons]; omega
     by_cases c1 : j < ks.length
     ·have d1 : decide ((j : Int) < (ks.length : Int)) = true := by simp only [decide_eq_true_eq]; omega
      have d1n : decide (j < ks.length) = true := by simp only [decide_eq_true_eq]; omega
      have d1' : (j : Int) < (ks.length : Int) := by omega
      have HTK := hid (dumpL_take ks j c1)
      have hle2 := dumpL_le ks (j + 1)
      have hcx := Tr.count_mem (List.getElem_mem (l := ks) (n := j) c1)
      have hcm : Tr.count (.mk (k : Int) [] 0 ks) = 1 + Tr.countL ks := by rw [Tr.count]
      have hcn := HC.out
      rw [hcm] at hcn
      have HOKX := hid (dumpOKL_get HK.out j c1)
      obtain ⟨g, o, sl, rfl, hg', m0, m1, m2, m3, hrk⟩ := HR.out.get j c1
      have HRK := hid (hrk.fresh HFR.out)
      have r0 := HFR.out.cell m0 (fun h => h)
      have r1 := HFR.out.cell m1 (fun h => h)
      have r2 := HFR.out.cell m2 (fun h => h)
      have r3 := HFR.out.cell m3 (fun h => h)
      rw [HTK.out] at hle2
      clear m0 m1 m2 m3 hrk hcm
      generalize ks[j] = x at *
      obtain ⟨acc, hacc⟩ : ∃ acc, P ++ 40 :: dumpL true (ks.take j) = acc := ⟨_, rfl⟩
      have HACC := hid hacc
      rw [hacc] at hacl
      rw [hacc]
      clear hacc
      obtain ⟨q0, q1, q2, q3, _, _, _, _, hlt⟩ := Blk.four HBR.out
      by_cases c4 : j = 0
      ·have d2 : decide ((0 : Int) < (j : Int)) = false := by simp only [decide_eq_false_iff_not]; omega
       have d2n : decide (0 < j) = false := by simp only [decide_eq_false_iff_not]; omega
       rw [if_pos c4] at HTK hle2
       simp only [List.length_append, List.length_nil] at hle2
       have hdx : (dumpT x).length ≤ 100000 := by omega
       have hz0 := c4
       have hadd4 := fun W : World => run_string_add_lists (P := Tryz.prog) W acc (dumpT x) (by omega) (by omega)
       clear c4 hz0
       go_wp2_with fail
       refine (HIH.out x sl _ (by omega) HRK.out HOKX.out hdx).mono ?_
       rintro _ w3 ⟨rfl, hf3⟩
       have HF3 := hid (HFR.out.trans hf3)
       have HB3 := hid (hf3.blk HBR.out (fun h => h))
       clear hf3 q0 q1 q2 q3 r0 r1 r2 r3 hlt
       go_wp2_with fail
       go_roundw
       case rel =>
        refine ⟨j + 1, by go_num, c1, ?_, HB3, HF3⟩
        rw [HTK.out, ← HACC.out]
        simp
       case measure => simp [intOf]; omega
      ·have d2 : decide ((0 : Int) < (j : Int)) = true := by simp only [decide_eq_true_eq]; omega
       have d2n : decide (0 < j) = true := by simp only [decide_eq_true_eq]; omega
       rw [if_neg c4] at HTK hle2
       simp only [List.length_append, List.length_cons, List.length_nil] at hle2
       have hdx : (dumpT x).length ≤ 100000 := by omega
       have hadd3 := fun W : World => run_string_add_lists (P := Tryz.prog) W acc [32] (by omega) (by simp)
       have hadd4 := fun W : World => run_string_add_lists (P := Tryz.prog) W (acc ++ [32]) (dumpT x) (by simp only [List.length_append, List.length_cons, List.length_nil]; omega) (by omega)
       clear c4
       go_wp2_with fail
       refine (HIH.out x sl _ (by omega) HRK.out HOKX.out hdx).mono ?_
       rintro _ w3 ⟨rfl, hf3⟩
       have HF3 := hid (HFR.out.trans hf3)
       have HB3 := hid (hf3.blk HBR.out (fun h => h))
       clear hf3 q0 q1 q2 q3 r0 r1 r2 r3 hlt
       go_wp2_with fail
       go_roundw
       case rel =>
        refine ⟨j + 1, by go_num, c1, ?_, HB3, HF3⟩
        rw [HTK.out, ← HACC.out]
        simp
       case measure => simp [intOf]; omega
     ·have d1 : decide ((j : Int) < (ks.length : Int)) = false := by simp only [decide_eq_false_iff_not]; omega
      have d1n : decide (j < ks.length) = false := by simp only [decide_eq_false_iff_not]; omega
      obtain rfl : j = ks.length := by omega
      rw [List.take_length] at *
      obtain ⟨q0, q1, q2, q3, _, _, _, _, hlt⟩ := Blk.four HBR.out
      have hadd3 := fun W : World => run_string_add_lists (P := Tryz.prog) W (P ++ 40 :: dumpL true ks) [41] (by omega) (by simp)
      go_wp2_with fail
      go_ret
      exact ⟨by rw [HPRE.out]; simp, HFR.out⟩
  ·have s0 : (t == ([] : List UInt8)) = false := by simpa using ht0
   have s1 : ((⟨t.toArray⟩ : ByteArray) == (⟨#[]⟩ : ByteArray)) = false := by rw [str_eq']; exact s0
   have s2 : ((⟨t.toArray⟩ : ByteArray) != (⟨#[]⟩ : ByteArray)) = true := by rw [bne, s1]; rfl
   have s3 : (ByteArray.toList (⟨t.toArray⟩ : ByteArray)).isEmpty = false := by rw [isEmpty_str]; exact s0
   have HT := hid (show nm ++ (if t = [] then [] else 58 :: Lx.quoteL t) = nm ++ [58] ++ Lx.quoteL t by rw [if_neg ht0, List.append_assoc]; rfl)
   have hqs : (⟨t.toArray⟩ : ByteArray).size ≤ 1000000000 := by show t.toArray.size ≤ _; rw [List.size_toArray]; omega
   have HQL := hid (show (nm ++ [58] ++ Lx.quoteL t).length ≤ 1000 by unfold Lx.quoteL; have := Lx.esc_len t; simp; omega)
   have hql : (Lx.quoteL t).length ≤ 1000 := by unfold Lx.quoteL; have := Lx.esc_len t; simp; omega
   by_cases hk0 : ks = []
   ·subst hk0
    have l0 : ((([] : List Nd).length : Int) == 0) = true := rfl
    go_wp2_with fail
    refine (rQuoted_any ⟨t.toArray⟩ _ hqs).mono ?_
    rintro _ w2 ⟨rfl, hf2⟩
    have HB2 := hid (hf2.blk HB1.out fun h => h)
    have HF2 := hid (HF1.out.trans hf2)
    clear hf2 p0 p1 p2 p3 hlt
    obtain ⟨p0, p1, p2, p3, _, _, _, _, hlt⟩ := Blk.four HB2.out
    rw [show (⟨t.toArray⟩ : ByteArray).data.toList = t from rfl]
    have hadd3 := fun W : World => run_string_add_lists (P := Tryz.prog) W nm [58] (by omega) (by simp)
    have hadd4 := fun W : World => run_string_add_lists (P := Tryz.prog) W (nm ++ [58]) (Lx.quoteL t) (by simp; omega) (by omega)
    obtain ⟨P, hP⟩ : ∃ P, nm ++ [58] ++ Lx.quoteL t = P := ⟨_, rfl⟩
    have HPQ := hid hP
    rw [hP] at HT HQL hadd4
    clear hP
    go_wp2_with fail
    go_ret
    have hfin : dumpT (.mk (k : Int) t 0 []) = P := by rw [HD2.out, HT.out]; simp
    exact ⟨by rw [hfin, ← HPQ.out, str_apps3]; rfl, HF2.out⟩
   ·have l0 : ((ks.length : Int) == 0) = false := by rw [beq_eq_false_iff_ne]; intro h; exact hk0 (List.length_eq_zero_iff.1 (by omega))
    go_wp2_with fail
    refine (rQuoted_any ⟨t.toArray⟩ _ hqs).mono ?_
    rintro _ w2 ⟨rfl, hf2⟩
    have HB2 := hid (hf2.blk HB1.out fun h => h)
    have HF2 := hid (HF1.out.trans hf2)
    clear hf2 p0 p1 p2 p3 hlt
    obtain ⟨p0, p1, p2, p3, _, _, _, _, hlt⟩ := Blk.four HB2.out
    rw [show (⟨t.toArray⟩ : ByteArray).data.toList = t from rfl]
    have hadd3 := fun W : World => run_string_add_lists (P := Tryz.prog) W nm [58] (by omega) (by simp)
    have hadd4 := fun W : World => run_string_add_lists (P := Tryz.prog) W (nm ++ [58]) (Lx.quoteL t) (by simp; omega) (by omega)
    obtain ⟨P, hP⟩ : ∃ P, nm ++ [58] ++ Lx.quoteL t = P := ⟨_, rfl⟩
    have HPQ := hid hP
    rw [hP] at HT HQL hadd4
    clear hP
    have HPRE := hid (show dumpT (.mk (k : Int) t 0 ks) = P ++ 40 :: (dumpL true ks ++ [41]) by rw [HD2.out, HT.out, if_neg hk0])
    have HPL := hid (show P.length + (dumpL true ks).length + 2 ≤ 100000 by have := HL.out; rw [HPRE.out, List.length_append, List.length_cons, List.length_append] at this; simp at this ⊢; omega)
    have hplen := HPL.out
    have hln := HR.out.len
    unfold maxLen at hln
    have hadd2 := fun W : World => run_string_add_lists (P := Tryz.prog) W P [40] (by omega) (by simp)
    go_wp2_with fail
    clear hadd2
    go_loopw [4, 5] (fun x i wr => ∃ j : Nat, i = .int .i64 j ∧ j ≤ ks.length ∧ x = .string ⟨(P ++ 40 :: dumpL true (ks.take j)).toArray⟩ ∧ Hid (Blk wr w.heap.size 26 #[.int .i64 (k : Int), .string ⟨t.toArray⟩, .int .i64 0, .slice A ks.length cap]) ∧ Hid (Fresh w wr)) (fun _ i _ => ks.length - (intOf i).toNat)
    case atStart => exact ⟨0, rfl, Nat.zero_le _, by rw [← HPQ.out]; rw [List.take_zero, dumpL]; exact congrArg Value.string (by apply ByteArray.ext; simp [ByteArray.data_append]), HB2, HF2⟩
    case round =>
     obtain ⟨j, rfl, hj, rfl, HBR, HFR⟩ := hrel
     have hle := dumpL_le ks j
     have hacl : (P ++ 40 :: dumpL true (ks.take j)).length = P.length + 1 + (dumpL true (ks.take j)).length := by rw [List.length_append, List.length_cons]; omega
     by_cases c1 : j < ks.length
     ·have d1 : decide ((j : Int) < (ks.length : Int)) = true := by simp only [decide_eq_true_eq]; omega
      have d1n : decide (j < ks.length) = true := by simp only [decide_eq_true_eq]; omega
      have d1' : (j : Int) < (ks.length : Int) := by omega
      have HTK := hid (dumpL_take ks j c1)
      have hle2 := dumpL_le ks (j + 1)
      have hcx := Tr.count_mem (List.getElem_mem (l := ks) (n := j) c1)
      have hcm : Tr.count (.mk (k : Int) t 0 ks) = 1 + Tr.countL ks := by rw [Tr.count]
      have hcn := HC.out
      rw [hcm] at hcn
      have HOKX := hid (dumpOKL_get HK.out j c1)
      obtain ⟨g, o, sl, rfl, hg', m0, m1, m2, m3, hrk⟩ := HR.out.get j c1
      have HRK := hid (hrk.fresh HFR.out)
      have r0 := HFR.out.cell m0 (fun h => h)
      have r1 := HFR.out.cell m1 (fun h => h)
      have r2 := HFR.out.cell m2 (fun h => h)
      have r3 := HFR.out.cell m3 (fun h => h)
      rw [HTK.out] at hle2
      clear m0 m1 m2 m3 hrk hcm
      generalize ks[j] = x at *
      obtain ⟨acc, hacc⟩ : ∃ acc, P ++ 40 :: dumpL true (ks.take j) = acc := ⟨_, rfl⟩
      have HACC := hid hacc
      rw [hacc] at hacl
      rw [hacc]
      clear hacc
      obtain ⟨q0, q1, q2, q3, _, _, _, _, hlt⟩ := Blk.four HBR.out
      by_cases c4 : j = 0
      ·have d2 : decide ((0 : Int) < (j : Int)) = false := by simp only [decide_eq_false_iff_not]; omega
       have d2n : decide (0 < j) = false := by simp only [decide_eq_false_iff_not]; omega
       rw [if_pos c4] at HTK hle2
       simp only [List.length_append, List.length_nil] at hle2
       have hdx : (dumpT x).length ≤ 100000 := by omega
       have hz0 := c4
       have hadd4 := fun W : World => run_string_add_lists (P := Tryz.prog) W acc (dumpT x) (by omega) (by omega)
       clear c4 hz0
       go_wp2_with fail
       refine (HIH.out x sl _ (by omega) HRK.out HOKX.out hdx).mono ?_
       rintro _ w3 ⟨rfl, hf3⟩
       have HF3 := hid (HFR.out.trans hf3)
       have HB3 := hid (hf3.blk HBR.out (fun h => h))
       clear hf3 q0 q1 q2 q3 r0 r1 r2 r3 hlt
       go_wp2_with fail
       go_roundw
       case rel =>
        refine ⟨j + 1, by go_num, c1, ?_, HB3, HF3⟩
        rw [HTK.out, ← HACC.out]
        simp
       case measure => simp [intOf]; omega
      ·have d2 : decide ((0 : Int) < (j : Int)) = true := by simp only [decide_eq_true_eq]; omega
       have d2n : decide (0 < j) = true := by simp only [decide_eq_true_eq]; omega
       rw [if_neg c4] at HTK hle2
       simp only [List.length_append, List.length_cons, List.length_nil] at hle2
       have hdx : (dumpT x).length ≤ 100000 := by omega
       have hadd3 := fun W : World => run_string_add_lists (P := Tryz.prog) W acc [32] (by omega) (by simp)
       have hadd4 := fun W : World => run_string_add_lists (P := Tryz.prog) W (acc ++ [32]) (dumpT x) (by simp only [List.length_append, List.length_cons, List.length_nil]; omega) (by omega)
       clear c4
       go_wp2_with fail
       refine (HIH.out x sl _ (by omega) HRK.out HOKX.out hdx).mono ?_
       rintro _ w3 ⟨rfl, hf3⟩
       have HF3 := hid (HFR.out.trans hf3)
       have HB3 := hid (hf3.blk HBR.out (fun h => h))
       clear hf3 q0 q1 q2 q3 r0 r1 r2 r3 hlt
       go_wp2_with fail
       go_roundw
       case rel =>
        refine ⟨j + 1, by go_num, c1, ?_, HB3, HF3⟩
        rw [HTK.out, ← HACC.out]
        simp
       case measure => simp [intOf]; omega
     ·have d1 : decide ((j : Int) < (ks.length : Int)) = false := by simp only [decide_eq_false_iff_not]; omega
      have d1n : decide (j < ks.length) = false := by simp only [decide_eq_false_iff_not]; omega
      obtain rfl : j = ks.length := by omega
      rw [List.take_length] at *
      obtain ⟨q0, q1, q2, q3, _, _, _, _, hlt⟩ := Blk.four HBR.out
      have hadd3 := fun W : World => run_string_add_lists (P := Tryz.prog) W (P ++ 40 :: dumpL true ks) [41] (by omega) (by simp)
      go_wp2_with fail
      go_ret
      exact ⟨by rw [HPRE.out]; simp, HFR.out⟩
end Go.Proofs.YtncnoeoicaglaaaGreat

/- Memory in which only what is new has turned; the value of a node. -/
namespace Go.Proofs.YtncnoeoicaglaaaGreat
open Go.RowKit
abbrev Low (W0 w : World) : Prop := Touch (fun k => W0.heap.size ≤ k) W0 w
theorem low_no {W0 : World} {q : Addr} {v : Value} (h : W0.cell? q = some v) : ¬ W0.heap.size ≤ q.block := by
 have := block_lt_of_cell (a := q) (v := v) h
 omega
theorem Low.cell {W0 w : World} (hl : Low W0 w) {q : Addr} {v : Value} (h : W0.cell? q = some v) : w.cell? q = some v := Touch.cell hl h (low_no h)
theorem low4 {w w' : World} {a b c d : Addr} {x y z u : Value} (h : Low w w') (h0 : w.cell? a = some x) (h1 : w.cell? b = some y) (h2 : w.cell? c = some z) (h3 : w.cell? d = some u) :
  w'.cell? a = some x ∧ w'.cell? b = some y ∧ w'.cell? c = some z ∧ w'.cell? d = some u := ⟨h.cell h0, h.cell h1, h.cell h2, h.cell h3⟩
theorem Low.fresh {W0 w w' : World} (hl : Low W0 w) (hf : Fresh w w') : Low W0 w' := hl.trans' hf fun _ h => h.elim
theorem RepL.low {W0 w : World} {ks : List Tr.Nd} {v : Value} (h : RepL W0 ks v) (hl : Low W0 w) : RepL w ks v := by
 induction h with
 | nil A cap => exact .nil A cap
 | row g o cap ks sl hg hln ht h0 h1 h2 h3 hk ih =>
  exact .row g o cap ks sl (Nat.lt_of_lt_of_le hg hl.size) hln ht (fun i hi => hl.cell (h0 i hi)) (fun i hi => hl.cell (h1 i hi)) (fun i hi => hl.cell (h2 i hi)) (fun i hi => hl.cell (h3 i hi)) ih
abbrev nv (n : Tr.Nd) (sl : Value) : Value := .agg #[.int .i64 n.kind, .string ⟨n.text.toArray⟩, .int .i64 n.cols, sl]
theorem owns_type {w : World} {B e size n g : Nat} {v : Value} {xs : List Value} (h : w.ownsRow B e size v n xs) (hg : v.ownBlock = some g) : B ≤ g ∧ ∃ cur, w.heap[g]? = some (.cells cur e (0, 0)) := by
 rcases h.2 with ⟨h1, _⟩ | ⟨g', cap, cur, h1, h2, h3, _⟩
 ·rw [h1] at hg; cases hg
 ·rw [h1] at hg
  simp only [Value.ownBlock, Option.some.injEq] at hg
  subst hg
  exact ⟨h2, cur, h3⟩
end Go.Proofs.YtncnoeoicaglaaaGreat
