/- Part 11 of 12 of a proof; its texts, joined: LxG, LxQ, LxN, LxT, LxK, LxV, LxR, LxU, Tks, NqS, NqT, NuA, PrV. No condition. -/
import Derived.Test.YtdacpbdamliafaaGreatUa10
import Derived.Test.YtdacpbdamliafaaGreatShelf
import Derived.Lib.IndexLaws
import Derived.Test.YtdacpbdamliafaaGreatUa3
import Derived.RangeFuncNested
import Derived.OwnWalkIn
import Derived.TacticsInMore
import Derived.LoopIn
import Derived.Deep.Cut
import Derived.Lib.QuietBelow
import Derived.Test.YtdacpbdamliafaaGreatUa2
import Derived.Test.YtdacpbdamliafaaGreatUa1
import Derived.Test.YtdacpbdamliafaaGreatUa6

/- The walk of the lexer's method name. -/
namespace Go.Proofs.YtdacpbdamliafaaGreat
open Go.RowKit
theorem indexByte_mem (l : List UInt8) (c : UInt8) : decide (Lib.indexByte l c < 0) = !(l.contains c) := by
 have h1 := Lib.indexByte_ge l c
 by_cases hc : Lib.indexByte l c < 0
 ·have h2 := Lib.indexByte_none (l := l) (c := c) (by omega)
  have : l.contains c = false := by
   rw [← Bool.not_eq_true, List.contains_iff_mem, List.mem_iff_getElem?]
   rintro ⟨i, hi⟩
   exact h2 i hi
  rw [this]; simp [hc]
 ·obtain ⟨o, ho⟩ := Int.eq_ofNat_of_zero_le (show 0 ≤ Lib.indexByte l c by omega)
  have h2 := (Lib.indexByte_some ho).1
  have : l.contains c = true := by
   rw [List.contains_iff_mem, List.mem_iff_getElem?]
   exact ⟨o, h2⟩
  rw [this]; simp [hc]
theorem delim_any (s : ByteArray) (c : UInt8) (x : Int) (hs : s = ⟨#[40, 41, 91, 93, 123, 125, 60, 62, 47, 124, 46]⟩) (w : World) (hx : x = c.toNat := by rfl) :
  Calls Tryz.prog 161 #[.string s, .int .u8 x] w fun e w' => (∃ i : Int, e = .returned (.int .i64 i) ∧ decide (i < 0) = !(Lx.isDelim c)) ∧ w' = w := by
 subst hs hx
 refine (Tryz.strings_IndexByte _ _ w).mono ?_
 rintro e w' ⟨rfl, rfl⟩
 refine ⟨⟨_, rfl, ?_⟩, rfl⟩
 rw [indexByte_mem]
 simp [Lx.isDelim]
set_option maxRecDepth 100000 in
set_option maxHeartbeats 400000 in
theorem name_plain (L : Nat) (s : ByteArray) (a m : Nat) (p e : Int) (w : World) (h : LexAt w L s a p e) (hm : s.size ≤ 1000000000) (hmd : m = a + 1 + Lx.runI 3 s.data.toList (a + 1)) (ha : a + 1 ≤ s.size) (r : Lx.Res) (F : ((s.extract (a + 1) m).toList == [102, 101, 110, 99, 101]) = false) (hr : Lx.lim 16 ⟨4, (s.extract (a + 1) m).data.toList⟩ (m - a) = r) :
  Calls Tryz.prog 178 #[.pointer (some ⟨L, 0, none⟩)] w (LexRes w L s a p e r) := by
 obtain ⟨g1, g2, g3, g4, f1, f2, f3, hL⟩ := lex_reads h
 have HM : s.size ≤ maxLen := by unfold maxLen; omega
 have H := hid h
 clear h
 have hle := Lx.runI_le 3 s.data.toList (a + 1)
 have hll : s.data.toList.length = s.size := by simp
 rw [hll] at hle
 have HD := hid hmd
 have am : a + 1 ≤ m := by omega
 have ms : m ≤ s.size := by omega
 clear hmd hle hll
 have e1 : ((a : Int) + 1) ≤ (m : Int) := by omega
 have e2 : (0 : Int) ≤ (a : Int) + 1 := by omega
 have e3 : (m : Int) ≤ (s.size : Int) := by omega
 go_enter Tryz.func178, Tryz.ntmps178
 go_wp2_with fail
 refine (run_any L s a p e _ 3 _ (H.out.alloc _) (by omega) (by omega) HM).mono ?_
 rintro e' w' ⟨rfl, n1, rfl⟩
 rw [show ((a : Int) + 1).toNat = a + 1 from by omega, ← HD.out]
 go_wp2_with fail
 go_quiet (fail)
 go_wp2_with fail
 refine (token_as L s a p e _ 4 _ _ (m - a) 16 _ _ r hr ((H.out.alloc _).drewN _) rfl (by omega) rfl).mono ?_
 rintro e' w' ⟨k, tx, f, t, b, a', p', e2, rfl, hx, ht, hmn⟩
 obtain ⟨q0, q1, q2, q3, z0, z1, z2, z3, hg⟩ := Blk.four (ht.blk ((Blk.new w _ _).drewN _) (by omega))
 have HX := hid hx
 have HT2 := hid ht
 have HMN := hid hmn
 clear hx ht hmn
 go_wp2_with fail
 (try simp only [Exit.inBlock, Exit.then])
 refine bodyPost_ret (v := .tuple #[.agg #[.int .i64 k, .string tx, .int .i64 f, .int .i64 t], .bool b]) (by simp [results, Tryz.results178, go_sem, q0, q1, q2, q3]) rfl ?_
 exact LexRes.close hL HX.out HT2.out.preN HMN.out
set_option maxRecDepth 100000 in
set_option maxHeartbeats 400000 in
theorem name_short (L : Nat) (s : ByteArray) (a m : Nat) (p e : Int) (w : World) (h : LexAt w L s a p e) (hm : s.size ≤ 1000000000) (hmd : m = a + 1 + Lx.runI 3 s.data.toList (a + 1)) (ha : a + 1 ≤ s.size) (r : Lx.Res) (F : ((s.extract (a + 1) m).toList == [102, 101, 110, 99, 101]) = true) (hs : s.size < m + 2) (hr : Lx.Res.err 0 3 = r) :
  Calls Tryz.prog 178 #[.pointer (some ⟨L, 0, none⟩)] w (LexRes w L s a p e r) := by
 obtain ⟨g1, g2, g3, g4, f1, f2, f3, hL⟩ := lex_reads h
 have HM : s.size ≤ maxLen := by unfold maxLen; omega
 have H := hid h
 clear h
 have hle := Lx.runI_le 3 s.data.toList (a + 1)
 have hll : s.data.toList.length = s.size := by simp
 rw [hll] at hle
 have HD := hid hmd
 have am : a + 1 ≤ m := by omega
 have ms : m ≤ s.size := by omega
 clear hmd hle hll
 have e1 : ((a : Int) + 1) ≤ (m : Int) := by omega
 have e2 : (0 : Int) ≤ (a : Int) + 1 := by omega
 have e3 : (m : Int) ≤ (s.size : Int) := by omega
 have S1 : decide ((s.size : Int) < (m : Int) + 2) = true := by simp; omega
 go_enter Tryz.func178, Tryz.ntmps178
 go_wp2_with fail
 refine (run_any L s a p e _ 3 _ (H.out.alloc _) (by omega) (by omega) HM).mono ?_
 rintro e' w' ⟨rfl, n1, rfl⟩
 rw [show ((a : Int) + 1).toNat = a + 1 from by omega, ← HD.out]
 go_wp2_with fail
 go_quiet (fail)
 go_wp2_with fail
 refine (fail_as L s a p e _ _ 0 3 _ r hr ((H.out.alloc _).drewN _) rfl rfl).mono ?_
 rintro e' w' ⟨k, tx, f, t, b, a', p', e2, rfl, hx, ht, hmn⟩
 obtain ⟨q0, q1, q2, q3, z0, z1, z2, z3, hg⟩ := Blk.four (ht.blk ((Blk.new w _ _).drewN _) (by omega))
 have HX := hid hx
 have HT2 := hid ht
 have HMN := hid hmn
 clear hx ht hmn
 go_wp2_with fail
 (try simp only [Exit.inBlock, Exit.then])
 refine bodyPost_ret (v := .tuple #[.agg #[.int .i64 k, .string tx, .int .i64 f, .int .i64 t], .bool b]) (by simp [results, Tryz.results178, go_sem, q0, q1, q2, q3]) rfl ?_
 exact LexRes.close hL HX.out HT2.out.preN HMN.out
set_option maxRecDepth 100000 in
set_option maxHeartbeats 400000 in
theorem name_bad1 (L : Nat) (s : ByteArray) (a m : Nat) (p e : Int) (w : World) (h : LexAt w L s a p e) (hm : s.size ≤ 1000000000) (hmd : m = a + 1 + Lx.runI 3 s.data.toList (a + 1)) (ha : a + 1 ≤ s.size) (r : Lx.Res) (F : ((s.extract (a + 1) m).toList == [102, 101, 110, 99, 101]) = true) (hs : m + 1 < s.size) (T1 : Lx.isDelim (s[m]'(Nat.lt_of_succ_lt hs)) = false) (hr : Lx.Res.err 0 3 = r) :
  Calls Tryz.prog 178 #[.pointer (some ⟨L, 0, none⟩)] w (LexRes w L s a p e r) := by
 obtain ⟨g1, g2, g3, g4, f1, f2, f3, hL⟩ := lex_reads h
 have HM : s.size ≤ maxLen := by unfold maxLen; omega
 have H := hid h
 clear h
 have hle := Lx.runI_le 3 s.data.toList (a + 1)
 have hll : s.data.toList.length = s.size := by simp
 rw [hll] at hle
 have HD := hid hmd
 have am : a + 1 ≤ m := by omega
 have ms : m ≤ s.size := by omega
 clear hmd hle hll
 have e1 : ((a : Int) + 1) ≤ (m : Int) := by omega
 have e2 : (0 : Int) ≤ (a : Int) + 1 := by omega
 have e3 : (m : Int) ≤ (s.size : Int) := by omega
 have S1 : decide ((s.size : Int) < (m : Int) + 2) = false := by simp; omega
 have S2 : (m : Int) < (s.size : Int) := by omega
 have S3 : (0 : Int) ≤ (m : Int) := by omega
 go_enter Tryz.func178, Tryz.ntmps178
 go_wp2_with fail
 refine (run_any L s a p e _ 3 _ (H.out.alloc _) (by omega) (by omega) HM).mono ?_
 rintro e' w' ⟨rfl, n1, rfl⟩
 rw [show ((a : Int) + 1).toNat = a + 1 from by omega, ← HD.out]
 go_wp2_with fail
 go_quiet (fail)
 go_wp2_with fail
 refine (delim_any _ _ _ rfl _).mono ?_
 rintro e' w' ⟨⟨i1, rfl, hi1⟩, rfl⟩
 have HI1 : decide (i1 < 0) = true := by rw [hi1, T1]; rfl
 clear hi1 T1
 go_wp2_with fail
 refine (fail_as L s a p e _ _ 0 3 _ r hr ((H.out.alloc _).drewN _) rfl rfl).mono ?_
 rintro e' w' ⟨k, tx, f, t, b, a', p', e2, rfl, hx, ht, hmn⟩
 obtain ⟨q0, q1, q2, q3, z0, z1, z2, z3, hg⟩ := Blk.four (ht.blk ((Blk.new w _ _).drewN _) (by omega))
 have HX := hid hx
 have HT2 := hid ht
 have HMN := hid hmn
 clear hx ht hmn
 go_wp2_with fail
 (try simp only [Exit.inBlock, Exit.then])
 refine bodyPost_ret (v := .tuple #[.agg #[.int .i64 k, .string tx, .int .i64 f, .int .i64 t], .bool b]) (by simp [results, Tryz.results178, go_sem, q0, q1, q2, q3]) rfl ?_
 exact LexRes.close hL HX.out HT2.out.preN HMN.out
set_option maxRecDepth 100000 in
set_option maxHeartbeats 400000 in
theorem name_bad2 (L : Nat) (s : ByteArray) (a m : Nat) (p e : Int) (w : World) (h : LexAt w L s a p e) (hm : s.size ≤ 1000000000) (hmd : m = a + 1 + Lx.runI 3 s.data.toList (a + 1)) (ha : a + 1 ≤ s.size) (r : Lx.Res) (F : ((s.extract (a + 1) m).toList == [102, 101, 110, 99, 101]) = true) (hs : m + 1 < s.size) (T1 : Lx.isDelim (s[m]'(Nat.lt_of_succ_lt hs)) = true) (T2 : Lx.isDelim (s[m + 1]'hs) = false) (hr : Lx.Res.err 0 3 = r) :
  Calls Tryz.prog 178 #[.pointer (some ⟨L, 0, none⟩)] w (LexRes w L s a p e r) := by
 obtain ⟨g1, g2, g3, g4, f1, f2, f3, hL⟩ := lex_reads h
 have HM : s.size ≤ maxLen := by unfold maxLen; omega
 have H := hid h
 clear h
 have hle := Lx.runI_le 3 s.data.toList (a + 1)
 have hll : s.data.toList.length = s.size := by simp
 rw [hll] at hle
 have HD := hid hmd
 have am : a + 1 ≤ m := by omega
 have ms : m ≤ s.size := by omega
 clear hmd hle hll
 have e1 : ((a : Int) + 1) ≤ (m : Int) := by omega
 have e2 : (0 : Int) ≤ (a : Int) + 1 := by omega
 have e3 : (m : Int) ≤ (s.size : Int) := by omega
 have S1 : decide ((s.size : Int) < (m : Int) + 2) = false := by simp; omega
 have S2 : (m : Int) < (s.size : Int) := by omega
 have S3 : (0 : Int) ≤ (m : Int) := by omega
 have S4 : (m : Int) + 1 < (s.size : Int) := by omega
 go_enter Tryz.func178, Tryz.ntmps178
 go_wp2_with fail
 refine (run_any L s a p e _ 3 _ (H.out.alloc _) (by omega) (by omega) HM).mono ?_
 rintro e' w' ⟨rfl, n1, rfl⟩
 rw [show ((a : Int) + 1).toNat = a + 1 from by omega, ← HD.out]
 go_wp2_with fail
 go_quiet (fail)
 go_wp2_with fail
 refine (delim_any _ _ _ rfl _).mono ?_
 rintro e' w' ⟨⟨i1, rfl, hi1⟩, rfl⟩
 have HI1 : decide (i1 < 0) = false := by rw [hi1, T1]; rfl
 clear hi1 T1
 go_wp2_with fail
 refine (delim_any _ _ _ rfl _).mono ?_
 rintro e' w' ⟨⟨i2, rfl, hi2⟩, rfl⟩
 have HI2 : decide (i2 < 0) = true := by rw [hi2, T2]; rfl
 clear hi2 T2
 go_wp2_with fail
 refine (fail_as L s a p e _ _ 0 3 _ r hr ((H.out.alloc _).drewN _) rfl rfl).mono ?_
 rintro e' w' ⟨k, tx, f, t, b, a', p', e2, rfl, hx, ht, hmn⟩
 obtain ⟨q0, q1, q2, q3, z0, z1, z2, z3, hg⟩ := Blk.four (ht.blk ((Blk.new w _ _).drewN _) (by omega))
 have HX := hid hx
 have HT2 := hid ht
 have HMN := hid hmn
 clear hx ht hmn
 go_wp2_with fail
 (try simp only [Exit.inBlock, Exit.then])
 refine bodyPost_ret (v := .tuple #[.agg #[.int .i64 k, .string tx, .int .i64 f, .int .i64 t], .bool b]) (by simp [results, Tryz.results178, go_sem, q0, q1, q2, q3]) rfl ?_
 exact LexRes.close hL HX.out HT2.out.preN HMN.out
set_option maxRecDepth 100000 in
set_option maxHeartbeats 400000 in
theorem name_fence (L : Nat) (s : ByteArray) (a m : Nat) (p e : Int) (w : World) (h : LexAt w L s a p e) (hm : s.size ≤ 1000000000) (hmd : m = a + 1 + Lx.runI 3 s.data.toList (a + 1)) (ha : a + 1 ≤ s.size) (r : Lx.Res) (F : ((s.extract (a + 1) m).toList == [102, 101, 110, 99, 101]) = true) (hs : m + 1 < s.size) (T1 : Lx.isDelim (s[m]'(Nat.lt_of_succ_lt hs)) = true) (T2 : Lx.isDelim (s[m + 1]'hs) = true) (hr : Lx.lim 2 ⟨5, (s.extract m (m + 2)).data.toList⟩ (m + 2 - a) = r) :
  Calls Tryz.prog 178 #[.pointer (some ⟨L, 0, none⟩)] w (LexRes w L s a p e r) := by
 obtain ⟨g1, g2, g3, g4, f1, f2, f3, hL⟩ := lex_reads h
 have HM : s.size ≤ maxLen := by unfold maxLen; omega
 have H := hid h
 clear h
 have hle := Lx.runI_le 3 s.data.toList (a + 1)
 have hll : s.data.toList.length = s.size := by simp
 rw [hll] at hle
 have HD := hid hmd
 have am : a + 1 ≤ m := by omega
 have ms : m ≤ s.size := by omega
 clear hmd hle hll
 have e1 : ((a : Int) + 1) ≤ (m : Int) := by omega
 have e2 : (0 : Int) ≤ (a : Int) + 1 := by omega
 have e3 : (m : Int) ≤ (s.size : Int) := by omega
 have S1 : decide ((s.size : Int) < (m : Int) + 2) = false := by simp; omega
 have S2 : (m : Int) < (s.size : Int) := by omega
 have S3 : (0 : Int) ≤ (m : Int) := by omega
 have S4 : (m : Int) + 1 < (s.size : Int) := by omega
 have S5 : (m : Int) + 2 ≤ (s.size : Int) := by omega
 go_enter Tryz.func178, Tryz.ntmps178
 go_wp2_with fail
 refine (run_any L s a p e _ 3 _ (H.out.alloc _) (by omega) (by omega) HM).mono ?_
 rintro e' w' ⟨rfl, n1, rfl⟩
 rw [show ((a : Int) + 1).toNat = a + 1 from by omega, ← HD.out]
 go_wp2_with fail
 go_quiet (fail)
 go_wp2_with fail
 refine (delim_any _ _ _ rfl _).mono ?_
 rintro e' w' ⟨⟨i1, rfl, hi1⟩, rfl⟩
 have HI1 : decide (i1 < 0) = false := by rw [hi1, T1]; rfl
 clear hi1 T1
 go_wp2_with fail
 refine (delim_any _ _ _ rfl _).mono ?_
 rintro e' w' ⟨⟨i2, rfl, hi2⟩, rfl⟩
 have HI2 : decide (i2 < 0) = false := by rw [hi2, T2]; rfl
 clear hi2 T2
 go_wp2_with fail
 refine (token_as L s a p e _ 5 _ _ (m + 2 - a) 2 _ _ r hr ((H.out.alloc _).drewN _) rfl (by omega) rfl).mono ?_
 rintro e' w' ⟨k, tx, f, t, b, a', p', e2, rfl, hx, ht, hmn⟩
 obtain ⟨q0, q1, q2, q3, z0, z1, z2, z3, hg⟩ := Blk.four (ht.blk ((Blk.new w _ _).drewN _) (by omega))
 have HX := hid hx
 have HT2 := hid ht
 have HMN := hid hmn
 clear hx ht hmn
 go_wp2_with fail
 (try simp only [Exit.inBlock, Exit.then])
 refine bodyPost_ret (v := .tuple #[.agg #[.int .i64 k, .string tx, .int .i64 f, .int .i64 t], .bool b]) (by simp [results, Tryz.results178, go_sem, q0, q1, q2, q3]) rfl ?_
 exact LexRes.close hL HX.out HT2.out.preN HMN.out
end Go.Proofs.YtdacpbdamliafaaGreat

/- The walk of the lexer's method quoted. -/
namespace Go.Proofs.YtdacpbdamliafaaGreat
open Go.RowKit
structure QuoAt (w : World) (L : Nat) (s : ByteArray) (a : Nat) (p e : Int) (r : Lx.Res) (j : Nat) (acc : List UInt8) (cs : Array Value) (v : Value) (wr : World) : Prop where
 lex : LexAt wr L s a p e
 res : Blk wr w.heap.size 150 #[.int .i64 0, .string ByteArray.empty, .int .i64 0, .int .i64 0]
 bld : Bld wr (w.heap.size + 2) (w.heap.size + 1) 0 101 cs v acc
 size : cs.size = 2
 touch : Touch (fun _ => False) w wr
 lo : a + 1 ≤ j
 hi : j ≤ s.size
 len : acc.length ≤ j
 quo : Lx.quo (s.data.toList.drop j) acc (j - a) = r
theorem QuoAt.next {w : World} {L : Nat} {s : ByteArray} {a : Nat} {p e : Int} {r : Lx.Res} {j : Nat} {acc : List UInt8} {cs : Array Value} {v : Value} {wr w' : World} (Q : QuoAt w L s a p e r j acc cs v wr) (hL : L < w.heap.size) {j' : Nat} {c : UInt8} {v' : Value}
  (hb : Bld w' (w.heap.size + 2) (w.heap.size + 1) 0 101 ((cs.setIfInBounds 0 (.pointer (some ⟨w.heap.size + 1, 0, none⟩))).setIfInBounds (0 + 1) v') v' (acc ++ [c]))
  (ht : Touch (fun k => k = w.heap.size + 1 ∨ v.ownBlock = some k) wr w') (hj : j < j') (hs : j' ≤ s.size) (hq : Lx.quo (s.data.toList.drop j') (acc ++ [c]) (j' - a) = r) :
  QuoAt w L s a p e r j' (acc ++ [c]) ((cs.setIfInBounds 0 (.pointer (some ⟨w.heap.size + 1, 0, none⟩))).setIfInBounds (0 + 1) v') v' w' := by
 have hlt := Q.bld.own.lt
 refine ⟨ht.blk Q.lex ?_, ht.blk Q.res ?_, hb, by simp [Q.size], Q.touch.trans' ht ?_, by have := Q.lo; omega, hs, by have := Q.len; simp; omega, hq⟩
 ·rintro (h1 | h1)
  ·omega
  ·have := (hlt _ h1).1; omega
 ·rintro (h1 | h1)
  ·omega
  ·have := (hlt _ h1).1; omega
 ·rintro i (h1 | h1)
  ·right; omega
  ·right; have := (hlt _ h1).1; omega
set_option maxRecDepth 100000 in
set_option maxHeartbeats 2000000 in
theorem quoted_any (L : Nat) (s : ByteArray) (a : Nat) (p e : Int) (w : World) (h : LexAt w L s a p e) (hm : s.size ≤ 1000000000) (ha : a < s.size) :
  Calls Tryz.prog 177 #[.pointer (some ⟨L, 0, none⟩)] w (LexRes w L s a p e (Lx.quo (s.data.toList.drop (a + 1)) [] 1)) := by
 obtain ⟨g1, g2, g3, g4, f1, f2, f3, hL⟩ := lex_reads h
 have H := hid h
 obtain ⟨r, hr⟩ : ∃ r, Lx.quo (s.data.toList.drop (a + 1)) [] 1 = r := ⟨_, rfl⟩
 rw [hr]
 have HR := hid hr
 have hll : s.data.toList.length = s.size := by simp
 have HLL := hid hll
 clear h hr hll
 go_enter Tryz.func177, Tryz.ntmps177
 go_wp2
 clear g1 g2 g3 g4 f1 f2 f3
 go_loopw [5] (fun i wr => ∃ (j : Nat) (acc : List UInt8) (cs : Array Value) (v : Value), i = .int .i64 j ∧ QuoAt w L s a p e r j acc cs v wr) (fun i _ => s.size - (intOf i).toNat)
 case atStart =>
  refine ⟨a + 1, [], #[.pointer none, .slice none 0 0], .slice none 0 0, by go_num, ?_, ?_, ?_, rfl, ?_, Nat.le_refl _, ha, by simp, ?_⟩
  ·exact (H.out.alloc _).alloc _
  ·exact (Blk.new w _ _).alloc _
  ·refine ⟨?_, .inl rfl, rfl, World.ownsRow_nil _ _ _ _, by simp [Value.ownBlock], fun _ => rfl⟩
   have := Blk.new (w.alloc (.cells #[.int .i64 0, .string ⟨#[]⟩, .int .i64 0, .int .i64 0] 150)) 101 #[.pointer none, .slice none 0 0]
   simpa using this
  ·exact ((Touch.refl _ w).alloc _).alloc _
  ·rw [show a + 1 - a = 1 from by omega]; exact HR.out
 case round =>
  obtain ⟨j, acc, cs, v, rfl, Q0⟩ := hrel
  obtain ⟨g1, g2, g3, g4, f1, f2, f3, hLr⟩ := lex_reads Q0.lex
  have Q := hid Q0
  have hlo := Q0.lo
  have hhi := Q0.hi
  have hlen := Q0.len
  have hwr := Q0.touch.size
  have hbl := Q0.bld.lt
  have hres := Q0.res.lt
  clear Q0
  by_cases c1 : j < s.size
  ·have b1 : decide ((j : Int) < (s.size : Int)) = true := by simp; omega
   have b1' : (j : Int) < (s.size : Int) := by omega
   have b1'' : (0 : Int) ≤ (j : Int) := by omega
   have hjl : j < s.data.toList.length := by rw [HLL.out]; exact c1
   have hget : s.data.toList[j] = s[j]'c1 := rfl
   by_cases c2 : s[j]'c1 = 34
   ·have hq := Q.out.quo
    rw [Lx.quo_cons _ _ _ _ hjl, hget, if_pos c2] at hq
    have HQ := hid hq
    have b2 : (((s[j]'c1).toNat : Int) == 34) = true := u8_eq_of _ 34 c2
    clear hq c2 hget hjl
    go_wp2_with fail
    refine (bstring_any Q.out.bld).mono ?_
    rintro e1 w1 ⟨rfl, ht1⟩
    have hlx : LexAt w1 L s a p e := ht1.blk Q.out.lex (fun hk => by have := (Q.out.bld.own.lt _ hk).1; omega)
    have hrs := ht1.blk Q.out.res (fun hk => by have := (Q.out.bld.own.lt _ hk).1; omega)
    have ht1' : Touch (fun _ => False) w w1 := Q.out.touch.trans' ht1 (fun i hk => by have := (Q.out.bld.own.lt _ hk).1; right; omega)
    have HLX := hid hlx
    have HRS := hid hrs
    have HT1 := hid ht1'
    clear hlx hrs ht1 ht1'
    go_wp2_with fail
    refine (token_as L s a p e _ 3 _ _ (j - a + 1) 200 _ _ r HQ.out HLX.out rfl (by omega) rfl).mono ?_
    rintro e' w' ⟨k, tx, f, t, b, a', p', e2, rfl, hx, ht, hmn⟩
    obtain ⟨q0, q1, q2, q3, z0, z1, z2, z3, hg⟩ := Blk.four (ht.blk HRS.out (by omega))
    have HX := hid hx
    have HT2 := hid ht
    have HMN := hid hmn
    clear hx ht hmn
    go_wp2_with fail
    (try simp only [Exit.inBlock, Exit.then])
    refine bodyPost_ret (v := .tuple #[.agg #[.int .i64 k, .string tx, .int .i64 f, .int .i64 t], .bool b]) (by simp [results, Tryz.results177, go_sem, q0, q1, q2, q3]) rfl ?_
    exact LexRes.close hL HX.out ((HT1.out.mono (fun _ h => h.elim)).trans HT2.out) HMN.out
   ·have b2 : (((s[j]'c1).toNat : Int) == 34) = false := u8_ne_of _ 34 c2
    by_cases c3 : (s[j]'c1) < 32 ∨ 126 < (s[j]'c1)
    ·have hq := Q.out.quo
     rw [Lx.quo_cons _ _ _ _ hjl, hget, if_neg c2, if_pos c3] at hq
     have HQ := hid hq
     by_cases c4 : (s[j]'c1) < 32
     ·have b3 : decide (((s[j]'c1).toNat : Int) < 32) = true := by simp; exact Int.ofNat_lt.2 (UInt8.lt_iff_toNat_lt.1 c4)
      clear hq c2 c3 c4 hget hjl
      go_wp2_with fail
      refine (fail_as L s a p e _ _ (j - a) 3 _ r HQ.out Q.out.lex (by omega) rfl).mono ?_
      rintro e' w' ⟨k, tx, f, t, b, a', p', e2, rfl, hx, ht, hmn⟩
      obtain ⟨q0, q1, q2, q3, z0, z1, z2, z3, hg⟩ := Blk.four (ht.blk Q.out.res (by omega))
      have HX := hid hx
      have HT2 := hid ht
      have HMN := hid hmn
      clear hx ht hmn
      go_wp2_with fail
      (try simp only [Exit.inBlock, Exit.then])
      refine bodyPost_ret (v := .tuple #[.agg #[.int .i64 k, .string tx, .int .i64 f, .int .i64 t], .bool b]) (by simp [results, Tryz.results177, go_sem, q0, q1, q2, q3]) rfl ?_
      exact LexRes.close hL HX.out ((Q.out.touch.mono (fun _ h => h.elim)).trans HT2.out) HMN.out
     ·have b3 : decide (((s[j]'c1).toNat : Int) < 32) = false := by rw [decide_eq_false_iff_not]; intro hx; exact c4 (UInt8.lt_iff_toNat_lt.2 (by simpa using Int.ofNat_lt.1 hx))
      have b4 : decide (126 < ((s[j]'c1).toNat : Int)) = true := by
       have := UInt8.lt_iff_toNat_lt.1 (c3.resolve_left c4)
       simp at this ⊢; omega
      clear hq c2 c3 c4 hget hjl
      go_wp2_with fail
      refine (fail_as L s a p e _ _ (j - a) 3 _ r HQ.out Q.out.lex (by omega) rfl).mono ?_
      rintro e' w' ⟨k, tx, f, t, b, a', p', e2, rfl, hx, ht, hmn⟩
      obtain ⟨q0, q1, q2, q3, z0, z1, z2, z3, hg⟩ := Blk.four (ht.blk Q.out.res (by omega))
      have HX := hid hx
      have HT2 := hid ht
      have HMN := hid hmn
      clear hx ht hmn
      go_wp2_with fail
      (try simp only [Exit.inBlock, Exit.then])
      refine bodyPost_ret (v := .tuple #[.agg #[.int .i64 k, .string tx, .int .i64 f, .int .i64 t], .bool b]) (by simp [results, Tryz.results177, go_sem, q0, q1, q2, q3]) rfl ?_
      exact LexRes.close hL HX.out ((Q.out.touch.mono (fun _ h => h.elim)).trans HT2.out) HMN.out
    ·have b3 : decide (((s[j]'c1).toNat : Int) < 32) = false := by rw [decide_eq_false_iff_not]; intro hx; exact c3 (.inl (UInt8.lt_iff_toNat_lt.2 (by simpa using Int.ofNat_lt.1 hx)))
     have b4 : decide (126 < ((s[j]'c1).toNat : Int)) = false := by rw [decide_eq_false_iff_not]; intro hx; exact c3 (.inr (UInt8.lt_iff_toNat_lt.2 (by simp; omega)))
     by_cases c5 : s[j]'c1 = 92
     ·have b5 : (((s[j]'c1).toNat : Int) == 92) = true := u8_eq_of _ 92 c5
      by_cases c6 : j + 1 < s.size
      ·have b6 : (((j : Int) + 1) == (s.size : Int)) = false := by rw [beq_eq_false_iff_ne]; omega
       have b6' : (j : Int) + 1 < (s.size : Int) := by omega
       have b6'' : (0 : Int) ≤ (j : Int) + 1 := by omega
       have hjl1 : j + 1 < s.data.toList.length := by rw [HLL.out]; exact c6
       have hget1 : s.data.toList[j + 1] = s[j + 1]'c6 := rfl
       have hq := Q.out.quo
       rw [Lx.quo_esc _ _ _ _ hjl (by rw [hget]; exact c5) hjl1, hget1] at hq
       by_cases c7 : s[j + 1]'c6 = 34
       ·rw [if_pos (.inl c7)] at hq
        have HQ := hid hq
        have b7 : (((s[j + 1]'c6).toNat : Int) != 34) = false := u8_nbne_of _ 34 c7
        clear hq c2 c3 c5 c7 hget hjl hget1 hjl1
        go_wp2_with fail
        refine (writeByte_any Q.out.bld (by rw [Q.out.size]; exact liesBuilder) _ (s[j + 1]'c6) (by rfl) (by omega) (by omega)).mono ?_
        rintro e1 w1 ⟨rfl, v', hb1, ht1⟩
        have HN := hid (Q.out.next hL (j' := (j + 2)) hb1 ht1 (by omega) (by omega) (by rw [show j + 2 - a = j - a + 2 from by omega]; exact HQ.out))
        clear hb1 ht1
        go_wp2_with fail
        go_roundw
        case rel => exact ⟨(j + 2), _, _, _, by go_num, HN.out⟩
        case measure => simp [intOf]; omega
       ·have b7 : (((s[j + 1]'c6).toNat : Int) != 34) = true := u8_bne_of _ 34 c7
        by_cases c8 : s[j + 1]'c6 = 92
        ·rw [if_pos (.inr c8)] at hq
         have HQ := hid hq
         have b8 : (((s[j + 1]'c6).toNat : Int) != 92) = false := u8_nbne_of _ 92 c8
         clear hq c2 c3 c5 c7 c8 hget hjl hget1 hjl1
         go_wp2_with fail
         refine (writeByte_any Q.out.bld (by rw [Q.out.size]; exact liesBuilder) _ (s[j + 1]'c6) (by rfl) (by omega) (by omega)).mono ?_
         rintro e1 w1 ⟨rfl, v', hb1, ht1⟩
         have HN := hid (Q.out.next hL (j' := (j + 2)) hb1 ht1 (by omega) (by omega) (by rw [show j + 2 - a = j - a + 2 from by omega]; exact HQ.out))
         clear hb1 ht1
         go_wp2_with fail
         go_roundw
         case rel => exact ⟨(j + 2), _, _, _, by go_num, HN.out⟩
         case measure => simp [intOf]; omega
        ·rw [if_neg (fun hx => hx.elim c7 c8)] at hq
         have HQ := hid hq
         have b8 : (((s[j + 1]'c6).toNat : Int) != 92) = true := u8_bne_of _ 92 c8
         clear hq c2 c3 c5 c7 c8 hget hjl hget1 hjl1
         go_wp2_with fail
         refine (fail_as L s a p e _ _ (j - a) 3 _ r HQ.out Q.out.lex (by omega) rfl).mono ?_
         rintro e' w' ⟨k, tx, f, t, b, a', p', e2, rfl, hx, ht, hmn⟩
         obtain ⟨q0, q1, q2, q3, z0, z1, z2, z3, hg⟩ := Blk.four (ht.blk Q.out.res (by omega))
         have HX := hid hx
         have HT2 := hid ht
         have HMN := hid hmn
         clear hx ht hmn
         go_wp2_with fail
         (try simp only [Exit.inBlock, Exit.then])
         refine bodyPost_ret (v := .tuple #[.agg #[.int .i64 k, .string tx, .int .i64 f, .int .i64 t], .bool b]) (by simp [results, Tryz.results177, go_sem, q0, q1, q2, q3]) rfl ?_
         exact LexRes.close hL HX.out ((Q.out.touch.mono (fun _ h => h.elim)).trans HT2.out) HMN.out
      ·have b6 : (((j : Int) + 1) == (s.size : Int)) = true := by rw [beq_iff_eq]; omega
       have hq := Q.out.quo
       rw [Lx.quo_esc_end _ _ _ _ hjl (by rw [hget]; exact c5) (by rw [HLL.out]; omega)] at hq
       have HQ := hid hq
       clear hq c2 c3 c5 hget hjl
       go_wp2_with fail
       refine (fail_as L s a p e _ _ (j - a) 3 _ r HQ.out Q.out.lex (by omega) rfl).mono ?_
       rintro e' w' ⟨k, tx, f, t, b, a', p', e2, rfl, hx, ht, hmn⟩
       obtain ⟨q0, q1, q2, q3, z0, z1, z2, z3, hg⟩ := Blk.four (ht.blk Q.out.res (by omega))
       have HX := hid hx
       have HT2 := hid ht
       have HMN := hid hmn
       clear hx ht hmn
       go_wp2_with fail
       (try simp only [Exit.inBlock, Exit.then])
       refine bodyPost_ret (v := .tuple #[.agg #[.int .i64 k, .string tx, .int .i64 f, .int .i64 t], .bool b]) (by simp [results, Tryz.results177, go_sem, q0, q1, q2, q3]) rfl ?_
       exact LexRes.close hL HX.out ((Q.out.touch.mono (fun _ h => h.elim)).trans HT2.out) HMN.out
     ·have b5 : (((s[j]'c1).toNat : Int) == 92) = false := u8_ne_of _ 92 c5
      have hq := Q.out.quo
      rw [Lx.quo_plain _ _ _ _ hjl (by rw [hget]; exact c2) (by rw [hget]; exact c3) (by rw [hget]; exact c5), hget] at hq
      have HQ := hid hq
      clear hq c2 c3 c5 hget hjl
      go_wp2_with fail
      refine (writeByte_any Q.out.bld (by rw [Q.out.size]; exact liesBuilder) _ (s[j]'c1) (by rfl) (by omega) (by omega)).mono ?_
      rintro e1 w1 ⟨rfl, v', hb1, ht1⟩
      have HN := hid (Q.out.next hL (j' := (j + 1)) hb1 ht1 (by omega) (by omega) (by rw [show j + 1 - a = j - a + 1 from by omega]; exact HQ.out))
      clear hb1 ht1
      go_wp2_with fail
      go_roundw
      case rel => exact ⟨(j + 1), _, _, _, by go_num, HN.out⟩
      case measure => simp [intOf]; omega
  ·have hq := Q.out.quo
   rw [Lx.quo_end _ _ _ _ (by rw [HLL.out]; omega)] at hq
   have HQ := hid hq
   have b1 : decide ((j : Int) < (s.size : Int)) = false := by simp; omega
   clear hq
   go_wp2_with fail
   refine (fail_as L s a p e _ _ (0) 12 _ r HQ.out Q.out.lex (by omega) rfl).mono ?_
   rintro e' w' ⟨k, tx, f, t, b, a', p', e2, rfl, hx, ht, hmn⟩
   obtain ⟨q0, q1, q2, q3, z0, z1, z2, z3, hg⟩ := Blk.four (ht.blk Q.out.res (by omega))
   have HX := hid hx
   have HT2 := hid ht
   have HMN := hid hmn
   clear hx ht hmn
   go_wp2_with fail
   (try simp only [Exit.inBlock, Exit.then])
   refine bodyPost_ret (v := .tuple #[.agg #[.int .i64 k, .string tx, .int .i64 f, .int .i64 t], .bool b]) (by simp [results, Tryz.results177, go_sem, q0, q1, q2, q3]) rfl ?_
   exact LexRes.close hL HX.out ((Q.out.touch.mono (fun _ h => h.elim)).trans HT2.out) HMN.out
end Go.Proofs.YtdacpbdamliafaaGreat

/- The walks of name and next, all ways joined. -/
namespace Go.Proofs.YtdacpbdamliafaaGreat
open Go.RowKit
theorem runLen_i (l : Lx.Bytes) (c k : Nat) : Lx.runLen c (l.drop k) = Lx.runI c l k := by
 unfold Lx.runLen Lx.runI
 have : (Lx.isB c) = fun b : UInt8 => ((Lx.cls b.toNat : Int) == (c : Int)) := by
  funext b
  unfold Lx.isB
  rw [Bool.eq_iff_iff]; simp; omega
 rw [this]
theorem extract_list (s : ByteArray) (i j : Nat) : (s.extract i j).data.toList = (s.data.toList.drop i).take (j - i) := by
 simp [ByteArray.data_extract, Array.toList_extract, List.extract_eq_take_drop]
theorem name_any (L : Nat) (s : ByteArray) (a : Nat) (p e : Int) (w : World) (h : LexAt w L s a p e) (hm : s.size ≤ 1000000000) (ha : a < s.size) :
  Calls Tryz.prog 178 #[.pointer (some ⟨L, 0, none⟩)] w (LexRes w L s a p e (Lx.name (s.data.toList.drop a))) := by
 have hll : s.data.toList.length = s.size := by simp
 have hle := Lx.runI_le 3 s.data.toList (a + 1)
 rw [hll] at hle
 obtain ⟨n, hn⟩ : ∃ n, n = Lx.runI 3 s.data.toList (a + 1) := ⟨_, rfl⟩
 have hmd : a + 1 + n = a + 1 + Lx.runI 3 s.data.toList (a + 1) := by rw [hn]
 have hN : Lx.runLen 3 ((s.data.toList.drop a).drop 1) = n := by rw [List.drop_drop, runLen_i, hn]; rfl
 have hT : ((s.data.toList.drop a).drop 1).take n = (s.extract (a + 1) (a + 1 + n)).data.toList := by
  rw [extract_list, List.drop_drop, Nat.add_sub_cancel_left]
 have hbl : (s.extract (a + 1) (a + 1 + n)).toList = (s.extract (a + 1) (a + 1 + n)).data.toList := ByteArray.toList_eq _
 have hget : ∀ i, (s.data.toList.drop a)[i]? = s.data.toList[a + i]? := fun i => by rw [List.getElem?_drop]
 unfold Lx.name
 simp only [hN, hT]
 by_cases c1 : (s.extract (a + 1) (a + 1 + n)).data.toList = [102, 101, 110, 99, 101]
 ·rw [if_neg (by simpa using c1)]
  have F : ((s.extract (a + 1) (a + 1 + n)).toList == [102, 101, 110, 99, 101]) = true := by rw [hbl, c1]; rfl
  by_cases c2 : a + 1 + n + 1 < s.size
  ·have g1 : (s.data.toList.drop a)[1 + n]? = some (s[a + 1 + n]'(Nat.lt_of_succ_lt c2)) := by
    rw [hget, List.getElem?_eq_getElem (by omega)]
    simp only [Nat.add_assoc]; rfl
   have g2 : (s.data.toList.drop a)[2 + n]? = some (s[a + 1 + n + 1]'c2) := by
    rw [hget, List.getElem?_eq_getElem (by omega)]
    congr 1
    show s.data.toList[a + (2 + n)] = s.data.toList[a + 1 + n + 1]'(by omega)
    congr 1; omega
   have d1 : Lx.delimAt (s.data.toList.drop a) (1 + n) = Lx.isDelim (s[a + 1 + n]'(Nat.lt_of_succ_lt c2)) := by unfold Lx.delimAt; rw [g1]
   have d2 : Lx.delimAt (s.data.toList.drop a) (2 + n) = Lx.isDelim (s[a + 1 + n + 1]'c2) := by unfold Lx.delimAt; rw [g2]
   rw [d1, d2]
   cases e1 : Lx.isDelim (s[a + 1 + n]'(Nat.lt_of_succ_lt c2)) with
   | false => exact name_bad1 L s a _ p e w h hm hmd (by omega) _ F c2 e1 (by simp)
   | true =>
    cases e2 : Lx.isDelim (s[a + 1 + n + 1]'c2) with
    | false => exact name_bad2 L s a _ p e w h hm hmd (by omega) _ F c2 e1 e2 (by simp)
    | true =>
     refine name_fence L s a _ p e w h hm hmd (by omega) _ F c2 e1 e2 ?_
     rw [if_pos ⟨rfl, rfl⟩, extract_list]
     have hl : (List.take (a + 1 + n + 2 - (a + 1 + n)) (List.drop (a + 1 + n) s.data.toList)).length = 2 := by
      rw [List.length_take, List.length_drop, hll]; omega
     unfold Lx.lim
     rw [if_neg (by simp only [hl]; omega)]
     congr 1
     ·congr 1
      rw [List.drop_drop, show a + 1 + n + 2 - (a + 1 + n) = 2 from by omega, show a + (1 + n) = a + 1 + n from by omega]
     ·omega
  ·have hd : ¬ (Lx.delimAt (s.data.toList.drop a) (1 + n) = true ∧ Lx.delimAt (s.data.toList.drop a) (2 + n) = true) := by
    rintro ⟨_, h2⟩
    unfold Lx.delimAt at h2
    rw [hget, List.getElem?_eq_none (by omega)] at h2
    cases h2
   rw [if_neg hd]
   exact name_short L s a _ p e w h hm hmd (by omega) _ F (by omega) rfl
 ·rw [if_pos (by simpa using c1)]
  have F : ((s.extract (a + 1) (a + 1 + n)).toList == [102, 101, 110, 99, 101]) = false := by rw [hbl]; simpa using c1
  refine name_plain L s a _ p e w h hm hmd (by omega) _ F ?_
  congr 1
  omega
theorem next_any (L : Nat) (s : ByteArray) (a : Nat) (p e : Int) (w : World) (h : LexAt w L s a p e) (hm : s.size ≤ 1000000000) (ha : a < s.size) :
  Calls Tryz.prog 149 #[.pointer (some ⟨L, 0, none⟩)] w (LexRes w L s a p e (Lx.next (s.data.toList.drop a))) := by
 have HM : s.size ≤ maxLen := by unfold maxLen; omega
 have hll : s.data.toList.length = s.size := by simp
 have hd : s.data.toList.drop a = s[a] :: s.data.toList.drop (a + 1) := List.drop_eq_getElem_cons (by simpa using ha)
 have hcl : Lx.clsI s.data.toList a = (Lx.cls s[a].toNat : Int) := by rw [Lx.clsI_lt _ _ (by omega)]; rfl
 have F : ∀ k : Nat, (Lx.clsI s.data.toList a == (k : Int)) = (Lx.cls s[a].toNat == k) := fun k => by
  rw [hcl, Bool.eq_iff_iff]; simp; omega
 have B : ∀ k : Nat, Lx.isB k s[a] = (Lx.cls s[a].toNat == k) := fun k => rfl
 have C : ∀ x : UInt8, ((s.extract a (a + 1)).toList == [x]) = (s[a] == x) := one_byte_eq s a ha
 have O := one_byte s a ha
 have one : ∀ k : Nat, Lx.lim 1 ⟨k, (s.extract a (a + 1)).data.toList⟩ 1 = .ok ⟨k, [s[a]]⟩ 1 := fun k => by rw [O]; rfl
 have hnum : Lx.isB 2 s[a] = true → Lx.next (s.data.toList.drop a) = Lx.number (s.data.toList.drop a) := fun hb => by
  rw [hd]; simp only [Lx.next, hb, if_true]
 by_cases b2 : (Lx.cls s[a].toNat == 2) = true
 ·exact next_number L s a p e w h HM ha _ ((F 2).trans b2) (hnum ((B 2).trans b2)).symm
 have b2' : (Lx.cls s[a].toNat == 2) = false := by simpa using b2
 rw [hd]
 simp only [Lx.next, B, b2', Bool.false_eq_true, if_false]
 have F2 := (F 2).trans b2'
 by_cases b5 : (Lx.cls s[a].toNat == 5) = true
 ·rw [if_pos b5]
  exact next_mark L s a p e w h HM ha _ F2 ((F 5).trans b5) (one 7)
 have b5' : (Lx.cls s[a].toNat == 5) = false := by simpa using b5
 simp only [b5', Bool.false_eq_true, if_false]
 have F5 := (F 5).trans b5'
 by_cases c34 : s[a] = 34
 ·rw [if_pos c34]
  exact next_quoted L s a p e w h HM ha _ F2 F5 ((C 34).trans (by simp [c34])) (fun w' h' => quoted_any L s a p e w' h' hm ha)
 rw [if_neg c34]
 have C34 := (C 34).trans (show (s[a] == 34) = false by simpa using c34)
 have hq : (s.data.toList.drop (a + 1)).head? = s.data.toList[a + 1]? := by rw [List.head?_drop]
 have hat3 : Lx.isAt 3 (s.data.toList.drop (a + 1)) 0 = (Lx.clsI s.data.toList (a + 1) == 3) := by
  unfold Lx.isAt Lx.clsI
  rw [List.getElem?_drop]
  cases s.data.toList[a + 1 + 0]? with
  | none => simp
  | some b => simp only [Lx.isB]; rw [Bool.eq_iff_iff]; simp; omega
 rw [hq, hat3]
 by_cases c92 : s[a] = 92
 ·have C92 := (C 92).trans (show (s[a] == 92) = true by simpa using c92)
  have C35 := (C 35).trans (show (s[a] == 35) = false by rw [c92]; rfl)
  have N3 : (Lx.clsI s.data.toList a == 3) = false := (F 3).trans (by rw [c92]; rfl)
  have N4 : (Lx.clsI s.data.toList a == 4) = false := (F 4).trans (by rw [c92]; rfl)
  have n35 : ¬ s[a] = 35 := by rw [c92]; decide
  have n3 : ¬ ((Lx.cls s[a].toNat == 3) = true ∨ (Lx.cls s[a].toNat == 4) = true) := by rw [c92]; decide
  by_cases hs : a + 1 < s.size
  ·have hx : s.data.toList[a + 1]? = some (s[a + 1]'hs) := by rw [List.getElem?_eq_getElem (by omega)]; rfl
   rw [hx]
   by_cases d92 : s[a + 1]'hs = 92
   ·rw [if_pos ⟨c92, by rw [d92]⟩]
    exact next_break L s a p e w h HM ha _ F2 F5 C34 C92 hs (u8_eq_of _ 92 d92) rfl
   ·rw [if_neg (fun hh => d92 (by simpa using hh.2))]
    cases e3 : (Lx.clsI s.data.toList (a + 1) == 3) with
    | true =>
     rw [if_pos ⟨c92, rfl⟩, ← hd]
     exact next_name L s a p e w h HM ha _ F2 F5 C34 C92 hs (u8_ne_of _ 92 d92) e3 (fun w' h' => name_any L s a p e w' h' hm ha)
    | false =>
     rw [if_neg (fun hh => by cases hh.2), if_neg (fun hh => n35 hh.1), if_neg n3]
     exact next_slash_a L s a p e w h HM ha _ F2 F5 C34 C92 C35 hs (u8_ne_of _ 92 d92) e3 N3 N4 rfl
  ·have hx : s.data.toList[a + 1]? = none := List.getElem?_eq_none (by omega)
   have e3 : (Lx.clsI s.data.toList (a + 1) == 3) = false := by rw [Lx.clsI_ge _ _ (by omega)]; rfl
   rw [hx, e3, if_neg (fun hh => by cases hh.2), if_neg (fun hh => by cases hh.2), if_neg (fun hh => n35 hh.1), if_neg n3]
   exact next_slash_b L s a p e w h HM ha _ F2 F5 C34 C92 C35 hs e3 N3 N4 rfl
 rw [if_neg (fun hh => c92 hh.1), if_neg (fun hh => c92 hh.1)]
 have C92 := (C 92).trans (show (s[a] == 92) = false by simpa using c92)
 by_cases c35 : s[a] = 35
 ·have C35 := (C 35).trans (show (s[a] == 35) = true by simpa using c35)
  have N3 : (Lx.clsI s.data.toList a == 3) = false := (F 3).trans (by rw [c35]; rfl)
  have N4 : (Lx.clsI s.data.toList a == 4) = false := (F 4).trans (by rw [c35]; rfl)
  have n3 : ¬ ((Lx.cls s[a].toNat == 3) = true ∨ (Lx.cls s[a].toNat == 4) = true) := by rw [c35]; decide
  by_cases hs : a + 1 < s.size
  ·have hx : s.data.toList.drop (a + 1) = (s[a + 1]'hs) :: s.data.toList.drop (a + 2) := List.drop_eq_getElem_cons (by omega)
   have hp : Lx.parAt (s.data.toList.drop (a + 1)) = decide (49 ≤ (s[a + 1]'hs) ∧ (s[a + 1]'hs) ≤ 52) := by rw [hx]; rfl
   rw [hp]
   have le1 : (49 ≤ (s[a + 1]'hs)) ↔ 49 ≤ (s[a + 1]'hs).toNat := by rw [UInt8.le_iff_toNat_le]; rfl
   have le2 : ((s[a + 1]'hs) ≤ 52) ↔ (s[a + 1]'hs).toNat ≤ 52 := by rw [UInt8.le_iff_toNat_le]; rfl
   by_cases d1 : 49 ≤ (s[a + 1]'hs).toNat
   ·have D1 : decide (49 ≤ ((s[a + 1]'hs).toNat : Int)) = true := by simp; omega
    by_cases d2 : (s[a + 1]'hs).toNat ≤ 52
    ·have D2 : decide (((s[a + 1]'hs).toNat : Int) ≤ 52) = true := by simp; omega
     rw [if_pos ⟨c35, by simp [le1, le2, d1, d2]⟩, hx]
     refine next_param L s a p e w h HM ha _ F2 F5 C34 C92 C35 hs D1 D2 ?_
     have hw : wrap32 ((s[a + 1]'hs).toNat : Int) = ((s[a + 1]'hs).toNat : Int) := IntWalk.wrap32_in _ (by have := (s[a + 1]'hs).toNat_lt; constructor <;> omega)
     rw [hw, utf8_digit _ d1 d2]
     rfl
    ·have D2 : decide (((s[a + 1]'hs).toNat : Int) ≤ 52) = false := by simp; omega
     rw [if_neg (fun hh => by simp [le1, le2, d2] at hh), if_neg n3]
     exact next_hash_b L s a p e w h HM ha _ F2 F5 C34 C92 C35 hs D1 D2 N3 N4 rfl
   ·have D1 : decide (49 ≤ ((s[a + 1]'hs).toNat : Int)) = false := by simp; omega
    rw [if_neg (fun hh => by simp [le1, le2, d1] at hh), if_neg n3]
    exact next_hash_a L s a p e w h HM ha _ F2 F5 C34 C92 C35 hs D1 N3 N4 rfl
  ·have hp : Lx.parAt (s.data.toList.drop (a + 1)) = false := by rw [List.drop_eq_nil_of_le (by omega)]; rfl
   rw [hp, if_neg (fun hh => by cases hh.2), if_neg n3]
   exact next_hash_c L s a p e w h HM ha _ F2 F5 C34 C92 C35 hs N3 N4 rfl
 rw [if_neg (fun hh => c35 hh.1)]
 have C35 := (C 35).trans (show (s[a] == 35) = false by simpa using c35)
 by_cases b3 : (Lx.cls s[a].toNat == 3) = true
 ·rw [if_pos (.inl b3)]
  exact next_letter L s a p e w h HM ha _ F2 F5 C34 C92 C35 ((F 3).trans b3) (one 1)
 have b3' : (Lx.cls s[a].toNat == 3) = false := by simpa using b3
 by_cases b4 : (Lx.cls s[a].toNat == 4) = true
 ·rw [if_pos (.inr b4)]
  exact next_sign L s a p e w h HM ha _ F2 F5 C34 C92 C35 ((F 3).trans b3') ((F 4).trans b4) (one 1)
 have b4' : (Lx.cls s[a].toNat == 4) = false := by simpa using b4
 rw [if_neg (fun hh => hh.elim b3 b4)]
 exact next_none L s a p e w h HM ha _ F2 F5 C34 C92 C35 ((F 3).trans b3') ((F 4).trans b4') rfl
end Go.Proofs.YtdacpbdamliafaaGreat

/- The walk of the lexer's iterator. -/
namespace Go.Proofs.YtdacpbdamliafaaGreat
open Go.RowKit
attribute [local go_sem] Oper.semAt_some
def ptokV (x : Lx.PTok) : Value := .agg #[.int .i64 x.kind, .string ⟨x.text.toArray⟩, .int .i64 x.from_, .int .i64 x.to_]
def atOf (L : Nat) (w : World) : Nat := match w.cell? ⟨L, 257, none⟩ with | some (.int _ n) => n.toNat | _ => 0
theorem atOf_eq {L : Nat} {w : World} {s : ByteArray} {a : Nat} {p e : Int} (h : LexAt w L s a p e) : atOf L w = a := by unfold atOf; rw [h.at_]; simp
def LexEnd (w : World) (L : Nat) (s : ByteArray) (r : Option (Nat × Nat)) : Prop :=
 ∃ a p e : Int, LexAt w L s a p e ∧ (match r with | none => e = 0 | some (p', e') => p = p' ∧ e = e')
set_option maxRecDepth 100000 in
set_option maxHeartbeats 1000000 in
theorem iter_any (L c l : Nat) (s : ByteArray) (J : List Lx.PTok → World → Prop) (w : World) (hm : s.size ≤ 1000000000)
  (hJ : ∀ pre W W', J pre W → Touch (· = L) W W' → J pre W')
  (hcL : c ≠ L)
  (hY : ∀ pre x (a : Nat) W, J pre W → LexAt W L s a 0 0 → W.cell? ⟨c, 0, none⟩ = some (.pointer (some ⟨L, 0, none⟩)) → pre ++ [x] <+: (Lx.lexAll s.data.toList).1 →
   YieldAt Fence.wide 1 Tryz.prog l #[ptokV x] W fun e W' => e = .returned (.bool true) ∧ J (pre ++ [x]) W' ∧ LexAt W' L s a 0 0 ∧ W'.cell? ⟨c, 0, none⟩ = some (.pointer (some ⟨L, 0, none⟩)))
  (hL : LexAt w L s 0 0 0) (hc : w.cell? ⟨c, 0, none⟩ = some (.pointer (some ⟨L, 0, none⟩))) (h0 : J [] w) :
  Calls Tryz.prog 147 #[.func (.yield l) #[] #[], .pointer (some ⟨c, 0, none⟩)] w fun e w' => e = .returned (.tuple #[]) ∧
   J (Lx.lexAll s.data.toList).1 w' ∧ LexEnd w' L s (Lx.lexAll s.data.toList).2 := by
 have HM : s.size ≤ maxLen := by unfold maxLen; omega
 have HY := hid hY
 have HJ := hid hJ
 have HLex := hid hL
 have HC := hid hc
 have H0 := hid h0
 have hll : s.data.toList.length = s.size := by simp
 have HLL := hid hll
 clear hY hJ hL hc h0 hll
 go_enter Tryz.func147, Tryz.ntmps147
 go_wp2
 go_loopw [4] (fun _ wr => ∃ (pre : List Lx.PTok) (a : Nat), Hid (J pre wr) ∧ Hid (LexAt wr L s a 0 0) ∧ Hid (wr.cell? ⟨c, 0, none⟩ = some (.pointer (some ⟨L, 0, none⟩))) ∧ a ≤ s.size ∧
   Hid (Lx.lexAll s.data.toList = (pre ++ (Lx.lexFrom s.data.toList a).1, (Lx.lexFrom s.data.toList a).2))) (fun _ wr => s.size - atOf L wr)
 case atStart => exact ⟨[], 0, H0, HLex, HC, Nat.zero_le _, rfl⟩
 case round =>
  obtain ⟨pre, a, HJr, HLr, HCr, ha, HA⟩ := hrel
  have hcc := HCr.out
  obtain ⟨g1, g2, g3, g4, f1, f2, f3, hLlt⟩ := lex_reads HLr.out
  obtain ⟨b, hbd⟩ : ∃ b, b = Lx.skip s.data.toList a := ⟨_, rfl⟩
  have hsk := Lx.skip_le s.data.toList a (by rw [HLL.out]; exact ha)
  rw [← hbd, HLL.out] at hsk
  obtain ⟨hab, hbs⟩ := hsk
  have HB := hid hbd
  have HAt := hid (atOf_eq HLr.out)
  clear hbd
  have hrun : ∀ n, Calls Tryz.prog 148 #[.pointer (some ⟨L, 0, none⟩), .int .i64 (a : Int), .int .u8 1] (wr.drewN n) fun e w' => e = .returned (.int .i64 (b : Int)) ∧ ∃ m, w' = (wr.drewN n).drewN m := fun n =>
   (run_any L s a 0 0 _ 1 _ (HLr.out.drewN _) (by omega) (by omega) HM).mono (by rintro e w' ⟨rfl, hn⟩; rw [Int.toNat_natCast, HB.out]; exact ⟨rfl, hn⟩)
  have HRUN := hid hrun
  clear hrun
  go_wp2_with fail
  refine wp_region_segs [([0,1,2,3,4,5,6,7,8],9)] [] (by kernel_rfl) (by kernel_rfl) ?_
  simp only [wpSegs, pick, List.getElem?_cons_zero, List.getElem?_cons_succ]
  repeat (quiet_step (exact Calls.quiet_of (HRUN.out _)))
  refine wpQuiet_nil ?_
  rintro _ ⟨nq, rfl⟩
  go_wp2_with fail
  refine wpQuiet_nil ?_
  rintro _ ⟨nq1, rfl⟩
  have hlx := (HLr.out.drewN nq).setAt b
  have hc1 : ((wr.drewN nq).setCell ⟨L, 257, none⟩ (.int .i64 (b : Int))).cell? ⟨c, 0, none⟩ = some (.pointer (some ⟨L, 0, none⟩)) := by rw [World.cell?_setCell_other _ _ _ _ (by simp)]; exact HCr.out
  have hj1 : J pre ((wr.drewN nq).setCell ⟨L, 257, none⟩ (.int .i64 (b : Int))) := HJ.out _ _ _ HJr.out (((Touch.refl (· = L) wr).drewN nq).setCell (p := ⟨L, 257, none⟩) (.inl rfl) _)
  have HLX := hid hlx
  have HJ1 := hid hj1
  clear hlx hj1
  by_cases hlt : b < s.size
  ·have b1 : ((b : Int) == (s.size : Int)) = false := by rw [beq_eq_false_iff_ne]; omega
   go_wp2_with fail
   go_quiet (fail)
   go_wp2_with fail
   refine (next_any L s b 0 0 _ (HLX.out.drewN _) hm hlt).mono ?_
   rintro e' w' ⟨k, tx, f, t, bb, a', p', e2, rfl, hx, ht, hmn⟩
   have hj2 : J pre w' := HJ.out _ _ _ HJ1.out (Touch.ofN (n := _) ht)
   have hc2 : w'.cell? ⟨c, 0, none⟩ = some (.pointer (some ⟨L, 0, none⟩)) := ht.cell hc1 hcL
   have HJ2 := hid hj2
   have HX := hid hx
   clear hj2 hx ht
   cases hr : Lx.next (s.data.toList.drop b) with
   | err i er =>
    rw [hr] at hmn
    obtain ⟨rfl, rfl, rfl, rfl, rfl, ha', hp', he2⟩ := hmn
    have HA' := hid ha'
    have HP' := hid hp'
    have HE' := hid he2
    have HR := hid hr
    clear hr ha' hp' he2
    go_wp2_with fail
    refine bodyPost_ret (results_none rfl _ _ _) rfl ?_
    have hA := HA.out
    rw [Lx.lexFrom_err _ _ _ _ (by rw [← HB.out, HLL.out]; exact hlt) (by rw [← HB.out]; exact HR.out)] at hA
    rw [hA]
    refine ⟨rfl, ?_, ⟨a', p', e2, LexAt.alloc HX.out _, ?_⟩⟩
    ·rw [List.append_nil]; exact HJ.out _ _ _ HJ2.out ((Touch.refl (· = L) w').alloc _)
    ·rw [← HB.out]; exact ⟨HP'.out, HE'.out⟩
   | ok tk n =>
    rw [hr] at hmn
    obtain ⟨m2, hm2⟩ : ∃ m2, m2 = b + n := ⟨_, rfl⟩
    have HM2 := hid hm2
    unfold Means at hmn
    simp only [← hm2] at hmn
    clear hm2
    obtain ⟨rfl, rfl, rfl, rfl, rfl, rfl, rfl, rfl⟩ := hmn
    have HR := hid hr
    clear hr
    have HX1 := hid (HX.out.alloc (.cells #[.int .i64 tk.kind, .string ⟨tk.text.toArray⟩, .int .i64 b, .int .i64 m2] 150))
    have hfa := Lx.lexFrom_ok s.data.toList a n tk (by rw [← HB.out, HLL.out]; exact hlt) (by rw [← HB.out]; exact HR.out)
    rw [← HB.out, ← HM2.out] at hfa
    have HFA := hid hfa
    clear hfa
    have hm2s : m2 ≤ s.size := by
     have h1 := (Lx.next_pos _ _ _ HR.out).2
     rw [List.length_drop, HLL.out] at h1
     have := HM2.out
     omega
    have hbm : b < m2 := by have h1 := (Lx.next_pos _ _ _ HR.out).1; have := HM2.out; omega
    have hc3 : (w'.alloc (.cells #[.int .i64 tk.kind, .string ⟨tk.text.toArray⟩, .int .i64 b, .int .i64 m2] 150)).cell? ⟨c, 0, none⟩ = some (.pointer (some ⟨L, 0, none⟩)) := ((Touch.refl (fun _ => False) w').alloc _).cell hc2 (fun h => h)
    obtain ⟨fn, tmps, assign, body, hy, hR⟩ := HY.out pre ⟨tk.kind, tk.text, b, m2⟩ m2 (w'.alloc (.cells #[.int .i64 tk.kind, .string ⟨tk.text.toArray⟩, .int .i64 b, .int .i64 m2] 150))
     (HJ.out _ _ _ HJ2.out ((Touch.refl (· = L) w').alloc _)) HX1.out hc3 (by rw [HA.out, HFA.out]; exact ⟨(Lx.lexFrom s.data.toList m2).1, by simp⟩)
    simp only [ptokV] at hy
    have HRD := hid hR
    clear hR
    go_upto_region 3 with (fail)
    refine (wpIn_wide (n := 2)).1 ?_
    gi_wp2
    refine HRD.out.mono ?_
    rintro e W' ⟨rfl, hj, hl, hcx⟩
    have HJW := hid hj
    have HLW := hid hl
    have HCW := hid hcx
    clear hj hl hcx
    gi_wp2
    go_wp2_with fail
    go_roundw
    case rel => exact ⟨pre ++ [⟨tk.kind, tk.text, b, m2⟩], m2, HJW, HLW, HCW, hm2s, by have := HA.out; rw [HFA.out] at this; simpa [Hid] using this⟩
    case measure => rw [atOf_eq HLW.out, HAt.out]; omega
  ·have b1 : ((b : Int) == (s.size : Int)) = true := by rw [beq_iff_eq]; omega
   go_wp2_with fail
   go_quiet (fail)
   go_wp2_with fail
   refine bodyPost_ret (results_none rfl _ _ _) rfl ?_
   have hA := HA.out
   rw [Lx.lexFrom_end _ _ (by rw [← HB.out, HLL.out]; omega)] at hA
   rw [hA]
   refine ⟨rfl, ?_, ⟨b, 0, 0, ?_, rfl⟩⟩
   ·rw [List.append_nil]; refine HJ.out _ _ _ HJ1.out ?_; exact ((Touch.refl (· = L) _).drewN _).drewN _
   ·exact (HLX.out.drewN _).drewN _
end Go.Proofs.YtdacpbdamliafaaGreat

/- The walk of the lexer's classes. -/
namespace Go.Proofs.YtdacpbdamliafaaGreat
open Go.RowKit
def marked (l : List UInt8) (c : Int) (cs : Array Value) : Array Value := l.foldl (fun t b => t.setIfInBounds b.toNat (.int .u8 c)) cs
theorem marked_size (l : List UInt8) (c : Int) : ∀ cs : Array Value, (marked l c cs).size = cs.size := by
 induction l with
 | nil => intro cs; rfl
 | cons b l ih => intro cs; unfold marked at ih ⊢; rw [List.foldl_cons, ih]; simp
theorem marked_snoc (l : List UInt8) (b : UInt8) (c : Int) (cs : Array Value) : marked (l ++ [b]) c cs = (marked l c cs).setIfInBounds b.toNat (.int .u8 c) := by simp [marked]
set_option maxHeartbeats 400000 in
theorem mark_any (s : ByteArray) (c : Int) (g : Nat) (cs : Array Value) (w : World) (hb : Blk w g 157 cs) (hs : cs.size = 256) (hm : s.size ≤ 1000) :
  Calls Tryz.prog 146 #[.string s, .int .u8 c, .pointer (some ⟨g, 0, none⟩)] w fun e w' => e = .returned (.tuple #[]) ∧ Blk w' g 157 (marked s.data.toList c cs) ∧ Touch (· = g) w w' := by
 have HB := hid hb
 have HS := hid hs
 clear hb hs
 go_enter Tryz.func146, Tryz.ntmps146
 go_wp2
 go_loopw [5] (fun i wr => ∃ k : Nat, i = .int .i64 k ∧ k ≤ s.size ∧ Hid (Blk wr g 157 (marked (s.data.toList.take k) c cs)) ∧ Hid (Touch (· = g) w wr)) (fun i _ => s.size - (intOf i).toNat)
 case atStart => exact ⟨0, rfl, Nat.zero_le _, (by have := HB.out; simpa [marked, Hid] using this), Touch.refl _ _⟩
 case round =>
  obtain ⟨k, rfl, hk, HK, HT⟩ := hrel
  by_cases hlt : k < s.size
  ·have b1 : decide ((k : Int) < (s.size : Int)) = true := by simp; omega
   have b2 : (k : Int) < (s.size : Int) := by omega
   have b3 : (0 : Int) ≤ (k : Int) := by omega
   have b4 : ((s[k]'hlt).toNat : Int) < 256 := by have := (s[k]'hlt).toNat_lt; omega
   have hsz : (marked (s.data.toList.take k) c cs).size = 256 := (marked_size _ _ _).trans HS.out
   obtain ⟨u, hu⟩ : ∃ u, wr.cell? ⟨g, (s[k]'hlt).toNat, none⟩ = some u := by
    rw [HK.out.cell]
    exact ⟨_, Array.getElem?_eq_getElem (by rw [hsz]; exact (s[k]'hlt).toNat_lt)⟩
   have hf : wr.frozen? ⟨g, (s[k]'hlt).toNat, none⟩ = false := HK.out.frozen _
   have hn : Blk (wr.setCell ⟨g, (s[k]'hlt).toNat, none⟩ (.int .u8 c)) g 157 (marked (s.data.toList.take (k + 1)) c cs) := by
    have hg : s.data.toList.take (k + 1) = s.data.toList.take k ++ [s[k]'hlt] := by
     rw [List.take_succ_eq_append_getElem (by simpa using hlt)]; rfl
    rw [hg, marked_snoc]
    exact HK.out.put _ _
   have HN := hid hn
   clear hn hsz
   go_wp2
   go_roundw
   case rel => exact ⟨k + 1, by go_num, hlt, HN, HT.out.setCell (p := ⟨g, (s[k]'hlt).toNat, none⟩) (.inl rfl) _⟩
   case measure => simp [intOf]; omega
  ·have b1 : decide ((k : Int) < (s.size : Int)) = false := by simp; omega
   go_wp2
   go_end0
   refine ⟨rfl, ?_, HT.out⟩
   have := HK.out
   rwa [List.take_of_length_le (by simp; omega)] at this
def zero256 : Array Value := Array.replicate 256 (.int .u8 0)
def tbl1 : Array Value := marked [32, 9, 10] 1 zero256
def tbl2 : Array Value := marked [48, 49, 50, 51, 52, 53, 54, 55, 56, 57] 2 tbl1
def letterBytes : List UInt8 := [97, 98, 99, 100, 101, 102, 103, 104, 105, 106, 107, 108, 109, 110, 111, 112, 113, 114, 115, 116, 117, 118, 119, 120, 121, 122, 65, 66, 67, 68, 69, 70, 71, 72, 73, 74, 75, 76, 77, 78, 79, 80, 81, 82, 83, 84, 85, 86, 87, 88, 89, 90]
def tbl3 : Array Value := marked letterBytes 3 tbl2
def tbl4 : Array Value := marked [43, 45, 42, 47, 61, 60, 62, 44, 59, 58, 33, 124, 39, 63, 126, 64] 4 tbl3
def tbl5 : Array Value := marked [123, 125, 40, 41, 91, 93, 94, 95, 38] 5 tbl4
def clsTable : Array Value := Array.ofFn (n := 256) fun i => Value.int .u8 (Lx.cls i.1 : Nat)
theorem tbl5_eq : tbl5 = clsTable := by kernel_rfl
theorem tbl1_size : tbl1.size = 256 := by simp [tbl1, marked_size, zero256]
theorem tbl2_size : tbl2.size = 256 := (marked_size _ _ _).trans tbl1_size
theorem tbl3_size : tbl3.size = 256 := (marked_size _ _ _).trans tbl2_size
theorem tbl4_size : tbl4.size = 256 := (marked_size _ _ _).trans tbl3_size
theorem tbl5_size : tbl5.size = 256 := (marked_size _ _ _).trans tbl4_size
theorem infoClass : (Tryz.prog.info? 157).map (·.size) = some 256 := by kernel_rfl
theorem tbl5_one : tbl5.all (·.oneCell') = true := by rw [tbl5_eq]; kernel_rfl
theorem zeroClass (w : World) : (zeroValue 157).run Tryz.prog w = .ok (.agg zero256) w := by kernel_rfl
set_option maxHeartbeats 400000 in
theorem classes_any (w : World) :
  Calls Tryz.prog 105 #[] w fun e w' => e = .returned (.agg clsTable) ∧ Fresh w w' := by
 have hz := zeroClass
 go_enter Tryz.func105, Tryz.ntmps105
 go_wp2_with fail
 refine (mark_any _ 1 _ zero256 _ (Blk.new2 _ _ _ _) (by simp [zero256]) (by decide)).mono ?_
 rintro e1 w1 ⟨rfl, hb1, ht1⟩
 have hb1' : Blk w1 (w.heap.size + 1) 157 tbl1 := hb1
 have hr1 : Blk w1 w.heap.size 157 zero256 := ht1.blk ((Blk.new w _ _).alloc _) (by omega)
 have hf1 : Fresh w w1 := (((Touch.refl (fun _ => False) w).alloc _).alloc _).trans' ht1 (fun i hi => .inr (by omega))
 have HB1 := hid hb1'
 have HR1 := hid hr1
 have HF1 := hid hf1
 clear hb1 hb1' hr1 hf1 ht1
 go_wp2_with fail
 refine (mark_any _ 2 _ tbl1 _ HB1.out tbl1_size (by decide)).mono ?_
 rintro e2 w2 ⟨rfl, hb1, ht1⟩
 have hb1' : Blk w2 (w.heap.size + 1) 157 tbl2 := hb1
 have hr1 : Blk w2 w.heap.size 157 zero256 := ht1.blk HR1.out (by omega)
 have hf1 : Fresh w w2 := HF1.out.trans' ht1 (fun i hi => .inr (by omega))
 have HB2 := hid hb1'
 have HR2 := hid hr1
 have HF2 := hid hf1
 clear hb1 hb1' hr1 hf1 ht1
 go_wp2_with fail
 refine (mark_any _ 3 _ tbl2 _ HB2.out tbl2_size (by decide)).mono ?_
 rintro e3 w3 ⟨rfl, hb1, ht1⟩
 have hb1' : Blk w3 (w.heap.size + 1) 157 tbl3 := hb1
 have hr1 : Blk w3 w.heap.size 157 zero256 := ht1.blk HR2.out (by omega)
 have hf1 : Fresh w w3 := HF2.out.trans' ht1 (fun i hi => .inr (by omega))
 have HB3 := hid hb1'
 have HR3 := hid hr1
 have HF3 := hid hf1
 clear hb1 hb1' hr1 hf1 ht1
 go_wp2_with fail
 refine (mark_any _ 4 _ tbl3 _ HB3.out tbl3_size (by decide)).mono ?_
 rintro e4 w4 ⟨rfl, hb1, ht1⟩
 have hb1' : Blk w4 (w.heap.size + 1) 157 tbl4 := hb1
 have hr1 : Blk w4 w.heap.size 157 zero256 := ht1.blk HR3.out (by omega)
 have hf1 : Fresh w w4 := HF3.out.trans' ht1 (fun i hi => .inr (by omega))
 have HB4 := hid hb1'
 have HR4 := hid hr1
 have HF4 := hid hf1
 clear hb1 hb1' hr1 hf1 ht1
 go_wp2_with fail
 refine (mark_any _ 5 _ tbl4 _ HB4.out tbl4_size (by decide)).mono ?_
 rintro e5 w5 ⟨rfl, hb1, ht1⟩
 have hb1' : Blk w5 (w.heap.size + 1) 157 tbl5 := hb1
 have hr1 : Blk w5 w.heap.size 157 zero256 := ht1.blk HR4.out (by omega)
 have hf1 : Fresh w w5 := HF4.out.trans' ht1 (fun i hi => .inr (by omega))
 have HB5 := hid hb1'
 have HR5 := hid hr1
 have HF5 := hid hf1
 clear hb1 hb1' hr1 hf1 ht1
 go_wp2_with (first
   | (refine wpList_load_row rfl 157 _ rfl (w.heap.size + 1) rfl 157 tbl5 (0, 0) _ HB5.out Tryz.underlying157 rfl (infoClass.trans (by rw [tbl5_size])) ?_)
   | (refine wpList_store_row rfl 157 _ _ rfl w.heap.size tbl5 rfl rfl 157 zero256 HR5.out (infoClass.trans (by rw [tbl5_size])) (by rw [tbl5_size]; simp [zero256]) tbl5_one ?_))
 refine bodyPost_ret (results_cell_row (fn := Tryz.f105) (p := 0) rfl _ _ w.heap.size 157 tbl5 (0, 0) _ rfl (setRow_heap _ _ _ _ _ _ HR5.out) Tryz.underlying157 rfl (infoClass.trans (by rw [tbl5_size]))) rfl ?_
 exact ⟨by rw [tbl5_eq], HF5.out.setRow (.inr (Nat.le_refl _)) _⟩
end Go.Proofs.YtdacpbdamliafaaGreat

/- The walk of lexer.Tokens. -/
namespace Go.Proofs.YtdacpbdamliafaaGreat
open Go.RowKit
attribute [local go_sem] Oper.semAt_some
theorem infoTok : (Tryz.prog.info? 150).map (fun i => (i.zero, i.size, i.bytes)) = some (some (.agg #[.int .i64 0, .string ⟨#[]⟩, .int .i64 0, .int .i64 0]), 4, 40) := by kernel_rfl
theorem built_lex (s : ByteArray) : Tryz.prog.built 160 [(0, .agg clsTable), (1, .string s)] = some (lexCells s 0 0 0) := by kernel_rfl
theorem wpList_build_lex {ops : Array Oper} {rest : List Oper} {o : Oper} {a : Act} {w : World} {Q : Exit → Act → World → Prop} (s : ByteArray) (hg : o.guard = none) (x y : Operand) (ho : o.op = .build 160 #[(0, x), (1, y)])
  (hx : a.eval x = .agg clsTable) (hy : a.eval y = .string s) (h : wpList Tryz.prog ops Q rest (a.put o.dst (.agg (lexCells s 0 0 0))) w) : wpList Tryz.prog ops Q (o :: rest) a w := by
 refine wpList_plain hg fun K hK => ?_
 unfold Oper.wp execOp
 simp only [ho, Sem.run_bind, List.map_toArray, List.map_cons, List.map_nil, hx, hy, run_build w 160 #[(0, .agg clsTable), (1, .string s)] _ (built_lex s), Result.andThen_ok]
 exact hK _ _ h
set_option maxHeartbeats 400000 in
theorem tokens_any (L : Nat) (w : World) :
  Calls Tryz.prog 106 #[.pointer (some ⟨L, 0, none⟩)] w fun e w' => e = .returned (.func (.func 147) #[] #[.pointer (some ⟨w.heap.size, 0, none⟩)]) ∧ w' = w.alloc (.cells #[.pointer (some ⟨L, 0, none⟩)] 156) := by
 go_enter Tryz.func106, Tryz.ntmps106
 go_wp2
 go_ret
 exact ⟨rfl, rfl⟩
end Go.Proofs.YtdacpbdamliafaaGreat

/- A range over the lexer's tokens, by one law. -/
namespace Go.Proofs.YtdacpbdamliafaaGreat
open Go.RowKit
def NotOurs (L c D : Nat) (k : Nat) : Prop := k ≠ L ∧ k ≠ c ∧ k ≠ D ∧ k ≠ D + 1
def RoundPost (L c D : Nat) (I : World → Prop) (W2 : World) : Exit → Act → World → Prop
 | .normal, _, W3 => Touch (NotOurs L c D) W2 W3 ∧ I W3
 | _, _, _ => False
theorem putObj_touch (W : World) (l : Nat) (o : Obj) : Touch (· = l) W (W.putObj l o) :=
 ⟨rfl, rfl, rfl, by simp, fun _ _ hn => World.putObj_heap_other hn⟩
set_option maxHeartbeats 1000000 in
theorem wp_range_toks {assign body : Code} {Q : Exit → Act → World → Prop} {a : Act} {W0 : World} {L c : Nat} {s : ByteArray}
  (hg : a.eval (.tmp 12) = .func (.func 147) #[] #[.pointer (some ⟨c, 0, none⟩)]) (hm : s.size ≤ 1000000000) (hcL : c ≠ L) (hc : W0.cell? ⟨c, 0, none⟩ = some (.pointer (some ⟨L, 0, none⟩))) (hL : LexAt W0 L s 0 0 0)
  (I : List Lx.PTok → World → Prop) (hI : ∀ pre W W', I pre W → Touch (fun k => k = L ∨ k = W0.heap.size ∨ k = W0.heap.size + 1) W W' → I pre W') (h0 : I [] W0)
  (hround : ∀ pre x W, I pre W → W0.heap.size + 2 ≤ W.heap.size → pre ++ [x] <+: (Lx.lexAll s.data.toList).1 →
   assign.wpIn (Fence.wide.inRound (W0.heap.size + 1)) 1 Tryz.prog (Exit.then (fun a₁ W1 => Touch (NotOurs L c W0.heap.size) W W1 ∧ ∀ W2, Touch (· = W0.heap.size + 1) W1 W2 → W2.heap.size = W1.heap.size →
     body.wpIn (Fence.wide.inRound (W0.heap.size + 1)) 1 Tryz.prog (RoundPost L c W0.heap.size (I (pre ++ [x])) W2) a₁ W2) (fun _ _ _ => False))
    { tmps := a.tmps.setIfInBounds 13 (ptokV x), defers := [] } W)
  (hdone : ∀ W, I (Lx.lexAll s.data.toList).1 W → LexEnd W L s (Lx.lexAll s.data.toList).2 → W.heap[W0.heap.size]? = some (.deferred (some [])) → W0.heap.size + 2 ≤ W.heap.size →
   Q .normal { a with defers := { target := .collected W0.heap.size, args := #[] } :: a.defers } W) :
  (Code.rangeFunc (.tmp 12) #[13] assign body).wp Tryz.prog Q a W0 := by
 have hcl : c < W0.heap.size := block_lt_of_cell hc
 have hLl := hL.lt
 refine (wpIn_wide (n := 4)).1 (wpIn_rangeFunc ?_)
 intro fn hfn
 obtain ⟨rec, hrec⟩ : ∃ rec : LoopState → Option Code → Loop, rec = fun st pe => { state := st, pending := pe, fn, tmps := a.tmps, params := #[13], assign, body, defers := W0.heap.size } := ⟨_, rfl⟩
 obtain ⟨W1, hW1⟩ : ∃ W1, (W0.alloc (.deferred (some []))).alloc (.loop (rec .ready none)) = W1 := ⟨_, rfl⟩
 have hL1 : W1.heap[W0.heap.size + 1]? = some (.loop (rec .ready none)) := by
  rw [← hW1]; have := World.alloc_heap_new (W0.alloc (.deferred (some []))) (.loop (rec .ready none)); rwa [World.size_alloc] at this
 have hK1 : W1.heap[W0.heap.size]? = some (.deferred (some [])) := by
  rw [← hW1]; exact (Below.heap_alloc _ _ _ (by simp)).trans (World.alloc_heap_new W0 _)
 have hf1 : Fresh W0 W1 := by rw [← hW1]; exact ((Touch.refl _ W0).alloc _).alloc _
 have hs1 : W1.heap.size = W0.heap.size + 2 := by rw [← hW1]; simp
 refine ⟨W0.heap.size + 1, [{ target := .collected W0.heap.size, args := #[] }], W1, { target := .fn (.func 147) #[.pointer (some ⟨c, 0, none⟩)], args := #[.func (.yield (W0.heap.size + 1)) #[] #[]] }, W1, 147,
  #[.func (.yield (W0.heap.size + 1)) #[] #[]] ++ #[.pointer (some ⟨c, 0, none⟩)], W1, ?_, ?_, ?_, ?_, fun h => by simp [Fence.wide] at h, ?_⟩
 ·rw [← hW1, hrec]; exact run_enterLoop_outer _ _ _ _ _
 ·simp only [resolve, hg]
  simp [go_sem]
 ·intro f' _; trivial
 ·simp [invoke, go_sem]
 ·refine callsIn_wide.2 ((iter_any L c (W0.heap.size + 1) s
   (fun pre W => I pre W ∧ W.heap[W0.heap.size + 1]? = some (.loop (rec .ready none)) ∧ W.heap[W0.heap.size]? = some (.deferred (some [])) ∧ W0.heap.size + 2 ≤ W.heap.size) W1 hm ?_ hcL ?_ (hf1.blk hL (fun h => h)) (hf1.cell hc (fun h => h)) ⟨hI _ _ _ h0 (hf1.mono (fun _ h => h.elim)), hL1, hK1, by omega⟩).mono ?_)
  ·rintro pre W W' ⟨h1, h2, h3, h4⟩ ht
   exact ⟨hI _ _ _ h1 (ht.mono (fun _ h => .inl h)), (ht.block _ (by omega) (by omega)).trans h2, (ht.block _ (by omega) (by omega)).trans h3, Nat.le_trans h4 ht.size⟩
  ·rintro pre x at_ W ⟨hi, hl, hd, hsz⟩ hlx hcx hpre
   have hy := run_yield (P := Tryz.prog) (args := #[ptokV x]) hl (by rw [hrec]; rfl)
   have hz : ∀ t : Array Value, (((#[13] : Array Tmp).zip #[ptokV x]).foldl (fun tmps (t, a) => tmps.setIfInBounds t a) t) = t.setIfInBounds 13 (ptokV x) := fun t => by simp
   rw [hrec] at hy
   dsimp only at hy
   rw [hz] at hy
   refine ⟨fn, _, assign, body, hy, roundIn_of_wpIn hfn (wpIn_mono (hround pre x W hi hsz hpre) ?_)⟩
   intro e a1 w1 hp
   cases e with
   | normal =>
    obtain ⟨ht1, hb⟩ := hp
    have hl1 : w1.heap[W0.heap.size + 1]? = some (.loop (rec .ready none)) := (ht1.block _ (by omega) (fun hn => hn.2.2.2 rfl)).trans hl
    have hd1 : w1.heap[W0.heap.size]? = some (.deferred (some [])) := (ht1.block _ (by omega) (fun hn => hn.2.2.1 rfl)).trans hd
    have hs2 := ht1.size
    refine ⟨_, run_beginRound hl1 (by rw [hrec]), ?_⟩
    have ht2 := putObj_touch w1 (W0.heap.size + 1) (.loop { rec .ready none with state := .busy })
    refine wpIn_mono (hb _ ht2 (by simp)) ?_
    intro e3 a3 W3 hp3
    cases e3 with
    | normal =>
     obtain ⟨ht3, hi3⟩ := hp3
     have hl2 : (w1.putObj (W0.heap.size + 1) (.loop { rec .ready none with state := .busy })).heap[W0.heap.size + 1]? = some (.loop { rec .ready none with state := .busy }) := World.putObj_heap_same (by omega)
     have hl3 : W3.heap[W0.heap.size + 1]? = some (.loop { rec .ready none with state := .busy }) := (ht3.block _ (by simp; omega) (fun hn => hn.2.2.2 rfl)).trans hl2
     have hd3 : W3.heap[W0.heap.size]? = some (.deferred (some [])) := (ht3.block _ (by simp; omega) (fun hn => hn.2.2.1 rfl)).trans ((World.putObj_heap_other (by omega)).trans hd1)
     have hs3 := ht3.size
     simp at hs3
     have hr := run_endRound (P := Tryz.prog) none hl3
     have ht4 := putObj_touch W3 (W0.heap.size + 1) (.loop (rec .ready none))
     have hrr : ({ rec .ready none with state := .busy } : Loop) = { rec .ready none with state := .busy } := rfl
     have hre : (({ ({ rec .ready none with state := .busy } : Loop) with state := if (none : Option Code).isNone then .ready else .done, pending := none } : Loop)) = rec .ready none := by rw [hrec]; rfl
     rw [hre] at hr
     refine ⟨_, _, hr, rfl, ⟨hI _ _ _ hi3 (ht4.mono (fun _ h => .inr (.inr h))), World.putObj_heap_same (by omega), (World.putObj_heap_other (by omega)).trans hd3, by simp; omega⟩, ?_, ?_⟩
     ·exact ht4.blk (ht3.blk (ht2.blk (ht1.blk hlx (fun hn => hn.1 rfl)) (by omega)) (fun hn => hn.1 rfl)) (by omega)
     ·exact ht4.cell (ht3.cell (ht2.cell (ht1.cell hcx (fun hn => hn.2.1 rfl)) (by simp; omega)) (fun hn => hn.2.1 rfl)) (by simp; omega)
    | ret => exact hp3.elim
    | exit id => exact hp3.elim
    | goto t => exact hp3.elim
    | panic ch => exact hp3.elim
    | outgrown => exact hp3.elim
   | ret => exact hp.elim
   | exit id => exact hp.elim
   | goto t => exact hp.elim
   | panic ch => exact hp.elim
   | outgrown => exact hp.elim
  ·rintro e W2 ⟨rfl, ⟨hi, hl, hd, hsz⟩, hend⟩
   have hpend : (rec .ready none).pending = none := by rw [hrec]
   obtain ⟨ob, hend'⟩ : ∃ ob, (Instr.endLoop (W0.heap.size + 1)).run Tryz.prog W2 = .ok none (W2.putObj (W0.heap.size + 1) ob) := ⟨_, by
    have := run_endLoop (P := Tryz.prog) hl (by rw [hrec]; simp)
    rw [hpend] at this
    exact this⟩
   have ht := putObj_touch W2 (W0.heap.size + 1) ob
   refine ⟨none, _, hend', ?_⟩
   obtain ⟨a', p', e', h1, h2⟩ := hend
   exact hdone _ (hI _ _ _ hi (ht.mono (fun _ h => .inr (.inr h)))) ⟨a', p', e', ht.blk h1 (by omega), h2⟩ ((World.putObj_heap_other (by omega)).trans hd) (by simp; omega)
end Go.Proofs.YtdacpbdamliafaaGreat

/- The walk of lexer.Tokens. -/
namespace Go.Proofs.YtdacpbdamliafaaGreat
open Go.RowKit
attribute [local go_sem] Oper.semAt_some
structure TokInv (w : World) (B : Nat) (pre : List Lx.PTok) (v : Value) (W : World) : Prop where
 toks : Blk W w.heap.size 98 #[v]
 at_ : Blk W (w.heap.size + 1) 3 #[.int .i64 0]
 err : Blk W (w.heap.size + 1 + 1) 28 #[.int .i64 0]
 own : W.ownsRow B 150 4 v pre.length (pre.flatMap ptokCells)
 fresh : Fresh w W
theorem TokInv.touch {S : Nat → Prop} {w : World} {B : Nat} {pre : List Lx.PTok} {v : Value} {W W' : World} (h : TokInv w B pre v W) (ht : Touch S W W') (hS : ∀ k, S k → w.heap.size + 1 + 1 < k ∧ k < B) : TokInv w B pre v W' :=
 ⟨ht.blk h.toks (fun hk => by have := hS _ hk; omega), ht.blk h.at_ (fun hk => by have := hS _ hk; omega), ht.blk h.err (fun hk => by have := hS _ hk; omega),
  ownsRow_touch h.own ht (fun k hk hs => by have := (h.own.lt k hk).1; have := hS _ hs; omega), h.fresh.trans' ht (fun k hk => .inr (by have := hS _ hk; omega))⟩
theorem ptokCells_len (pre : List Lx.PTok) : (pre.flatMap ptokCells).length = pre.length * 4 := by
 induction pre with
 | nil => rfl
 | cons x l ih => simp [ptokCells, ih]; omega
theorem news_of_blk {W : World} {g : Nat} {t : TypeId} {cs : Array Value} (h : Blk W g t cs) : ∀ j u, cs.toList[j]? = some u → W.cell? ((⟨g, 0, none⟩ : Addr).add j) = some u := by
 intro j u hu
 rw [Addr.add_mid, Nat.zero_add, h.cell]
 simpa using hu
def TokensEnd (s : ByteArray) (w : World) (e : Ending) (w' : World) : Prop :=
 Fresh w w' ∧ match (Lx.lexAll s.data.toList).2 with
  | none => ∃ v, e = .returned (.tuple #[v, .int .i64 0, .int .i64 0]) ∧ w'.ownsRow w.heap.size 150 4 v (Lx.lexAll s.data.toList).1.length ((Lx.lexAll s.data.toList).1.flatMap ptokCells)
  | some (p, er) => e = .returned (.tuple #[.slice none 0 0, .int .i64 p, .int .i64 er])
theorem toks_end {w W : World} {B D : Nat} {pre : List Lx.PTok} {v u : Value} {p e : Int} (h : TokInv w B pre v W) (hD : w.heap.size + 1 + 1 < D) (hd : W.heap[D]? = some (.deferred (some []))) :
  (((W.setCell ⟨w.heap.size, 0, none⟩ u).setCell ⟨w.heap.size + 1, 0, none⟩ (.int .i64 p)).setCell ⟨w.heap.size + 1 + 1, 0, none⟩ (.int .i64 e)).heap[D]? = some (.deferred (some [])) ∧
  ∃ WF, (((W.setCell ⟨w.heap.size, 0, none⟩ u).setCell ⟨w.heap.size + 1, 0, none⟩ (.int .i64 p)).setCell ⟨w.heap.size + 1 + 1, 0, none⟩ (.int .i64 e)).putObj D (.deferred none) = WF ∧
   WF.cell? ⟨w.heap.size, 0, none⟩ = some u ∧ WF.cell? ⟨w.heap.size + 1, 0, none⟩ = some (.int .i64 p) ∧ WF.cell? ⟨w.heap.size + 1 + 1, 0, none⟩ = some (.int .i64 e) ∧
   Fresh w WF ∧ Touch (fun k => k = w.heap.size ∨ k = w.heap.size + 1 ∨ k = w.heap.size + 1 + 1 ∨ k = D) W WF := by
 have t1 := (((Touch.refl (fun k => k = w.heap.size ∨ k = w.heap.size + 1 ∨ k = w.heap.size + 1 + 1) W).setCell (p := ⟨w.heap.size, 0, none⟩) (.inl (.inl rfl)) u).setCell (p := ⟨w.heap.size + 1, 0, none⟩) (.inl (.inr (.inl rfl))) (.int .i64 p)).setCell (p := ⟨w.heap.size + 1 + 1, 0, none⟩) (.inl (.inr (.inr rfl))) (.int .i64 e)
 have hlt : D < W.heap.size := (Array.getElem?_eq_some_iff.1 hd).1
 have t2 := putObj_touch (((W.setCell ⟨w.heap.size, 0, none⟩ u).setCell ⟨w.heap.size + 1, 0, none⟩ (.int .i64 p)).setCell ⟨w.heap.size + 1 + 1, 0, none⟩ (.int .i64 e)) D (.deferred none)
 have b1 := ((h.toks.put 0 u).far (p := ⟨w.heap.size + 1, 0, none⟩) (by simp) (.int .i64 p)).far (p := ⟨w.heap.size + 1 + 1, 0, none⟩) (by simp; omega) (.int .i64 e)
 have b2 := ((h.at_.far (p := ⟨w.heap.size, 0, none⟩) (by simp) u).put 0 (.int .i64 p)).far (p := ⟨w.heap.size + 1 + 1, 0, none⟩) (by simp) (.int .i64 e)
 have b3 := ((h.err.far (p := ⟨w.heap.size, 0, none⟩) (by simp; omega) u).far (p := ⟨w.heap.size + 1, 0, none⟩) (by simp) (.int .i64 p)).put 0 (.int .i64 e)
 have t3 := t1.mono (S' := fun k => k = w.heap.size ∨ k = w.heap.size + 1 ∨ k = w.heap.size + 1 + 1 ∨ k = D) (fun k hk => by omega)
 refine ⟨(t1.block D hlt (by omega)).trans hd, _, rfl, ?_, ?_, ?_, ?_, ?_⟩
 ·exact (t2.blk b1 (by omega)).cell 0
 ·exact (t2.blk b2 (by omega)).cell 0
 ·exact (t2.blk b3 (by omega)).cell 0
 ·exact h.fresh.trans' (t3.trans (t2.mono (fun k hk => by omega))) (fun k hk => .inr (by omega))
 ·exact t3.trans (t2.mono (fun k hk => by omega))
set_option maxRecDepth 100000 in
set_option maxHeartbeats 1000000 in
theorem Tokens_any (s : ByteArray) (w : World) (hm : s.size ≤ 1000000000) (hcount : (Lx.lexAll s.data.toList).1.length ≤ 8000) :
  Calls Tryz.prog 79 #[.string s] w (TokensEnd s w) := by
 obtain ⟨i0, hi, hz0, hz1, hz2⟩ := info_parts infoTok
 refine callsIn_wide.1 (callsIn_of_wp_marks (F := Fence.wide) (n := 4) Tryz.func79 rfl trivial ?_ rfl)
 simp only [Tryz.ntmps79, List.size_toArray, List.length_cons, List.length_nil, Nat.reduceAdd, Nat.reduceSub, Array.replicate_succ, Array.replicate_zero, List.push_toArray, List.append_toArray, List.nil_append, List.cons_append]
 refine wpIn_wide.2 ?_
 go_wp2_with fail
 refine (classes_any _).mono ?_
 rintro e1 w1 ⟨rfl, hf1⟩
 have hsz1 := hf1.size
 simp only [World.size_alloc] at hsz1
 have hT1 := hf1.blk ((Blk.new w 98 #[.slice none 0 0]).alloc _ |>.alloc _) (fun h => h)
 have hA1 := hf1.blk ((Blk.new2 w (.cells #[.slice none 0 0] 98) 3 #[.int .i64 0]).alloc _) (fun h => h)
 have hE1 : Blk w1 (w.heap.size + 1 + 1) 28 #[.int .i64 0] := hf1.blk (by have := Blk.new2 (w.alloc (.cells #[.slice none 0 0] 98)) (.cells #[.int .i64 0] 3) 28 #[.int .i64 0]; simpa using this) (fun h => h)
 have hfw : Fresh w w1 := (((Touch.refl (fun _ => False) w).alloc _).alloc _ |>.alloc _).trans hf1
 have HT1 := hid hT1
 have HA1 := hid hA1
 have HE1 := hid hE1
 have HFW := hid hfw
 clear hf1 hT1 hA1 hE1 hfw
 go_wp2_with (refine wpList_build_lex s rfl _ _ rfl rfl rfl ?_)
 refine (tokens_any _ _).mono ?_
 rintro e2 w2 ⟨rfl, rfl⟩
 go_wp2_with fail
 obtain ⟨W0, hW0⟩ : ∃ W0, (w1.alloc (.cells (lexCells s 0 0 0) 160)).alloc (.cells #[.pointer (some ⟨w1.heap.size, 0, none⟩)] 156) = W0 := ⟨_, rfl⟩
 rw [hW0]
 have hs0 : W0.heap.size ≤ w1.heap.size + 2 := by rw [← hW0]; simp
 have hs0' : w1.heap.size + 2 ≤ W0.heap.size := by rw [← hW0]; simp
 have hc0 : W0.cell? ⟨w1.heap.size + 1, 0, none⟩ = some (.pointer (some ⟨w1.heap.size, 0, none⟩)) := by rw [← hW0]; exact (Blk.new2 w1 _ 156 #[.pointer (some ⟨w1.heap.size, 0, none⟩)]).cell 0
 have hl0 : LexAt W0 w1.heap.size s 0 0 0 := by rw [← hW0]; exact (Blk.new w1 160 (lexCells s 0 0 0)).alloc _
 have hi0 : TokInv w (W0.heap.size + 2) [] (.slice none 0 0) W0 := by
  rw [← hW0]
  exact ⟨(HT1.out.alloc _).alloc _, (HA1.out.alloc _).alloc _, (HE1.out.alloc _).alloc _, World.ownsRow_nil _ _ _ _, (HFW.out.alloc _).alloc _⟩
 refine wp_range_toks (L := w1.heap.size) (c := w1.heap.size + 1) (s := s) rfl hm (by omega) hc0 hl0 (fun pre W => ∃ v, TokInv w (W0.heap.size + 2) pre v W) ?_ ⟨_, hi0⟩ ?_ ?_
 ·rintro pre W W' ⟨v, hv⟩ ht
  exact ⟨v, hv.touch ht (fun k hk => by omega)⟩
 ·rintro pre x W ⟨v, hv⟩ hsz hpre
  have HV := hid hv
  clear hv hc0 hl0 hi0 HT1 HA1 HE1 HFW hW0
  simp only [ptokV, List.setIfInBounds_toArray, List.set_cons_succ, List.set_cons_zero]
  gi_wp2
  refine ⟨((Touch.refl _ W).alloc _), ?_⟩
  intro W2 ht2 hs2
  have hv2 : TokInv w (W0.heap.size + 2) pre v W2 := ((HV.out.touch ((Touch.refl (fun _ => False) W).alloc _) (fun k hk => hk.elim)).touch ht2 (fun k hk => by omega))
  have htk : Blk W2 W.heap.size 150 #[.int .i64 x.kind, .string ⟨x.text.toArray⟩, .int .i64 x.from_, .int .i64 x.to_] := ht2.blk (Blk.new _ _ _) (by omega)
  have hln : pre.length + 1 ≤ (Lx.lexAll s.data.toList).1.length := by have := hpre.length_le; simpa using this
  obtain ⟨A, cap, rfl⟩ : ∃ A cap, v = .slice A pre.length cap := by
   rcases hv2.own.2 with ⟨h1, h2⟩ | ⟨g, cap, cur, h1, _⟩
   ·exact ⟨none, 0, by rw [h1, h2]⟩
   ·exact ⟨_, _, h1⟩
  have b1 : ((pre.length : Int) == 8000) = false := by rw [beq_eq_false_iff_ne]; omega
  have c1 := hv2.toks.cell 0
  have f1 := hv2.toks.frozen 0
  simp only [List.getElem?_toArray, List.getElem?_cons_zero] at c1
  obtain ⟨q0, q1, q2, q3, z0, z1, z2, z3, hg⟩ := Blk.four htk
  have hown := hv2.own
  have hTl := hv2.toks.lt
  have HV2 := hid hv2
  have HTK := hid htk
  have HT2 := hid ht2
  have hs2' : W2.heap.size = W.heap.size + 1 := by simpa using hs2
  have HS2 := hid hs2'
  clear hv2 htk ht2 hs2 hs2' hpre
  gi_wp2_with (gi_at_builtin; refine wpListIn_append_own _ rfl _ _ 98 rfl (W0.heap.size + 2) 150 i0 _ 4 40 Tryz.underlying98 hi hz0 hz1 hz2 rfl (by decide) _ _ _ rfl (hown.alloc _) ⟨W2.heap.size, 0, none⟩ 1 1 (ptokCells x) rfl rfl ?c1 ?c2 ?c3 ?c4 ?c5 ?_)
  case c1 => exact news_of_blk (cs := (ptokCells x).toArray) (Blk.new W2 150 _)
  case c2 => intro u hu; simp only [ptokCells, List.mem_cons, List.not_mem_nil, or_false] at hu; rcases hu with rfl | rfl | rfl | rfl <;> rfl
  case c3 => unfold maxLen; omega
  case c4 => omega
  case c5 => have := HS2.out; simp; omega
  intro v' W3 hown' hgrow _
  have ht3 : Touch (fun k => (Value.slice A pre.length cap).ownBlock = some k) W2 W3 := ((Touch.refl _ W2).alloc _).grown hgrow (fun g hg => .inl hg)
  have hbl : ∀ k, (Value.slice A pre.length cap).ownBlock = some k → W0.heap.size + 2 ≤ k := fun k hk => (hown.lt k hk).1
  have hT3 : Blk W3 w.heap.size 98 #[.slice A pre.length cap] := ht3.blk HV2.out.toks (fun hk => by have := hbl _ hk; omega)
  have d1 := hT3.cell 0
  have e1 := hT3.frozen 0
  simp only [List.getElem?_toArray, List.getElem?_cons_zero] at d1
  obtain ⟨g, cap', rfl⟩ : ∃ g cap', v' = .slice (some ⟨g, 0, none⟩) (pre.length + 1) cap' := by
   rcases hown'.2 with ⟨_, h0⟩ | ⟨g, cap', cur, hv, _⟩
   ·omega
   ·exact ⟨g, cap', hv⟩
  have hgl := (hown'.lt g rfl).1
  have HO := hid hown'
  have HT3 := hid hT3
  have HTT := hid ht3
  have HBL := hid hbl
  clear hown' hT3 ht3 hbl hown hgrow
  gi_wp2
  refine ⟨?_, ?_⟩
  ·refine Touch.setCell ?_ (p := ⟨w.heap.size, 0, none⟩) (.inl ⟨by simp; omega, by simp; omega, by simp; omega, by simp; omega⟩) _
   exact HTT.out.mono (fun k hk => by have := HBL.out k hk; exact ⟨by omega, by omega, by omega, by omega⟩)
  ·refine ⟨.slice (some ⟨g, 0, none⟩) (pre.length + 1) cap', ?_, ?_, ?_, ?_, ?_⟩
   ·exact HT3.out.put 0 _
   ·exact (HTT.out.blk HV2.out.at_ (fun hk => by have := HBL.out _ hk; omega)).far (p := ⟨w.heap.size, 0, none⟩) (by simp) _
   ·exact (HTT.out.blk HV2.out.err (fun hk => by have := HBL.out _ hk; omega)).far (p := ⟨w.heap.size, 0, none⟩) (by simp; omega) _
   ·rw [List.length_append, List.flatMap_append]
    refine ownsRow_touch (S := (· = w.heap.size)) ?_ ((Touch.refl (· = w.heap.size) W3).setCell (p := ⟨w.heap.size, 0, none⟩) (.inl rfl) _) (fun k hk hs => by simp [Value.ownBlock] at hk; omega)
    simpa using HO.out
   ·exact (HV2.out.fresh.trans' HTT.out (fun k hk => .inr (by have := HBL.out k hk; omega))).setCell (p := ⟨w.heap.size, 0, none⟩) (.inr (Nat.le_refl _)) _
 ·rintro W ⟨v, hv⟩ hend hd hsz
  obtain ⟨a', p', e', hlx, hmn⟩ := hend
  obtain ⟨g1, g2, g3, g4, f1, f2, f3, hLlt⟩ := lex_reads hlx
  have c1 := hv.toks.cell 0
  have c2 := hv.at_.cell 0
  have c3 := hv.err.cell 0
  have f4 := hv.toks.frozen 0
  have f5 := hv.at_.frozen 0
  have f6 := hv.err.frozen 0
  have l1 := hv.toks.lt
  have l2 := hv.at_.lt
  have l3 := hv.err.lt
  simp only [List.getElem?_toArray, List.getElem?_cons_zero] at c1 c2 c3
  have HV := hid hv
  have HD := hid hd
  obtain ⟨A, cap, rfl⟩ : ∃ A cap, v = .slice A (Lx.lexAll s.data.toList).1.length cap := by
   rcases hv.own.2 with ⟨h1, h2⟩ | ⟨g, cap, cur, h1, _⟩
   ·exact ⟨none, 0, by rw [h1, h2]⟩
   ·exact ⟨_, _, h1⟩
  clear hv hd hlx hc0 hl0 hi0 hW0 HT1 HA1 HE1 HFW
  simp only [Exit.inBlock, Exit.then]
  cases hr : (Lx.lexAll s.data.toList).2 with
  | none =>
   rw [hr] at hmn
   obtain rfl : e' = 0 := hmn
   have HR := hid hr
   clear hr
   generalize hTS : (Lx.lexAll s.data.toList).1 = ts at *
   have HTS := hid hTS
   clear hTS
   go_wp2_with fail
   obtain ⟨hdd, WF, hWF, r1, r2, r3, hfr, htc⟩ := toks_end (u := .slice A ts.length cap) (p := 0) (e := 0) HV.out (by omega) HD.out
   refine ⟨by simp, .inl ⟨_, _, rfl, run_takeDeferred (b := W0.heap.size) (ds := []) hdd, ?_⟩⟩
   rw [hWF]
   refine ⟨.tuple #[.slice A ts.length cap, .int .i64 0, .int .i64 0], by simp [results, Tryz.results79, go_sem, r1, r2, r3], ?_⟩
   refine ⟨hfr, ?_⟩
   rw [HR.out, HTS.out]
   refine ⟨_, rfl, ?_⟩
   have ho := ownsRow_touch HV.out.own htc (fun k hk hs => by have := (HV.out.own.lt k hk).1; omega)
   exact ownsRow_base ho (by omega)
  | some q =>
   obtain ⟨p0, e0⟩ := q
   rw [hr] at hmn
   obtain ⟨rfl, rfl⟩ := hmn
   have HR := hid hr
   clear hr
   have hne : ((e0 : Int) != 0) = true := by have := Lx.lexGo_err _ _ _ _ _ HR.out; rw [bne_iff_ne]; omega
   go_wp2_with fail
   go_region_held3 (fun w' => w'.cell? ⟨w1.heap.size, 258, none⟩ = some (.int .i64 (p0 : Int)) ∧ w'.cell? ⟨w1.heap.size, 259, none⟩ = some (.int .i64 (e0 : Int))) (first | (refine ⟨?_, ?_⟩ <;> first | exact (World.cell?_setCell_other _ _ _ _ (by simp)).trans (by assumption) | exact (World.cell?_setCell_other _ _ _ _ (by simp)).trans ((World.cell?_setCell_other _ _ _ _ (by simp)).trans (by assumption)) | exact (World.cell?_setCell_other _ _ _ _ (by simp)).trans ((World.cell?_setCell_other _ _ _ _ (by simp)).trans ((World.cell?_setCell_other _ _ _ _ (by simp)).trans (by assumption)))) | go_keep) (fail)
   simp only [Exit.then]
   go_wp2_with fail
   obtain ⟨hdd, WF, hWF, r1, r2, r3, hfr, htc⟩ := toks_end (W := W.drew) (u := .slice none 0 0) (p := p0) (e := e0) (HV.out.touch (S := fun _ => False) (Touch.refl _ W).drew (fun k hk => hk.elim)) (by omega) HD.out
   refine ⟨by simp, .inl ⟨_, WF, rfl, ?_, ?_⟩⟩
   ·rw [← hWF]; exact run_takeDeferred (b := W0.heap.size) (ds := []) hdd
   refine ⟨.tuple #[.slice none 0 0, .int .i64 p0, .int .i64 e0], by simp [results, Tryz.results79, go_sem, r1, r2, r3], ?_⟩
   refine ⟨hfr, ?_⟩
   rw [HR.out]
end Go.Proofs.YtdacpbdamliafaaGreat

/- What lexer.Tokens leaves. -/
namespace Go.Proofs.YtdacpbdamliafaaGreat
open Go.RowKit
theorem toks_cells {W : World} {B : Nat} {v : Value} {ts : List Lx.PTok} (h : W.ownsRow B 150 4 v ts.length (ts.flatMap ptokCells)) (i : Nat) (hi : i < ts.length) :
  ∃ g cap, v = .slice (some ⟨g, 0, none⟩) ts.length cap ∧ B ≤ g ∧ g < W.heap.size ∧ ∀ j u, (ptokCells ts[i])[j]? = some u → W.cell? ⟨g, 4 * i + j, none⟩ = some u := by
 rcases h.2 with ⟨_, h0⟩ | ⟨g, cap, cur, hv, hB, r⟩
 ·omega
 ·subst hv
  refine ⟨g, cap, rfl, hB, (h.lt g rfl).2, fun j u hu => ?_⟩
  have hcl := h.cells (g := g) rfl (4 * i + j) u ?_
  ·rw [Addr.add_mid, Nat.zero_add] at hcl; exact hcl
  ·have hj : j < 4 := by have := (List.getElem?_eq_some_iff.1 hu).1; simpa [ptokCells] using this
   clear h r
   induction ts generalizing i with
   | nil => simp at hi
   | cons x l ih =>
    cases i with
    | zero => rw [List.flatMap_cons, List.getElem?_append_left (by simp [ptokCells]; omega)]; simpa using hu
    | succ i =>
     rw [List.flatMap_cons, List.getElem?_append_right (by simp [ptokCells]; omega)]
     have := ih i (by simpa using hi) (by simpa using hu)
     rw [← this]; congr 1; simp [ptokCells]; omega
theorem Tokens_ok {s : ByteArray} {w : World} {ts : List Lx.PTok} (h : Lx.lexAll s.data.toList = (ts, none)) (hm : s.size ≤ 1000000000) (hc : ts.length ≤ 8000) :
  Calls Tryz.prog 79 #[.string s] w fun e w' => Fresh w w' ∧ ∃ v, e = .returned (.tuple #[v, .int .i64 0, .int .i64 0]) ∧ w'.ownsRow w.heap.size 150 4 v ts.length (ts.flatMap ptokCells) := by
 have := Tokens_any s w hm (by rw [h]; exact hc)
 unfold TokensEnd at this
 rw [h] at this
 exact this
theorem Tokens_err {s : ByteArray} {w : World} {p er : Nat} (h : (Lx.lexAll s.data.toList).2 = some (p, er)) (hm : s.size ≤ 1000000000) (hc : (Lx.lexAll s.data.toList).1.length ≤ 8000) :
  Calls Tryz.prog 79 #[.string s] w fun e w' => Fresh w w' ∧ e = .returned (.tuple #[.slice none 0 0, .int .i64 p, .int .i64 er]) := by
 have := Tokens_any s w hm hc
 unfold TokensEnd at this
 rw [h] at this
 exact this
end Go.Proofs.YtdacpbdamliafaaGreat

/- The notation's parse, of a text without macros. -/
namespace Go.Proofs.YtdacpbdamliafaaGreat
open Go.RowKit
open Tr (Nd)
open Lx (PTok)
open Np (R pRow pIn pScript pItem pPrim pArgs pName pCells pArg)
attribute [local go_sem] stillV stillUpon
theorem lim_err_ne {most : Nat} {t : Lx.Tok} {n i e : Nat} (h : Lx.lim most t n = .err i e) : e ≠ 0 := by
 unfold Lx.lim at h
 split at h
 ·cases h; decide
 ·cases h
theorem quo_err_ne : ∀ (q acc : Lx.Bytes) (i a e : Nat), Lx.quo q acc i = .err a e → e ≠ 0
 | [], acc, i, a, e, h => by cases h; decide
 | c :: q, acc, i, a, e, h => by
  rw [Lx.quo.eq_def] at h
  simp only at h
  split at h
  ·exact lim_err_ne h
  ·split at h
   ·cases h; decide
   ·split at h
    ·split at h
     ·cases h; decide
     ·rename_i d q'
      split at h
      ·exact quo_err_ne q' _ _ a e h
      ·cases h; decide
    ·exact quo_err_ne q _ _ a e h
theorem next_err_ne (r : Lx.Bytes) (i e : Nat) (h : Lx.next r = .err i e) : e ≠ 0 := by
 cases r with
 | nil => cases h; decide
 | cons c q =>
  rw [Lx.next] at h
  split at h
  ·exact lim_err_ne h
  ·split at h
   ·cases h
   ·split at h
    ·exact quo_err_ne q _ _ i e h
    ·split at h
     ·cases h
     ·split at h
      ·unfold Lx.name at h
       simp only at h
       split at h
       ·exact lim_err_ne h
       ·split at h
        ·cases h
        ·cases h; decide
      ·split at h
       ·cases h
       ·split at h
        ·cases h
        ·cases h; decide
theorem lexGo_err_ne (l : Lx.Bytes) : ∀ (f a p e : Nat), (Lx.lexGo l f a).2 = some (p, e) → e ≠ 0
 | 0, a, p, e, h => by cases h
 | f + 1, a, p, e, h => by
  rw [Lx.lexGo] at h
  split at h
  ·cases h
  ·split at h
   ·rename_i i e' hn
    simp only [Option.some.injEq, Prod.mk.injEq] at h
    rw [← h.2]
    exact next_err_ne _ _ _ hn
   ·exact lexGo_err_ne l f _ p e h
theorem lexAll_err_ne (l : Lx.Bytes) (p e : Nat) (h : (Lx.lexAll l).2 = some (p, e)) : e ≠ 0 := lexGo_err_ne l _ 0 p e h
theorem lexAll_ok (l : Lx.Bytes) : ∀ t ∈ (Lx.lexAll l).1, Lx.TokOK (Lx.tok t) := Lx.lexGo_ok l _ 0
theorem tokOK_len {t : Lx.Tok} (h : Lx.TokOK t) : t.text.length ≤ maxLen := by
 have : t.text.length ≤ 200 := by
  rcases h with ⟨_, _, e, _⟩ | ⟨_, h, _⟩ | ⟨_, h, _⟩ | ⟨_, h, _⟩ | ⟨_, a, b, e, _⟩ | ⟨_, _, e, _⟩ | ⟨_, _, e, _⟩ | ⟨_, e⟩
  all_goals first | (rw [e]; simp) | omega
 unfold maxLen
 omega
theorem tokOK_kind {t : Lx.Tok} (h : Lx.TokOK t) : t.kind ≠ 0 := by
 rcases h with ⟨h, _⟩ | ⟨h, _⟩ | ⟨h, _⟩ | ⟨h, _⟩ | ⟨h, _⟩ | ⟨h, _⟩ | ⟨h, _⟩ | ⟨h, _⟩ <;> omega
theorem tokOK_par {t : Lx.Tok} (h : Lx.TokOK t) (hk : t.kind = 6) : ∃ b : UInt8, t.text = [b] ∧ 49 ≤ b ∧ b ≤ 57 := by
 rcases h with ⟨h, _⟩ | ⟨h, _⟩ | ⟨h, _⟩ | ⟨h, _⟩ | ⟨h, _⟩ | ⟨_, d, e, h1, h2⟩ | ⟨h, _⟩ | ⟨h, _⟩
 all_goals first | omega | skip
 refine ⟨d, e, h1, ?_⟩
 rw [UInt8.le_iff_toNat_le] at h2 ⊢
 exact Nat.le_trans h2 (by decide)
def parseS (l : List UInt8) : R (List Nd) := match Lx.lexAll l with
 | (ts, none) => Np.parseT l.length ts
 | (_, some (p, e)) => .err p e
def ParseE (w : World) (X : R (List Nd)) (e : Ending) (w' : World) : Prop :=
 match X with
 | .ok items _ => ∃ A cp, e = .returned (.tuple #[.agg #[.int .i64 1, .string ⟨#[]⟩, .int .i64 0, .slice A items.length cp], .bool true, failV 0 0]) ∧ TreT w.heap.size w' items (.slice A items.length cp) ∧ Fresh w w'
 | .err i er => er ≠ 0 ∧ e = .returned (.tuple #[.agg zeroN, .bool false, failV i er]) ∧ Fresh w w'
 | .out => True
theorem Mp.toFresh {g B : Nat} {w a b : World} (hf : Fresh w a) (hm : Mp g B a b) (hg : w.heap.size ≤ g) (hB : w.heap.size ≤ B) : Fresh w b :=
 hf.trans' hm fun i hi => .inr (by rcases hi with rfl | ⟨h, _⟩ <;> omega)
theorem setCell_same {w : World} {g i : Nat} {t : TypeId} {cs : Array Value} {v : Value} (h : Blk w g t cs) (hv : cs[i]? = some v) : w.setCell ⟨g, i, none⟩ v = w := by
 have hh : (w.setCell ⟨g, i, none⟩ v).heap = w.heap := by
  apply Array.ext_getElem?
  intro k
  by_cases hk : k = g
  ·subst hk
   have h1 := h.put i v
   unfold Blk at h h1
   rw [h1, h]
   congr 2
   apply Array.ext_getElem?
   intro j
   rw [Array.getElem?_setIfInBounds]
   split
   ·rename_i e
    subst e
    split
    ·exact hv.symm
    ·rename_i hl
     rw [Array.getElem?_eq_none (by omega)] at hv
     cases hv
   ·rfl
  ·exact Below.heap_setCell w ⟨g, i, none⟩ v k hk
 have : w.setCell ⟨g, i, none⟩ v = { w with heap := (w.setCell ⟨g, i, none⟩ v).heap } := rfl
 rw [this, hh]
theorem put2_same {w : World} {g : Nat} {t : TypeId} {x y : Value} (h : Blk w g t #[x, y]) : (w.setCell ⟨g, 0, none⟩ x).setCell ⟨g, 1, none⟩ y = w := by
 have h0 : w.setCell ⟨g, 0, none⟩ x = w := setCell_same h rfl
 rw [h0]
 exact setCell_same h rfl
theorem size_toList (s : ByteArray) : s.data.toList.length = s.size := by simp
set_option maxRecDepth 100000 in
set_option maxHeartbeats 2000000 in
theorem parse_any (s : ByteArray) (w : World) (hm : s.size ≤ 1000000000) (hc : (Lx.lexAll s.data.toList).1.length ≤ 8000) : Calls Tryz.prog 55 #[.string s, .pointer none, .int .i64 0] w (ParseE w (parseS s.data.toList)) := by
 have hok := lexAll_ok s.data.toList
 have hern := lexAll_err_ne s.data.toList
 unfold parseS
 cases hl : Lx.lexAll s.data.toList with
 | mk ts o =>
 rw [hl] at hc hok hern
 cases o with
 | some pe =>
  obtain ⟨p, er⟩ := pe
  have HER := hid (hern p er rfl)
  have e0 := fail_ne HER.out
  have HTK := hid (fun (w' : World) => Tokens_err (s := s) (w := w') (p := p) (er := er) (by rw [hl]) hm (by rw [hl]; exact hc))
  clear hern hok hl hc
  refine Calls.via fun Q hQ => ?_
  have HQ := hid hQ
  clear hQ
  go_enter Tryz.func55, Tryz.ntmps55
  go_wp2_with fail
  refine (HTK.out _).mono ?_
  rintro _ w1 ⟨hf, rfl⟩
  have HF := hid (Touch.pre (Touch.pre hf))
  have HBN := hid (hf.blk ((Blk.new w 24 zeroN).alloc (.cells #[.int .i64 0, .int .i64 0] 88)) (fun h => h))
  have HBF := hid (hf.blk (Blk.new2 w (.cells zeroN 24) 88 #[.int .i64 0, .int .i64 0]) (fun h => h))
  clear hf
  obtain ⟨p0, p1, p2, p3, y0, y1, y2, y3, hlt0⟩ := Blk.four HBN.out
  obtain ⟨q0, q1, z0, z1, hlt1⟩ := Blk.two HBF.out
  go_wp2_with fail
  have hne : w.heap.size ≠ w.heap.size + 1 := by omega
  have n1 := (HBN.out.self4 (.int .i64 0) (.string ⟨#[]⟩) (.int .i64 0) (.slice none 0 0)).far2 hne (.int .i64 (p : Int)) (.int .i64 (er : Int))
  have n2 := (HBF.out.far4 (Ne.symm hne) (.int .i64 0) (.string ⟨#[]⟩) (.int .i64 0) (.slice none 0 0)).self2 (.int .i64 (p : Int)) (.int .i64 (er : Int))
  have hf5 : Fresh w _ := (HF.out.put4 (g := w.heap.size) (.inr (Nat.le_refl _)) (.int .i64 0) (.string ⟨#[]⟩) (.int .i64 0) (.slice none 0 0)).put2 (g := w.heap.size + 1) (.inr (by omega)) (.int .i64 (p : Int)) (.int .i64 (er : Int))
  obtain ⟨g0, g1, g2, g3, _⟩ := Blk.four n1
  obtain ⟨f0, f1, _⟩ := Blk.two n2
  simp only [put2, put4] at g0 g1 g2 g3 f0 f1 hf5
  (try simp only [Exit.inBlock, Exit.then])
  refine bodyPost_ret (v := .tuple #[.agg zeroN, .bool false, failV p er]) (by simp [failV, results, Tryz.results55, go_sem, f0, f1, g0, g1, g2, g3]) rfl ?_
  exact HQ.out _ _ ⟨HER.out, rfl, hf5⟩
 | none =>
  have HTK := hid (fun (w' : World) => Tokens_ok (s := s) (w := w') hl hm hc)
  have HOK := hid hok
  have HC := hid hc
  clear hern hok hl
  simp only
  rw [size_toList]
  have HND := hid (Np.parseT_ends s.size ts)
  refine Calls.via fun Q hQ => ?_
  have HQ := hid hQ
  clear hQ
  go_enter Tryz.func55, Tryz.ntmps55
  go_wp2_with fail
  refine (HTK.out _).mono ?_
  rintro _ w1 ⟨hf, v, rfl, hown⟩
  have HTR := hid (owns_row hown)
  obtain ⟨At, ct, rfl⟩ := own_slc hown
  have HOWN := hid hown
  have HF1 := hid (Touch.pre (Touch.pre hf))
  have HBN1 := hid (hf.blk ((Blk.new w 24 zeroN).alloc (.cells #[.int .i64 0, .int .i64 0] 88)) (fun h => h))
  have HBF1 := hid (hf.blk (Blk.new2 w (.cells zeroN 24) 88 #[.int .i64 0, .int .i64 0]) (fun h => h))
  have HS1 := hid (show w.heap.size + 1 < w1.heap.size from HBF1.out.lt)
  clear hf hown
  go_wp2_with fail
  refine (new_any_n At ts.length ct s.size w1).mono ?_
  rintro _ w3 ⟨rfl, hf3, hb3, hmap3⟩
  have HGD := hid (show Cf.Good ⟨w1.heap.size, w3, .slice At ts.length ct, .map (some (w1.heap.size + 1)), s.size, ts⟩ from
   ⟨HTR.out.fresh hf3, hb3.lt, fun gt o n cap e => by
    simp only at e
    exact Nat.ne_of_lt (HOWN.out.lt gt (by rw [e]; rfl)).2, by have := HC.out; show ts.length ≤ 100000; omega, hm, fun t ht => tokOK_len (HOK.out t ht), fun t ht => tokOK_kind (HOK.out t ht), fun t ht hk => tokOK_par (HOK.out t ht) hk⟩)
  obtain ⟨c, hcc⟩ : ∃ c : Cf, c = ⟨w1.heap.size, w3, .slice At ts.length ct, .map (some (w1.heap.size + 1)), s.size, ts⟩ := ⟨_, rfl⟩
  rw [← hcc] at HGD
  have HG := hid (show c.g = w1.heap.size from by rw [hcc])
  have HW := hid (show c.W0 = w3 from by rw [hcc])
  have HEN := hid (show c.en = s.size from by rw [hcc])
  have HCT := hid (show c.T = ts from by rw [hcc])
  have HTV := hid (show c.tv = .slice At ts.length ct from by rw [hcc])
  have HNM := hid (show c.Named (w1.heap.size + 1) from by
   rw [hcc]
   exact ⟨rfl, hmap3, fun e => by have e' : w1.heap.size + 1 = w1.heap.size := e; omega⟩)
  have HP3 := hid (show Ps c 0 [] w3 from by
   rw [hcc]
   exact ⟨Touch.refl _ _, ⟨.slice none 0 0, hb3, World.ownsRow_nil _ _ _ _⟩, Nat.zero_le _⟩)
  have HF3 := hid (HF1.out.trans hf3)
  have HBN3 := hid (hf3.blk HBN1.out fun h => h)
  have HBF3 := hid (hf3.blk HBF1.out fun h => h)
  have HS3 := hid (show w1.heap.size < w3.heap.size from hb3.lt)
  clear hcc hf3 hb3 hmap3
  have hne := HND.out
  unfold Np.parseT at hne HQ
  have HNE := hid hne
  have HROW := hid (show Np.pRow s.size (8 * ts.length + 8) [] ts ≠ .out → Calls Tryz.prog 81 #[.pointer (some ⟨w1.heap.size, 0, none⟩)] w3 (ItemsE c 0 [] (Np.pRow s.size (8 * ts.length + 8) [] ts) w3) from fun h => by
   have h1 := row_any_n c HGD.out (w1.heap.size + 1) HNM.out (8 * ts.length + 8) (by have := HC.out; omega) 0 [] w3 HP3.out (Nat.le_refl _)
   unfold pp0 at h1
   rw [HG.out, HEN.out, HCT.out, List.drop_zero] at h1
   exact h1 h)
  clear hne
  go_wp2_with fail
  refine (HROW.out (fun h => HNE.out (by rw [h] <;> rfl))).mono ?_
  intro e w4 hres
  have hparts := hres.parts (fun h => HNE.out (by rw [h] <;> rfl))
  clear hres
  generalize Np.pRow s.size (8 * ts.length + 8) [] ts = X at HNE HQ hparts
  clear HROW
  obtain ⟨A, n, cp, i, er, rfl, hm4, hend⟩ := hparts
  have hd4 : w.heap.size + 1 < c.g := by rw [HG.out]; exact HS1.out
  have HM4 := hid hm4
  have HBN4 := hid (hm4.blk HBN3.out (by omega) (by decide))
  have HBF4 := hid (hm4.blk HBF3.out (by omega) (by decide))
  have HF4 := hid (hm4.toFresh HF3.out (by omega) (by rw [HW.out]; have := HF3.out.size; omega))
  clear hm4
  obtain ⟨q0, q1, z0, z1, hlt1⟩ := Blk.two HBF4.out
  rcases hend with ⟨items, rest, k', rfl, rfl, rfl, rfl, htr, hdr, hkk, hp⟩ | ⟨rfl, he0⟩
  case inr =>
   have HE0 := hid he0
   have e0 := fail_ne he0
   have e0p : ¬ (er : Int) = 0 := by omega
   clear he0
   unfold failV
   go_wp2_with fail
   have hbf5 := HBF4.out.self2 (.int .i64 (i : Int)) (.int .i64 (er : Int))
   have hbn5 := HBN4.out.far2 (L := w.heap.size) (g := w.heap.size + 1) (by omega) (.int .i64 (i : Int)) (.int .i64 (er : Int))
   have hf5 : Fresh w _ := HF4.out.put2 (g := w.heap.size + 1) (.inr (by omega)) (.int .i64 (i : Int)) (.int .i64 (er : Int))
   have ht5 := touch2 w4 (w.heap.size + 1) (.int .i64 (i : Int)) (.int .i64 (er : Int))
   simp only [put2] at hbf5 hbn5 hf5 ht5
   generalize (World.setCell (World.setCell w4 ⟨w.heap.size + 1, 0, none⟩ _) ⟨w.heap.size + 1, 1, none⟩ _) = W5 at hbf5 hbn5 hf5 ht5 ⊢
   have HBF5 := hid hbf5
   have HBN5 := hid hbn5
   have HF5 := hid hf5
   have HT5 := hid ht5
   clear hbf5 hbn5 hf5 ht5 q0 q1 z0 z1 hlt1
   have r0 : W5.cell? ⟨w.heap.size + 1, 1, none⟩ = some (.int .i64 (er : Int)) := HBF5.out.cell 1
   have hl5 := HBF5.out.lt
   go_quiet (fail)
   clear r0 hl5
   have HBF6 := hid (HBF5.out.drewN nq)
   have HBN6 := hid (HBN5.out.drewN nq)
   have HF6 := hid (HF5.out.drewN nq)
   generalize W5.drewN nq = W6 at HBF6 HBN6 HF6 ⊢
   obtain ⟨q0, q1, z0, z1, hlt1⟩ := Blk.two HBF6.out
   go_wp2_with fail
   clear q0 q1 z0 z1 hlt1
   refine wp_region_in (fun W => Blk W (w.heap.size + 1) 88 #[.int .i64 (i : Int), .int .i64 (er : Int)] ∧ Blk W w.heap.size 24 zeroN) [(0, true), (1, true), (2, false), (3, true), (4, false)] (by kernel_rfl) (fun _ _ d _ _ h => by cases d <;> exact h) (by kernel_rfl) ⟨HBF6.out.drewN 1, HBN6.out.drewN 1⟩ ?_
   refine wpSeq_plain rfl (fun K hK => ?_)
   rw [if_pos (by rfl)]
   refine ⟨.agg zeroN, fun W hW => ?_, hK _ ?_⟩
   ·go_simp
   clear hK K
   refine wpSeq_plain rfl (fun K hK => ?_)
   rw [if_pos (by rfl)]
   refine ⟨.agg #[.int .i64 (i : Int), .int .i64 (er : Int)], fun W hW => ?_, hK _ ?_⟩
   ·obtain ⟨h1, _⟩ := hW
    obtain ⟨p0, p1, _⟩ := Blk.two h1
    go_simp
   clear hK K
   obtain ⟨p0, p1, p2, p3, y0, y1, y2, y3, hlt0⟩ := Blk.four (HBN6.out.drewN 1)
   refine wpSeq_lone rfl (fun K hK => ?_)
   go_wp2_with fail
   have hne : w.heap.size ≠ w.heap.size + 1 := by omega
   have n1 := (HBN6.out.drewN 1).self4 (.int .i64 0) (.string ⟨#[]⟩) (.int .i64 0) (.slice none 0 0)
   have n2 := (HBF6.out.drewN 1).far4 (Ne.symm hne) (.int .i64 0) (.string ⟨#[]⟩) (.int .i64 0) (.slice none 0 0)
   have hm7 : Fresh w _ := (HF6.out.drewN 1).put4 (g := w.heap.size) (.inr (Nat.le_refl _)) (.int .i64 0) (.string ⟨#[]⟩) (.int .i64 0) (.slice none 0 0)
   simp only [put4] at n1 n2 hm7
   generalize (World.setCell (World.setCell (World.setCell (World.setCell (W6.drewN 1) ⟨w.heap.size, 0, none⟩ _) ⟨w.heap.size, 1, none⟩ _) ⟨w.heap.size, 2, none⟩ _) ⟨w.heap.size, 3, none⟩ _) = W7 at n1 n2 hm7 ⊢
   refine hK _ _ ⟨n2, n1⟩ ?_
   clear hK K p0 p1 p2 p3 y0 y1 y2 y3 hlt0
   have HN1 := hid n1
   have HN2 := hid n2
   have HM7 := hid hm7
   clear n1 n2 hm7
   refine wpSeq_plain rfl (fun K hK => ?_)
   rw [if_pos (by rfl)]
   refine ⟨.bool false, fun W hW => ?_, hK _ ?_⟩
   ·go_simp
   clear hK K
   obtain ⟨q0, q1, z0, z1, hlt1⟩ := Blk.two HN2.out
   refine wpSeq_lone rfl (fun K hK => ?_)
   go_wp2_with fail
   have m1 := HN1.out.far2 hne (.int .i64 (i : Int)) (.int .i64 (er : Int))
   have m2 := HN2.out.self2 (.int .i64 (i : Int)) (.int .i64 (er : Int))
   have hm8 : Fresh w _ := HM7.out.put2 (g := w.heap.size + 1) (.inr (by omega)) (.int .i64 (i : Int)) (.int .i64 (er : Int))
   simp only [put2] at m1 m2 hm8
   generalize (World.setCell (World.setCell W7 ⟨w.heap.size + 1, 0, none⟩ _) ⟨w.heap.size + 1, 1, none⟩ _) = W8 at m1 m2 hm8 ⊢
   refine hK _ _ ⟨m2, m1⟩ ?_
   clear hK K q0 q1 z0 z1 hlt1
   refine wpSeq_end ?_
   go_wp2_with fail
   obtain ⟨g0, g1, g2, g3, _⟩ := Blk.four m1
   obtain ⟨f0, f1, _⟩ := Blk.two m2
   (try simp only [Exit.inBlock, Exit.then])
   refine bodyPost_ret (v := .tuple #[.agg zeroN, .bool false, failV i er]) (by simp [failV, results, Tryz.results55, go_sem, f0, f1, g0, g1, g2, g3]) rfl ?_
   exact HQ.out _ _ ⟨HE0.out, rfl, hm8⟩
  have HTRE := hid htr
  have HP4 := hid hp
  have HDR := hid hdr
  clear htr hp hdr
  unfold failV
  go_wp2_with fail
  rw [put2_same HBF4.out]
  clear q0 q1 z0 z1 hlt1
  obtain ⟨ov, hb4, _⟩ := HP4.out.box
  rw [HG.out, HTV.out] at hb4
  have hkl : k' ≤ ts.length := by have := HP4.out.le; rw [HCT.out] at this; exact this
  have HKL := hid hkl
  have HB4 := hid hb4
  have r0 : w4.cell? ⟨w.heap.size + 1, 1, none⟩ = some (.int .i64 0) := HBF4.out.cell 1
  have r1 : w4.cell? ⟨w1.heap.size, 0, none⟩ = some (.slice At ts.length ct) := hb4.cell 0
  have r2 : w4.cell? ⟨w1.heap.size, 1, none⟩ = some (.int .i64 (k' : Int)) := hb4.cell 1
  have hl4 := HBF4.out.lt
  have hl5 := hb4.lt
  clear hb4 hkl
  by_cases hlast : k' < ts.length
  ·have c1 : (k' : Int) < (ts.length : Int) := by omega
   have c2 : decide ((k' : Int) < (ts.length : Int)) = true := decide_eq_true (by omega)
   have HX := hid (show (if rest.isEmpty then R.ok items rest else Np.refuse s.size rest) = .err (Np.place c.en (c.T.drop k')) 3 from by
    rw [← HDR.out, if_neg (fun h => by have h2 := List.isEmpty_iff.1 h; rw [HCT.out, List.drop_eq_nil_iff] at h2; omega), HEN.out]
    rfl)
   go_quiet (fail)
   clear r0 r1 r2 hl4 hl5 c1 c2
   have HP6 := hid (HP4.out.fresh ((Touch.refl _ w4).drewN nq))
   have HBF6 := hid (HBF4.out.drewN nq)
   have HBN6 := hid (HBN4.out.drewN nq)
   have HF6 := hid (HF4.out.drewN nq)
   generalize w4.drewN nq = w6 at HP6 HBF6 HBN6 HF6 ⊢
   have HRF := hid (refuse_any_n c HGD.out k' [] w6 HP6.out)
   unfold pp0 at HRF
   rw [HG.out] at HRF
   go_wp2_with fail
   refine HRF.out.mono ?_
   rintro _ w7 ⟨rfl, hf⟩
   have HBF7 := hid (hf.blk HBF6.out fun h => h)
   have HBN7 := hid (hf.blk HBN6.out fun h => h)
   have HF7 := hid (HF6.out.trans hf)
   clear hf
   simp only [Np.R.bind] at HQ
   rw [HX.out] at HQ
   generalize Np.place c.en (c.T.drop k') = pl at HQ ⊢
   have HBF4 := HBF7
   have HBN4 := HBN7
   have HF4 := HF7
   obtain ⟨q0, q1, z0, z1, hlt1⟩ := Blk.two HBF7.out
   unfold failV
   go_wp2_with fail
   have hbf5 := HBF7.out.self2 (.int .i64 (pl : Int)) (.int .i64 3)
   have hbn5 := HBN7.out.far2 (L := w.heap.size) (g := w.heap.size + 1) (by omega) (.int .i64 (pl : Int)) (.int .i64 3)
   have hf5 : Fresh w _ := HF7.out.put2 (g := w.heap.size + 1) (.inr (by omega)) (.int .i64 (pl : Int)) (.int .i64 3)
   simp only [put2] at hbf5 hbn5 hf5
   generalize (World.setCell (World.setCell w7 ⟨w.heap.size + 1, 0, none⟩ _) ⟨w.heap.size + 1, 1, none⟩ _) = W8 at hbf5 hbn5 hf5 ⊢
   have HBF8 := hid hbf5
   have HBN8 := hid hbn5
   have HF8 := hid hf5
   clear hbf5 hbn5 hf5 q0 q1 z0 z1 hlt1
   refine wp_region_in (fun W => Blk W (w.heap.size + 1) 88 #[.int .i64 (pl : Int), .int .i64 3] ∧ Blk W w.heap.size 24 zeroN) [(0, true), (1, true), (2, false), (3, true), (4, false)] (by kernel_rfl) (fun _ _ d _ _ h => by cases d <;> exact h) (by kernel_rfl) ⟨HBF8.out.drewN 1, HBN8.out.drewN 1⟩ ?_
   refine wpSeq_plain rfl (fun K hK => ?_)
   rw [if_pos (by rfl)]
   refine ⟨.agg zeroN, fun W hW => ?_, hK _ ?_⟩
   ·go_simp
   clear hK K
   refine wpSeq_plain rfl (fun K hK => ?_)
   rw [if_pos (by rfl)]
   refine ⟨.agg #[.int .i64 (pl : Int), .int .i64 3], fun W hW => ?_, hK _ ?_⟩
   ·obtain ⟨h1, _⟩ := hW
    obtain ⟨p0, p1, _⟩ := Blk.two h1
    go_simp
   clear hK K
   obtain ⟨p0, p1, p2, p3, y0, y1, y2, y3, hlt0⟩ := Blk.four (HBN8.out.drewN 1)
   refine wpSeq_lone rfl (fun K hK => ?_)
   go_wp2_with fail
   have hne : w.heap.size ≠ w.heap.size + 1 := by omega
   have n1 := (HBN8.out.drewN 1).self4 (.int .i64 0) (.string ⟨#[]⟩) (.int .i64 0) (.slice none 0 0)
   have n2 := (HBF8.out.drewN 1).far4 (Ne.symm hne) (.int .i64 0) (.string ⟨#[]⟩) (.int .i64 0) (.slice none 0 0)
   have hm7 : Fresh w _ := (HF8.out.drewN 1).put4 (g := w.heap.size) (.inr (Nat.le_refl _)) (.int .i64 0) (.string ⟨#[]⟩) (.int .i64 0) (.slice none 0 0)
   simp only [put4] at n1 n2 hm7
   generalize (World.setCell (World.setCell (World.setCell (World.setCell (W8.drewN 1) ⟨w.heap.size, 0, none⟩ _) ⟨w.heap.size, 1, none⟩ _) ⟨w.heap.size, 2, none⟩ _) ⟨w.heap.size, 3, none⟩ _) = W7 at n1 n2 hm7 ⊢
   refine hK _ _ ⟨n2, n1⟩ ?_
   clear hK K p0 p1 p2 p3 y0 y1 y2 y3 hlt0
   have HN1 := hid n1
   have HN2 := hid n2
   have HM7 := hid hm7
   clear n1 n2 hm7
   refine wpSeq_plain rfl (fun K hK => ?_)
   rw [if_pos (by rfl)]
   refine ⟨.bool false, fun W hW => ?_, hK _ ?_⟩
   ·go_simp
   clear hK K
   obtain ⟨q0, q1, z0, z1, hlt1⟩ := Blk.two HN2.out
   refine wpSeq_lone rfl (fun K hK => ?_)
   go_wp2_with fail
   have m1 := HN1.out.far2 hne (.int .i64 (pl : Int)) (.int .i64 3)
   have m2 := HN2.out.self2 (.int .i64 (pl : Int)) (.int .i64 3)
   have hm8 : Fresh w _ := HM7.out.put2 (g := w.heap.size + 1) (.inr (by omega)) (.int .i64 (pl : Int)) (.int .i64 3)
   simp only [put2] at m1 m2 hm8
   generalize (World.setCell (World.setCell W7 ⟨w.heap.size + 1, 0, none⟩ _) ⟨w.heap.size + 1, 1, none⟩ _) = W8 at m1 m2 hm8 ⊢
   refine hK _ _ ⟨m2, m1⟩ ?_
   clear hK K q0 q1 z0 z1 hlt1
   refine wpSeq_end ?_
   go_wp2_with fail
   obtain ⟨g0, g1, g2, g3, _⟩ := Blk.four m1
   obtain ⟨f0, f1, _⟩ := Blk.two m2
   (try simp only [Exit.inBlock, Exit.then])
   refine bodyPost_ret (v := .tuple #[.agg zeroN, .bool false, failV pl 3]) (by simp [failV, results, Tryz.results55, go_sem, f0, f1, g0, g1, g2, g3]) rfl ?_
   exact HQ.out _ _ ⟨by decide, rfl, hm8⟩
  ·have c1 : ¬ (k' : Int) < (ts.length : Int) := by omega
   have c2 : decide ((k' : Int) < (ts.length : Int)) = false := decide_eq_false (by omega)
   have HX := hid (show (if rest.isEmpty then R.ok items rest else Np.refuse s.size rest) = .ok items rest from by
    rw [← HDR.out, if_pos (by rw [HCT.out, List.drop_eq_nil_of_le (by omega)]; rfl)])
   simp only [Np.R.bind] at HQ
   rw [HX.out] at HQ
   go_quiet (fail)
   clear r0 r1 r2 hl4 hl5 c1 c2
   have HBF6 := hid (HBF4.out.drewN nq)
   have HBN6 := hid (HBN4.out.drewN nq)
   have HB6 := hid (HB4.out.drewN nq)
   have HF6 := hid (HF4.out.drewN nq)
   have HT6 := hid (HTRE.out.fresh ((Touch.refl _ w4).drewN nq))
   generalize w4.drewN nq = w6 at HBF6 HBN6 HB6 HF6 HT6 ⊢
   obtain ⟨q0, q1, z0, z1, hlt1⟩ := Blk.two HBF6.out
   go_wp2_with fail
   clear q0 q1 z0 z1 hlt1
   refine wp_region_in (fun W => Blk W w1.heap.size 130 #[.slice At ts.length ct, .int .i64 (k' : Int), .int .i64 (c.en : Int), ov, .pointer none, .int .i64 0, c.mv, .int .i64 0, .bool false]) [(0, true), (2, true), (3, true), (4, true), (5, true), (6, true), (7, true), (1, false), (8, false), (9, true), (10, false)] (by kernel_rfl) (fun _ _ d _ _ h => by cases d <;> exact h) (by kernel_rfl) (HB6.out.drewN 1) ?_
   refine wpSeq_plain rfl (fun K hK => ?_)
   rw [if_pos (by rfl)]
   refine ⟨.slice A items.length cp, fun W hW => ?_, hK _ ?_⟩
   ·have h8 := hW.cell 8
    have hlw := hW.lt
    go_simp
   clear hK K
   refine wpSeq_plain rfl (fun K hK => ?_)
   rw [if_pos (by rfl)]
   refine ⟨.pointer (some ⟨w1.heap.size, 0, none⟩), fun W hW => ?_, hK _ ?_⟩
   ·have h8 := hW.cell 8
    have hlw := hW.lt
    go_simp
   clear hK K
   refine wpSeq_plain rfl (fun K hK => ?_)
   rw [if_pos (by rfl)]
   refine ⟨.pointer (some ⟨w1.heap.size, 0, none⟩), fun W hW => ?_, hK _ ?_⟩
   ·have h8 := hW.cell 8
    have hlw := hW.lt
    go_simp
   clear hK K
   refine wpSeq_plain rfl (fun K hK => ?_)
   rw [if_pos (by rfl)]
   refine ⟨.pointer (some ⟨w1.heap.size, 8, none⟩), fun W hW => ?_, hK _ ?_⟩
   ·have h8 := hW.cell 8
    have hlw := hW.lt
    go_simp
   clear hK K
   refine wpSeq_plain rfl (fun K hK => ?_)
   rw [if_pos (by rfl)]
   refine ⟨.bool false, fun W hW => ?_, hK _ ?_⟩
   ·have h8 := hW.cell 8
    have hlw := hW.lt
    go_simp
   clear hK K
   refine wpSeq_plain rfl (fun K hK => ?_)
   rw [if_pos (by rfl)]
   refine ⟨.bool true, fun W hW => ?_, hK _ ?_⟩
   ·have h8 := hW.cell 8
    have hlw := hW.lt
    go_simp
   clear hK K
   refine wpSeq_plain rfl (fun K hK => ?_)
   rw [if_pos (by rfl)]
   refine ⟨.agg #[.int .i64 0, .int .i64 0], fun W hW => ?_, hK _ ?_⟩
   ·have h8 := hW.cell 8
    have hlw := hW.lt
    go_simp
   clear hK K
   refine wpSeq_lone rfl (fun K hK => ?_)
   go_wp2_with fail
   refine (slot_any_n A items.length cp _).mono ?_
   rintro _ w7 ⟨rfl, hf⟩
   have hf' : Fresh w6 w7 := Touch.ofN hf
   have HBF7 := hid (hf'.blk HBF6.out fun h => h)
   have HBN7 := hid (hf'.blk HBN6.out fun h => h)
   have HB7 := hid (hf'.blk HB6.out fun h => h)
   have HF7 := hid (HF6.out.trans hf')
   have HT7 := hid (HT6.out.fresh hf')
   go_wp2_with fail
   refine hK _ _ HB7.out ?_
   clear hK K hf hf'
   obtain ⟨p0, p1, p2, p3, y0, y1, y2, y3, hlt0⟩ := Blk.four HBN7.out
   refine wpSeq_lone rfl (fun K hK => ?_)
   go_wp2_with fail
   have hne : w.heap.size ≠ w.heap.size + 1 := by omega
   have n1 := HBN7.out.self4 (.int .i64 1) (.string ⟨#[]⟩) (.int .i64 0) (.slice A items.length cp)
   have n2 := HBF7.out.far4 (Ne.symm hne) (.int .i64 1) (.string ⟨#[]⟩) (.int .i64 0) (.slice A items.length cp)
   have n3 := HB7.out.far4 (L := w1.heap.size) (g := w.heap.size) (by have := HS1.out; omega) (.int .i64 1) (.string ⟨#[]⟩) (.int .i64 0) (.slice A items.length cp)
   have hf8 : Fresh w _ := HF7.out.put4 (g := w.heap.size) (.inr (Nat.le_refl _)) (.int .i64 1) (.string ⟨#[]⟩) (.int .i64 0) (.slice A items.length cp)
   have ht8 := HT7.out.far (touch4 w7 w.heap.size (.int .i64 1) (.string ⟨#[]⟩) (.int .i64 0) (.slice A items.length cp)) (by have := HS1.out; have := HS3.out; omega)
   simp only [put4] at n1 n2 n3 hf8 ht8
   generalize (World.setCell (World.setCell (World.setCell (World.setCell w7 ⟨w.heap.size, 0, none⟩ _) ⟨w.heap.size, 1, none⟩ _) ⟨w.heap.size, 2, none⟩ _) ⟨w.heap.size, 3, none⟩ _) = W8 at n1 n2 n3 hf8 ht8 ⊢
   refine hK _ _ n3 ?_
   clear hK K p0 p1 p2 p3 y0 y1 y2 y3 hlt0
   have HN1 := hid n1
   have HN2 := hid n2
   have HN3 := hid n3
   have HF8 := hid hf8
   have HT8 := hid ht8
   clear n1 n2 n3 hf8 ht8
   refine wpSeq_plain rfl (fun K hK => ?_)
   rw [if_pos (by rfl)]
   refine ⟨.bool true, fun W hW => ?_, hK _ ?_⟩
   ·go_simp
   clear hK K
   obtain ⟨q0, q1, z0, z1, hlt1⟩ := Blk.two HN2.out
   refine wpSeq_lone rfl (fun K hK => ?_)
   go_wp2_with fail
   rw [put2_same HN2.out]
   refine hK _ _ HN3.out ?_
   clear hK K q0 q1 z0 z1 hlt1
   refine wpSeq_end ?_
   go_wp2_with fail
   obtain ⟨g0, g1, g2, g3, _⟩ := Blk.four HN1.out
   obtain ⟨f0, f1, _⟩ := Blk.two HN2.out
   (try simp only [Exit.inBlock, Exit.then])
   refine bodyPost_ret (v := .tuple #[.agg #[.int .i64 1, .string ⟨#[]⟩, .int .i64 0, .slice A items.length cp], .bool true, failV 0 0]) (by simp [failV, results, Tryz.results55, go_sem, f0, f1, g0, g1, g2, g3]) rfl ?_
   exact HQ.out _ _ ⟨A, cp, rfl, HT8.out.base (by have := HS1.out; have := HS3.out; omega), HF8.out⟩
end Go.Proofs.YtdacpbdamliafaaGreat

/- The notation's Parse, of a text without macros. -/
namespace Go.Proofs.YtdacpbdamliafaaGreat
open Go.RowKit
open Tr (Nd)
open Lx (PTok)
open Np (R)
attribute [local go_sem] stillV stillUpon
def ParseXE (w : World) (X : R (List Nd)) (e : Ending) (w' : World) : Prop :=
 match X with
 | .ok items _ => (Tr.valid (Np.slot items) = true ∧ ∃ A cp, e = .returned (.tuple #[.agg #[.int .i64 1, .string ⟨#[]⟩, .int .i64 0, .slice A items.length cp], .int .i64 0, .int .i64 0]) ∧ TreT w.heap.size w' items (.slice A items.length cp) ∧ Fresh w w') ∨
   (Tr.valid (Np.slot items) = false ∧ e = .returned (.tuple #[.agg zeroN, .int .i64 0, .int .i64 6]) ∧ Fresh w w')
 | .err i er => er ≠ 0 ∧ e = .returned (.tuple #[.agg zeroN, .int .i64 (i : Int), .int .i64 (er : Int)]) ∧ Fresh w w'
 | .out => True
theorem parseS_ends (l : List UInt8) : parseS l ≠ .out := by
 unfold parseS
 split
 ·exact Np.parseT_ends _ _
 ·intro h; cases h
set_option maxRecDepth 100000 in
set_option maxHeartbeats 1000000 in
theorem parseX_any (s : ByteArray) (w : World) (hm : s.size ≤ 1000000000) (hc : (Lx.lexAll s.data.toList).1.length ≤ 8000) : Calls Tryz.prog 24 #[.string s, .pointer none] w (ParseXE w (parseS s.data.toList)) := by
 have HP := hid (fun w' => parse_any s w' hm hc)
 have HN := hid (parseS_ends s.data.toList)
 clear hm hc
 refine Calls.via fun Q hQ => ?_
 have HQ := hid hQ
 clear hQ
 go_enter Tryz.func24, Tryz.ntmps24
 go_wp2_with fail
 refine (HP.out _).mono ?_
 intro e w2 hres
 generalize parseS s.data.toList = X at HQ HN hres
 clear HP
 cases X with
 | out => exact absurd rfl HN.out
 | err i er =>
  obtain ⟨he0, rfl, hf⟩ := hres
  have HE0 := hid he0
  have e0 := fail_ne he0
  have hb2 := hf.blk (Blk.new w 24 #[.int .i64 0, .string ⟨#[]⟩, .int .i64 0, .slice none 0 0]) (fun h => h)
  have hf2 : Fresh w w2 := Touch.pre hf
  clear hf he0
  unfold failV zeroN
  go_wp2_with fail
  have hb3 := (hb2.alloc (.cells #[.int .i64 0, .string ⟨#[]⟩, .int .i64 0, .slice none 0 0] 24)).alloc (.cells #[.int .i64 (i : Int), .int .i64 (er : Int)] 88)
  have hf3 := (hf2.alloc (.cells #[.int .i64 0, .string ⟨#[]⟩, .int .i64 0, .slice none 0 0] 24)).alloc (.cells #[.int .i64 (i : Int), .int .i64 (er : Int)] 88)
  have h93 : Blk ((w2.alloc (.cells #[.int .i64 0, .string ⟨#[]⟩, .int .i64 0, .slice none 0 0] 24)).alloc (.cells #[.int .i64 (i : Int), .int .i64 (er : Int)] 88)) (w2.heap.size + 1) 88 #[.int .i64 (i : Int), .int .i64 (er : Int)] := Blk.new2 _ _ _ _
  generalize ((w2.alloc (.cells #[.int .i64 0, .string ⟨#[]⟩, .int .i64 0, .slice none 0 0] 24)).alloc (.cells #[.int .i64 (i : Int), .int .i64 (er : Int)] 88)) = W3 at hb3 hf3 h93 ⊢
  have HS2 := hid (show w.heap.size < w2.heap.size from hb2.lt)
  have HB3 := hid hb3
  have HF3 := hid hf3
  have H93 := hid h93
  clear hb2 hf2 hb3 hf3 h93
  refine wp_region_in (fun W => Blk W (w2.heap.size + 1) 88 #[.int .i64 (i : Int), .int .i64 (er : Int)] ∧ Blk W w.heap.size 24 #[.int .i64 0, .string ⟨#[]⟩, .int .i64 0, .slice none 0 0]) [(0, true), (1, true), (2, true), (3, true), (4, true), (5, false), (6, true), (7, true)] (by kernel_rfl) (fun _ _ d _ _ h => by cases d <;> exact h) (by kernel_rfl) ⟨H93.out.drewN 1, HB3.out.drewN 1⟩ ?_
  refine wpSeq_plain rfl (fun K hK => ?_)
  rw [if_pos (by rfl)]
  refine ⟨.agg #[.int .i64 0, .string ⟨#[]⟩, .int .i64 0, .slice none 0 0], fun W hW => ?_, hK _ ?_⟩
  ·go_simp
  clear hK K
  refine wpSeq_plain rfl (fun K hK => ?_)
  rw [if_pos (by rfl)]
  refine ⟨.pointer (some ⟨w2.heap.size + 1, 0, none⟩), fun W hW => ?_, hK _ ?_⟩
  ·go_simp
  clear hK K
  refine wpSeq_plain rfl (fun K hK => ?_)
  rw [if_pos (by rfl)]
  refine ⟨.int .i64 (i : Int), fun W hW => ?_, hK _ ?_⟩
  ·obtain ⟨h1, _⟩ := hW
   obtain ⟨p0, p1, _⟩ := Blk.two h1
   go_simp
  clear hK K
  refine wpSeq_plain rfl (fun K hK => ?_)
  rw [if_pos (by rfl)]
  refine ⟨.pointer (some ⟨w2.heap.size + 1, 1, none⟩), fun W hW => ?_, hK _ ?_⟩
  ·go_simp
  clear hK K
  refine wpSeq_plain rfl (fun K hK => ?_)
  rw [if_pos (by rfl)]
  refine ⟨.int .i64 (er : Int), fun W hW => ?_, hK _ ?_⟩
  ·obtain ⟨h1, _⟩ := hW
   obtain ⟨p0, p1, _⟩ := Blk.two h1
   go_simp
  clear hK K
  obtain ⟨p0, p1, p2, p3, y0, y1, y2, y3, hlt0⟩ := Blk.four (HB3.out.drewN 1)
  refine wpSeq_lone rfl (fun K hK => ?_)
  go_wp2_with fail
  have n1 := (HB3.out.drewN 1).self4 (.int .i64 0) (.string ⟨#[]⟩) (.int .i64 0) (.slice none 0 0)
  have n2 := (H93.out.drewN 1).far4 (L := w2.heap.size + 1) (g := w.heap.size) (by have := HS2.out; omega) (.int .i64 0) (.string ⟨#[]⟩) (.int .i64 0) (.slice none 0 0)
  have hm7 : Fresh w _ := (HF3.out.drewN 1).put4 (g := w.heap.size) (.inr (Nat.le_refl _)) (.int .i64 0) (.string ⟨#[]⟩) (.int .i64 0) (.slice none 0 0)
  simp only [put4] at n1 n2 hm7
  generalize (World.setCell (World.setCell (World.setCell (World.setCell (W3.drewN 1) ⟨w.heap.size, 0, none⟩ _) ⟨w.heap.size, 1, none⟩ _) ⟨w.heap.size, 2, none⟩ _) ⟨w.heap.size, 3, none⟩ _) = W7 at n1 n2 hm7 ⊢
  refine hK _ _ ⟨n2, n1⟩ ?_
  clear hK K p0 p1 p2 p3 y0 y1 y2 y3 hlt0
  refine wpSeq_plain rfl (fun K hK => ?_)
  rw [if_pos (by rfl)]
  refine ⟨.int .i64 (i : Int), fun W hW => ?_, hK _ ?_⟩
  ·go_simp
  clear hK K
  refine wpSeq_plain rfl (fun K hK => ?_)
  rw [if_pos (by rfl)]
  refine ⟨.int .i64 (er : Int), fun W hW => ?_, hK _ ?_⟩
  ·go_simp
  clear hK K
  refine wpSeq_end ?_
  go_wp2_with fail
  obtain ⟨g0, g1, g2, g3, _⟩ := Blk.four n1
  (try simp only [Exit.inBlock, Exit.then])
  refine bodyPost_ret (v := .tuple #[.agg zeroN, .int .i64 (i : Int), .int .i64 (er : Int)]) (by simp [results, Tryz.results24, go_sem, g0, g1, g2, g3]) rfl ?_
  exact HQ.out _ _ ⟨HE0.out, rfl, hm7⟩
 | ok items rest =>
  obtain ⟨A, cp, rfl, htr, hf⟩ := hres
  have hb2 := hf.blk (Blk.new w 24 #[.int .i64 0, .string ⟨#[]⟩, .int .i64 0, .slice none 0 0]) (fun h => h)
  have hf2 : Fresh w w2 := Touch.pre hf
  have htr2 : TreT (w.heap.size + 1) w2 items (.slice A items.length cp) := htr.base (by simp)
  have HS2 := hid (show w.heap.size < w2.heap.size from hb2.lt)
  have hb3 := (hb2.alloc (.cells #[.int .i64 1, .string ⟨#[]⟩, .int .i64 0, .slice A items.length cp] 24)).alloc (.cells #[.int .i64 0, .int .i64 0] 88)
  have hf3 := (hf2.alloc (.cells #[.int .i64 1, .string ⟨#[]⟩, .int .i64 0, .slice A items.length cp] 24)).alloc (.cells #[.int .i64 0, .int .i64 0] 88)
  have h73 : Blk ((w2.alloc (.cells #[.int .i64 1, .string ⟨#[]⟩, .int .i64 0, .slice A items.length cp] 24)).alloc (.cells #[.int .i64 0, .int .i64 0] 88)) w2.heap.size 24 #[.int .i64 1, .string ⟨#[]⟩, .int .i64 0, .slice A items.length cp] := (Blk.new _ _ _).alloc _
  have ht3 := htr2.fresh (((Touch.refl _ w2).alloc (.cells #[.int .i64 1, .string ⟨#[]⟩, .int .i64 0, .slice A items.length cp] 24)).alloc (.cells #[.int .i64 0, .int .i64 0] 88))
  have HB3 := hid hb3
  have HF3 := hid hf3
  have H73 := hid h73
  have HT3 := hid ht3
  clear hf htr hb2 hf2 htr2 hb3 hf3 h73 ht3
  unfold failV
  go_wp2_with fail
  generalize ((w2.alloc (.cells #[.int .i64 1, .string ⟨#[]⟩, .int .i64 0, .slice A items.length cp] 24)).alloc (.cells #[.int .i64 0, .int .i64 0] 88)) = W3 at HB3 HF3 H73 HT3 ⊢
  refine (valid_all (Np.slot items) (.slice A items.length cp) W3 HT3.out.rep (Nat.zero_le _)).mono ?_
  rintro _ w4 ⟨rfl, hf⟩
  have HB4 := hid (hf.blk HB3.out fun h => h)
  have HF4 := hid (HF3.out.trans hf)
  have H74 := hid (hf.blk H73.out fun h => h)
  have HT4 := hid (HT3.out.fresh hf)
  clear hf
  obtain ⟨p0, p1, p2, p3, y0, y1, y2, y3, hlt0⟩ := Blk.four HB4.out
  cases hv : Tr.valid (Np.slot items) with
  | false =>
   go_wp2_with fail
   have n1 := HB4.out.self4 (.int .i64 0) (.string ⟨#[]⟩) (.int .i64 0) (.slice none 0 0)
   have hm7 : Fresh w _ := HF4.out.put4 (g := w.heap.size) (.inr (Nat.le_refl _)) (.int .i64 0) (.string ⟨#[]⟩) (.int .i64 0) (.slice none 0 0)
   obtain ⟨g0, g1, g2, g3, _⟩ := Blk.four n1
   simp only [put4] at g0 g1 g2 g3 hm7
   (try simp only [Exit.inBlock, Exit.then])
   refine bodyPost_ret (v := .tuple #[.agg zeroN, .int .i64 0, .int .i64 6]) (by simp [results, Tryz.results24, go_sem, g0, g1, g2, g3]) rfl ?_
   exact HQ.out _ _ (.inr ⟨hv, rfl, hm7⟩)
  | true =>
   obtain ⟨s0, s1, s2, s3, _, _, _, _, hlt7⟩ := Blk.four H74.out
   go_wp2_with fail
   have n1 := HB4.out.self4 (.int .i64 1) (.string ⟨#[]⟩) (.int .i64 0) (.slice A items.length cp)
   have hm7 : Fresh w _ := HF4.out.put4 (g := w.heap.size) (.inr (Nat.le_refl _)) (.int .i64 1) (.string ⟨#[]⟩) (.int .i64 0) (.slice A items.length cp)
   have htt := HT4.out.far (touch4 w4 w.heap.size (.int .i64 1) (.string ⟨#[]⟩) (.int .i64 0) (.slice A items.length cp)) (by omega)
   obtain ⟨g0, g1, g2, g3, _⟩ := Blk.four n1
   simp only [put4] at g0 g1 g2 g3 hm7 htt
   (try simp only [Exit.inBlock, Exit.then])
   refine bodyPost_ret (v := .tuple #[.agg #[.int .i64 1, .string ⟨#[]⟩, .int .i64 0, .slice A items.length cp], .int .i64 0, .int .i64 0]) (by simp [results, Tryz.results24, go_sem, g0, g1, g2, g3]) rfl ?_
   exact HQ.out _ _ (.inl ⟨hv, A, cp, rfl, htt.base (by omega), hm7⟩)
end Go.Proofs.YtdacpbdamliafaaGreat

/- Plain laws on the parser: more fuel changes nothing; the printed text of a tree is parsed to this tree. No program in sight. -/
namespace Go.Proofs.YtdacpbdamliafaaGreat.Np
open Lx (PTok Tok)
open Tr (Nd)
theorem R.bind_mono {α β : Type} {x x' : R α} {k k' : α → List PTok → R β} (hx : x ≠ .out → x' = x) (hk : ∀ a r, k a r ≠ .out → k' a r = k a r) (h : x.bind k ≠ .out) : x'.bind k' = x.bind k := by
 have hx' : x ≠ .out := fun e => h (by rw [e]; rfl)
 rw [hx hx']
 cases x with
 | ok a r => exact hk a r h
 | err i e => rfl
 | out => exact absurd rfl hx'
theorem R.map_mono {α β : Type} {x x' : R α} {k : α → β} (hx : x ≠ .out → x' = x) (h : x.map k ≠ .out) : x'.map k = x.map k := R.bind_mono hx (fun _ _ _ => rfl) h
theorem ite_mono {α : Type} {c : Prop} [Decidable c] {a a' b b' : R α} (ha : a ≠ .out → a' = a) (hb : b ≠ .out → b' = b) (h : (if c then a else b) ≠ .out) : (if c then a' else b') = if c then a else b := by
 by_cases hc : c
 ·rw [if_pos hc] at h ⊢; rw [if_pos hc]; exact ha h
 ·rw [if_neg hc] at h ⊢; rw [if_neg hc]; exact hb h
structure Mono (en f : Nat) : Prop where
 row : ∀ op l, pRow en f op l ≠ .out → pRow en (f + 1) op l = pRow en f op l
 within : ∀ b op l, pIn en f b op l ≠ .out → pIn en (f + 1) b op l = pIn en f b op l
 arg : ∀ op l, pArg en f op l ≠ .out → pArg en (f + 1) op l = pArg en f op l
 args : ∀ n op l, pArgs en f n op l ≠ .out → pArgs en (f + 1) n op l = pArgs en f n op l
 script : ∀ b op l, pScript en f b op l ≠ .out → pScript en (f + 1) b op l = pScript en f b op l
 item : ∀ op l, pItem en f op l ≠ .out → pItem en (f + 1) op l = pItem en f op l
 prim : ∀ op l, pPrim en f op l ≠ .out → pPrim en (f + 1) op l = pPrim en f op l
 name : ∀ op t r, pName en f op t r ≠ .out → pName en (f + 1) op t r = pName en f op t r
 cells : ∀ op ks b c l, pCells en f op ks b c l ≠ .out → pCells en (f + 1) op ks b c l = pCells en f op ks b c l
theorem mono (en : Nat) : ∀ f, Mono en f
 | 0 => by
  constructor
  ·intro op l h; exact absurd (by rw [pRow]) h
  ·intro b op l h; exact absurd (by rw [pIn]) h
  ·intro op l h; exact absurd (by rw [pArg]) h
  ·intro n op l h; exact absurd (by rw [pArgs]) h
  ·intro b op l h; exact absurd (by rw [pScript]) h
  ·intro op l h; exact absurd (by rw [pItem]) h
  ·intro op l h; exact absurd (by rw [pPrim]) h
  ·intro op t r h; exact absurd (by rw [pName]) h
  ·intro op ks b c l h; exact absurd (by rw [pCells]) h
 | f + 1 => by
  have ih := mono en f
  constructor
  ·intro op l h
   rw [pRow] at h
   rw [pRow, pRow]
   exact ite_mono (fun _ => rfl) (fun h => ite_mono (fun _ => rfl) (fun h => R.bind_mono (ih.item op l) (fun a r h => R.map_mono (ih.row op r) h) h) h) h
  ·intro b op l h
   rw [pIn] at h
   rw [pIn, pIn]
   exact R.bind_mono (ih.row _ _) (fun _ _ _ => rfl) h
  ·intro op l h
   cases l with
   | nil => rw [pArg, pArg]
   | cons t r =>
    rw [pArg] at h
    rw [pArg, pArg]
    cases hl : leafOf t with
    | some x => rfl
    | none =>
     rw [hl] at h
     exact ite_mono (fun h => R.map_mono (ih.within _ _ _) h) (fun h => ite_mono (fun _ => rfl) (fun _ => rfl) h) h
  ·intro n op l h
   cases n with
   | zero => rw [pArgs, pArgs]
   | succ n =>
    rw [pArgs] at h
    rw [pArgs, pArgs]
    exact R.bind_mono (ih.arg op l) (fun a r h => R.map_mono (ih.args n op r) h) h
  ·intro b op l h
   rw [pScript] at h
   rw [pScript, pScript]
   exact ite_mono (fun h => R.map_mono (ih.arg op _) h) (fun _ => rfl) h
  ·intro op l h
   rw [pItem] at h
   rw [pItem, pItem]
   exact R.bind_mono (ih.prim op l) (fun a r h => R.bind_mono (ih.script 95 op r) (fun sub r h => R.bind_mono (ih.script 94 op r) (fun sup r h => ite_mono (fun h => R.bind_mono (ih.script 95 op r) (fun _ _ _ => rfl) h) (fun _ => rfl) h) h) h) h
  ·intro op l h
   cases l with
   | nil => rw [pPrim, pPrim]
   | cons t r =>
    rw [pPrim] at h
    rw [pPrim, pPrim]
    cases hl : leafOf t with
    | some x => rfl
    | none =>
     rw [hl] at h
     exact ite_mono (ih.name op t r) (fun h => ite_mono (fun h => R.map_mono (ih.args 1 op r) h) (fun h => ite_mono (fun h => R.map_mono (ih.within _ _ _) h) (fun h => ite_mono (fun h => R.map_mono (ih.within _ _ _) h) (fun h => ite_mono (ih.within _ _ _) (fun _ => rfl) h) h) h) h) h
  ·intro op t r h
   rw [pName] at h
   rw [pName, pName]
   exact ite_mono (fun h => R.map_mono (ih.args 2 op r) h) (fun h => ite_mono (fun h => ite_mono (fun h => R.bind_mono (ih.within _ _ _) (fun d r h => R.map_mono (ih.args 1 op r) h) h) (fun h => R.map_mono (ih.args 1 op r) h) h)
    (fun h => ite_mono (fun h => ite_mono (fun h => R.map_mono (ih.cells _ _ _ _ _) h) (fun _ => rfl) h) (fun h => ite_mono (fun h => R.map_mono (ih.args 1 op r) h) (fun _ => rfl) h) h) h) h
  ·intro op ks b c l h
   rw [pCells] at h
   rw [pCells, pCells]
   exact R.bind_mono (ih.row op l) (fun items r h => ite_mono (ih.cells _ _ _ _ _) (fun h => ite_mono (fun _ => rfl) (fun h => ite_mono (fun _ => rfl) (fun h => ite_mono (fun _ => rfl) (ih.cells _ _ _ _ _) h) h) h) h) h
theorem row_mono (en : Nat) (op : List Nat) (l : List PTok) (f : Nat) (h : pRow en f op l ≠ .out) : ∀ n, pRow en (f + n) op l = pRow en f op l
 | 0 => rfl
 | n + 1 => by
  rw [← Nat.add_assoc, (mono en (f + n)).row op l (by rw [row_mono en op l f h n]; exact h), row_mono en op l f h n]
theorem parseT_of (en : Nat) (l : List PTok) (ks : List Nd) (h : Tr.Ev fun F => pRow en F [] l = .ok ks []) : parseT en l = .ok ks [] := by
 obtain ⟨F, h⟩ := h
 have hg := (good en (8 * l.length + 8)).row [] l (by omega)
 have hne : pRow en (8 * l.length + 8) [] l ≠ .out := fun e => by rw [e] at hg; exact hg
 have h1 := row_mono en [] l _ hne F
 rw [h _ (by omega)] at h1
 unfold parseT
 rw [← h1]
 rfl
theorem bare_al (W : List (List UInt8 × Tok)) (a : Nat) : Al (Lx.placed a W) (bare (W.map (·.2))) := by
 unfold Al bare
 rw [Lx.placed_toks, List.map_map]
 simp [Lx.tok, Function.comp_def]
theorem parse_bare (a : Nd) (ha : Tr.IsRow a) : parseT 0 (bare (Tr.rowT a.kids)) = .ok a.kids [] := by
 obtain ⟨F, h⟩ := (Tr.PU.all (Tr.count a)).row a.kids (fun x hx => ⟨ha.views x hx, by have := Tr.count_mem hx; have := Tr.count_kids a; omega⟩) [] ⟨rfl, rfl, rfl⟩
 have h1 := h F (Nat.le_refl _)
 rw [List.append_nil] at h1
 have h2 := (reads F F (Nat.le_refl _)).row _ _ _ h1 [] (.inl ⟨rfl, rfl⟩)
 exact parseT_of 0 _ _ h2
theorem flat_cost : ∀ (l : List Tok) (o : Option Tok), (Lx.flat (Tr.sepd o l)).length ≤ cost l
 | [], _ => Nat.zero_le _
 | t :: ts, o => by
  have := flat_cost ts (some t)
  cases o with
  | none =>
   simp only [Tr.sepd, Lx.flat, List.length_append, cost, List.length_nil]
   omega
  | some a =>
   simp only [Tr.sepd, Lx.flat, List.length_append, cost]
   split
   ·rw [List.length_singleton]; omega
   ·rw [List.length_nil]; omega
theorem sepd_length (l : List Tok) (o : Option Tok) : (Tr.sepd o l).length = l.length := by
 have := congrArg List.length (Tr.sepd_toks l o)
 simpa using this
theorem placed_length (W : List (List UInt8 × Tok)) (a : Nat) : (Lx.placed a W).length = W.length := by
 have := congrArg List.length (Lx.placed_toks W a)
 simpa using this
end Go.Proofs.YtdacpbdamliafaaGreat.Np
namespace Go.Proofs.YtdacpbdamliafaaGreat
open Tr (Nd)
open Np (R)
theorem parse_printed (a : Nd) (h : Tr.IsRow a) : parseS (Tr.wtext (Tr.rowT a.kids)) = .ok a.kids [] := by
 unfold parseS
 rw [Tr.wtext_lex _ (Tr.row_ok a h)]
 simp only
 have hs := Np.parseT_alike (Tr.wtext (Tr.rowT a.kids)).length 0 _ _ (Np.bare_al (Tr.sepd none (Tr.rowT a.kids)) 0)
 rw [Tr.sepd_toks, Np.parse_bare a h] at hs
 cases hp : Np.parseT (Tr.wtext (Tr.rowT a.kids)).length (Lx.placed 0 (Tr.sepd none (Tr.rowT a.kids))) with
 | out => rw [hp] at hs; exact hs.elim
 | err i e => rw [hp] at hs; exact hs.elim
 | ok b r =>
  rw [hp] at hs
  obtain ⟨h1, h2⟩ := hs
  have : r = [] := by
   cases r with
   | nil => rfl
   | cons x l => cases h2
  rw [h1, this]
theorem printed_len (a : Nd) (h : Tr.IsRow a) : (Tr.wtext (Tr.rowT a.kids)).length ≤ 1221 * Tr.count a := by
 have h1 := Np.flat_cost (Tr.rowT a.kids) none
 have h2 := ok_cost _ (Tr.row_ok a h)
 have h3 := row_len a h
 have : (Tr.wtext (Tr.rowT a.kids)).length ≤ cost (Tr.rowT a.kids) := h1
 omega
theorem printed_toks (a : Nd) (h : Tr.IsRow a) : (Lx.lexAll (Tr.wtext (Tr.rowT a.kids))).1.length ≤ 3 * Tr.count a := by
 rw [Tr.wtext_lex _ (Tr.row_ok a h)]
 show (Lx.placed 0 _).length ≤ _
 rw [Np.placed_length, Np.sepd_length]
 exact row_len a h
theorem slot_row (a : Nd) (h : Tr.IsRow a) : Np.slot a.kids = a := (Tr.row_eq a h.1 h.2).symm
end Go.Proofs.YtdacpbdamliafaaGreat

/- The statement's own example. -/
namespace Go.Proofs.YtdacpbdamliafaaGreat
open Go.RowKit
open Tr (Nd)
set_option maxRecDepth 100000 in
theorem awk1_any (s : ByteArray) (w : World) :
  Calls Tryz.prog 62 #[.string s] w fun e w' => e = .returned (.agg #[.int .i64 1, .string ⟨#[]⟩, .int .i64 0, .slice (some ⟨w.heap.size + 1, 0, none⟩) 1 1]) ∧ Fresh w w' ∧ Blk w' (w.heap.size + 1) 24 #[.int .i64 3, .string s, .int .i64 0, .slice none 0 0] := by
 go_enter Tryz.func62, Tryz.ntmps62
 go_wp2_with fail
 exact bodyPost_ret (v := .agg #[.int .i64 1, .string ⟨#[]⟩, .int .i64 0, .slice (some ⟨w.heap.size + 1, 0, none⟩) 1 1]) (by simp [results, Tryz.results62, go_sem]) rfl ⟨rfl, ((Touch.refl _ _).alloc _).alloc _, Blk.new2 _ _ _ _⟩
def numRow (s : List UInt8) : Nd := .mk 1 [] 0 [.mk 3 s 0 []]
def fracTree : Nd := .mk 1 [] 0 [.mk 5 [] 0 [numRow [49], numRow [50]]]
theorem RepL.leaf1 {W : World} {g : Nat} {k : Int} {s : List UInt8} (h : Blk W g 24 #[.int .i64 k, .string ⟨s.toArray⟩, .int .i64 0, .slice none 0 0]) (hs : s.length ≤ maxLen) : RepL W [.mk k s 0 []] (.slice (some ⟨g, 0, none⟩) 1 1) := by
 refine RepL.row g 0 1 [.mk k s 0 []] (fun _ => .slice none 0 0) h.lt (show 1 ≤ maxLen by decide) ?_ ?_ ?_ ?_ ?_ ?_
 all_goals (intro i hi; obtain rfl : i = 0 := by simpa using hi)
 ·exact hs
 ·exact h.cell 0
 ·exact h.cell 1
 ·exact h.cell 2
 ·exact h.cell 3
 ·exact .nil _ _
theorem RepL.kid1 {W : World} {g : Nat} {k c : Int} {s : List UInt8} {ks : List Nd} {v : Value} (h : Blk W g 24 #[.int .i64 k, .string ⟨s.toArray⟩, .int .i64 c, v]) (hs : s.length ≤ maxLen) (hk : RepL W ks v) : RepL W [.mk k s c ks] (.slice (some ⟨g, 0, none⟩) 1 1) := by
 refine RepL.row g 0 1 [.mk k s c ks] (fun _ => v) h.lt (show 1 ≤ maxLen by decide) ?_ ?_ ?_ ?_ ?_ ?_
 all_goals (intro i hi; obtain rfl : i = 0 := by simpa using hi)
 ·exact hs
 ·exact h.cell 0
 ·exact h.cell 1
 ·exact h.cell 2
 ·exact h.cell 3
 ·exact hk
theorem RepL.kid2 {W : World} {g : Nat} {k c k' c' : Int} {s s' : List UInt8} {ks ks' : List Nd} {v v' : Value} (h : Blk W g 24 #[.int .i64 k, .string ⟨s.toArray⟩, .int .i64 c, v, .int .i64 k', .string ⟨s'.toArray⟩, .int .i64 c', v']) (hs : s.length ≤ maxLen) (hs' : s'.length ≤ maxLen)
  (hk : RepL W ks v) (hk' : RepL W ks' v') : RepL W [.mk k s c ks, .mk k' s' c' ks'] (.slice (some ⟨g, 0, none⟩) 2 2) := by
 refine RepL.row g 0 2 [.mk k s c ks, .mk k' s' c' ks'] (fun i => if i = 0 then v else v') h.lt (show 2 ≤ maxLen by decide) ?_ ?_ ?_ ?_ ?_ ?_
 all_goals (intro i hi; have hi2 : i < 2 := (by simpa using hi); obtain rfl | rfl : i = 0 ∨ i = 1 := by omega)
 ·exact hs
 ·exact hs'
 ·exact h.cell 0
 ·exact h.cell 4
 ·exact h.cell 1
 ·exact h.cell 5
 ·exact h.cell 2
 ·exact h.cell 6
 ·exact h.cell 3
 ·exact h.cell 7
 ·exact hk
 ·exact hk'
set_option maxRecDepth 100000 in
set_option maxHeartbeats 1000000 in
theorem awake21_any (w : World) : Calls Tryz.prog 31 #[] w fun e w' => e = .returned (.bool true) ∧ Fresh w w' := by
 have hS : printS fracTree = [92, 102, 114, 97, 99, 49, 32, 50] := by decide +kernel
 have hE : printE fracTree = 0 := by decide +kernel
 have HS := hid hS
 have HE := hid hE
 clear hS hE
 go_enter Tryz.func31, Tryz.ntmps31
 go_wp2_with fail
 refine (awk1_any _ _).mono ?_
 rintro _ w1 ⟨rfl, hf1, hb1⟩
 have HF1 := hid hf1
 have HB1 := hid hb1
 clear hf1 hb1
 go_wp2_with fail
 refine (awk1_any _ _).mono ?_
 rintro _ w2 ⟨rfl, hf2, hb2⟩
 have HF2 := hid (Touch.trans HF1.out hf2)
 have HB2 := hid hb2
 have HB1' := hid (hf2.blk HB1.out (fun h => h))
 clear hf2 hb2 HB1
 go_wp2_with fail
 have hp : RepL _ fracTree.kids (.slice (some ⟨w2.heap.size + 1, 0, none⟩) 1 1) := RepL.kid1 (k := 5) (s := []) (c := 0) (ks := [numRow [49], numRow [50]]) (Blk.new2 w2 _ 24 _) (by decide)
  (RepL.kid2 (k := 1) (s := []) (c := 0) (k' := 1) (s' := []) (c' := 0) (ks := [.mk 3 [49] 0 []]) (ks' := [.mk 3 [50] 0 []]) ((Blk.new w2 24 _).alloc _) (by decide) (by decide)
   (RepL.leaf1 ((HB1'.out.alloc _).alloc _) (by decide)) (RepL.leaf1 ((HB2.out.alloc _).alloc _) (by decide)))
 refine (print_any fracTree _ _ hp (by decide) (by decide)).mono ?_
 rintro _ w3 ⟨rfl, hf3⟩
 have HF3 := hid (HF2.out.trans (Touch.pre (Touch.pre hf3)))
 rw [HS.out, HE.out]
 clear hp hf3
 go_wp2_with fail
 go_ret
 exact ⟨ret_bool' _ _ (by decide), HF3.out⟩
end Go.Proofs.YtdacpbdamliafaaGreat
