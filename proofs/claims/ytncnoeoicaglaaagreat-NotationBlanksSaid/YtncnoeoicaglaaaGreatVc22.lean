/- Part 22 of 48 of a proof; its texts, joined: LxG, LxQ. No condition. -/
import Derived.Test.YtncnoeoicaglaaaGreatVc21
import Derived.Test.YtncnoeoicaglaaaGreatShelf
import Derived.Lib.IndexLaws
import Derived.Test.YtncnoeoicaglaaaGreatVc9

/- The walk of the lexer's method name. -/
namespace Go.Proofs.YtncnoeoicaglaaaGreat
open Go.RowKit
theorem indexByte_mem (l : List UInt8) (c : UInt8) : decide (Lib.indexByte l c < 0) = !(l.contains c) := by
 have h1 := Lib.indexByte_ge l c
 by_cases hc : Lib.indexByte l c < 0
 ·have h2 := Lib.indexByte_none (l := l) (c := c) (by omega)
  have : l.contains c = false := by
   rw [← Bool.not_eq_true, List.contains_iff_mem, List.mem_iff_getElem?]
   rintro ⟨i, hi⟩
   exact h2 i hi
  rw [this]; simp [hc]
 ·obtain ⟨o, ho⟩ := Int.eq_ofNat_of_zero_le (show 0 ≤ Lib.indexByte l c by omega)
  have h2 := (Lib.indexByte_some ho).1
  have : l.contains c = true := by
   rw [List.contains_iff_mem, List.mem_iff_getElem?]
   exact ⟨o, h2⟩
  rw [this]; simp [hc]
theorem delim_any (s : ByteArray) (c : UInt8) (x : Int) (hs : s = ⟨#[40, 41, 91, 93, 123, 125, 60, 62, 47, 124, 46]⟩) (w : World) (hx : x = c.toNat := by rfl) :
  Calls Tryz.prog 117 #[.string s, .int .u8 x] w fun e w' => (∃ i : Int, e = .returned (.int .i64 i) ∧ decide (i < 0) = !(Lx.isDelim c)) ∧ w' = w := by
 subst hs hx
 refine (Tryz.strings_IndexByte _ _ w).mono ?_
 rintro e w' ⟨rfl, rfl⟩
 refine ⟨⟨_, rfl, ?_⟩, rfl⟩
 rw [indexByte_mem]
 simp [Lx.isDelim]
set_option maxRecDepth 100000 in
set_option maxHeartbeats 400000 in
theorem name_plain (L : Nat) (s : ByteArray) (a m : Nat) (p e : Int) (w : World) (h : LexAt w L s a p e) (hm : s.size ≤ 1000000000) (hmd : m = a + 1 + Lx.runI 3 s.data.toList (a + 1)) (ha : a + 1 ≤ s.size) (r : Lx.Res) (F : ((s.extract (a + 1) m).toList == [102, 101, 110, 99, 101]) = false) (hr : Lx.lim 16 ⟨4, (s.extract (a + 1) m).data.toList⟩ (m - a) = r) :
  Calls Tryz.prog 134 #[.pointer (some ⟨L, 0, none⟩)] w (LexRes w L s a p e r) := by
 obtain ⟨g1, g2, g3, g4, f1, f2, f3, hL⟩ := lex_reads h
 have HM : s.size ≤ maxLen := by unfold maxLen; omega
 have H := hid h
 clear h
 have hle := Lx.runI_le 3 s.data.toList (a + 1)
 have hll : s.data.toList.length = s.size := by simp
 rw [hll] at hle
 have HD := hid hmd
 have am : a + 1 ≤ m := by omega
 have ms : m ≤ s.size := by omega
 clear hmd hle hll
 have e1 : ((a : Int) + 1) ≤ (m : Int) := by omega
 have e2 : (0 : Int) ≤ (a : Int) + 1 := by omega
 have e3 : (m : Int) ≤ (s.size : Int) := by omega
 go_enter Tryz.func134, Tryz.ntmps134
 go_wp2_with fail
 refine (run_any L s a p e _ 3 _ (H.out.alloc _) (by omega) (by omega) HM).mono ?_
 rintro e' w' ⟨rfl, n1, rfl⟩
 rw [show ((a : Int) + 1).toNat = a + 1 from by omega, ← HD.out]
 go_wp2_with fail
 go_quiet (fail)
 go_wp2_with fail
 refine (token_as L s a p e _ 4 _ _ (m - a) 16 _ _ r hr ((H.out.alloc _).drewN _) rfl (by omega) rfl).mono ?_
 rintro e' w' ⟨k, tx, f, t, b, a', p', e2, rfl, hx, ht, hmn⟩
 obtain ⟨q0, q1, q2, q3, z0, z1, z2, z3, hg⟩ := Blk.four (ht.blk ((Blk.new w _ _).drewN _) (by omega))
 have HX := hid hx
 have HT2 := hid ht
 have HMN := hid hmn
 clear hx ht hmn
 go_wp2_with fail
 (try simp only [Exit.inBlock, Exit.then])
 refine bodyPost_ret (v := .tuple #[.agg #[.int .i64 k, .string tx, .int .i64 f, .int .i64 t], .bool b]) (by simp [results, Tryz.results134, go_sem, q0, q1, q2, q3]) rfl ?_
 exact LexRes.close hL HX.out HT2.out.preN HMN.out
set_option maxRecDepth 100000 in
set_option maxHeartbeats 400000 in
theorem name_short (L : Nat) (s : ByteArray) (a m : Nat) (p e : Int) (w : World) (h : LexAt w L s a p e) (hm : s.size ≤ 1000000000) (hmd : m = a + 1 + Lx.runI 3 s.data.toList (a + 1)) (ha : a + 1 ≤ s.size) (r : Lx.Res) (F : ((s.extract (a + 1) m).toList == [102, 101, 110, 99, 101]) = true) (hs : s.size < m + 2) (hr : Lx.Res.err 0 3 = r) :
  Calls Tryz.prog 134 #[.pointer (some ⟨L, 0, none⟩)] w (LexRes w L s a p e r) := by
 obtain ⟨g1, g2, g3, g4, f1, f2, f3, hL⟩ := lex_reads h
 have HM : s.size ≤ maxLen := by unfold maxLen; omega
 have H := hid h
 clear h
 have hle := Lx.runI_le 3 s.data.toList (a + 1)
 have hll : s.data.toList.length = s.size := by simp
 rw [hll] at hle
 have HD := hid hmd
 have am : a + 1 ≤ m := by omega
 have ms : m ≤ s.size := by omega
 clear hmd hle hll
 have e1 : ((a : Int) + 1) ≤ (m : Int) := by omega
 have e2 : (0 : Int) ≤ (a : Int) + 1 := by omega
 have e3 : (m : Int) ≤ (s.size : Int) := by omega
 have S1 : decide ((s.size : Int) < (m : Int) + 2) = true := by simp; omega
 go_enter Tryz.func134, Tryz.ntmps134
 go_wp2_with fail
 refine (run_any L s a p e _ 3 _ (H.out.alloc _) (by omega) (by omega) HM).mono ?_
 rintro e' w' ⟨rfl, n1, rfl⟩
 rw [show ((a : Int) + 1).toNat = a + 1 from by omega, ← HD.out]
 go_wp2_with fail
 go_quiet (fail)
 go_wp2_with fail
 refine (fail_as L s a p e _ _ 0 3 _ r hr ((H.out.alloc _).drewN _) rfl rfl).mono ?_
 rintro e' w' ⟨k, tx, f, t, b, a', p', e2, rfl, hx, ht, hmn⟩
 obtain ⟨q0, q1, q2, q3, z0, z1, z2, z3, hg⟩ := Blk.four (ht.blk ((Blk.new w _ _).drewN _) (by omega))
 have HX := hid hx
 have HT2 := hid ht
 have HMN := hid hmn
 clear hx ht hmn
 go_wp2_with fail
 (try simp only [Exit.inBlock, Exit.then])
 refine bodyPost_ret (v := .tuple #[.agg #[.int .i64 k, .string tx, .int .i64 f, .int .i64 t], .bool b]) (by simp [results, Tryz.results134, go_sem, q0, q1, q2, q3]) rfl ?_
 exact LexRes.close hL HX.out HT2.out.preN HMN.out
set_option maxRecDepth 100000 in
set_option maxHeartbeats 400000 in
theorem name_bad1 (L : Nat) (s : ByteArray) (a m : Nat) (p e : Int) (w : World) (h : LexAt w L s a p e) (hm : s.size ≤ 1000000000) (hmd : m = a + 1 + Lx.runI 3 s.data.toList (a + 1)) (ha : a + 1 ≤ s.size) (r : Lx.Res) (F : ((s.extract (a + 1) m).toList == [102, 101, 110, 99, 101]) = true) (hs : m + 1 < s.size) (T1 : Lx.isDelim (s[m]'(Nat.lt_of_succ_lt hs)) = false) (hr : Lx.Res.err 0 3 = r) :
  Calls Tryz.prog 134 #[.pointer (some ⟨L, 0, none⟩)] w (LexRes w L s a p e r) := by
 obtain ⟨g1, g2, g3, g4, f1, f2, f3, hL⟩ := lex_reads h
 have HM : s.size ≤ maxLen := by unfold maxLen; omega
 have H := hid h
 clear h
 have hle := Lx.runI_le 3 s.data.toList (a + 1)
 have hll : s.data.toList.length = s.size := by simp
 rw [hll] at hle
 have HD := hid hmd
 have am : a + 1 ≤ m := by omega
 have ms : m ≤ s.size := by omega
 clear hmd hle hll
 have e1 : ((a : Int) + 1) ≤ (m : Int) := by omega
 have e2 : (0 : Int) ≤ (a : Int) + 1 := by omega
 have e3 : (m : Int) ≤ (s.size : Int) := by omega
 have S1 : decide ((s.size : Int) < (m : Int) + 2) = false := by simp; omega
 have S2 : (m : Int) < (s.size : Int) := by omega
 have S3 : (0 : Int) ≤ (m : Int) := by omega
 go_enter Tryz.func134, Tryz.ntmps134
 go_wp2_with fail
 refine (run_any L s a p e _ 3 _ (H.out.alloc _) (by omega) (by omega) HM).mono ?_
 rintro e' w' ⟨rfl, n1, rfl⟩
 rw [show ((a : Int) + 1).toNat = a + 1 from by omega, ← HD.out]
 go_wp2_with fail
 go_quiet (fail)
 go_wp2_with fail
 refine (delim_any _ _ _ rfl _).mono ?_
 rintro e' w' ⟨⟨i1, rfl, hi1⟩, rfl⟩
 have HI1 : decide (i1 < 0) = true := by rw [hi1, T1]; rfl
 clear hi1 T1
 go_wp2_with fail
 refine (fail_as L s a p e _ _ 0 3 _ r hr ((H.out.alloc _).drewN _) rfl rfl).mono ?_
 rintro e' w' ⟨k, tx, f, t, b, a', p', e2, rfl, hx, ht, hmn⟩
 obtain ⟨q0, q1, q2, q3, z0, z1, z2, z3, hg⟩ := Blk.four (ht.blk ((Blk.new w _ _).drewN _) (by omega))
 have HX := hid hx
 have HT2 := hid ht
 have HMN := hid hmn
 clear hx ht hmn
 go_wp2_with fail
 (try simp only [Exit.inBlock, Exit.then])
 refine bodyPost_ret (v := .tuple #[.agg #[.int .i64 k, .string tx, .int .i64 f, .int .i64 t], .bool b]) (by simp [results, Tryz.results134, go_sem, q0, q1, q2, q3]) rfl ?_
 exact LexRes.close hL HX.out HT2.out.preN HMN.out
set_option maxRecDepth 100000 in
set_option maxHeartbeats 400000 in
theorem name_bad2 (L : Nat) (s : ByteArray) (a m : Nat) (p e : Int) (w : World) (h : LexAt w L s a p e) (hm : s.size ≤ 1000000000) (hmd : m = a + 1 + Lx.runI 3 s.data.toList (a + 1)) (ha : a + 1 ≤ s.size) (r : Lx.Res) (F : ((s.extract (a + 1) m).toList == [102, 101, 110, 99, 101]) = true) (hs : m + 1 < s.size) (T1 : Lx.isDelim (s[m]'(Nat.lt_of_succ_lt hs)) = true) (T2 : Lx.isDelim (s[m + 1]'hs) = false) (hr : Lx.Res.err 0 3 = r) :
  Calls Tryz.prog 134 #[.pointer (some ⟨L, 0, none⟩)] w (LexRes w L s a p e r) := by
 obtain ⟨g1, g2, g3, g4, f1, f2, f3, hL⟩ := lex_reads h
 have HM : s.size ≤ maxLen := by unfold maxLen; omega
 have H := hid h
 clear h
 have hle := Lx.runI_le 3 s.data.toList (a + 1)
 have hll : s.data.toList.length = s.size := by simp
 rw [hll] at hle
 have HD := hid hmd
 have am : a + 1 ≤ m := by omega
 have ms : m ≤ s.size := by omega
 clear hmd hle hll
 have e1 : ((a : Int) + 1) ≤ (m : Int) := by omega
 have e2 : (0 : Int) ≤ (a : Int) + 1 := by omega
 have e3 : (m : Int) ≤ (s.size : Int) := by omega
 have S1 : decide ((s.size : Int) < (m : Int) + 2) = false := by simp; omega
 have S2 : (m : Int) < (s.size : Int) := by omega
 have S3 : (0 : Int) ≤ (m : Int) := by omega
 have S4 : (m : Int) + 1 < (s.size : Int) := by omega
 go_enter Tryz.func134, Tryz.ntmps134
 go_wp2_with fail
 refine (run_any L s a p e _ 3 _ (H.out.alloc _) (by omega) (by omega) HM).mono ?_
 rintro e' w' ⟨rfl, n1, rfl⟩
 rw [show ((a : Int) + 1).toNat = a + 1 from by omega, ← HD.out]
 go_wp2_with fail
 go_quiet (fail)
 go_wp2_with fail
 refine (delim_any _ _ _ rfl _).mono ?_
 rintro e' w' ⟨⟨i1, rfl, hi1⟩, rfl⟩
 have HI1 : decide (i1 < 0) = false := by rw [hi1, T1]; rfl
 clear hi1 T1
 go_wp2_with fail
 refine (delim_any _ _ _ rfl _).mono ?_
 rintro e' w' ⟨⟨i2, rfl, hi2⟩, rfl⟩
 have HI2 : decide (i2 < 0) = true := by rw [hi2, T2]; rfl
 clear hi2 T2
 go_wp2_with fail
 refine (fail_as L s a p e _ _ 0 3 _ r hr ((H.out.alloc _).drewN _) rfl rfl).mono ?_
 rintro e' w' ⟨k, tx, f, t, b, a', p', e2, rfl, hx, ht, hmn⟩
 obtain ⟨q0, q1, q2, q3, z0, z1, z2, z3, hg⟩ := Blk.four (ht.blk ((Blk.new w _ _).drewN _) (by omega))
 have HX := hid hx
 have HT2 := hid ht
 have HMN := hid hmn
 clear hx ht hmn
 go_wp2_with fail
 (try simp only [Exit.inBlock, Exit.then])
 refine bodyPost_ret (v := .tuple #[.agg #[.int .i64 k, .string tx, .int .i64 f, .int .i64 t], .bool b]) (by simp [results, Tryz.results134, go_sem, q0, q1, q2, q3]) rfl ?_
 exact LexRes.close hL HX.out HT2.out.preN HMN.out
set_option maxRecDepth 100000 in
set_option maxHeartbeats 400000 in
theorem name_fence (L : Nat) (s : ByteArray) (a m : Nat) (p e : Int) (w : World) (h : LexAt w L s a p e) (hm : s.size ≤ 1000000000) (hmd : m = a + 1 + Lx.runI 3 s.data.toList (a + 1)) (ha : a + 1 ≤ s.size) (r : Lx.Res) (F : ((s.extract (a + 1) m).toList == [102, 101, 110, 99, 101]) = true) (hs : m + 1 < s.size) (T1 : Lx.isDelim (s[m]'(Nat.lt_of_succ_lt hs)) = true) (T2 : Lx.isDelim (s[m + 1]'hs) = true) (hr : Lx.lim 2 ⟨5, (s.extract m (m + 2)).data.toList⟩ (m + 2 - a) = r) :
  Calls Tryz.prog 134 #[.pointer (some ⟨L, 0, none⟩)] w (LexRes w L s a p e r) := by
 obtain ⟨g1, g2, g3, g4, f1, f2, f3, hL⟩ := lex_reads h
 have HM : s.size ≤ maxLen := by unfold maxLen; omega
 have H := hid h
 clear h
 have hle := Lx.runI_le 3 s.data.toList (a + 1)
 have hll : s.data.toList.length = s.size := by simp
 rw [hll] at hle
 have HD := hid hmd
 have am : a + 1 ≤ m := by omega
 have ms : m ≤ s.size := by omega
 clear hmd hle hll
 have e1 : ((a : Int) + 1) ≤ (m : Int) := by omega
 have e2 : (0 : Int) ≤ (a : Int) + 1 := by omega
 have e3 : (m : Int) ≤ (s.size : Int) := by omega
 have S1 : decide ((s.size : Int) < (m : Int) + 2) = false := by simp; omega
 have S2 : (m : Int) < (s.size : Int) := by omega
 have S3 : (0 : Int) ≤ (m : Int) := by omega
 have S4 : (m : Int) + 1 < (s.size : Int) := by omega
 have S5 : (m : Int) + 2 ≤ (s.size : Int) := by omega
 go_enter Tryz.func134, Tryz.ntmps134
 go_wp2_with fail
 refine (run_any L s a p e _ 3 _ (H.out.alloc _) (by omega) (by omega) HM).mono ?_
 rintro e' w' ⟨rfl, n1, rfl⟩
 rw [show ((a : Int) + 1).toNat = a + 1 from by omega, ← HD.out]
 go_wp2_with fail
 go_quiet (fail)
 go_wp2_with fail
 refine (delim_any _ _ _ rfl _).mono ?_
 rintro e' w' ⟨⟨i1, rfl, hi1⟩, rfl⟩
 have HI1 : decide (i1 < 0) = false := by rw [hi1, T1]; rfl
 clear hi1 T1
 go_wp2_with fail
 refine (delim_any _ _ _ rfl _).mono ?_
 rintro e' w' ⟨⟨i2, rfl, hi2⟩, rfl⟩
 have HI2 : decide (i2 < 0) = false := by rw [hi2, T2]; rfl
 clear hi2 T2
 go_wp2_with fail
 refine (token_as L s a p e _ 5 _ _ (m + 2 - a) 2 _ _ r hr ((H.out.alloc _).drewN _) rfl (by omega) rfl).mono ?_
 rintro e' w' ⟨k, tx, f, t, b, a', p', e2, rfl, hx, ht, hmn⟩
 obtain ⟨q0, q1, q2, q3, z0, z1, z2, z3, hg⟩ := Blk.four (ht.blk ((Blk.new w _ _).drewN _) (by omega))
 have HX := hid hx
 have HT2 := hid ht
 have HMN := hid hmn
 clear hx ht hmn
 go_wp2_with fail
 (try simp only [Exit.inBlock, Exit.then])
 refine bodyPost_ret (v := .tuple #[.agg #[.int .i64 k, .string tx, .int .i64 f, .int .i64 t], .bool b]) (by simp [results, Tryz.results134, go_sem, q0, q1, q2, q3]) rfl ?_
 exact LexRes.close hL HX.out HT2.out.preN HMN.out
end Go.Proofs.YtncnoeoicaglaaaGreat

/- The walk of the lexer's method quoted. -/
namespace Go.Proofs.YtncnoeoicaglaaaGreat
open Go.RowKit
structure QuoAt (w : World) (L : Nat) (s : ByteArray) (a : Nat) (p e : Int) (r : Lx.Res) (j : Nat) (acc : List UInt8) (cs : Array Value) (v : Value) (wr : World) : Prop where
 lex : LexAt wr L s a p e
 res : Blk wr w.heap.size 134 #[.int .i64 0, .string ByteArray.empty, .int .i64 0, .int .i64 0]
 bld : Bld wr (w.heap.size + 2) (w.heap.size + 1) 0 81 cs v acc
 size : cs.size = 2
 touch : Touch (fun _ => False) w wr
 lo : a + 1 ≤ j
 hi : j ≤ s.size
 len : acc.length ≤ j
 quo : Lx.quo (s.data.toList.drop j) acc (j - a) = r
theorem QuoAt.next {w : World} {L : Nat} {s : ByteArray} {a : Nat} {p e : Int} {r : Lx.Res} {j : Nat} {acc : List UInt8} {cs : Array Value} {v : Value} {wr w' : World} (Q : QuoAt w L s a p e r j acc cs v wr) (hL : L < w.heap.size) {j' : Nat} {c : UInt8} {v' : Value}
  (hb : Bld w' (w.heap.size + 2) (w.heap.size + 1) 0 81 ((cs.setIfInBounds 0 (.pointer (some ⟨w.heap.size + 1, 0, none⟩))).setIfInBounds (0 + 1) v') v' (acc ++ [c]))
  (ht : Touch (fun k => k = w.heap.size + 1 ∨ v.ownBlock = some k) wr w') (hj : j < j') (hs : j' ≤ s.size) (hq : Lx.quo (s.data.toList.drop j') (acc ++ [c]) (j' - a) = r) :
  QuoAt w L s a p e r j' (acc ++ [c]) ((cs.setIfInBounds 0 (.pointer (some ⟨w.heap.size + 1, 0, none⟩))).setIfInBounds (0 + 1) v') v' w' := by
 have hlt := Q.bld.own.lt
 refine ⟨ht.blk Q.lex ?_, ht.blk Q.res ?_, hb, by simp [Q.size], Q.touch.trans' ht ?_, by have := Q.lo; omega, hs, by have := Q.len; simp; omega, hq⟩
 ·rintro (h1 | h1)
  ·omega
  ·have := (hlt _ h1).1; omega
 ·rintro (h1 | h1)
  ·omega
  ·have := (hlt _ h1).1; omega
 ·rintro i (h1 | h1)
  ·right; omega
  ·right; have := (hlt _ h1).1; omega
set_option maxRecDepth 100000 in
set_option maxHeartbeats 2000000 in
theorem quoted_any (L : Nat) (s : ByteArray) (a : Nat) (p e : Int) (w : World) (h : LexAt w L s a p e) (hm : s.size ≤ 1000000000) (ha : a < s.size) :
  Calls Tryz.prog 133 #[.pointer (some ⟨L, 0, none⟩)] w (LexRes w L s a p e (Lx.quo (s.data.toList.drop (a + 1)) [] 1)) := by
 obtain ⟨g1, g2, g3, g4, f1, f2, f3, hL⟩ := lex_reads h
 have H := hid h
 obtain ⟨r, hr⟩ : ∃ r, Lx.quo (s.data.toList.drop (a + 1)) [] 1 = r := ⟨_, rfl⟩
 rw [hr]
 have HR := hid hr
 have hll : s.data.toList.length = s.size := by simp
 have HLL := hid hll
 clear h hr hll
 go_enter Tryz.func133, Tryz.ntmps133
 go_wp2
 clear g1 g2 g3 g4 f1 f2 f3
 go_loopw [5] (fun i wr => ∃ (j : Nat) (acc : List UInt8) (cs : Array Value) (v : Value), i = .int .i64 j ∧ QuoAt w L s a p e r j acc cs v wr) (fun i _ => s.size - (intOf i).toNat)
 case atStart =>
  refine ⟨a + 1, [], #[.pointer none, .slice none 0 0], .slice none 0 0, by go_num, ?_, ?_, ?_, rfl, ?_, Nat.le_refl _, ha, by simp, ?_⟩
  ·exact (H.out.alloc _).alloc _
  ·exact (Blk.new w _ _).alloc _
  ·refine ⟨?_, .inl rfl, rfl, World.ownsRow_nil _ _ _ _, by simp [Value.ownBlock], fun _ => rfl⟩
   have := Blk.new (w.alloc (.cells #[.int .i64 0, .string ⟨#[]⟩, .int .i64 0, .int .i64 0] 134)) 81 #[.pointer none, .slice none 0 0]
   simpa using this
  ·exact ((Touch.refl _ w).alloc _).alloc _
  ·rw [show a + 1 - a = 1 from by omega]; exact HR.out
 case round =>
  obtain ⟨j, acc, cs, v, rfl, Q0⟩ := hrel
  obtain ⟨g1, g2, g3, g4, f1, f2, f3, hLr⟩ := lex_reads Q0.lex
  have Q := hid Q0
  have hlo := Q0.lo
  have hhi := Q0.hi
  have hlen := Q0.len
  have hwr := Q0.touch.size
  have hbl := Q0.bld.lt
  have hres := Q0.res.lt
  clear Q0
  by_cases c1 : j < s.size
  ·have b1 : decide ((j : Int) < (s.size : Int)) = true := by simp; omega
   have b1' : (j : Int) < (s.size : Int) := by omega
   have b1'' : (0 : Int) ≤ (j : Int) := by omega
   have hjl : j < s.data.toList.length := by rw [HLL.out]; exact c1
   have hget : s.data.toList[j] = s[j]'c1 := rfl
   by_cases c2 : s[j]'c1 = 34
   ·have hq := Q.out.quo
    rw [Lx.quo_cons _ _ _ _ hjl, hget, if_pos c2] at hq
    have HQ := hid hq
    have b2 : (((s[j]'c1).toNat : Int) == 34) = true := u8_eq_of _ 34 c2
    clear hq c2 hget hjl
    go_wp2_with fail
    refine (bstring_any Q.out.bld).mono ?_
    rintro e1 w1 ⟨rfl, ht1⟩
    have hlx : LexAt w1 L s a p e := ht1.blk Q.out.lex (fun hk => by have := (Q.out.bld.own.lt _ hk).1; omega)
    have hrs := ht1.blk Q.out.res (fun hk => by have := (Q.out.bld.own.lt _ hk).1; omega)
    have ht1' : Touch (fun _ => False) w w1 := Q.out.touch.trans' ht1 (fun i hk => by have := (Q.out.bld.own.lt _ hk).1; right; omega)
    have HLX := hid hlx
    have HRS := hid hrs
    have HT1 := hid ht1'
    clear hlx hrs ht1 ht1'
    go_wp2_with fail
    refine (token_as L s a p e _ 3 _ _ (j - a + 1) 200 _ _ r HQ.out HLX.out rfl (by omega) rfl).mono ?_
    rintro e' w' ⟨k, tx, f, t, b, a', p', e2, rfl, hx, ht, hmn⟩
    obtain ⟨q0, q1, q2, q3, z0, z1, z2, z3, hg⟩ := Blk.four (ht.blk HRS.out (by omega))
    have HX := hid hx
    have HT2 := hid ht
    have HMN := hid hmn
    clear hx ht hmn
    go_wp2_with fail
    (try simp only [Exit.inBlock, Exit.then])
    refine bodyPost_ret (v := .tuple #[.agg #[.int .i64 k, .string tx, .int .i64 f, .int .i64 t], .bool b]) (by simp [results, Tryz.results133, go_sem, q0, q1, q2, q3]) rfl ?_
    exact LexRes.close hL HX.out ((HT1.out.mono (fun _ h => h.elim)).trans HT2.out) HMN.out
   ·have b2 : (((s[j]'c1).toNat : Int) == 34) = false := u8_ne_of _ 34 c2
    by_cases c3 : (s[j]'c1) < 32 ∨ 126 < (s[j]'c1)
    ·have hq := Q.out.quo
     rw [Lx.quo_cons _ _ _ _ hjl, hget, if_neg c2, if_pos c3] at hq
     have HQ := hid hq
     by_cases c4 : (s[j]'c1) < 32
     ·have b3 : decide (((s[j]'c1).toNat : Int) < 32) = true := by simp; exact Int.ofNat_lt.2 (UInt8.lt_iff_toNat_lt.1 c4)
      clear hq c2 c3 c4 hget hjl
      go_wp2_with fail
      refine (fail_as L s a p e _ _ (j - a) 3 _ r HQ.out Q.out.lex (by omega) rfl).mono ?_
      rintro e' w' ⟨k, tx, f, t, b, a', p', e2, rfl, hx, ht, hmn⟩
      obtain ⟨q0, q1, q2, q3, z0, z1, z2, z3, hg⟩ := Blk.four (ht.blk Q.out.res (by omega))
      have HX := hid hx
      have HT2 := hid ht
      have HMN := hid hmn
      clear hx ht hmn
      go_wp2_with fail
      (try simp only [Exit.inBlock, Exit.then])
      refine bodyPost_ret (v := .tuple #[.agg #[.int .i64 k, .string tx, .int .i64 f, .int .i64 t], .bool b]) (by simp [results, Tryz.results133, go_sem, q0, q1, q2, q3]) rfl ?_
      exact LexRes.close hL HX.out ((Q.out.touch.mono (fun _ h => h.elim)).trans HT2.out) HMN.out
     ·have b3 : decide (((s[j]'c1).toNat : Int) < 32) = false := by rw [decide_eq_false_iff_not]; intro hx; exact c4 (UInt8.lt_iff_toNat_lt.2 (by simpa using Int.ofNat_lt.1 hx))
      have b4 : decide (126 < ((s[j]'c1).toNat : Int)) = true := by
       have := UInt8.lt_iff_toNat_lt.1 (c3.resolve_left c4)
       simp at this ⊢; omega
      clear hq c2 c3 c4 hget hjl
      go_wp2_with fail
      refine (fail_as L s a p e _ _ (j - a) 3 _ r HQ.out Q.out.lex (by omega) rfl).mono ?_
      rintro e' w' ⟨k, tx, f, t, b, a', p', e2, rfl, hx, ht, hmn⟩
      obtain ⟨q0, q1, q2, q3, z0, z1, z2, z3, hg⟩ := Blk.four (ht.blk Q.out.res (by omega))
      have HX := hid hx
      have HT2 := hid ht
      have HMN := hid hmn
      clear hx ht hmn
      go_wp2_with fail
      (try simp only [Exit.inBlock, Exit.then])
      refine bodyPost_ret (v := .tuple #[.agg #[.int .i64 k, .string tx, .int .i64 f, .int .i64 t], .bool b]) (by simp [results, Tryz.results133, go_sem, q0, q1, q2, q3]) rfl ?_
      exact LexRes.close hL HX.out ((Q.out.touch.mono (fun _ h => h.elim)).trans HT2.out) HMN.out
    ·have b3 : decide (((s[j]'c1).toNat : Int) < 32) = false := by rw [decide_eq_false_iff_not]; intro hx; exact c3 (.inl (UInt8.lt_iff_toNat_lt.2 (by simpa using Int.ofNat_lt.1 hx)))
     have b4 : decide (126 < ((s[j]'c1).toNat : Int)) = false := by rw [decide_eq_false_iff_not]; intro hx; exact c3 (.inr (UInt8.lt_iff_toNat_lt.2 (by simp; omega)))
     by_cases c5 : s[j]'c1 = 92
     ·have b5 : (((s[j]'c1).toNat : Int) == 92) = true := u8_eq_of _ 92 c5
      by_cases c6 : j + 1 < s.size
      ·have b6 : (((j : Int) + 1) == (s.size : Int)) = false := by rw [beq_eq_false_iff_ne]; omega
       have b6' : (j : Int) + 1 < (s.size : Int) := by omega
       have b6'' : (0 : Int) ≤ (j : Int) + 1 := by omega
       have hjl1 : j + 1 < s.data.toList.length := by rw [HLL.out]; exact c6
       have hget1 : s.data.toList[j + 1] = s[j + 1]'c6 := rfl
       have hq := Q.out.quo
       rw [Lx.quo_esc _ _ _ _ hjl (by rw [hget]; exact c5) hjl1, hget1] at hq
       by_cases c7 : s[j + 1]'c6 = 34
       ·rw [if_pos (.inl c7)] at hq
        have HQ := hid hq
        have b7 : (((s[j + 1]'c6).toNat : Int) != 34) = false := u8_nbne_of _ 34 c7
        clear hq c2 c3 c5 c7 hget hjl hget1 hjl1
        go_wp2_with fail
        refine (writeByte_any Q.out.bld (by rw [Q.out.size]; exact liesBuilder) _ (s[j + 1]'c6) (by rfl) (by omega) (by omega)).mono ?_
        rintro e1 w1 ⟨rfl, v', hb1, ht1⟩
        have HN := hid (Q.out.next hL (j' := (j + 2)) hb1 ht1 (by omega) (by omega) (by rw [show j + 2 - a = j - a + 2 from by omega]; exact HQ.out))
        clear hb1 ht1
        go_wp2_with fail
        go_roundw
        case rel => exact ⟨(j + 2), _, _, _, by go_num, HN.out⟩
        case measure => simp [intOf]; omega
       ·have b7 : (((s[j + 1]'c6).toNat : Int) != 34) = true := u8_bne_of _ 34 c7
        by_cases c8 : s[j + 1]'c6 = 92
        ·rw [if_pos (.inr c8)] at hq
         have HQ := hid hq
         have b8 : (((s[j + 1]'c6).toNat : Int) != 92) = false := u8_nbne_of _ 92 c8
         clear hq c2 c3 c5 c7 c8 hget hjl hget1 hjl1
         go_wp2_with fail
         refine (writeByte_any Q.out.bld (by rw [Q.out.size]; exact liesBuilder) _ (s[j + 1]'c6) (by rfl) (by omega) (by omega)).mono ?_
         rintro e1 w1 ⟨rfl, v', hb1, ht1⟩
         have HN := hid (Q.out.next hL (j' := (j + 2)) hb1 ht1 (by omega) (by omega) (by rw [show j + 2 - a = j - a + 2 from by omega]; exact HQ.out))
         clear hb1 ht1
         go_wp2_with fail
         go_roundw
         case rel => exact ⟨(j + 2), _, _, _, by go_num, HN.out⟩
         case measure => simp [intOf]; omega
        ·rw [if_neg (fun hx => hx.elim c7 c8)] at hq
         have HQ := hid hq
         have b8 : (((s[j + 1]'c6).toNat : Int) != 92) = true := u8_bne_of _ 92 c8
         clear hq c2 c3 c5 c7 c8 hget hjl hget1 hjl1
         go_wp2_with fail
         refine (fail_as L s a p e _ _ (j - a) 3 _ r HQ.out Q.out.lex (by omega) rfl).mono ?_
         rintro e' w' ⟨k, tx, f, t, b, a', p', e2, rfl, hx, ht, hmn⟩
         obtain ⟨q0, q1, q2, q3, z0, z1, z2, z3, hg⟩ := Blk.four (ht.blk Q.out.res (by omega))
         have HX := hid hx
         have HT2 := hid ht
         have HMN := hid hmn
         clear hx ht hmn
         go_wp2_with fail
         (try simp only [Exit.inBlock, Exit.then])
         refine bodyPost_ret (v := .tuple #[.agg #[.int .i64 k, .string tx, .int .i64 f, .int .i64 t], .bool b]) (by simp [results, Tryz.results133, go_sem, q0, q1, q2, q3]) rfl ?_
         exact LexRes.close hL HX.out ((Q.out.touch.mono (fun _ h => h.elim)).trans HT2.out) HMN.out
      ·have b6 : (((j : Int) + 1) == (s.size : Int)) = true := by rw [beq_iff_eq]; omega
       have hq := Q.out.quo
       rw [Lx.quo_esc_end _ _ _ _ hjl (by rw [hget]; exact c5) (by rw [HLL.out]; omega)] at hq
       have HQ := hid hq
       clear hq c2 c3 c5 hget hjl
       go_wp2_with fail
       refine (fail_as L s a p e _ _ (j - a) 3 _ r HQ.out Q.out.lex (by omega) rfl).mono ?_
       rintro e' w' ⟨k, tx, f, t, b, a', p', e2, rfl, hx, ht, hmn⟩
       obtain ⟨q0, q1, q2, q3, z0, z1, z2, z3, hg⟩ := Blk.four (ht.blk Q.out.res (by omega))
       have HX := hid hx
       have HT2 := hid ht
       have HMN := hid hmn
       clear hx ht hmn
       go_wp2_with fail
       (try simp only [Exit.inBlock, Exit.then])
       refine bodyPost_ret (v := .tuple #[.agg #[.int .i64 k, .string tx, .int .i64 f, .int .i64 t], .bool b]) (by simp [results, Tryz.results133, go_sem, q0, q1, q2, q3]) rfl ?_
       exact LexRes.close hL HX.out ((Q.out.touch.mono (fun _ h => h.elim)).trans HT2.out) HMN.out
     ·have b5 : (((s[j]'c1).toNat : Int) == 92) = false := u8_ne_of _ 92 c5
      have hq := Q.out.quo
      rw [Lx.quo_plain _ _ _ _ hjl (by rw [hget]; exact c2) (by rw [hget]; exact c3) (by rw [hget]; exact c5), hget] at hq
      have HQ := hid hq
      clear hq c2 c3 c5 hget hjl
      go_wp2_with fail
      refine (writeByte_any Q.out.bld (by rw [Q.out.size]; exact liesBuilder) _ (s[j]'c1) (by rfl) (by omega) (by omega)).mono ?_
      rintro e1 w1 ⟨rfl, v', hb1, ht1⟩
      have HN := hid (Q.out.next hL (j' := (j + 1)) hb1 ht1 (by omega) (by omega) (by rw [show j + 1 - a = j - a + 1 from by omega]; exact HQ.out))
      clear hb1 ht1
      go_wp2_with fail
      go_roundw
      case rel => exact ⟨(j + 1), _, _, _, by go_num, HN.out⟩
      case measure => simp [intOf]; omega
  ·have hq := Q.out.quo
   rw [Lx.quo_end _ _ _ _ (by rw [HLL.out]; omega)] at hq
   have HQ := hid hq
   have b1 : decide ((j : Int) < (s.size : Int)) = false := by simp; omega
   clear hq
   go_wp2_with fail
   refine (fail_as L s a p e _ _ (0) 12 _ r HQ.out Q.out.lex (by omega) rfl).mono ?_
   rintro e' w' ⟨k, tx, f, t, b, a', p', e2, rfl, hx, ht, hmn⟩
   obtain ⟨q0, q1, q2, q3, z0, z1, z2, z3, hg⟩ := Blk.four (ht.blk Q.out.res (by omega))
   have HX := hid hx
   have HT2 := hid ht
   have HMN := hid hmn
   clear hx ht hmn
   go_wp2_with fail
   (try simp only [Exit.inBlock, Exit.then])
   refine bodyPost_ret (v := .tuple #[.agg #[.int .i64 k, .string tx, .int .i64 f, .int .i64 t], .bool b]) (by simp [results, Tryz.results133, go_sem, q0, q1, q2, q3]) rfl ?_
   exact LexRes.close hL HX.out ((Q.out.touch.mono (fun _ h => h.elim)).trans HT2.out) HMN.out
end Go.Proofs.YtncnoeoicaglaaaGreat
