/- The walk of the lexer's method name. -/
import Derived.Test.YtleclhmdcdichaaLxF
import Derived.Test.YtleclhmdcdichaaShelf
import Derived.Lib.IndexLaws
namespace Go.Proofs.Ytleclhmdcdichaa
open Go.RowKit

theorem indexByte_mem (l : List UInt8) (c : UInt8) : decide (Lib.indexByte l c < 0) = !(l.contains c) := by
  have h1 := Lib.indexByte_ge l c
  by_cases hc : Lib.indexByte l c < 0
  · have h2 := Lib.indexByte_none (l := l) (c := c) (by omega)
    have : l.contains c = false := by
      rw [← Bool.not_eq_true, List.contains_iff_mem, List.mem_iff_getElem?]
      rintro ⟨i, hi⟩
      exact h2 i hi
    rw [this]; simp [hc]
  · obtain ⟨o, ho⟩ := Int.eq_ofNat_of_zero_le (show 0 ≤ Lib.indexByte l c by omega)
    have h2 := (Lib.indexByte_some ho).1
    have : l.contains c = true := by
      rw [List.contains_iff_mem, List.mem_iff_getElem?]
      exact ⟨o, h2⟩
    rw [this]; simp [hc]

/-- strings.IndexByte on the delimiters: below 0 exactly where the byte is none of them. -/
theorem delim_any (s : ByteArray) (c : UInt8) (x : Int) (hs : s = ⟨#[40, 41, 91, 93, 123, 125, 60, 62, 47, 124, 46]⟩) (w : World) (hx : x = c.toNat := by rfl) :
    Calls Try.prog 34 #[.string s, .int .u8 x] w fun e w' => (∃ i : Int, e = .returned (.int .i64 i) ∧ decide (i < 0) = !(Lx.isDelim c)) ∧ w' = w := by
  subst hs hx
  refine (Try.strings_IndexByte _ _ w).mono ?_
  rintro e w' ⟨rfl, rfl⟩
  refine ⟨⟨_, rfl, ?_⟩, rfl⟩
  rw [indexByte_mem]
  simp [Lx.isDelim]

set_option maxRecDepth 100000 in
set_option maxHeartbeats 400000 in
theorem name_plain (L : Nat) (s : ByteArray) (a m : Nat) (p e : Int) (w : World) (h : LexAt w L s a p e) (hm : s.size ≤ 1000000000) (hmd : m = a + 1 + Lx.runI 3 s.data.toList (a + 1)) (ha : a + 1 ≤ s.size) (r : Lx.Res) (F : ((s.extract (a + 1) m).toList == [102, 101, 110, 99, 101]) = false) (hr : Lx.lim 16 ⟨4, (s.extract (a + 1) m).data.toList⟩ (m - a) = r) :
    Calls Try.prog 31 #[.pointer (some ⟨L, 0, none⟩)] w (LexRes w L s a p e r) := by
  obtain ⟨g1, g2, g3, g4, f1, f2, f3, hL⟩ := lex_reads h
  have HM : s.size ≤ maxLen := by unfold maxLen; omega
  have H := hid h
  clear h
  have hle := Lx.runI_le 3 s.data.toList (a + 1)
  have hll : s.data.toList.length = s.size := by simp
  rw [hll] at hle
  have HD := hid hmd
  have am : a + 1 ≤ m := by omega
  have ms : m ≤ s.size := by omega
  clear hmd hle hll
  have e1 : ((a : Int) + 1) ≤ (m : Int) := by omega
  have e2 : (0 : Int) ≤ (a : Int) + 1 := by omega
  have e3 : (m : Int) ≤ (s.size : Int) := by omega
  go_enter Try.func31, Try.ntmps31
  go_wp2_with fail
  refine (run_any L s a p e _ 3 _ (H.out.alloc _) (by omega) (by omega) HM).mono ?_
  rintro e' w' ⟨rfl, n1, rfl⟩
  rw [show ((a : Int) + 1).toNat = a + 1 from by omega, ← HD.out]
  go_wp2_with fail
  go_quiet (fail)
  go_wp2_with fail
  refine (token_as L s a p e _ 4 _ _ (m - a) 16 _ _ r hr ((H.out.alloc _).drewN _) rfl (by omega) rfl).mono ?_
  rintro e' w' ⟨k, tx, f, t, b, a', p', e2, rfl, hx, ht, hmn⟩
  obtain ⟨q0, q1, q2, q3, z0, z1, z2, z3, hg⟩ := Blk.four (ht.blk ((Blk.new w _ _).drewN _) (by omega))
  have HX := hid hx
  have HT2 := hid ht
  have HMN := hid hmn
  clear hx ht hmn
  go_wp2_with fail
  (try simp only [Exit.inBlock, Exit.then])
  refine bodyPost_ret (v := .tuple #[.agg #[.int .i64 k, .string tx, .int .i64 f, .int .i64 t], .bool b]) (by simp [results, Try.results31, go_sem, q0, q1, q2, q3]) rfl ?_
  exact LexRes.close hL HX.out HT2.out.preN HMN.out

set_option maxRecDepth 100000 in
set_option maxHeartbeats 400000 in
theorem name_short (L : Nat) (s : ByteArray) (a m : Nat) (p e : Int) (w : World) (h : LexAt w L s a p e) (hm : s.size ≤ 1000000000) (hmd : m = a + 1 + Lx.runI 3 s.data.toList (a + 1)) (ha : a + 1 ≤ s.size) (r : Lx.Res) (F : ((s.extract (a + 1) m).toList == [102, 101, 110, 99, 101]) = true) (hs : s.size < m + 2) (hr : Lx.Res.err 0 3 = r) :
    Calls Try.prog 31 #[.pointer (some ⟨L, 0, none⟩)] w (LexRes w L s a p e r) := by
  obtain ⟨g1, g2, g3, g4, f1, f2, f3, hL⟩ := lex_reads h
  have HM : s.size ≤ maxLen := by unfold maxLen; omega
  have H := hid h
  clear h
  have hle := Lx.runI_le 3 s.data.toList (a + 1)
  have hll : s.data.toList.length = s.size := by simp
  rw [hll] at hle
  have HD := hid hmd
  have am : a + 1 ≤ m := by omega
  have ms : m ≤ s.size := by omega
  clear hmd hle hll
  have e1 : ((a : Int) + 1) ≤ (m : Int) := by omega
  have e2 : (0 : Int) ≤ (a : Int) + 1 := by omega
  have e3 : (m : Int) ≤ (s.size : Int) := by omega
  have S1 : decide ((s.size : Int) < (m : Int) + 2) = true := by simp; omega
  go_enter Try.func31, Try.ntmps31
  go_wp2_with fail
  refine (run_any L s a p e _ 3 _ (H.out.alloc _) (by omega) (by omega) HM).mono ?_
  rintro e' w' ⟨rfl, n1, rfl⟩
  rw [show ((a : Int) + 1).toNat = a + 1 from by omega, ← HD.out]
  go_wp2_with fail
  go_quiet (fail)
  go_wp2_with fail
  refine (fail_as L s a p e _ _ 0 3 _ r hr ((H.out.alloc _).drewN _) rfl rfl).mono ?_
  rintro e' w' ⟨k, tx, f, t, b, a', p', e2, rfl, hx, ht, hmn⟩
  obtain ⟨q0, q1, q2, q3, z0, z1, z2, z3, hg⟩ := Blk.four (ht.blk ((Blk.new w _ _).drewN _) (by omega))
  have HX := hid hx
  have HT2 := hid ht
  have HMN := hid hmn
  clear hx ht hmn
  go_wp2_with fail
  (try simp only [Exit.inBlock, Exit.then])
  refine bodyPost_ret (v := .tuple #[.agg #[.int .i64 k, .string tx, .int .i64 f, .int .i64 t], .bool b]) (by simp [results, Try.results31, go_sem, q0, q1, q2, q3]) rfl ?_
  exact LexRes.close hL HX.out HT2.out.preN HMN.out

set_option maxRecDepth 100000 in
set_option maxHeartbeats 400000 in
theorem name_bad1 (L : Nat) (s : ByteArray) (a m : Nat) (p e : Int) (w : World) (h : LexAt w L s a p e) (hm : s.size ≤ 1000000000) (hmd : m = a + 1 + Lx.runI 3 s.data.toList (a + 1)) (ha : a + 1 ≤ s.size) (r : Lx.Res) (F : ((s.extract (a + 1) m).toList == [102, 101, 110, 99, 101]) = true) (hs : m + 1 < s.size) (T1 : Lx.isDelim (s[m]'(Nat.lt_of_succ_lt hs)) = false) (hr : Lx.Res.err 0 3 = r) :
    Calls Try.prog 31 #[.pointer (some ⟨L, 0, none⟩)] w (LexRes w L s a p e r) := by
  obtain ⟨g1, g2, g3, g4, f1, f2, f3, hL⟩ := lex_reads h
  have HM : s.size ≤ maxLen := by unfold maxLen; omega
  have H := hid h
  clear h
  have hle := Lx.runI_le 3 s.data.toList (a + 1)
  have hll : s.data.toList.length = s.size := by simp
  rw [hll] at hle
  have HD := hid hmd
  have am : a + 1 ≤ m := by omega
  have ms : m ≤ s.size := by omega
  clear hmd hle hll
  have e1 : ((a : Int) + 1) ≤ (m : Int) := by omega
  have e2 : (0 : Int) ≤ (a : Int) + 1 := by omega
  have e3 : (m : Int) ≤ (s.size : Int) := by omega
  have S1 : decide ((s.size : Int) < (m : Int) + 2) = false := by simp; omega
  have S2 : (m : Int) < (s.size : Int) := by omega
  have S3 : (0 : Int) ≤ (m : Int) := by omega
  go_enter Try.func31, Try.ntmps31
  go_wp2_with fail
  refine (run_any L s a p e _ 3 _ (H.out.alloc _) (by omega) (by omega) HM).mono ?_
  rintro e' w' ⟨rfl, n1, rfl⟩
  rw [show ((a : Int) + 1).toNat = a + 1 from by omega, ← HD.out]
  go_wp2_with fail
  go_quiet (fail)
  go_wp2_with fail
  refine (delim_any _ _ _ rfl _).mono ?_
  rintro e' w' ⟨⟨i1, rfl, hi1⟩, rfl⟩
  have HI1 : decide (i1 < 0) = true := by rw [hi1, T1]; rfl
  clear hi1 T1
  go_wp2_with fail
  refine (fail_as L s a p e _ _ 0 3 _ r hr ((H.out.alloc _).drewN _) rfl rfl).mono ?_
  rintro e' w' ⟨k, tx, f, t, b, a', p', e2, rfl, hx, ht, hmn⟩
  obtain ⟨q0, q1, q2, q3, z0, z1, z2, z3, hg⟩ := Blk.four (ht.blk ((Blk.new w _ _).drewN _) (by omega))
  have HX := hid hx
  have HT2 := hid ht
  have HMN := hid hmn
  clear hx ht hmn
  go_wp2_with fail
  (try simp only [Exit.inBlock, Exit.then])
  refine bodyPost_ret (v := .tuple #[.agg #[.int .i64 k, .string tx, .int .i64 f, .int .i64 t], .bool b]) (by simp [results, Try.results31, go_sem, q0, q1, q2, q3]) rfl ?_
  exact LexRes.close hL HX.out HT2.out.preN HMN.out

set_option maxRecDepth 100000 in
set_option maxHeartbeats 400000 in
theorem name_bad2 (L : Nat) (s : ByteArray) (a m : Nat) (p e : Int) (w : World) (h : LexAt w L s a p e) (hm : s.size ≤ 1000000000) (hmd : m = a + 1 + Lx.runI 3 s.data.toList (a + 1)) (ha : a + 1 ≤ s.size) (r : Lx.Res) (F : ((s.extract (a + 1) m).toList == [102, 101, 110, 99, 101]) = true) (hs : m + 1 < s.size) (T1 : Lx.isDelim (s[m]'(Nat.lt_of_succ_lt hs)) = true) (T2 : Lx.isDelim (s[m + 1]'hs) = false) (hr : Lx.Res.err 0 3 = r) :
    Calls Try.prog 31 #[.pointer (some ⟨L, 0, none⟩)] w (LexRes w L s a p e r) := by
  obtain ⟨g1, g2, g3, g4, f1, f2, f3, hL⟩ := lex_reads h
  have HM : s.size ≤ maxLen := by unfold maxLen; omega
  have H := hid h
  clear h
  have hle := Lx.runI_le 3 s.data.toList (a + 1)
  have hll : s.data.toList.length = s.size := by simp
  rw [hll] at hle
  have HD := hid hmd
  have am : a + 1 ≤ m := by omega
  have ms : m ≤ s.size := by omega
  clear hmd hle hll
  have e1 : ((a : Int) + 1) ≤ (m : Int) := by omega
  have e2 : (0 : Int) ≤ (a : Int) + 1 := by omega
  have e3 : (m : Int) ≤ (s.size : Int) := by omega
  have S1 : decide ((s.size : Int) < (m : Int) + 2) = false := by simp; omega
  have S2 : (m : Int) < (s.size : Int) := by omega
  have S3 : (0 : Int) ≤ (m : Int) := by omega
  have S4 : (m : Int) + 1 < (s.size : Int) := by omega
  go_enter Try.func31, Try.ntmps31
  go_wp2_with fail
  refine (run_any L s a p e _ 3 _ (H.out.alloc _) (by omega) (by omega) HM).mono ?_
  rintro e' w' ⟨rfl, n1, rfl⟩
  rw [show ((a : Int) + 1).toNat = a + 1 from by omega, ← HD.out]
  go_wp2_with fail
  go_quiet (fail)
  go_wp2_with fail
  refine (delim_any _ _ _ rfl _).mono ?_
  rintro e' w' ⟨⟨i1, rfl, hi1⟩, rfl⟩
  have HI1 : decide (i1 < 0) = false := by rw [hi1, T1]; rfl
  clear hi1 T1
  go_wp2_with fail
  refine (delim_any _ _ _ rfl _).mono ?_
  rintro e' w' ⟨⟨i2, rfl, hi2⟩, rfl⟩
  have HI2 : decide (i2 < 0) = true := by rw [hi2, T2]; rfl
  clear hi2 T2
  go_wp2_with fail
  refine (fail_as L s a p e _ _ 0 3 _ r hr ((H.out.alloc _).drewN _) rfl rfl).mono ?_
  rintro e' w' ⟨k, tx, f, t, b, a', p', e2, rfl, hx, ht, hmn⟩
  obtain ⟨q0, q1, q2, q3, z0, z1, z2, z3, hg⟩ := Blk.four (ht.blk ((Blk.new w _ _).drewN _) (by omega))
  have HX := hid hx
  have HT2 := hid ht
  have HMN := hid hmn
  clear hx ht hmn
  go_wp2_with fail
  (try simp only [Exit.inBlock, Exit.then])
  refine bodyPost_ret (v := .tuple #[.agg #[.int .i64 k, .string tx, .int .i64 f, .int .i64 t], .bool b]) (by simp [results, Try.results31, go_sem, q0, q1, q2, q3]) rfl ?_
  exact LexRes.close hL HX.out HT2.out.preN HMN.out

set_option maxRecDepth 100000 in
set_option maxHeartbeats 400000 in
theorem name_fence (L : Nat) (s : ByteArray) (a m : Nat) (p e : Int) (w : World) (h : LexAt w L s a p e) (hm : s.size ≤ 1000000000) (hmd : m = a + 1 + Lx.runI 3 s.data.toList (a + 1)) (ha : a + 1 ≤ s.size) (r : Lx.Res) (F : ((s.extract (a + 1) m).toList == [102, 101, 110, 99, 101]) = true) (hs : m + 1 < s.size) (T1 : Lx.isDelim (s[m]'(Nat.lt_of_succ_lt hs)) = true) (T2 : Lx.isDelim (s[m + 1]'hs) = true) (hr : Lx.lim 2 ⟨5, (s.extract m (m + 2)).data.toList⟩ (m + 2 - a) = r) :
    Calls Try.prog 31 #[.pointer (some ⟨L, 0, none⟩)] w (LexRes w L s a p e r) := by
  obtain ⟨g1, g2, g3, g4, f1, f2, f3, hL⟩ := lex_reads h
  have HM : s.size ≤ maxLen := by unfold maxLen; omega
  have H := hid h
  clear h
  have hle := Lx.runI_le 3 s.data.toList (a + 1)
  have hll : s.data.toList.length = s.size := by simp
  rw [hll] at hle
  have HD := hid hmd
  have am : a + 1 ≤ m := by omega
  have ms : m ≤ s.size := by omega
  clear hmd hle hll
  have e1 : ((a : Int) + 1) ≤ (m : Int) := by omega
  have e2 : (0 : Int) ≤ (a : Int) + 1 := by omega
  have e3 : (m : Int) ≤ (s.size : Int) := by omega
  have S1 : decide ((s.size : Int) < (m : Int) + 2) = false := by simp; omega
  have S2 : (m : Int) < (s.size : Int) := by omega
  have S3 : (0 : Int) ≤ (m : Int) := by omega
  have S4 : (m : Int) + 1 < (s.size : Int) := by omega
  have S5 : (m : Int) + 2 ≤ (s.size : Int) := by omega
  go_enter Try.func31, Try.ntmps31
  go_wp2_with fail
  refine (run_any L s a p e _ 3 _ (H.out.alloc _) (by omega) (by omega) HM).mono ?_
  rintro e' w' ⟨rfl, n1, rfl⟩
  rw [show ((a : Int) + 1).toNat = a + 1 from by omega, ← HD.out]
  go_wp2_with fail
  go_quiet (fail)
  go_wp2_with fail
  refine (delim_any _ _ _ rfl _).mono ?_
  rintro e' w' ⟨⟨i1, rfl, hi1⟩, rfl⟩
  have HI1 : decide (i1 < 0) = false := by rw [hi1, T1]; rfl
  clear hi1 T1
  go_wp2_with fail
  refine (delim_any _ _ _ rfl _).mono ?_
  rintro e' w' ⟨⟨i2, rfl, hi2⟩, rfl⟩
  have HI2 : decide (i2 < 0) = false := by rw [hi2, T2]; rfl
  clear hi2 T2
  go_wp2_with fail
  refine (token_as L s a p e _ 5 _ _ (m + 2 - a) 2 _ _ r hr ((H.out.alloc _).drewN _) rfl (by omega) rfl).mono ?_
  rintro e' w' ⟨k, tx, f, t, b, a', p', e2, rfl, hx, ht, hmn⟩
  obtain ⟨q0, q1, q2, q3, z0, z1, z2, z3, hg⟩ := Blk.four (ht.blk ((Blk.new w _ _).drewN _) (by omega))
  have HX := hid hx
  have HT2 := hid ht
  have HMN := hid hmn
  clear hx ht hmn
  go_wp2_with fail
  (try simp only [Exit.inBlock, Exit.then])
  refine bodyPost_ret (v := .tuple #[.agg #[.int .i64 k, .string tx, .int .i64 f, .int .i64 t], .bool b]) (by simp [results, Try.results31, go_sem, q0, q1, q2, q3]) rfl ?_
  exact LexRes.close hL HX.out HT2.out.preN HMN.out

end Go.Proofs.Ytleclhmdcdichaa
