/- Part 21 of 48 of a proof; its texts, joined: LxF. No condition. -/
import Derived.Test.YtncnoeoicaglaaaGreatVc20

/- The walk of the lexer's method next. -/
namespace Go.Proofs.YtncnoeoicaglaaaGreat
open Go.RowKit
theorem token_as (L : Nat) (s : ByteArray) (a : Nat) (p e : Int) (k : Int) (kd : Nat) (text : ByteArray) (to_ : Int) (n most : Nat) (mostI : Int) (w : World) (r : Lx.Res) (hr : Lx.lim most ⟨kd, text.data.toList⟩ n = r) (h : LexAt w L s a p e) (hk : k = kd) (ht : to_ = (a + n : Nat)) (hmost : mostI = most) :
  Calls Tryz.prog 132 #[.pointer (some ⟨L, 0, none⟩), .int .i64 k, .string text, .int .i64 to_, .int .i64 mostI] w (LexRes w L s a p e r) := by
 subst hr
 exact token_any L s a p e k kd text to_ n most mostI w h hk ht hmost
theorem fail_as (L : Nat) (s : ByteArray) (a : Nat) (p e : Int) (pl er : Int) (i erN : Nat) (w : World) (r : Lx.Res) (hr : Lx.Res.err i erN = r) (h : LexAt w L s a p e) (hp : pl = (a + i : Nat)) (he : er = erN) :
  Calls Tryz.prog 135 #[.pointer (some ⟨L, 0, none⟩), .int .i64 pl, .int .i64 er] w (LexRes w L s a p e r) := by
 subst hr hp he
 exact (fail_any L s a p e _ _ w h).mono fun e' w' ⟨h1, h2, h3⟩ => ⟨_, _, _, _, _, _, _, _, h1, h2, h3, rfl, rfl, rfl, rfl, rfl, rfl, rfl, rfl⟩
theorem one_byte (s : ByteArray) (a : Nat) (h : a < s.size) : (s.extract a (a + 1)).data.toList = [s[a]] := by
 have h1 : s.data.toList.drop a = s[a] :: s.data.toList.drop (a + 1) := List.drop_eq_getElem_cons (by simpa using h)
 simp [ByteArray.data_extract, Array.toList_extract, List.extract_eq_take_drop, h1]
theorem one_byte_eq (s : ByteArray) (a : Nat) (h : a < s.size) (x : UInt8) : ((s.extract a (a + 1)).toList == [x]) = (s[a] == x) := by
 have h1 : (s.extract a (a + 1)).toList = [s[a]] := by rw [ByteArray.toList_eq]; exact one_byte s a h
 rw [h1]
 simp
theorem utf8_digit (d : UInt8) (h1 : 49 ≤ d.toNat) (h2 : d.toNat ≤ 52) : (Utf8.encode (d.toNat : Int)).data.toList = [d] := by
 have : d.toNat = 49 ∨ d.toNat = 50 ∨ d.toNat = 51 ∨ d.toNat = 52 := by omega
 rcases this with h | h | h | h <;> (have hd := UInt8.toNat_inj.1 (show d.toNat = (UInt8.ofNat d.toNat).toNat by simp); rw [h] at hd; subst hd; decide +kernel)
set_option maxRecDepth 100000 in
set_option maxHeartbeats 400000 in
theorem next_number (L : Nat) (s : ByteArray) (a : Nat) (p e : Int) (w : World) (h : LexAt w L s a p e) (hm : s.size ≤ maxLen) (ha : a < s.size) (r : Lx.Res) (F2 : (Lx.clsI s.data.toList a == 2) = true) (hr : Lx.number (s.data.toList.drop a) = r) :
  Calls Tryz.prog 105 #[.pointer (some ⟨L, 0, none⟩)] w (LexRes w L s a p e r) := by
 obtain ⟨g1, g2, g3, g4, f1, f2, f3, hL⟩ := lex_reads h
 have HM := hm
 have _ha := ha
 unfold maxLen at hm
 have H := hid h
 clear h
 have a0 : (0 : Int) ≤ (a : Int) := by omega
 have a1 : (a : Int) < (s.size : Int) := by omega
 have a2 : (a : Int) + 1 ≤ (s.size : Int) := by omega
 go_enter Tryz.func105, Tryz.ntmps105
 go_wp2_with (go_at_call 130; refine (is_any L s a p e _ _ _ (by first | exact H.out.alloc _ | exact (H.out.alloc _).drewN _) (by omega) (by omega)).mono ?_; rintro e' w' ⟨rfl, n, rfl⟩)
 all_goals
  refine ((hr ▸ number_any L s a p e _ ((H.out.alloc _).drewN _) HM ha)).mono ?_
  rintro e' w' ⟨k, tx, f, t, b, a', p', e2, rfl, hx, ht, hmn⟩
  obtain ⟨q0, q1, q2, q3, z0, z1, z2, z3, hg⟩ := Blk.four (ht.blk ((Blk.new w _ _).drewN _) (by omega))
  have HX := hid hx
  have HT := hid ht
  have HMN := hid hmn
  clear hx ht hmn
  go_wp2_with fail
  (try simp only [Exit.inBlock, Exit.then])
  refine bodyPost_ret (v := .tuple #[.agg #[.int .i64 k, .string tx, .int .i64 f, .int .i64 t], .bool b]) (by simp [results, Tryz.results105, go_sem, q0, q1, q2, q3]) rfl ?_
  exact LexRes.close hL HX.out HT.out.preN HMN.out
set_option maxRecDepth 100000 in
set_option maxHeartbeats 400000 in
theorem next_mark (L : Nat) (s : ByteArray) (a : Nat) (p e : Int) (w : World) (h : LexAt w L s a p e) (hm : s.size ≤ maxLen) (ha : a < s.size) (r : Lx.Res) (F2 : (Lx.clsI s.data.toList a == 2) = false) (F5 : (Lx.clsI s.data.toList a == 5) = true) (hr : Lx.lim 1 ⟨7, (s.extract a (a + 1)).data.toList⟩ 1 = r) :
  Calls Tryz.prog 105 #[.pointer (some ⟨L, 0, none⟩)] w (LexRes w L s a p e r) := by
 obtain ⟨g1, g2, g3, g4, f1, f2, f3, hL⟩ := lex_reads h
 have HM := hm
 have _ha := ha
 unfold maxLen at hm
 have H := hid h
 clear h
 have a0 : (0 : Int) ≤ (a : Int) := by omega
 have a1 : (a : Int) < (s.size : Int) := by omega
 have a2 : (a : Int) + 1 ≤ (s.size : Int) := by omega
 go_enter Tryz.func105, Tryz.ntmps105
 go_wp2_with (go_at_call 130; refine (is_any L s a p e _ _ _ (by first | exact H.out.alloc _ | exact (H.out.alloc _).drewN _) (by omega) (by omega)).mono ?_; rintro e' w' ⟨rfl, n, rfl⟩)
 all_goals
  refine (token_as L s a p e _ 7 _ _ 1 1 _ _ r hr ((H.out.alloc _).drewN _) rfl rfl rfl).mono ?_
  rintro e' w' ⟨k, tx, f, t, b, a', p', e2, rfl, hx, ht, hmn⟩
  obtain ⟨q0, q1, q2, q3, z0, z1, z2, z3, hg⟩ := Blk.four (ht.blk ((Blk.new w _ _).drewN _) (by omega))
  have HX := hid hx
  have HT := hid ht
  have HMN := hid hmn
  clear hx ht hmn
  go_wp2_with fail
  (try simp only [Exit.inBlock, Exit.then])
  refine bodyPost_ret (v := .tuple #[.agg #[.int .i64 k, .string tx, .int .i64 f, .int .i64 t], .bool b]) (by simp [results, Tryz.results105, go_sem, q0, q1, q2, q3]) rfl ?_
  exact LexRes.close hL HX.out HT.out.preN HMN.out
set_option maxRecDepth 100000 in
set_option maxHeartbeats 400000 in
theorem next_quoted (L : Nat) (s : ByteArray) (a : Nat) (p e : Int) (w : World) (h : LexAt w L s a p e) (hm : s.size ≤ maxLen) (ha : a < s.size) (r : Lx.Res) (F2 : (Lx.clsI s.data.toList a == 2) = false) (F5 : (Lx.clsI s.data.toList a == 5) = false) (C34 : ((s.extract a (a + 1)).toList == [34]) = true) (hq : ∀ w : World, LexAt w L s a p e → Calls Tryz.prog 133 #[.pointer (some ⟨L, 0, none⟩)] w (LexRes w L s a p e r)) :
  Calls Tryz.prog 105 #[.pointer (some ⟨L, 0, none⟩)] w (LexRes w L s a p e r) := by
 obtain ⟨g1, g2, g3, g4, f1, f2, f3, hL⟩ := lex_reads h
 have HM := hm
 have _ha := ha
 unfold maxLen at hm
 have H := hid h
 clear h
 have a0 : (0 : Int) ≤ (a : Int) := by omega
 have a1 : (a : Int) < (s.size : Int) := by omega
 have a2 : (a : Int) + 1 ≤ (s.size : Int) := by omega
 have HQ := hid hq
 clear hq
 go_enter Tryz.func105, Tryz.ntmps105
 go_wp2_with (go_at_call 130; refine (is_any L s a p e _ _ _ (by first | exact H.out.alloc _ | exact (H.out.alloc _).drewN _) (by omega) (by omega)).mono ?_; rintro e' w' ⟨rfl, n, rfl⟩)
 all_goals
  refine (HQ.out _ ((H.out.alloc _).drewN _)).mono ?_
  rintro e' w' ⟨k, tx, f, t, b, a', p', e2, rfl, hx, ht, hmn⟩
  obtain ⟨q0, q1, q2, q3, z0, z1, z2, z3, hg⟩ := Blk.four (ht.blk ((Blk.new w _ _).drewN _) (by omega))
  have HX := hid hx
  have HT := hid ht
  have HMN := hid hmn
  clear hx ht hmn
  go_wp2_with fail
  (try simp only [Exit.inBlock, Exit.then])
  refine bodyPost_ret (v := .tuple #[.agg #[.int .i64 k, .string tx, .int .i64 f, .int .i64 t], .bool b]) (by simp [results, Tryz.results105, go_sem, q0, q1, q2, q3]) rfl ?_
  exact LexRes.close hL HX.out HT.out.preN HMN.out
set_option maxRecDepth 100000 in
set_option maxHeartbeats 400000 in
theorem next_break (L : Nat) (s : ByteArray) (a : Nat) (p e : Int) (w : World) (h : LexAt w L s a p e) (hm : s.size ≤ maxLen) (ha : a < s.size) (r : Lx.Res) (F2 : (Lx.clsI s.data.toList a == 2) = false) (F5 : (Lx.clsI s.data.toList a == 5) = false) (C34 : ((s.extract a (a + 1)).toList == [34]) = false) (C92 : ((s.extract a (a + 1)).toList == [92]) = true) (hs : a + 1 < s.size) (De92 : (((s[a + 1]'hs).toNat : Int) == 92) = true) (hr : Lx.lim 2 ⟨8, (⟨#[92, 92]⟩ : ByteArray).data.toList⟩ 2 = r) :
  Calls Tryz.prog 105 #[.pointer (some ⟨L, 0, none⟩)] w (LexRes w L s a p e r) := by
 obtain ⟨g1, g2, g3, g4, f1, f2, f3, hL⟩ := lex_reads h
 have HM := hm
 have _ha := ha
 unfold maxLen at hm
 have H := hid h
 clear h
 have a0 : (0 : Int) ≤ (a : Int) := by omega
 have a1 : (a : Int) < (s.size : Int) := by omega
 have a2 : (a : Int) + 1 ≤ (s.size : Int) := by omega
 have S1 : decide ((a : Int) + 1 < (s.size : Int)) = true := by simp; omega
 have S2 : (a : Int) + 1 < (s.size : Int) := by omega
 have S3 : (0 : Int) ≤ (a : Int) + 1 := by omega
 go_enter Tryz.func105, Tryz.ntmps105
 go_wp2_with (go_at_call 130; refine (is_any L s a p e _ _ _ (by first | exact H.out.alloc _ | exact (H.out.alloc _).drewN _) (by omega) (by omega)).mono ?_; rintro e' w' ⟨rfl, n, rfl⟩)
 all_goals
  refine (token_as L s a p e _ 8 _ _ 2 2 _ _ r hr ((H.out.alloc _).drewN _) rfl rfl rfl).mono ?_
  rintro e' w' ⟨k, tx, f, t, b, a', p', e2, rfl, hx, ht, hmn⟩
  obtain ⟨q0, q1, q2, q3, z0, z1, z2, z3, hg⟩ := Blk.four (ht.blk ((Blk.new w _ _).drewN _) (by omega))
  have HX := hid hx
  have HT := hid ht
  have HMN := hid hmn
  clear hx ht hmn
  go_wp2_with fail
  (try simp only [Exit.inBlock, Exit.then])
  refine bodyPost_ret (v := .tuple #[.agg #[.int .i64 k, .string tx, .int .i64 f, .int .i64 t], .bool b]) (by simp [results, Tryz.results105, go_sem, q0, q1, q2, q3]) rfl ?_
  exact LexRes.close hL HX.out HT.out.preN HMN.out
set_option maxRecDepth 100000 in
set_option maxHeartbeats 400000 in
theorem next_name (L : Nat) (s : ByteArray) (a : Nat) (p e : Int) (w : World) (h : LexAt w L s a p e) (hm : s.size ≤ maxLen) (ha : a < s.size) (r : Lx.Res) (F2 : (Lx.clsI s.data.toList a == 2) = false) (F5 : (Lx.clsI s.data.toList a == 5) = false) (C34 : ((s.extract a (a + 1)).toList == [34]) = false) (C92 : ((s.extract a (a + 1)).toList == [92]) = true) (hs : a + 1 < s.size) (De92 : (((s[a + 1]'hs).toNat : Int) == 92) = false) (N3 : (Lx.clsI s.data.toList (a + 1) == 3) = true) (hq : ∀ w : World, LexAt w L s a p e → Calls Tryz.prog 134 #[.pointer (some ⟨L, 0, none⟩)] w (LexRes w L s a p e r)) :
  Calls Tryz.prog 105 #[.pointer (some ⟨L, 0, none⟩)] w (LexRes w L s a p e r) := by
 obtain ⟨g1, g2, g3, g4, f1, f2, f3, hL⟩ := lex_reads h
 have HM := hm
 have _ha := ha
 unfold maxLen at hm
 have H := hid h
 clear h
 have a0 : (0 : Int) ≤ (a : Int) := by omega
 have a1 : (a : Int) < (s.size : Int) := by omega
 have a2 : (a : Int) + 1 ≤ (s.size : Int) := by omega
 have S1 : decide ((a : Int) + 1 < (s.size : Int)) = true := by simp; omega
 have S2 : (a : Int) + 1 < (s.size : Int) := by omega
 have S3 : (0 : Int) ≤ (a : Int) + 1 := by omega
 have N3' : (Lx.clsI s.data.toList ((a : Int) + 1).toNat == 3) = true := by rw [show ((a : Int) + 1).toNat = a + 1 from by omega]; exact N3
 have HQ := hid hq
 clear hq
 go_enter Tryz.func105, Tryz.ntmps105
 go_wp2_with (go_at_call 130; refine (is_any L s a p e _ _ _ (by first | exact H.out.alloc _ | exact (H.out.alloc _).drewN _) (by omega) (by omega)).mono ?_; rintro e' w' ⟨rfl, n, rfl⟩)
 all_goals
  refine (HQ.out _ ((H.out.alloc _).drewN _)).mono ?_
  rintro e' w' ⟨k, tx, f, t, b, a', p', e2, rfl, hx, ht, hmn⟩
  obtain ⟨q0, q1, q2, q3, z0, z1, z2, z3, hg⟩ := Blk.four (ht.blk ((Blk.new w _ _).drewN _) (by omega))
  have HX := hid hx
  have HT := hid ht
  have HMN := hid hmn
  clear hx ht hmn
  go_wp2_with fail
  (try simp only [Exit.inBlock, Exit.then])
  refine bodyPost_ret (v := .tuple #[.agg #[.int .i64 k, .string tx, .int .i64 f, .int .i64 t], .bool b]) (by simp [results, Tryz.results105, go_sem, q0, q1, q2, q3]) rfl ?_
  exact LexRes.close hL HX.out HT.out.preN HMN.out
set_option maxRecDepth 100000 in
set_option maxHeartbeats 400000 in
theorem next_slash_a (L : Nat) (s : ByteArray) (a : Nat) (p e : Int) (w : World) (h : LexAt w L s a p e) (hm : s.size ≤ maxLen) (ha : a < s.size) (r : Lx.Res) (F2 : (Lx.clsI s.data.toList a == 2) = false) (F5 : (Lx.clsI s.data.toList a == 5) = false) (C34 : ((s.extract a (a + 1)).toList == [34]) = false) (C92 : ((s.extract a (a + 1)).toList == [92]) = true) (C35 : ((s.extract a (a + 1)).toList == [35]) = false) (hs : a + 1 < s.size) (De92 : (((s[a + 1]'hs).toNat : Int) == 92) = false) (N3 : (Lx.clsI s.data.toList (a + 1) == 3) = false) (F3 : (Lx.clsI s.data.toList a == 3) = false) (F4 : (Lx.clsI s.data.toList a == 4) = false) (hr : Lx.Res.err 0 3 = r) :
  Calls Tryz.prog 105 #[.pointer (some ⟨L, 0, none⟩)] w (LexRes w L s a p e r) := by
 obtain ⟨g1, g2, g3, g4, f1, f2, f3, hL⟩ := lex_reads h
 have HM := hm
 have _ha := ha
 unfold maxLen at hm
 have H := hid h
 clear h
 have a0 : (0 : Int) ≤ (a : Int) := by omega
 have a1 : (a : Int) < (s.size : Int) := by omega
 have a2 : (a : Int) + 1 ≤ (s.size : Int) := by omega
 have S1 : decide ((a : Int) + 1 < (s.size : Int)) = true := by simp; omega
 have S2 : (a : Int) + 1 < (s.size : Int) := by omega
 have S3 : (0 : Int) ≤ (a : Int) + 1 := by omega
 have N3' : (Lx.clsI s.data.toList ((a : Int) + 1).toNat == 3) = false := by rw [show ((a : Int) + 1).toNat = a + 1 from by omega]; exact N3
 go_enter Tryz.func105, Tryz.ntmps105
 go_wp2_with (go_at_call 130; refine (is_any L s a p e _ _ _ (by first | exact H.out.alloc _ | exact (H.out.alloc _).drewN _) (by omega) (by omega)).mono ?_; rintro e' w' ⟨rfl, n, rfl⟩)
 all_goals
  refine (fail_as L s a p e _ _ 0 3 _ r hr ((H.out.alloc _).drewN _) rfl rfl).mono ?_
  rintro e' w' ⟨k, tx, f, t, b, a', p', e2, rfl, hx, ht, hmn⟩
  obtain ⟨q0, q1, q2, q3, z0, z1, z2, z3, hg⟩ := Blk.four (ht.blk ((Blk.new w _ _).drewN _) (by omega))
  have HX := hid hx
  have HT := hid ht
  have HMN := hid hmn
  clear hx ht hmn
  go_wp2_with fail
  (try simp only [Exit.inBlock, Exit.then])
  refine bodyPost_ret (v := .tuple #[.agg #[.int .i64 k, .string tx, .int .i64 f, .int .i64 t], .bool b]) (by simp [results, Tryz.results105, go_sem, q0, q1, q2, q3]) rfl ?_
  exact LexRes.close hL HX.out HT.out.preN HMN.out
set_option maxRecDepth 100000 in
set_option maxHeartbeats 400000 in
theorem next_slash_b (L : Nat) (s : ByteArray) (a : Nat) (p e : Int) (w : World) (h : LexAt w L s a p e) (hm : s.size ≤ maxLen) (ha : a < s.size) (r : Lx.Res) (F2 : (Lx.clsI s.data.toList a == 2) = false) (F5 : (Lx.clsI s.data.toList a == 5) = false) (C34 : ((s.extract a (a + 1)).toList == [34]) = false) (C92 : ((s.extract a (a + 1)).toList == [92]) = true) (C35 : ((s.extract a (a + 1)).toList == [35]) = false) (hs : ¬ a + 1 < s.size) (N3 : (Lx.clsI s.data.toList (a + 1) == 3) = false) (F3 : (Lx.clsI s.data.toList a == 3) = false) (F4 : (Lx.clsI s.data.toList a == 4) = false) (hr : Lx.Res.err 0 3 = r) :
  Calls Tryz.prog 105 #[.pointer (some ⟨L, 0, none⟩)] w (LexRes w L s a p e r) := by
 obtain ⟨g1, g2, g3, g4, f1, f2, f3, hL⟩ := lex_reads h
 have HM := hm
 have _ha := ha
 unfold maxLen at hm
 have H := hid h
 clear h
 have a0 : (0 : Int) ≤ (a : Int) := by omega
 have a1 : (a : Int) < (s.size : Int) := by omega
 have a2 : (a : Int) + 1 ≤ (s.size : Int) := by omega
 have S1 : decide ((a : Int) + 1 < (s.size : Int)) = false := by simp; omega
 have N3' : (Lx.clsI s.data.toList ((a : Int) + 1).toNat == 3) = false := by rw [show ((a : Int) + 1).toNat = a + 1 from by omega]; exact N3
 go_enter Tryz.func105, Tryz.ntmps105
 go_wp2_with (go_at_call 130; refine (is_any L s a p e _ _ _ (by first | exact H.out.alloc _ | exact (H.out.alloc _).drewN _) (by omega) (by omega)).mono ?_; rintro e' w' ⟨rfl, n, rfl⟩)
 all_goals
  refine (fail_as L s a p e _ _ 0 3 _ r hr ((H.out.alloc _).drewN _) rfl rfl).mono ?_
  rintro e' w' ⟨k, tx, f, t, b, a', p', e2, rfl, hx, ht, hmn⟩
  obtain ⟨q0, q1, q2, q3, z0, z1, z2, z3, hg⟩ := Blk.four (ht.blk ((Blk.new w _ _).drewN _) (by omega))
  have HX := hid hx
  have HT := hid ht
  have HMN := hid hmn
  clear hx ht hmn
  go_wp2_with fail
  (try simp only [Exit.inBlock, Exit.then])
  refine bodyPost_ret (v := .tuple #[.agg #[.int .i64 k, .string tx, .int .i64 f, .int .i64 t], .bool b]) (by simp [results, Tryz.results105, go_sem, q0, q1, q2, q3]) rfl ?_
  exact LexRes.close hL HX.out HT.out.preN HMN.out
set_option maxRecDepth 100000 in
set_option maxHeartbeats 400000 in
theorem next_param (L : Nat) (s : ByteArray) (a : Nat) (p e : Int) (w : World) (h : LexAt w L s a p e) (hm : s.size ≤ maxLen) (ha : a < s.size) (r : Lx.Res) (F2 : (Lx.clsI s.data.toList a == 2) = false) (F5 : (Lx.clsI s.data.toList a == 5) = false) (C34 : ((s.extract a (a + 1)).toList == [34]) = false) (C92 : ((s.extract a (a + 1)).toList == [92]) = false) (C35 : ((s.extract a (a + 1)).toList == [35]) = true) (hs : a + 1 < s.size) (Dg49 : decide (49 ≤ ((s[a + 1]'hs).toNat : Int)) = true) (Dl52 : decide (((s[a + 1]'hs).toNat : Int) ≤ 52) = true) (hr : Lx.lim 1 ⟨6, (Utf8.encode (wrap32 ((s[a + 1]'hs).toNat : Int))).data.toList⟩ 2 = r) :
  Calls Tryz.prog 105 #[.pointer (some ⟨L, 0, none⟩)] w (LexRes w L s a p e r) := by
 obtain ⟨g1, g2, g3, g4, f1, f2, f3, hL⟩ := lex_reads h
 have HM := hm
 have _ha := ha
 unfold maxLen at hm
 have H := hid h
 clear h
 have a0 : (0 : Int) ≤ (a : Int) := by omega
 have a1 : (a : Int) < (s.size : Int) := by omega
 have a2 : (a : Int) + 1 ≤ (s.size : Int) := by omega
 have S1 : decide ((a : Int) + 1 < (s.size : Int)) = true := by simp; omega
 have S2 : (a : Int) + 1 < (s.size : Int) := by omega
 have S3 : (0 : Int) ≤ (a : Int) + 1 := by omega
 go_enter Tryz.func105, Tryz.ntmps105
 go_wp2_with (go_at_call 130; refine (is_any L s a p e _ _ _ (by first | exact H.out.alloc _ | exact (H.out.alloc _).drewN _) (by omega) (by omega)).mono ?_; rintro e' w' ⟨rfl, n, rfl⟩)
 all_goals
  generalize Utf8.encode (wrap32 ((s[a + 1]'hs).toNat : Int)) = tx0 at hr ⊢
  refine (token_as L s a p e _ 6 _ _ 2 1 _ _ r hr ((H.out.alloc _).drewN _) rfl rfl rfl).mono ?_
  rintro e' w' ⟨k, tx, f, t, b, a', p', e2, rfl, hx, ht, hmn⟩
  obtain ⟨q0, q1, q2, q3, z0, z1, z2, z3, hg⟩ := Blk.four (ht.blk ((Blk.new w _ _).drewN _) (by omega))
  have HX := hid hx
  have HT := hid ht
  have HMN := hid hmn
  clear hx ht hmn
  go_wp2_with fail
  (try simp only [Exit.inBlock, Exit.then])
  refine bodyPost_ret (v := .tuple #[.agg #[.int .i64 k, .string tx, .int .i64 f, .int .i64 t], .bool b]) (by simp [results, Tryz.results105, go_sem, q0, q1, q2, q3]) rfl ?_
  exact LexRes.close hL HX.out HT.out.preN HMN.out
set_option maxRecDepth 100000 in
set_option maxHeartbeats 400000 in
theorem next_hash_a (L : Nat) (s : ByteArray) (a : Nat) (p e : Int) (w : World) (h : LexAt w L s a p e) (hm : s.size ≤ maxLen) (ha : a < s.size) (r : Lx.Res) (F2 : (Lx.clsI s.data.toList a == 2) = false) (F5 : (Lx.clsI s.data.toList a == 5) = false) (C34 : ((s.extract a (a + 1)).toList == [34]) = false) (C92 : ((s.extract a (a + 1)).toList == [92]) = false) (C35 : ((s.extract a (a + 1)).toList == [35]) = true) (hs : a + 1 < s.size) (Dg49 : decide (49 ≤ ((s[a + 1]'hs).toNat : Int)) = false) (F3 : (Lx.clsI s.data.toList a == 3) = false) (F4 : (Lx.clsI s.data.toList a == 4) = false) (hr : Lx.Res.err 0 3 = r) :
  Calls Tryz.prog 105 #[.pointer (some ⟨L, 0, none⟩)] w (LexRes w L s a p e r) := by
 obtain ⟨g1, g2, g3, g4, f1, f2, f3, hL⟩ := lex_reads h
 have HM := hm
 have _ha := ha
 unfold maxLen at hm
 have H := hid h
 clear h
 have a0 : (0 : Int) ≤ (a : Int) := by omega
 have a1 : (a : Int) < (s.size : Int) := by omega
 have a2 : (a : Int) + 1 ≤ (s.size : Int) := by omega
 have S1 : decide ((a : Int) + 1 < (s.size : Int)) = true := by simp; omega
 have S2 : (a : Int) + 1 < (s.size : Int) := by omega
 have S3 : (0 : Int) ≤ (a : Int) + 1 := by omega
 go_enter Tryz.func105, Tryz.ntmps105
 go_wp2_with (go_at_call 130; refine (is_any L s a p e _ _ _ (by first | exact H.out.alloc _ | exact (H.out.alloc _).drewN _) (by omega) (by omega)).mono ?_; rintro e' w' ⟨rfl, n, rfl⟩)
 all_goals
  refine (fail_as L s a p e _ _ 0 3 _ r hr ((H.out.alloc _).drewN _) rfl rfl).mono ?_
  rintro e' w' ⟨k, tx, f, t, b, a', p', e2, rfl, hx, ht, hmn⟩
  obtain ⟨q0, q1, q2, q3, z0, z1, z2, z3, hg⟩ := Blk.four (ht.blk ((Blk.new w _ _).drewN _) (by omega))
  have HX := hid hx
  have HT := hid ht
  have HMN := hid hmn
  clear hx ht hmn
  go_wp2_with fail
  (try simp only [Exit.inBlock, Exit.then])
  refine bodyPost_ret (v := .tuple #[.agg #[.int .i64 k, .string tx, .int .i64 f, .int .i64 t], .bool b]) (by simp [results, Tryz.results105, go_sem, q0, q1, q2, q3]) rfl ?_
  exact LexRes.close hL HX.out HT.out.preN HMN.out
set_option maxRecDepth 100000 in
set_option maxHeartbeats 400000 in
theorem next_hash_b (L : Nat) (s : ByteArray) (a : Nat) (p e : Int) (w : World) (h : LexAt w L s a p e) (hm : s.size ≤ maxLen) (ha : a < s.size) (r : Lx.Res) (F2 : (Lx.clsI s.data.toList a == 2) = false) (F5 : (Lx.clsI s.data.toList a == 5) = false) (C34 : ((s.extract a (a + 1)).toList == [34]) = false) (C92 : ((s.extract a (a + 1)).toList == [92]) = false) (C35 : ((s.extract a (a + 1)).toList == [35]) = true) (hs : a + 1 < s.size) (Dg49 : decide (49 ≤ ((s[a + 1]'hs).toNat : Int)) = true) (Dl52 : decide (((s[a + 1]'hs).toNat : Int) ≤ 52) = false) (F3 : (Lx.clsI s.data.toList a == 3) = false) (F4 : (Lx.clsI s.data.toList a == 4) = false) (hr : Lx.Res.err 0 3 = r) :
  Calls Tryz.prog 105 #[.pointer (some ⟨L, 0, none⟩)] w (LexRes w L s a p e r) := by
 obtain ⟨g1, g2, g3, g4, f1, f2, f3, hL⟩ := lex_reads h
 have HM := hm
 have _ha := ha
 unfold maxLen at hm
 have H := hid h
 clear h
 have a0 : (0 : Int) ≤ (a : Int) := by omega
 have a1 : (a : Int) < (s.size : Int) := by omega
 have a2 : (a : Int) + 1 ≤ (s.size : Int) := by omega
 have S1 : decide ((a : Int) + 1 < (s.size : Int)) = true := by simp; omega
 have S2 : (a : Int) + 1 < (s.size : Int) := by omega
 have S3 : (0 : Int) ≤ (a : Int) + 1 := by omega
 go_enter Tryz.func105, Tryz.ntmps105
 go_wp2_with (go_at_call 130; refine (is_any L s a p e _ _ _ (by first | exact H.out.alloc _ | exact (H.out.alloc _).drewN _) (by omega) (by omega)).mono ?_; rintro e' w' ⟨rfl, n, rfl⟩)
 all_goals
  refine (fail_as L s a p e _ _ 0 3 _ r hr ((H.out.alloc _).drewN _) rfl rfl).mono ?_
  rintro e' w' ⟨k, tx, f, t, b, a', p', e2, rfl, hx, ht, hmn⟩
  obtain ⟨q0, q1, q2, q3, z0, z1, z2, z3, hg⟩ := Blk.four (ht.blk ((Blk.new w _ _).drewN _) (by omega))
  have HX := hid hx
  have HT := hid ht
  have HMN := hid hmn
  clear hx ht hmn
  go_wp2_with fail
  (try simp only [Exit.inBlock, Exit.then])
  refine bodyPost_ret (v := .tuple #[.agg #[.int .i64 k, .string tx, .int .i64 f, .int .i64 t], .bool b]) (by simp [results, Tryz.results105, go_sem, q0, q1, q2, q3]) rfl ?_
  exact LexRes.close hL HX.out HT.out.preN HMN.out
set_option maxRecDepth 100000 in
set_option maxHeartbeats 400000 in
theorem next_hash_c (L : Nat) (s : ByteArray) (a : Nat) (p e : Int) (w : World) (h : LexAt w L s a p e) (hm : s.size ≤ maxLen) (ha : a < s.size) (r : Lx.Res) (F2 : (Lx.clsI s.data.toList a == 2) = false) (F5 : (Lx.clsI s.data.toList a == 5) = false) (C34 : ((s.extract a (a + 1)).toList == [34]) = false) (C92 : ((s.extract a (a + 1)).toList == [92]) = false) (C35 : ((s.extract a (a + 1)).toList == [35]) = true) (hs : ¬ a + 1 < s.size) (F3 : (Lx.clsI s.data.toList a == 3) = false) (F4 : (Lx.clsI s.data.toList a == 4) = false) (hr : Lx.Res.err 0 3 = r) :
  Calls Tryz.prog 105 #[.pointer (some ⟨L, 0, none⟩)] w (LexRes w L s a p e r) := by
 obtain ⟨g1, g2, g3, g4, f1, f2, f3, hL⟩ := lex_reads h
 have HM := hm
 have _ha := ha
 unfold maxLen at hm
 have H := hid h
 clear h
 have a0 : (0 : Int) ≤ (a : Int) := by omega
 have a1 : (a : Int) < (s.size : Int) := by omega
 have a2 : (a : Int) + 1 ≤ (s.size : Int) := by omega
 have S1 : decide ((a : Int) + 1 < (s.size : Int)) = false := by simp; omega
 go_enter Tryz.func105, Tryz.ntmps105
 go_wp2_with (go_at_call 130; refine (is_any L s a p e _ _ _ (by first | exact H.out.alloc _ | exact (H.out.alloc _).drewN _) (by omega) (by omega)).mono ?_; rintro e' w' ⟨rfl, n, rfl⟩)
 all_goals
  refine (fail_as L s a p e _ _ 0 3 _ r hr ((H.out.alloc _).drewN _) rfl rfl).mono ?_
  rintro e' w' ⟨k, tx, f, t, b, a', p', e2, rfl, hx, ht, hmn⟩
  obtain ⟨q0, q1, q2, q3, z0, z1, z2, z3, hg⟩ := Blk.four (ht.blk ((Blk.new w _ _).drewN _) (by omega))
  have HX := hid hx
  have HT := hid ht
  have HMN := hid hmn
  clear hx ht hmn
  go_wp2_with fail
  (try simp only [Exit.inBlock, Exit.then])
  refine bodyPost_ret (v := .tuple #[.agg #[.int .i64 k, .string tx, .int .i64 f, .int .i64 t], .bool b]) (by simp [results, Tryz.results105, go_sem, q0, q1, q2, q3]) rfl ?_
  exact LexRes.close hL HX.out HT.out.preN HMN.out
set_option maxRecDepth 100000 in
set_option maxHeartbeats 400000 in
theorem next_letter (L : Nat) (s : ByteArray) (a : Nat) (p e : Int) (w : World) (h : LexAt w L s a p e) (hm : s.size ≤ maxLen) (ha : a < s.size) (r : Lx.Res) (F2 : (Lx.clsI s.data.toList a == 2) = false) (F5 : (Lx.clsI s.data.toList a == 5) = false) (C34 : ((s.extract a (a + 1)).toList == [34]) = false) (C92 : ((s.extract a (a + 1)).toList == [92]) = false) (C35 : ((s.extract a (a + 1)).toList == [35]) = false) (F3 : (Lx.clsI s.data.toList a == 3) = true) (hr : Lx.lim 1 ⟨1, (s.extract a (a + 1)).data.toList⟩ 1 = r) :
  Calls Tryz.prog 105 #[.pointer (some ⟨L, 0, none⟩)] w (LexRes w L s a p e r) := by
 obtain ⟨g1, g2, g3, g4, f1, f2, f3, hL⟩ := lex_reads h
 have HM := hm
 have _ha := ha
 unfold maxLen at hm
 have H := hid h
 clear h
 have a0 : (0 : Int) ≤ (a : Int) := by omega
 have a1 : (a : Int) < (s.size : Int) := by omega
 have a2 : (a : Int) + 1 ≤ (s.size : Int) := by omega
 go_enter Tryz.func105, Tryz.ntmps105
 go_wp2_with (go_at_call 130; refine (is_any L s a p e _ _ _ (by first | exact H.out.alloc _ | exact (H.out.alloc _).drewN _) (by omega) (by omega)).mono ?_; rintro e' w' ⟨rfl, n, rfl⟩)
 all_goals
  refine (token_as L s a p e _ 1 _ _ 1 1 _ _ r hr ((H.out.alloc _).drewN _) rfl rfl rfl).mono ?_
  rintro e' w' ⟨k, tx, f, t, b, a', p', e2, rfl, hx, ht, hmn⟩
  obtain ⟨q0, q1, q2, q3, z0, z1, z2, z3, hg⟩ := Blk.four (ht.blk ((Blk.new w _ _).drewN _) (by omega))
  have HX := hid hx
  have HT := hid ht
  have HMN := hid hmn
  clear hx ht hmn
  go_wp2_with fail
  (try simp only [Exit.inBlock, Exit.then])
  refine bodyPost_ret (v := .tuple #[.agg #[.int .i64 k, .string tx, .int .i64 f, .int .i64 t], .bool b]) (by simp [results, Tryz.results105, go_sem, q0, q1, q2, q3]) rfl ?_
  exact LexRes.close hL HX.out HT.out.preN HMN.out
set_option maxRecDepth 100000 in
set_option maxHeartbeats 400000 in
theorem next_sign (L : Nat) (s : ByteArray) (a : Nat) (p e : Int) (w : World) (h : LexAt w L s a p e) (hm : s.size ≤ maxLen) (ha : a < s.size) (r : Lx.Res) (F2 : (Lx.clsI s.data.toList a == 2) = false) (F5 : (Lx.clsI s.data.toList a == 5) = false) (C34 : ((s.extract a (a + 1)).toList == [34]) = false) (C92 : ((s.extract a (a + 1)).toList == [92]) = false) (C35 : ((s.extract a (a + 1)).toList == [35]) = false) (F3 : (Lx.clsI s.data.toList a == 3) = false) (F4 : (Lx.clsI s.data.toList a == 4) = true) (hr : Lx.lim 1 ⟨1, (s.extract a (a + 1)).data.toList⟩ 1 = r) :
  Calls Tryz.prog 105 #[.pointer (some ⟨L, 0, none⟩)] w (LexRes w L s a p e r) := by
 obtain ⟨g1, g2, g3, g4, f1, f2, f3, hL⟩ := lex_reads h
 have HM := hm
 have _ha := ha
 unfold maxLen at hm
 have H := hid h
 clear h
 have a0 : (0 : Int) ≤ (a : Int) := by omega
 have a1 : (a : Int) < (s.size : Int) := by omega
 have a2 : (a : Int) + 1 ≤ (s.size : Int) := by omega
 go_enter Tryz.func105, Tryz.ntmps105
 go_wp2_with (go_at_call 130; refine (is_any L s a p e _ _ _ (by first | exact H.out.alloc _ | exact (H.out.alloc _).drewN _) (by omega) (by omega)).mono ?_; rintro e' w' ⟨rfl, n, rfl⟩)
 all_goals
  refine (token_as L s a p e _ 1 _ _ 1 1 _ _ r hr ((H.out.alloc _).drewN _) rfl rfl rfl).mono ?_
  rintro e' w' ⟨k, tx, f, t, b, a', p', e2, rfl, hx, ht, hmn⟩
  obtain ⟨q0, q1, q2, q3, z0, z1, z2, z3, hg⟩ := Blk.four (ht.blk ((Blk.new w _ _).drewN _) (by omega))
  have HX := hid hx
  have HT := hid ht
  have HMN := hid hmn
  clear hx ht hmn
  go_wp2_with fail
  (try simp only [Exit.inBlock, Exit.then])
  refine bodyPost_ret (v := .tuple #[.agg #[.int .i64 k, .string tx, .int .i64 f, .int .i64 t], .bool b]) (by simp [results, Tryz.results105, go_sem, q0, q1, q2, q3]) rfl ?_
  exact LexRes.close hL HX.out HT.out.preN HMN.out
set_option maxRecDepth 100000 in
set_option maxHeartbeats 400000 in
theorem next_none (L : Nat) (s : ByteArray) (a : Nat) (p e : Int) (w : World) (h : LexAt w L s a p e) (hm : s.size ≤ maxLen) (ha : a < s.size) (r : Lx.Res) (F2 : (Lx.clsI s.data.toList a == 2) = false) (F5 : (Lx.clsI s.data.toList a == 5) = false) (C34 : ((s.extract a (a + 1)).toList == [34]) = false) (C92 : ((s.extract a (a + 1)).toList == [92]) = false) (C35 : ((s.extract a (a + 1)).toList == [35]) = false) (F3 : (Lx.clsI s.data.toList a == 3) = false) (F4 : (Lx.clsI s.data.toList a == 4) = false) (hr : Lx.Res.err 0 3 = r) :
  Calls Tryz.prog 105 #[.pointer (some ⟨L, 0, none⟩)] w (LexRes w L s a p e r) := by
 obtain ⟨g1, g2, g3, g4, f1, f2, f3, hL⟩ := lex_reads h
 have HM := hm
 have _ha := ha
 unfold maxLen at hm
 have H := hid h
 clear h
 have a0 : (0 : Int) ≤ (a : Int) := by omega
 have a1 : (a : Int) < (s.size : Int) := by omega
 have a2 : (a : Int) + 1 ≤ (s.size : Int) := by omega
 go_enter Tryz.func105, Tryz.ntmps105
 go_wp2_with (go_at_call 130; refine (is_any L s a p e _ _ _ (by first | exact H.out.alloc _ | exact (H.out.alloc _).drewN _) (by omega) (by omega)).mono ?_; rintro e' w' ⟨rfl, n, rfl⟩)
 all_goals
  refine (fail_as L s a p e _ _ 0 3 _ r hr ((H.out.alloc _).drewN _) rfl rfl).mono ?_
  rintro e' w' ⟨k, tx, f, t, b, a', p', e2, rfl, hx, ht, hmn⟩
  obtain ⟨q0, q1, q2, q3, z0, z1, z2, z3, hg⟩ := Blk.four (ht.blk ((Blk.new w _ _).drewN _) (by omega))
  have HX := hid hx
  have HT := hid ht
  have HMN := hid hmn
  clear hx ht hmn
  go_wp2_with fail
  (try simp only [Exit.inBlock, Exit.then])
  refine bodyPost_ret (v := .tuple #[.agg #[.int .i64 k, .string tx, .int .i64 f, .int .i64 t], .bool b]) (by simp [results, Tryz.results105, go_sem, q0, q1, q2, q3]) rfl ?_
  exact LexRes.close hL HX.out HT.out.preN HMN.out
end Go.Proofs.YtncnoeoicaglaaaGreat
