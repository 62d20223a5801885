/- Part 14 of 42 of a proof; its texts, joined: LxF, LxG. No condition. -/
import Derived.Test.YtomibmenojdieaaGreatXx13
import Derived.Test.YtomibmenojdieaaGreatShelf
import Derived.Lib.IndexLaws
set_option maxRecDepth 100000
set_option maxHeartbeats 400000
namespace Go.Proofs.YtomibmenojdieaaGreat
open Go.RowKit
theorem token_as (L : Nat) (s : ByteArray) (a : Nat) (p e : Int) (k : Int) (kd : Nat) (text : ByteArray) (to_ : Int) (n most : Nat) (mostI : Int) (w : World) (r : Lx.Res) (hr : Lx.lim most ⟨kd, text.data.toList⟩ n = r) (h : LexAt w L s a p e) (hk : k = kd) (ht : to_ = (a + n : Nat)) (hmost : mostI = most) :
  Calls Tryz.prog 84 #[.pointer (some ⟨L, 0, none⟩), .int .i64 k, .string text, .int .i64 to_, .int .i64 mostI] w (LexRes w L s a p e r) := by
 subst hr;exact token_any L s a p e k kd text to_ n most mostI w h hk ht hmost
theorem fail_as (L : Nat) (s : ByteArray) (a : Nat) (p e : Int) (pl er : Int) (i erN : Nat) (w : World) (r : Lx.Res) (hr : Lx.Res.err i erN = r) (h : LexAt w L s a p e) (hp : pl = (a + i : Nat)) (he : er = erN) :
  Calls Tryz.prog 87 #[.pointer (some ⟨L, 0, none⟩), .int .i64 pl, .int .i64 er] w (LexRes w L s a p e r) := by
 subst hr hp he;exact (fail_any L s a p e _ _ w h).mono fun e' w' ⟨h1, h2, h3⟩ => ⟨_, _, _, _, _, _, _, _, h1, h2, h3, rfl, rfl, rfl, rfl, rfl, rfl, rfl, rfl⟩
theorem one_byte (s : ByteArray) (a : Nat) (h : a < s.size) : (s.extract a (a + 1)).data.toList = [s[a]] := by
 have h1 : s.data.toList.drop a = s[a] :: s.data.toList.drop (a + 1) := List.drop_eq_getElem_cons (by simpa using h);simp [ByteArray.data_extract, Array.toList_extract, List.extract_eq_take_drop, h1]
theorem one_byte_eq (s : ByteArray) (a : Nat) (h : a < s.size) (x : UInt8) : ((s.extract a (a + 1)).toList == [x]) = (s[a] == x) := by
 have h1 : (s.extract a (a + 1)).toList = [s[a]] := by rw [ByteArray.toList_eq]; exact one_byte s a h
 rw [h1];simp
theorem utf8_digit (d : UInt8) (h1 : 49 ≤ d.toNat) (h2 : d.toNat ≤ 52) : (Utf8.encode (d.toNat : Int)).data.toList = [d] := by
 have : d.toNat = 49 ∨ d.toNat = 50 ∨ d.toNat = 51 ∨ d.toNat = 52 := by omega
 rcases this with h | h | h | h <;> (have hd := UInt8.toNat_inj.1 (show d.toNat = (UInt8.ofNat d.toNat).toNat by simp); rw [h] at hd; subst hd; decide +kernel)
theorem next_number (L : Nat) (s : ByteArray) (a : Nat) (p e : Int) (w : World) (h : LexAt w L s a p e) (hm : s.size ≤ maxLen) (ha : a < s.size) (r : Lx.Res) (F2 : (Lx.clsI s.data.toList a == 2) = true) (hr : Lx.number (s.data.toList.drop a) = r) :
  Calls Tryz.prog 65 #[.pointer (some ⟨L, 0, none⟩)] w (LexRes w L s a p e r) := by
 obtain ⟨g1, g2, g3, g4, f1, f2, f3, hL⟩ := lex_reads h;have HM := hm;have _ha := ha;unfold maxLen at hm;have H := hid h;clear h;have a0 : (0 : Int) ≤ (a : Int) := by omega
 have a1 : (a : Int) < (s.size : Int) := by omega
 have a2 : (a : Int) + 1 ≤ (s.size : Int) := by omega
 go_enter Tryz.func65, Tryz.ntmps65
 go_wp2_with (go_at_call 82; refine (is_any L s a p e _ _ _ (by first | exact H.out.alloc _ | exact (H.out.alloc _).drewN _) (by omega) (by omega)).mono ?_; rintro e' w' ⟨rfl, n, rfl⟩)
 all_goals
  refine ((hr ▸ number_any L s a p e _ ((H.out.alloc _).drewN _) HM ha)).mono ?_;rintro e' w' ⟨k, tx, f, t, b, a', p', e2, rfl, hx, ht, hmn⟩;obtain ⟨q0, q1, q2, q3, z0, z1, z2, z3, hg⟩ := Blk.four (ht.blk ((Blk.new w _ _).drewN _) (by omega));have HX := hid hx;have HT := hid ht;have HMN := hid hmn;clear hx ht hmn;go_wp2_with fail
  (try simp only [Exit.inBlock, Exit.then])
  refine bodyPost_ret (v := .tuple #[.agg #[.int .i64 k, .string tx, .int .i64 f, .int .i64 t], .bool b]) (by simp [results, Tryz.results65, go_sem, q0, q1, q2, q3]) rfl ?_;exact LexRes.close hL HX.out HT.out.preN HMN.out
theorem next_mark (L : Nat) (s : ByteArray) (a : Nat) (p e : Int) (w : World) (h : LexAt w L s a p e) (hm : s.size ≤ maxLen) (ha : a < s.size) (r : Lx.Res) (F2 : (Lx.clsI s.data.toList a == 2) = false) (F5 : (Lx.clsI s.data.toList a == 5) = true) (hr : Lx.lim 1 ⟨7, (s.extract a (a + 1)).data.toList⟩ 1 = r) :
  Calls Tryz.prog 65 #[.pointer (some ⟨L, 0, none⟩)] w (LexRes w L s a p e r) := by
 obtain ⟨g1, g2, g3, g4, f1, f2, f3, hL⟩ := lex_reads h;have HM := hm;have _ha := ha;unfold maxLen at hm;have H := hid h;clear h;have a0 : (0 : Int) ≤ (a : Int) := by omega
 have a1 : (a : Int) < (s.size : Int) := by omega
 have a2 : (a : Int) + 1 ≤ (s.size : Int) := by omega
 go_enter Tryz.func65, Tryz.ntmps65
 go_wp2_with (go_at_call 82; refine (is_any L s a p e _ _ _ (by first | exact H.out.alloc _ | exact (H.out.alloc _).drewN _) (by omega) (by omega)).mono ?_; rintro e' w' ⟨rfl, n, rfl⟩)
 all_goals
  refine (token_as L s a p e _ 7 _ _ 1 1 _ _ r hr ((H.out.alloc _).drewN _) rfl rfl rfl).mono ?_;rintro e' w' ⟨k, tx, f, t, b, a', p', e2, rfl, hx, ht, hmn⟩;obtain ⟨q0, q1, q2, q3, z0, z1, z2, z3, hg⟩ := Blk.four (ht.blk ((Blk.new w _ _).drewN _) (by omega));have HX := hid hx;have HT := hid ht;have HMN := hid hmn;clear hx ht hmn;go_wp2_with fail
  (try simp only [Exit.inBlock, Exit.then])
  refine bodyPost_ret (v := .tuple #[.agg #[.int .i64 k, .string tx, .int .i64 f, .int .i64 t], .bool b]) (by simp [results, Tryz.results65, go_sem, q0, q1, q2, q3]) rfl ?_;exact LexRes.close hL HX.out HT.out.preN HMN.out
theorem next_quoted (L : Nat) (s : ByteArray) (a : Nat) (p e : Int) (w : World) (h : LexAt w L s a p e) (hm : s.size ≤ maxLen) (ha : a < s.size) (r : Lx.Res) (F2 : (Lx.clsI s.data.toList a == 2) = false) (F5 : (Lx.clsI s.data.toList a == 5) = false) (C34 : ((s.extract a (a + 1)).toList == [34]) = true) (hq : ∀ w : World, LexAt w L s a p e → Calls Tryz.prog 85 #[.pointer (some ⟨L, 0, none⟩)] w (LexRes w L s a p e r)) :
  Calls Tryz.prog 65 #[.pointer (some ⟨L, 0, none⟩)] w (LexRes w L s a p e r) := by
 obtain ⟨g1, g2, g3, g4, f1, f2, f3, hL⟩ := lex_reads h;have HM := hm;have _ha := ha;unfold maxLen at hm;have H := hid h;clear h;have a0 : (0 : Int) ≤ (a : Int) := by omega
 have a1 : (a : Int) < (s.size : Int) := by omega
 have a2 : (a : Int) + 1 ≤ (s.size : Int) := by omega
 have HQ := hid hq;clear hq;go_enter Tryz.func65, Tryz.ntmps65
 go_wp2_with (go_at_call 82; refine (is_any L s a p e _ _ _ (by first | exact H.out.alloc _ | exact (H.out.alloc _).drewN _) (by omega) (by omega)).mono ?_; rintro e' w' ⟨rfl, n, rfl⟩)
 all_goals
  refine (HQ.out _ ((H.out.alloc _).drewN _)).mono ?_;rintro e' w' ⟨k, tx, f, t, b, a', p', e2, rfl, hx, ht, hmn⟩;obtain ⟨q0, q1, q2, q3, z0, z1, z2, z3, hg⟩ := Blk.four (ht.blk ((Blk.new w _ _).drewN _) (by omega));have HX := hid hx;have HT := hid ht;have HMN := hid hmn;clear hx ht hmn;go_wp2_with fail
  (try simp only [Exit.inBlock, Exit.then])
  refine bodyPost_ret (v := .tuple #[.agg #[.int .i64 k, .string tx, .int .i64 f, .int .i64 t], .bool b]) (by simp [results, Tryz.results65, go_sem, q0, q1, q2, q3]) rfl ?_;exact LexRes.close hL HX.out HT.out.preN HMN.out
theorem next_break (L : Nat) (s : ByteArray) (a : Nat) (p e : Int) (w : World) (h : LexAt w L s a p e) (hm : s.size ≤ maxLen) (ha : a < s.size) (r : Lx.Res) (F2 : (Lx.clsI s.data.toList a == 2) = false) (F5 : (Lx.clsI s.data.toList a == 5) = false) (C34 : ((s.extract a (a + 1)).toList == [34]) = false) (C92 : ((s.extract a (a + 1)).toList == [92]) = true) (hs : a + 1 < s.size) (De92 : (((s[a + 1]'hs).toNat : Int) == 92) = true) (hr : Lx.lim 2 ⟨8, (⟨#[92, 92]⟩ : ByteArray).data.toList⟩ 2 = r) :
  Calls Tryz.prog 65 #[.pointer (some ⟨L, 0, none⟩)] w (LexRes w L s a p e r) := by
 obtain ⟨g1, g2, g3, g4, f1, f2, f3, hL⟩ := lex_reads h;have HM := hm;have _ha := ha;unfold maxLen at hm;have H := hid h;clear h;have a0 : (0 : Int) ≤ (a : Int) := by omega
 have a1 : (a : Int) < (s.size : Int) := by omega
 have a2 : (a : Int) + 1 ≤ (s.size : Int) := by omega
 have S1 : decide ((a : Int) + 1 < (s.size : Int)) = true := by simp; omega
 have S2 : (a : Int) + 1 < (s.size : Int) := by omega
 have S3 : (0 : Int) ≤ (a : Int) + 1 := by omega
 go_enter Tryz.func65, Tryz.ntmps65
 go_wp2_with (go_at_call 82; refine (is_any L s a p e _ _ _ (by first | exact H.out.alloc _ | exact (H.out.alloc _).drewN _) (by omega) (by omega)).mono ?_; rintro e' w' ⟨rfl, n, rfl⟩)
 all_goals
  refine (token_as L s a p e _ 8 _ _ 2 2 _ _ r hr ((H.out.alloc _).drewN _) rfl rfl rfl).mono ?_;rintro e' w' ⟨k, tx, f, t, b, a', p', e2, rfl, hx, ht, hmn⟩;obtain ⟨q0, q1, q2, q3, z0, z1, z2, z3, hg⟩ := Blk.four (ht.blk ((Blk.new w _ _).drewN _) (by omega));have HX := hid hx;have HT := hid ht;have HMN := hid hmn;clear hx ht hmn;go_wp2_with fail
  (try simp only [Exit.inBlock, Exit.then])
  refine bodyPost_ret (v := .tuple #[.agg #[.int .i64 k, .string tx, .int .i64 f, .int .i64 t], .bool b]) (by simp [results, Tryz.results65, go_sem, q0, q1, q2, q3]) rfl ?_;exact LexRes.close hL HX.out HT.out.preN HMN.out
theorem next_name (L : Nat) (s : ByteArray) (a : Nat) (p e : Int) (w : World) (h : LexAt w L s a p e) (hm : s.size ≤ maxLen) (ha : a < s.size) (r : Lx.Res) (F2 : (Lx.clsI s.data.toList a == 2) = false) (F5 : (Lx.clsI s.data.toList a == 5) = false) (C34 : ((s.extract a (a + 1)).toList == [34]) = false) (C92 : ((s.extract a (a + 1)).toList == [92]) = true) (hs : a + 1 < s.size) (De92 : (((s[a + 1]'hs).toNat : Int) == 92) = false) (N3 : (Lx.clsI s.data.toList (a + 1) == 3) = true) (hq : ∀ w : World, LexAt w L s a p e → Calls Tryz.prog 86 #[.pointer (some ⟨L, 0, none⟩)] w (LexRes w L s a p e r)) :
  Calls Tryz.prog 65 #[.pointer (some ⟨L, 0, none⟩)] w (LexRes w L s a p e r) := by
 obtain ⟨g1, g2, g3, g4, f1, f2, f3, hL⟩ := lex_reads h;have HM := hm;have _ha := ha;unfold maxLen at hm;have H := hid h;clear h;have a0 : (0 : Int) ≤ (a : Int) := by omega
 have a1 : (a : Int) < (s.size : Int) := by omega
 have a2 : (a : Int) + 1 ≤ (s.size : Int) := by omega
 have S1 : decide ((a : Int) + 1 < (s.size : Int)) = true := by simp; omega
 have S2 : (a : Int) + 1 < (s.size : Int) := by omega
 have S3 : (0 : Int) ≤ (a : Int) + 1 := by omega
 have N3' : (Lx.clsI s.data.toList ((a : Int) + 1).toNat == 3) = true := by rw [show ((a : Int) + 1).toNat = a + 1 from by omega]; exact N3
 have HQ := hid hq;clear hq;go_enter Tryz.func65, Tryz.ntmps65
 go_wp2_with (go_at_call 82; refine (is_any L s a p e _ _ _ (by first | exact H.out.alloc _ | exact (H.out.alloc _).drewN _) (by omega) (by omega)).mono ?_; rintro e' w' ⟨rfl, n, rfl⟩)
 all_goals
  refine (HQ.out _ ((H.out.alloc _).drewN _)).mono ?_;rintro e' w' ⟨k, tx, f, t, b, a', p', e2, rfl, hx, ht, hmn⟩;obtain ⟨q0, q1, q2, q3, z0, z1, z2, z3, hg⟩ := Blk.four (ht.blk ((Blk.new w _ _).drewN _) (by omega));have HX := hid hx;have HT := hid ht;have HMN := hid hmn;clear hx ht hmn;go_wp2_with fail
  (try simp only [Exit.inBlock, Exit.then])
  refine bodyPost_ret (v := .tuple #[.agg #[.int .i64 k, .string tx, .int .i64 f, .int .i64 t], .bool b]) (by simp [results, Tryz.results65, go_sem, q0, q1, q2, q3]) rfl ?_;exact LexRes.close hL HX.out HT.out.preN HMN.out
theorem next_slash_a (L : Nat) (s : ByteArray) (a : Nat) (p e : Int) (w : World) (h : LexAt w L s a p e) (hm : s.size ≤ maxLen) (ha : a < s.size) (r : Lx.Res) (F2 : (Lx.clsI s.data.toList a == 2) = false) (F5 : (Lx.clsI s.data.toList a == 5) = false) (C34 : ((s.extract a (a + 1)).toList == [34]) = false) (C92 : ((s.extract a (a + 1)).toList == [92]) = true) (C35 : ((s.extract a (a + 1)).toList == [35]) = false) (hs : a + 1 < s.size) (De92 : (((s[a + 1]'hs).toNat : Int) == 92) = false) (N3 : (Lx.clsI s.data.toList (a + 1) == 3) = false) (F3 : (Lx.clsI s.data.toList a == 3) = false) (F4 : (Lx.clsI s.data.toList a == 4) = false) (hr : Lx.Res.err 0 3 = r) :
  Calls Tryz.prog 65 #[.pointer (some ⟨L, 0, none⟩)] w (LexRes w L s a p e r) := by
 obtain ⟨g1, g2, g3, g4, f1, f2, f3, hL⟩ := lex_reads h;have HM := hm;have _ha := ha;unfold maxLen at hm;have H := hid h;clear h;have a0 : (0 : Int) ≤ (a : Int) := by omega
 have a1 : (a : Int) < (s.size : Int) := by omega
 have a2 : (a : Int) + 1 ≤ (s.size : Int) := by omega
 have S1 : decide ((a : Int) + 1 < (s.size : Int)) = true := by simp; omega
 have S2 : (a : Int) + 1 < (s.size : Int) := by omega
 have S3 : (0 : Int) ≤ (a : Int) + 1 := by omega
 have N3' : (Lx.clsI s.data.toList ((a : Int) + 1).toNat == 3) = false := by rw [show ((a : Int) + 1).toNat = a + 1 from by omega]; exact N3
 go_enter Tryz.func65, Tryz.ntmps65
 go_wp2_with (go_at_call 82; refine (is_any L s a p e _ _ _ (by first | exact H.out.alloc _ | exact (H.out.alloc _).drewN _) (by omega) (by omega)).mono ?_; rintro e' w' ⟨rfl, n, rfl⟩)
 all_goals
  refine (fail_as L s a p e _ _ 0 3 _ r hr ((H.out.alloc _).drewN _) rfl rfl).mono ?_;rintro e' w' ⟨k, tx, f, t, b, a', p', e2, rfl, hx, ht, hmn⟩;obtain ⟨q0, q1, q2, q3, z0, z1, z2, z3, hg⟩ := Blk.four (ht.blk ((Blk.new w _ _).drewN _) (by omega));have HX := hid hx;have HT := hid ht;have HMN := hid hmn;clear hx ht hmn;go_wp2_with fail
  (try simp only [Exit.inBlock, Exit.then])
  refine bodyPost_ret (v := .tuple #[.agg #[.int .i64 k, .string tx, .int .i64 f, .int .i64 t], .bool b]) (by simp [results, Tryz.results65, go_sem, q0, q1, q2, q3]) rfl ?_;exact LexRes.close hL HX.out HT.out.preN HMN.out
theorem next_slash_b (L : Nat) (s : ByteArray) (a : Nat) (p e : Int) (w : World) (h : LexAt w L s a p e) (hm : s.size ≤ maxLen) (ha : a < s.size) (r : Lx.Res) (F2 : (Lx.clsI s.data.toList a == 2) = false) (F5 : (Lx.clsI s.data.toList a == 5) = false) (C34 : ((s.extract a (a + 1)).toList == [34]) = false) (C92 : ((s.extract a (a + 1)).toList == [92]) = true) (C35 : ((s.extract a (a + 1)).toList == [35]) = false) (hs : ¬ a + 1 < s.size) (N3 : (Lx.clsI s.data.toList (a + 1) == 3) = false) (F3 : (Lx.clsI s.data.toList a == 3) = false) (F4 : (Lx.clsI s.data.toList a == 4) = false) (hr : Lx.Res.err 0 3 = r) :
  Calls Tryz.prog 65 #[.pointer (some ⟨L, 0, none⟩)] w (LexRes w L s a p e r) := by
 obtain ⟨g1, g2, g3, g4, f1, f2, f3, hL⟩ := lex_reads h;have HM := hm;have _ha := ha;unfold maxLen at hm;have H := hid h;clear h;have a0 : (0 : Int) ≤ (a : Int) := by omega
 have a1 : (a : Int) < (s.size : Int) := by omega
 have a2 : (a : Int) + 1 ≤ (s.size : Int) := by omega
 have S1 : decide ((a : Int) + 1 < (s.size : Int)) = false := by simp; omega
 have N3' : (Lx.clsI s.data.toList ((a : Int) + 1).toNat == 3) = false := by rw [show ((a : Int) + 1).toNat = a + 1 from by omega]; exact N3
 go_enter Tryz.func65, Tryz.ntmps65
 go_wp2_with (go_at_call 82; refine (is_any L s a p e _ _ _ (by first | exact H.out.alloc _ | exact (H.out.alloc _).drewN _) (by omega) (by omega)).mono ?_; rintro e' w' ⟨rfl, n, rfl⟩)
 all_goals
  refine (fail_as L s a p e _ _ 0 3 _ r hr ((H.out.alloc _).drewN _) rfl rfl).mono ?_;rintro e' w' ⟨k, tx, f, t, b, a', p', e2, rfl, hx, ht, hmn⟩;obtain ⟨q0, q1, q2, q3, z0, z1, z2, z3, hg⟩ := Blk.four (ht.blk ((Blk.new w _ _).drewN _) (by omega));have HX := hid hx;have HT := hid ht;have HMN := hid hmn;clear hx ht hmn;go_wp2_with fail
  (try simp only [Exit.inBlock, Exit.then])
  refine bodyPost_ret (v := .tuple #[.agg #[.int .i64 k, .string tx, .int .i64 f, .int .i64 t], .bool b]) (by simp [results, Tryz.results65, go_sem, q0, q1, q2, q3]) rfl ?_;exact LexRes.close hL HX.out HT.out.preN HMN.out
theorem next_param (L : Nat) (s : ByteArray) (a : Nat) (p e : Int) (w : World) (h : LexAt w L s a p e) (hm : s.size ≤ maxLen) (ha : a < s.size) (r : Lx.Res) (F2 : (Lx.clsI s.data.toList a == 2) = false) (F5 : (Lx.clsI s.data.toList a == 5) = false) (C34 : ((s.extract a (a + 1)).toList == [34]) = false) (C92 : ((s.extract a (a + 1)).toList == [92]) = false) (C35 : ((s.extract a (a + 1)).toList == [35]) = true) (hs : a + 1 < s.size) (Dg49 : decide (49 ≤ ((s[a + 1]'hs).toNat : Int)) = true) (Dl52 : decide (((s[a + 1]'hs).toNat : Int) ≤ 52) = true) (hr : Lx.lim 1 ⟨6, (Utf8.encode (wrap32 ((s[a + 1]'hs).toNat : Int))).data.toList⟩ 2 = r) :
  Calls Tryz.prog 65 #[.pointer (some ⟨L, 0, none⟩)] w (LexRes w L s a p e r) := by
 obtain ⟨g1, g2, g3, g4, f1, f2, f3, hL⟩ := lex_reads h;have HM := hm;have _ha := ha;unfold maxLen at hm;have H := hid h;clear h;have a0 : (0 : Int) ≤ (a : Int) := by omega
 have a1 : (a : Int) < (s.size : Int) := by omega
 have a2 : (a : Int) + 1 ≤ (s.size : Int) := by omega
 have S1 : decide ((a : Int) + 1 < (s.size : Int)) = true := by simp; omega
 have S2 : (a : Int) + 1 < (s.size : Int) := by omega
 have S3 : (0 : Int) ≤ (a : Int) + 1 := by omega
 go_enter Tryz.func65, Tryz.ntmps65
 go_wp2_with (go_at_call 82; refine (is_any L s a p e _ _ _ (by first | exact H.out.alloc _ | exact (H.out.alloc _).drewN _) (by omega) (by omega)).mono ?_; rintro e' w' ⟨rfl, n, rfl⟩)
 all_goals
  generalize Utf8.encode (wrap32 ((s[a + 1]'hs).toNat : Int)) = tx0 at hr ⊢;refine (token_as L s a p e _ 6 _ _ 2 1 _ _ r hr ((H.out.alloc _).drewN _) rfl rfl rfl).mono ?_;rintro e' w' ⟨k, tx, f, t, b, a', p', e2, rfl, hx, ht, hmn⟩;obtain ⟨q0, q1, q2, q3, z0, z1, z2, z3, hg⟩ := Blk.four (ht.blk ((Blk.new w _ _).drewN _) (by omega));have HX := hid hx;have HT := hid ht;have HMN := hid hmn;clear hx ht hmn;go_wp2_with fail
  (try simp only [Exit.inBlock, Exit.then])
  refine bodyPost_ret (v := .tuple #[.agg #[.int .i64 k, .string tx, .int .i64 f, .int .i64 t], .bool b]) (by simp [results, Tryz.results65, go_sem, q0, q1, q2, q3]) rfl ?_;exact LexRes.close hL HX.out HT.out.preN HMN.out
theorem next_hash_a (L : Nat) (s : ByteArray) (a : Nat) (p e : Int) (w : World) (h : LexAt w L s a p e) (hm : s.size ≤ maxLen) (ha : a < s.size) (r : Lx.Res) (F2 : (Lx.clsI s.data.toList a == 2) = false) (F5 : (Lx.clsI s.data.toList a == 5) = false) (C34 : ((s.extract a (a + 1)).toList == [34]) = false) (C92 : ((s.extract a (a + 1)).toList == [92]) = false) (C35 : ((s.extract a (a + 1)).toList == [35]) = true) (hs : a + 1 < s.size) (Dg49 : decide (49 ≤ ((s[a + 1]'hs).toNat : Int)) = false) (F3 : (Lx.clsI s.data.toList a == 3) = false) (F4 : (Lx.clsI s.data.toList a == 4) = false) (hr : Lx.Res.err 0 3 = r) :
  Calls Tryz.prog 65 #[.pointer (some ⟨L, 0, none⟩)] w (LexRes w L s a p e r) := by
 obtain ⟨g1, g2, g3, g4, f1, f2, f3, hL⟩ := lex_reads h;have HM := hm;have _ha := ha;unfold maxLen at hm;have H := hid h;clear h;have a0 : (0 : Int) ≤ (a : Int) := by omega
 have a1 : (a : Int) < (s.size : Int) := by omega
 have a2 : (a : Int) + 1 ≤ (s.size : Int) := by omega
 have S1 : decide ((a : Int) + 1 < (s.size : Int)) = true := by simp; omega
 have S2 : (a : Int) + 1 < (s.size : Int) := by omega
 have S3 : (0 : Int) ≤ (a : Int) + 1 := by omega
 go_enter Tryz.func65, Tryz.ntmps65
 go_wp2_with (go_at_call 82; refine (is_any L s a p e _ _ _ (by first | exact H.out.alloc _ | exact (H.out.alloc _).drewN _) (by omega) (by omega)).mono ?_; rintro e' w' ⟨rfl, n, rfl⟩)
 all_goals
  refine (fail_as L s a p e _ _ 0 3 _ r hr ((H.out.alloc _).drewN _) rfl rfl).mono ?_;rintro e' w' ⟨k, tx, f, t, b, a', p', e2, rfl, hx, ht, hmn⟩;obtain ⟨q0, q1, q2, q3, z0, z1, z2, z3, hg⟩ := Blk.four (ht.blk ((Blk.new w _ _).drewN _) (by omega));have HX := hid hx;have HT := hid ht;have HMN := hid hmn;clear hx ht hmn;go_wp2_with fail
  (try simp only [Exit.inBlock, Exit.then])
  refine bodyPost_ret (v := .tuple #[.agg #[.int .i64 k, .string tx, .int .i64 f, .int .i64 t], .bool b]) (by simp [results, Tryz.results65, go_sem, q0, q1, q2, q3]) rfl ?_;exact LexRes.close hL HX.out HT.out.preN HMN.out
theorem next_hash_b (L : Nat) (s : ByteArray) (a : Nat) (p e : Int) (w : World) (h : LexAt w L s a p e) (hm : s.size ≤ maxLen) (ha : a < s.size) (r : Lx.Res) (F2 : (Lx.clsI s.data.toList a == 2) = false) (F5 : (Lx.clsI s.data.toList a == 5) = false) (C34 : ((s.extract a (a + 1)).toList == [34]) = false) (C92 : ((s.extract a (a + 1)).toList == [92]) = false) (C35 : ((s.extract a (a + 1)).toList == [35]) = true) (hs : a + 1 < s.size) (Dg49 : decide (49 ≤ ((s[a + 1]'hs).toNat : Int)) = true) (Dl52 : decide (((s[a + 1]'hs).toNat : Int) ≤ 52) = false) (F3 : (Lx.clsI s.data.toList a == 3) = false) (F4 : (Lx.clsI s.data.toList a == 4) = false) (hr : Lx.Res.err 0 3 = r) :
  Calls Tryz.prog 65 #[.pointer (some ⟨L, 0, none⟩)] w (LexRes w L s a p e r) := by
 obtain ⟨g1, g2, g3, g4, f1, f2, f3, hL⟩ := lex_reads h;have HM := hm;have _ha := ha;unfold maxLen at hm;have H := hid h;clear h;have a0 : (0 : Int) ≤ (a : Int) := by omega
 have a1 : (a : Int) < (s.size : Int) := by omega
 have a2 : (a : Int) + 1 ≤ (s.size : Int) := by omega
 have S1 : decide ((a : Int) + 1 < (s.size : Int)) = true := by simp; omega
 have S2 : (a : Int) + 1 < (s.size : Int) := by omega
 have S3 : (0 : Int) ≤ (a : Int) + 1 := by omega
 go_enter Tryz.func65, Tryz.ntmps65
 go_wp2_with (go_at_call 82; refine (is_any L s a p e _ _ _ (by first | exact H.out.alloc _ | exact (H.out.alloc _).drewN _) (by omega) (by omega)).mono ?_; rintro e' w' ⟨rfl, n, rfl⟩)
 all_goals
  refine (fail_as L s a p e _ _ 0 3 _ r hr ((H.out.alloc _).drewN _) rfl rfl).mono ?_;rintro e' w' ⟨k, tx, f, t, b, a', p', e2, rfl, hx, ht, hmn⟩;obtain ⟨q0, q1, q2, q3, z0, z1, z2, z3, hg⟩ := Blk.four (ht.blk ((Blk.new w _ _).drewN _) (by omega));have HX := hid hx;have HT := hid ht;have HMN := hid hmn;clear hx ht hmn;go_wp2_with fail
  (try simp only [Exit.inBlock, Exit.then])
  refine bodyPost_ret (v := .tuple #[.agg #[.int .i64 k, .string tx, .int .i64 f, .int .i64 t], .bool b]) (by simp [results, Tryz.results65, go_sem, q0, q1, q2, q3]) rfl ?_;exact LexRes.close hL HX.out HT.out.preN HMN.out
theorem next_hash_c (L : Nat) (s : ByteArray) (a : Nat) (p e : Int) (w : World) (h : LexAt w L s a p e) (hm : s.size ≤ maxLen) (ha : a < s.size) (r : Lx.Res) (F2 : (Lx.clsI s.data.toList a == 2) = false) (F5 : (Lx.clsI s.data.toList a == 5) = false) (C34 : ((s.extract a (a + 1)).toList == [34]) = false) (C92 : ((s.extract a (a + 1)).toList == [92]) = false) (C35 : ((s.extract a (a + 1)).toList == [35]) = true) (hs : ¬ a + 1 < s.size) (F3 : (Lx.clsI s.data.toList a == 3) = false) (F4 : (Lx.clsI s.data.toList a == 4) = false) (hr : Lx.Res.err 0 3 = r) :
  Calls Tryz.prog 65 #[.pointer (some ⟨L, 0, none⟩)] w (LexRes w L s a p e r) := by
 obtain ⟨g1, g2, g3, g4, f1, f2, f3, hL⟩ := lex_reads h;have HM := hm;have _ha := ha;unfold maxLen at hm;have H := hid h;clear h;have a0 : (0 : Int) ≤ (a : Int) := by omega
 have a1 : (a : Int) < (s.size : Int) := by omega
 have a2 : (a : Int) + 1 ≤ (s.size : Int) := by omega
 have S1 : decide ((a : Int) + 1 < (s.size : Int)) = false := by simp; omega
 go_enter Tryz.func65, Tryz.ntmps65
 go_wp2_with (go_at_call 82; refine (is_any L s a p e _ _ _ (by first | exact H.out.alloc _ | exact (H.out.alloc _).drewN _) (by omega) (by omega)).mono ?_; rintro e' w' ⟨rfl, n, rfl⟩)
 all_goals
  refine (fail_as L s a p e _ _ 0 3 _ r hr ((H.out.alloc _).drewN _) rfl rfl).mono ?_;rintro e' w' ⟨k, tx, f, t, b, a', p', e2, rfl, hx, ht, hmn⟩;obtain ⟨q0, q1, q2, q3, z0, z1, z2, z3, hg⟩ := Blk.four (ht.blk ((Blk.new w _ _).drewN _) (by omega));have HX := hid hx;have HT := hid ht;have HMN := hid hmn;clear hx ht hmn;go_wp2_with fail
  (try simp only [Exit.inBlock, Exit.then])
  refine bodyPost_ret (v := .tuple #[.agg #[.int .i64 k, .string tx, .int .i64 f, .int .i64 t], .bool b]) (by simp [results, Tryz.results65, go_sem, q0, q1, q2, q3]) rfl ?_;exact LexRes.close hL HX.out HT.out.preN HMN.out
theorem next_letter (L : Nat) (s : ByteArray) (a : Nat) (p e : Int) (w : World) (h : LexAt w L s a p e) (hm : s.size ≤ maxLen) (ha : a < s.size) (r : Lx.Res) (F2 : (Lx.clsI s.data.toList a == 2) = false) (F5 : (Lx.clsI s.data.toList a == 5) = false) (C34 : ((s.extract a (a + 1)).toList == [34]) = false) (C92 : ((s.extract a (a + 1)).toList == [92]) = false) (C35 : ((s.extract a (a + 1)).toList == [35]) = false) (F3 : (Lx.clsI s.data.toList a == 3) = true) (hr : Lx.lim 1 ⟨1, (s.extract a (a + 1)).data.toList⟩ 1 = r) :
  Calls Tryz.prog 65 #[.pointer (some ⟨L, 0, none⟩)] w (LexRes w L s a p e r) := by
 obtain ⟨g1, g2, g3, g4, f1, f2, f3, hL⟩ := lex_reads h;have HM := hm;have _ha := ha;unfold maxLen at hm;have H := hid h;clear h;have a0 : (0 : Int) ≤ (a : Int) := by omega
 have a1 : (a : Int) < (s.size : Int) := by omega
 have a2 : (a : Int) + 1 ≤ (s.size : Int) := by omega
 go_enter Tryz.func65, Tryz.ntmps65
 go_wp2_with (go_at_call 82; refine (is_any L s a p e _ _ _ (by first | exact H.out.alloc _ | exact (H.out.alloc _).drewN _) (by omega) (by omega)).mono ?_; rintro e' w' ⟨rfl, n, rfl⟩)
 all_goals
  refine (token_as L s a p e _ 1 _ _ 1 1 _ _ r hr ((H.out.alloc _).drewN _) rfl rfl rfl).mono ?_;rintro e' w' ⟨k, tx, f, t, b, a', p', e2, rfl, hx, ht, hmn⟩;obtain ⟨q0, q1, q2, q3, z0, z1, z2, z3, hg⟩ := Blk.four (ht.blk ((Blk.new w _ _).drewN _) (by omega));have HX := hid hx;have HT := hid ht;have HMN := hid hmn;clear hx ht hmn;go_wp2_with fail
  (try simp only [Exit.inBlock, Exit.then])
  refine bodyPost_ret (v := .tuple #[.agg #[.int .i64 k, .string tx, .int .i64 f, .int .i64 t], .bool b]) (by simp [results, Tryz.results65, go_sem, q0, q1, q2, q3]) rfl ?_;exact LexRes.close hL HX.out HT.out.preN HMN.out
theorem next_sign (L : Nat) (s : ByteArray) (a : Nat) (p e : Int) (w : World) (h : LexAt w L s a p e) (hm : s.size ≤ maxLen) (ha : a < s.size) (r : Lx.Res) (F2 : (Lx.clsI s.data.toList a == 2) = false) (F5 : (Lx.clsI s.data.toList a == 5) = false) (C34 : ((s.extract a (a + 1)).toList == [34]) = false) (C92 : ((s.extract a (a + 1)).toList == [92]) = false) (C35 : ((s.extract a (a + 1)).toList == [35]) = false) (F3 : (Lx.clsI s.data.toList a == 3) = false) (F4 : (Lx.clsI s.data.toList a == 4) = true) (hr : Lx.lim 1 ⟨1, (s.extract a (a + 1)).data.toList⟩ 1 = r) :
  Calls Tryz.prog 65 #[.pointer (some ⟨L, 0, none⟩)] w (LexRes w L s a p e r) := by
 obtain ⟨g1, g2, g3, g4, f1, f2, f3, hL⟩ := lex_reads h;have HM := hm;have _ha := ha;unfold maxLen at hm;have H := hid h;clear h;have a0 : (0 : Int) ≤ (a : Int) := by omega
 have a1 : (a : Int) < (s.size : Int) := by omega
 have a2 : (a : Int) + 1 ≤ (s.size : Int) := by omega
 go_enter Tryz.func65, Tryz.ntmps65
 go_wp2_with (go_at_call 82; refine (is_any L s a p e _ _ _ (by first | exact H.out.alloc _ | exact (H.out.alloc _).drewN _) (by omega) (by omega)).mono ?_; rintro e' w' ⟨rfl, n, rfl⟩)
 all_goals
  refine (token_as L s a p e _ 1 _ _ 1 1 _ _ r hr ((H.out.alloc _).drewN _) rfl rfl rfl).mono ?_;rintro e' w' ⟨k, tx, f, t, b, a', p', e2, rfl, hx, ht, hmn⟩;obtain ⟨q0, q1, q2, q3, z0, z1, z2, z3, hg⟩ := Blk.four (ht.blk ((Blk.new w _ _).drewN _) (by omega));have HX := hid hx;have HT := hid ht;have HMN := hid hmn;clear hx ht hmn;go_wp2_with fail
  (try simp only [Exit.inBlock, Exit.then])
  refine bodyPost_ret (v := .tuple #[.agg #[.int .i64 k, .string tx, .int .i64 f, .int .i64 t], .bool b]) (by simp [results, Tryz.results65, go_sem, q0, q1, q2, q3]) rfl ?_;exact LexRes.close hL HX.out HT.out.preN HMN.out
theorem next_none (L : Nat) (s : ByteArray) (a : Nat) (p e : Int) (w : World) (h : LexAt w L s a p e) (hm : s.size ≤ maxLen) (ha : a < s.size) (r : Lx.Res) (F2 : (Lx.clsI s.data.toList a == 2) = false) (F5 : (Lx.clsI s.data.toList a == 5) = false) (C34 : ((s.extract a (a + 1)).toList == [34]) = false) (C92 : ((s.extract a (a + 1)).toList == [92]) = false) (C35 : ((s.extract a (a + 1)).toList == [35]) = false) (F3 : (Lx.clsI s.data.toList a == 3) = false) (F4 : (Lx.clsI s.data.toList a == 4) = false) (hr : Lx.Res.err 0 3 = r) :
  Calls Tryz.prog 65 #[.pointer (some ⟨L, 0, none⟩)] w (LexRes w L s a p e r) := by
 obtain ⟨g1, g2, g3, g4, f1, f2, f3, hL⟩ := lex_reads h;have HM := hm;have _ha := ha;unfold maxLen at hm;have H := hid h;clear h;have a0 : (0 : Int) ≤ (a : Int) := by omega
 have a1 : (a : Int) < (s.size : Int) := by omega
 have a2 : (a : Int) + 1 ≤ (s.size : Int) := by omega
 go_enter Tryz.func65, Tryz.ntmps65
 go_wp2_with (go_at_call 82; refine (is_any L s a p e _ _ _ (by first | exact H.out.alloc _ | exact (H.out.alloc _).drewN _) (by omega) (by omega)).mono ?_; rintro e' w' ⟨rfl, n, rfl⟩)
 all_goals
  refine (fail_as L s a p e _ _ 0 3 _ r hr ((H.out.alloc _).drewN _) rfl rfl).mono ?_;rintro e' w' ⟨k, tx, f, t, b, a', p', e2, rfl, hx, ht, hmn⟩;obtain ⟨q0, q1, q2, q3, z0, z1, z2, z3, hg⟩ := Blk.four (ht.blk ((Blk.new w _ _).drewN _) (by omega));have HX := hid hx;have HT := hid ht;have HMN := hid hmn;clear hx ht hmn;go_wp2_with fail
  (try simp only [Exit.inBlock, Exit.then])
  refine bodyPost_ret (v := .tuple #[.agg #[.int .i64 k, .string tx, .int .i64 f, .int .i64 t], .bool b]) (by simp [results, Tryz.results65, go_sem, q0, q1, q2, q3]) rfl ?_;exact LexRes.close hL HX.out HT.out.preN HMN.out
theorem indexByte_mem (l : List UInt8) (c : UInt8) : decide (Lib.indexByte l c < 0) = !(l.contains c) := by
 have h1 := Lib.indexByte_ge l c
 by_cases hc : Lib.indexByte l c < 0
 ·have h2 := Lib.indexByte_none (l := l) (c := c) (by omega)
  have : l.contains c = false := by
   rw [← Bool.not_eq_true, List.contains_iff_mem, List.mem_iff_getElem?];rintro ⟨i, hi⟩;exact h2 i hi
  rw [this]; simp [hc]
 ·obtain ⟨o, ho⟩ := Int.eq_ofNat_of_zero_le (show 0 ≤ Lib.indexByte l c by omega)
  have h2 := (Lib.indexByte_some ho).1
  have : l.contains c = true := by
   rw [List.contains_iff_mem, List.mem_iff_getElem?];exact ⟨o, h2⟩
  rw [this]; simp [hc]
theorem delim_any (s : ByteArray) (c : UInt8) (x : Int) (hs : s = ⟨#[40, 41, 91, 93, 123, 125, 60, 62, 47, 124, 46]⟩) (w : World) (hx : x = c.toNat := by rfl) :
  Calls Tryz.prog 74 #[.string s, .int .u8 x] w fun e w' => (∃ i : Int, e = .returned (.int .i64 i) ∧ decide (i < 0) = !(Lx.isDelim c)) ∧ w' = w := by
 subst hs hx;refine (Tryz.strings_IndexByte _ _ w).mono ?_;rintro e w' ⟨rfl, rfl⟩;refine ⟨⟨_, rfl, ?_⟩, rfl⟩;rw [indexByte_mem];simp [Lx.isDelim]
theorem name_plain (L : Nat) (s : ByteArray) (a m : Nat) (p e : Int) (w : World) (h : LexAt w L s a p e) (hm : s.size ≤ 140737488355328) (hmd : m = a + 1 + Lx.runI 3 s.data.toList (a + 1)) (ha : a + 1 ≤ s.size) (r : Lx.Res) (F : ((s.extract (a + 1) m).toList == [102, 101, 110, 99, 101]) = false) (hr : Lx.lim 16 ⟨4, (s.extract (a + 1) m).data.toList⟩ (m - a) = r) :
  Calls Tryz.prog 86 #[.pointer (some ⟨L, 0, none⟩)] w (LexRes w L s a p e r) := by
 obtain ⟨g1, g2, g3, g4, f1, f2, f3, hL⟩ := lex_reads h;have HM : s.size ≤ maxLen := by unfold maxLen; omega
 have H := hid h;clear h;have hle := Lx.runI_le 3 s.data.toList (a + 1);have hll : s.data.toList.length = s.size := by simp
 rw [hll] at hle;have HD := hid hmd;have am : a + 1 ≤ m := by omega
 have ms : m ≤ s.size := by omega
 clear hmd hle hll;have e1 : ((a : Int) + 1) ≤ (m : Int) := by omega
 have e2 : (0 : Int) ≤ (a : Int) + 1 := by omega
 have e3 : (m : Int) ≤ (s.size : Int) := by omega
 go_enter Tryz.func86, Tryz.ntmps86;go_wp2_with fail
 refine (run_any L s a p e _ 3 _ (H.out.alloc _) (by omega) (by omega) HM).mono ?_;rintro e' w' ⟨rfl, n1, rfl⟩;rw [show ((a : Int) + 1).toNat = a + 1 from by omega, ← HD.out];go_wp2_with fail
 go_quiet (fail)
 go_wp2_with fail
 refine (token_as L s a p e _ 4 _ _ (m - a) 16 _ _ r hr ((H.out.alloc _).drewN _) rfl (by omega) rfl).mono ?_;rintro e' w' ⟨k, tx, f, t, b, a', p', e2, rfl, hx, ht, hmn⟩;obtain ⟨q0, q1, q2, q3, z0, z1, z2, z3, hg⟩ := Blk.four (ht.blk ((Blk.new w _ _).drewN _) (by omega));have HX := hid hx;have HT2 := hid ht;have HMN := hid hmn;clear hx ht hmn;go_wp2_with fail
 (try simp only [Exit.inBlock, Exit.then])
 refine bodyPost_ret (v := .tuple #[.agg #[.int .i64 k, .string tx, .int .i64 f, .int .i64 t], .bool b]) (by simp [results, Tryz.results86, go_sem, q0, q1, q2, q3]) rfl ?_;exact LexRes.close hL HX.out HT2.out.preN HMN.out
theorem name_short (L : Nat) (s : ByteArray) (a m : Nat) (p e : Int) (w : World) (h : LexAt w L s a p e) (hm : s.size ≤ 140737488355328) (hmd : m = a + 1 + Lx.runI 3 s.data.toList (a + 1)) (ha : a + 1 ≤ s.size) (r : Lx.Res) (F : ((s.extract (a + 1) m).toList == [102, 101, 110, 99, 101]) = true) (hs : s.size < m + 2) (hr : Lx.Res.err 0 3 = r) :
  Calls Tryz.prog 86 #[.pointer (some ⟨L, 0, none⟩)] w (LexRes w L s a p e r) := by
 obtain ⟨g1, g2, g3, g4, f1, f2, f3, hL⟩ := lex_reads h;have HM : s.size ≤ maxLen := by unfold maxLen; omega
 have H := hid h;clear h;have hle := Lx.runI_le 3 s.data.toList (a + 1);have hll : s.data.toList.length = s.size := by simp
 rw [hll] at hle;have HD := hid hmd;have am : a + 1 ≤ m := by omega
 have ms : m ≤ s.size := by omega
 clear hmd hle hll;have e1 : ((a : Int) + 1) ≤ (m : Int) := by omega
 have e2 : (0 : Int) ≤ (a : Int) + 1 := by omega
 have e3 : (m : Int) ≤ (s.size : Int) := by omega
 have S1 : decide ((s.size : Int) < (m : Int) + 2) = true := by simp; omega
 go_enter Tryz.func86, Tryz.ntmps86;go_wp2_with fail
 refine (run_any L s a p e _ 3 _ (H.out.alloc _) (by omega) (by omega) HM).mono ?_;rintro e' w' ⟨rfl, n1, rfl⟩;rw [show ((a : Int) + 1).toNat = a + 1 from by omega, ← HD.out];go_wp2_with fail
 go_quiet (fail)
 go_wp2_with fail
 refine (fail_as L s a p e _ _ 0 3 _ r hr ((H.out.alloc _).drewN _) rfl rfl).mono ?_;rintro e' w' ⟨k, tx, f, t, b, a', p', e2, rfl, hx, ht, hmn⟩;obtain ⟨q0, q1, q2, q3, z0, z1, z2, z3, hg⟩ := Blk.four (ht.blk ((Blk.new w _ _).drewN _) (by omega));have HX := hid hx;have HT2 := hid ht;have HMN := hid hmn;clear hx ht hmn;go_wp2_with fail
 (try simp only [Exit.inBlock, Exit.then])
 refine bodyPost_ret (v := .tuple #[.agg #[.int .i64 k, .string tx, .int .i64 f, .int .i64 t], .bool b]) (by simp [results, Tryz.results86, go_sem, q0, q1, q2, q3]) rfl ?_;exact LexRes.close hL HX.out HT2.out.preN HMN.out
theorem name_bad1 (L : Nat) (s : ByteArray) (a m : Nat) (p e : Int) (w : World) (h : LexAt w L s a p e) (hm : s.size ≤ 140737488355328) (hmd : m = a + 1 + Lx.runI 3 s.data.toList (a + 1)) (ha : a + 1 ≤ s.size) (r : Lx.Res) (F : ((s.extract (a + 1) m).toList == [102, 101, 110, 99, 101]) = true) (hs : m + 1 < s.size) (T1 : Lx.isDelim (s[m]'(Nat.lt_of_succ_lt hs)) = false) (hr : Lx.Res.err 0 3 = r) :
  Calls Tryz.prog 86 #[.pointer (some ⟨L, 0, none⟩)] w (LexRes w L s a p e r) := by
 obtain ⟨g1, g2, g3, g4, f1, f2, f3, hL⟩ := lex_reads h;have HM : s.size ≤ maxLen := by unfold maxLen; omega
 have H := hid h;clear h;have hle := Lx.runI_le 3 s.data.toList (a + 1);have hll : s.data.toList.length = s.size := by simp
 rw [hll] at hle;have HD := hid hmd;have am : a + 1 ≤ m := by omega
 have ms : m ≤ s.size := by omega
 clear hmd hle hll;have e1 : ((a : Int) + 1) ≤ (m : Int) := by omega
 have e2 : (0 : Int) ≤ (a : Int) + 1 := by omega
 have e3 : (m : Int) ≤ (s.size : Int) := by omega
 have S1 : decide ((s.size : Int) < (m : Int) + 2) = false := by simp; omega
 have S2 : (m : Int) < (s.size : Int) := by omega
 have S3 : (0 : Int) ≤ (m : Int) := by omega
 go_enter Tryz.func86, Tryz.ntmps86;go_wp2_with fail
 refine (run_any L s a p e _ 3 _ (H.out.alloc _) (by omega) (by omega) HM).mono ?_;rintro e' w' ⟨rfl, n1, rfl⟩;rw [show ((a : Int) + 1).toNat = a + 1 from by omega, ← HD.out];go_wp2_with fail
 go_quiet (fail)
 go_wp2_with fail
 refine (delim_any _ _ _ rfl _).mono ?_;rintro e' w' ⟨⟨i1, rfl, hi1⟩, rfl⟩;have HI1 : decide (i1 < 0) = true := by rw [hi1, T1]; rfl
 clear hi1 T1;go_wp2_with fail
 refine (fail_as L s a p e _ _ 0 3 _ r hr ((H.out.alloc _).drewN _) rfl rfl).mono ?_;rintro e' w' ⟨k, tx, f, t, b, a', p', e2, rfl, hx, ht, hmn⟩;obtain ⟨q0, q1, q2, q3, z0, z1, z2, z3, hg⟩ := Blk.four (ht.blk ((Blk.new w _ _).drewN _) (by omega));have HX := hid hx;have HT2 := hid ht;have HMN := hid hmn;clear hx ht hmn;go_wp2_with fail
 (try simp only [Exit.inBlock, Exit.then])
 refine bodyPost_ret (v := .tuple #[.agg #[.int .i64 k, .string tx, .int .i64 f, .int .i64 t], .bool b]) (by simp [results, Tryz.results86, go_sem, q0, q1, q2, q3]) rfl ?_;exact LexRes.close hL HX.out HT2.out.preN HMN.out
theorem name_bad2 (L : Nat) (s : ByteArray) (a m : Nat) (p e : Int) (w : World) (h : LexAt w L s a p e) (hm : s.size ≤ 140737488355328) (hmd : m = a + 1 + Lx.runI 3 s.data.toList (a + 1)) (ha : a + 1 ≤ s.size) (r : Lx.Res) (F : ((s.extract (a + 1) m).toList == [102, 101, 110, 99, 101]) = true) (hs : m + 1 < s.size) (T1 : Lx.isDelim (s[m]'(Nat.lt_of_succ_lt hs)) = true) (T2 : Lx.isDelim (s[m + 1]'hs) = false) (hr : Lx.Res.err 0 3 = r) :
  Calls Tryz.prog 86 #[.pointer (some ⟨L, 0, none⟩)] w (LexRes w L s a p e r) := by
 obtain ⟨g1, g2, g3, g4, f1, f2, f3, hL⟩ := lex_reads h;have HM : s.size ≤ maxLen := by unfold maxLen; omega
 have H := hid h;clear h;have hle := Lx.runI_le 3 s.data.toList (a + 1);have hll : s.data.toList.length = s.size := by simp
 rw [hll] at hle;have HD := hid hmd;have am : a + 1 ≤ m := by omega
 have ms : m ≤ s.size := by omega
 clear hmd hle hll;have e1 : ((a : Int) + 1) ≤ (m : Int) := by omega
 have e2 : (0 : Int) ≤ (a : Int) + 1 := by omega
 have e3 : (m : Int) ≤ (s.size : Int) := by omega
 have S1 : decide ((s.size : Int) < (m : Int) + 2) = false := by simp; omega
 have S2 : (m : Int) < (s.size : Int) := by omega
 have S3 : (0 : Int) ≤ (m : Int) := by omega
 have S4 : (m : Int) + 1 < (s.size : Int) := by omega
 go_enter Tryz.func86, Tryz.ntmps86;go_wp2_with fail
 refine (run_any L s a p e _ 3 _ (H.out.alloc _) (by omega) (by omega) HM).mono ?_;rintro e' w' ⟨rfl, n1, rfl⟩;rw [show ((a : Int) + 1).toNat = a + 1 from by omega, ← HD.out];go_wp2_with fail
 go_quiet (fail)
 go_wp2_with fail
 refine (delim_any _ _ _ rfl _).mono ?_;rintro e' w' ⟨⟨i1, rfl, hi1⟩, rfl⟩;have HI1 : decide (i1 < 0) = false := by rw [hi1, T1]; rfl
 clear hi1 T1;go_wp2_with fail
 refine (delim_any _ _ _ rfl _).mono ?_;rintro e' w' ⟨⟨i2, rfl, hi2⟩, rfl⟩;have HI2 : decide (i2 < 0) = true := by rw [hi2, T2]; rfl
 clear hi2 T2;go_wp2_with fail
 refine (fail_as L s a p e _ _ 0 3 _ r hr ((H.out.alloc _).drewN _) rfl rfl).mono ?_;rintro e' w' ⟨k, tx, f, t, b, a', p', e2, rfl, hx, ht, hmn⟩;obtain ⟨q0, q1, q2, q3, z0, z1, z2, z3, hg⟩ := Blk.four (ht.blk ((Blk.new w _ _).drewN _) (by omega));have HX := hid hx;have HT2 := hid ht;have HMN := hid hmn;clear hx ht hmn;go_wp2_with fail
 (try simp only [Exit.inBlock, Exit.then])
 refine bodyPost_ret (v := .tuple #[.agg #[.int .i64 k, .string tx, .int .i64 f, .int .i64 t], .bool b]) (by simp [results, Tryz.results86, go_sem, q0, q1, q2, q3]) rfl ?_;exact LexRes.close hL HX.out HT2.out.preN HMN.out
theorem name_fence (L : Nat) (s : ByteArray) (a m : Nat) (p e : Int) (w : World) (h : LexAt w L s a p e) (hm : s.size ≤ 140737488355328) (hmd : m = a + 1 + Lx.runI 3 s.data.toList (a + 1)) (ha : a + 1 ≤ s.size) (r : Lx.Res) (F : ((s.extract (a + 1) m).toList == [102, 101, 110, 99, 101]) = true) (hs : m + 1 < s.size) (T1 : Lx.isDelim (s[m]'(Nat.lt_of_succ_lt hs)) = true) (T2 : Lx.isDelim (s[m + 1]'hs) = true) (hr : Lx.lim 2 ⟨5, (s.extract m (m + 2)).data.toList⟩ (m + 2 - a) = r) :
  Calls Tryz.prog 86 #[.pointer (some ⟨L, 0, none⟩)] w (LexRes w L s a p e r) := by
 obtain ⟨g1, g2, g3, g4, f1, f2, f3, hL⟩ := lex_reads h;have HM : s.size ≤ maxLen := by unfold maxLen; omega
 have H := hid h;clear h;have hle := Lx.runI_le 3 s.data.toList (a + 1);have hll : s.data.toList.length = s.size := by simp
 rw [hll] at hle;have HD := hid hmd;have am : a + 1 ≤ m := by omega
 have ms : m ≤ s.size := by omega
 clear hmd hle hll;have e1 : ((a : Int) + 1) ≤ (m : Int) := by omega
 have e2 : (0 : Int) ≤ (a : Int) + 1 := by omega
 have e3 : (m : Int) ≤ (s.size : Int) := by omega
 have S1 : decide ((s.size : Int) < (m : Int) + 2) = false := by simp; omega
 have S2 : (m : Int) < (s.size : Int) := by omega
 have S3 : (0 : Int) ≤ (m : Int) := by omega
 have S4 : (m : Int) + 1 < (s.size : Int) := by omega
 have S5 : (m : Int) + 2 ≤ (s.size : Int) := by omega
 go_enter Tryz.func86, Tryz.ntmps86;go_wp2_with fail
 refine (run_any L s a p e _ 3 _ (H.out.alloc _) (by omega) (by omega) HM).mono ?_;rintro e' w' ⟨rfl, n1, rfl⟩;rw [show ((a : Int) + 1).toNat = a + 1 from by omega, ← HD.out];go_wp2_with fail
 go_quiet (fail)
 go_wp2_with fail
 refine (delim_any _ _ _ rfl _).mono ?_;rintro e' w' ⟨⟨i1, rfl, hi1⟩, rfl⟩;have HI1 : decide (i1 < 0) = false := by rw [hi1, T1]; rfl
 clear hi1 T1;go_wp2_with fail
 refine (delim_any _ _ _ rfl _).mono ?_;rintro e' w' ⟨⟨i2, rfl, hi2⟩, rfl⟩;have HI2 : decide (i2 < 0) = false := by rw [hi2, T2]; rfl
 clear hi2 T2;go_wp2_with fail
 refine (token_as L s a p e _ 5 _ _ (m + 2 - a) 2 _ _ r hr ((H.out.alloc _).drewN _) rfl (by omega) rfl).mono ?_;rintro e' w' ⟨k, tx, f, t, b, a', p', e2, rfl, hx, ht, hmn⟩;obtain ⟨q0, q1, q2, q3, z0, z1, z2, z3, hg⟩ := Blk.four (ht.blk ((Blk.new w _ _).drewN _) (by omega));have HX := hid hx;have HT2 := hid ht;have HMN := hid hmn;clear hx ht hmn;go_wp2_with fail
 (try simp only [Exit.inBlock, Exit.then])
 refine bodyPost_ret (v := .tuple #[.agg #[.int .i64 k, .string tx, .int .i64 f, .int .i64 t], .bool b]) (by simp [results, Tryz.results86, go_sem, q0, q1, q2, q3]) rfl ?_;exact LexRes.close hL HX.out HT2.out.preN HMN.out
end Go.Proofs.YtomibmenojdieaaGreat
