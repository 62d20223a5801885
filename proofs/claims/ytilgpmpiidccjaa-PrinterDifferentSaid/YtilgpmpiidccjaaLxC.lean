/- The walk of the lexer's method number. -/
import Derived.Test.YtilgpmpiidccjaaLxB
import Derived.Deep.RegionWith
namespace Go.Proofs.Ytilgpmpiidccjaa
open Go.RowKit

theorem num_i (l : Lx.Bytes) (a m : Nat) (hm : m = a + Lx.runI 2 l a) : Lx.numLen (l.drop a) = if l[m]? = some 46 ∧ Lx.clsI l (m + 1) = 2 then m + 1 + Lx.runI 2 l (m + 1) - a else m - a := by
  subst hm
  have h0 : ∀ k, Lx.runLen 2 (l.drop k) = Lx.runI 2 l k := fun k => by
    unfold Lx.runLen Lx.runI
    have : (Lx.isB 2) = fun b : UInt8 => ((Lx.cls b.toNat : Int) == 2) := by
      funext b
      unfold Lx.isB
      rw [Bool.eq_iff_iff]; simp; omega
    rw [this]
  have h1 : ∀ k, (Lx.isAt 2 (l.drop a) k = true) ↔ Lx.clsI l (a + k) = 2 := fun k => by
    unfold Lx.isAt Lx.clsI
    rw [List.getElem?_drop]
    cases l[a + k]? with
    | none => simp
    | some b => simp [Lx.isB]; omega
  unfold Lx.numLen
  rw [h0, List.getElem?_drop, List.drop_drop, h0]
  simp only [h1, Nat.add_assoc]
  split <;> omega

set_option maxHeartbeats 400000 in
theorem number_any (L : Nat) (s : ByteArray) (a : Nat) (p e : Int) (w : World) (h : LexAt w L s a p e) (hm : s.size ≤ maxLen) (ha : a < s.size) :
    Calls Try.prog 105 #[.pointer (some ⟨L, 0, none⟩)] w (LexRes w L s a p e (Lx.number (s.data.toList.drop a))) := by
  obtain ⟨g1, g2, g3, g4, f1, f2, f3, hL⟩ := lex_reads h
  have HM := hm
  unfold maxLen at hm
  have H := hid h
  clear h
  have hle := Lx.runI_le 2 s.data.toList a
  have hll : s.data.toList.length = s.size := by simp
  rw [hll] at hle
  obtain ⟨m, hmd⟩ : ∃ m, m = a + Lx.runI 2 s.data.toList a := ⟨_, rfl⟩
  have HN := hid (num_i s.data.toList a m hmd)
  have HD := hid hmd
  have am : a ≤ m := by omega
  have ms : m ≤ s.size := by omega
  clear hmd hle
  have fin : ∀ (n : Nat), a ≤ n → n ≤ s.size → Lx.numLen (s.data.toList.drop a) = n - a →
      Lx.lim 20 ⟨2, (s.extract a n).data.toList⟩ (n - a) = Lx.number (s.data.toList.drop a) := fun n hn1 hn2 hnum => by
    unfold Lx.number
    rw [hnum]
    congr 2
    simp [ByteArray.data_extract, Array.toList_extract, List.extract_eq_take_drop]
  by_cases c1 : m < s.size
  · have t1 : decide ((m : Int) < (s.size : Int)) = true := by simp; omega
    have t1' : (m : Int) < (s.size : Int) := by omega
    have t1'' : (0 : Int) ≤ (m : Int) := by omega
    have hlm : s.data.toList[m]? = some s[m] := by rw [List.getElem?_eq_getElem (by omega)]; rfl
    by_cases c2 : s[m] = 46
    · have t2 : ((s[m].toNat : Int) == 46) = true := by rw [c2]; rfl
      by_cases c3 : Lx.clsI s.data.toList (m + 1) = 2
      · have t3 : (Lx.clsI s.data.toList (m + 1) == 2) = true := by simpa using c3
        have hle2 := Lx.runI_le 2 s.data.toList (m + 1)
        have hy := (Lx.runI_yes 2 s.data.toList (m + 1) (by omega) c3).1
        rw [hll] at hle2 hy
        obtain ⟨m2, hm2⟩ : ∃ m2, m2 = m + 1 + Lx.runI 2 s.data.toList (m + 1) := ⟨_, rfl⟩
        have HM2 := hid hm2
        have hn : Lx.numLen (s.data.toList.drop a) = m2 - a := by
          rw [HN.out, if_pos ⟨by rw [hlm, c2], c3⟩, ← hm2]
        have am2 : a ≤ m2 := by omega
        have ms2 : m2 ≤ s.size := by omega
        have hfin := hid (fin m2 am2 ms2 hn)
        clear hlm c2 c3 hll hy hm2 hle2
        clear fin hn
        go_enter Try.func105, Try.ntmps105
        go_wp2_with fail
        refine (run_any L s a p e _ 2 _ (H.out.alloc _) (by omega) (by omega) HM).mono ?_
        rintro e' w' ⟨rfl, n1, rfl⟩
        rw [Int.toNat_natCast, ← HD.out]
        go_wp2_with fail
        refine (is_any L s a p e _ 2 _ ((H.out.alloc _).drewN _) (by omega) (by omega)).mono ?_
        rintro e' w' ⟨rfl, n2, rfl⟩
        rw [show ((m : Int) + 1).toNat = m + 1 from by omega]
        go_wp2_with fail
        refine (run_any L s a p e _ 2 _ ((H.out.alloc _).drewN _) (by omega) (by omega) HM).mono ?_
        rintro e' w' ⟨rfl, n3, rfl⟩
        rw [show ((m : Int) + 1).toNat = m + 1 from by omega, ← HM2.out]
        go_wp2_with fail
        refine wp_region_segs [([0,1,2,3,4,5,6,7,8,9,10,11],12), ([13,14],15)] [16] (by kernel_rfl) (by kernel_rfl) ?_
        simp only [wpSegs, pick, List.getElem?_cons_zero, List.getElem?_cons_succ]
        repeat (quiet_step (fail))
        refine wpQuiet_nil ?_
        rintro _ ⟨nq, rfl⟩
        go_wp2_with fail
        refine (token_any L s a p e _ 2 _ _ (m2 - a) 20 _ _ ((H.out.alloc _).drewN _) rfl (by rw [Nat.add_sub_cancel' (by omega)]) rfl).mono ?_
        rintro e' w' ⟨k, tx, f, t, b, a', p', e2, rfl, hx, ht, hmn⟩
        obtain ⟨q0, q1, q2, q3, z0, z1, z2, z3, hg⟩ := Blk.four (ht.blk ((Blk.new w _ _).drewN _) (by omega))
        have HX := hid hx
        have HT2 := hid ht
        have HMN := hid hmn
        clear hx ht hmn
        go_wp2_with fail
        repeat (quiet_step (fail))
        refine wpQuiet_nil ?_
        rintro _ ⟨nq2, rfl⟩
        go_wp2
        repeat (quiet_step (fail))
        refine wpQuiet_nil ?_
        rintro _ ⟨nq3, rfl⟩
        go_wp2
        (try simp only [Exit.inBlock, Exit.then])
        refine bodyPost_ret (v := .tuple #[.agg #[.int .i64 k, .string tx, .int .i64 f, .int .i64 t], .bool b]) (by simp [results, Try.results105, go_sem, q0, q1, q2, q3]) rfl ?_
        rw [← hfin.out]
        exact (LexRes.close hL (HX.out.drewN _) (HT2.out.preN.drewN _) HMN.out).drewN _
      · have t3 : (Lx.clsI s.data.toList (m + 1) == 2) = false := by simpa using c3
        have hn : Lx.numLen (s.data.toList.drop a) = m - a := by
          rw [HN.out, if_neg (fun hx => c3 hx.2)]
        have hfin := hid (fin m am ms hn)
        clear hlm c2 c3 hll
        clear fin hn
        go_enter Try.func105, Try.ntmps105
        go_wp2_with fail
        refine (run_any L s a p e _ 2 _ (H.out.alloc _) (by omega) (by omega) HM).mono ?_
        rintro e' w' ⟨rfl, n1, rfl⟩
        rw [Int.toNat_natCast, ← HD.out]
        go_wp2_with fail
        refine (is_any L s a p e _ 2 _ ((H.out.alloc _).drewN _) (by omega) (by omega)).mono ?_
        rintro e' w' ⟨rfl, n2, rfl⟩
        rw [show ((m : Int) + 1).toNat = m + 1 from by omega]
        go_wp2_with fail
        refine wp_region_segs [([0,1,2,3,4,5,6,7,8,9,10,11],12), ([13,14],15)] [16] (by kernel_rfl) (by kernel_rfl) ?_
        simp only [wpSegs, pick, List.getElem?_cons_zero, List.getElem?_cons_succ]
        repeat (quiet_step (fail))
        refine wpQuiet_nil ?_
        rintro _ ⟨nq, rfl⟩
        go_wp2_with fail
        refine (token_any L s a p e _ 2 _ _ (m - a) 20 _ _ ((H.out.alloc _).drewN _) rfl (by rw [Nat.add_sub_cancel' (by omega)]) rfl).mono ?_
        rintro e' w' ⟨k, tx, f, t, b, a', p', e2, rfl, hx, ht, hmn⟩
        obtain ⟨q0, q1, q2, q3, z0, z1, z2, z3, hg⟩ := Blk.four (ht.blk ((Blk.new w _ _).drewN _) (by omega))
        have HX := hid hx
        have HT2 := hid ht
        have HMN := hid hmn
        clear hx ht hmn
        go_wp2_with fail
        repeat (quiet_step (fail))
        refine wpQuiet_nil ?_
        rintro _ ⟨nq2, rfl⟩
        go_wp2
        repeat (quiet_step (fail))
        refine wpQuiet_nil ?_
        rintro _ ⟨nq3, rfl⟩
        go_wp2
        (try simp only [Exit.inBlock, Exit.then])
        refine bodyPost_ret (v := .tuple #[.agg #[.int .i64 k, .string tx, .int .i64 f, .int .i64 t], .bool b]) (by simp [results, Try.results105, go_sem, q0, q1, q2, q3]) rfl ?_
        rw [← hfin.out]
        exact (LexRes.close hL (HX.out.drewN _) (HT2.out.preN.drewN _) HMN.out).drewN _
    · have t2 : ((s[m].toNat : Int) == 46) = false := by
        rw [beq_eq_false_iff_ne]; intro hx; exact c2 (UInt8.toNat_inj.1 (by simp; omega))
      have hn : Lx.numLen (s.data.toList.drop a) = m - a := by
        rw [HN.out, if_neg (fun hx => c2 (by rw [hlm] at hx; simpa using hx.1))]
      have hfin := hid (fin m am ms hn)
      clear hlm c2 hll
      clear fin hn
      go_enter Try.func105, Try.ntmps105
      go_wp2_with fail
      refine (run_any L s a p e _ 2 _ (H.out.alloc _) (by omega) (by omega) HM).mono ?_
      rintro e' w' ⟨rfl, n1, rfl⟩
      rw [Int.toNat_natCast, ← HD.out]
      go_wp2_with fail
      refine wp_region_segs [([0,1,2,3,4,5,6,7,8,9,10,11],12), ([13,14],15)] [16] (by kernel_rfl) (by kernel_rfl) ?_
      simp only [wpSegs, pick, List.getElem?_cons_zero, List.getElem?_cons_succ]
      repeat (quiet_step (fail))
      refine wpQuiet_nil ?_
      rintro _ ⟨nq, rfl⟩
      go_wp2_with fail
      refine (token_any L s a p e _ 2 _ _ (m - a) 20 _ _ ((H.out.alloc _).drewN _) rfl (by rw [Nat.add_sub_cancel' (by omega)]) rfl).mono ?_
      rintro e' w' ⟨k, tx, f, t, b, a', p', e2, rfl, hx, ht, hmn⟩
      obtain ⟨q0, q1, q2, q3, z0, z1, z2, z3, hg⟩ := Blk.four (ht.blk ((Blk.new w _ _).drewN _) (by omega))
      have HX := hid hx
      have HT2 := hid ht
      have HMN := hid hmn
      clear hx ht hmn
      go_wp2_with fail
      repeat (quiet_step (fail))
      refine wpQuiet_nil ?_
      rintro _ ⟨nq2, rfl⟩
      go_wp2
      repeat (quiet_step (fail))
      refine wpQuiet_nil ?_
      rintro _ ⟨nq3, rfl⟩
      go_wp2
      (try simp only [Exit.inBlock, Exit.then])
      refine bodyPost_ret (v := .tuple #[.agg #[.int .i64 k, .string tx, .int .i64 f, .int .i64 t], .bool b]) (by simp [results, Try.results105, go_sem, q0, q1, q2, q3]) rfl ?_
      rw [← hfin.out]
      exact (LexRes.close hL (HX.out.drewN _) (HT2.out.preN.drewN _) HMN.out).drewN _
  · have hn : Lx.numLen (s.data.toList.drop a) = m - a := by
      rw [HN.out, if_neg]
      rintro ⟨h1, _⟩
      rw [List.getElem?_eq_none (by omega)] at h1
      cases h1
    have hfin := hid (fin m am ms hn)
    have t1 : decide ((m : Int) < (s.size : Int)) = false := by simp; omega
    clear hll
    clear fin hn
    go_enter Try.func105, Try.ntmps105
    go_wp2_with fail
    refine (run_any L s a p e _ 2 _ (H.out.alloc _) (by omega) (by omega) HM).mono ?_
    rintro e' w' ⟨rfl, n1, rfl⟩
    rw [Int.toNat_natCast, ← HD.out]
    go_wp2_with fail
    refine wp_region_segs [([0,1,2,3,4,5,6,7,8,9,10,11],12), ([13,14],15)] [16] (by kernel_rfl) (by kernel_rfl) ?_
    simp only [wpSegs, pick, List.getElem?_cons_zero, List.getElem?_cons_succ]
    repeat (quiet_step (fail))
    refine wpQuiet_nil ?_
    rintro _ ⟨nq, rfl⟩
    go_wp2_with fail
    refine (token_any L s a p e _ 2 _ _ (m - a) 20 _ _ ((H.out.alloc _).drewN _) rfl (by rw [Nat.add_sub_cancel' (by omega)]) rfl).mono ?_
    rintro e' w' ⟨k, tx, f, t, b, a', p', e2, rfl, hx, ht, hmn⟩
    obtain ⟨q0, q1, q2, q3, z0, z1, z2, z3, hg⟩ := Blk.four (ht.blk ((Blk.new w _ _).drewN _) (by omega))
    have HX := hid hx
    have HT2 := hid ht
    have HMN := hid hmn
    clear hx ht hmn
    go_wp2_with fail
    repeat (quiet_step (fail))
    refine wpQuiet_nil ?_
    rintro _ ⟨nq2, rfl⟩
    go_wp2
    repeat (quiet_step (fail))
    refine wpQuiet_nil ?_
    rintro _ ⟨nq3, rfl⟩
    go_wp2
    (try simp only [Exit.inBlock, Exit.then])
    refine bodyPost_ret (v := .tuple #[.agg #[.int .i64 k, .string tx, .int .i64 f, .int .i64 t], .bool b]) (by simp [results, Try.results105, go_sem, q0, q1, q2, q3]) rfl ?_
    rw [← hfin.out]
    exact (LexRes.close hL (HX.out.drewN _) (HT2.out.preN.drewN _) HMN.out).drewN _
end Go.Proofs.Ytilgpmpiidccjaa
