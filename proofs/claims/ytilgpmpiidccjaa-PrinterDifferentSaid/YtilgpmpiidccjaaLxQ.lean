/- The walk of the lexer's method quoted. -/
import Derived.Test.YtilgpmpiidccjaaLxF
import Derived.Test.YtilgpmpiidccjaaBld
namespace Go.Proofs.Ytilgpmpiidccjaa
open Go.RowKit

theorem liesBuilder : liesAt Try.prog Try.prog.depth 63 (2 / Try.prog.cellsOf 63) 0 63 1 = true := by kernel_rfl

/-- What holds at the head of the loop. -/
structure QuoAt (w : World) (L : Nat) (s : ByteArray) (a : Nat) (p e : Int) (r : Lx.Res) (j : Nat) (acc : List UInt8) (cs : Array Value) (v : Value) (wr : World) : Prop where
  lex : LexAt wr L s a p e
  res : Blk wr w.heap.size 74 #[.int .i64 0, .string ByteArray.empty, .int .i64 0, .int .i64 0]
  bld : Bld wr (w.heap.size + 2) (w.heap.size + 1) 0 63 cs v acc
  size : cs.size = 2
  touch : Touch (fun _ => False) w wr
  lo : a + 1 ≤ j
  hi : j ≤ s.size
  len : acc.length ≤ j
  quo : Lx.quo (s.data.toList.drop j) acc (j - a) = r

theorem QuoAt.next {w : World} {L : Nat} {s : ByteArray} {a : Nat} {p e : Int} {r : Lx.Res} {j : Nat} {acc : List UInt8} {cs : Array Value} {v : Value} {wr w' : World} (Q : QuoAt w L s a p e r j acc cs v wr) (hL : L < w.heap.size) {j' : Nat} {c : UInt8} {v' : Value}
    (hb : Bld w' (w.heap.size + 2) (w.heap.size + 1) 0 63 ((cs.setIfInBounds 0 (.pointer (some ⟨w.heap.size + 1, 0, none⟩))).setIfInBounds (0 + 1) v') v' (acc ++ [c]))
    (ht : Touch (fun k => k = w.heap.size + 1 ∨ v.ownBlock = some k) wr w') (hj : j < j') (hs : j' ≤ s.size) (hq : Lx.quo (s.data.toList.drop j') (acc ++ [c]) (j' - a) = r) :
    QuoAt w L s a p e r j' (acc ++ [c]) ((cs.setIfInBounds 0 (.pointer (some ⟨w.heap.size + 1, 0, none⟩))).setIfInBounds (0 + 1) v') v' w' := by
  have hlt := Q.bld.own.lt
  refine ⟨ht.blk Q.lex ?_, ht.blk Q.res ?_, hb, by simp [Q.size], Q.touch.trans' ht ?_, by have := Q.lo; omega, hs, by have := Q.len; simp; omega, hq⟩
  · rintro (h1 | h1)
    · omega
    · have := (hlt _ h1).1; omega
  · rintro (h1 | h1)
    · omega
    · have := (hlt _ h1).1; omega
  · rintro i (h1 | h1)
    · right; omega
    · right; have := (hlt _ h1).1; omega

theorem u8_eq_of (x y : UInt8) (h : x = y) : ((x.toNat : Int) == (y.toNat : Int)) = true := by rw [h]; simp
theorem u8_ne_of (x y : UInt8) (h : ¬ x = y) : ((x.toNat : Int) == (y.toNat : Int)) = false := by
  rw [beq_eq_false_iff_ne]; intro hx; exact h (UInt8.toNat_inj.1 (by omega))
theorem u8_bne_of (x y : UInt8) (h : ¬ x = y) : ((x.toNat : Int) != (y.toNat : Int)) = true := by
  rw [bne_iff_ne]; intro hx; exact h (UInt8.toNat_inj.1 (by omega))
theorem u8_nbne_of (x y : UInt8) (h : x = y) : ((x.toNat : Int) != (y.toNat : Int)) = false := by rw [h]; simp

set_option maxRecDepth 100000 in
set_option maxHeartbeats 2000000 in
theorem quoted_any (L : Nat) (s : ByteArray) (a : Nat) (p e : Int) (w : World) (h : LexAt w L s a p e) (hm : s.size ≤ 1000000000) (ha : a < s.size) :
    Calls Try.prog 107 #[.pointer (some ⟨L, 0, none⟩)] w (LexRes w L s a p e (Lx.quo (s.data.toList.drop (a + 1)) [] 1)) := by
  obtain ⟨g1, g2, g3, g4, f1, f2, f3, hL⟩ := lex_reads h
  have H := hid h
  obtain ⟨r, hr⟩ : ∃ r, Lx.quo (s.data.toList.drop (a + 1)) [] 1 = r := ⟨_, rfl⟩
  rw [hr]
  have HR := hid hr
  have hll : s.data.toList.length = s.size := by simp
  have HLL := hid hll
  clear h hr hll
  go_enter Try.func107, Try.ntmps107
  go_wp2
  clear g1 g2 g3 g4 f1 f2 f3
  go_loopw [5] (fun i wr => ∃ (j : Nat) (acc : List UInt8) (cs : Array Value) (v : Value), i = .int .i64 j ∧ QuoAt w L s a p e r j acc cs v wr) (fun i _ => s.size - (intOf i).toNat)
  case atStart =>
    refine ⟨a + 1, [], #[.pointer none, .slice none 0 0], .slice none 0 0, by go_num, ?_, ?_, ?_, rfl, ?_, Nat.le_refl _, ha, by simp, ?_⟩
    · exact (H.out.alloc _).alloc _
    · exact (Blk.new w _ _).alloc _
    · refine ⟨?_, .inl rfl, rfl, World.ownsRow_nil _ _ _ _, by simp [Value.ownBlock], fun _ => rfl⟩
      have := Blk.new (w.alloc (.cells #[.int .i64 0, .string ⟨#[]⟩, .int .i64 0, .int .i64 0] 74)) 63 #[.pointer none, .slice none 0 0]
      simpa using this
    · exact ((Touch.refl _ w).alloc _).alloc _
    · rw [show a + 1 - a = 1 from by omega]; exact HR.out
  case round =>
    obtain ⟨j, acc, cs, v, rfl, Q0⟩ := hrel
    obtain ⟨g1, g2, g3, g4, f1, f2, f3, hLr⟩ := lex_reads Q0.lex
    have Q := hid Q0
    have hlo := Q0.lo
    have hhi := Q0.hi
    have hlen := Q0.len
    have hwr := Q0.touch.size
    have hbl := Q0.bld.lt
    have hres := Q0.res.lt
    clear Q0
    by_cases c1 : j < s.size
    · have b1 : decide ((j : Int) < (s.size : Int)) = true := by simp; omega
      have b1' : (j : Int) < (s.size : Int) := by omega
      have b1'' : (0 : Int) ≤ (j : Int) := by omega
      have hjl : j < s.data.toList.length := by rw [HLL.out]; exact c1
      have hget : s.data.toList[j] = s[j]'c1 := rfl
      by_cases c2 : s[j]'c1 = 34
      · have hq := Q.out.quo
        rw [Lx.quo_cons _ _ _ _ hjl, hget, if_pos c2] at hq
        have HQ := hid hq
        have b2 : (((s[j]'c1).toNat : Int) == 34) = true := u8_eq_of _ 34 c2
        clear hq c2 hget hjl
        go_wp2_with fail
        refine (bstring_any Q.out.bld).mono ?_
        rintro e1 w1 ⟨rfl, ht1⟩
        have hlx : LexAt w1 L s a p e := ht1.blk Q.out.lex (fun hk => by have := (Q.out.bld.own.lt _ hk).1; omega)
        have hrs := ht1.blk Q.out.res (fun hk => by have := (Q.out.bld.own.lt _ hk).1; omega)
        have ht1' : Touch (fun _ => False) w w1 := Q.out.touch.trans' ht1 (fun i hk => by have := (Q.out.bld.own.lt _ hk).1; right; omega)
        have HLX := hid hlx
        have HRS := hid hrs
        have HT1 := hid ht1'
        clear hlx hrs ht1 ht1'
        go_wp2_with fail
        refine (token_as L s a p e _ 3 _ _ (j - a + 1) 200 _ _ r HQ.out HLX.out rfl (by omega) rfl).mono ?_
        rintro e' w' ⟨k, tx, f, t, b, a', p', e2, rfl, hx, ht, hmn⟩
        obtain ⟨q0, q1, q2, q3, z0, z1, z2, z3, hg⟩ := Blk.four (ht.blk HRS.out (by omega))
        have HX := hid hx
        have HT2 := hid ht
        have HMN := hid hmn
        clear hx ht hmn
        go_wp2_with fail
        (try simp only [Exit.inBlock, Exit.then])
        refine bodyPost_ret (v := .tuple #[.agg #[.int .i64 k, .string tx, .int .i64 f, .int .i64 t], .bool b]) (by simp [results, Try.results107, go_sem, q0, q1, q2, q3]) rfl ?_
        exact LexRes.close hL HX.out ((HT1.out.mono (fun _ h => h.elim)).trans HT2.out) HMN.out
      · have b2 : (((s[j]'c1).toNat : Int) == 34) = false := u8_ne_of _ 34 c2
        by_cases c3 : (s[j]'c1) < 32 ∨ 126 < (s[j]'c1)
        · have hq := Q.out.quo
          rw [Lx.quo_cons _ _ _ _ hjl, hget, if_neg c2, if_pos c3] at hq
          have HQ := hid hq
          by_cases c4 : (s[j]'c1) < 32
          · have b3 : decide (((s[j]'c1).toNat : Int) < 32) = true := by simp; exact Int.ofNat_lt.2 (UInt8.lt_iff_toNat_lt.1 c4)
            clear hq c2 c3 c4 hget hjl
            go_wp2_with fail
            refine (fail_as L s a p e _ _ (j - a) 3 _ r HQ.out Q.out.lex (by omega) rfl).mono ?_
            rintro e' w' ⟨k, tx, f, t, b, a', p', e2, rfl, hx, ht, hmn⟩
            obtain ⟨q0, q1, q2, q3, z0, z1, z2, z3, hg⟩ := Blk.four (ht.blk Q.out.res (by omega))
            have HX := hid hx
            have HT2 := hid ht
            have HMN := hid hmn
            clear hx ht hmn
            go_wp2_with fail
            (try simp only [Exit.inBlock, Exit.then])
            refine bodyPost_ret (v := .tuple #[.agg #[.int .i64 k, .string tx, .int .i64 f, .int .i64 t], .bool b]) (by simp [results, Try.results107, go_sem, q0, q1, q2, q3]) rfl ?_
            exact LexRes.close hL HX.out ((Q.out.touch.mono (fun _ h => h.elim)).trans HT2.out) HMN.out
          · have b3 : decide (((s[j]'c1).toNat : Int) < 32) = false := by rw [decide_eq_false_iff_not]; intro hx; exact c4 (UInt8.lt_iff_toNat_lt.2 (by simpa using Int.ofNat_lt.1 hx))
            have b4 : decide (126 < ((s[j]'c1).toNat : Int)) = true := by
              have := UInt8.lt_iff_toNat_lt.1 (c3.resolve_left c4)
              simp at this ⊢; omega
            clear hq c2 c3 c4 hget hjl
            go_wp2_with fail
            refine (fail_as L s a p e _ _ (j - a) 3 _ r HQ.out Q.out.lex (by omega) rfl).mono ?_
            rintro e' w' ⟨k, tx, f, t, b, a', p', e2, rfl, hx, ht, hmn⟩
            obtain ⟨q0, q1, q2, q3, z0, z1, z2, z3, hg⟩ := Blk.four (ht.blk Q.out.res (by omega))
            have HX := hid hx
            have HT2 := hid ht
            have HMN := hid hmn
            clear hx ht hmn
            go_wp2_with fail
            (try simp only [Exit.inBlock, Exit.then])
            refine bodyPost_ret (v := .tuple #[.agg #[.int .i64 k, .string tx, .int .i64 f, .int .i64 t], .bool b]) (by simp [results, Try.results107, go_sem, q0, q1, q2, q3]) rfl ?_
            exact LexRes.close hL HX.out ((Q.out.touch.mono (fun _ h => h.elim)).trans HT2.out) HMN.out
        · have b3 : decide (((s[j]'c1).toNat : Int) < 32) = false := by rw [decide_eq_false_iff_not]; intro hx; exact c3 (.inl (UInt8.lt_iff_toNat_lt.2 (by simpa using Int.ofNat_lt.1 hx)))
          have b4 : decide (126 < ((s[j]'c1).toNat : Int)) = false := by rw [decide_eq_false_iff_not]; intro hx; exact c3 (.inr (UInt8.lt_iff_toNat_lt.2 (by simp; omega)))
          by_cases c5 : s[j]'c1 = 92
          · have b5 : (((s[j]'c1).toNat : Int) == 92) = true := u8_eq_of _ 92 c5
            by_cases c6 : j + 1 < s.size
            · have b6 : (((j : Int) + 1) == (s.size : Int)) = false := by rw [beq_eq_false_iff_ne]; omega
              have b6' : (j : Int) + 1 < (s.size : Int) := by omega
              have b6'' : (0 : Int) ≤ (j : Int) + 1 := by omega
              have hjl1 : j + 1 < s.data.toList.length := by rw [HLL.out]; exact c6
              have hget1 : s.data.toList[j + 1] = s[j + 1]'c6 := rfl
              have hq := Q.out.quo
              rw [Lx.quo_esc _ _ _ _ hjl (by rw [hget]; exact c5) hjl1, hget1] at hq
              by_cases c7 : s[j + 1]'c6 = 34
              · rw [if_pos (.inl c7)] at hq
                have HQ := hid hq
                have b7 : (((s[j + 1]'c6).toNat : Int) != 34) = false := u8_nbne_of _ 34 c7
                clear hq c2 c3 c5 c7 hget hjl hget1 hjl1
                go_wp2_with fail
                refine (writeByte_any Q.out.bld (by rw [Q.out.size]; exact liesBuilder) _ (s[j + 1]'c6) (by rfl) (by omega) (by omega)).mono ?_
                rintro e1 w1 ⟨rfl, v', hb1, ht1⟩
                have HN := hid (Q.out.next hL (j' := (j + 2)) hb1 ht1 (by omega) (by omega) (by rw [show j + 2 - a = j - a + 2 from by omega]; exact HQ.out))
                clear hb1 ht1
                go_wp2_with fail
                go_roundw
                case rel => exact ⟨(j + 2), _, _, _, by go_num, HN.out⟩
                case measure => simp [intOf]; omega
              · have b7 : (((s[j + 1]'c6).toNat : Int) != 34) = true := u8_bne_of _ 34 c7
                by_cases c8 : s[j + 1]'c6 = 92
                · rw [if_pos (.inr c8)] at hq
                  have HQ := hid hq
                  have b8 : (((s[j + 1]'c6).toNat : Int) != 92) = false := u8_nbne_of _ 92 c8
                  clear hq c2 c3 c5 c7 c8 hget hjl hget1 hjl1
                  go_wp2_with fail
                  refine (writeByte_any Q.out.bld (by rw [Q.out.size]; exact liesBuilder) _ (s[j + 1]'c6) (by rfl) (by omega) (by omega)).mono ?_
                  rintro e1 w1 ⟨rfl, v', hb1, ht1⟩
                  have HN := hid (Q.out.next hL (j' := (j + 2)) hb1 ht1 (by omega) (by omega) (by rw [show j + 2 - a = j - a + 2 from by omega]; exact HQ.out))
                  clear hb1 ht1
                  go_wp2_with fail
                  go_roundw
                  case rel => exact ⟨(j + 2), _, _, _, by go_num, HN.out⟩
                  case measure => simp [intOf]; omega
                · rw [if_neg (fun hx => hx.elim c7 c8)] at hq
                  have HQ := hid hq
                  have b8 : (((s[j + 1]'c6).toNat : Int) != 92) = true := u8_bne_of _ 92 c8
                  clear hq c2 c3 c5 c7 c8 hget hjl hget1 hjl1
                  go_wp2_with fail
                  refine (fail_as L s a p e _ _ (j - a) 3 _ r HQ.out Q.out.lex (by omega) rfl).mono ?_
                  rintro e' w' ⟨k, tx, f, t, b, a', p', e2, rfl, hx, ht, hmn⟩
                  obtain ⟨q0, q1, q2, q3, z0, z1, z2, z3, hg⟩ := Blk.four (ht.blk Q.out.res (by omega))
                  have HX := hid hx
                  have HT2 := hid ht
                  have HMN := hid hmn
                  clear hx ht hmn
                  go_wp2_with fail
                  (try simp only [Exit.inBlock, Exit.then])
                  refine bodyPost_ret (v := .tuple #[.agg #[.int .i64 k, .string tx, .int .i64 f, .int .i64 t], .bool b]) (by simp [results, Try.results107, go_sem, q0, q1, q2, q3]) rfl ?_
                  exact LexRes.close hL HX.out ((Q.out.touch.mono (fun _ h => h.elim)).trans HT2.out) HMN.out
            · have b6 : (((j : Int) + 1) == (s.size : Int)) = true := by rw [beq_iff_eq]; omega
              have hq := Q.out.quo
              rw [Lx.quo_esc_end _ _ _ _ hjl (by rw [hget]; exact c5) (by rw [HLL.out]; omega)] at hq
              have HQ := hid hq
              clear hq c2 c3 c5 hget hjl
              go_wp2_with fail
              refine (fail_as L s a p e _ _ (j - a) 3 _ r HQ.out Q.out.lex (by omega) rfl).mono ?_
              rintro e' w' ⟨k, tx, f, t, b, a', p', e2, rfl, hx, ht, hmn⟩
              obtain ⟨q0, q1, q2, q3, z0, z1, z2, z3, hg⟩ := Blk.four (ht.blk Q.out.res (by omega))
              have HX := hid hx
              have HT2 := hid ht
              have HMN := hid hmn
              clear hx ht hmn
              go_wp2_with fail
              (try simp only [Exit.inBlock, Exit.then])
              refine bodyPost_ret (v := .tuple #[.agg #[.int .i64 k, .string tx, .int .i64 f, .int .i64 t], .bool b]) (by simp [results, Try.results107, go_sem, q0, q1, q2, q3]) rfl ?_
              exact LexRes.close hL HX.out ((Q.out.touch.mono (fun _ h => h.elim)).trans HT2.out) HMN.out
          · have b5 : (((s[j]'c1).toNat : Int) == 92) = false := u8_ne_of _ 92 c5
            have hq := Q.out.quo
            rw [Lx.quo_plain _ _ _ _ hjl (by rw [hget]; exact c2) (by rw [hget]; exact c3) (by rw [hget]; exact c5), hget] at hq
            have HQ := hid hq
            clear hq c2 c3 c5 hget hjl
            go_wp2_with fail
            refine (writeByte_any Q.out.bld (by rw [Q.out.size]; exact liesBuilder) _ (s[j]'c1) (by rfl) (by omega) (by omega)).mono ?_
            rintro e1 w1 ⟨rfl, v', hb1, ht1⟩
            have HN := hid (Q.out.next hL (j' := (j + 1)) hb1 ht1 (by omega) (by omega) (by rw [show j + 1 - a = j - a + 1 from by omega]; exact HQ.out))
            clear hb1 ht1
            go_wp2_with fail
            go_roundw
            case rel => exact ⟨(j + 1), _, _, _, by go_num, HN.out⟩
            case measure => simp [intOf]; omega
    · have hq := Q.out.quo
      rw [Lx.quo_end _ _ _ _ (by rw [HLL.out]; omega)] at hq
      have HQ := hid hq
      have b1 : decide ((j : Int) < (s.size : Int)) = false := by simp; omega
      clear hq
      go_wp2_with fail
      refine (fail_as L s a p e _ _ (0) 12 _ r HQ.out Q.out.lex (by omega) rfl).mono ?_
      rintro e' w' ⟨k, tx, f, t, b, a', p', e2, rfl, hx, ht, hmn⟩
      obtain ⟨q0, q1, q2, q3, z0, z1, z2, z3, hg⟩ := Blk.four (ht.blk Q.out.res (by omega))
      have HX := hid hx
      have HT2 := hid ht
      have HMN := hid hmn
      clear hx ht hmn
      go_wp2_with fail
      (try simp only [Exit.inBlock, Exit.then])
      refine bodyPost_ret (v := .tuple #[.agg #[.int .i64 k, .string tx, .int .i64 f, .int .i64 t], .bool b]) (by simp [results, Try.results107, go_sem, q0, q1, q2, q3]) rfl ?_
      exact LexRes.close hL HX.out ((Q.out.touch.mono (fun _ h => h.elim)).trans HT2.out) HMN.out
end Go.Proofs.Ytilgpmpiidccjaa

