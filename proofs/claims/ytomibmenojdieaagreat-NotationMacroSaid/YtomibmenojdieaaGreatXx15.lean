/- Part 15 of 42 of a proof; its texts, joined: LxQ, LxN, LxT, LxK, LxV. No condition. -/
import Derived.Test.YtomibmenojdieaaGreatXx14
import Derived.Test.YtomibmenojdieaaGreatXx5
import Derived.RangeFuncNested
import Derived.OwnWalkIn
import Derived.TacticsInMore
import Derived.LoopIn
import Derived.Deep.Cut
import Derived.Test.YtomibmenojdieaaGreatXx13
import Derived.Test.YtomibmenojdieaaGreatXx4
set_option maxRecDepth 100000
set_option maxHeartbeats 2000000
namespace Go.Proofs.YtomibmenojdieaaGreat
open Go.RowKit
structure QuoAt (w : World) (L : Nat) (s : ByteArray) (a : Nat) (p e : Int) (r : Lx.Res) (j : Nat) (acc : List UInt8) (cs : Array Value) (v : Value) (wr : World) : Prop where
 lex : LexAt wr L s a p e
 res : Blk wr w.heap.size 107 #[.int .i64 0, .string ByteArray.empty, .int .i64 0, .int .i64 0]
 bld : Bld wr (w.heap.size + 2) (w.heap.size + 1) 0 142 cs v acc
 size : cs.size = 2
 touch : Touch (fun _ => False) w wr
 lo : a + 1 ≤ j
 hi : j ≤ s.size
 len : acc.length ≤ j
 quo : Lx.quo (s.data.toList.drop j) acc (j - a) = r
theorem QuoAt.next {w : World} {L : Nat} {s : ByteArray} {a : Nat} {p e : Int} {r : Lx.Res} {j : Nat} {acc : List UInt8} {cs : Array Value} {v : Value} {wr w' : World} (Q : QuoAt w L s a p e r j acc cs v wr) (hL : L < w.heap.size) {j' : Nat} {c : UInt8} {v' : Value}
  (hb : Bld w' (w.heap.size + 2) (w.heap.size + 1) 0 142 ((cs.setIfInBounds 0 (.pointer (some ⟨w.heap.size + 1, 0, none⟩))).setIfInBounds (0 + 1) v') v' (acc ++ [c]))
  (ht : Touch (fun k => k = w.heap.size + 1 ∨ v.ownBlock = some k) wr w') (hj : j < j') (hs : j' ≤ s.size) (hq : Lx.quo (s.data.toList.drop j') (acc ++ [c]) (j' - a) = r) :
  QuoAt w L s a p e r j' (acc ++ [c]) ((cs.setIfInBounds 0 (.pointer (some ⟨w.heap.size + 1, 0, none⟩))).setIfInBounds (0 + 1) v') v' w' := by
 have hlt := Q.bld.own.lt;refine ⟨ht.blk Q.lex ?_, ht.blk Q.res ?_, hb, by simp [Q.size], Q.touch.trans' ht ?_, by have := Q.lo; omega, hs, by have := Q.len; simp; omega, hq⟩
 ·rintro (h1 | h1)
  ·omega
  ·have := (hlt _ h1).1; omega
 ·rintro (h1 | h1)
  ·omega
  ·have := (hlt _ h1).1; omega
 ·rintro i (h1 | h1)
  ·right; omega
  ·right; have := (hlt _ h1).1; omega
theorem quoted_any (L : Nat) (s : ByteArray) (a : Nat) (p e : Int) (w : World) (h : LexAt w L s a p e) (hm : s.size ≤ 140737488355328) (ha : a < s.size) :
  Calls Tryz.prog 85 #[.pointer (some ⟨L, 0, none⟩)] w (LexRes w L s a p e (Lx.quo (s.data.toList.drop (a + 1)) [] 1)) := by
 obtain ⟨g1, g2, g3, g4, f1, f2, f3, hL⟩ := lex_reads h;have H := hid h;obtain ⟨r, hr⟩ : ∃ r, Lx.quo (s.data.toList.drop (a + 1)) [] 1 = r := ⟨_, rfl⟩;rw [hr];have HR := hid hr;have hll : s.data.toList.length = s.size := by simp
 have HLL := hid hll;clear h hr hll;go_enter Tryz.func85, Tryz.ntmps85
 go_wp2
 clear g1 g2 g3 g4 f1 f2 f3
 go_loopw [5] (fun i wr => ∃ (j : Nat) (acc : List UInt8) (cs : Array Value) (v : Value), i = .int .i64 j ∧ QuoAt w L s a p e r j acc cs v wr) (fun i _ => s.size - (intOf i).toNat)
 case atStart =>
  refine ⟨a + 1, [], #[.pointer none, .slice none 0 0], .slice none 0 0, by go_num, ?_, ?_, ?_, rfl, ?_, Nat.le_refl _, ha, by simp, ?_⟩
  ·exact (H.out.alloc _).alloc _
  ·exact (Blk.new w _ _).alloc _
  ·refine ⟨?_, .inl rfl, rfl, World.ownsRow_nil _ _ _ _, by simp [Value.ownBlock], fun _ => rfl⟩
   have := Blk.new (w.alloc (.cells #[.int .i64 0, .string ⟨#[]⟩, .int .i64 0, .int .i64 0] 107)) 142 #[.pointer none, .slice none 0 0];simpa using this
  ·exact ((Touch.refl _ w).alloc _).alloc _
  ·rw [show a + 1 - a = 1 from by omega]; exact HR.out
 case round =>
  obtain ⟨j, acc, cs, v, rfl, Q0⟩ := hrel;obtain ⟨g1, g2, g3, g4, f1, f2, f3, hLr⟩ := lex_reads Q0.lex;have Q := hid Q0;have hlo := Q0.lo;have hhi := Q0.hi;have hlen := Q0.len;have hwr := Q0.touch.size;have hbl := Q0.bld.lt;have hres := Q0.res.lt;clear Q0
  by_cases c1 : j < s.size
  ·have b1 : decide ((j : Int) < (s.size : Int)) = true := by simp; omega
   have b1' : (j : Int) < (s.size : Int) := by omega
   have b1'' : (0 : Int) ≤ (j : Int) := by omega
   have hjl : j < s.data.toList.length := by rw [HLL.out]; exact c1
   have hget : s.data.toList[j] = s[j]'c1 := rfl
   by_cases c2 : s[j]'c1 = 34
   ·have hq := Q.out.quo
    rw [Lx.quo_cons _ _ _ _ hjl, hget, if_pos c2] at hq;have HQ := hid hq;have b2 : (((s[j]'c1).toNat : Int) == 34) = true := u8_eq_of _ 34 c2;clear hq c2 hget hjl;go_wp2_with fail
    refine (bstring_any Q.out.bld).mono ?_;rintro e1 w1 ⟨rfl, ht1⟩;have hlx : LexAt w1 L s a p e := ht1.blk Q.out.lex (fun hk => by have := (Q.out.bld.own.lt _ hk).1; omega);have hrs := ht1.blk Q.out.res (fun hk => by have := (Q.out.bld.own.lt _ hk).1; omega);have ht1' : Touch (fun _ => False) w w1 := Q.out.touch.trans' ht1 (fun i hk => by have := (Q.out.bld.own.lt _ hk).1; right; omega);have HLX := hid hlx;have HRS := hid hrs;have HT1 := hid ht1';clear hlx hrs ht1 ht1';go_wp2_with fail
    refine (token_as L s a p e _ 3 _ _ (j - a + 1) 200 _ _ r HQ.out HLX.out rfl (by omega) rfl).mono ?_;rintro e' w' ⟨k, tx, f, t, b, a', p', e2, rfl, hx, ht, hmn⟩;obtain ⟨q0, q1, q2, q3, z0, z1, z2, z3, hg⟩ := Blk.four (ht.blk HRS.out (by omega));have HX := hid hx;have HT2 := hid ht;have HMN := hid hmn;clear hx ht hmn;go_wp2_with fail
    (try simp only [Exit.inBlock, Exit.then])
    refine bodyPost_ret (v := .tuple #[.agg #[.int .i64 k, .string tx, .int .i64 f, .int .i64 t], .bool b]) (by simp [results, Tryz.results85, go_sem, q0, q1, q2, q3]) rfl ?_;exact LexRes.close hL HX.out ((HT1.out.mono (fun _ h => h.elim)).trans HT2.out) HMN.out
   ·have b2 : (((s[j]'c1).toNat : Int) == 34) = false := u8_ne_of _ 34 c2
    by_cases c3 : (s[j]'c1) < 32 ∨ 126 < (s[j]'c1)
    ·have hq := Q.out.quo
     rw [Lx.quo_cons _ _ _ _ hjl, hget, if_neg c2, if_pos c3] at hq;have HQ := hid hq
     by_cases c4 : (s[j]'c1) < 32
     ·have b3 : decide (((s[j]'c1).toNat : Int) < 32) = true := by simp; exact Int.ofNat_lt.2 (UInt8.lt_iff_toNat_lt.1 c4)
      clear hq c2 c3 c4 hget hjl;go_wp2_with fail
      refine (fail_as L s a p e _ _ (j - a) 3 _ r HQ.out Q.out.lex (by omega) rfl).mono ?_;rintro e' w' ⟨k, tx, f, t, b, a', p', e2, rfl, hx, ht, hmn⟩;obtain ⟨q0, q1, q2, q3, z0, z1, z2, z3, hg⟩ := Blk.four (ht.blk Q.out.res (by omega));have HX := hid hx;have HT2 := hid ht;have HMN := hid hmn;clear hx ht hmn;go_wp2_with fail
      (try simp only [Exit.inBlock, Exit.then])
      refine bodyPost_ret (v := .tuple #[.agg #[.int .i64 k, .string tx, .int .i64 f, .int .i64 t], .bool b]) (by simp [results, Tryz.results85, go_sem, q0, q1, q2, q3]) rfl ?_;exact LexRes.close hL HX.out ((Q.out.touch.mono (fun _ h => h.elim)).trans HT2.out) HMN.out
     ·have b3 : decide (((s[j]'c1).toNat : Int) < 32) = false := by rw [decide_eq_false_iff_not]; intro hx; exact c4 (UInt8.lt_iff_toNat_lt.2 (by simpa using Int.ofNat_lt.1 hx))
      have b4 : decide (126 < ((s[j]'c1).toNat : Int)) = true := by
       have := UInt8.lt_iff_toNat_lt.1 (c3.resolve_left c4);simp at this ⊢; omega
      clear hq c2 c3 c4 hget hjl;go_wp2_with fail
      refine (fail_as L s a p e _ _ (j - a) 3 _ r HQ.out Q.out.lex (by omega) rfl).mono ?_;rintro e' w' ⟨k, tx, f, t, b, a', p', e2, rfl, hx, ht, hmn⟩;obtain ⟨q0, q1, q2, q3, z0, z1, z2, z3, hg⟩ := Blk.four (ht.blk Q.out.res (by omega));have HX := hid hx;have HT2 := hid ht;have HMN := hid hmn;clear hx ht hmn;go_wp2_with fail
      (try simp only [Exit.inBlock, Exit.then])
      refine bodyPost_ret (v := .tuple #[.agg #[.int .i64 k, .string tx, .int .i64 f, .int .i64 t], .bool b]) (by simp [results, Tryz.results85, go_sem, q0, q1, q2, q3]) rfl ?_;exact LexRes.close hL HX.out ((Q.out.touch.mono (fun _ h => h.elim)).trans HT2.out) HMN.out
    ·have b3 : decide (((s[j]'c1).toNat : Int) < 32) = false := by rw [decide_eq_false_iff_not]; intro hx; exact c3 (.inl (UInt8.lt_iff_toNat_lt.2 (by simpa using Int.ofNat_lt.1 hx)))
     have b4 : decide (126 < ((s[j]'c1).toNat : Int)) = false := by rw [decide_eq_false_iff_not]; intro hx; exact c3 (.inr (UInt8.lt_iff_toNat_lt.2 (by simp; omega)))
     by_cases c5 : s[j]'c1 = 92
     ·have b5 : (((s[j]'c1).toNat : Int) == 92) = true := u8_eq_of _ 92 c5
      by_cases c6 : j + 1 < s.size
      ·have b6 : (((j : Int) + 1) == (s.size : Int)) = false := by rw [beq_eq_false_iff_ne]; omega
       have b6' : (j : Int) + 1 < (s.size : Int) := by omega
       have b6'' : (0 : Int) ≤ (j : Int) + 1 := by omega
       have hjl1 : j + 1 < s.data.toList.length := by rw [HLL.out]; exact c6
       have hget1 : s.data.toList[j + 1] = s[j + 1]'c6 := rfl;have hq := Q.out.quo;rw [Lx.quo_esc _ _ _ _ hjl (by rw [hget]; exact c5) hjl1, hget1] at hq
       by_cases c7 : s[j + 1]'c6 = 34
       ·rw [if_pos (.inl c7)] at hq
        have HQ := hid hq;have b7 : (((s[j + 1]'c6).toNat : Int) != 34) = false := u8_nbne_of _ 34 c7;clear hq c2 c3 c5 c7 hget hjl hget1 hjl1;go_wp2_with fail
        refine (writeByte_any Q.out.bld (by rw [Q.out.size]; exact liesBuilder) _ (s[j + 1]'c6) (by rfl) (by omega) (by omega)).mono ?_;rintro e1 w1 ⟨rfl, v', hb1, ht1⟩;have HN := hid (Q.out.next hL (j' := (j + 2)) hb1 ht1 (by omega) (by omega) (by rw [show j + 2 - a = j - a + 2 from by omega]; exact HQ.out));clear hb1 ht1;go_wp2_with fail
        go_roundw
        case rel => exact ⟨(j + 2), _, _, _, by go_num, HN.out⟩
        case measure => simp [intOf]; omega
       ·have b7 : (((s[j + 1]'c6).toNat : Int) != 34) = true := u8_bne_of _ 34 c7
        by_cases c8 : s[j + 1]'c6 = 92
        ·rw [if_pos (.inr c8)] at hq
         have HQ := hid hq;have b8 : (((s[j + 1]'c6).toNat : Int) != 92) = false := u8_nbne_of _ 92 c8;clear hq c2 c3 c5 c7 c8 hget hjl hget1 hjl1;go_wp2_with fail
         refine (writeByte_any Q.out.bld (by rw [Q.out.size]; exact liesBuilder) _ (s[j + 1]'c6) (by rfl) (by omega) (by omega)).mono ?_;rintro e1 w1 ⟨rfl, v', hb1, ht1⟩;have HN := hid (Q.out.next hL (j' := (j + 2)) hb1 ht1 (by omega) (by omega) (by rw [show j + 2 - a = j - a + 2 from by omega]; exact HQ.out));clear hb1 ht1;go_wp2_with fail
         go_roundw
         case rel => exact ⟨(j + 2), _, _, _, by go_num, HN.out⟩
         case measure => simp [intOf]; omega
        ·rw [if_neg (fun hx => hx.elim c7 c8)] at hq
         have HQ := hid hq;have b8 : (((s[j + 1]'c6).toNat : Int) != 92) = true := u8_bne_of _ 92 c8;clear hq c2 c3 c5 c7 c8 hget hjl hget1 hjl1;go_wp2_with fail
         refine (fail_as L s a p e _ _ (j - a) 3 _ r HQ.out Q.out.lex (by omega) rfl).mono ?_;rintro e' w' ⟨k, tx, f, t, b, a', p', e2, rfl, hx, ht, hmn⟩;obtain ⟨q0, q1, q2, q3, z0, z1, z2, z3, hg⟩ := Blk.four (ht.blk Q.out.res (by omega));have HX := hid hx;have HT2 := hid ht;have HMN := hid hmn;clear hx ht hmn;go_wp2_with fail
         (try simp only [Exit.inBlock, Exit.then])
         refine bodyPost_ret (v := .tuple #[.agg #[.int .i64 k, .string tx, .int .i64 f, .int .i64 t], .bool b]) (by simp [results, Tryz.results85, go_sem, q0, q1, q2, q3]) rfl ?_;exact LexRes.close hL HX.out ((Q.out.touch.mono (fun _ h => h.elim)).trans HT2.out) HMN.out
      ·have b6 : (((j : Int) + 1) == (s.size : Int)) = true := by rw [beq_iff_eq]; omega
       have hq := Q.out.quo;rw [Lx.quo_esc_end _ _ _ _ hjl (by rw [hget]; exact c5) (by rw [HLL.out]; omega)] at hq;have HQ := hid hq;clear hq c2 c3 c5 hget hjl;go_wp2_with fail
       refine (fail_as L s a p e _ _ (j - a) 3 _ r HQ.out Q.out.lex (by omega) rfl).mono ?_;rintro e' w' ⟨k, tx, f, t, b, a', p', e2, rfl, hx, ht, hmn⟩;obtain ⟨q0, q1, q2, q3, z0, z1, z2, z3, hg⟩ := Blk.four (ht.blk Q.out.res (by omega));have HX := hid hx;have HT2 := hid ht;have HMN := hid hmn;clear hx ht hmn;go_wp2_with fail
       (try simp only [Exit.inBlock, Exit.then])
       refine bodyPost_ret (v := .tuple #[.agg #[.int .i64 k, .string tx, .int .i64 f, .int .i64 t], .bool b]) (by simp [results, Tryz.results85, go_sem, q0, q1, q2, q3]) rfl ?_;exact LexRes.close hL HX.out ((Q.out.touch.mono (fun _ h => h.elim)).trans HT2.out) HMN.out
     ·have b5 : (((s[j]'c1).toNat : Int) == 92) = false := u8_ne_of _ 92 c5
      have hq := Q.out.quo;rw [Lx.quo_plain _ _ _ _ hjl (by rw [hget]; exact c2) (by rw [hget]; exact c3) (by rw [hget]; exact c5), hget] at hq;have HQ := hid hq;clear hq c2 c3 c5 hget hjl;go_wp2_with fail
      refine (writeByte_any Q.out.bld (by rw [Q.out.size]; exact liesBuilder) _ (s[j]'c1) (by rfl) (by omega) (by omega)).mono ?_;rintro e1 w1 ⟨rfl, v', hb1, ht1⟩;have HN := hid (Q.out.next hL (j' := (j + 1)) hb1 ht1 (by omega) (by omega) (by rw [show j + 1 - a = j - a + 1 from by omega]; exact HQ.out));clear hb1 ht1;go_wp2_with fail
      go_roundw
      case rel => exact ⟨(j + 1), _, _, _, by go_num, HN.out⟩
      case measure => simp [intOf]; omega
  ·have hq := Q.out.quo
   rw [Lx.quo_end _ _ _ _ (by rw [HLL.out]; omega)] at hq;have HQ := hid hq;have b1 : decide ((j : Int) < (s.size : Int)) = false := by simp; omega
   clear hq;go_wp2_with fail
   refine (fail_as L s a p e _ _ (0) 12 _ r HQ.out Q.out.lex (by omega) rfl).mono ?_;rintro e' w' ⟨k, tx, f, t, b, a', p', e2, rfl, hx, ht, hmn⟩;obtain ⟨q0, q1, q2, q3, z0, z1, z2, z3, hg⟩ := Blk.four (ht.blk Q.out.res (by omega));have HX := hid hx;have HT2 := hid ht;have HMN := hid hmn;clear hx ht hmn;go_wp2_with fail
   (try simp only [Exit.inBlock, Exit.then])
   refine bodyPost_ret (v := .tuple #[.agg #[.int .i64 k, .string tx, .int .i64 f, .int .i64 t], .bool b]) (by simp [results, Tryz.results85, go_sem, q0, q1, q2, q3]) rfl ?_;exact LexRes.close hL HX.out ((Q.out.touch.mono (fun _ h => h.elim)).trans HT2.out) HMN.out
theorem runLen_i (l : Lx.Bytes) (c k : Nat) : Lx.runLen c (l.drop k) = Lx.runI c l k := by
 unfold Lx.runLen Lx.runI
 have : (Lx.isB c) = fun b : UInt8 => ((Lx.cls b.toNat : Int) == (c : Int)) := by
  funext b
  unfold Lx.isB;rw [Bool.eq_iff_iff]; simp; omega
 rw [this]
theorem extract_list (s : ByteArray) (i j : Nat) : (s.extract i j).data.toList = (s.data.toList.drop i).take (j - i) := by
 simp [ByteArray.data_extract, Array.toList_extract, List.extract_eq_take_drop]
theorem name_any (L : Nat) (s : ByteArray) (a : Nat) (p e : Int) (w : World) (h : LexAt w L s a p e) (hm : s.size ≤ 140737488355328) (ha : a < s.size) :
  Calls Tryz.prog 86 #[.pointer (some ⟨L, 0, none⟩)] w (LexRes w L s a p e (Lx.name (s.data.toList.drop a))) := by
 have hll : s.data.toList.length = s.size := by simp
 have hle := Lx.runI_le 3 s.data.toList (a + 1);rw [hll] at hle;obtain ⟨n, hn⟩ : ∃ n, n = Lx.runI 3 s.data.toList (a + 1) := ⟨_, rfl⟩;have hmd : a + 1 + n = a + 1 + Lx.runI 3 s.data.toList (a + 1) := by rw [hn]
 have hN : Lx.runLen 3 ((s.data.toList.drop a).drop 1) = n := by rw [List.drop_drop, runLen_i, hn]; rfl
 have hT : ((s.data.toList.drop a).drop 1).take n = (s.extract (a + 1) (a + 1 + n)).data.toList := by
  rw [extract_list, List.drop_drop, Nat.add_sub_cancel_left]
 have hbl : (s.extract (a + 1) (a + 1 + n)).toList = (s.extract (a + 1) (a + 1 + n)).data.toList := ByteArray.toList_eq _;have hget : ∀ i, (s.data.toList.drop a)[i]? = s.data.toList[a + i]? := fun i => by rw [List.getElem?_drop]
 unfold Lx.name;simp only [hN, hT]
 by_cases c1 : (s.extract (a + 1) (a + 1 + n)).data.toList = [102, 101, 110, 99, 101]
 ·rw [if_neg (by simpa using c1)]
  have F : ((s.extract (a + 1) (a + 1 + n)).toList == [102, 101, 110, 99, 101]) = true := by rw [hbl, c1]; rfl
  by_cases c2 : a + 1 + n + 1 < s.size
  ·have g1 : (s.data.toList.drop a)[1 + n]? = some (s[a + 1 + n]'(Nat.lt_of_succ_lt c2)) := by
    rw [hget, List.getElem?_eq_getElem (by omega)];simp only [Nat.add_assoc]; rfl
   have g2 : (s.data.toList.drop a)[2 + n]? = some (s[a + 1 + n + 1]'c2) := by
    rw [hget, List.getElem?_eq_getElem (by omega)]
    congr 1
    show s.data.toList[a + (2 + n)] = s.data.toList[a + 1 + n + 1]'(by omega)
    congr 1; omega
   have d1 : Lx.delimAt (s.data.toList.drop a) (1 + n) = Lx.isDelim (s[a + 1 + n]'(Nat.lt_of_succ_lt c2)) := by unfold Lx.delimAt; rw [g1]
   have d2 : Lx.delimAt (s.data.toList.drop a) (2 + n) = Lx.isDelim (s[a + 1 + n + 1]'c2) := by unfold Lx.delimAt; rw [g2]
   rw [d1, d2];cases e1 : Lx.isDelim (s[a + 1 + n]'(Nat.lt_of_succ_lt c2)) with
   | false => exact name_bad1 L s a _ p e w h hm hmd (by omega) _ F c2 e1 (by simp)
   | true =>
    cases e2 : Lx.isDelim (s[a + 1 + n + 1]'c2) with
    | false => exact name_bad2 L s a _ p e w h hm hmd (by omega) _ F c2 e1 e2 (by simp)
    | true =>
     refine name_fence L s a _ p e w h hm hmd (by omega) _ F c2 e1 e2 ?_;rw [if_pos ⟨rfl, rfl⟩, extract_list]
     have hl : (List.take (a + 1 + n + 2 - (a + 1 + n)) (List.drop (a + 1 + n) s.data.toList)).length = 2 := by
      rw [List.length_take, List.length_drop, hll]; omega
     unfold Lx.lim;rw [if_neg (by simp only [hl]; omega)]
     congr 1
     ·congr 1
      rw [List.drop_drop, show a + 1 + n + 2 - (a + 1 + n) = 2 from by omega, show a + (1 + n) = a + 1 + n from by omega]
     ·omega
  ·have hd : ¬ (Lx.delimAt (s.data.toList.drop a) (1 + n) = true ∧ Lx.delimAt (s.data.toList.drop a) (2 + n) = true) := by
    rintro ⟨_, h2⟩;unfold Lx.delimAt at h2;rw [hget, List.getElem?_eq_none (by omega)] at h2;cases h2
   rw [if_neg hd];exact name_short L s a _ p e w h hm hmd (by omega) _ F (by omega) rfl
 ·rw [if_pos (by simpa using c1)]
  have F : ((s.extract (a + 1) (a + 1 + n)).toList == [102, 101, 110, 99, 101]) = false := by rw [hbl]; simpa using c1
  refine name_plain L s a _ p e w h hm hmd (by omega) _ F ?_
  congr 1
  omega
theorem next_any (L : Nat) (s : ByteArray) (a : Nat) (p e : Int) (w : World) (h : LexAt w L s a p e) (hm : s.size ≤ 140737488355328) (ha : a < s.size) :
  Calls Tryz.prog 65 #[.pointer (some ⟨L, 0, none⟩)] w (LexRes w L s a p e (Lx.next (s.data.toList.drop a))) := by
 have HM : s.size ≤ maxLen := by unfold maxLen; omega
 have hll : s.data.toList.length = s.size := by simp
 have hd : s.data.toList.drop a = s[a] :: s.data.toList.drop (a + 1) := List.drop_eq_getElem_cons (by simpa using ha);have hcl : Lx.clsI s.data.toList a = (Lx.cls s[a].toNat : Int) := by rw [Lx.clsI_lt _ _ (by omega)]; rfl
 have F : ∀ k : Nat, (Lx.clsI s.data.toList a == (k : Int)) = (Lx.cls s[a].toNat == k) := fun k => by
  rw [hcl, Bool.eq_iff_iff]; simp; omega
 have B : ∀ k : Nat, Lx.isB k s[a] = (Lx.cls s[a].toNat == k) := fun k => rfl
 have C : ∀ x : UInt8, ((s.extract a (a + 1)).toList == [x]) = (s[a] == x) := one_byte_eq s a ha;have O := one_byte s a ha;have one : ∀ k : Nat, Lx.lim 1 ⟨k, (s.extract a (a + 1)).data.toList⟩ 1 = .ok ⟨k, [s[a]]⟩ 1 := fun k => by rw [O]; rfl
 have hnum : Lx.isB 2 s[a] = true → Lx.next (s.data.toList.drop a) = Lx.number (s.data.toList.drop a) := fun hb => by
  rw [hd]; simp only [Lx.next, hb, if_true]
 by_cases b2 : (Lx.cls s[a].toNat == 2) = true
 ·exact next_number L s a p e w h HM ha _ ((F 2).trans b2) (hnum ((B 2).trans b2)).symm
 have b2' : (Lx.cls s[a].toNat == 2) = false := by simpa using b2
 rw [hd];simp only [Lx.next, B, b2', Bool.false_eq_true, if_false];have F2 := (F 2).trans b2'
 by_cases b5 : (Lx.cls s[a].toNat == 5) = true
 ·rw [if_pos b5]
  exact next_mark L s a p e w h HM ha _ F2 ((F 5).trans b5) (one 7)
 have b5' : (Lx.cls s[a].toNat == 5) = false := by simpa using b5
 simp only [b5', Bool.false_eq_true, if_false];have F5 := (F 5).trans b5'
 by_cases c34 : s[a] = 34
 ·rw [if_pos c34]
  exact next_quoted L s a p e w h HM ha _ F2 F5 ((C 34).trans (by simp [c34])) (fun w' h' => quoted_any L s a p e w' h' hm ha)
 rw [if_neg c34];have C34 := (C 34).trans (show (s[a] == 34) = false by simpa using c34);have hq : (s.data.toList.drop (a + 1)).head? = s.data.toList[a + 1]? := by rw [List.head?_drop]
 have hat3 : Lx.isAt 3 (s.data.toList.drop (a + 1)) 0 = (Lx.clsI s.data.toList (a + 1) == 3) := by
  unfold Lx.isAt Lx.clsI;rw [List.getElem?_drop];cases s.data.toList[a + 1 + 0]? with
  | none => simp
  | some b => simp only [Lx.isB]; rw [Bool.eq_iff_iff]; simp; omega
 rw [hq, hat3]
 by_cases c92 : s[a] = 92
 ·have C92 := (C 92).trans (show (s[a] == 92) = true by simpa using c92)
  have C35 := (C 35).trans (show (s[a] == 35) = false by rw [c92]; rfl);have N3 : (Lx.clsI s.data.toList a == 3) = false := (F 3).trans (by rw [c92]; rfl);have N4 : (Lx.clsI s.data.toList a == 4) = false := (F 4).trans (by rw [c92]; rfl);have n35 : ¬ s[a] = 35 := by rw [c92]; decide
  have n3 : ¬ ((Lx.cls s[a].toNat == 3) = true ∨ (Lx.cls s[a].toNat == 4) = true) := by rw [c92]; decide
  by_cases hs : a + 1 < s.size
  ·have hx : s.data.toList[a + 1]? = some (s[a + 1]'hs) := by rw [List.getElem?_eq_getElem (by omega)]; rfl
   rw [hx]
   by_cases d92 : s[a + 1]'hs = 92
   ·rw [if_pos ⟨c92, by rw [d92]⟩]
    exact next_break L s a p e w h HM ha _ F2 F5 C34 C92 hs (u8_eq_of _ 92 d92) rfl
   ·rw [if_neg (fun hh => d92 (by simpa using hh.2))]
    cases e3 : (Lx.clsI s.data.toList (a + 1) == 3) with
    | true =>
     rw [if_pos ⟨c92, rfl⟩, ← hd];exact next_name L s a p e w h HM ha _ F2 F5 C34 C92 hs (u8_ne_of _ 92 d92) e3 (fun w' h' => name_any L s a p e w' h' hm ha)
    | false =>
     rw [if_neg (fun hh => by cases hh.2), if_neg (fun hh => n35 hh.1), if_neg n3];exact next_slash_a L s a p e w h HM ha _ F2 F5 C34 C92 C35 hs (u8_ne_of _ 92 d92) e3 N3 N4 rfl
  ·have hx : s.data.toList[a + 1]? = none := List.getElem?_eq_none (by omega)
   have e3 : (Lx.clsI s.data.toList (a + 1) == 3) = false := by rw [Lx.clsI_ge _ _ (by omega)]; rfl
   rw [hx, e3, if_neg (fun hh => by cases hh.2), if_neg (fun hh => by cases hh.2), if_neg (fun hh => n35 hh.1), if_neg n3];exact next_slash_b L s a p e w h HM ha _ F2 F5 C34 C92 C35 hs e3 N3 N4 rfl
 rw [if_neg (fun hh => c92 hh.1), if_neg (fun hh => c92 hh.1)];have C92 := (C 92).trans (show (s[a] == 92) = false by simpa using c92)
 by_cases c35 : s[a] = 35
 ·have C35 := (C 35).trans (show (s[a] == 35) = true by simpa using c35)
  have N3 : (Lx.clsI s.data.toList a == 3) = false := (F 3).trans (by rw [c35]; rfl);have N4 : (Lx.clsI s.data.toList a == 4) = false := (F 4).trans (by rw [c35]; rfl);have n3 : ¬ ((Lx.cls s[a].toNat == 3) = true ∨ (Lx.cls s[a].toNat == 4) = true) := by rw [c35]; decide
  by_cases hs : a + 1 < s.size
  ·have hx : s.data.toList.drop (a + 1) = (s[a + 1]'hs) :: s.data.toList.drop (a + 2) := List.drop_eq_getElem_cons (by omega)
   have hp : Lx.parAt (s.data.toList.drop (a + 1)) = decide (49 ≤ (s[a + 1]'hs) ∧ (s[a + 1]'hs) ≤ 52) := by rw [hx]; rfl
   rw [hp];have le1 : (49 ≤ (s[a + 1]'hs)) ↔ 49 ≤ (s[a + 1]'hs).toNat := by rw [UInt8.le_iff_toNat_le]; rfl
   have le2 : ((s[a + 1]'hs) ≤ 52) ↔ (s[a + 1]'hs).toNat ≤ 52 := by rw [UInt8.le_iff_toNat_le]; rfl
   by_cases d1 : 49 ≤ (s[a + 1]'hs).toNat
   ·have D1 : decide (49 ≤ ((s[a + 1]'hs).toNat : Int)) = true := by simp; omega
    by_cases d2 : (s[a + 1]'hs).toNat ≤ 52
    ·have D2 : decide (((s[a + 1]'hs).toNat : Int) ≤ 52) = true := by simp; omega
     rw [if_pos ⟨c35, by simp [le1, le2, d1, d2]⟩, hx];refine next_param L s a p e w h HM ha _ F2 F5 C34 C92 C35 hs D1 D2 ?_;have hw : wrap32 ((s[a + 1]'hs).toNat : Int) = ((s[a + 1]'hs).toNat : Int) := IntWalk.wrap32_in _ (by have := (s[a + 1]'hs).toNat_lt; constructor <;> omega);rw [hw, utf8_digit _ d1 d2];rfl
    ·have D2 : decide (((s[a + 1]'hs).toNat : Int) ≤ 52) = false := by simp; omega
     rw [if_neg (fun hh => by simp [le1, le2, d2] at hh), if_neg n3];exact next_hash_b L s a p e w h HM ha _ F2 F5 C34 C92 C35 hs D1 D2 N3 N4 rfl
   ·have D1 : decide (49 ≤ ((s[a + 1]'hs).toNat : Int)) = false := by simp; omega
    rw [if_neg (fun hh => by simp [le1, le2, d1] at hh), if_neg n3];exact next_hash_a L s a p e w h HM ha _ F2 F5 C34 C92 C35 hs D1 N3 N4 rfl
  ·have hp : Lx.parAt (s.data.toList.drop (a + 1)) = false := by rw [List.drop_eq_nil_of_le (by omega)]; rfl
   rw [hp, if_neg (fun hh => by cases hh.2), if_neg n3];exact next_hash_c L s a p e w h HM ha _ F2 F5 C34 C92 C35 hs N3 N4 rfl
 rw [if_neg (fun hh => c35 hh.1)];have C35 := (C 35).trans (show (s[a] == 35) = false by simpa using c35)
 by_cases b3 : (Lx.cls s[a].toNat == 3) = true
 ·rw [if_pos (.inl b3)]
  exact next_letter L s a p e w h HM ha _ F2 F5 C34 C92 C35 ((F 3).trans b3) (one 1)
 have b3' : (Lx.cls s[a].toNat == 3) = false := by simpa using b3
 by_cases b4 : (Lx.cls s[a].toNat == 4) = true
 ·rw [if_pos (.inr b4)]
  exact next_sign L s a p e w h HM ha _ F2 F5 C34 C92 C35 ((F 3).trans b3') ((F 4).trans b4) (one 1)
 have b4' : (Lx.cls s[a].toNat == 4) = false := by simpa using b4
 rw [if_neg (fun hh => hh.elim b3 b4)];exact next_none L s a p e w h HM ha _ F2 F5 C34 C92 C35 ((F 3).trans b3') ((F 4).trans b4') rfl
end Go.Proofs.YtomibmenojdieaaGreat
namespace Go.Proofs.YtomibmenojdieaaGreat
open Go.RowKit
attribute [local go_sem] Oper.semAt_some
def ptokV (x : Lx.PTok) : Value := .agg #[.int .i64 x.kind, .string ⟨x.text.toArray⟩, .int .i64 x.from_, .int .i64 x.to_]
def atOf (L : Nat) (w : World) : Nat := match w.cell? ⟨L, 257, none⟩ with | some (.int _ n) => n.toNat | _ => 0
theorem atOf_eq {L : Nat} {w : World} {s : ByteArray} {a : Nat} {p e : Int} (h : LexAt w L s a p e) : atOf L w = a := by unfold atOf; rw [h.at_]; simp
def LexEnd (w : World) (L : Nat) (s : ByteArray) (r : Option (Nat × Nat)) : Prop :=
 ∃ a p e : Int, LexAt w L s a p e ∧ (match r with | none => e = 0 | some (p', e') => p = p' ∧ e = e')
theorem iter_any (L c l : Nat) (s : ByteArray) (J : List Lx.PTok → World → Prop) (w : World) (hm : s.size ≤ 140737488355328)
  (hJ : ∀ pre W W', J pre W → Touch (· = L) W W' → J pre W')
  (hcL : c ≠ L)
  (hY : ∀ pre x (a : Nat) W, J pre W → LexAt W L s a 0 0 → W.cell? ⟨c, 0, none⟩ = some (.pointer (some ⟨L, 0, none⟩)) → pre ++ [x] <+: (Lx.lexAll s.data.toList).1 →
   YieldAt Fence.wide 1 Tryz.prog l #[ptokV x] W fun e W' => e = .returned (.bool true) ∧ J (pre ++ [x]) W' ∧ LexAt W' L s a 0 0 ∧ W'.cell? ⟨c, 0, none⟩ = some (.pointer (some ⟨L, 0, none⟩)))
  (hL : LexAt w L s 0 0 0) (hc : w.cell? ⟨c, 0, none⟩ = some (.pointer (some ⟨L, 0, none⟩))) (h0 : J [] w) :
  Calls Tryz.prog 63 #[.func (.yield l) #[] #[], .pointer (some ⟨c, 0, none⟩)] w fun e w' => e = .returned (.tuple #[]) ∧
   J (Lx.lexAll s.data.toList).1 w' ∧ LexEnd w' L s (Lx.lexAll s.data.toList).2 := by
 have HM : s.size ≤ maxLen := by unfold maxLen; omega
 have HY := hid hY;have HJ := hid hJ;have HLex := hid hL;have HC := hid hc;have H0 := hid h0;have hll : s.data.toList.length = s.size := by simp
 have HLL := hid hll;clear hY hJ hL hc h0 hll;go_enter Tryz.func63, Tryz.ntmps63
 go_wp2
 go_loopw [4] (fun _ wr => ∃ (pre : List Lx.PTok) (a : Nat), Hid (J pre wr) ∧ Hid (LexAt wr L s a 0 0) ∧ Hid (wr.cell? ⟨c, 0, none⟩ = some (.pointer (some ⟨L, 0, none⟩))) ∧ a ≤ s.size ∧
   Hid (Lx.lexAll s.data.toList = (pre ++ (Lx.lexFrom s.data.toList a).1, (Lx.lexFrom s.data.toList a).2))) (fun _ wr => s.size - atOf L wr)
 case atStart => exact ⟨[], 0, H0, HLex, HC, Nat.zero_le _, rfl⟩
 case round =>
  obtain ⟨pre, a, HJr, HLr, HCr, ha, HA⟩ := hrel;have hcc := HCr.out;obtain ⟨g1, g2, g3, g4, f1, f2, f3, hLlt⟩ := lex_reads HLr.out;obtain ⟨b, hbd⟩ : ∃ b, b = Lx.skip s.data.toList a := ⟨_, rfl⟩;have hsk := Lx.skip_le s.data.toList a (by rw [HLL.out]; exact ha);rw [← hbd, HLL.out] at hsk;obtain ⟨hab, hbs⟩ := hsk;have HB := hid hbd;have HAt := hid (atOf_eq HLr.out);clear hbd
  have hrun : ∀ n, Calls Tryz.prog 64 #[.pointer (some ⟨L, 0, none⟩), .int .i64 (a : Int), .int .u8 1] (wr.drewN n) fun e w' => e = .returned (.int .i64 (b : Int)) ∧ ∃ m, w' = (wr.drewN n).drewN m := fun n =>
   (run_any L s a 0 0 _ 1 _ (HLr.out.drewN _) (by omega) (by omega) HM).mono (by rintro e w' ⟨rfl, hn⟩; rw [Int.toNat_natCast, HB.out]; exact ⟨rfl, hn⟩)
  have HRUN := hid hrun;clear hrun;go_wp2_with fail
  refine wp_region_segs [([0,1,2,3,4,5,6,7,8],9)] [] (by kernel_rfl) (by kernel_rfl) ?_;simp only [wpSegs, pick, List.getElem?_cons_zero, List.getElem?_cons_succ]
  repeat (quiet_step (exact Calls.quiet_of (HRUN.out _)))
  refine wpQuiet_nil ?_;rintro _ ⟨nq, rfl⟩;go_wp2_with fail
  refine wpQuiet_nil ?_;rintro _ ⟨nq1, rfl⟩;have hlx := (HLr.out.drewN nq).setAt b;have hc1 : ((wr.drewN nq).setCell ⟨L, 257, none⟩ (.int .i64 (b : Int))).cell? ⟨c, 0, none⟩ = some (.pointer (some ⟨L, 0, none⟩)) := by rw [World.cell?_setCell_other _ _ _ _ (by simp)]; exact HCr.out
  have hj1 : J pre ((wr.drewN nq).setCell ⟨L, 257, none⟩ (.int .i64 (b : Int))) := HJ.out _ _ _ HJr.out (((Touch.refl (· = L) wr).drewN nq).setCell (p := ⟨L, 257, none⟩) (.inl rfl) _);have HLX := hid hlx;have HJ1 := hid hj1;clear hlx hj1
  by_cases hlt : b < s.size
  ·have b1 : ((b : Int) == (s.size : Int)) = false := by rw [beq_eq_false_iff_ne]; omega
   go_wp2_with fail
   go_quiet (fail)
   go_wp2_with fail
   refine (next_any L s b 0 0 _ (HLX.out.drewN _) hm hlt).mono ?_;rintro e' w' ⟨k, tx, f, t, bb, a', p', e2, rfl, hx, ht, hmn⟩;have hj2 : J pre w' := HJ.out _ _ _ HJ1.out (Touch.ofN (n := _) ht);have hc2 : w'.cell? ⟨c, 0, none⟩ = some (.pointer (some ⟨L, 0, none⟩)) := ht.cell hc1 hcL;have HJ2 := hid hj2;have HX := hid hx;clear hj2 hx ht;cases hr : Lx.next (s.data.toList.drop b) with
   | err i er =>
    rw [hr] at hmn;obtain ⟨rfl, rfl, rfl, rfl, rfl, ha', hp', he2⟩ := hmn;have HA' := hid ha';have HP' := hid hp';have HE' := hid he2;have HR := hid hr;clear hr ha' hp' he2;go_wp2_with fail
    refine bodyPost_ret (results_none rfl _ _ _) rfl ?_;have hA := HA.out;rw [Lx.lexFrom_err _ _ _ _ (by rw [← HB.out, HLL.out]; exact hlt) (by rw [← HB.out]; exact HR.out)] at hA;rw [hA];refine ⟨rfl, ?_, ⟨a', p', e2, LexAt.alloc HX.out _, ?_⟩⟩
    ·rw [List.append_nil]; exact HJ.out _ _ _ HJ2.out ((Touch.refl (· = L) w').alloc _)
    ·rw [← HB.out]; exact ⟨HP'.out, HE'.out⟩
   | ok tk n =>
    rw [hr] at hmn;obtain ⟨m2, hm2⟩ : ∃ m2, m2 = b + n := ⟨_, rfl⟩;have HM2 := hid hm2;unfold Means at hmn;simp only [← hm2] at hmn;clear hm2;obtain ⟨rfl, rfl, rfl, rfl, rfl, rfl, rfl, rfl⟩ := hmn;have HR := hid hr;clear hr;have HX1 := hid (HX.out.alloc (.cells #[.int .i64 tk.kind, .string ⟨tk.text.toArray⟩, .int .i64 b, .int .i64 m2] 107));have hfa := Lx.lexFrom_ok s.data.toList a n tk (by rw [← HB.out, HLL.out]; exact hlt) (by rw [← HB.out]; exact HR.out);rw [← HB.out, ← HM2.out] at hfa;have HFA := hid hfa;clear hfa
    have hm2s : m2 ≤ s.size := by
     have h1 := (Lx.next_pos _ _ _ HR.out).2;rw [List.length_drop, HLL.out] at h1;have := HM2.out;omega
    have hbm : b < m2 := by have h1 := (Lx.next_pos _ _ _ HR.out).1; have := HM2.out; omega
    have hc3 : (w'.alloc (.cells #[.int .i64 tk.kind, .string ⟨tk.text.toArray⟩, .int .i64 b, .int .i64 m2] 107)).cell? ⟨c, 0, none⟩ = some (.pointer (some ⟨L, 0, none⟩)) := ((Touch.refl (fun _ => False) w').alloc _).cell hc2 (fun h => h)
    obtain ⟨fn, tmps, assign, body, hy, hR⟩ := HY.out pre ⟨tk.kind, tk.text, b, m2⟩ m2 (w'.alloc (.cells #[.int .i64 tk.kind, .string ⟨tk.text.toArray⟩, .int .i64 b, .int .i64 m2] 107))
     (HJ.out _ _ _ HJ2.out ((Touch.refl (· = L) w').alloc _)) HX1.out hc3 (by rw [HA.out, HFA.out]; exact ⟨(Lx.lexFrom s.data.toList m2).1, by simp⟩)
    simp only [ptokV] at hy;have HRD := hid hR;clear hR
    go_upto_region 3 with (fail)
    refine (wpIn_wide (n := 2)).1 ?_
    gi_wp2
    refine HRD.out.mono ?_;rintro e W' ⟨rfl, hj, hl, hcx⟩;have HJW := hid hj;have HLW := hid hl;have HCW := hid hcx;clear hj hl hcx
    gi_wp2
    go_wp2_with fail
    go_roundw
    case rel => exact ⟨pre ++ [⟨tk.kind, tk.text, b, m2⟩], m2, HJW, HLW, HCW, hm2s, by have := HA.out; rw [HFA.out] at this; simpa [Hid] using this⟩
    case measure => rw [atOf_eq HLW.out, HAt.out]; omega
  ·have b1 : ((b : Int) == (s.size : Int)) = true := by rw [beq_iff_eq]; omega
   go_wp2_with fail
   go_quiet (fail)
   go_wp2_with fail
   refine bodyPost_ret (results_none rfl _ _ _) rfl ?_;have hA := HA.out;rw [Lx.lexFrom_end _ _ (by rw [← HB.out, HLL.out]; omega)] at hA;rw [hA];refine ⟨rfl, ?_, ⟨b, 0, 0, ?_, rfl⟩⟩
   ·rw [List.append_nil]; refine HJ.out _ _ _ HJ1.out ?_; exact ((Touch.refl (· = L) _).drewN _).drewN _
   ·exact (HLX.out.drewN _).drewN _
end Go.Proofs.YtomibmenojdieaaGreat
namespace Go.Proofs.YtomibmenojdieaaGreat
open Go.RowKit
def marked (l : List UInt8) (c : Int) (cs : Array Value) : Array Value := l.foldl (fun t b => t.setIfInBounds b.toNat (.int .u8 c)) cs
theorem marked_size (l : List UInt8) (c : Int) : ∀ cs : Array Value, (marked l c cs).size = cs.size := by
 induction l with
 | nil => intro cs; rfl
 | cons b l ih => intro cs; unfold marked at ih ⊢; rw [List.foldl_cons, ih]; simp
theorem marked_snoc (l : List UInt8) (b : UInt8) (c : Int) (cs : Array Value) : marked (l ++ [b]) c cs = (marked l c cs).setIfInBounds b.toNat (.int .u8 c) := by simp [marked]
theorem mark_any (s : ByteArray) (c : Int) (g : Nat) (cs : Array Value) (w : World) (hb : Blk w g 99 cs) (hs : cs.size = 256) (hm : s.size ≤ 1000) :
  Calls Tryz.prog 62 #[.string s, .int .u8 c, .pointer (some ⟨g, 0, none⟩)] w fun e w' => e = .returned (.tuple #[]) ∧ Blk w' g 99 (marked s.data.toList c cs) ∧ Touch (· = g) w w' := by
 have HB := hid hb;have HS := hid hs;clear hb hs;go_enter Tryz.func62, Tryz.ntmps62
 go_wp2
 go_loopw [5] (fun i wr => ∃ k : Nat, i = .int .i64 k ∧ k ≤ s.size ∧ Hid (Blk wr g 99 (marked (s.data.toList.take k) c cs)) ∧ Hid (Touch (· = g) w wr)) (fun i _ => s.size - (intOf i).toNat)
 case atStart => exact ⟨0, rfl, Nat.zero_le _, (by have := HB.out; simpa [marked, Hid] using this), Touch.refl _ _⟩
 case round =>
  obtain ⟨k, rfl, hk, HK, HT⟩ := hrel
  by_cases hlt : k < s.size
  ·have b1 : decide ((k : Int) < (s.size : Int)) = true := by simp; omega
   have b2 : (k : Int) < (s.size : Int) := by omega
   have b3 : (0 : Int) ≤ (k : Int) := by omega
   have b4 : ((s[k]'hlt).toNat : Int) < 256 := by have := (s[k]'hlt).toNat_lt; omega
   have hsz : (marked (s.data.toList.take k) c cs).size = 256 := (marked_size _ _ _).trans HS.out
   obtain ⟨u, hu⟩ : ∃ u, wr.cell? ⟨g, (s[k]'hlt).toNat, none⟩ = some u := by
    rw [HK.out.cell];exact ⟨_, Array.getElem?_eq_getElem (by rw [hsz]; exact (s[k]'hlt).toNat_lt)⟩
   have hf : wr.frozen? ⟨g, (s[k]'hlt).toNat, none⟩ = false := HK.out.frozen _
   have hn : Blk (wr.setCell ⟨g, (s[k]'hlt).toNat, none⟩ (.int .u8 c)) g 99 (marked (s.data.toList.take (k + 1)) c cs) := by
    have hg : s.data.toList.take (k + 1) = s.data.toList.take k ++ [s[k]'hlt] := by
     rw [List.take_succ_eq_append_getElem (by simpa using hlt)]; rfl
    rw [hg, marked_snoc];exact HK.out.put _ _
   have HN := hid hn;clear hn hsz
   go_wp2
   go_roundw
   case rel => exact ⟨k + 1, by go_num, hlt, HN, HT.out.setCell (p := ⟨g, (s[k]'hlt).toNat, none⟩) (.inl rfl) _⟩
   case measure => simp [intOf]; omega
  ·have b1 : decide ((k : Int) < (s.size : Int)) = false := by simp; omega
   go_wp2
   go_end0
   refine ⟨rfl, ?_, HT.out⟩;have := HK.out
   rwa [List.take_of_length_le (by simp; omega)] at this
def zero256 : Array Value := Array.replicate 256 (.int .u8 0)
def tbl1 : Array Value := marked [32, 9, 10] 1 zero256
def tbl2 : Array Value := marked [48, 49, 50, 51, 52, 53, 54, 55, 56, 57] 2 tbl1
def letterBytes : List UInt8 := [97, 98, 99, 100, 101, 102, 103, 104, 105, 106, 107, 108, 109, 110, 111, 112, 113, 114, 115, 116, 117, 118, 119, 120, 121, 122, 65, 66, 67, 68, 69, 70, 71, 72, 73, 74, 75, 76, 77, 78, 79, 80, 81, 82, 83, 84, 85, 86, 87, 88, 89, 90]
def tbl3 : Array Value := marked letterBytes 3 tbl2
def tbl4 : Array Value := marked [43, 45, 42, 47, 61, 60, 62, 44, 59, 58, 33, 124, 39, 63, 126, 64] 4 tbl3
def tbl5 : Array Value := marked [123, 125, 40, 41, 91, 93, 94, 95, 38] 5 tbl4
def clsTable : Array Value := Array.ofFn (n := 256) fun i => Value.int .u8 (Lx.cls i.1 : Nat)
theorem tbl5_eq : tbl5 = clsTable := by kernel_rfl
theorem tbl1_size : tbl1.size = 256 := by simp [tbl1, marked_size, zero256]
theorem tbl2_size : tbl2.size = 256 := (marked_size _ _ _).trans tbl1_size
theorem tbl3_size : tbl3.size = 256 := (marked_size _ _ _).trans tbl2_size
theorem tbl4_size : tbl4.size = 256 := (marked_size _ _ _).trans tbl3_size
theorem tbl5_size : tbl5.size = 256 := (marked_size _ _ _).trans tbl4_size
theorem infoClass : (Tryz.prog.info? 99).map (·.size) = some 256 := by kernel_rfl
theorem tbl5_one : tbl5.all (·.oneCell') = true := by rw [tbl5_eq]; kernel_rfl
theorem zeroClass (w : World) : (zeroValue 99).run Tryz.prog w = .ok (.agg zero256) w := by kernel_rfl
theorem classes_any (w : World) :
  Calls Tryz.prog 40 #[] w fun e w' => e = .returned (.agg clsTable) ∧ Fresh w w' := by
 have hz := zeroClass;go_enter Tryz.func40, Tryz.ntmps40;go_wp2_with fail
 refine (mark_any _ 1 _ zero256 _ (Blk.new2 _ _ _ _) (by simp [zero256]) (by decide)).mono ?_;rintro e1 w1 ⟨rfl, hb1, ht1⟩;have hb1' : Blk w1 (w.heap.size + 1) 99 tbl1 := hb1;have hr1 : Blk w1 w.heap.size 99 zero256 := ht1.blk ((Blk.new w _ _).alloc _) (by omega);have hf1 : Fresh w w1 := (((Touch.refl (fun _ => False) w).alloc _).alloc _).trans' ht1 (fun i hi => .inr (by omega));have HB1 := hid hb1';have HR1 := hid hr1;have HF1 := hid hf1;clear hb1 hb1' hr1 hf1 ht1;go_wp2_with fail
 refine (mark_any _ 2 _ tbl1 _ HB1.out tbl1_size (by decide)).mono ?_;rintro e2 w2 ⟨rfl, hb1, ht1⟩;have hb1' : Blk w2 (w.heap.size + 1) 99 tbl2 := hb1;have hr1 : Blk w2 w.heap.size 99 zero256 := ht1.blk HR1.out (by omega);have hf1 : Fresh w w2 := HF1.out.trans' ht1 (fun i hi => .inr (by omega));have HB2 := hid hb1';have HR2 := hid hr1;have HF2 := hid hf1;clear hb1 hb1' hr1 hf1 ht1;go_wp2_with fail
 refine (mark_any _ 3 _ tbl2 _ HB2.out tbl2_size (by decide)).mono ?_;rintro e3 w3 ⟨rfl, hb1, ht1⟩;have hb1' : Blk w3 (w.heap.size + 1) 99 tbl3 := hb1;have hr1 : Blk w3 w.heap.size 99 zero256 := ht1.blk HR2.out (by omega);have hf1 : Fresh w w3 := HF2.out.trans' ht1 (fun i hi => .inr (by omega));have HB3 := hid hb1';have HR3 := hid hr1;have HF3 := hid hf1;clear hb1 hb1' hr1 hf1 ht1;go_wp2_with fail
 refine (mark_any _ 4 _ tbl3 _ HB3.out tbl3_size (by decide)).mono ?_;rintro e4 w4 ⟨rfl, hb1, ht1⟩;have hb1' : Blk w4 (w.heap.size + 1) 99 tbl4 := hb1;have hr1 : Blk w4 w.heap.size 99 zero256 := ht1.blk HR3.out (by omega);have hf1 : Fresh w w4 := HF3.out.trans' ht1 (fun i hi => .inr (by omega));have HB4 := hid hb1';have HR4 := hid hr1;have HF4 := hid hf1;clear hb1 hb1' hr1 hf1 ht1;go_wp2_with fail
 refine (mark_any _ 5 _ tbl4 _ HB4.out tbl4_size (by decide)).mono ?_;rintro e5 w5 ⟨rfl, hb1, ht1⟩;have hb1' : Blk w5 (w.heap.size + 1) 99 tbl5 := hb1;have hr1 : Blk w5 w.heap.size 99 zero256 := ht1.blk HR4.out (by omega);have hf1 : Fresh w w5 := HF4.out.trans' ht1 (fun i hi => .inr (by omega));have HB5 := hid hb1';have HR5 := hid hr1;have HF5 := hid hf1;clear hb1 hb1' hr1 hf1 ht1
 go_wp2_with (first
   | (refine wpList_load_row rfl 99 _ rfl (w.heap.size + 1) rfl 99 tbl5 (0, 0) _ HB5.out Tryz.underlying99 rfl (infoClass.trans (by rw [tbl5_size])) ?_)
   | (refine wpList_store_row rfl 99 _ _ rfl w.heap.size tbl5 rfl rfl 99 zero256 HR5.out (infoClass.trans (by rw [tbl5_size])) (by rw [tbl5_size]; simp [zero256]) tbl5_one ?_))
 refine bodyPost_ret (results_cell_row (fn := Tryz.f40) (p := 0) rfl _ _ w.heap.size 99 tbl5 (0, 0) _ rfl (setRow_heap _ _ _ _ _ _ HR5.out) Tryz.underlying99 rfl (infoClass.trans (by rw [tbl5_size]))) rfl ?_;exact ⟨by rw [tbl5_eq], HF5.out.setRow (.inr (Nat.le_refl _)) _⟩
end Go.Proofs.YtomibmenojdieaaGreat
namespace Go.Proofs.YtomibmenojdieaaGreat
open Go.RowKit
attribute [local go_sem] Oper.semAt_some
theorem infoTok : (Tryz.prog.info? 107).map (fun i => (i.zero, i.size, i.bytes)) = some (some (.agg #[.int .i64 0, .string ⟨#[]⟩, .int .i64 0, .int .i64 0]), 4, 40) := by kernel_rfl
theorem built_lex (s : ByteArray) : Tryz.prog.built 102 [(0, .agg clsTable), (1, .string s)] = some (lexCells s 0 0 0) := by kernel_rfl
theorem wpList_build_lex {ops : Array Oper} {rest : List Oper} {o : Oper} {a : Act} {w : World} {Q : Exit → Act → World → Prop} (s : ByteArray) (hg : o.guard = none) (x y : Operand) (ho : o.op = .build 102 #[(0, x), (1, y)])
  (hx : a.eval x = .agg clsTable) (hy : a.eval y = .string s) (h : wpList Tryz.prog ops Q rest (a.put o.dst (.agg (lexCells s 0 0 0))) w) : wpList Tryz.prog ops Q (o :: rest) a w := by
 refine wpList_plain hg fun K hK => ?_
 unfold Oper.wp execOp;simp only [ho, Sem.run_bind, List.map_toArray, List.map_cons, List.map_nil, hx, hy, run_build w 102 #[(0, .agg clsTable), (1, .string s)] _ (built_lex s), Result.andThen_ok];exact hK _ _ h
theorem tokens_any (L : Nat) (w : World) :
  Calls Tryz.prog 41 #[.pointer (some ⟨L, 0, none⟩)] w fun e w' => e = .returned (.func (.func 63) #[] #[.pointer (some ⟨w.heap.size, 0, none⟩)]) ∧ w' = w.alloc (.cells #[.pointer (some ⟨L, 0, none⟩)] 98) := by
 go_enter Tryz.func41, Tryz.ntmps41
 go_wp2
 go_ret;exact ⟨rfl, rfl⟩
end Go.Proofs.YtomibmenojdieaaGreat
