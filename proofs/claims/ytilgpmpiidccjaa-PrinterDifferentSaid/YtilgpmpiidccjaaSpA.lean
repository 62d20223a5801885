/- The walk of lexer.Spell. -/
import Derived.Test.YtilgpmpiidccjaaSpM
import Derived.Test.YtilgpmpiidccjaaLxQ
namespace Go.Proofs.Ytilgpmpiidccjaa
open Go.RowKit

theorem app_str (l : List UInt8) (t : ByteArray) : ((⟨l.toArray⟩ : ByteArray) ++ t) = ⟨(l ++ t.data.toList).toArray⟩ := by
  apply ByteArray.ext
  simp [ByteArray.data_append]

/-- The builder in the loop of Spell. -/
structure SpAt (w : World) (k : Int) (t : ByteArray) (f to_ : Int) (acc : List UInt8) (cs : Array Value) (v : Value) (wr : World) : Prop where
  tok : Blk wr w.heap.size 74 #[.int .i64 k, .string t, .int .i64 f, .int .i64 to_]
  bld : Bld wr (w.heap.size + 2) (w.heap.size + 1) 0 63 cs v acc
  size : cs.size = 2
  touch : Fresh w wr

theorem SpAt.next {w : World} {k : Int} {t : ByteArray} {f to_ : Int} {acc : List UInt8} {cs : Array Value} {v : Value} {wr w' : World} (Q : SpAt w k t f to_ acc cs v wr) {c : UInt8} {v' : Value}
    (hb : Bld w' (w.heap.size + 2) (w.heap.size + 1) 0 63 ((cs.setIfInBounds 0 (.pointer (some ⟨w.heap.size + 1, 0, none⟩))).setIfInBounds (0 + 1) v') v' (acc ++ [c]))
    (ht : Touch (fun k => k = w.heap.size + 1 ∨ v.ownBlock = some k) wr w') :
    SpAt w k t f to_ (acc ++ [c]) ((cs.setIfInBounds 0 (.pointer (some ⟨w.heap.size + 1, 0, none⟩))).setIfInBounds (0 + 1) v') v' w' := by
  have hlt := Q.bld.own.lt
  refine ⟨ht.blk Q.tok ?_, hb, by simp [Q.size], Q.touch.trans' ht ?_⟩
  · rintro (h1 | h1)
    · omega
    · have := (hlt _ h1).1; omega
  · rintro i (h1 | h1)
    · right; omega
    · right; have := (hlt _ h1).1; omega

set_option maxRecDepth 100000 in
set_option maxHeartbeats 1000000 in
theorem spell_text (t : ByteArray) (f to_ : Int) (w : World) (hm : t.size ≤ 1000000000) :
    Calls Try.prog 146 #[.agg #[.int .i64 3, .string t, .int .i64 f, .int .i64 to_]] w fun e w' => e = .returned (.string ⟨(Lx.quoteL t.data.toList).toArray⟩) ∧ Fresh w w' := by
  have hll : t.data.toList.length = t.size := by simp
  have HLL := hid hll
  clear hll
  go_enter Try.func146, Try.ntmps146
  go_wp2_with fail
  have hs0 : SpAt w 3 t f to_ [] #[.pointer none, .slice none 0 0] (.slice none 0 0) ((w.alloc (.cells #[.int .i64 3, .string t, .int .i64 f, .int .i64 to_] 74)).alloc (.cells #[.pointer none, .slice none 0 0] 63)) :=
    ⟨(Blk.new w _ _).alloc _, ⟨Blk.new2 _ _ _ _, .inl rfl, rfl, World.ownsRow_nil _ _ _ _, by simp [Value.ownBlock], fun _ => rfl⟩, rfl, ((Touch.refl _ w).alloc _).alloc _⟩
  have HS0 := hid hs0
  clear hs0
  refine (writeByte_any HS0.out.bld (by rw [HS0.out.size]; exact liesBuilder) _ 34 rfl (by simp) (by simp)).mono ?_
  rintro e1 w1 ⟨rfl, v1, hb1, ht1⟩
  have HS1 := hid (HS0.out.next hb1 ht1)
  clear hb1 ht1 HS0
  have hq := Blk.four HS1.out.tok
  obtain ⟨q0, q1, q2, q3, z0, z1, z2, z3, hg⟩ := hq
  go_wp2_with fail
  go_loopw [4] (fun i wr => ∃ (j : Nat) (acc : List UInt8) (cs : Array Value) (v : Value), i = .int .i64 j ∧ j ≤ t.size ∧ acc.length ≤ 2 * j + 1 ∧ Hid (acc = 34 :: Lx.esc (t.data.toList.take j)) ∧ Hid (SpAt w 3 t f to_ acc cs v wr)) (fun i _ => t.size - (intOf i).toNat)
  case atStart => exact ⟨0, _, _, _, rfl, Nat.zero_le _, by simp, by simp [Lx.esc, Hid], HS1⟩
  case round =>
    obtain ⟨j, acc, cs, v, rfl, hj, hacc, HA, HS⟩ := hrel
    clear q0 q1 q2 q3 z0 z1 z2 z3 hg HS1
    obtain ⟨q0, q1, q2, q3, z0, z1, z2, z3, hg⟩ := Blk.four HS.out.tok
    have hbl := HS.out.bld.lt
    by_cases c1 : j < t.size
    · have b1 : decide ((j : Int) < (t.size : Int)) = true := by simp; omega
      have b1' : (j : Int) < (t.size : Int) := by omega
      have b1'' : (0 : Int) ≤ (j : Int) := by omega
      have htk : t.data.toList.take (j + 1) = t.data.toList.take j ++ [t[j]'c1] := by
        rw [List.take_succ_eq_append_getElem (by rw [HLL.out]; exact c1)]; rfl
      have HTK := hid htk
      clear htk
      by_cases c2 : t[j]'c1 = 34
      · have b2 : (((t[j]'c1).toNat : Int) == 34) = true := u8_eq_of _ 34 c2
        have HE := hid (show Lx.escB (t[j]'c1) = [92, t[j]'c1] by unfold Lx.escB; rw [if_pos (.inl c2)])
        clear c2
        go_wp2_with fail
        refine (writeByte_any HS.out.bld (by rw [HS.out.size]; exact liesBuilder) _ 92 rfl (by omega) (by omega)).mono ?_
        rintro e2 w2 ⟨rfl, v2, hb2, ht2⟩
        have HS2 := hid (HS.out.next hb2 ht2)
        clear hb2 ht2
        clear q0 q1 q2 q3 z0 z1 z2 z3 hg
        obtain ⟨q0, q1, q2, q3, z0, z1, z2, z3, hg⟩ := Blk.four HS2.out.tok
        have hbl2 := HS2.out.bld.lt
        go_wp2_with fail
        refine (writeByte_any HS2.out.bld (by rw [HS2.out.size]; exact liesBuilder) _ (t[j]'c1) rfl (by simp; omega) (by omega)).mono ?_
        rintro e3 w3 ⟨rfl, v3, hb3, ht3⟩
        have HS3 := hid (HS2.out.next hb3 ht3)
        clear hb3 ht3
        go_wp2_with fail
        go_roundw
        case rel => exact ⟨j + 1, _, _, _, by go_num, c1, by simp; omega, by rw [HTK.out, Lx.esc_snoc, HE.out, HA.out]; simp [Hid], HS3⟩
        case measure => simp [intOf]; omega
      · have b2 : (((t[j]'c1).toNat : Int) == 34) = false := u8_ne_of _ 34 c2
        by_cases c3 : t[j]'c1 = 92
        · have b3 : (((t[j]'c1).toNat : Int) == 92) = true := u8_eq_of _ 92 c3
          have HE := hid (show Lx.escB (t[j]'c1) = [92, t[j]'c1] by unfold Lx.escB; rw [if_pos (.inr c3)])
          clear c2 c3
          go_wp2_with fail
          refine (writeByte_any HS.out.bld (by rw [HS.out.size]; exact liesBuilder) _ 92 rfl (by omega) (by omega)).mono ?_
          rintro e2 w2 ⟨rfl, v2, hb2, ht2⟩
          have HS2 := hid (HS.out.next hb2 ht2)
          clear hb2 ht2
          clear q0 q1 q2 q3 z0 z1 z2 z3 hg
          obtain ⟨q0, q1, q2, q3, z0, z1, z2, z3, hg⟩ := Blk.four HS2.out.tok
          have hbl2 := HS2.out.bld.lt
          go_wp2_with fail
          refine (writeByte_any HS2.out.bld (by rw [HS2.out.size]; exact liesBuilder) _ (t[j]'c1) rfl (by simp; omega) (by omega)).mono ?_
          rintro e3 w3 ⟨rfl, v3, hb3, ht3⟩
          have HS3 := hid (HS2.out.next hb3 ht3)
          clear hb3 ht3
          go_wp2_with fail
          go_roundw
          case rel => exact ⟨j + 1, _, _, _, by go_num, c1, by simp; omega, by rw [HTK.out, Lx.esc_snoc, HE.out, HA.out]; simp [Hid], HS3⟩
          case measure => simp [intOf]; omega
        · have b3 : (((t[j]'c1).toNat : Int) == 92) = false := u8_ne_of _ 92 c3
          have HE := hid (show Lx.escB (t[j]'c1) = [t[j]'c1] by unfold Lx.escB; rw [if_neg (fun h => h.elim c2 c3)])
          clear c2 c3
          go_wp2_with fail
          refine (writeByte_any HS.out.bld (by rw [HS.out.size]; exact liesBuilder) _ (t[j]'c1) rfl (by omega) (by omega)).mono ?_
          rintro e3 w3 ⟨rfl, v3, hb3, ht3⟩
          have HS3 := hid (HS.out.next hb3 ht3)
          clear hb3 ht3
          go_wp2_with fail
          go_roundw
          case rel => exact ⟨j + 1, _, _, _, by go_num, c1, by simp; omega, by rw [HTK.out, Lx.esc_snoc, HE.out, HA.out]; simp [Hid], HS3⟩
          case measure => simp [intOf]; omega
    · have b1 : decide ((j : Int) < (t.size : Int)) = false := by simp; omega
      have htk : t.data.toList.take j = t.data.toList := List.take_of_length_le (by rw [HLL.out]; omega)
      have HTK := hid htk
      clear htk
      go_wp2_with fail
      refine (writeByte_any HS.out.bld (by rw [HS.out.size]; exact liesBuilder) _ 34 rfl (by omega) (by omega)).mono ?_
      rintro e2 w2 ⟨rfl, v2, hb2, ht2⟩
      have HS2 := hid (HS.out.next hb2 ht2)
      clear hb2 ht2
      go_wp2_with fail
      refine (bstring_any HS2.out.bld).mono ?_
      rintro e3 w3 ⟨rfl, ht3⟩
      have HF := hid (show Fresh w w3 from HS2.out.touch.trans' ht3 (fun i hk => by have := (HS2.out.bld.own.lt _ hk).1; right; omega))
      clear ht3
      go_wp2_with fail
      go_ret
      refine ⟨?_, HF.out⟩
      rw [HA.out, HTK.out]; rfl

theorem spell_any (k : Int) (t : ByteArray) (f to_ : Int) (w : World) (hm : t.size ≤ 1000000000) :
    Calls Try.prog 146 #[.agg #[.int .i64 k, .string t, .int .i64 f, .int .i64 to_]] w fun e w' => e = .returned (.string ⟨(Lx.spellL k t.data.toList).toArray⟩) ∧ Fresh w w' := by
  by_cases k3 : k = 3
  · subst k3
    exact spell_text t f to_ w hm
  have b3 : (k == 3) = false := by simpa using k3
  by_cases k4 : k = 4
  · subst k4
    clear b3 k3
    go_enter Try.func146, Try.ntmps146
    go_wp2
    go_ret
    exact ⟨by rw [app_str [92] t]; rfl, (Touch.refl _ w).alloc _⟩
  have b4 : (k == 4) = false := by simpa using k4
  by_cases k5 : k = 5
  · subst k5
    clear b3 k3 b4 k4
    go_enter Try.func146, Try.ntmps146
    go_wp2
    go_ret
    exact ⟨by rw [app_str [92, 102, 101, 110, 99, 101] t]; rfl, (Touch.refl _ w).alloc _⟩
  have b5 : (k == 5) = false := by simpa using k5
  by_cases k6 : k = 6
  · subst k6
    clear b3 k3 b4 k4 b5 k5
    go_enter Try.func146, Try.ntmps146
    go_wp2
    go_ret
    exact ⟨by rw [app_str [35] t]; rfl, (Touch.refl _ w).alloc _⟩
  have b6 : (k == 6) = false := by simpa using k6
  have hsp : Lx.spellL k t.data.toList = t.data.toList := by unfold Lx.spellL; rw [if_neg k3, if_neg k4, if_neg k5, if_neg k6]
  have HSP := hid hsp
  clear hsp k3 k4 k5 k6
  go_enter Try.func146, Try.ntmps146
  go_wp2
  go_ret
  exact ⟨by rw [HSP.out]; rfl, (Touch.refl _ w).alloc _⟩
end Go.Proofs.Ytilgpmpiidccjaa

