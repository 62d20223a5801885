/- The reference's Print of elements walked (layer 23). -/
import Derived.Test.YtnkmccgpmmnfeaaDoorXcMoM
import Derived.Test.YtnkmccgpmmnfeaaDoorXa12
import Derived.Test.YtnkmccgpmmnfeaaDoorXcMoN
import Derived.Test.YtnkmccgpmmnfeaaDoorXa3
import Derived.Test.YtnkmccgpmmnfeaaDoorXa7
import Derived.Lib.TrimByte
namespace Go.Proofs.YtnkmccgpmmnfeaaDoor
open Go.RowKit
open El (E Attrs escB escL attrW attrsW writeE writeL)

theorem beq_u8t (a b : UInt8) : ((a.toNat : Int) == (b.toNat : Int)) = (a == b) := by
  rw [Bool.eq_iff_iff, beq_iff_eq, beq_iff_eq, ← UInt8.toNat_inj]
  omega
theorem add_lists {P : Program} (W : World) {x y z : List UInt8} (hz : z = x ++ y) (hx : x.length ≤ 8388608) (hy : y.length ≤ 8388608) : (Op.stringOp .add ⟨x.toArray⟩ ⟨y.toArray⟩).run P W = .ok (.string ⟨z.toArray⟩) W := by
  subst hz
  exact run_string_add_lists W x y (by omega) (by omega)
def replB (b : UInt8) : List UInt8 := if b = 38 then [38, 97, 109, 112, 59] else if b = 60 then [38, 108, 116, 59] else if b = 62 then [38, 103, 116, 59] else if b = 34 then [38, 113, 117, 111, 116, 59] else []
theorem escB_repl (b : UInt8) : escB b = if (replB b).isEmpty then [b] else replB b := by
  unfold escB replB
  split
  · rfl
  · split
    · rfl
    · split
      · rfl
      · split <;> rfl
theorem escB_len (b : UInt8) : (escB b).length ≤ 6 := by
  unfold escB
  split
  · decide
  · split
    · decide
    · split
      · decide
      · split <;> simp
theorem escL_len (l : List UInt8) : (escL l).length ≤ 6 * l.length := by
  induction l with
  | nil => exact Nat.le_refl _
  | cons b l ih =>
    show (escB b ++ escL l).length ≤ _
    rw [List.length_append, List.length_cons]
    have := escB_len b
    omega
theorem escL_ge (l : List UInt8) : l.length ≤ (escL l).length := by
  induction l with
  | nil => exact Nat.le_refl _
  | cons b l ih =>
    show _ ≤ (escB b ++ escL l).length
    rw [List.length_append, List.length_cons]
    have : 0 < (escB b).length := by
      unfold escB
      split
      · decide
      · split
        · decide
        · split
          · decide
          · split <;> simp
    omega
theorem escL_part (l : List UInt8) (j : Nat) : (escL (l.take j)).length ≤ (escL l).length := by
  have : escL l = escL (l.take j) ++ escL (l.drop j) := by unfold escL; rw [← List.flatMap_append, List.take_append_drop]
  rw [this, List.length_append]; omega
theorem escL_take (l : List UInt8) (j : Nat) (h : j < l.length) : escL (l.take (j + 1)) = escL (l.take j) ++ escB l[j] := by
  rw [List.take_add_one, List.getElem?_eq_getElem h]
  exact El.escL_snoc _ _
set_option maxRecDepth 100000 in
set_option maxHeartbeats 1000000 in
theorem rrepl_byte (b : UInt8) (w : World) : Calls Tryd.prog 30 #[.int .u8 (b.toNat : Int)] w fun e w' => e = .returned (.string ⟨(replB b).toArray⟩) ∧ w' = w := by
  have hb : ∀ c : UInt8, b ≠ c → ((b.toNat : Int) == (c.toNat : Int)) = false := fun c h => by rw [show ((b.toNat : Int) == (c.toNat : Int)) = (b == c) from beq_u8t b c, beq_eq_false_iff_ne]; exact h
  unfold replB
  by_cases h1 : b = 38
  · subst h1
    go_enter Tryd.func30, Tryd.ntmps30
    go_wp2_with fail
    go_ret
    exact ⟨rfl, rfl⟩
  have e1 : ((b.toNat : Int) == (38 : Int)) = false := hb 38 h1
  rw [if_neg h1]
  by_cases h2 : b = 60
  · subst h2
    go_enter Tryd.func30, Tryd.ntmps30
    go_wp2_with fail
    go_ret
    exact ⟨rfl, rfl⟩
  have e2 : ((b.toNat : Int) == (60 : Int)) = false := hb 60 h2
  rw [if_neg h2]
  by_cases h3 : b = 62
  · subst h3
    go_enter Tryd.func30, Tryd.ntmps30
    go_wp2_with fail
    go_ret
    exact ⟨rfl, rfl⟩
  have e3 : ((b.toNat : Int) == (62 : Int)) = false := hb 62 h3
  rw [if_neg h3]
  by_cases h4 : b = 34
  · subst h4
    go_enter Tryd.func30, Tryd.ntmps30
    go_wp2_with fail
    go_ret
    exact ⟨rfl, rfl⟩
  have e4 : ((b.toNat : Int) == (34 : Int)) = false := hb 34 h4
  rw [if_neg h4]
  clear hb h1 h2 h3 h4
  go_enter Tryd.func30, Tryd.ntmps30
  go_wp2_with fail
  go_ret
  exact ⟨rfl, rfl⟩
set_option maxRecDepth 100000 in
set_option maxHeartbeats 2000000 in
theorem resc_any (l : List UInt8) (w : World) (hl : (escL l).length ≤ 8000000) : Calls Tryd.prog 21 #[.string ⟨l.toArray⟩] w fun e w' => e = .returned (.string ⟨(escL l).toArray⟩) ∧ w' = w := by
  have HL := hid hl
  obtain ⟨s, hs⟩ : ∃ s : ByteArray, s = ⟨l.toArray⟩ := ⟨_, rfl⟩
  have hsz : s.size = l.length := by rw [hs]; rfl
  have HSZ := hid hsz
  have HS := hid hs
  rw [← hs]
  clear hs hl
  obtain ⟨N, hN⟩ : ∃ N, N = l.length := ⟨_, rfl⟩
  have HN := hid hN
  rw [← hN] at hsz
  clear hN
  go_enter Tryd.func21, Tryd.ntmps21
  go_wp2_with fail
  go_loopw [3, 4] (fun o i wr => ∃ (p : List UInt8) (j : Nat), o = .string ⟨p.toArray⟩ ∧ i = .int .i64 j ∧ j ≤ N ∧ Hid (p = escL (l.take j)) ∧ wr = w) (fun _ i _ => N - (intOf i).toNat)
  case atStart => exact ⟨[], 0, rfl, rfl, Nat.zero_le _, hid rfl, rfl⟩
  case round =>
    obtain ⟨p, j, rfl, rfl, hj, HP, rfl⟩ := hrel
    have hjN : N ≤ 8000000 := by rw [HN.out]; exact Nat.le_trans (escL_ge l) HL.out
    have hpl : p.length ≤ 8000000 := by
      rw [HP.out]
      exact Nat.le_trans (escL_part l j) HL.out
    by_cases c1 : j < N
    · have d1 : decide ((j : Int) < (N : Int)) = true := dT (by omega)
      have d1n : decide (j < N) = true := dT c1
      have c2 : j < s.size := by rw [hsz]; exact c1
      have c3 : j < l.length := by rw [← HN.out]; exact c1
      obtain ⟨b, hb⟩ : ∃ b, s[j]'c2 = b := ⟨_, rfl⟩
      have hbl : l[j]'c3 = b := by
        have h1 := data_get s j c2
        rw [hb] at h1
        rw [← h1]
        have h2 : s.data.toList = l := by rw [HS.out]
        simp only [h2]
      have HEX := hid (show s.extract j (j + 1) = ⟨#[b]⟩ by
        rw [HS.out, Lib.extract_mk, show j + 1 - j = 1 by omega, List.drop_eq_getElem_cons c3, hbl]
        rfl)
      have HT := hid (escL_take l j c3)
      rw [hbl] at HT
      clear hbl c3
      go_wp2_with fail
      refine (rrepl_byte b _).mono ?_
      rintro _ w2 ⟨rfl, hw⟩
      replace hw := hw.symm
      subst hw
      have HRB := hid (escB_repl b)
      generalize replB b = r at HRB ⊢
      cases hre : r.isEmpty with
      | false =>
        obtain ⟨f1, f2, f3, f4, f5⟩ := empty_forms r false hre
        have HR := hid (show escB b = r by rw [HRB.out, hre]; rfl)
        have hrl : r.length ≤ 6 := by rw [← HR.out]; exact escB_len b
        clear hre
        obtain ⟨p1, hp1⟩ : ∃ q, q = p ++ r := ⟨_, rfl⟩
        have lp1 : p1.length = p.length + (r : List UInt8).length := by rw [hp1, List.length_append]
        have ap1 : ∀ W : World, (Op.stringOp .add ⟨p.toArray⟩ ⟨r.toArray⟩).run Tryd.prog W = .ok (.string ⟨p1.toArray⟩) W := fun W => add_lists W hp1 (by omega) (by omega)
        have Hp1 := hid hp1
        clear hp1
        have HP2 := hid (show p1 = escL (l.take (j + 1)) by rw [Hp1.out, HT.out, HP.out, HR.out])
        clear lp1
        go_wp2_with fail
        go_roundw
        case rel => exact ⟨p1, j + 1, rfl, by go_num, c1, HP2, trivial⟩
        case measure => simp [intOf]; omega
      | true =>
        obtain ⟨f1, f2, f3, f4, f5⟩ := empty_forms r true hre
        have HR := hid (show escB b = [b] by rw [HRB.out, hre]; rfl)
        obtain rfl : r = [] := List.isEmpty_iff.1 hre
        clear hre
        obtain ⟨p1, hp1⟩ : ∃ q, q = p ++ [b] := ⟨_, rfl⟩
        have lp1 : p1.length = p.length + ([b] : List UInt8).length := by rw [hp1, List.length_append]
        simp only [List.length_cons, List.length_nil] at lp1
        have ap1 : ∀ W : World, (Op.stringOp .add ⟨p.toArray⟩ ⟨#[b]⟩).run Tryd.prog W = .ok (.string ⟨p1.toArray⟩) W := fun W => add_lists W hp1 (by omega) (by simp only [List.length_cons, List.length_nil]; omega)
        have Hp1 := hid hp1
        clear hp1
        have HP2 := hid (show p1 = escL (l.take (j + 1)) by rw [Hp1.out, HT.out, HP.out, HR.out])
        have w1 : IntKind.i64.wrap ((j : Int) + 1) = (j : Int) + 1 := IntWalk.i64_in _ (by omega)
        have hx := HEX.out
        have k1 : (j : Int) ≤ (j : Int) + 1 := by omega
        have k2 : (j : Int) + 1 ≤ (s.size : Int) := by omega
        have k3 : (0 : Int) ≤ (j : Int) := by omega
        clear lp1
        go_wp2_with fail
        go_roundw
        case rel => exact ⟨p1, j + 1, rfl, by go_num, c1, HP2, trivial⟩
        case measure => simp [intOf]; omega
    · have d1 : decide ((j : Int) < (N : Int)) = false := dF (by omega)
      have d1n : decide (j < N) = false := dF c1
      have HFIN := hid (show p = escL l by rw [HP.out, List.take_of_length_le (by rw [← HN.out]; omega)])
      go_wp2_with fail
      go_ret
      exact ⟨by rw [HFIN.out]; rfl, rfl⟩
end Go.Proofs.YtnkmccgpmmnfeaaDoor
