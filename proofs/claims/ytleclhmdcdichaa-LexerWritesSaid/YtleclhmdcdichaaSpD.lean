/- The walk of blank. -/
import Derived.Test.YtleclhmdcdichaaSpC
import Derived.Test.YtleclhmdcdichaaSpA
namespace Go.Proofs.Ytleclhmdcdichaa
open Go.RowKit

theorem isB1_iff (b : UInt8) : Lx.isB 1 b = true ↔ b = 32 ∨ b = 9 ∨ b = 10 := by
  have e : ∀ c : UInt8, b = c ↔ b.toNat = c.toNat := fun c => UInt8.toNat_inj.symm
  rw [e 32, e 9, e 10]
  show (Lx.cls b.toNat == 1) = true ↔ b.toNat = 32 ∨ b.toNat = 9 ∨ b.toNat = 10
  unfold Lx.cls
  split
  · simp; assumption
  · rename_i h
    constructor
    · intro hx; exfalso; revert hx; repeat' split
      all_goals simp
    · intro hx; exact absurd hx h

theorem isB1_no (b : UInt8) : Lx.isB 1 b = false ↔ ¬ b = 32 ∧ ¬ b = 9 ∧ ¬ b = 10 := by
  rw [← Bool.not_eq_true, isB1_iff]; simp

theorem all_snoc (l : List UInt8) (j : Nat) (h : j < l.length) (p : UInt8 → Bool) : (l.take (j + 1)).all p = ((l.take j).all p && p l[j]) := by
  rw [List.take_add_one, List.getElem?_eq_getElem h, List.all_append]; simp only [Option.toList_some, List.all_cons, List.all_nil, Bool.and_true]

set_option maxHeartbeats 400000 in
theorem blank_any (s : ByteArray) (w : World) (hm : s.size ≤ 1000000000) :
    Calls Try.prog 9 #[.string s] w fun e w' => e = .returned (.bool (s.data.toList.all (Lx.isB 1))) ∧ w' = w := by
  have hll : s.data.toList.length = s.size := by simp
  have HLL := hid hll
  clear hll
  go_enter Try.func9, Try.ntmps9
  go_wp2_with fail
  go_loopw [3] (fun i wr => ∃ j : Nat, i = .int .i64 j ∧ j ≤ s.size ∧ Hid ((s.data.toList.take j).all (Lx.isB 1) = true) ∧ wr = w) (fun i _ => s.size - (intOf i).toNat)
  case atStart => exact ⟨0, rfl, Nat.zero_le _, by simp [Hid], rfl⟩
  case round =>
    obtain ⟨j, rfl, hj, HA, rfl⟩ := hrel
    by_cases c1 : j < s.size
    · have b1 : decide ((j : Int) < (s.size : Int)) = true := by simp; omega
      have b1' : (j : Int) < (s.size : Int) := by omega
      have hst := all_snoc s.data.toList j (by rw [HLL.out]; exact c1) (Lx.isB 1)
      rw [HA.out, Bool.true_and] at hst
      have hst' : (s.data.toList.take (j + 1)).all (Lx.isB 1) = Lx.isB 1 (s[j]'c1) := by rw [hst]; rfl
      have HST := hid hst'
      clear hst hst'
      by_cases c2 : Lx.isB 1 (s[j]'c1) = true
      · rw [isB1_iff] at c2
        have HN := hid (show (s.data.toList.take (j + 1)).all (Lx.isB 1) = true by rw [HST.out, isB1_iff]; exact c2)
        clear HST
        by_cases c3 : s[j]'c1 = 32
        · have b2 : (((s[j]'c1).toNat : Int) != 32) = false := u8_nbne_of _ 32 c3
          clear c2 c3
          go_wp2_with fail
          go_roundw
          case rel => exact ⟨j + 1, by go_num, c1, HN, trivial⟩
          case measure => simp [intOf]; omega
        · have b2 : (((s[j]'c1).toNat : Int) != 32) = true := u8_bne_of _ 32 c3
          by_cases c4 : s[j]'c1 = 9
          · have b3 : (((s[j]'c1).toNat : Int) != 9) = false := u8_nbne_of _ 9 c4
            clear c2 c3 c4
            go_wp2_with fail
            go_roundw
            case rel => exact ⟨j + 1, by go_num, c1, HN, trivial⟩
            case measure => simp [intOf]; omega
          · have b3 : (((s[j]'c1).toNat : Int) != 9) = true := u8_bne_of _ 9 c4
            have b4 : (((s[j]'c1).toNat : Int) != 10) = false := u8_nbne_of _ 10 (by rcases c2 with h | h | h <;> first | exact h | contradiction)
            clear c2 c3 c4
            go_wp2_with fail
            go_roundw
            case rel => exact ⟨j + 1, by go_num, c1, HN, trivial⟩
            case measure => simp [intOf]; omega
      · have c2' : Lx.isB 1 (s[j]'c1) = false := by simpa using c2
        have HR := hid (show s.data.toList.all (Lx.isB 1) = false by
          rw [List.all_eq_false]
          exact ⟨s[j]'c1, by rw [show s[j]'c1 = s.data.toList[j]'(by rw [HLL.out]; exact c1) from rfl]; exact List.getElem_mem _, by rw [c2']; decide⟩)
        obtain ⟨d1, d2, d3⟩ := (isB1_no _).1 c2'
        have b2 : (((s[j]'c1).toNat : Int) != 32) = true := u8_bne_of _ 32 d1
        have b3 : (((s[j]'c1).toNat : Int) != 9) = true := u8_bne_of _ 9 d2
        have b4 : (((s[j]'c1).toNat : Int) != 10) = true := u8_bne_of _ 10 d3
        clear c2 c2' d1 d2 d3 HST
        go_wp2_with fail
        go_ret
        exact ⟨by rw [HR.out]; rfl, rfl⟩
    · have b1 : decide ((j : Int) < (s.size : Int)) = false := by simp; omega
      have HR := hid (show s.data.toList.all (Lx.isB 1) = true by rw [← HA.out, List.take_of_length_le (by rw [HLL.out]; omega)])
      go_wp2_with fail
      go_ret
      exact ⟨by rw [HR.out]; rfl, rfl⟩
end Go.Proofs.Ytleclhmdcdichaa
