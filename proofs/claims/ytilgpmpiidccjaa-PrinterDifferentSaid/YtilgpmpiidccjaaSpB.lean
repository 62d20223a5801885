/- The walks of Joins, and of the reference's Letter, Joins, Quoted, Spell. -/
import Derived.Test.YtilgpmpiidccjaaSpA
namespace Go.Proofs.Ytilgpmpiidccjaa
open Go.RowKit

def letB (b : UInt8) : Bool := Lx.isB 3 b
/-- Two tokens that join. -/
def joinsL (ka kb : Int) (tb : List UInt8) : Bool := (ka == 2 && kb == 2) || (ka == 4 && kb == 1 && (match tb with | [] => false | b :: _ => Lx.isB 3 b))

theorem letter_of_256 : ∀ n : Fin 256, (Lx.cls n.1 == 3) = (decide (97 ≤ n.1 ∧ n.1 ≤ 122) || decide (65 ≤ n.1 ∧ n.1 ≤ 90)) := by decide +kernel
theorem or32_of_256 : ∀ n : Fin 256, (Lx.cls n.1 == 3) = (decide ((97 : Int) ≤ bits .or .u8 (n.1 : Int) 32) && decide (bits .or .u8 (n.1 : Int) 32 ≤ (122 : Int))) := by decide +kernel

set_option maxHeartbeats 400000 in
theorem rLetter_any (x : Int) (b : UInt8) (hx : x = b.toNat) (w : World) :
    Calls Try.prog 84 #[.int .u8 x] w fun e w' => e = .returned (.bool (Lx.isB 3 b)) ∧ w' = w := by
  have h := letter_of_256 ⟨b.toNat, b.toNat_lt⟩
  have hb : Lx.isB 3 b = (Lx.cls b.toNat == 3) := rfl
  rw [hb, h]
  have HX := hid hx
  clear h hb hx
  by_cases c1 : 97 ≤ b.toNat ∧ b.toNat ≤ 122
  · have b1 : decide (97 ≤ x) = true := by rw [HX.out]; simp; omega
    have b2 : decide (x ≤ 122) = true := by rw [HX.out]; simp; omega
    have hr := hid (show (decide (97 ≤ b.toNat ∧ b.toNat ≤ 122) || decide (65 ≤ b.toNat ∧ b.toNat ≤ 90)) = true by simp [c1])
    clear c1
    go_enter Try.func84, Try.ntmps84
    go_wp2
    go_ret
    exact ⟨by rw [hr.out]; rfl, rfl⟩
  · by_cases c2 : 65 ≤ b.toNat ∧ b.toNat ≤ 90
    · have b1 : decide (97 ≤ x) = false := by rw [HX.out]; simp; omega
      have b3 : decide (65 ≤ x) = true := by rw [HX.out]; simp; omega
      have b4 : decide (x ≤ 90) = true := by rw [HX.out]; simp; omega
      have hr := hid (show (decide (97 ≤ b.toNat ∧ b.toNat ≤ 122) || decide (65 ≤ b.toNat ∧ b.toNat ≤ 90)) = true by simp [c2])
      clear c1 c2
      go_enter Try.func84, Try.ntmps84
      go_wp2
      go_ret
      exact ⟨by rw [hr.out]; rfl, rfl⟩
    · have hr := hid (show (decide (97 ≤ b.toNat ∧ b.toNat ≤ 122) || decide (65 ≤ b.toNat ∧ b.toNat ≤ 90)) = false by simp [c1, c2])
      by_cases d1 : 97 ≤ b.toNat
      · have b1 : decide (97 ≤ x) = true := by rw [HX.out]; simp; omega
        have b2 : decide (x ≤ 122) = false := by rw [HX.out]; simp; omega
        have b3 : decide (65 ≤ x) = true := by rw [HX.out]; simp; omega
        have b4 : decide (x ≤ 90) = false := by rw [HX.out]; simp; omega
        clear c1 c2 d1
        go_enter Try.func84, Try.ntmps84
        go_wp2
        go_ret
        exact ⟨by rw [hr.out]; rfl, rfl⟩
      · have b1 : decide (97 ≤ x) = false := by rw [HX.out]; simp; omega
        by_cases d2 : 65 ≤ b.toNat
        · have b3 : decide (65 ≤ x) = true := by rw [HX.out]; simp; omega
          have b4 : decide (x ≤ 90) = false := by rw [HX.out]; simp; omega
          clear c1 c2 d1 d2
          go_enter Try.func84, Try.ntmps84
          go_wp2
          go_ret
          exact ⟨by rw [hr.out]; rfl, rfl⟩
        · have b3 : decide (65 ≤ x) = false := by rw [HX.out]; simp; omega
          clear c1 c2 d1 d2
          go_enter Try.func84, Try.ntmps84
          go_wp2
          go_ret
          exact ⟨by rw [hr.out]; rfl, rfl⟩

theorem isEmpty_toList (s : ByteArray) : s.toList.isEmpty = decide (s.size = 0) := by
  rw [ByteArray.toList_eq, Bool.eq_iff_iff, List.isEmpty_iff_length_eq_zero, decide_eq_true_iff]
  simp

theorem head_list (s : ByteArray) (h : 0 < s.size) : s.data.toList = (s[0]'h) :: s.data.toList.drop 1 := by
  have := List.drop_eq_getElem_cons (l := s.data.toList) (i := 0) (by simpa using h)
  rw [List.drop_zero] at this
  exact this

theorem nil_list (s : ByteArray) (h : s.size = 0) : s.data.toList = [] := by
  apply List.eq_nil_of_length_eq_zero; simpa using h

theorem bool_ret (b c : Bool) (h : b = c) : Ending.returned (.bool b) = .returned (.bool c) := by rw [h]

set_option maxHeartbeats 400000 in
theorem joins_any (ka fa ta kb fb tb' : Int) (sa sb : ByteArray) (w : World) :
    Calls Try.prog 144 #[.agg #[.int .i64 ka, .string sa, .int .i64 fa, .int .i64 ta], .agg #[.int .i64 kb, .string sb, .int .i64 fb, .int .i64 tb']] w fun e w' => e = .returned (.bool (joinsL ka kb sb.data.toList)) ∧ Fresh w w' := by
  by_cases c1 : ka = 2
  · subst c1
    by_cases c2 : kb = 2
    · subst c2
      have hr := hid (show joinsL 2 2 sb.data.toList = true from rfl)
      go_enter Try.func144, Try.ntmps144
      go_wp2
      go_ret
      exact ⟨by rw [hr.out]; rfl, ((Touch.refl _ w).alloc _).alloc _⟩
    · have b2 : (kb == 2) = false := by simpa using c2
      have hr := hid (show joinsL 2 kb sb.data.toList = false by unfold joinsL; rw [b2]; rfl)
      clear c2
      go_enter Try.func144, Try.ntmps144
      go_wp2
      go_ret
      exact ⟨by rw [hr.out]; rfl, ((Touch.refl _ w).alloc _).alloc _⟩
  · have b1 : (ka == 2) = false := by simpa using c1
    by_cases c2 : ka = 4
    · subst c2
      clear b1 c1
      by_cases c3 : kb = 1
      · subst c3
        by_cases c4 : sb.size = 0
        · have hr := hid (show joinsL 4 1 sb.data.toList = false by rw [nil_list sb c4]; rfl)
          have b4 : sb.toList.isEmpty = true := by rw [isEmpty_toList, decide_eq_true_iff]; exact c4
          clear c4
          go_enter Try.func144, Try.ntmps144
          go_wp2
          go_ret
          exact ⟨by rw [hr.out]; rfl, ((Touch.refl _ w).alloc _).alloc _⟩
        · have h0 : 0 < sb.size := by omega
          have hr : joinsL 4 1 sb.data.toList = (decide ((97 : Int) ≤ bits .or .u8 ((sb[0]'h0).toNat : Int) 32) && decide (bits .or .u8 ((sb[0]'h0).toNat : Int) 32 ≤ (122 : Int))) := by
            rw [head_list sb h0]; exact or32_of_256 ⟨(sb[0]'h0).toNat, (sb[0]'h0).toNat_lt⟩
          rw [hr]
          clear hr c4
          have b4 : sb.toList.isEmpty = false := by rw [isEmpty_toList, decide_eq_false_iff_not]; omega
          cases d1 : decide ((97 : Int) ≤ bits .or .u8 ((sb[0]'h0).toNat : Int) 32) with
          | true =>
            go_enter Try.func144, Try.ntmps144
            go_wp2
            go_ret
            exact ⟨rfl, ((Touch.refl _ w).alloc _).alloc _⟩
          | false =>
            go_enter Try.func144, Try.ntmps144
            go_wp2
            go_ret
            exact ⟨rfl, ((Touch.refl _ w).alloc _).alloc _⟩
      · have b2 : (kb != 1) = true := by rw [bne_iff_ne]; exact c3
        have hr := hid (show joinsL 4 kb sb.data.toList = false by unfold joinsL; rw [beq_eq_false_iff_ne.2 c3]; rfl)
        clear c3
        go_enter Try.func144, Try.ntmps144
        go_wp2
        go_ret
        exact ⟨by rw [hr.out]; rfl, ((Touch.refl _ w).alloc _).alloc _⟩
    · have b2 : (ka != 4) = true := by rw [bne_iff_ne]; exact c2
      have hr := hid (show joinsL ka kb sb.data.toList = false by unfold joinsL; rw [b1, beq_eq_false_iff_ne.2 c2]; rfl)
      clear c1 c2
      go_enter Try.func144, Try.ntmps144
      go_wp2
      go_ret
      exact ⟨by rw [hr.out]; rfl, ((Touch.refl _ w).alloc _).alloc _⟩

set_option maxHeartbeats 400000 in
theorem rJoins_any (ka fa ta kb fb tb' : Int) (sa sb : ByteArray) (w : World) :
    Calls Try.prog 51 #[.agg #[.int .i64 ka, .string sa, .int .i64 fa, .int .i64 ta], .agg #[.int .i64 kb, .string sb, .int .i64 fb, .int .i64 tb']] w fun e w' => e = .returned (.bool (joinsL ka kb sb.data.toList)) ∧ Fresh w w' := by
  by_cases c1 : ka = 4
  · subst c1
    by_cases c2 : kb = 1
    · subst c2
      by_cases c4 : sb.size = 0
      · have hr := hid (show joinsL 4 1 sb.data.toList = false by rw [nil_list sb c4]; rfl)
        have b4 : decide (0 < sb.size) = false := by rw [decide_eq_false_iff_not]; omega
        clear c4
        go_enter Try.func51, Try.ntmps51
        go_wp2
        go_ret
        exact ⟨by rw [hr.out]; rfl, ((Touch.refl _ w).alloc _).alloc _⟩
      · have h0 : 0 < sb.size := by omega
        have hr := hid (show joinsL 4 1 sb.data.toList = Lx.isB 3 (sb[0]'h0) by rw [head_list sb h0]; rfl)
        have b4 : decide (0 < sb.size) = true := by rw [decide_eq_true_iff]; omega
        clear c4
        go_enter Try.func51, Try.ntmps51
        go_wp2_with fail
        refine (rLetter_any _ (sb[0]'h0) rfl _).mono ?_
        rintro e1 w1 ⟨rfl, rfl⟩
        go_wp2_with fail
        go_ret
        exact ⟨by rw [hr.out]; rfl, ((Touch.refl _ w).alloc _).alloc _⟩
    · have b2 : (kb == 1) = false := by simpa using c2
      have hr := hid (show joinsL 4 kb sb.data.toList = false by unfold joinsL; rw [b2]; rfl)
      clear c2
      go_enter Try.func51, Try.ntmps51
      go_wp2
      go_ret
      exact ⟨by rw [hr.out]; rfl, ((Touch.refl _ w).alloc _).alloc _⟩
  · have b1 : (ka == 4) = false := by simpa using c1
    by_cases c2 : ka = 2
    · subst c2
      by_cases c3 : kb = 2
      · subst c3
        have hr := hid (show joinsL 2 2 sb.data.toList = true from rfl)
        clear c1 b1
        go_enter Try.func51, Try.ntmps51
        go_wp2
        go_ret
        exact ⟨by rw [hr.out]; rfl, ((Touch.refl _ w).alloc _).alloc _⟩
      · have b3 : (kb == 2) = false := by simpa using c3
        have hr := hid (show joinsL 2 kb sb.data.toList = false by unfold joinsL; rw [b3]; rfl)
        clear c1 b1 c3
        go_enter Try.func51, Try.ntmps51
        go_wp2
        go_ret
        exact ⟨by rw [hr.out]; rfl, ((Touch.refl _ w).alloc _).alloc _⟩
    · have b2 : (ka == 2) = false := by simpa using c2
      have hr := hid (show joinsL ka kb sb.data.toList = false by unfold joinsL; rw [b1, b2]; rfl)
      clear c1 c2
      go_enter Try.func51, Try.ntmps51
      go_wp2
      go_ret
      exact ⟨by rw [hr.out]; rfl, ((Touch.refl _ w).alloc _).alloc _⟩
end Go.Proofs.Ytilgpmpiidccjaa
