/- The walk of checker.own. -/
import Derived.Test.YtilgpmpiidccjaaNdE
namespace Go.Proofs.Ytilgpmpiidccjaa
open Go.RowKit

theorem same_fresh {f : Nat} {args : Array Value} {v : Value} {w : World} (h : Calls Try.prog f args w fun e w' => e = .returned v ∧ w' = w) : Calls Try.prog f args w fun e w' => e = .returned v ∧ Fresh w w' :=
  h.mono fun _ _ h => ⟨h.1, by rw [h.2]; exact Touch.refl _ _⟩
/-- The cells of a checker. -/
def checkCells (m : Int) : Array Value := kindCells.push (.int .i64 m)

/-- What own reports behind the test of the text. -/
def ownRest (k c : Int) (n : Nat) (slots : Int) : Bool :=
  if k == 1 then (c == (0 : Int)) && decide ((n : Int) ≤ (200 : Int))
  else if k == 12 then decide ((1 : Int) ≤ c) && (decide (c ≤ (16 : Int)) && (decide ((1 : Int) ≤ (n : Int)) && (decide ((n : Int) ≤ (256 : Int)) && (((n : Int) % c) == (0 : Int)))))
  else (c == (0 : Int)) && ((n : Int) == slots)

set_option maxHeartbeats 2000000 in
theorem own_gen (t : List UInt8) (cols slots : Int) (k len : Nat) (fid : Nat) (tx : Bool) (A : Option Addr) (cap c g o : Nat) (w : World) (hk1 : 1 ≤ k) (hk2 : k ≤ 12) (hcf : ∀ (a : Array Value) (w' : World), (callFunc fid a).run Try.prog w' = .ok (.enter fid a) w')
    (ct : ∀ w', Calls Try.prog fid #[.string ⟨t.toArray⟩] w' fun e w'' => e = .returned (.bool tx) ∧ Fresh w' w'')
    (a0 : w.cell? ⟨g, o, none⟩ = some (.int .i64 (k : Int))) (a1 : w.cell? ⟨g, o + 1, none⟩ = some (.string ⟨t.toArray⟩)) (a2 : w.cell? ⟨g, o + 2, none⟩ = some (.int .i64 cols)) (a3 : w.cell? ⟨g, o + 3, none⟩ = some (.slice A len cap))
    (c1 : w.cell? ⟨c, k * 3 + 1, none⟩ = some (.int .i64 slots)) (c2 : w.cell? ⟨c, k * 3 + 2, none⟩ = some (.func (.func fid) #[] #[])) :
    Calls Try.prog 74 #[.pointer (some ⟨c, 0, none⟩), .pointer (some ⟨g, o, none⟩)] w fun e w' => e = .returned (.bool (tx && ownRest k cols len slots)) ∧ Fresh w w' := by
  have CT := hid ct
  clear ct
  have e1 : decide ((k : Int) < (1 : Int)) = false := by simp only [decide_eq_false_iff_not]; omega
  have e2 : decide ((12 : Int) < (k : Int)) = false := by simp only [decide_eq_false_iff_not]; omega
  have e3 : decide (k < 1) = false := by simp only [decide_eq_false_iff_not]; omega
  have e4 : decide (12 < k) = false := by simp only [decide_eq_false_iff_not]; omega
  have e5 : (k : Int) < 13 := by omega
  have e6 : k < 13 := by omega
  go_enter Try.func74, Try.ntmps74
  go_wp2_with fail
  refine forget_world (fun W => Fresh w W) (by first | exact (Touch.refl _ _) | exact (Touch.refl _ _).alloc _ | exact ((Touch.refl _ _).alloc _).alloc _ | exact (((Touch.refl _ _).alloc _).alloc _).alloc _ | exact (Touch.refl _ _).drewN _ | exact ((Touch.refl _ _).alloc _).drewN _ | exact (((Touch.refl _ _).alloc _).alloc _).drewN _) ?_
  rintro w1 hfw1
  have HF1 := hid hfw1
  clear hfw1
  have a0_w1 : World.cell? w1 ⟨g, o, none⟩ = some (.int .i64 (k : Int)) := Touch.cell HF1.out a0 (fun h => h)
  have a1_w1 : World.cell? w1 ⟨g, o + 1, none⟩ = some (.string ⟨t.toArray⟩) := Touch.cell HF1.out a1 (fun h => h)
  have a2_w1 : World.cell? w1 ⟨g, o + 2, none⟩ = some (.int .i64 cols) := Touch.cell HF1.out a2 (fun h => h)
  have a3_w1 : World.cell? w1 ⟨g, o + 3, none⟩ = some (.slice A len cap) := Touch.cell HF1.out a3 (fun h => h)
  have c1_w1 : World.cell? w1 ⟨c, k * 3 + 1, none⟩ = some (.int .i64 slots) := Touch.cell HF1.out c1 (fun h => h)
  have c2_w1 : World.cell? w1 ⟨c, k * 3 + 2, none⟩ = some (.func (.func fid) #[] #[]) := Touch.cell HF1.out c2 (fun h => h)
  clear a0 a1 a2 a3 c1 c2
  have ga0_w1 := cell_regrown a0_w1
  have ga1_w1 := cell_regrown a1_w1
  have ga2_w1 := cell_regrown a2_w1
  have ga3_w1 := cell_regrown a3_w1
  have gc1_w1 := cell_regrown c1_w1
  have gc2_w1 := cell_regrown c2_w1
  have C0_w1 := hid (calmF (P := Try.prog) w1 (fun w hw => CT.out _))
  refine wp_region_quiet_below (by kernel_rfl) (by kernel_rfl) ?_
  repeat (quiet_step (first | with_reducible exact C0_w1.out _ _))
  refine wpQuiet_nil ?_
  rintro w2 ⟨⟨_, _⟩, hWw2⟩
  have hfw2 : Fresh w1 w2 := by rw [hWw2]; exact fresh_of_below (below_regrown _ _ _)
  clear hWw2 ga0_w1 ga1_w1 ga2_w1 ga3_w1 gc1_w1 gc2_w1
  have HF2 := hid (show Fresh w1 w2 from by first | exact hfw2 | exact Touch.pre hfw2 | exact Touch.pre (Touch.pre hfw2) | exact Touch.ofN hfw2 | exact Touch.preN hfw2 | exact Touch.pre (Touch.pre (Touch.pre hfw2)))
  have a0_w2 : World.cell? w2 ⟨g, o, none⟩ = some (.int .i64 (k : Int)) := Touch.cell HF2.out a0_w1 (fun h => h)
  have a1_w2 : World.cell? w2 ⟨g, o + 1, none⟩ = some (.string ⟨t.toArray⟩) := Touch.cell HF2.out a1_w1 (fun h => h)
  have a2_w2 : World.cell? w2 ⟨g, o + 2, none⟩ = some (.int .i64 cols) := Touch.cell HF2.out a2_w1 (fun h => h)
  have a3_w2 : World.cell? w2 ⟨g, o + 3, none⟩ = some (.slice A len cap) := Touch.cell HF2.out a3_w1 (fun h => h)
  have c1_w2 : World.cell? w2 ⟨c, k * 3 + 1, none⟩ = some (.int .i64 slots) := Touch.cell HF2.out c1_w1 (fun h => h)
  have c2_w2 : World.cell? w2 ⟨c, k * 3 + 2, none⟩ = some (.func (.func fid) #[] #[]) := Touch.cell HF2.out c2_w1 (fun h => h)
  clear a0_w1 a1_w1 a2_w1 a3_w1 c1_w1 c2_w1
  clear hfw2
  cases h1 : tx with
  | false =>
    go_wp2_with fail
    go_ret
    exact ⟨ret_bool' _ _ (by unfold ownRest; simp only [*] <;> rfl), (by first | exact (HF1.out.trans HF2.out) | exact (HF1.out.trans HF2.out).alloc _ | exact ((HF1.out.trans HF2.out).alloc _).alloc _ | exact (((HF1.out.trans HF2.out).alloc _).alloc _).alloc _ | exact (HF1.out.trans HF2.out).drewN _ | exact ((HF1.out.trans HF2.out).alloc _).drewN _ | exact (((HF1.out.trans HF2.out).alloc _).alloc _).drewN _)⟩
  | true =>
    cases h2 : ((k : Int) == (1 : Int)) with
    | false =>
      have h2m : ((k : Int) != (1 : Int)) = true := by rw [bne, h2]; rfl
      have h2n : (k == 1) = false := by have hx := h2; simp only [beq_eq_false_iff_ne, ne_eq] at hx ⊢; omega
      cases h3 : ((k : Int) == (12 : Int)) with
      | false =>
        have h3m : ((k : Int) != (12 : Int)) = true := by rw [bne, h3]; rfl
        have h3n : (k == 12) = false := by have hx := h3; simp only [beq_eq_false_iff_ne, ne_eq] at hx ⊢; omega
        cases h4 : (cols == (0 : Int)) with
        | false =>
          have h4m : (cols != (0 : Int)) = true := by rw [bne, h4]; rfl
          go_wp2_with fail
          go_quiet (fail)
          go_wp2_with fail
          go_ret
          exact ⟨ret_bool' _ _ (by unfold ownRest; simp only [*] <;> rfl), (by first | exact (HF1.out.trans HF2.out) | exact (HF1.out.trans HF2.out).alloc _ | exact ((HF1.out.trans HF2.out).alloc _).alloc _ | exact (((HF1.out.trans HF2.out).alloc _).alloc _).alloc _ | exact (HF1.out.trans HF2.out).drewN _ | exact ((HF1.out.trans HF2.out).alloc _).drewN _ | exact (((HF1.out.trans HF2.out).alloc _).alloc _).drewN _)⟩
        | true =>
          have h4m : (cols != (0 : Int)) = false := by rw [bne, h4]; rfl
          go_wp2_with fail
          go_quiet (fail)
          cases h5 : ((len : Int) == slots) with
          | false =>
            have h5m : ((len : Int) != slots) = true := by rw [bne, h5]; rfl
            go_wp2_with fail
            go_ret
            exact ⟨ret_bool' _ _ (by unfold ownRest; simp only [*] <;> rfl), (by first | exact (HF1.out.trans HF2.out) | exact (HF1.out.trans HF2.out).alloc _ | exact ((HF1.out.trans HF2.out).alloc _).alloc _ | exact (((HF1.out.trans HF2.out).alloc _).alloc _).alloc _ | exact (HF1.out.trans HF2.out).drewN _ | exact ((HF1.out.trans HF2.out).alloc _).drewN _ | exact (((HF1.out.trans HF2.out).alloc _).alloc _).drewN _)⟩
          | true =>
            have h5m : ((len : Int) != slots) = false := by rw [bne, h5]; rfl
            go_wp2_with fail
            go_ret
            exact ⟨ret_bool' _ _ (by unfold ownRest; simp only [*] <;> rfl), (by first | exact (HF1.out.trans HF2.out) | exact (HF1.out.trans HF2.out).alloc _ | exact ((HF1.out.trans HF2.out).alloc _).alloc _ | exact (((HF1.out.trans HF2.out).alloc _).alloc _).alloc _ | exact (HF1.out.trans HF2.out).drewN _ | exact ((HF1.out.trans HF2.out).alloc _).drewN _ | exact (((HF1.out.trans HF2.out).alloc _).alloc _).drewN _)⟩
      | true =>
        have h3m : ((k : Int) != (12 : Int)) = false := by rw [bne, h3]; rfl
        have h3n : (k == 12) = true := by have hx := h3; simp only [beq_iff_eq] at hx ⊢; omega
        cases h6 : decide ((1 : Int) ≤ cols) with
        | false =>
          go_wp2_with fail
          go_quiet (fail)
          go_wp2_with fail
          go_ret
          exact ⟨ret_bool' _ _ (by unfold ownRest; simp only [*] <;> rfl), (by first | exact (HF1.out.trans HF2.out) | exact (HF1.out.trans HF2.out).alloc _ | exact ((HF1.out.trans HF2.out).alloc _).alloc _ | exact (((HF1.out.trans HF2.out).alloc _).alloc _).alloc _ | exact (HF1.out.trans HF2.out).drewN _ | exact ((HF1.out.trans HF2.out).alloc _).drewN _ | exact (((HF1.out.trans HF2.out).alloc _).alloc _).drewN _)⟩
        | true =>
          have h6p := of_decide_eq_true h6
          cases h7 : decide (cols ≤ (16 : Int)) with
          | false =>
            go_wp2_with fail
            go_quiet (fail)
            go_wp2_with fail
            go_ret
            exact ⟨ret_bool' _ _ (by unfold ownRest; simp only [*] <;> rfl), (by first | exact (HF1.out.trans HF2.out) | exact (HF1.out.trans HF2.out).alloc _ | exact ((HF1.out.trans HF2.out).alloc _).alloc _ | exact (((HF1.out.trans HF2.out).alloc _).alloc _).alloc _ | exact (HF1.out.trans HF2.out).drewN _ | exact ((HF1.out.trans HF2.out).alloc _).drewN _ | exact (((HF1.out.trans HF2.out).alloc _).alloc _).drewN _)⟩
          | true =>
            have h7p := of_decide_eq_true h7
            cases h8 : decide ((1 : Int) ≤ (len : Int)) with
            | false =>
              have h8n : decide (1 ≤ len) = false := by have hx := h8; simp only [decide_eq_false_iff_not] at hx ⊢; omega
              go_wp2_with fail
              go_quiet (fail)
              go_wp2_with fail
              go_ret
              exact ⟨ret_bool' _ _ (by unfold ownRest; simp only [*] <;> rfl), (by first | exact (HF1.out.trans HF2.out) | exact (HF1.out.trans HF2.out).alloc _ | exact ((HF1.out.trans HF2.out).alloc _).alloc _ | exact (((HF1.out.trans HF2.out).alloc _).alloc _).alloc _ | exact (HF1.out.trans HF2.out).drewN _ | exact ((HF1.out.trans HF2.out).alloc _).drewN _ | exact (((HF1.out.trans HF2.out).alloc _).alloc _).drewN _)⟩
            | true =>
              have h8p := of_decide_eq_true h8
              have h8n : decide (1 ≤ len) = true := by have hx := h8; simp only [decide_eq_true_eq] at hx ⊢; omega
              cases h9 : decide ((len : Int) ≤ (256 : Int)) with
              | false =>
                have h9n : decide (len ≤ 256) = false := by have hx := h9; simp only [decide_eq_false_iff_not] at hx ⊢; omega
                go_wp2_with fail
                go_quiet (fail)
                go_wp2_with fail
                go_ret
                exact ⟨ret_bool' _ _ (by unfold ownRest; simp only [*] <;> rfl), (by first | exact (HF1.out.trans HF2.out) | exact (HF1.out.trans HF2.out).alloc _ | exact ((HF1.out.trans HF2.out).alloc _).alloc _ | exact (((HF1.out.trans HF2.out).alloc _).alloc _).alloc _ | exact (HF1.out.trans HF2.out).drewN _ | exact ((HF1.out.trans HF2.out).alloc _).drewN _ | exact (((HF1.out.trans HF2.out).alloc _).alloc _).drewN _)⟩
              | true =>
                have h9p := of_decide_eq_true h9
                have h9n : decide (len ≤ 256) = true := by have hx := h9; simp only [decide_eq_true_eq] at hx ⊢; omega
                go_wp2_with fail
                go_quiet (fail)
                cases h10 : (((len : Int) % cols) == (0 : Int)) with
                | false =>
                  have h10m : (((len : Int) % cols) != (0 : Int)) = true := by rw [bne, h10]; rfl
                  go_wp2_with fail
                  go_ret
                  exact ⟨ret_bool' _ _ (by unfold ownRest; simp only [*] <;> rfl), (by first | exact (HF1.out.trans HF2.out) | exact (HF1.out.trans HF2.out).alloc _ | exact ((HF1.out.trans HF2.out).alloc _).alloc _ | exact (((HF1.out.trans HF2.out).alloc _).alloc _).alloc _ | exact (HF1.out.trans HF2.out).drewN _ | exact ((HF1.out.trans HF2.out).alloc _).drewN _ | exact (((HF1.out.trans HF2.out).alloc _).alloc _).drewN _)⟩
                | true =>
                  have h10m : (((len : Int) % cols) != (0 : Int)) = false := by rw [bne, h10]; rfl
                  go_wp2_with fail
                  go_ret
                  exact ⟨ret_bool' _ _ (by unfold ownRest; simp only [*] <;> rfl), (by first | exact (HF1.out.trans HF2.out) | exact (HF1.out.trans HF2.out).alloc _ | exact ((HF1.out.trans HF2.out).alloc _).alloc _ | exact (((HF1.out.trans HF2.out).alloc _).alloc _).alloc _ | exact (HF1.out.trans HF2.out).drewN _ | exact ((HF1.out.trans HF2.out).alloc _).drewN _ | exact (((HF1.out.trans HF2.out).alloc _).alloc _).drewN _)⟩
    | true =>
      have h2m : ((k : Int) != (1 : Int)) = false := by rw [bne, h2]; rfl
      have h2n : (k == 1) = true := by have hx := h2; simp only [beq_iff_eq] at hx ⊢; omega
      cases h11 : (cols == (0 : Int)) with
      | false =>
        have h11m : (cols != (0 : Int)) = true := by rw [bne, h11]; rfl
        go_wp2_with fail
        go_ret
        exact ⟨ret_bool' _ _ (by unfold ownRest; simp only [*] <;> rfl), (by first | exact (HF1.out.trans HF2.out) | exact (HF1.out.trans HF2.out).alloc _ | exact ((HF1.out.trans HF2.out).alloc _).alloc _ | exact (((HF1.out.trans HF2.out).alloc _).alloc _).alloc _ | exact (HF1.out.trans HF2.out).drewN _ | exact ((HF1.out.trans HF2.out).alloc _).drewN _ | exact (((HF1.out.trans HF2.out).alloc _).alloc _).drewN _)⟩
      | true =>
        have h11m : (cols != (0 : Int)) = false := by rw [bne, h11]; rfl
        cases h12 : decide ((len : Int) ≤ (200 : Int)) with
        | false =>
          have h12n : decide (len ≤ 200) = false := by have hx := h12; simp only [decide_eq_false_iff_not] at hx ⊢; omega
          go_wp2_with fail
          go_ret
          exact ⟨ret_bool' _ _ (by unfold ownRest; simp only [*] <;> rfl), (by first | exact (HF1.out.trans HF2.out) | exact (HF1.out.trans HF2.out).alloc _ | exact ((HF1.out.trans HF2.out).alloc _).alloc _ | exact (((HF1.out.trans HF2.out).alloc _).alloc _).alloc _ | exact (HF1.out.trans HF2.out).drewN _ | exact ((HF1.out.trans HF2.out).alloc _).drewN _ | exact (((HF1.out.trans HF2.out).alloc _).alloc _).drewN _)⟩
        | true =>
          have h12p := of_decide_eq_true h12
          have h12n : decide (len ≤ 200) = true := by have hx := h12; simp only [decide_eq_true_eq] at hx ⊢; omega
          go_wp2_with fail
          go_ret
          exact ⟨ret_bool' _ _ (by unfold ownRest; simp only [*] <;> rfl), (by first | exact (HF1.out.trans HF2.out) | exact (HF1.out.trans HF2.out).alloc _ | exact ((HF1.out.trans HF2.out).alloc _).alloc _ | exact (((HF1.out.trans HF2.out).alloc _).alloc _).alloc _ | exact (HF1.out.trans HF2.out).drewN _ | exact ((HF1.out.trans HF2.out).alloc _).drewN _ | exact (((HF1.out.trans HF2.out).alloc _).alloc _).drewN _)⟩

end Go.Proofs.Ytilgpmpiidccjaa
