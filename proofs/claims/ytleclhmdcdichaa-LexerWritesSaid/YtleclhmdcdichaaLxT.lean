/- The walk of the lexer's iterator. -/
import Derived.Test.YtleclhmdcdichaaLxN
import Derived.RangeFuncNested
import Derived.OwnWalkIn
import Derived.TacticsInMore
import Derived.LoopIn
import Derived.Deep.Cut
namespace Go.Proofs.Ytleclhmdcdichaa
open Go.RowKit
attribute [local go_sem] Oper.semAt_some

/-- The value of a token with its place. -/
def ptokV (x : Lx.PTok) : Value := .agg #[.int .i64 x.kind, .string ⟨x.text.toArray⟩, .int .i64 x.from_, .int .i64 x.to_]

def atOf (L : Nat) (w : World) : Nat := match w.cell? ⟨L, 257, none⟩ with | some (.int _ n) => n.toNat | _ => 0
theorem atOf_eq {L : Nat} {w : World} {s : ByteArray} {a : Nat} {p e : Int} (h : LexAt w L s a p e) : atOf L w = a := by unfold atOf; rw [h.at_]; simp

/-- How the iterator leaves the lexer. -/
def LexEnd (w : World) (L : Nat) (s : ByteArray) (r : Option (Nat × Nat)) : Prop :=
  ∃ a p e : Int, LexAt w L s a p e ∧ (match r with | none => e = 0 | some (p', e') => p = p' ∧ e = e')

set_option maxRecDepth 100000 in
set_option maxHeartbeats 1000000 in
theorem iter_any (L c l : Nat) (s : ByteArray) (J : List Lx.PTok → World → Prop) (w : World) (hm : s.size ≤ 1000000000)
    (hJ : ∀ pre W W', J pre W → Touch (· = L) W W' → J pre W')
    (hcL : c ≠ L)
    (hY : ∀ pre x (a : Nat) W, J pre W → LexAt W L s a 0 0 → W.cell? ⟨c, 0, none⟩ = some (.pointer (some ⟨L, 0, none⟩)) → pre ++ [x] <+: (Lx.lexAll s.data.toList).1 →
      YieldAt Fence.wide 1 Try.prog l #[ptokV x] W fun e W' => e = .returned (.bool true) ∧ J (pre ++ [x]) W' ∧ LexAt W' L s a 0 0 ∧ W'.cell? ⟨c, 0, none⟩ = some (.pointer (some ⟨L, 0, none⟩)))
    (hL : LexAt w L s 0 0 0) (hc : w.cell? ⟨c, 0, none⟩ = some (.pointer (some ⟨L, 0, none⟩))) (h0 : J [] w) :
    Calls Try.prog 23 #[.func (.yield l) #[] #[], .pointer (some ⟨c, 0, none⟩)] w fun e w' => e = .returned (.tuple #[]) ∧
      J (Lx.lexAll s.data.toList).1 w' ∧ LexEnd w' L s (Lx.lexAll s.data.toList).2 := by
  have HM : s.size ≤ maxLen := by unfold maxLen; omega
  have HY := hid hY
  have HJ := hid hJ
  have HLex := hid hL
  have HC := hid hc
  have H0 := hid h0
  have hll : s.data.toList.length = s.size := by simp
  have HLL := hid hll
  clear hY hJ hL hc h0 hll
  go_enter Try.func23, Try.ntmps23
  go_wp2
  go_loopw [4] (fun _ wr => ∃ (pre : List Lx.PTok) (a : Nat), Hid (J pre wr) ∧ Hid (LexAt wr L s a 0 0) ∧ Hid (wr.cell? ⟨c, 0, none⟩ = some (.pointer (some ⟨L, 0, none⟩))) ∧ a ≤ s.size ∧
      Hid (Lx.lexAll s.data.toList = (pre ++ (Lx.lexFrom s.data.toList a).1, (Lx.lexFrom s.data.toList a).2))) (fun _ wr => s.size - atOf L wr)
  case atStart => exact ⟨[], 0, H0, HLex, HC, Nat.zero_le _, rfl⟩
  case round =>
    obtain ⟨pre, a, HJr, HLr, HCr, ha, HA⟩ := hrel
    have hcc := HCr.out
    obtain ⟨g1, g2, g3, g4, f1, f2, f3, hLlt⟩ := lex_reads HLr.out
    obtain ⟨b, hbd⟩ : ∃ b, b = Lx.skip s.data.toList a := ⟨_, rfl⟩
    have hsk := Lx.skip_le s.data.toList a (by rw [HLL.out]; exact ha)
    rw [← hbd, HLL.out] at hsk
    obtain ⟨hab, hbs⟩ := hsk
    have HB := hid hbd
    have HAt := hid (atOf_eq HLr.out)
    clear hbd
    have hrun : ∀ n, Calls Try.prog 24 #[.pointer (some ⟨L, 0, none⟩), .int .i64 (a : Int), .int .u8 1] (wr.drewN n) fun e w' => e = .returned (.int .i64 (b : Int)) ∧ ∃ m, w' = (wr.drewN n).drewN m := fun n =>
      (run_any L s a 0 0 _ 1 _ (HLr.out.drewN _) (by omega) (by omega) HM).mono (by rintro e w' ⟨rfl, hn⟩; rw [Int.toNat_natCast, HB.out]; exact ⟨rfl, hn⟩)
    have HRUN := hid hrun
    clear hrun
    go_wp2_with fail
    refine wp_region_segs [([0,1,2,3,4,5,6,7,8],9)] [] (by kernel_rfl) (by kernel_rfl) ?_
    simp only [wpSegs, pick, List.getElem?_cons_zero, List.getElem?_cons_succ]
    repeat (quiet_step (exact Calls.quiet_of (HRUN.out _)))
    refine wpQuiet_nil ?_
    rintro _ ⟨nq, rfl⟩
    go_wp2_with fail
    refine wpQuiet_nil ?_
    rintro _ ⟨nq1, rfl⟩
    have hlx := (HLr.out.drewN nq).setAt b
    have hc1 : ((wr.drewN nq).setCell ⟨L, 257, none⟩ (.int .i64 (b : Int))).cell? ⟨c, 0, none⟩ = some (.pointer (some ⟨L, 0, none⟩)) := by rw [World.cell?_setCell_other _ _ _ _ (by simp)]; exact HCr.out
    have hj1 : J pre ((wr.drewN nq).setCell ⟨L, 257, none⟩ (.int .i64 (b : Int))) := HJ.out _ _ _ HJr.out (((Touch.refl (· = L) wr).drewN nq).setCell (p := ⟨L, 257, none⟩) (.inl rfl) _)
    have HLX := hid hlx
    have HJ1 := hid hj1
    clear hlx hj1
    by_cases hlt : b < s.size
    · have b1 : ((b : Int) == (s.size : Int)) = false := by rw [beq_eq_false_iff_ne]; omega
      go_wp2_with fail
      go_quiet (fail)
      go_wp2_with fail
      refine (next_any L s b 0 0 _ (HLX.out.drewN _) hm hlt).mono ?_
      rintro e' w' ⟨k, tx, f, t, bb, a', p', e2, rfl, hx, ht, hmn⟩
      have hj2 : J pre w' := HJ.out _ _ _ HJ1.out (Touch.ofN (n := _) ht)
      have hc2 : w'.cell? ⟨c, 0, none⟩ = some (.pointer (some ⟨L, 0, none⟩)) := ht.cell hc1 hcL
      have HJ2 := hid hj2
      have HX := hid hx
      clear hj2 hx ht
      cases hr : Lx.next (s.data.toList.drop b) with
      | err i er =>
        rw [hr] at hmn
        obtain ⟨rfl, rfl, rfl, rfl, rfl, ha', hp', he2⟩ := hmn
        have HA' := hid ha'
        have HP' := hid hp'
        have HE' := hid he2
        have HR := hid hr
        clear hr ha' hp' he2
        go_wp2_with fail
        refine bodyPost_ret (results_none rfl _ _ _) rfl ?_
        have hA := HA.out
        rw [Lx.lexFrom_err _ _ _ _ (by rw [← HB.out, HLL.out]; exact hlt) (by rw [← HB.out]; exact HR.out)] at hA
        rw [hA]
        refine ⟨rfl, ?_, ⟨a', p', e2, LexAt.alloc HX.out _, ?_⟩⟩
        · rw [List.append_nil]; exact HJ.out _ _ _ HJ2.out ((Touch.refl (· = L) w').alloc _)
        · rw [← HB.out]; exact ⟨HP'.out, HE'.out⟩
      | ok tk n =>
        rw [hr] at hmn
        obtain ⟨m2, hm2⟩ : ∃ m2, m2 = b + n := ⟨_, rfl⟩
        have HM2 := hid hm2
        unfold Means at hmn
        simp only [← hm2] at hmn
        clear hm2
        obtain ⟨rfl, rfl, rfl, rfl, rfl, rfl, rfl, rfl⟩ := hmn
        have HR := hid hr
        clear hr
        have HX1 := hid (HX.out.alloc (.cells #[.int .i64 tk.kind, .string ⟨tk.text.toArray⟩, .int .i64 b, .int .i64 m2] 28))
        have hfa := Lx.lexFrom_ok s.data.toList a n tk (by rw [← HB.out, HLL.out]; exact hlt) (by rw [← HB.out]; exact HR.out)
        rw [← HB.out, ← HM2.out] at hfa
        have HFA := hid hfa
        clear hfa
        have hm2s : m2 ≤ s.size := by
          have h1 := (Lx.next_pos _ _ _ HR.out).2
          rw [List.length_drop, HLL.out] at h1
          have := HM2.out
          omega
        have hbm : b < m2 := by have h1 := (Lx.next_pos _ _ _ HR.out).1; have := HM2.out; omega
        have hc3 : (w'.alloc (.cells #[.int .i64 tk.kind, .string ⟨tk.text.toArray⟩, .int .i64 b, .int .i64 m2] 28)).cell? ⟨c, 0, none⟩ = some (.pointer (some ⟨L, 0, none⟩)) := ((Touch.refl (fun _ => False) w').alloc _).cell hc2 (fun h => h)
        obtain ⟨fn, tmps, assign, body, hy, hR⟩ := HY.out pre ⟨tk.kind, tk.text, b, m2⟩ m2 (w'.alloc (.cells #[.int .i64 tk.kind, .string ⟨tk.text.toArray⟩, .int .i64 b, .int .i64 m2] 28))
          (HJ.out _ _ _ HJ2.out ((Touch.refl (· = L) w').alloc _)) HX1.out hc3 (by rw [HA.out, HFA.out]; exact ⟨(Lx.lexFrom s.data.toList m2).1, by simp⟩)
        simp only [ptokV] at hy
        have HRD := hid hR
        clear hR
        go_upto_region 3 with (fail)
        refine (wpIn_wide (n := 2)).1 ?_
        gi_wp2
        refine HRD.out.mono ?_
        rintro e W' ⟨rfl, hj, hl, hcx⟩
        have HJW := hid hj
        have HLW := hid hl
        have HCW := hid hcx
        clear hj hl hcx
        gi_wp2
        go_wp2_with fail
        go_roundw
        case rel => exact ⟨pre ++ [⟨tk.kind, tk.text, b, m2⟩], m2, HJW, HLW, HCW, hm2s, by have := HA.out; rw [HFA.out] at this; simpa [Hid] using this⟩
        case measure => rw [atOf_eq HLW.out, HAt.out]; omega
    · have b1 : ((b : Int) == (s.size : Int)) = true := by rw [beq_iff_eq]; omega
      go_wp2_with fail
      go_quiet (fail)
      go_wp2_with fail
      refine bodyPost_ret (results_none rfl _ _ _) rfl ?_
      have hA := HA.out
      rw [Lx.lexFrom_end _ _ (by rw [← HB.out, HLL.out]; omega)] at hA
      rw [hA]
      refine ⟨rfl, ?_, ⟨b, 0, 0, ?_, rfl⟩⟩
      · rw [List.append_nil]; refine HJ.out _ _ _ HJ1.out ?_; exact ((Touch.refl (· = L) _).drewN _).drewN _
      · exact (HLX.out.drewN _).drewN _
end Go.Proofs.Ytleclhmdcdichaa
