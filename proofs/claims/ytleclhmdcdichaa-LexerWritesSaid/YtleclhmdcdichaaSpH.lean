/- The walk of LexerSpell. -/
import Derived.Test.YtleclhmdcdichaaSpG
import Derived.Test.YtleclhmdcdichaaSpB
import Derived.Test.YtleclhmdcdichaaSpC
namespace Go.Proofs.Ytleclhmdcdichaa
open Go.RowKit

/-- Two boxes, one behind the other. -/
theorem two_boxes (w : World) (t : TypeId) (x0 x1 x2 x3 y0 y1 y2 y3 : Value) {w1 : World} (h : Fresh ((w.alloc (.cells #[x0, x1, x2, x3] t)).alloc (.cells #[y0, y1, y2, y3] t)) w1) :
    Blk w1 w.heap.size t #[x0, x1, x2, x3] ∧ Blk w1 (w.heap.size + 1) t #[y0, y1, y2, y3] :=
  ⟨h.blk ((Blk.new w t _).alloc _) (fun h => h), h.blk (Blk.new2 w _ t _) (fun h => h)⟩

theorem forget_world {p : World → Prop} {W : World} (F : World → Prop) (hF : F W) (h : ∀ W', F W' → p W') : p W := h W hF

/-- A call that leaves all that was there, in any world that has only grown since. -/
theorem calm {f : Nat} {args : Array Value} {v : Value} (h : ∀ w, Calls Try.prog f args w fun e w' => e = .returned v ∧ Fresh w w') (W : World) :
    ∀ d os, Calls Try.prog f args (Go.Sort.grow (redrawn W d) os) fun e w'' => e = .returned v ∧ ∃ p : Regrown, w'' = Go.Sort.grow (redrawn W p.d) p.os :=
  fun _ _ => Calls.regrown_of ((h _).mono fun _ _ h => ⟨h.1, h.2.below⟩)

set_option maxRecDepth 100000 in
set_option maxHeartbeats 1000000 in
theorem lexerSpell_any (ka fa ta kb fb tb' : Int) (sa sb : ByteArray) (w : World) :
    Calls Try.prog 4 #[.agg #[.int .i64 ka, .string sa, .int .i64 fa, .int .i64 ta], .agg #[.int .i64 kb, .string sb, .int .i64 fb, .int .i64 tb']] w fun e w' => e = .returned (.bool true) ∧ Fresh w w' := by
  by_cases c1 : 300 < sa.size
  · have b1 : decide ((300 : Int) < (sa.size : Int)) = true := by simp; omega
    go_enter Try.func4, Try.ntmps4
    go_wp2_with fail
    refine (awake_any _).mono ?_
    rintro e1 w1 ⟨rfl, hf1⟩
    obtain ⟨HA, HB⟩ := two_boxes _ _ _ _ _ _ _ _ _ _ hf1
    obtain ⟨q0, q1, q2, q3, z0, z1, z2, z3, hg⟩ := Blk.four HA
    have HF1 := hid hf1
    clear hf1 z0 z1 z2 z3 q0 q2 q3 HB hg
    go_wp2_with fail
    refine (awake_any _).mono ?_
    rintro e2 w2 ⟨rfl, hf2⟩
    have HF2 := hid hf2
    clear hf2
    go_wp2_with fail
    go_ret
    exact ⟨rfl, (HF1.out.trans HF2.out).pre.pre⟩
  · have b1 : decide ((300 : Int) < (sa.size : Int)) = false := by simp; omega
    by_cases c2 : 300 < sb.size
    · have b2 : decide ((300 : Int) < (sb.size : Int)) = true := by simp; omega
      go_enter Try.func4, Try.ntmps4
      go_wp2_with fail
      refine (awake_any _).mono ?_
      rintro e1 w1 ⟨rfl, hf1⟩
      obtain ⟨HA, HB⟩ := two_boxes _ _ _ _ _ _ _ _ _ _ hf1
      obtain ⟨q0, q1, q2, q3, z0, z1, z2, z3, hg⟩ := Blk.four HA
      obtain ⟨r0, r1, r2, r3, y0, y1, y2, y3, hh⟩ := Blk.four HB
      have HF1 := hid hf1
      clear hf1 z0 z1 z2 z3 q0 q2 q3 hg y0 y1 y2 y3 r0 r2 r3 hh
      go_wp2_with fail
      refine (awake_any _).mono ?_
      rintro e2 w2 ⟨rfl, hf2⟩
      have HF2 := hid hf2
      clear hf2
      go_wp2_with fail
      go_ret
      exact ⟨rfl, (HF1.out.trans HF2.out).pre.pre⟩
    · have b2 : decide ((300 : Int) < (sb.size : Int)) = false := by simp; omega
      go_enter Try.func4, Try.ntmps4
      go_wp2_with fail
      refine (awake_any _).mono ?_
      rintro e1 w1 ⟨rfl, hf1⟩
      obtain ⟨HA, HB⟩ := two_boxes _ _ _ _ _ _ _ _ _ _ hf1
      obtain ⟨q0, q1, q2, q3, z0, z1, z2, z3, hg⟩ := Blk.four HA
      obtain ⟨r0, r1, r2, r3, y0, y1, y2, y3, hh⟩ := Blk.four HB
      have HF1 := hid hf1
      clear hf1
      go_wp2_with fail
      go_region
      · refine forget_world (fun W => Fresh w1 W ∧ Blk W (w1.heap.size) 28 #[.int .i64 ka, .string sa, .int .i64 fa, .int .i64 ta] ∧ Blk W (w1.heap.size + 1) 28 #[.int .i64 kb, .string sb, .int .i64 fb, .int .i64 tb']) ⟨(((Touch.refl _ w1).alloc _).alloc _).drew, (Blk.new w1 28 _).alloc _, Blk.new2 w1 _ 28 _⟩ ?_
        rintro W ⟨hf2, h5, h6⟩
        have HA2 := hf2.blk HA (fun h => h)
        have HB2 := hf2.blk HB (fun h => h)
        have HF2 := hid hf2
        clear hf2 q0 q1 q2 q3 z0 z1 z2 z3 r0 r1 r2 r3 y0 y1 y2 y3 HA HB hg hh
        obtain ⟨q0, q1, q2, q3, _, _, _, _, hg⟩ := Blk.four HA2
        obtain ⟨r0, r1, r2, r3, _, _, _, _, hh⟩ := Blk.four HB2
        obtain ⟨s0, s1, s2, s3, _, _, _, _, hi⟩ := Blk.four h5
        obtain ⟨u0, u1, u2, u3, _, _, _, _, hj⟩ := Blk.four h6
        have k0 := cell_regrown q0
        have k1 := cell_regrown q1
        have k2 := cell_regrown q2
        have k3 := cell_regrown q3
        have l0 := cell_regrown r0
        have l1 := cell_regrown r1
        have l2 := cell_regrown r2
        have l3 := cell_regrown r3
        have m0 := cell_regrown s0
        have m1 := cell_regrown s1
        have m2 := cell_regrown s2
        have m3 := cell_regrown s3
        have n0 := cell_regrown u0
        have n1 := cell_regrown u1
        have n2 := cell_regrown u2
        have n3 := cell_regrown u3
        have C1 := hid (calm (fun w => spell_any ka sa fa ta w (by omega)) W)
        have C2 := hid (calm (fun w => rSpell_any ka sa fa ta w (by omega)) W)
        have C3 := hid (calm (fun w => joins_any ka fa ta kb fb tb' sa sb w) W)
        have C4 := hid (calm (fun w => rJoins_any ka fa ta kb fb tb' sa sb w) W)
        clear q0 q1 q2 q3 r0 r1 r2 r3 s0 s1 s2 s3 u0 u1 u2 u3
        generalize Lx.spellL ka sa.data.toList = S at *
        generalize joinsL ka kb sb.data.toList = J at *
        go_wp2_with fail
        refine wp_region_quiet_below (by kernel_rfl) (by kernel_rfl) ?_
        repeat (quiet_step (first | exact C1.out _ _ | exact C2.out _ _ | exact C3.out _ _ | exact C4.out _ _))
        refine wpQuiet_nil ?_
        intro _ hw'
        obtain ⟨⟨dq, osq⟩, hw''⟩ := hw'
        subst hw''
        go_wp2_with fail
        go_ret
        exact ⟨rfl, ((HF1.out.trans HF2.out).trans (fresh_of_below (below_regrown _ _ _))).pre.pre⟩
      · refine forget_world (fun W => Fresh w1 W ∧ Blk W (w1.heap.size + 1) 28 #[.int .i64 ka, .string sa, .int .i64 fa, .int .i64 ta] ∧ Blk W (w1.heap.size) 28 #[.int .i64 kb, .string sb, .int .i64 fb, .int .i64 tb']) ⟨(((Touch.refl _ w1).alloc _).alloc _).drew, Blk.new2 w1 _ 28 _, (Blk.new w1 28 _).alloc _⟩ ?_
        rintro W ⟨hf2, h5, h6⟩
        have HA2 := hf2.blk HA (fun h => h)
        have HB2 := hf2.blk HB (fun h => h)
        have HF2 := hid hf2
        clear hf2 q0 q1 q2 q3 z0 z1 z2 z3 r0 r1 r2 r3 y0 y1 y2 y3 HA HB hg hh
        obtain ⟨q0, q1, q2, q3, _, _, _, _, hg⟩ := Blk.four HA2
        obtain ⟨r0, r1, r2, r3, _, _, _, _, hh⟩ := Blk.four HB2
        obtain ⟨s0, s1, s2, s3, _, _, _, _, hi⟩ := Blk.four h5
        obtain ⟨u0, u1, u2, u3, _, _, _, _, hj⟩ := Blk.four h6
        have k0 := cell_regrown q0
        have k1 := cell_regrown q1
        have k2 := cell_regrown q2
        have k3 := cell_regrown q3
        have l0 := cell_regrown r0
        have l1 := cell_regrown r1
        have l2 := cell_regrown r2
        have l3 := cell_regrown r3
        have m0 := cell_regrown s0
        have m1 := cell_regrown s1
        have m2 := cell_regrown s2
        have m3 := cell_regrown s3
        have n0 := cell_regrown u0
        have n1 := cell_regrown u1
        have n2 := cell_regrown u2
        have n3 := cell_regrown u3
        have C1 := hid (calm (fun w => spell_any ka sa fa ta w (by omega)) W)
        have C2 := hid (calm (fun w => rSpell_any ka sa fa ta w (by omega)) W)
        have C3 := hid (calm (fun w => joins_any ka fa ta kb fb tb' sa sb w) W)
        have C4 := hid (calm (fun w => rJoins_any ka fa ta kb fb tb' sa sb w) W)
        clear q0 q1 q2 q3 r0 r1 r2 r3 s0 s1 s2 s3 u0 u1 u2 u3
        generalize Lx.spellL ka sa.data.toList = S at *
        generalize joinsL ka kb sb.data.toList = J at *
        go_wp2_with fail
        refine wp_region_quiet_below (by kernel_rfl) (by kernel_rfl) ?_
        repeat (quiet_step (first | exact C1.out _ _ | exact C2.out _ _ | exact C3.out _ _ | exact C4.out _ _))
        refine wpQuiet_nil ?_
        intro _ hw'
        obtain ⟨⟨dq, osq⟩, hw''⟩ := hw'
        subst hw''
        go_wp2_with fail
        go_ret
        exact ⟨rfl, ((HF1.out.trans HF2.out).trans (fresh_of_below (below_regrown _ _ _))).pre.pre⟩
end Go.Proofs.Ytleclhmdcdichaa
