/- The walks of the reference's left, Few, Equal and SameItems. -/
import Derived.Test.YtilgpmpiidccjaaTrR
import Derived.Test.YtilgpmpiidccjaaRegB
namespace Go.Proofs.Ytilgpmpiidccjaa
open Go.RowKit

theorem forget_world {p : World → Prop} {W : World} (F : World → Prop) (hF : F W) (h : ∀ W', F W' → p W') : p W := h W hF
theorem Blk.new3 (w : World) (o o' : Obj) (t : TypeId) (cs : Array Value) : Blk (((w.alloc o).alloc o').alloc (.cells cs t)) (w.heap.size + 1 + 1) t cs := by
  have := Blk.new2 (w.alloc o) o' t cs
  simpa using this
/-- A call that leaves all that was there, in any world that has only grown since. -/
theorem calmF {P : Program} {f : Nat} {args : Array Value} {v : Value} (W : World) (h : ∀ w, Fresh W w → Calls P f args w fun e w' => e = .returned v ∧ Fresh w w') :
    ∀ d os, Calls P f args (Go.Sort.grow (redrawn W d) os) fun e w'' => e = .returned v ∧ ∃ p : Regrown, w'' = Go.Sort.grow (redrawn W p.d) p.os :=
  fun _ _ => Calls.regrown_of ((h _ (fresh_of_below (below_regrown _ _ _))).mono fun _ _ h => ⟨h.1, h.2.below⟩)

theorem str_eq' (a b : ByteArray) : (a == b) = (a.data.toList == b.data.toList) := by
  show (a.data == b.data) = _
  simp

def leftF (n : Tr.Nd) (most : Int) : Int := if (Tr.count n : Int) ≤ most then most - Tr.count n else -1
def leftL (l : List Tr.Nd) (most : Int) : Int := if (1 + Tr.countL l : Int) ≤ most then most - 1 - Tr.countL l else -1

theorem ret_i64 (a b : Int) (h : a = b) : Ending.returned (.int .i64 a) = .returned (.int .i64 b) := by rw [h]

set_option maxHeartbeats 1000000 in
theorem left_any (m : Nat) : ∀ (n : Tr.Nd) (sl : Value) (most : Int) (w : World), Tr.count n ≤ m → RepL w n.kids sl → 0 ≤ most → most ≤ 1000000 →
    Calls Try.prog 37 #[.agg #[.int .i64 n.kind, .string ⟨n.text.toArray⟩, .int .i64 n.cols, sl], .int .i64 most] w fun e w' => e = .returned (.int .i64 (leftF n most)) ∧ Fresh w w' := by
  induction m with
  | zero => intro n _ _ _ h; have := Tr.count_pos n; omega
  | succ m ih =>
    intro n sl most w hm hr h0 h1
    obtain ⟨A, cap, rfl⟩ := hr.slice
    have hlen := hr.len
    unfold maxLen at hlen
    have HIH := hid ih
    have HR := hid hr
    have hk : Tr.countL n.kids ≤ m := by have := Tr.count_kids n; omega
    have HN := hid (Tr.count_kids n)
    clear ih hr hm
    generalize hks : n.kids = ks at *
    clear hks
    go_enter Try.func37, Try.ntmps37
    go_wp2_with fail
    go_loopw [1, 5] (fun x i wr => ∃ (j : Nat) (cur : Int), i = .int .i64 j ∧ x = .int .i64 cur ∧ j ≤ ks.length ∧ Hid (cur = leftL (ks.take j) most) ∧ Hid (Blk wr w.heap.size 24 #[.int .i64 n.kind, .string ⟨n.text.toArray⟩, .int .i64 n.cols, .slice A ks.length cap]) ∧ Hid (Fresh w wr)) (fun _ i _ => ks.length - (intOf i).toNat)
    case atStart => exact ⟨0, most - 1, rfl, by simp, Nat.zero_le _, by unfold leftL; simp [Tr.countL, Hid]; omega, Blk.new _ _ _, (Touch.refl _ w).alloc _⟩
    case round =>
      obtain ⟨j, cur, rfl, rfl, hj, HC, HB, HF⟩ := hrel
      obtain ⟨q0, q1, q2, q3, _, _, _, _, hg⟩ := Blk.four HB.out
      have hcur : -1 ≤ cur ∧ cur ≤ 1000000 := by rw [HC.out]; unfold leftL; split <;> omega
      obtain ⟨hcl, hcu⟩ := hcur
      by_cases c1 : j < ks.length
      · have d1 : decide ((j : Int) < (ks.length : Int)) = true := by simp; omega
        have d1' : (j : Int) < (ks.length : Int) := by omega
        by_cases c2 : 0 ≤ cur
        · have d2 : decide ((0 : Int) ≤ cur) = true := by simp; omega
          obtain ⟨g, o, sl, rfl, hg', m0, m1, m2, m3, hrk⟩ := HR.out.get j c1
          have p0 := HF.out.cell m0 (fun h => h)
          have p1 := HF.out.cell m1 (fun h => h)
          have p2 := HF.out.cell m2 (fun h => h)
          have p3 := HF.out.cell m3 (fun h => h)
          have hcnt := Tr.count_mem (List.getElem_mem (l := ks) (n := j) c1)
          have HTK := hid (Tr.countL_take ks j c1)
          have HRK := hid hrk
          clear m0 m1 m2 m3 hrk
          generalize ks[j] = x at *
          go_wp2_with fail
          refine (HIH.out x sl cur _ (by omega) (HRK.out.fresh HF.out) c2 hcu).mono ?_
          rintro e1 w1 ⟨rfl, hf⟩
          have HF1 := hid hf
          have HB1 := hid (hf.blk HB.out (fun h => h))
          clear hf q0 q1 q2 q3 p0 p1 p2 p3
          go_wp2_with fail
          go_roundw
          case rel =>
            refine ⟨j + 1, leftF x cur, by go_num, rfl, c1, ?_, HB1, HF.out.trans HF1.out⟩
            unfold Hid
            have h1 := HC.out
            unfold leftL at h1 ⊢
            unfold leftF
            rw [HTK.out]
            split at h1 <;> split <;> split <;> omega
          case measure => simp [intOf]; omega
        · have d2 : decide ((0 : Int) ≤ cur) = false := by simp; omega
          go_wp2_with fail
          go_ret
          refine ⟨ret_i64 _ _ ?_, HF.out⟩
          clear q0 q1 q2 q3
          have h1 := HC.out
          have h2 := Tr.countL_le ks j
          unfold leftL at h1
          unfold leftF
          rw [HN.out]
          split at h1 <;> split <;> omega
      · have d1 : decide ((j : Int) < (ks.length : Int)) = false := by simp; omega
        obtain rfl : j = ks.length := by omega
        go_wp2_with fail
        go_ret
        refine ⟨ret_i64 _ _ ?_, HF.out⟩
        have h1 := HC.out
        rw [List.take_length] at h1
        rw [h1]
        unfold leftL leftF
        rw [HN.out]
        split <;> split <;> omega
end Go.Proofs.Ytilgpmpiidccjaa
