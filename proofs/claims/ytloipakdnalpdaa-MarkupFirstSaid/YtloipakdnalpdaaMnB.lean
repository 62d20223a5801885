/- markup.valid walked: whether an item without content is valid. -/
import Derived.Test.YtloipakdnalpdaaMnA
import Derived.Test.YtloipakdnalpdaaQa18
namespace Go.Proofs.Ytloipakdnalpdaa
open Go.RowKit
open Tr (Nd)
open El (E Attrs leafK attrV rowNil validI)

theorem repl_snoc (j : Nat) : List.replicate j rowNil ++ [rowNil] = List.replicate (j + 1) rowNil := by
  rw [List.replicate_succ']
set_option maxRecDepth 100000 in
set_option maxHeartbeats 1000000 in
theorem mvalid_any (k : Int) (t : List UInt8) (s : Nat) (hs : s ≤ 8) (ht : t.length ≤ maxLen) (w : World) : Calls Try.prog 64 #[.int .i64 k, .string ⟨t.toArray⟩, .int .i64 (s : Int)] w fun e w' => e = .returned (.bool (validI k t s)) ∧ Fresh w w' := by
  have HT := hid ht
  clear ht
  go_enter Try.func64, Try.ntmps64
  go_wp2_with fail
  have HB0 := hid (Blk.new w 24 #[.int .i64 k, .string ⟨t.toArray⟩, .int .i64 0, .slice none 0 0])
  have HF0 := hid ((Touch.refl (fun _ => False) w).alloc (.cells #[.int .i64 k, .string ⟨t.toArray⟩, .int .i64 0, .slice none 0 0] 24))
  have HG0 := hid (GrowN.nil (B := w.heap.size + 1) (w := w.alloc (.cells #[.int .i64 k, .string ⟨t.toArray⟩, .int .i64 0, .slice none 0 0] 24)) (by simp))
  generalize (w.alloc (.cells #[.int .i64 k, .string ⟨t.toArray⟩, .int .i64 0, .slice none 0 0] 24)) = W1 at *
  go_loopw [12] (fun i wr => ∃ (j : Nat) (A : Option Addr) (c : Nat), i = .int .i64 j ∧ j ≤ s ∧ Hid (Blk wr w.heap.size 24 #[.int .i64 k, .string ⟨t.toArray⟩, .int .i64 0, .slice A j c]) ∧ Hid (GrowN (w.heap.size + 1) wr (List.replicate j rowNil) (.slice A j c)) ∧ Hid (Fresh w wr)) (fun i _ => s - (intOf i).toNat)
  case atStart => exact ⟨0, none, 0, rfl, Nat.zero_le _, HB0, HG0, HF0⟩
  case round =>
    obtain ⟨j, A, c, rfl, hj, HB, HG, HF⟩ := hrel
    rename_i wr _
    by_cases c1 : j < s
    · have d1 : decide ((j : Int) < (s : Int)) = true := dT (by omega)
      have d1n : decide (j < s) = true := dT c1
      have d1' : (j : Int) < (s : Int) := by omega
      obtain ⟨q0, q1, q2, q3, z0, z1, z2, z3, hlt⟩ := Blk.four HB.out
      have HOW := hid HG.out.own_lt
      have HLN := hid (show (List.replicate j rowNil).length = j from List.length_replicate)
      have HBV := hid (Blk.new wr 24 #[.int .i64 1, .string ⟨#[]⟩, .int .i64 0, .slice none 0 0])
      have HF5 := hid ((Touch.refl (fun _ => False) wr).alloc (.cells #[.int .i64 1, .string ⟨#[]⟩, .int .i64 0, .slice none 0 0] 24))
      have HSZ := hid HG.out.1
      go_wp2_with (at_builtin; go_loud (refine wpList_append_node rfl (.tmp 15) (.tmp 17) rfl (HG.out.fresh HF5.out) HLN.out (by simp [Act.eval]) rowNil HBV.out (by simp [Act.eval]) wr.heap.size HSZ.out (fun k hk => (HOW.out k hk).2) (Nat.zero_le _) (fun W _ => RepL.nil _ _) (by omega) ?_); intro A8 c8 w8 hg8 ht8 _; refine Stay.mk ?_)
      have HG8 := hid (show GrowN (w.heap.size + 1) w8 (List.replicate (j + 1) rowNil) (.slice A8 (j + 1) c8) by rw [← repl_snoc]; exact hg8)
      have HB8 := hid (ht8.blk (HF5.out.blk HB.out fun h => h) fun h => by have := (HOW.out _ h).1; omega)
      have HF8 := hid (show Fresh w w8 from (HF.out.trans HF5.out).trans' ht8 fun k hk => .inr (by have := (HOW.out _ hk).1; omega))
      clear hg8 ht8 q0 q1 q2 q3 z0 z1 z2 z3 hlt
      obtain ⟨q0, q1, q2, q3, z0, z1, z2, z3, hlt⟩ := Blk.four HB8.out
      refine Stay.go ?_
      go_wp2_with fail
      go_roundw
      case rel => exact ⟨j + 1, A8, c8, by go_num, c1, hid (HB8.out.put 3 _), hid (HG8.out.mv ((Touch.refl (fun k => k = w.heap.size) w8).setCell (p := ⟨w.heap.size, 3, none⟩) (.inl rfl) (.slice A8 (j + 1) c8)) (fun k hk _ => by omega)), hid (HF8.out.setCell (p := ⟨w.heap.size, 3, none⟩) (.inr (Nat.le_refl _)) _)⟩
      case measure => simp [intOf]; omega
    · have d1 : decide ((j : Int) < (s : Int)) = false := dF (by omega)
      have d1n : decide (j < s) = false := dF c1
      obtain rfl : j = s := by omega
      obtain ⟨q0, q1, q2, q3, z0, z1, z2, z3, hlt⟩ := Blk.four HB.out
      go_wp2_with fail
      have hr := RepL.kid1 (k := k) (c := 0) (s := t) (ks := List.replicate j rowNil) (Blk.new wr 24 #[.int .i64 k, .string ⟨t.toArray⟩, .int .i64 0, .slice A j c]) HT.out (HG.out.rep.fresh ((Touch.refl _ wr).alloc _))
      refine (nodeValidItems_any [.mk k t 0 (List.replicate j rowNil)] _ _ _ hr).mono ?_
      rintro _ w3 ⟨rfl, hf3⟩
      have HF3 := hid (HF.out.trans (Touch.pre hf3))
      clear hf3 hr
      go_wp2_with fail
      go_ret
      exact ⟨rfl, HF3.out⟩
end Go.Proofs.Ytloipakdnalpdaa
