/- Part 25 of 48 of a proof; its texts, joined: SpF. No condition. -/
import Derived.Test.YtncnoeoicaglaaaGreatVc10

/- The walks of the reference's Quoted and Spell. -/
namespace Go.Proofs.YtncnoeoicaglaaaGreat
open Go.RowKit
structure RQ (w : World) (acc : List UInt8) (n g cap : Nat) (wr : World) : Prop where
 own : wr.ownsRow w.heap.size 5 1 (.slice (some ⟨g, 0, none⟩) n cap) n (Lib.byteCells acc)
 fresh : Fresh w wr
theorem one_cell (wr : World) (x : Value) : ∀ (j : Nat) (u : Value), [x][j]? = some u → (wr.alloc (.cells #[x] 5)).cell? ((⟨wr.heap.size, 0, none⟩ : Addr).add j) = some u := by
 intro j u hj
 match j, hj with
 | 0, hj =>
  simp at hj; subst hj
  exact (Blk.new wr 5 #[x]).cell 0
theorem RQ.next (c : UInt8) {w wr w' : World} {acc : List UInt8} {n g cap : Nat} {v : Value} {o : Obj} (h : RQ w acc n g cap wr) (hown : w'.ownsRow w.heap.size 5 1 v (n + 1) (Lib.byteCells acc ++ [.int .u8 c.toNat]))
  (hg : (wr.alloc o).grownBy w' (Value.slice (some ⟨g, 0, none⟩) n cap).ownBlock) : ∃ g' cap', v = .slice (some ⟨g', 0, none⟩) (n + 1) cap' ∧ RQ w (acc ++ [c]) (n + 1) g' cap' w' := by
 obtain ⟨g', cap', rfl⟩ : ∃ g' cap', v = .slice (some ⟨g', 0, none⟩) (n + 1) cap' := by
  rcases hown.2 with ⟨_, h0⟩ | ⟨g', cap', cur, hv, _⟩
  ·omega
  ·exact ⟨g', cap', hv⟩
 refine ⟨g', cap', rfl, ?_, ?_⟩
 ·rw [byteCells_snoc]; exact hown
 ·have hl := (h.own.lt g rfl).1
  refine h.fresh.trans' (S' := (· = g)) (((Touch.refl (· = g) wr).alloc o).grown hg (fun k hk => .inl ?_)) (fun k hk => .inr (by omega))
  simp [Value.ownBlock] at hk; exact hk.symm
set_option maxRecDepth 100000 in
set_option maxHeartbeats 1000000 in
theorem rQuoted_any (t : ByteArray) (w : World) (hm : t.size ≤ 1000000000) :
  Calls Tryz.prog 24 #[.string t] w fun e w' => e = .returned (.string ⟨(Lx.quoteL t.data.toList).toArray⟩) ∧ Fresh w w' := by
 obtain ⟨i0, hi, hz0, hz1, hz2⟩ := info_parts infoU8
 have hll : t.data.toList.length = t.size := by simp
 have HLL := hid hll
 clear hll
 go_enter Tryz.func24, Tryz.ntmps24
 go_wp2_with fail
 have hs0 : RQ w [34] 1 w.heap.size 1 (w.alloc (.cells #[.int .u8 34] 5)) :=
  ⟨⟨rfl, .inr ⟨w.heap.size, 1, #[.int .u8 34], rfl, Nat.le_refl _, (Blk.new w 5 #[.int .u8 34]), Nat.le_refl _, by decide, rfl, rfl⟩⟩, (Touch.refl _ w).alloc _⟩
 have HS0 := hid hs0
 clear hs0
 go_loopw [3, 4] (fun x i wr => ∃ (j : Nat) (acc : List UInt8) (n g cap : Nat), x = .slice (some ⟨g, 0, none⟩) n cap ∧ i = .int .i64 j ∧ j ≤ t.size ∧ n ≤ 2 * j + 1 ∧ Hid (acc = 34 :: Lx.esc (t.data.toList.take j)) ∧ Hid (RQ w acc n g cap wr)) (fun _ i _ => t.size - (intOf i).toNat)
 case atStart => exact ⟨0, [34], 1, w.heap.size, 1, rfl, rfl, Nat.zero_le _, Nat.le_refl _, rfl, HS0⟩
 case round =>
  obtain ⟨j, acc, n, g, cap, rfl, rfl, hj, hacc, HA, HS⟩ := hrel
  clear HS0
  by_cases c1 : j < t.size
  ·have b1 : decide ((j : Int) < (t.size : Int)) = true := by simp; omega
   have b1' : (j : Int) < (t.size : Int) := by omega
   have htk : t.data.toList.take (j + 1) = t.data.toList.take j ++ [t[j]'c1] := by
    rw [List.take_add_one, List.getElem?_eq_getElem (by rw [HLL.out]; exact c1)]; rfl
   have HTK := hid htk
   clear htk
   by_cases c2 : t[j]'c1 = 34
   ·have b2 : (((t[j]'c1).toNat : Int) == 34) = true := u8_eq_of _ 34 c2
    have HE := hid (show Lx.escB (t[j]'c1) = [92, t[j]'c1] by unfold Lx.escB; rw [if_pos (.inl c2)])
    clear c2
    go_wp2_with (at_builtin; refine wpList_append_own _ rfl _ _ 22 rfl w.heap.size 5 i0 (.int .u8 0) 1 1 Tryz.underlying22 hi hz0 hz1 hz2 rfl (by decide) _ _ _ rfl (HS.out.own.alloc _) ⟨wr.heap.size, 0, none⟩ 1 1 [.int .u8 (((92 : UInt8).toNat : Nat) : Int)] rfl rfl ?c1 ?c2 ?c3 ?c4 ?c5 ?_)
    case c1 => exact one_cell _ _
    case c2 => intro u hu; simp at hu; subst hu; rfl
    case c3 => unfold maxLen; omega
    case c4 => omega
    case c5 => have := HS.out.fresh.size; simp; omega
    intro v2 w2 hown2 hgrow2 _
    obtain ⟨g2, cap2, rfl, hn2⟩ := RQ.next 92 HS.out hown2 hgrow2
    have HN2 := hid hn2
    clear hown2 hgrow2 hn2
    go_wp2_with (at_builtin; refine wpList_append_own _ rfl _ _ 22 rfl w.heap.size 5 i0 (.int .u8 0) 1 1 Tryz.underlying22 hi hz0 hz1 hz2 rfl (by decide) _ _ _ rfl (HN2.out.own.alloc _) ⟨w2.heap.size, 0, none⟩ 1 1 [.int .u8 ((t[j]'c1).toNat : Int)] rfl rfl ?c1 ?c2 ?c3 ?c4 ?c5 ?_)
    case c1 => exact one_cell _ _
    case c2 => intro u hu; simp at hu; subst hu; rfl
    case c3 => unfold maxLen; omega
    case c4 => omega
    case c5 => have := HN2.out.fresh.size; simp; omega
    intro v3 w3 hown3 hgrow3 _
    obtain ⟨g3, cap3, rfl, hn3⟩ := RQ.next (t[j]'c1) HN2.out hown3 hgrow3
    have HN3 := hid hn3
    clear hown3 hgrow3 hn3
    go_wp2_with fail
    go_roundw
    case rel => exact ⟨j + 1, acc ++ [92] ++ [t[j]'c1], n + 1 + 1, _, _, rfl, by go_num, c1, by omega, by rw [HTK.out, Lx.esc_snoc, HE.out, HA.out]; simp [Hid], HN3⟩
    case measure => simp [intOf]; omega
   ·have b2 : (((t[j]'c1).toNat : Int) == 34) = false := u8_ne_of _ 34 c2
    by_cases c3 : t[j]'c1 = 92
    ·have b3 : (((t[j]'c1).toNat : Int) == 92) = true := u8_eq_of _ 92 c3
     have HE := hid (show Lx.escB (t[j]'c1) = [92, t[j]'c1] by unfold Lx.escB; rw [if_pos (.inr c3)])
     clear c2 c3
     go_wp2_with (at_builtin; refine wpList_append_own _ rfl _ _ 22 rfl w.heap.size 5 i0 (.int .u8 0) 1 1 Tryz.underlying22 hi hz0 hz1 hz2 rfl (by decide) _ _ _ rfl (HS.out.own.alloc _) ⟨wr.heap.size, 0, none⟩ 1 1 [.int .u8 (((92 : UInt8).toNat : Nat) : Int)] rfl rfl ?c1 ?c2 ?c3 ?c4 ?c5 ?_)
     case c1 => exact one_cell _ _
     case c2 => intro u hu; simp at hu; subst hu; rfl
     case c3 => unfold maxLen; omega
     case c4 => omega
     case c5 => have := HS.out.fresh.size; simp; omega
     intro v2 w2 hown2 hgrow2 _
     obtain ⟨g2, cap2, rfl, hn2⟩ := RQ.next 92 HS.out hown2 hgrow2
     have HN2 := hid hn2
     clear hown2 hgrow2 hn2
     go_wp2_with (at_builtin; refine wpList_append_own _ rfl _ _ 22 rfl w.heap.size 5 i0 (.int .u8 0) 1 1 Tryz.underlying22 hi hz0 hz1 hz2 rfl (by decide) _ _ _ rfl (HN2.out.own.alloc _) ⟨w2.heap.size, 0, none⟩ 1 1 [.int .u8 ((t[j]'c1).toNat : Int)] rfl rfl ?c1 ?c2 ?c3 ?c4 ?c5 ?_)
     case c1 => exact one_cell _ _
     case c2 => intro u hu; simp at hu; subst hu; rfl
     case c3 => unfold maxLen; omega
     case c4 => omega
     case c5 => have := HN2.out.fresh.size; simp; omega
     intro v3 w3 hown3 hgrow3 _
     obtain ⟨g3, cap3, rfl, hn3⟩ := RQ.next (t[j]'c1) HN2.out hown3 hgrow3
     have HN3 := hid hn3
     clear hown3 hgrow3 hn3
     go_wp2_with fail
     go_roundw
     case rel => exact ⟨j + 1, acc ++ [92] ++ [t[j]'c1], n + 1 + 1, _, _, rfl, by go_num, c1, by omega, by rw [HTK.out, Lx.esc_snoc, HE.out, HA.out]; simp [Hid], HN3⟩
     case measure => simp [intOf]; omega
    ·have b3 : (((t[j]'c1).toNat : Int) == 92) = false := u8_ne_of _ 92 c3
     have HE := hid (show Lx.escB (t[j]'c1) = [t[j]'c1] by unfold Lx.escB; rw [if_neg (by rintro (h | h) <;> contradiction)])
     clear c2 c3
     go_wp2_with (at_builtin; refine wpList_append_own _ rfl _ _ 22 rfl w.heap.size 5 i0 (.int .u8 0) 1 1 Tryz.underlying22 hi hz0 hz1 hz2 rfl (by decide) _ _ _ rfl (HS.out.own.alloc _) ⟨wr.heap.size, 0, none⟩ 1 1 [.int .u8 ((t[j]'c1).toNat : Int)] rfl rfl ?c1 ?c2 ?c3 ?c4 ?c5 ?_)
     case c1 => exact one_cell _ _
     case c2 => intro u hu; simp at hu; subst hu; rfl
     case c3 => unfold maxLen; omega
     case c4 => omega
     case c5 => have := HS.out.fresh.size; simp; omega
     intro v2 w2 hown2 hgrow2 _
     obtain ⟨g2, cap2, rfl, hn2⟩ := RQ.next (t[j]'c1) HS.out hown2 hgrow2
     have HN2 := hid hn2
     clear hown2 hgrow2 hn2
     go_wp2_with fail
     go_roundw
     case rel => exact ⟨j + 1, acc ++ [t[j]'c1], n + 1, _, _, rfl, by go_num, c1, by omega, by rw [HTK.out, Lx.esc_snoc, HE.out, HA.out]; simp [Hid], HN2⟩
     case measure => simp [intOf]; omega
  ·have b1 : decide ((j : Int) < (t.size : Int)) = false := by simp; omega
   have htk : t.data.toList.take j = t.data.toList := List.take_of_length_le (by rw [HLL.out]; omega)
   have HTK := hid htk
   clear htk
   go_wp2_with (at_builtin; refine wpList_append_own _ rfl _ _ 22 rfl w.heap.size 5 i0 (.int .u8 0) 1 1 Tryz.underlying22 hi hz0 hz1 hz2 rfl (by decide) _ _ _ rfl (HS.out.own.alloc _) ⟨wr.heap.size, 0, none⟩ 1 1 [.int .u8 (((34 : UInt8).toNat : Nat) : Int)] rfl rfl ?c1 ?c2 ?c3 ?c4 ?c5 ?_)
   case c1 => exact one_cell _ _
   case c2 => intro u hu; simp at hu; subst hu; rfl
   case c3 => unfold maxLen; omega
   case c4 => omega
   case c5 => have := HS.out.fresh.size; simp; omega
   intro v2 w2 hown2 hgrow2 _
   obtain ⟨g2, cap2, rfl, hn2⟩ := RQ.next 34 HS.out hown2 hgrow2
   have HN2 := hid hn2
   clear hown2 hgrow2 hn2
   clear HS
   have hlen : (acc ++ [34]).length = n + 1 := by
    have := HN2.out.own.1
    simpa [Lib.byteCells] using this
   have hconv : (convert 22 9 (.slice (some ⟨g2, 0, none⟩) (n + 1) cap2)).run Tryz.prog w2 = .ok (.string ⟨(acc ++ [34]).toArray⟩) w2 := by
    rw [← hlen]
    refine run_convert_bytes_back w2 22 9 5 ⟨g2, 0, none⟩ cap2 (acc ++ [34]) Tryz.underlying22 Tryz.underlying5 Tryz.underlying9 ?_
    intro j hj
    exact HN2.out.own.cells rfl j _ (by unfold Lib.byteCells; rw [List.getElem?_map, List.getElem?_eq_getElem hj]; rfl)
   have HL := hid hlen
   clear hlen
   go_wp2_with fail
   go_ret
   exact ⟨by rw [HA.out, HTK.out]; rfl, HN2.out.fresh⟩
end Go.Proofs.YtncnoeoicaglaaaGreat
