/- xml.Count walked. -/
import Derived.Test.YtnkmccgpmmnfeaaDoorXcXsA
namespace Go.Proofs.YtnkmccgpmmnfeaaDoor
open Go.RowKit
open El (E Attrs)

theorem snoc_of {α : Type} {L : List α} {m : Nat} (h : L.length = m + 1) : ∃ M x, L = M ++ [x] ∧ M.length = m := by
  rcases List.eq_nil_or_concat L with rfl | ⟨M, x, rfl⟩
  · cases h
  · refine ⟨M, x, List.concat_eq_append, ?_⟩
    rw [List.concat_eq_append, List.length_append] at h
    simpa using h
theorem infoPtrE : (Tryd.prog.info? 48).map (fun i => (i.zero, i.size, i.bytes)) = some (some (.pointer none), 1, 8) := by kernel_rfl
/-- An element laid in a new block. -/
theorem elAt_box {w : World} {e : E} {va vk : Value} (h : RepV w e va vk) : ElAt (w.alloc (.cells #[.string ⟨e.name.toArray⟩, va, vk, .string ⟨e.text.toArray⟩] 26)) w.heap.size 0 e va vk := by
  have hb := Blk.new w 26 #[.string ⟨e.name.toArray⟩, va, vk, .string ⟨e.text.toArray⟩]
  exact ⟨hb.lt, hb.cell 0, hb.cell 1, hb.cell 2, hb.cell 3, h.fresh ((Touch.refl _ _).alloc _)⟩
set_option maxRecDepth 100000 in
set_option maxHeartbeats 4000000 in
theorem xcount_any (e : E) (va vk : Value) (w : World) (hcnt : El.count e ≤ 1000000) (hr : RepV w e va vk) : Calls Tryd.prog 13 #[ev e va vk] w fun x w' => x = .returned (.int .i64 (El.count e : Int)) ∧ Fresh w w' := by
  have HE := hid (elAt_box hr)
  have hsz : (w.alloc (.cells #[.string ⟨e.name.toArray⟩, va, vk, .string ⟨e.text.toArray⟩] 26)).heap.size = w.heap.size + 1 := by simp
  have HS := hid (show Stk (w.alloc (.cells #[.string ⟨e.name.toArray⟩, va, vk, .string ⟨e.text.toArray⟩] 26)) 48 1 1 ((w.alloc (.cells #[.string ⟨e.name.toArray⟩, va, vk, .string ⟨e.text.toArray⟩] 26)).alloc (.cells #[.pointer (some ⟨w.heap.size, 0, none⟩)] 48)) [e] (.slice (some ⟨w.heap.size + 1, 0, none⟩) 1 1) by
    have := Stk.lit (t := 48) (m := 1) (N := [e]) (ns := [.pointer (some ⟨w.heap.size, 0, none⟩)]) (Touch.refl _ (w.alloc (.cells #[.string ⟨e.name.toArray⟩, va, vk, .string ⟨e.text.toArray⟩] 26))) ⟨_, [], rfl, ⟨w.heap.size, 0, va, vk, rfl, HE.out⟩, rfl⟩ rfl
    rw [hsz] at this
    exact this)
  have HF := hid (show Fresh w ((w.alloc (.cells #[.string ⟨e.name.toArray⟩, va, vk, .string ⟨e.text.toArray⟩] 26)).alloc (.cells #[.pointer (some ⟨w.heap.size, 0, none⟩)] 48)) from ((Touch.refl _ w).alloc _).alloc _)
  obtain ⟨A0, c0, hva⟩ := hr.1.slice
  obtain ⟨B0, d0, hvk⟩ := hr.2.1.slice
  have HCN := hid hcnt
  have HW00 := hid (show w.heap.size ≤ (w.alloc (.cells #[.string ⟨e.name.toArray⟩, va, vk, .string ⟨e.text.toArray⟩] 26)).heap.size by rw [hsz]; omega)
  clear hr hsz hcnt
  obtain ⟨C, hC⟩ : ∃ C, C = El.count e := ⟨_, rfl⟩
  have HC := hid hC
  rw [← hC] at HCN ⊢
  clear hC
  subst hva hvk
  unfold ev
  go_enter Tryd.func13, Tryd.ntmps13
  go_wp2_with fail
  generalize ((w.alloc (.cells #[.string ⟨e.name.toArray⟩, .slice A0 e.attrs.length c0, .slice B0 e.kids.length d0, .string ⟨e.text.toArray⟩] 26)).alloc (.cells #[.pointer (some ⟨w.heap.size, 0, none⟩)] 48)) = W1 at HS HF ⊢
  generalize (w.alloc (.cells #[.string ⟨e.name.toArray⟩, .slice A0 e.attrs.length c0, .slice B0 e.kids.length d0, .string ⟨e.text.toArray⟩] 26)) = W0 at HE HS HW00
  have HW0 := HW00
  go_loopw [3, 4] (fun a b wr => ∃ (L : List E) (A : Option Addr) (n cp k : Nat), a = .int .i64 k ∧ b = .slice A n cp ∧ Hid (k + El.countL L = C) ∧ Hid (Stk W0 48 1 n wr L (.slice A n cp)) ∧ Hid (Fresh w wr)) (fun a _ _ => C - (intOf a).toNat)
  case atStart => exact ⟨[e], some ⟨w.heap.size + 1, 0, none⟩, 1, 1, 0, rfl, rfl, hid (by rw [HC.out]; simp [El.countL]), HS, HF⟩
  case round =>
    clear HS HF HE
    obtain ⟨L, A, n, cp, k, rfl, rfl, HK, HS, HF⟩ := hrel
    have HL := hid (show L.length = n by have := HS.out.2.1; omega)
    cases n with
    | zero =>
      have d1 : decide ((0 : Int) < (0 : Int)) = false := by decide
      have HKC := hid (show k = C by
        have h := HK.out
        rw [List.length_eq_zero_iff.1 HL.out] at h
        simpa [El.countL] using h)
      go_wp2_with fail
      go_ret
      exact ⟨by rw [HKC.out]; rfl, HF.out⟩
    | succ m =>
      obtain ⟨M, x, rfl, hM⟩ := snoc_of HL.out
      obtain ⟨hcp, s, g, o, xa, xk, rfl, hc, hs, hel, hst⟩ := HS.out.top
      have HEL := hid hel
      have HST := hid hst
      have HKX := hid (show k + 1 + El.countL (M ++ x.kids) = C by
        have h := HK.out
        rw [El.countL_app] at h ⊢
        simp only [El.countL] at h
        rw [El.count_kids] at h
        omega)
      have hkb : k + 1 ≤ 1000000 := by have := HKX.out; have := HCN.out; omega
      have hmb : m ≤ 1000000 := by
        have h1 := El.countL_len (M ++ [x])
        rw [List.length_append, hM] at h1
        have := HK.out
        have := HCN.out
        omega
      obtain ⟨Bk, cb, hxk⟩ := hel.2.2.2.2.2.2.1.slice
      subst hxk
      obtain ⟨hgl, i0, i1, e2, i3, i4⟩ := hel.fresh HS.out.fr
      clear i0 i1 i3 i4
      have d1 : decide ((0 : Int) < ((m + 1 : Nat) : Int)) = true := dT (by omega)
      have d1' : decide ((0 : Int) < (m : Int) + 1) = true := dT (by omega)
      have d1n : decide (0 < m + 1) = true := dT (by omega)
      have w1 : IntKind.i64.wrap (m : Int) = (m : Int) := IntWalk.i64_in _ (by omega)
      have w2 : (m : Int) + 1 - 1 = (m : Int) := by omega
      have w3 : (m : Int) < (m : Int) + 1 := by omega
      have w4 : IntKind.i64.wrap ((k : Int) + 1) = (k : Int) + 1 := IntWalk.i64_in _ (by omega)
      have w5 : (m : Int) ≤ (cp : Int) := by omega
      have w6 : m ≤ cp := by omega
      have HMM := hid hM
      clear hel hst HK HL hM hcp
      go_wp2_with fail
      go_loopw [4, 29] (fun b i wr0 => ∃ (wr' : World) (A' : Option Addr) (n' cp' j : Nat), wr' = wr0 ∧ b = .slice A' n' cp' ∧ i = .int .i64 j ∧ j ≤ x.kids.length ∧ Hid (Stk W0 48 1 n' wr' (M ++ x.kids.take j) (.slice A' n' cp')) ∧ Hid (Fresh w wr')) (fun _ i _ => x.kids.length - (intOf i).toNat)
      case atStart => exact ⟨_, some ⟨s, 0, none⟩, m, cp, 0, rfl, rfl, rfl, Nat.zero_le _, hid (by rw [List.take_zero, List.append_nil]; exact HST.out), HF⟩
      case round =>
        clear e2 hc hs hgl d1 d1' d1n w1 w2 w3 w5 w6 HF HS HST
        obtain ⟨wr', A', n', cp', j, rfl, rfl, rfl, hj, HS, HF⟩ := hrel
        obtain ⟨hgl, i0, i1, e2, i3, i4⟩ := HEL.out.fresh HS.out.fr
        clear i0 i1 i3 i4
        have hnl : n' = m + j ∧ m + j ≤ 1000000 := by
          have h1 := HS.out.2.1
          have h2 := El.countL_len (M ++ x.kids)
          have h3 := HKX.out
          have h4 := HCN.out
          rw [List.length_append, List.length_take] at h1
          rw [List.length_append] at h2
          have h5 := HMM.out
          omega
        by_cases c1 : j < x.kids.length
        · have d1 : decide ((j : Int) < (x.kids.length : Int)) = true := dT (by omega)
          have d1n : decide (j < x.kids.length) = true := dT c1
          have d1' : (j : Int) < (x.kids.length : Int) := by omega
          have HLEN := hid hnl.2
          have hjb : j ≤ 1000000 := by omega
          have HNE := hid hnl.1
          obtain ⟨g', o', rfl, hp⟩ := PtrAt.kid HEL.out j c1
          have HPT := hid hp
          have HTK := hid (show M ++ x.kids.take j ++ [x.kids[j]] = M ++ x.kids.take (j + 1) by rw [List.take_add_one, List.getElem?_eq_getElem c1, List.append_assoc]; rfl)
          clear hp hnl
          generalize x.kids[j] = y at *
          have HBV := hid (Blk.new wr' 48 #[.pointer (some ⟨g', o' + j * 4, none⟩)])
          have HSA := hid (HS.out.fresh ((Touch.refl _ wr').alloc (.cells #[.pointer (some ⟨g', o' + j * 4, none⟩)] 48)))
          have HFA := hid (show Fresh w (wr'.alloc (.cells #[.pointer (some ⟨g', o' + j * 4, none⟩)] 48)) from HF.out.alloc _)
          go_wp2_with (at_builtin; go_loud (refine wpList_append_stk rfl (.tmp 32) (.tmp 39) rfl Tryd.underlying54 infoPtrE rfl (by decide) (by decide) HSA.out (by simp [Act.eval]) (N := [y]) (ns := [.pointer (some ⟨g', o' + j * 4, none⟩)]) ⟨_, [], rfl, HPT.out, rfl⟩ rfl HBV.out (by simp [Act.eval]) (by have := HLEN.out; have := HNE.out; omega) ?_); intro A8 c8 w8 hg8 ht8; refine Stay.mk ?_)
          have HS8 := hid (show Stk W0 48 1 (n' + 1) w8 (M ++ x.kids.take (j + 1)) (.slice A8 (n' + 1) c8) by rw [← HTK.out]; exact hg8)
          have HF8 := hid (show Fresh w w8 from HFA.out.trans' ht8 fun k hk => .inr (by have h1 := (HSA.out.lt k hk).1; have h2 := HW0.out; omega))
          clear hg8 ht8
          refine Stay.go ?_
          go_wp2_with fail
          go_roundw
          case rel => exact ⟨_, A8, n' + 1, c8, j + 1, rfl, rfl, by go_num, c1, HS8, HF8⟩
          case measure => simp [intOf]; omega
        · have d1 : decide ((j : Int) < (x.kids.length : Int)) = false := dF (by omega)
          have d1n : decide (j < x.kids.length) = false := dF c1
          obtain rfl : j = x.kids.length := by omega
          go_wp2_with fail
          go_roundw
          case rel => exact ⟨M ++ x.kids, A', n', cp', k + 1, by go_num, rfl, HKX, hid (by have := HS.out; rw [List.take_length] at this; exact this), HF⟩
          case measure => simp [intOf]; have := HKX.out; have := hkb; omega
end Go.Proofs.YtnkmccgpmmnfeaaDoor
