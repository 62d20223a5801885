/- renamed walked. -/
import Derived.Test.YtloipakdnalpdaaMnG
import Derived.Test.YtloipakdnalpdaaMnR
import Derived.Test.YtloipakdnalpdaaQa16
namespace Go.Proofs.Ytloipakdnalpdaa
open Go.RowKit
open El (E Attrs ren renL)

theorem RepA.low {W0 w : World} {a : Attrs} {v : Value} (h : RepA W0 a v) (hl : Low W0 w) : RepA w a v := by
  obtain ⟨A, cap, h1, h2, h3, h4⟩ := h
  refine ⟨A, cap, h1, h2, h3, h4.imp id ?_⟩
  rintro ⟨g, o, hA, hg, hc⟩
  exact ⟨g, o, hA, Nat.lt_of_lt_of_le hg hl.size, fun i hi => ⟨hl.cell (hc i hi).1, hl.cell (hc i hi).2⟩⟩
theorem RepE.low {W0 w : World} {es : List E} {v : Value} (h : RepE W0 es v) (hl : Low W0 w) : RepE w es v := by
  induction h with
  | nil A cap => exact .nil A cap
  | row g o cap es al sl hg hln ht h0 h1 h2 h3 ha hk ih =>
    exact .row g o cap es al sl (Nat.lt_of_lt_of_le hg hl.size) hln ht (fun i hi => hl.cell (h0 i hi)) (fun i hi => hl.cell (h1 i hi)) (fun i hi => hl.cell (h2 i hi)) (fun i hi => hl.cell (h3 i hi)) (fun i hi => (ha i hi).low hl) ih
theorem RepV.low {W0 w : World} {e : E} {va vk : Value} (h : RepV W0 e va vk) (hl : Low W0 w) : RepV w e va vk := ⟨h.1.low hl, h.2.1.low hl, h.2.2⟩

/-- Four cells of a list, set. -/
def setAt4 (xs : List Value) (o : Nat) (y0 y1 y2 y3 : Value) : List Value := (((xs.set o y0).set (o + 1) y1).set (o + 2) y2).set (o + 3) y3
theorem setAt4_take (xs : List Value) (o : Nat) (y0 y1 y2 y3 : Value) (h : o + 4 ≤ xs.length) : (setAt4 xs o y0 y1 y2 y3).take (o + 4) = xs.take o ++ [y0, y1, y2, y3] := by
  apply List.ext_getElem?
  intro i
  rw [List.getElem?_take]
  by_cases h1 : i < o
  · rw [if_pos (by omega), List.getElem?_append_left (by rw [List.length_take]; omega), List.getElem?_take, if_pos h1]
    unfold setAt4
    rw [List.getElem?_set_ne (by omega), List.getElem?_set_ne (by omega), List.getElem?_set_ne (by omega), List.getElem?_set_ne (by omega)]
  · rw [List.getElem?_append_right (by rw [List.length_take]; omega), List.length_take, Nat.min_eq_left (by omega)]
    unfold setAt4
    by_cases h2 : i < o + 4
    · rw [if_pos h2]
      obtain rfl | rfl | rfl | rfl : i = o ∨ i = o + 1 ∨ i = o + 2 ∨ i = o + 3 := by omega
      · rw [List.getElem?_set_ne (by omega), List.getElem?_set_ne (by omega), List.getElem?_set_ne (by omega), List.getElem?_set_self (by omega), Nat.sub_self]; rfl
      · rw [List.getElem?_set_ne (by omega), List.getElem?_set_ne (by omega), List.getElem?_set_self (by simp; omega), show o + 1 - o = 1 by omega]; rfl
      · rw [List.getElem?_set_ne (by omega), List.getElem?_set_self (by simp; omega), show o + 2 - o = 2 by omega]; rfl
      · rw [List.getElem?_set_self (by simp; omega), show o + 3 - o = 3 by omega]; rfl
    · rw [if_neg h2, List.getElem?_eq_none (by simp; omega)]
theorem own_putAt4 {w : World} {B t g n cap : Nat} {xs : List Value} (h : w.ownsRow B t 4 (.slice (some ⟨g, 0, none⟩) n cap) n xs) (o : Nat) (y0 y1 y2 y3 : Value) :
    (putAt4 w g o y0 y1 y2 y3).ownsRow B t 4 (.slice (some ⟨g, 0, none⟩) n cap) n (setAt4 xs o y0 y1 y2 y3) :=
  (((((h.stored o y0).1.stored (o + 1) y1).1).stored (o + 2) y2).1.stored (o + 3) y3).1
theorem own_blk {w : World} {B t g n cap : Nat} {xs : List Value} (h : w.ownsRow B t 4 (.slice (some ⟨g, 0, none⟩) n cap) n xs) : ∃ cur, Blk w g t cur := by
  obtain ⟨_, h2⟩ := h
  rcases h2 with ⟨h2, _⟩ | ⟨g', cap', cur, h2, _, h3, _⟩
  · cases h2
  · cases h2; exact ⟨cur, h3⟩

def RenC (W0 : World) (k : Nat) (nm : List UInt8) (e : E) : Prop := ∀ (i : Nat) (va vk : Value) (w : World), Low W0 w → RepV W0 e va vk → i + El.count e ≤ 1000000 →
  Calls Try.prog 12 #[ev e va vk, .int .i64 (i : Int), .int .i64 (k : Int), .string ⟨nm.toArray⟩] w fun x w' => ∃ ua uk, x = .returned (.tuple #[ev (ren k nm i e).1 ua uk, .int .i64 ((ren k nm i e).2 : Nat)]) ∧ Fresh w w' ∧ Stab (fun k => W0.heap.size ≤ k ∧ k < w.heap.size) w' fun W => RepV W (ren k nm i e).1 ua uk
set_option maxRecDepth 100000 in
set_option maxHeartbeats 3000000 in
theorem ren_step (W0 : World) (k : Nat) (nm : List UInt8) (hnm : nm.length ≤ maxLen) (e : E) (ih : ∀ x ∈ e.kids, RenC W0 k nm x) : RenC W0 k nm e := by
  intro i va vk w hlow hr hcnt
  have HRE := hid (El.ren_eq k nm i e)
  rw [HRE.out]
  obtain ⟨A, ca, hva⟩ := hr.1.slice
  obtain ⟨B, cb, hvk⟩ := hr.2.1.slice
  have HR := hid hr
  have HIH := hid ih
  have HLOW := hid hlow
  obtain ⟨n, ats, ks, t⟩ := e
  have hl2 : ks.length ≤ maxLen := hr.2.1.len
  have hcl := El.countL_len ks
  rw [El.count] at hcnt
  unfold maxLen at hl2
  replace hva : va = .slice A ats.length ca := hva
  replace hvk : vk = .slice B ks.length cb := hvk
  subst hva
  subst hvk
  unfold ev
  simp only [E.name, E.attrs, E.kids, E.text] at HIH ⊢
  clear hr ih hlow HRE
  have HK := hid (show RepE W0 ks _ from HR.out.2.1)
  have HS0 := hid HLOW.out.size
  have hik : (i : Int) + 1 ≤ 1000001 := by omega
  obtain ⟨i0, hi, hz0, hz1, hz2⟩ := info_parts infoElem
  by_cases c0 : i = k
  focus
    have d0 : ((i : Int) == (k : Int)) = true := by rw [c0]; simp
    obtain ⟨m, hm0⟩ : ∃ m, m = nm := ⟨_, rfl⟩
    have HM := hid (show (if i = k then nm else n) = m by rw [if_pos c0, hm0])
    have HML := hid (show m.length ≤ maxLen by rw [hm0]; exact hnm)
    have HMM := hid hm0
    rw [HM.out]
    clear c0 hm0
    go_enter Try.func12, Try.ntmps12
    go_wp2_with (at_make; go_loud (refine wpList_make_full _ rfl (.tmp 22) (.tmp 22) 28 rfl (w.heap.size + 2) 30 i0 _ 4 Try.underlying28 hi hz0 hz1 .i64 .i64 _ _ ks.length (by simp [Act.eval]) (by simp [Act.eval]) rfl rfl (by rw [hz2]; omega) (by unfold maxLen; omega) (by simp) ?_); intro w3 ho3 hg3; refine Stay.mk ?_)
    have hm := HMM.out
    have HF2 := hid (Touch.grown (Touch.refl (fun _ => False) _) hg3 (fun g h => by cases h))
    have HB0 := hid (show Blk w3 w.heap.size 30 #[.string ⟨m.toArray⟩, .slice A ats.length ca, .slice B ks.length cb, .string ⟨t.toArray⟩] from HF2.out.blk (by rw [hm]; exact (Blk.new w 30 _).alloc _) fun h => h)
    have HB1 := hid (HF2.out.blk (Blk.new2 w _ 30 _) fun h => h)
    have HF3 := hid (show Fresh w w3 from (((Touch.refl _ w).alloc _).alloc _).trans HF2.out)
    have HO3 := hid (show w3.ownsRow (w.heap.size + 2) 30 4 (.slice (some ⟨w.heap.size + 1 + 1, 0, none⟩) ks.length ks.length) ks.length (madeCells (Value.agg #[.string ⟨#[]⟩, .slice none 0 0, .slice none 0 0, .string ⟨#[]⟩]).cells (ks.length * 4)).toList from by simpa using ho3)
    clear ho3 hg3 HF2
    obtain ⟨q0, q1, q2, q3, _⟩ := Blk.four HB0.out
    refine Stay.go ?_
    go_wp2_with fail
  rotate_left
  focus
    have d0 : ((i : Int) == (k : Int)) = false := beq_eq_false_iff_ne.2 (by omega)
    obtain ⟨m, hm0⟩ : ∃ m, m = n := ⟨_, rfl⟩
    have HM := hid (show (if i = k then nm else n) = m by rw [if_neg c0, hm0])
    have HML := hid (show m.length ≤ maxLen by rw [hm0]; exact HR.out.2.2.1)
    have HMM := hid hm0
    rw [HM.out]
    clear c0 hm0
    go_enter Try.func12, Try.ntmps12
    go_wp2_with (at_make; go_loud (refine wpList_make_full _ rfl (.tmp 22) (.tmp 22) 28 rfl (w.heap.size + 2) 30 i0 _ 4 Try.underlying28 hi hz0 hz1 .i64 .i64 _ _ ks.length (by simp [Act.eval]) (by simp [Act.eval]) rfl rfl (by rw [hz2]; omega) (by unfold maxLen; omega) (by simp) ?_); intro w3 ho3 hg3; refine Stay.mk ?_)
    have hm := HMM.out
    have HF2 := hid (Touch.grown (Touch.refl (fun _ => False) _) hg3 (fun g h => by cases h))
    have HB0 := hid (show Blk w3 w.heap.size 30 #[.string ⟨m.toArray⟩, .slice A ats.length ca, .slice B ks.length cb, .string ⟨t.toArray⟩] from HF2.out.blk (by rw [hm]; exact (Blk.new w 30 _).alloc _) fun h => h)
    have HB1 := hid (HF2.out.blk (Blk.new2 w _ 30 _) fun h => h)
    have HF3 := hid (show Fresh w w3 from (((Touch.refl _ w).alloc _).alloc _).trans HF2.out)
    have HO3 := hid (show w3.ownsRow (w.heap.size + 2) 30 4 (.slice (some ⟨w.heap.size + 1 + 1, 0, none⟩) ks.length ks.length) ks.length (madeCells (Value.agg #[.string ⟨#[]⟩, .slice none 0 0, .slice none 0 0, .string ⟨#[]⟩]).cells (ks.length * 4)).toList from by simpa using ho3)
    clear ho3 hg3 HF2
    obtain ⟨q0, q1, q2, q3, _⟩ := Blk.four HB0.out
    refine Stay.go ?_
    go_wp2_with fail
  all_goals
    clear d0 q0 q1 q2 q3 hm HMM
    have HST0 := hid (show Stab (fun k => W0.heap.size ≤ k ∧ k ≤ w.heap.size + 1 + 1) w3 (fun W => ElsAt W ((renL k nm (i + 1) (ks.take 0)).1) ((madeCells (Value.agg #[.string ⟨#[]⟩, .slice none 0 0, .slice none 0 0, .string ⟨#[]⟩]).cells (ks.length * 4)).toList.take (0 * 4))) from fun W _ => by rw [List.take_zero, El.renL, Nat.zero_mul, List.take_zero]; rfl)
    go_loopw [12, 10] (fun x y wr => ∃ (j z : Nat) (xs : List Value), x = .int .i64 j ∧ y = .int .i64 (z : Int) ∧ j ≤ ks.length ∧ Hid (z = i + 1 + El.countL (ks.take j)) ∧ Hid (Blk wr w.heap.size 30 #[.string ⟨m.toArray⟩, .slice A ats.length ca, .slice B ks.length cb, .string ⟨t.toArray⟩]) ∧ Hid (Blk wr (w.heap.size + 1) 30 #[.string ⟨#[]⟩, .slice none 0 0, .slice none 0 0, .string ⟨#[]⟩]) ∧ Hid (Fresh w wr) ∧ Hid (wr.ownsRow (w.heap.size + 2) 30 4 (.slice (some ⟨w.heap.size + 1 + 1, 0, none⟩) ks.length ks.length) ks.length xs) ∧ Hid (Stab (fun k => W0.heap.size ≤ k ∧ k ≤ w.heap.size + 1 + 1) wr (fun W => ElsAt W ((renL k nm (i + 1) (ks.take j)).1) (xs.take (j * 4))))) (fun x _ _ => ks.length - (intOf x).toNat)
    case atStart => exact ⟨0, i + 1, _, rfl, by go_num, Nat.zero_le _, by show i + 1 = i + 1 + El.countL []; rw [El.countL], HB0, HB1, HF3, HO3, HST0⟩
    case round =>
      clear HB0 HB1 HF3 HO3 HST0
      obtain ⟨j, z, xs, rfl, rfl, hj, HZ, HB0, HB1, HF3, HO3, HST⟩ := hrel
      rename_i wr _
      obtain ⟨q0, q1, q2, q3, _⟩ := Blk.four HB0.out
      by_cases c1 : j < ks.length
      · have d1 : decide ((j : Int) < (ks.length : Int)) = true := dT (by omega)
        have d1' : (j : Int) < (ks.length : Int) := by omega
        have d1n : decide (j < ks.length) = true := dT c1
        obtain ⟨g, o, va, vk, rfl, hg, m0, m1, m2, m3, hrx⟩ := HK.out.get j c1
        have hlw := HLOW.out.fresh HF3.out
        have e0 := hlw.cell m0
        have e1 := hlw.cell m1
        have e2 := hlw.cell m2
        have e3 := hlw.cell m3
        obtain ⟨Aa, aa, hva⟩ := hrx.1.slice
        obtain ⟨Ak, ak, hvk⟩ := hrx.2.1.slice
        have HLW := hid hlw
        have HS := hid (El.renL_snoc k nm ks (i + 1) j c1)
        have HCT := hid (El.countL_take ks j c1)
        have hle := El.countL_le ks (j + 1)
        rw [HCT.out] at hle
        have HC := hid (HIH.out ks[j] (List.getElem_mem c1) z va vk wr hlw hrx (by have := HZ.out; omega))
        rw [← HZ.out] at HS
        have HSN := hid (El.ren_snd k nm ks[j] z)
        clear m0 m1 m2 m3 hrx hlw
        generalize ks[j] = x at *
        obtain ⟨xn, xa, xk, xt⟩ := x
        unfold ev at HC
        simp only [E.name, E.attrs, E.kids, E.text] at hva hvk e0 e1 e2 e3 HC
        subst hva hvk
        have hzb : (z : Int) ≤ 1000000 := by have := HZ.out; omega
        go_wp2_with fail
        refine HC.out.mono ?_
        rintro _ w5 ⟨ua, uk, rfl, hf5, hst5⟩
        obtain ⟨Ba, da, hua⟩ := hst5.now.1.slice
        obtain ⟨Bk, dk, huk⟩ := hst5.now.2.1.slice
        have HST5 := hid hst5
        have HF5 := hid hf5
        have HB05 := hid (hf5.blk HB0.out fun h => h)
        have HB15 := hid (hf5.blk HB1.out fun h => h)
        have HO5 := hid (ownsRow_touch HO3.out hf5 fun _ _ h => h)
        have hz5 := HF3.out.size
        clear hst5 hf5 e0 e1 e2 e3 q0 q1 q2 q3
        rw [HSN.out]
        rcases hren : (ren k nm z (E.mk xn xa xk xt)).1 with ⟨yn, ya, yk, yt⟩
        rw [hren] at hua huk HST5 HS
        clear hren
        simp only [E.attrs, E.kids] at hua huk ⊢
        subst hua huk
        have hxl : xs.length = ks.length * 4 := HO5.out.1
        have hcells := HO5.out.cells (g := w.heap.size + 1 + 1) rfl
        obtain ⟨cur, hcur⟩ := own_blk HO5.out
        obtain ⟨p0, hp0⟩ : ∃ u, xs[j * 4]? = some u := ⟨_, List.getElem?_eq_getElem (show j * 4 < xs.length by omega)⟩
        obtain ⟨p1, hp1⟩ : ∃ u, xs[j * 4 + 1]? = some u := ⟨_, List.getElem?_eq_getElem (show j * 4 + 1 < xs.length by omega)⟩
        obtain ⟨p2, hp2⟩ : ∃ u, xs[j * 4 + 2]? = some u := ⟨_, List.getElem?_eq_getElem (show j * 4 + 2 < xs.length by omega)⟩
        obtain ⟨p3, hp3⟩ : ∃ u, xs[j * 4 + 3]? = some u := ⟨_, List.getElem?_eq_getElem (show j * 4 + 3 < xs.length by omega)⟩
        have c0 : w5.cell? ⟨w.heap.size + 1 + 1, j * 4, none⟩ = some p0 := by have := hcells _ _ hp0; rw [Addr.add_mid, Nat.zero_add] at this; exact this
        have c1' : w5.cell? ⟨w.heap.size + 1 + 1, j * 4 + 1, none⟩ = some p1 := by have := hcells _ _ hp1; rw [Addr.add_mid, Nat.zero_add] at this; exact this
        have c2 : w5.cell? ⟨w.heap.size + 1 + 1, j * 4 + 2, none⟩ = some p2 := by have := hcells _ _ hp2; rw [Addr.add_mid, Nat.zero_add] at this; exact this
        have c3 : w5.cell? ⟨w.heap.size + 1 + 1, j * 4 + 3, none⟩ = some p3 := by have := hcells _ _ hp3; rw [Addr.add_mid, Nat.zero_add] at this; exact this
        have z0 : w5.frozen? ⟨w.heap.size + 1 + 1, j * 4, none⟩ = false := hcur.frozen _
        have z1 : w5.frozen? ⟨w.heap.size + 1 + 1, j * 4 + 1, none⟩ = false := hcur.frozen _
        have z2 : w5.frozen? ⟨w.heap.size + 1 + 1, j * 4 + 2, none⟩ = false := hcur.frozen _
        have z3 : w5.frozen? ⟨w.heap.size + 1 + 1, j * 4 + 3, none⟩ = false := hcur.frozen _
        have hcl2 := hcur.lt
        clear hcells hcur hp0 hp1 hp2 hp3
        go_wp2_with fail
        have hpa := touchAt4 w5 (w.heap.size + 1 + 1) (j * 4) (.string ⟨yn.toArray⟩) (.slice Ba ya.length da) (.slice Bk yk.length dk) (.string ⟨yt.toArray⟩)
        have hoa := own_putAt4 HO5.out (j * 4) (.string ⟨yn.toArray⟩) (.slice Ba ya.length da) (.slice Bk yk.length dk) (.string ⟨yt.toArray⟩)
        have htk := setAt4_take xs (j * 4) (.string ⟨yn.toArray⟩) (.slice Ba ya.length da) (.slice Bk yk.length dk) (.string ⟨yt.toArray⟩) (by omega)
        unfold putAt4 at hpa hoa
        go_roundw
        case rel =>
          refine ⟨j + 1, z + El.count (E.mk xn xa xk xt), setAt4 xs (j * 4) (.string ⟨yn.toArray⟩) (.slice Ba ya.length da) (.slice Bk yk.length dk) (.string ⟨yt.toArray⟩), by go_num, rfl, c1, by show _ = _; rw [HZ.out, HCT.out]; omega, hpa.blk HB05.out (by omega), hpa.blk HB15.out (by omega), (HF3.out.trans HF5.out).trans' hpa fun a ha => .inr (by have ha : a = w.heap.size + 1 + 1 := ha; omega), hoa, ?_⟩
          show Stab _ _ fun W => ElsAt W ((renL k nm (i + 1) (ks.take (j + 1))).1) _
          rw [show (j + 1) * 4 = j * 4 + 4 by omega, htk, HS.out]
          have h1 := (HST.out.fresh HF5.out).step (S2 := fun k => W0.heap.size ≤ k ∧ k ≤ w.heap.size + 1 + 1) hpa (fun a _ ha => by have ha : a = w.heap.size + 1 + 1 := ha; have := HS0.out; omega) (fun _ _ h => h)
          have hhl := (HO3.out.lt (w.heap.size + 1 + 1) rfl).2
          have h2 := HST5.out.step (S2 := fun k => W0.heap.size ≤ k ∧ k ≤ w.heap.size + 1 + 1) hpa (fun a _ ha => by have ha : a = w.heap.size + 1 + 1 := ha; have := HS0.out; omega) (fun a _ ha => by omega)
          exact (h1.and h2).imp fun W ⟨h3, h4⟩ => h3.append (ElsAt.one h4)
        case measure => simp [intOf]; omega
      · have d1 : decide ((j : Int) < (ks.length : Int)) = false := dF (by omega)
        have d1n : decide (j < ks.length) = false := dF c1
        obtain rfl : j = ks.length := by omega
        clear HIH
        obtain ⟨_, _, _, _, z0, z1, z2, z3, hg0⟩ := Blk.four HB0.out
        obtain ⟨p0, p1, p2, p3, y0, y1, y2, y3, hg1⟩ := Blk.four HB1.out
        have HCN := hid hcnt
        have HLN := hid hl2
        clear hik hcl hcnt hl2
        go_wp2_with fail
        have hB1 := HB1.out.far (p := ⟨w.heap.size, 2, none⟩) (show w.heap.size + 1 ≠ w.heap.size by omega) (.slice (some ⟨w.heap.size + 1 + 1, 0, none⟩) ks.length ks.length)
        obtain ⟨r0, r1, r2, r3, _, _, _, _, _⟩ := Blk.four (hB1.self4 (.string ⟨m.toArray⟩) (.slice A ats.length ca) (.slice (some ⟨w.heap.size + 1 + 1, 0, none⟩) ks.length ks.length) (.string ⟨t.toArray⟩))
        simp only [put4] at r0 r1 r2 r3
        have hT9 : Touch (fun k => k = w.heap.size ∨ k = w.heap.size + 1) wr (put4 (wr.setCell ⟨w.heap.size, 2, none⟩ (.slice (some ⟨w.heap.size + 1 + 1, 0, none⟩) ks.length ks.length)) (w.heap.size + 1) (.string ⟨m.toArray⟩) (.slice A ats.length ca) (.slice (some ⟨w.heap.size + 1 + 1, 0, none⟩) ks.length ks.length) (.string ⟨t.toArray⟩)) :=
          ((Touch.refl _ wr).setCell (p := ⟨w.heap.size, 2, none⟩) (.inl (.inl rfl)) _).put4 (.inl (.inr rfl)) _ _ _ _
        have hz9 : z = (renL k nm (i + 1) ks).2 := by rw [El.renL_snd', HZ.out, List.take_length]
        refine bodyPost_ret (v := .tuple #[.agg #[.string ⟨m.toArray⟩, .slice A ats.length ca, .slice (some ⟨w.heap.size + 1 + 1, 0, none⟩) ks.length ks.length, .string ⟨t.toArray⟩], .int .i64 (z : Int)]) (by simp [results, Try.results12, go_sem, r0, r1, r2, r3]) rfl ?_
        rw [← hz9]
        have hF9 := HF3.out.trans' hT9 fun a ha => .inr (by have ha : a = w.heap.size ∨ a = w.heap.size + 1 := ha; omega)
        refine ⟨_, _, rfl, hF9, fun W hW => ?_⟩
        have hlow9 : Low W0 W := (HLOW.out.fresh hF9).trans' (hW.mono (S' := fun k => W0.heap.size ≤ k) fun a ha => ha.1) fun a ha => .inl ha
        have hj := hT9.join hW (S := fun k => W0.heap.size ≤ k ∧ k ≤ w.heap.size + 1) (fun a _ ha => by have ha : a = w.heap.size ∨ a = w.heap.size + 1 := ha; have := HS0.out; omega) (fun a _ ha => by omega)
        have hel := HST.out W (hj.mono fun a ha => by omega)
        have hxl : xs.length = ks.length * 4 := HO3.out.1
        rw [List.take_length, List.take_of_length_le (by omega)] at hel
        have hown := ownsRow_touch HO3.out hj (fun a ha hs => by have h1 := (HO3.out.lt a ha).1; omega)
        have hlen : (renL k nm (i + 1) ks).1.length = ks.length := El.renL_len _ _ _ _
        refine ⟨HR.out.1.low hlow9, ?_, HML.out, HR.out.2.2.2⟩
        rw [← hlen] at hown
        have := hel.own hown
        rw [hlen] at this
        exact this
theorem ren_any (W0 : World) (k : Nat) (nm : List UInt8) (hnm : nm.length ≤ maxLen) (e : E) : RenC W0 k nm e := El.E.ind (p := RenC W0 k nm) (ren_step W0 k nm hnm) e
end Go.Proofs.Ytloipakdnalpdaa
