/- The reference's Few, Depth, proper and Valid of elements walked (layer 23). -/
import Derived.Test.YtnkmccgpmmnfeaaDoorXcMoL
import Derived.Test.YtnkmccgpmmnfeaaDoorXcMnG
import Derived.Test.YtnkmccgpmmnfeaaDoorXa7
namespace Go.Proofs.YtnkmccgpmmnfeaaDoor
open Go.RowKit
open El (E Attrs)

namespace El
def smallOwn (n : Bytes) (a : Attrs) (t : Bytes) : Bool := decide (a.length ≤ 20) && decide (t.length ≤ 400) && decide (n.length ≤ 400) && a.all (fun x => decide (x.1.length ≤ 400) && decide (x.2.length ≤ 400))
mutual
/-- No text of an element is long, and no element has many attributes. -/
def small : E → Bool
  | .mk n a ks t => smallOwn n a t && smallL ks
def smallL : List E → Bool
  | [] => true
  | x :: xs => small x && smallL xs
end
theorem smallL_all (l : List E) : smallL l = l.all small := by
  induction l with
  | nil => rw [smallL]; rfl
  | cons x l ih => rw [smallL, ih, List.all_cons]
theorem smallL_snoc (l : List E) (j : Nat) (h : j < l.length) : smallL (l.take (j + 1)) = (smallL (l.take j) && small l[j]) := by
  rw [smallL_all, smallL_all, List.take_add_one, List.getElem?_eq_getElem h, List.all_append]
  simp
end El
def RLeftC (e : E) : Prop := ∀ (m : Int) (va vk : Value) (w : World), 0 ≤ m → m ≤ 100000 → RepV w e va vk → Calls Tryd.prog 18 #[ev e va vk, .int .i64 m] w fun x w' => ∃ r : Int, x = .returned (.int .i64 r) ∧ Fresh w w' ∧ -1 ≤ r ∧ r < m ∧ (0 ≤ r → r = m - (El.count e : Nat) ∧ El.small e = true)
set_option maxRecDepth 100000 in
set_option maxHeartbeats 2000000 in
theorem rleft_step (e : E) (ih : ∀ x ∈ e.kids, RLeftC x) : RLeftC e := by
  intro m va vk w hm0 hm hr
  obtain ⟨A, ca, hva⟩ := hr.1.slice
  obtain ⟨B, cb, hvk⟩ := hr.2.1.slice
  have HR := hid hr
  have HIH := hid ih
  obtain ⟨n, ats, ks, t⟩ := e
  have hl1 : ats.length ≤ maxLen := by obtain ⟨_, _, _, h, _⟩ := hr.1; exact h.1
  have hl2 : ks.length ≤ maxLen := hr.2.1.len
  have hnl : n.length ≤ maxLen := hr.2.2.1
  have htl : t.length ≤ maxLen := hr.2.2.2
  unfold maxLen at hl1 hl2 hnl htl
  have HCE := hid (show (El.count (.mk n ats ks t) : Nat) = 1 + El.countL ks from by rw [El.count])
  rw [HCE.out]
  replace hva : va = .slice A ats.length ca := hva
  replace hvk : vk = .slice B ks.length cb := hvk
  subst hva
  subst hvk
  unfold ev
  simp only [E.name, E.kids, E.text] at HIH ⊢
  clear hr ih
  have HK := hid (show RepE w ks _ from HR.out.2.1)
  have HA := hid (show RepA w ats _ from HR.out.1)
  have hw : IntKind.i64.wrap (m - 1) = m - 1 := IntWalk.i64_in _ (by omega)
  have HB0 := hid (Blk.new w 26 #[.string ⟨n.toArray⟩, .slice A ats.length ca, .slice B ks.length cb, .string ⟨t.toArray⟩])
  have HF0 := hid ((Touch.refl (fun _ => False) w).alloc (.cells #[.string ⟨n.toArray⟩, .slice A ats.length ca, .slice B ks.length cb, .string ⟨t.toArray⟩] 26))
  have hways : decide ((20 : Int) < (ats.length : Int)) = true ∨ (decide ((20 : Int) < (ats.length : Int)) = false ∧ decide ((400 : Int) < (t.length : Int)) = true) ∨ (decide ((20 : Int) < (ats.length : Int)) = false ∧ decide ((400 : Int) < (t.length : Int)) = false ∧ decide ((400 : Int) < (n.length : Int)) = true) ∨
      (decide ((20 : Int) < (ats.length : Int)) = false ∧ decide ((400 : Int) < (t.length : Int)) = false ∧ decide ((400 : Int) < (n.length : Int)) = false) := by
    cases decide ((20 : Int) < (ats.length : Int)) <;> cases decide ((400 : Int) < (t.length : Int)) <;> cases decide ((400 : Int) < (n.length : Int)) <;> simp
  rcases hways with c1 | ⟨c1, c2⟩ | ⟨c1, c2, c3⟩ | ⟨c1, c2, c3⟩
  focus
    go_enter Tryd.func18, Tryd.ntmps18
    go_wp2_with fail
    go_ret
    exact ⟨-1, rfl, HF0.out, by omega, by omega, fun h => absurd h (by decide)⟩
  focus
    go_enter Tryd.func18, Tryd.ntmps18
    go_wp2_with fail
    go_ret
    exact ⟨-1, rfl, HF0.out, by omega, by omega, fun h => absurd h (by decide)⟩
  focus
    go_enter Tryd.func18, Tryd.ntmps18
    go_wp2_with fail
    go_ret
    exact ⟨-1, rfl, HF0.out, by omega, by omega, fun h => absurd h (by decide)⟩
  go_enter Tryd.func18, Tryd.ntmps18
  go_wp2_with fail
  have HC1 := hid (of_decide_eq_false c1)
  have HC2 := hid (of_decide_eq_false c2)
  have HC3 := hid (of_decide_eq_false c3)
  clear c1 c2 c3 hw
  refine forget_world (fun W => Fresh w W ∧ Blk W w.heap.size 26 #[.string ⟨n.toArray⟩, .slice A ats.length ca, .slice B ks.length cb, .string ⟨t.toArray⟩]) ⟨HF0.out, HB0.out⟩ ?_
  clear HF0 HB0
  rintro W1 ⟨hf1, hb1⟩
  have HF1 := hid hf1
  have HB1 := hid hb1
  have HA1 := hid (HA.out.fresh hf1)
  have hg1 := hb1.lt
  clear hf1 hb1
  go_loopw [5] (fun i wr => ∃ j : Nat, i = .int .i64 j ∧ j ≤ ats.length ∧ wr = W1 ∧ Hid ((ats.take j).all (fun x => decide (x.1.length ≤ 400) && decide (x.2.length ≤ 400)) = true)) (fun i _ => ats.length - (intOf i).toNat)
  case atStart => exact ⟨0, rfl, Nat.zero_le _, rfl, hid rfl⟩
  case round =>
    obtain ⟨j, rfl, hj, rfl, HAT⟩ := hrel
    obtain ⟨q0, q1, q2, q3, _⟩ := Blk.four HB1.out
    by_cases c1 : j < ats.length
    · have d1 : decide ((j : Int) < (ats.length : Int)) = true := dT (by omega)
      have d1' : (j : Int) < (ats.length : Int) := by omega
      have d1n : decide (j < ats.length) = true := dT c1
      obtain ⟨g, o, rfl, hg2, m0, m1, hx1, hx2⟩ := HA1.out.get j c1
      unfold maxLen at hx1 hx2
      have HAS := hid (fun h : (decide (ats[j].1.length ≤ 400) && decide (ats[j].2.length ≤ 400)) = true => show (ats.take (j + 1)).all (fun x => decide (x.1.length ≤ 400) && decide (x.2.length ≤ 400)) = true by rw [List.take_add_one, List.getElem?_eq_getElem c1, List.all_append, HAT.out]; simpa using h)
      generalize ats[j] = x at *
      have hways : decide ((400 : Int) < (x.1.length : Int)) = true ∨ (decide ((400 : Int) < (x.1.length : Int)) = false ∧ decide ((400 : Int) < (x.2.length : Int)) = true) ∨ (decide ((400 : Int) < (x.1.length : Int)) = false ∧ decide ((400 : Int) < (x.2.length : Int)) = false) := by
        cases decide ((400 : Int) < (x.1.length : Int)) <;> cases decide ((400 : Int) < (x.2.length : Int)) <;> simp
      rcases hways with c2 | ⟨c2, c3⟩ | ⟨c2, c3⟩
      · go_wp2_with fail
        go_ret
        exact ⟨-1, rfl, HF1.out, by omega, by omega, fun h => absurd h (by decide)⟩
      · go_wp2_with fail
        go_ret
        exact ⟨-1, rfl, HF1.out, by omega, by omega, fun h => absurd h (by decide)⟩
      · have HAN := hid (HAS.out (by rw [Bool.and_eq_true, decide_eq_true_eq, decide_eq_true_eq]; have h2 := of_decide_eq_false c2; have h3 := of_decide_eq_false c3; exact ⟨by omega, by omega⟩))
        go_wp2_with fail
        go_roundw
        case rel => exact ⟨j + 1, by go_num, c1, trivial, HAN⟩
        case measure => simp [intOf]; omega
    · have d1 : decide ((j : Int) < (ats.length : Int)) = false := dF (by omega)
      have d1n : decide (j < ats.length) = false := dF c1
      have HAL := hid (show ats.all (fun x => decide (x.1.length ≤ 400) && decide (x.2.length ≤ 400)) = true by have h := HAT.out; rwa [List.take_of_length_le (by omega)] at h)
      clear hj
      go_wp2_with fail
      clear d1 d1n c1 q0 q1 q2 q3
      go_loopw [6, 1] (fun i s wr => ∃ (k : Nat) (r : Int), i = .int .i64 k ∧ s = .int .i64 r ∧ k ≤ ks.length ∧ -1 ≤ r ∧ r < m ∧ Hid (0 ≤ r → r = m - ((1 + El.countL (ks.take k) : Nat) : Int) ∧ El.smallL (ks.take k) = true) ∧ Hid (Blk wr w.heap.size 26 #[.string ⟨n.toArray⟩, .slice A ats.length ca, .slice B ks.length cb, .string ⟨t.toArray⟩]) ∧ Hid (Fresh w wr)) (fun i _ _ => ks.length - (intOf i).toNat)
      case atStart => exact ⟨0, m - 1, rfl, rfl, Nat.zero_le _, by omega, by omega, hid (fun _ => ⟨by rw [List.take_zero, El.countL]; omega, rfl⟩), HB1, HF1⟩
      case round =>
        obtain ⟨k, r, rfl, rfl, hk, hr1, hr2, HRR, HB, HF⟩ := hrel
        rename_i wr2 _
        obtain ⟨q0, q1, q2, q3, _, _, _, _, _⟩ := Blk.four HB.out
        by_cases c1 : k < ks.length ∧ 0 ≤ r
        · have d1 : decide ((k : Int) < (ks.length : Int)) = true := dT (by omega)
          have d1' : (k : Int) < (ks.length : Int) := by omega
          have d1n : decide (k < ks.length) = true := dT c1.1
          have d2 : decide ((0 : Int) ≤ r) = true := dT c1.2
          obtain ⟨hkl, hr0⟩ := c1
          obtain ⟨g, o, va, vk, rfl, hg, m0, m1, m2, m3, hrx⟩ := HK.out.get k hkl
          obtain ⟨e0, e1, e2, e3⟩ := mv4 HF.out m0 m1 m2 m3
          obtain ⟨Aa, aa, hva⟩ := hrx.1.slice
          obtain ⟨Ak, ak, hvk⟩ := hrx.2.1.slice
          have HS := hid (El.countL_take ks k hkl)
          have HSS := hid (El.smallL_snoc ks k hkl)
          have HC := hid (fun (W : World) (hw : RepV W ks[k] va vk) => HIH.out ks[k] (List.getElem_mem hkl) r va vk W hr0 (by omega) hw)
          have HX := hid (hrx.fresh HF.out)
          have HE2 := hid (HRR.out hr0)
          clear m0 m1 m2 m3 hrx
          generalize ks[k] = x at *
          obtain ⟨xn, xa, xk, xt⟩ := x
          unfold ev at HC
          simp only [E.name, E.attrs, E.kids, E.text] at hva hvk e0 e1 e2 e3 HC
          subst hva hvk
          go_wp2_with fail
          refine (HC.out _ HX.out).mono ?_
          rintro _ w2 ⟨r2, rfl, hf2, h1, h2, h3⟩
          have HF2 := hid (HF.out.trans hf2)
          have HB2 := hid (hf2.blk HB.out fun h => h)
          have H3 := hid h3
          have H1 := hid h1
          have H2 := hid h2
          clear hf2 h1 h2 h3
          go_wp2_with fail
          go_roundw
          case rel => exact ⟨k + 1, r2, by go_num, rfl, hkl, H1.out, by have := H2.out; omega, hid (fun h => ⟨by have := (H3.out h).1; have := HS.out; have := HE2.out.1; omega, by rw [HSS.out, HE2.out.2, (H3.out h).2]; rfl⟩), HB2, HF2⟩
          case measure => simp [intOf]; omega
        · have hways : (decide ((k : Int) < (ks.length : Int)) = false ∧ decide (k < ks.length) = false) ∨ ((decide ((k : Int) < (ks.length : Int)) = true ∧ decide (k < ks.length) = true) ∧ decide ((0 : Int) ≤ r) = false) := by
            by_cases c2 : k < ks.length
            · exact .inr ⟨⟨dT (by omega), dT c2⟩, dF fun h => c1 ⟨c2, h⟩⟩
            · exact .inl ⟨dF (by omega), dF c2⟩
          have HFIN := hid (show 0 ≤ r → r = m - ((1 + El.countL ks : Nat) : Int) ∧ El.small (.mk n ats ks t) = true from fun h => by
            have hkl : k = ks.length := by
              rcases Nat.lt_or_ge k ks.length with h1 | h1
              · exact absurd ⟨h1, h⟩ c1
              · omega
            have h2 := HRR.out h
            rw [hkl, List.take_length] at h2
            refine ⟨h2.1, ?_⟩
            rw [El.small, h2.2, Bool.and_true]
            unfold El.smallOwn
            have := HC1.out; have := HC2.out; have := HC3.out
            rw [HAL.out, decide_eq_true (by omega), decide_eq_true (by omega), decide_eq_true (by omega)]
            rfl)
          have HH1 := hid hr1
          have HH2 := hid hr2
          clear c1 hr1 hr2 hk
          rcases hways with ⟨d1, d1n⟩ | ⟨⟨d1, d1n⟩, d2⟩
          all_goals
            go_wp2_with fail
            go_ret
            exact ⟨r, rfl, HF.out, HH1.out, HH2.out, HFIN.out⟩
theorem rleft_any (e : E) : RLeftC e := El.E.ind (p := RLeftC) rleft_step e
/-- The reference's Few: if it says so, there are no more elements than that, and all texts are short. -/
theorem rfew23_small (e : E) (m : Int) (va vk : Value) (w : World) (hm0 : 0 ≤ m) (hm : m ≤ 100000) (hr : RepV w e va vk) :
    Calls Tryd.prog 8 #[ev e va vk, .int .i64 m] w fun x w' => ∃ b, x = .returned (.bool b) ∧ Fresh w w' ∧ (b = true → (El.count e : Int) ≤ m ∧ El.small e = true) := by
  have HL := hid (fun (W : World) (h : RepV W e va vk) => rleft_any e m va vk W hm0 hm h)
  have HR := hid hr
  clear hr
  generalize El.count e = c at *
  generalize El.small e = sm at *
  obtain ⟨n, ats, ks, t⟩ := e
  obtain ⟨A, ca, hva⟩ := HR.out.1.slice
  obtain ⟨B, cb, hvk⟩ := HR.out.2.1.slice
  replace hva : va = .slice A ats.length ca := hva
  replace hvk : vk = .slice B ks.length cb := hvk
  subst hva
  subst hvk
  unfold ev at *
  simp only [E.name, E.text] at *
  go_enter Tryd.func8, Tryd.ntmps8
  go_wp2_with fail
  refine (HL.out _ (HR.out.fresh ((Touch.refl _ w).alloc _))).mono ?_
  rintro _ w1 ⟨r, rfl, hf1, h1, h2, h3⟩
  have HF1 := hid (Touch.pre hf1)
  have H3 := hid h3
  clear hf1 h1 h2 h3
  go_wp2_with fail
  go_ret
  exact ⟨_, rfl, HF1.out, fun h => by have h1 := of_decide_eq_true h; have h2 := H3.out h1; exact ⟨by omega, h2.2⟩⟩
/-- The reference's Few: if it says so, there are no more elements than that. -/
theorem rfew23_any (e : E) (m : Int) (va vk : Value) (w : World) (hm0 : 0 ≤ m) (hm : m ≤ 100000) (hr : RepV w e va vk) :
    Calls Tryd.prog 8 #[ev e va vk, .int .i64 m] w fun x w' => ∃ b, x = .returned (.bool b) ∧ Fresh w w' ∧ (b = true → (El.count e : Int) ≤ m) :=
  (rfew23_small e m va vk w hm0 hm hr).mono fun _ _ ⟨b, h1, h2, h3⟩ => ⟨b, h1, h2, fun h => (h3 h).1⟩

def RDepthC (e : E) : Prop := ∀ (va vk : Value) (w : World), RepV w e va vk → El.count e ≤ 1000000 → Calls Tryd.prog 20 #[ev e va vk] w fun x w' => x = .returned (.int .i64 (El.depth e : Nat)) ∧ Fresh w w'
theorem depthL_le_count (l : List E) : El.depthL l ≤ El.countL l := by
  have : ∀ (k : Nat) (l : List E), El.countL l ≤ k → El.depthL l ≤ El.countL l := by
    intro k
    induction k with
    | zero =>
      intro l h
      cases l with
      | nil => exact Nat.le_refl _
      | cons x l => rw [El.countL] at h; have := El.count_pos x; omega
    | succ k ih =>
      intro l
      induction l with
      | nil => intro _; exact Nat.le_refl _
      | cons x l ihl =>
        intro h
        rw [El.countL] at h ⊢
        rw [El.depthL, El.depth_kids]
        have h1 := El.count_kids x
        have h2 := ihl (by omega)
        have h3 := ih x.kids (by omega)
        omega
  exact this _ l (Nat.le_refl _)
set_option maxRecDepth 100000 in
set_option maxHeartbeats 1000000 in
theorem rdepth_step (e : E) (ih : ∀ x ∈ e.kids, RDepthC x) : RDepthC e := by
  intro va vk w hr hc
  obtain ⟨A, ca, hva⟩ := hr.1.slice
  obtain ⟨B, cb, hvk⟩ := hr.2.1.slice
  have HR := hid hr
  have HIH := hid ih
  obtain ⟨n, ats, ks, t⟩ := e
  have hl2 : ks.length ≤ maxLen := hr.2.1.len
  unfold maxLen at hl2
  have hcl : 1 + El.countL ks ≤ 1000000 := by rw [El.count] at hc; exact hc
  have HCE := hid (show El.depth (.mk n ats ks t) = El.depthL ks + 1 from by rw [El.depth])
  rw [HCE.out]
  replace hva : va = .slice A ats.length ca := hva
  replace hvk : vk = .slice B ks.length cb := hvk
  subst hva
  subst hvk
  unfold ev
  simp only [E.name, E.kids, E.text] at HIH ⊢
  clear hr ih hc
  have HK := hid (show RepE w ks _ from HR.out.2.1)
  go_enter Tryd.func20, Tryd.ntmps20
  go_wp2_with fail
  have HB0 := hid (Blk.new w 26 #[.string ⟨n.toArray⟩, .slice A ats.length ca, .slice B ks.length cb, .string ⟨t.toArray⟩])
  have HF0 := hid ((Touch.refl (fun _ => False) w).alloc (.cells #[.string ⟨n.toArray⟩, .slice A ats.length ca, .slice B ks.length cb, .string ⟨t.toArray⟩] 26))
  go_loopw [4, 3] (fun i s wr => ∃ j d : Nat, i = .int .i64 j ∧ s = .int .i64 d ∧ Hid (d = El.depthL (ks.take j)) ∧ j ≤ ks.length ∧ d ≤ 1000000 ∧ Hid (Blk wr w.heap.size 26 #[.string ⟨n.toArray⟩, .slice A ats.length ca, .slice B ks.length cb, .string ⟨t.toArray⟩]) ∧ Hid (Fresh w wr)) (fun i _ _ => ks.length - (intOf i).toNat)
  case atStart => exact ⟨0, 0, rfl, rfl, hid (by rw [List.take_zero, El.depthL]), Nat.zero_le _, Nat.zero_le _, HB0, HF0⟩
  case round =>
    obtain ⟨j, d, rfl, rfl, HD, hj, hdl, HB, HF⟩ := hrel
    obtain ⟨q0, q1, q2, q3, _, _, _, _, _⟩ := Blk.four HB.out
    by_cases c1 : j < ks.length
    · have d1 : decide ((j : Int) < (ks.length : Int)) = true := dT (by omega)
      have d1' : (j : Int) < (ks.length : Int) := by omega
      have d1n : decide (j < ks.length) = true := dT c1
      obtain ⟨g, o, va, vk, rfl, hg, m0, m1, m2, m3, hrx⟩ := HK.out.get j c1
      obtain ⟨e0, e1, e2, e3⟩ := mv4 HF.out m0 m1 m2 m3
      obtain ⟨Aa, aa, hva⟩ := hrx.1.slice
      obtain ⟨Ak, ak, hvk⟩ := hrx.2.1.slice
      have HS := hid (El.depthL_take ks j c1)
      have HDL := hid (show El.depth ks[j] ≤ 1000000 by
        have h1 := El.depth_mem (List.getElem_mem c1)
        have h2 := depthL_le_count ks
        omega)
      have HC := hid (fun (W : World) (hw : RepV W ks[j] va vk) => HIH.out ks[j] (List.getElem_mem c1) va vk W hw (by have := El.count_mem (List.getElem_mem c1); omega))
      have HX := hid (hrx.fresh HF.out)
      clear m0 m1 m2 m3 hrx
      generalize ks[j] = x at *
      generalize El.depth x = dx at *
      obtain ⟨xn, xa, xk, xt⟩ := x
      unfold ev at HC
      simp only [E.name, E.attrs, E.kids, E.text] at hva hvk e0 e1 e2 e3 HC
      subst hva hvk
      go_wp2_with fail
      refine (HC.out _ HX.out).mono ?_
      rintro _ w2 ⟨rfl, hf2⟩
      have HF2 := hid (HF.out.trans hf2)
      have HB2 := hid (hf2.blk HB.out fun h => h)
      have hdx := HDL.out
      clear hf2
      go_wp2_with fail
      go_roundw
      case rel => exact ⟨j + 1, max d dx, by go_num, by first | rfl | (congr 1; omega), hid (by rw [HS.out, HD.out]), c1, by omega, HB2, HF2⟩
      case measure => simp [intOf]; omega
    · have d1 : decide ((j : Int) < (ks.length : Int)) = false := dF (by omega)
      have d1n : decide (j < ks.length) = false := dF c1
      obtain rfl : j = ks.length := by omega
      have HD2 := hid (show d = El.depthL ks by rw [HD.out, List.take_length])
      clear HD
      go_wp2_with fail
      go_ret
      exact ⟨by rw [← HD2.out]; rfl, HF.out⟩
theorem rdepth_any (e : E) : RDepthC e := El.E.ind (p := RDepthC) rdepth_step e
end Go.Proofs.YtnkmccgpmmnfeaaDoor
