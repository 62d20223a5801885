/- xml.Equal walked. -/
import Derived.Test.YtnkmccgpmmnfeaaDoorXcXsB
import Derived.Test.YtnkmccgpmmnfeaaDoorXa8
namespace Go.Proofs.YtnkmccgpmmnfeaaDoor
open Go.RowKit
open El (E Attrs)

def flat2 (P : List (E × E)) : List E := P.flatMap fun p => [p.1, p.2]
theorem flat2_len (P : List (E × E)) : (flat2 P).length = P.length * 2 := by
  induction P with
  | nil => rfl
  | cons p P ih => unfold flat2 at ih ⊢; rw [List.flatMap_cons, List.length_append, ih, List.length_cons]; simp only [List.length_cons, List.length_nil]; omega
theorem flat2_snoc (P : List (E × E)) (p : E × E) : flat2 (P ++ [p]) = flat2 P ++ [p.1, p.2] := by unfold flat2; rw [List.flatMap_append]; rfl
def allP (P : List (E × E)) : Bool := P.all fun p => El.eqE p.1 p.2
def totP : List (E × E) → Nat
  | [] => 0
  | p :: P => El.count p.1 + totP P
theorem totP_app (P Q : List (E × E)) : totP (P ++ Q) = totP P + totP Q := by
  induction P with
  | nil => simp [totP]
  | cons p P ih => rw [List.cons_append, totP, totP, ih]; omega
theorem totP_zip : ∀ l m : List E, l.length = m.length → totP (l.zip m) = El.countL l
  | [], [], _ => rfl
  | x :: l, y :: m, h => by rw [List.zip_cons_cons, totP, El.countL, totP_zip l m (by simpa using h)]
  | [], _ :: _, h => by simp at h
  | _ :: _, [], h => by simp at h
theorem allP_zip : ∀ l m : List E, l.length = m.length → allP (l.zip m) = El.eqL l m
  | [], [], _ => by rw [El.eqL]; rfl
  | x :: l, y :: m, h => by rw [El.eqL, ← allP_zip l m (by simpa using h)]; rfl
  | [], _ :: _, h => by simp at h
  | _ :: _, [], h => by simp at h
theorem allP_app (P Q : List (E × E)) : allP (P ++ Q) = (allP P && allP Q) := by unfold allP; rw [List.all_append]
theorem totP_len (P : List (E × E)) : P.length ≤ totP P := by
  induction P with
  | nil => exact Nat.le_refl _
  | cons p P ih => rw [totP, List.length_cons]; have := El.count_pos p.1; omega
theorem zip_take_snoc (l m : List E) (j : Nat) (hl : j < l.length) (hm : j < m.length) : (l.zip m).take (j + 1) = (l.zip m).take j ++ [(l[j], m[j])] := by
  rw [List.take_add_one, List.getElem?_eq_getElem (by rw [List.length_zip]; omega), List.getElem_zip]
  rfl
theorem infoPtrE2 : (Tryd.prog.info? 49).map (fun i => (i.zero, i.size, i.bytes)) = some (some (.agg #[.pointer none, .pointer none]), 2, 16) := by kernel_rfl
attribute [local go_sem] stillV stillUpon

open Classical in
/-- The least number with a property. -/
noncomputable def least (R : Nat → Prop) : Nat := Classical.epsilon fun m => R m ∧ ∀ k, R k → m ≤ k
theorem least_ex {R : Nat → Prop} {m : Nat} (h : R m) : ∃ m, R m ∧ ∀ k, R k → m ≤ k := by
  induction m using Nat.strongRecOn with
  | _ m ih =>
    by_cases h2 : ∃ k, k < m ∧ R k
    · obtain ⟨k, hk, hr⟩ := h2
      exact ih k hk hr
    · exact ⟨m, h, fun k hr => by
        rcases Nat.lt_or_ge k m with h3 | h3
        · exact absurd ⟨k, h3, hr⟩ h2
        · exact h3⟩
theorem least_spec {R : Nat → Prop} {m : Nat} (h : R m) : R (least R) := (Classical.epsilon_spec (least_ex h)).1
theorem least_le {R : Nat → Prop} {m : Nat} (h : R m) : least R ≤ m := (Classical.epsilon_spec (least_ex h)).2 m h
/-- The state of the walk over pairs of elements. -/
def EqSt (W0 w : World) (C : Nat) (Z : Bool) (v : Value) (wr : World) (m : Nat) : Prop := ∃ (P : List (E × E)) (A : Option Addr) (n cp : Nat), v = .slice A n cp ∧ P.length = n ∧ totP P ≤ C ∧ Z = allP P ∧ Stk W0 49 2 n wr (flat2 P) (.slice A n cp) ∧ Fresh w wr ∧ totP P = m
noncomputable def eqMu (W0 w : World) (C : Nat) (Z : Bool) (v : Value) (wr : World) : Nat := least (EqSt W0 w C Z v wr)
set_option maxRecDepth 100000 in
set_option maxHeartbeats 6000000 in
theorem xequal_any (a b : E) (va vk ua uk : Value) (w : World) (hcnt : El.count a ≤ 1000000) (hra : RepV w a va vk) (hrb : RepV w b ua uk) : Calls Tryd.prog 11 #[ev a va vk, ev b ua uk] w fun x w' => x = .returned (.bool (El.eqE a b)) ∧ Fresh w w' := by
  have hs1 : (w.alloc (.cells #[.string ⟨a.name.toArray⟩, va, vk, .string ⟨a.text.toArray⟩] 26)).heap.size = w.heap.size + 1 := by simp
  have hs2 : ((w.alloc (.cells #[.string ⟨a.name.toArray⟩, va, vk, .string ⟨a.text.toArray⟩] 26)).alloc (.cells #[.string ⟨b.name.toArray⟩, ua, uk, .string ⟨b.text.toArray⟩] 26)).heap.size = w.heap.size + 1 + 1 := by simp
  have HEA := hid (show ElAt ((w.alloc (.cells #[.string ⟨a.name.toArray⟩, va, vk, .string ⟨a.text.toArray⟩] 26)).alloc (.cells #[.string ⟨b.name.toArray⟩, ua, uk, .string ⟨b.text.toArray⟩] 26)) w.heap.size 0 a va vk from (elAt_box hra).fresh ((Touch.refl _ _).alloc _))
  have HEB := hid (show ElAt ((w.alloc (.cells #[.string ⟨a.name.toArray⟩, va, vk, .string ⟨a.text.toArray⟩] 26)).alloc (.cells #[.string ⟨b.name.toArray⟩, ua, uk, .string ⟨b.text.toArray⟩] 26)) (w.heap.size + 1) 0 b ua uk by
    have := elAt_box (hrb.fresh ((Touch.refl _ w).alloc (.cells #[.string ⟨a.name.toArray⟩, va, vk, .string ⟨a.text.toArray⟩] 26)))
    rw [hs1] at this
    exact this)
  have HS := hid (show Stk ((w.alloc (.cells #[.string ⟨a.name.toArray⟩, va, vk, .string ⟨a.text.toArray⟩] 26)).alloc (.cells #[.string ⟨b.name.toArray⟩, ua, uk, .string ⟨b.text.toArray⟩] 26)) 49 2 1 (((w.alloc (.cells #[.string ⟨a.name.toArray⟩, va, vk, .string ⟨a.text.toArray⟩] 26)).alloc (.cells #[.string ⟨b.name.toArray⟩, ua, uk, .string ⟨b.text.toArray⟩] 26)).alloc (.cells #[.pointer (some ⟨w.heap.size, 0, none⟩), .pointer (some ⟨w.heap.size + 1, 0, none⟩)] 49)) (flat2 [(a, b)]) (.slice (some ⟨w.heap.size + 1 + 1, 0, none⟩) 1 1) by
    have := Stk.lit (t := 49) (m := 2) (N := flat2 [(a, b)]) (ns := [.pointer (some ⟨w.heap.size, 0, none⟩), .pointer (some ⟨w.heap.size + 1, 0, none⟩)]) (Touch.refl _ ((w.alloc (.cells #[.string ⟨a.name.toArray⟩, va, vk, .string ⟨a.text.toArray⟩] 26)).alloc (.cells #[.string ⟨b.name.toArray⟩, ua, uk, .string ⟨b.text.toArray⟩] 26))) ⟨_, _, rfl, ⟨_, _, va, vk, rfl, HEA.out⟩, _, [], rfl, ⟨_, _, ua, uk, rfl, HEB.out⟩, rfl⟩ rfl
    rw [hs2] at this
    exact this)
  have HF := hid (show Fresh w (((w.alloc (.cells #[.string ⟨a.name.toArray⟩, va, vk, .string ⟨a.text.toArray⟩] 26)).alloc (.cells #[.string ⟨b.name.toArray⟩, ua, uk, .string ⟨b.text.toArray⟩] 26)).alloc (.cells #[.pointer (some ⟨w.heap.size, 0, none⟩), .pointer (some ⟨w.heap.size + 1, 0, none⟩)] 49)) from (((Touch.refl _ w).alloc _).alloc _).alloc _)
  have HW00 := hid (show w.heap.size ≤ ((w.alloc (.cells #[.string ⟨a.name.toArray⟩, va, vk, .string ⟨a.text.toArray⟩] 26)).alloc (.cells #[.string ⟨b.name.toArray⟩, ua, uk, .string ⟨b.text.toArray⟩] 26)).heap.size by rw [hs2]; omega)
  obtain ⟨A0, c0, hva⟩ := hra.1.slice
  obtain ⟨B0, d0, hvk⟩ := hra.2.1.slice
  obtain ⟨A1, c1, hua⟩ := hrb.1.slice
  obtain ⟨B1, d1, huk⟩ := hrb.2.1.slice
  have HCN := hid hcnt
  clear hra hrb hs1 hs2 hcnt
  obtain ⟨C, hC⟩ : ∃ C, C = El.count a := ⟨_, rfl⟩
  have HC := hid hC
  rw [← hC] at HCN
  obtain ⟨Z, hZ⟩ : ∃ Z, Z = El.eqE a b := ⟨_, rfl⟩
  have HZ := hid hZ
  rw [← hZ]
  clear hC hZ
  subst hva hvk hua huk
  unfold ev
  go_enter Tryd.func11, Tryd.ntmps11
  go_wp2_with fail
  generalize (((w.alloc (.cells #[.string ⟨a.name.toArray⟩, .slice A0 a.attrs.length c0, .slice B0 a.kids.length d0, .string ⟨a.text.toArray⟩] 26)).alloc (.cells #[.string ⟨b.name.toArray⟩, .slice A1 b.attrs.length c1, .slice B1 b.kids.length d1, .string ⟨b.text.toArray⟩] 26)).alloc (.cells #[.pointer (some ⟨w.heap.size, 0, none⟩), .pointer (some ⟨w.heap.size + 1, 0, none⟩)] 49)) = W1 at HS HF ⊢
  generalize ((w.alloc (.cells #[.string ⟨a.name.toArray⟩, .slice A0 a.attrs.length c0, .slice B0 a.kids.length d0, .string ⟨a.text.toArray⟩] 26)).alloc (.cells #[.string ⟨b.name.toArray⟩, .slice A1 b.attrs.length c1, .slice B1 b.kids.length d1, .string ⟨b.text.toArray⟩] 26)) = W0 at HEA HEB HS HW00
  have HW0 := HW00
  go_loopw [5] (fun v wr0 => ∃ (wr : World) (m : Nat), wr = wr0 ∧ EqSt W0 w C Z v wr m) (fun v wr => eqMu W0 w C Z v wr)
  case atStart => exact ⟨_, _, rfl, [(a, b)], some ⟨w.heap.size + 1 + 1, 0, none⟩, 1, 1, rfl, rfl, by rw [HC.out]; exact Nat.le_refl _, by rw [HZ.out]; unfold allP; simp, HS.out, HF.out, rfl⟩
  case round =>
    clear HS HF HEA HEB
    obtain ⟨wr, m0, rfl, hst0⟩ := hrel
    obtain ⟨P, A, n, cp, rfl, hpl, htp, hzp, hs0, hf0, hm0⟩ := least_spec hst0
    have HPL := hid hpl
    have HTP := hid htp
    have HZP := hid hzp
    have HS := hid hs0
    have HF := hid hf0
    have HM := hid hm0
    clear hst0 hpl htp hzp hs0 hf0 hm0
    cases n with
    | zero =>
      have d1 : decide ((0 : Int) < (0 : Int)) = false := by decide
      have HP0 := hid (show Z = true by rw [HZP.out, List.length_eq_zero_iff.1 HPL.out]; rfl)
      go_wp2_with fail
      go_ret
      exact ⟨by rw [HP0.out]; rfl, HF.out⟩
    | succ m =>
      obtain ⟨M, p, rfl, hM⟩ := snoc_of HPL.out
      obtain ⟨x, y⟩ := p
      obtain ⟨hcp, s, g, o, xa, xk, g', o', ya, yk, rfl, hc1, hc2, hs, hex, hey, hst⟩ := (show Stk W0 49 2 (m + 1) wr (flat2 M ++ [x, y]) (.slice A (m + 1) cp) by rw [← flat2_snoc M (x, y)]; exact HS.out).top2
      have HEX := hid hex
      have HEY := hid hey
      have HST := hid hst
      have HMM := hid hM
      have HZ2 := hid (show Z = (allP M && El.eqE x y) by rw [HZP.out, allP_app]; unfold allP; simp)
      have HTP2 := hid (show totP M + El.count x ≤ C by have h := HTP.out; rw [totP_app] at h; simpa [totP] using h)
      have HM2 := hid (show totP M + El.count x = eqMu W0 w C Z (.slice (some ⟨s, 0, none⟩) (m + 1) cp) wr by have h := HM.out; rw [totP_app] at h; simpa [totP, eqMu] using h)
      have hmb : m ≤ 1000000 := by
        have h1 := totP_len M
        have := HTP2.out
        have := HCN.out
        omega
      obtain ⟨Ax, cx, hxa⟩ := hex.2.2.2.2.2.1.slice
      obtain ⟨Bx, bx, hxk⟩ := hex.2.2.2.2.2.2.1.slice
      obtain ⟨Ay, cy, hya⟩ := hey.2.2.2.2.2.1.slice
      obtain ⟨By, ey, hyk⟩ := hey.2.2.2.2.2.2.1.slice
      subst hxa hxk hya hyk
      have HRA := hid hex.2.2.2.2.2.1
      have HRB := hid hey.2.2.2.2.2.1
      have d1 : decide ((0 : Int) < ((m + 1 : Nat) : Int)) = true := dT (by omega)
      have d1' : decide ((0 : Int) < (m : Int) + 1) = true := dT (by omega)
      have d1n : decide (0 < m + 1) = true := dT (by omega)
      have w1 : IntKind.i64.wrap (m : Int) = (m : Int) := IntWalk.i64_in _ (by omega)
      have w2 : (m : Int) + 1 - 1 = (m : Int) := by omega
      have w3 : (m : Int) < (m : Int) + 1 := by omega
      have w5 : (m : Int) ≤ (cp : Int) := by omega
      have w6 : m ≤ cp := by omega
      clear hex hey hst HPL HTP HZP HM hM hcp
      go_wp2_with fail
      go_quiet (fail)
      refine forget_world (fun W => Fresh wr W) ((Touch.refl _ _).drewN _) ?_
      rintro w7 hf7
      have HF7 := hid (HF.out.trans hf7)
      have HS7 := hid (HST.out.fresh hf7)
      clear hf7 hc1 hc2 hs d1 d1' d1n w3
      obtain ⟨hgl, p0, p1, p2, p3, hpr⟩ := HEX.out.fresh HS7.out.fr
      obtain ⟨hgl', q0, q1, q2, q3, hqr⟩ := HEY.out.fresh HS7.out.fr
      clear hpr hqr
      have HQ := hid (El.eqE_eq x y)
      have C0 := hid (calmF (P := Tryd.prog) w7 (fun w hw => slEqual_any x.attrs y.attrs _ _ w (HRA.out.fresh (HS7.out.fr.trans hw)) (HRB.out.fresh (HS7.out.fr.trans hw))))
      go_wp2_with fail
      have r0 := cell_regrown p0
      have r1 := cell_regrown p1
      have r2 := cell_regrown p2
      have r3 := cell_regrown p3
      have t0 := cell_regrown q0
      have t1 := cell_regrown q1
      have t2 := cell_regrown q2
      have t3 := cell_regrown q3
      cases h1 : decide (x.name = y.name) with
      | false =>
        have e1 := str_dec x.name y.name _ h1
        have g1 : (x.name == y.name) = false := by rw [beq_eq_false_iff_ne]; exact of_decide_eq_false h1
        have HD := hid g1
        clear h1
        refine wp_region_quiet_below (by kernel_rfl) (by kernel_rfl) ?_
        repeat (with_reducible refine wpQuiet_step (fun K hK => ?_); go_simp; first | (refine hK _ ?_; clear hK K) | (apply Exists.intro; refine ⟨fun _ => ?_, hK _ ?_⟩; (first | with_reducible exact C0.out _ _); clear hK K))
        refine wpQuiet_nil ?_
        rintro w8 ⟨⟨_, _⟩, hW8⟩
        have hf8 : Fresh w7 w8 := by rw [hW8]; exact fresh_of_below (below_regrown _ _ _)
        have HF8 := hid (HF7.out.trans hf8)
        have HS8 := hid (HS7.out.fresh hf8)
        clear hW8 r0 r1 r2 r3 t0 t1 t2 t3 p0 p1 p2 p3 q0 q1 q2 q3 hgl hgl' hf8 C0

        go_wp2_with fail
        go_ret
        exact ⟨ret_bool' _ _ (by rw [HZ2.out, HQ.out, HD.out]; simp), HF8.out⟩
      | true =>
      have e1 := str_dec x.name y.name _ h1
      have g1 : (x.name == y.name) = true := by rw [beq_iff_eq]; exact of_decide_eq_true h1
      have HD1 := hid g1
      clear h1
      cases h2 : decide (x.text = y.text) with
      | false =>
        have e2 := str_dec x.text y.text _ h2
        have g2 : (x.text == y.text) = false := by rw [beq_eq_false_iff_ne]; exact of_decide_eq_false h2
        have HD := hid g2
        clear h2
        refine wp_region_quiet_below (by kernel_rfl) (by kernel_rfl) ?_
        repeat (with_reducible refine wpQuiet_step (fun K hK => ?_); go_simp; first | (refine hK _ ?_; clear hK K) | (apply Exists.intro; refine ⟨fun _ => ?_, hK _ ?_⟩; (first | with_reducible exact C0.out _ _); clear hK K))
        refine wpQuiet_nil ?_
        rintro w8 ⟨⟨_, _⟩, hW8⟩
        have hf8 : Fresh w7 w8 := by rw [hW8]; exact fresh_of_below (below_regrown _ _ _)
        have HF8 := hid (HF7.out.trans hf8)
        have HS8 := hid (HS7.out.fresh hf8)
        clear hW8 r0 r1 r2 r3 t0 t1 t2 t3 p0 p1 p2 p3 q0 q1 q2 q3 hgl hgl' hf8 C0

        go_wp2_with fail
        go_ret
        exact ⟨ret_bool' _ _ (by rw [HZ2.out, HQ.out, HD.out]; simp), HF8.out⟩
      | true =>
      have e2 := str_dec x.text y.text _ h2
      have g2 : (x.text == y.text) = true := by rw [beq_iff_eq]; exact of_decide_eq_true h2
      have HD2 := hid g2
      clear h2
      cases h3 : (x.attrs == y.attrs) with
      | false =>
        have HD := hid h3
        rw [h3] at C0
        clear h3
        refine wp_region_quiet_below (by kernel_rfl) (by kernel_rfl) ?_
        repeat (with_reducible refine wpQuiet_step (fun K hK => ?_); go_simp; first | (refine hK _ ?_; clear hK K) | (apply Exists.intro; refine ⟨fun _ => ?_, hK _ ?_⟩; (first | with_reducible exact C0.out _ _); clear hK K))
        refine wpQuiet_nil ?_
        rintro w8 ⟨⟨_, _⟩, hW8⟩
        have hf8 : Fresh w7 w8 := by rw [hW8]; exact fresh_of_below (below_regrown _ _ _)
        have HF8 := hid (HF7.out.trans hf8)
        have HS8 := hid (HS7.out.fresh hf8)
        clear hW8 r0 r1 r2 r3 t0 t1 t2 t3 p0 p1 p2 p3 q0 q1 q2 q3 hgl hgl' hf8 C0

        go_wp2_with fail
        go_ret
        exact ⟨ret_bool' _ _ (by rw [HZ2.out, HQ.out, HD.out]; simp), HF8.out⟩
      | true =>
      have HD3 := hid h3
      rw [h3] at C0
      clear h3
      cases h4 : decide (x.kids.length = y.kids.length) with
      | false =>
        have e4 := int_dec x.kids.length y.kids.length _ h4
        have HD := hid (El.eqL_length x.kids y.kids (of_decide_eq_false h4))
        have g4 : ((x.kids.length : Int) == (y.kids.length : Int)) = false := by rw [beq_eq_false_iff_ne]; have := of_decide_eq_false h4; omega
        have g4n : (x.kids.length == y.kids.length) = false := by rw [beq_eq_false_iff_ne]; exact of_decide_eq_false h4
        clear h4
        refine wp_region_quiet_below (by kernel_rfl) (by kernel_rfl) ?_
        repeat (with_reducible refine wpQuiet_step (fun K hK => ?_); go_simp; first | (refine hK _ ?_; clear hK K) | (apply Exists.intro; refine ⟨fun _ => ?_, hK _ ?_⟩; (first | with_reducible exact C0.out _ _); clear hK K))
        refine wpQuiet_nil ?_
        rintro w8 ⟨⟨_, _⟩, hW8⟩
        have hf8 : Fresh w7 w8 := by rw [hW8]; exact fresh_of_below (below_regrown _ _ _)
        have HF8 := hid (HF7.out.trans hf8)
        have HS8 := hid (HS7.out.fresh hf8)
        clear hW8 r0 r1 r2 r3 t0 t1 t2 t3 p0 p1 p2 p3 q0 q1 q2 q3 hgl hgl' hf8 C0

        go_wp2_with fail
        go_ret
        exact ⟨ret_bool' _ _ (by rw [HZ2.out, HQ.out, HD.out]; simp), HF8.out⟩
      | true =>
      have HD4 := hid (of_decide_eq_true h4)
      have e4 := int_dec x.kids.length y.kids.length _ h4
      have g4 : ((x.kids.length : Int) == (y.kids.length : Int)) = true := by rw [beq_iff_eq, HD4.out]
      have g4n : (x.kids.length == y.kids.length) = true := by rw [beq_iff_eq, HD4.out]
      clear h4
      refine wp_region_quiet_below (by kernel_rfl) (by kernel_rfl) ?_
      repeat (with_reducible refine wpQuiet_step (fun K hK => ?_); go_simp; first | (refine hK _ ?_; clear hK K) | (apply Exists.intro; refine ⟨fun _ => ?_, hK _ ?_⟩; (first | with_reducible exact C0.out _ _); clear hK K))
      refine wpQuiet_nil ?_
      rintro w8 ⟨⟨_, _⟩, hW8⟩
      have hf8 : Fresh w7 w8 := by rw [hW8]; exact fresh_of_below (below_regrown _ _ _)
      have HF8 := hid (HF7.out.trans hf8)
      have HS8 := hid (HS7.out.fresh hf8)
      clear hW8 r0 r1 r2 r3 t0 t1 t2 t3 p0 p1 p2 p3 q0 q1 q2 q3 hgl hgl' hf8 C0

      have HZ3 := hid (show Z = (allP M && El.eqL x.kids y.kids) by rw [HZ2.out, HQ.out, HD1.out, HD2.out, HD3.out]; simp)
      obtain ⟨hgl, p0, p1, p2, p3, hpr⟩ := HEX.out.fresh HS8.out.fr
      clear hpr p0 p1 p3
      go_wp2_with fail
      clear e1 e2 e4 g1 g2 g4 g4n p2 hgl HZ2 HQ HD1 HD2 HD3 HF7 HS7 HF HS HST
      go_loopw [5, 83] (fun v i wr0 => ∃ (wr' : World) (A' : Option Addr) (n' cp' j : Nat), wr' = wr0 ∧ v = .slice A' n' cp' ∧ i = .int .i64 j ∧ j ≤ x.kids.length ∧ Hid (Stk W0 49 2 n' wr' (flat2 (M ++ (x.kids.zip y.kids).take j)) (.slice A' n' cp')) ∧ Hid (Fresh w wr')) (fun _ i _ => x.kids.length - (intOf i).toNat)
      case atStart => exact ⟨_, some ⟨s, 0, none⟩, m, cp, 0, rfl, rfl, rfl, Nat.zero_le _, hid (by rw [List.take_zero, List.append_nil]; exact HS8.out), HF8⟩
      case round =>
        clear HS8 HF8
        obtain ⟨wr', A', n', cp', j, rfl, rfl, rfl, hj, HS, HF⟩ := hrel
        obtain ⟨hgl, i0, i1, p2, i3, i4⟩ := HEX.out.fresh HS.out.fr
        clear i0 i1 i3 i4
        obtain ⟨hgl', i0, i1, q2, i3, i4⟩ := HEY.out.fresh HS.out.fr
        clear i0 i1 i3 i4
        rw [← HD4.out] at q2
        have hnl : n' = m + j ∧ m + j ≤ 1000000 := by
          have h1 := HS.out.2.1
          have h2 := totP_len M
          have h3 := HTP2.out
          have h4 := HCN.out
          have h5 := HMM.out
          have h6 := El.countL_len x.kids
          have h7 := El.count_kids x
          rw [flat2_len, List.length_append, List.length_take, List.length_zip, ← HD4.out, Nat.min_self] at h1
          omega
        by_cases c1 : j < x.kids.length
        · have d1 : decide ((j : Int) < (x.kids.length : Int)) = true := dT (by omega)
          have d1n : decide (j < x.kids.length) = true := dT c1
          have d1' : (j : Int) < (x.kids.length : Int) := by omega
          have c1y : j < y.kids.length := by have := HD4.out; omega
          have HLEN := hid hnl.2
          have hjb : j ≤ 1000000 := by omega
          have HNE := hid hnl.1
          obtain ⟨gx, ox, rfl, hpx⟩ := PtrAt.kid HEX.out j c1
          obtain ⟨gy, oy, rfl, hpy⟩ := PtrAt.kid HEY.out j c1y
          have HPX := hid hpx
          have HPY := hid hpy
          have HTK := hid (show M ++ (x.kids.zip y.kids).take j ++ [(x.kids[j], y.kids[j])] = M ++ (x.kids.zip y.kids).take (j + 1) by rw [zip_take_snoc _ _ j c1 c1y, List.append_assoc])
          clear hpx hpy hnl
          generalize x.kids[j] = kx at *
          generalize y.kids[j] = ky at *
          clear c1y
          go_wp2_with fail
          have k1 := cT (S := fun _ => False) p2 (fun h => h)
          have k2 := cT (S := fun _ => False) q2 (fun h => h)
          refine wp_region_planC (fun W => ∃ x : Turned (fun _ => False) wr', W = x.W) (Plan.of [(0, true), (1, true), (2, true), (3, true), (4, true), (5, true), (6, true), (7, true), (8, true), (9, true), (10, true), (11, true), (12, true), (13, true)] (.lone 14 .nil)) [0, 1, 2, 3, 4, 5, 6, 7, 8, 9, 10, 11, 12, 13, 14] 15 (Array.replicate 15 true ++ Array.replicate 2 false) (fun _ => True)
            (Plan.of [] (.lone 16 .nil)) [16] (Array.replicate 17 true) (by kernel_rfl) (fun _ _ d _ _ h => by cases d <;> exact h) (by kernel_rfl) ⟨⟨_, (Touch.refl _ _).drewN 1⟩, rfl⟩ ?_
          unfold Plan.of
          repeat (refine wpPlan_plain rfl (fun K hK => ?_); go_simp; refine hK _ ?_; clear hK K; first | done | unfold Plan.of)
          clear k1 k2
          refine wpPlan_lone rfl (fun K hK => ?_)
          go_wp2_with fail
          refine hK _ _ ⟨⟨_, ((Touch.refl _ wr').drewN 1).alloc _⟩, rfl⟩ ?_
          clear hK
          have HBV := hid (show Blk ((wr'.drewN 1).alloc (.cells #[.pointer (some ⟨gx, ox + j * 4, none⟩), .pointer (some ⟨gy, oy + j * 4, none⟩)] 49)) wr'.heap.size 49 #[.pointer (some ⟨gx, ox + j * 4, none⟩), .pointer (some ⟨gy, oy + j * 4, none⟩)] from Blk.new (wr'.drewN 1) 49 _)
          have HFB := hid (show Fresh wr' ((wr'.drewN 1).alloc (.cells #[.pointer (some ⟨gx, ox + j * 4, none⟩), .pointer (some ⟨gy, oy + j * 4, none⟩)] 49)) from ((Touch.refl _ wr').drewN 1).alloc _)
          generalize ((wr'.drewN 1).alloc (.cells #[.pointer (some ⟨gx, ox + j * 4, none⟩), .pointer (some ⟨gy, oy + j * 4, none⟩)] 49)) = wB at HBV HFB ⊢
          have HSA := hid (HS.out.fresh HFB.out)
          have HFA := hid (HF.out.trans HFB.out)
          refine wpPlan_shut2 rfl (fun K hK => ?_)
          go_wp2_with (at_builtin; go_loud (refine wpList_append_stk rfl (.tmp 86) (.tmp 100) rfl Tryd.underlying50 infoPtrE2 rfl (by decide) (by decide) HSA.out (by simp [Act.eval]) (N := [kx, ky]) (ns := [.pointer (some ⟨gx, ox + j * 4, none⟩), .pointer (some ⟨gy, oy + j * 4, none⟩)]) ⟨_, _, rfl, HPX.out, _, [], rfl, HPY.out, rfl⟩ rfl HBV.out (by simp [Act.eval]) (by have := HLEN.out; have := HNE.out; omega) ?_); intro A8 c8 w8 hg8 ht8; refine Stay.mk ?_)
          have HS8 := hid (show Stk W0 49 2 (n' + 1) w8 (flat2 (M ++ (x.kids.zip y.kids).take (j + 1))) (.slice A8 (n' + 1) c8) by rw [← HTK.out, flat2_snoc]; exact hg8)
          have HF8 := hid (show Fresh w w8 from HFA.out.trans' ht8 fun k hk => .inr (by have h1 := (HSA.out.lt k hk).1; have h2 := HW0.out; omega))
          clear hg8 ht8
          refine Stay.go ?_
          go_wp2_with fail
          refine hK _ _ trivial ?_
          clear hK
          refine wpPlan_lone rfl (fun K hK => ?_)
          go_wp2_with fail
          refine hK _ _ trivial ?_
          clear hK K
          refine wpPlan_nil ?_
          go_wp2_with fail
          go_roundw
          case rel => exact ⟨_, A8, n' + 1, c8, j + 1, rfl, rfl, by go_num, c1, HS8, HF8⟩
          case measure => simp [intOf]; omega
        · have d1 : decide ((j : Int) < (x.kids.length : Int)) = false := dF (by omega)
          have d1n : decide (j < x.kids.length) = false := dF c1
          obtain rfl : j = x.kids.length := by omega
          have HZT := hid (show (x.kids.zip y.kids).take x.kids.length = x.kids.zip y.kids from List.take_of_length_le (by rw [List.length_zip]; omega))
          have HNE := hid hnl.1
          have HNEW := hid (show EqSt W0 w C Z (.slice A' n' cp') wr' (totP (M ++ x.kids.zip y.kids)) from ⟨M ++ x.kids.zip y.kids, A', n', cp', rfl, by rw [List.length_append, List.length_zip, ← HD4.out, Nat.min_self, HMM.out]; exact HNE.out.symm, by rw [totP_app, totP_zip _ _ HD4.out]; have := HTP2.out; have := El.count_kids x; omega, by rw [HZ3.out, allP_app, allP_zip _ _ HD4.out], by have h := HS.out; rw [HZT.out] at h; exact h, HF.out, rfl⟩)
          clear hnl
          go_wp2_with fail
          go_roundw
          case rel => exact ⟨_, _, rfl, HNEW.out⟩
          case measure =>
            have h1 : eqMu W0 w C Z (.slice A' n' cp') wr' ≤ totP (M ++ x.kids.zip y.kids) := least_le HNEW.out
            rw [totP_app, totP_zip _ _ HD4.out] at h1
            have h2 := HM2.out
            have h3 := El.count_kids x
            omega
end Go.Proofs.YtnkmccgpmmnfeaaDoor
