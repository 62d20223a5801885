/- Part 25 of 33 of a proof; its texts, joined: MoJ. No condition. -/
import Derived.Test.YtfnjcldgicohaaaGreatWa24
set_option maxRecDepth 100000
set_option maxHeartbeats 8000000
namespace Go.Proofs.YtfnjcldgicohaaaGreat
open Go.RowKit
open Tr (Nd)
open El (E Rd Attrs ent rRow rItem rItems rRows rLines rowNil nMtd nMtr nMrow)
attribute [local go_sem] stillV stillUpon
theorem ritem_rows (W0 : World) (g : Nat) (e : E) (hK : El.kindR e.name ≠ 12) (ih : ∀ x ∈ e.kids, RRowC W0 g x) : RItemC W0 g e := by
 intro s va vk w hs0 hcnt hpr hr hrd;have HK := hid hK;have HIH := hid ih;have HRD := hid hrd;have HPK := hid (El.proper_kids e hpr);have hg0 := hrd.lt;have hW0 := hrd.le;have HR0 := hid hr;have HKE := hid (show RepE W0 e.kids vk from hr.2.1);have HCN := hid (show (s.1 + 1) + El.countL e.kids ≤ 100000 by rw [El.count_kids] at hcnt; omega);have hl2 : e.kids.length ≤ 100000 := by have := El.countL_len e.kids; have := HCN.out; omega
 have hsb : s.1 ≤ 1000000 := by omega
 have HTL := hid (textR_len e (El.kindR e.name) hr.2.2.2 (El.values_le e hpr));have HKD := hid (fun w : World => rkind_any e.name w);have HTX := hid (fun (w : World) (h : RepV w e va vk) => rtext_any e va vk w h (El.values_le e hpr));have HSL := hid (fun (w : World) (h : RepV w e va vk) => rslots_any e (El.kindR e.name) va vk w h);have HOK := hid (show El.okItem e = (decide (0 < El.kindR e.name) && (El.textR e (El.kindR e.name)).2 && El.slotsK e.name e.kids.length (El.kindR e.name)) from rfl);have HRI := hid (show rItem e s = (El.endItem e (rRows nMrow e.kids (ent (El.okItem e) s)).1 (rRows nMrow e.kids (ent (El.okItem e) s)).2.2, (rRows nMrow e.kids (ent (El.okItem e) s)).2) by rw [El.rItem_eq]; simp only [if_neg hK])
 have HE1 := hid (show ∀ ns bad, ¬ (El.kindR e.name = 6 ∧ bad < 0) → El.endItem e ns bad = .mk (El.kindR e.name) (El.textR e (El.kindR e.name)).1 0 ns by
  intro ns bad h;show (if El.kindR e.name = 6 ∧ bad < 0 then _ else _) = _;rw [if_neg h, if_neg hK])
 have HE2 := hid (show ∀ ns bad, El.kindR e.name = 6 → bad < 0 → El.endItem e ns bad = if e.name = El.nMsqrt then .mk 6 (El.textR e (El.kindR e.name)).1 0 (rowNil :: ns) else .mk 6 (El.textR e (El.kindR e.name)).1 0 ((ns.drop 1).take 1 ++ ns.take 1 ++ ns.drop 2) by
  intro ns bad h hb;show (if El.kindR e.name = 6 ∧ bad < 0 then _ else _) = _;rw [if_pos ⟨h, hb⟩, h])
 have HSB := hid (show El.kindR e.name = 6 → El.okItem e = true → (e.name = El.nMsqrt ∧ e.kids.length = 1) ∨ (e.name ≠ El.nMsqrt ∧ e.kids.length = 2) by
  intro h6 ho;unfold El.okItem at ho;rw [h6] at ho;simp only [Bool.and_eq_true] at ho;have h := ho.2
  by_cases hn : e.name = El.nMsqrt
  ·refine .inl ⟨hn, ?_⟩
   rw [hn] at h;exact of_decide_eq_true h
  ·refine .inr ⟨hn, ?_⟩
   unfold El.slotsK at h;rw [if_neg (by decide), if_neg (by simp [hn]), if_neg (by decide), if_neg (by decide)] at h;exact of_decide_eq_true h)
 obtain ⟨A, ca, hva⟩ := hr.1.slice;obtain ⟨Bk, cb, hvk⟩ := hr.2.1.slice;clear ih hrd hpr hcnt hr hs0 hK;generalize El.okItem e = ok at *;generalize El.textR e (El.kindR e.name) = TR at *;generalize El.slotsK e.name e.kids.length (El.kindR e.name) = SB at *;generalize El.kindR e.name = K at *;obtain ⟨tx, tb⟩ := TR;obtain ⟨s1, hs1⟩ : ∃ s1, ent ok s = s1 := ⟨_, rfl⟩;rw [hs1] at HRI;have HS1 := hid hs1;have HCN2 := hid (show s1.1 + El.countL e.kids ≤ 100000 by rw [← hs1]; exact HCN.out)
 have HBD := hid (show s1.2 < 0 → ok = true by
  intro h;cases ok with
  | true => rfl
  | false =>
   rw [← hs1] at h;obtain ⟨a, b⟩ := s;have h : (if b < 0 then (a : Int) else b) < 0 := by simpa [ent] using h
   split at h <;> omega)
 clear hs1 HCN;obtain ⟨n, ats, ks, t⟩ := e;replace hva : va = .slice A ats.length ca := hva;replace hvk : vk = .slice Bk ks.length cb := hvk;subst hva hvk;unfold ev at *;simp only [E.name, E.text, E.kids] at *;have hk0 := HK.out;go_enter Tryz.func32, Tryz.ntmps32;go_wp2_with fail
 have HF0 := hid (((Touch.refl (fun _ => False) w).alloc (.cells #[.string ⟨n.toArray⟩, .slice A ats.length ca, .slice Bk ks.length cb, .string ⟨t.toArray⟩] 25)).alloc (.cells #[.int .i64 0, .string ⟨#[]⟩, .int .i64 0, .slice none 0 0] 30));have HBE0 := hid ((Blk.new w 25 #[.string ⟨n.toArray⟩, .slice A ats.length ca, .slice Bk ks.length cb, .string ⟨t.toArray⟩]).alloc (.cells #[.int .i64 0, .string ⟨#[]⟩, .int .i64 0, .slice none 0 0] 30));have HBR0 := hid (Blk.new2 w (.cells #[.string ⟨n.toArray⟩, .slice A ats.length ca, .slice Bk ks.length cb, .string ⟨t.toArray⟩] 25) 30 #[.int .i64 0, .string ⟨#[]⟩, .int .i64 0, .slice none 0 0]);refine (HKD.out _).mono ?_;rintro _ w1 ⟨rfl, hf1⟩;have HF1 := hid (HF0.out.trans hf1);have HBE1 := hid (hf1.blk HBE0.out fun h => h);have HBR1 := hid (hf1.blk HBR0.out fun h => h);clear hf1 HF0 HBE0 HBR0;obtain ⟨q0, q1, q2, q3, _, _, _, _, hlt1⟩ := Blk.four HBE1.out;go_wp2_with fail
 refine (HTX.out _ (HR0.out.fresh (HRD.out.fr.trans HF1.out))).mono ?_;rintro _ w2 ⟨rfl, hf2⟩;have HF2 := hid (HF1.out.trans hf2);have HBE2 := hid (hf2.blk HBE1.out fun h => h);have HBR2 := hid (hf2.blk HBR1.out fun h => h);clear hf2 HF1 HBE1 HBR1 q0 q1 q2 q3 hlt1;obtain ⟨q0, q1, q2, q3, _, _, _, _, hlt2⟩ := Blk.four HBE2.out
 have hways : (decide ((0 : Int) < K) = false ∧ ok = false) ∨ (decide ((0 : Int) < K) = true ∧ tb = false ∧ ok = false) ∨ (decide ((0 : Int) < K) = true ∧ tb = true ∧ ok = SB) := by
  have h := HOK.out;cases hd : decide ((0 : Int) < K) with
  | false => exact .inl ⟨rfl, by rw [h, hd]; rfl⟩
  | true =>
   cases tb with
   | false => exact .inr (.inl ⟨rfl, rfl, by rw [h, hd]; rfl⟩)
   | true => exact .inr (.inr ⟨rfl, rfl, by rw [h, hd]; rfl⟩)
 have HEN := hid (show ∀ (W : World) (hf : Fresh w W) (b : Bool) (hb : ok = b), Blk W w.heap.size 25 #[.string ⟨n.toArray⟩, .slice A ats.length ca, .slice Bk ks.length cb, .string ⟨t.toArray⟩] → Blk W (w.heap.size + 1) 30 #[.int .i64 0, .string ⟨#[]⟩, .int .i64 0, .slice none 0 0] → Calls Tryz.prog 31 #[.pointer (some ⟨g, 0, none⟩), .bool b] W fun x w' => x = .returned (.tuple #[]) ∧ Touch (fun k => k = g) w w' ∧ Rdr W0 g s1 w' ∧ Blk w' w.heap.size 25 #[.string ⟨n.toArray⟩, .slice A ats.length ca, .slice Bk ks.length cb, .string ⟨t.toArray⟩] ∧ Blk w' (w.heap.size + 1) 30 #[.int .i64 0, .string ⟨#[]⟩, .int .i64 0, .slice none 0 0] from fun W hf b hb h1 h2 => by
  subst hb;refine (enter_any s ok g _ (HRD.out.fresh hf).blk hsb).mono ?_;rintro x w' ⟨hx, ht, hb⟩;rw [HS1.out] at hb;exact ⟨hx, (hf.mono fun _ h => h.elim).trans ht, (HRD.out.fresh hf).turn ht hb, ht.blk h1 fun h => by omega, ht.blk h2 fun h => by omega⟩)
 clear HOK HKD HTX hsb HS1
 rcases hways with ⟨d1, e1⟩ | ⟨d1, rfl, e1⟩ | ⟨d1, rfl, e1⟩
 focus
  go_wp2_with fail
  refine (HEN.out _ HF2.out _ e1 HBE2.out HBR2.out).mono ?_
 rotate_left
 focus
  go_wp2_with fail
  refine (HEN.out _ HF2.out _ e1 HBE2.out HBR2.out).mono ?_
 rotate_left
 focus
  go_wp2_with fail
  refine (HSL.out _ (HR0.out.fresh (HRD.out.fr.trans HF2.out))).mono ?_;rintro _ w4 ⟨rfl, hf4⟩;have HF4 := hid (HF2.out.trans hf4);have HBE4 := hid (hf4.blk HBE2.out fun h => h);have HBR4 := hid (hf4.blk HBR2.out fun h => h);clear hf4 HF2 HBE2 HBR2 q0 q1 q2 q3 hlt2;go_wp2_with fail
  refine (HEN.out _ HF4.out _ e1 HBE4.out HBR4.out).mono ?_
 all_goals
  rintro _ w3 ⟨rfl, ht3, hrd3, hbe3, hbr3⟩;have HT3 := hid ht3;have HRD3 := hid hrd3;have HBE3 := hid hbe3;have HBR3 := hid hbr3;clear ht3 hrd3 hbe3 hbr3 HEN HRD HSL e1 d1;obtain ⟨bO, hbO⟩ : ∃ b, b = w3.heap.size := ⟨_, rfl⟩;have HO := hid hbO;have hO1 : w.heap.size + 2 ≤ bO := by have := HBR3.out.lt; omega
  clear hbO;have k12 : (K == (12 : Int)) = false := by rw [beq_eq_false_iff_ne]; exact HK.out
  have hk12' : ¬ K = 12 := HK.out;go_wp2_with fail
  rw [← HO.out]
  refine forget_world (fun W => Touch (fun k => k = g) w W ∧ Rdr W0 g s1 W ∧ Blk W w.heap.size 25 #[.string ⟨n.toArray⟩, .slice A ats.length ca, .slice Bk ks.length cb, .string ⟨t.toArray⟩] ∧ Blk W (w.heap.size + 1) 30 #[.int .i64 0, .string ⟨#[]⟩, .int .i64 0, .slice none 0 0] ∧
   Blk W bO 30 #[.int .i64 K, .string ⟨tx.toArray⟩, .int .i64 0, .slice none 0 0] ∧ bO + 1 ≤ W.heap.size) ⟨HT3.out.alloc _, HRD3.out.fresh ((Touch.refl _ _).alloc _), HBE3.out.alloc _, HBR3.out.alloc _, by rw [HO.out]; exact Blk.new _ _ _, by rw [HO.out]; simp⟩ ?_
  rintro W1 ⟨ht1, hrd1, hbe1, hbr1, hbo1, hs1⟩;have HT1 := hid ht1;have HRD1 := hid hrd1;have HBE1 := hid hbe1;have HBR1 := hid hbr1;have HBO1 := hid hbo1;have HG1 := hid (show GrowN (bO + 1) W1 [] (.slice none 0 0) from GrowN.nil hs1);clear ht1 hrd1 hbe1 hbr1 hbo1 hs1 HT3 HRD3 HBE3 HBR3 HO
  have HBD2 := hid (show (rRows nMrow ks s1).2.2 < 0 → ok = true from fun h => HBD.out (by
   rcases Int.lt_or_le s1.2 0 with h1 | h1
   ·exact h1
   ·rw [El.rRows_stop _ _ _ (by omega)] at h; exact h))
  have HEQ1 := hid (show (rRows nMrow ks s1) = ([] ++ (rRows nMrow (ks.drop 0) s1).1, (rRows nMrow (ks.drop 0) s1).2) by rw [List.drop_zero, List.nil_append]);clear HBD;generalize rRows nMrow ks s1 = RF at HEQ1 HRI HBD2
  go_loopw [9] (fun i wr => ∃ (j : Nat) (Ae : Option Addr) (ce : Nat) (ns : List Nd) (sj : Rd), i = .int .i64 j ∧ j ≤ ks.length ∧ Hid (ns.length = j) ∧ Hid (Blk wr w.heap.size 25 #[.string ⟨n.toArray⟩, .slice A ats.length ca, .slice Bk ks.length cb, .string ⟨t.toArray⟩]) ∧ Hid (Blk wr (w.heap.size + 1) 30 #[.int .i64 0, .string ⟨#[]⟩, .int .i64 0, .slice none 0 0]) ∧
   Hid (Blk wr bO 30 #[.int .i64 K, .string ⟨tx.toArray⟩, .int .i64 0, .slice Ae j ce]) ∧ Hid (GrowN (bO + 1) wr ns (.slice Ae j ce)) ∧ Hid (Touch (fun k => k = g) w wr) ∧ Hid (Rdr W0 g sj wr) ∧ Hid (sj.1 + El.countL (ks.drop j) ≤ 100000) ∧
   Hid (RF = (ns ++ (rRows nMrow (ks.drop j) sj).1, (rRows nMrow (ks.drop j) sj).2))) (fun i _ => ks.length - (intOf i).toNat)
  case atStart => exact ⟨0, none, 0, [], s1, rfl, Nat.zero_le _, hid rfl, HBE1, HBR1, HBO1, HG1, HT1, HRD1, HCN2, HEQ1⟩
  case round =>
   obtain ⟨j, Ae, ce, ns, ⟨sa, sc⟩, rfl, hj, HNL, HBE, HBR, HBO, HG, HT, HRD, HCS, HEQ⟩ := hrel;rename_i wr _;have hsz := HT.out.size;have hgs := HRD.out.lt;obtain ⟨c0, _, e2, _, _, _, _, _, hle⟩ := Blk.four HBE.out;obtain ⟨_, r1, _, _, _⟩ := Blk.two (x0 := .int .i64 (sa : Int)) (x1 := .int .i64 sc) HRD.out.blk
   by_cases c1 : j < ks.length ∧ sc < 0
   ·have d1 : decide ((j : Int) < (ks.length : Int)) = true := dT (by omega)
    have d1n : decide (j < ks.length) = true := dT c1.1;have d1' : (j : Int) < (ks.length : Int) := by omega
    have d2 : decide (sc < (0 : Int)) = true := dT c1.2;have HC2 := hid c1.2;obtain ⟨hjl, _⟩ := c1;obtain ⟨_, _, _, u3, _, _, _, _, hlo⟩ := Blk.four HBO.out;obtain ⟨gx, o, xa, xk, rfl, hek⟩ := HKE.out.elAt j hjl;have HEK := hid hek;have HMEM := hid (List.getElem_mem hjl);have HC := hid (HIH.out _ HMEM.out);have HPX := hid (HPK.out _ HMEM.out);have HDC := hid (El.countL_drop ks j hjl);have HDR := hid (List.drop_eq_getElem_cons hjl);have HNX := hid (El.next_row nMrow ks[j] (sa, sc));obtain ⟨hgx, x0, x1, x2, x3, hxr⟩ := hek.fresh HRD.out.fr;have hgxg : gx ≠ g := by have := hek.1; omega
    clear hek HMEM hxr hgx c0;generalize ks[j] = x at *;go_wp2_with fail
    have k0 := cT (S := fun k => k = g) e2 (by omega);have k3 := cT (S := fun k => k = g) u3 (by omega);have y0 := cT (S := fun k => k = g) x0 hgxg;have y1 := cT (S := fun k => k = g) x1 hgxg;have y2 := cT (S := fun k => k = g) x2 hgxg;have y3 := cT (S := fun k => k = g) x3 hgxg;clear e2 u3 r1 x0 x1 x2 x3 d1 d1n d2
    refine wp_region_planC (fun W => ∃ x : Turned (fun k => k = g) wr, W = x.W) (Plan.of [(0, true), (1, true), (2, true), (3, true), (4, true), (5, true), (6, true), (7, true), (9, true)] (.fork 8 (.lone 10 .nil) 10 (.lone 8 .nil))) [0, 1, 2, 3, 4, 5, 6, 7, 8, 9, 10] 11 (Array.replicate 11 true ++ Array.replicate 5 false) (fun _ => True)
     (Plan.of [(12, true), (14, true)] (.fork 13 (.lone 15 .nil) 15 (.lone 13 .nil))) [12, 13, 14, 15] (Array.replicate 16 true) (by kernel_rfl) (fun _ _ d _ _ h => by cases d <;> exact h) (by kernel_rfl) ⟨⟨_, (Touch.refl _ _).drewN 1⟩, rfl⟩ ?_
    unfold Plan.of
    repeat (refine wpPlan_plain rfl (fun K hK => ?_); go_simp; refine hK _ ?_; clear hK K; first | done | unfold Plan.of)
    clear k0 k3 y0 y1 y2 y3;refine wpPlan_fork ?_ ?_
    focus
     refine wpPlan_lone rfl (fun K hK => ?_);go_wp2_with fail
     refine (HC.out nMrow (sa, sc) xa xk _ (by decide) HC2.out (by have := HCS.out; have := HDC.out; omega) HPX.out HEK.out.2.2.2.2.2 (HRD.out.fresh ((Touch.refl _ _).drewN 1))).mono ?_;rintro _ w6 ⟨v6, rfl, ⟨sl, rfl, ht6, htl6, hst6⟩, hrd6⟩;have HT6 := hid (show Touch (fun k => k = g) wr w6 from ((Touch.refl _ wr).drewN 1).trans ht6);have HST6 := hid (show Stab (fun k => k < wr.heap.size) w6 fun W => RepL W (rRow nMrow x (sa, sc)).1.kids sl from hst6);have HTL6 := hid htl6;have HRD6 := hid hrd6;obtain ⟨Ak, ck, rfl⟩ := hst6.now.slice;clear ht6 hst6 htl6 hrd6;go_wp2_with fail
     refine hK _ _ ⟨⟨_, HT6.out⟩, rfl⟩ ?_;clear hK K;refine wpPlan_lone rfl (fun K hK => ?_);go_wp2_with fail
     refine hK _ _ ⟨⟨_, HT6.out.alloc _⟩, rfl⟩ ?_;clear hK K;have HBV := hid (Blk.new w6 30 #[.int .i64 0, .string ⟨#[]⟩, .int .i64 0, .slice none 0 0]);have HTA := hid (HT6.out.alloc (.cells #[.int .i64 0, .string ⟨#[]⟩, .int .i64 0, .slice none 0 0] 30));have HRDA := hid (HRD6.out.fresh ((Touch.refl _ w6).alloc (.cells #[.int .i64 0, .string ⟨#[]⟩, .int .i64 0, .slice none 0 0] 30)));have HSTA := hid (HST6.out.fresh ((Touch.refl _ w6).alloc (.cells #[.int .i64 0, .string ⟨#[]⟩, .int .i64 0, .slice none 0 0] 30)));generalize (w6.alloc (.cells #[.int .i64 0, .string ⟨#[]⟩, .int .i64 0, .slice none 0 0] 30)) = wA at HBV HTA HRDA HSTA ⊢;obtain ⟨bz, hbz⟩ : ∃ b, b = w6.heap.size := ⟨_, rfl⟩;rw [← hbz] at HBV ⊢;clear hbz HT6 HST6 HRD6
    rotate_left
    focus
     refine wpPlan_lone rfl (fun K hK => ?_);go_wp2_with fail
     refine hK _ _ ⟨⟨_, ((Touch.refl _ wr).drewN 1).alloc _⟩, rfl⟩ ?_;clear hK K;have HBV6 := hid (show Blk ((wr.drewN 1).alloc (.cells #[.int .i64 0, .string ⟨#[]⟩, .int .i64 0, .slice none 0 0] 30)) wr.heap.size 30 #[.int .i64 0, .string ⟨#[]⟩, .int .i64 0, .slice none 0 0] from Blk.new (wr.drewN 1) 30 #[.int .i64 0, .string ⟨#[]⟩, .int .i64 0, .slice none 0 0]);have HF6 := hid (show Fresh wr ((wr.drewN 1).alloc (.cells #[.int .i64 0, .string ⟨#[]⟩, .int .i64 0, .slice none 0 0] 30)) from ((Touch.refl _ wr).drewN 1).alloc _);have HT6 := hid (show Touch (fun k => k = g) wr ((wr.drewN 1).alloc (.cells #[.int .i64 0, .string ⟨#[]⟩, .int .i64 0, .slice none 0 0] 30)) from ((Touch.refl _ wr).drewN 1).alloc _);generalize ((wr.drewN 1).alloc (.cells #[.int .i64 0, .string ⟨#[]⟩, .int .i64 0, .slice none 0 0] 30)) = w6 at HBV6 HF6 HT6 ⊢;obtain ⟨bz, hbz⟩ : ∃ b, b = wr.heap.size := ⟨_, rfl⟩;have HGZ := hid (show wr.heap.size ≠ g by omega);refine wpPlan_lone rfl (fun K hK => ?_);go_wp2_with fail
     refine (HC.out nMrow (sa, sc) xa xk _ (by decide) HC2.out (by have := HCS.out; have := HDC.out; omega) HPX.out HEK.out.2.2.2.2.2 (HRD.out.fresh HF6.out)).mono ?_;rintro _ wA ⟨v6, rfl, ⟨sl, rfl, ht6, htl6, hst6⟩, hrd6⟩;have HTA := hid (show Touch (fun k => k = g) wr wA from HT6.out.trans ht6);have HSTA := hid (show Stab (fun k => k < wr.heap.size) wA fun W => RepL W (rRow nMrow x (sa, sc)).1.kids sl from hst6.mono fun i _ hi => Nat.lt_of_lt_of_le hi HF6.out.size);have HTL6 := hid htl6;have HRDA := hid hrd6;obtain ⟨Ak, ck, rfl⟩ := hst6.now.slice;have HBV := hid (ht6.blk HBV6.out HGZ.out);clear ht6 hst6 htl6 hrd6;go_wp2_with fail
     refine hK _ _ ⟨⟨_, HTA.out⟩, rfl⟩ ?_;clear hK K;rw [← hbz] at HBV ⊢;clear hbz HT6 HBV6 HF6 HGZ
    all_goals
     have HEQ2 := hid (show RF = ((ns ++ [(rRow nMrow x (sa, sc)).1]) ++ (rRows nMrow (ks.drop (j + 1)) (rRow nMrow x (sa, sc)).2).1, (rRows nMrow (ks.drop (j + 1)) (rRow nMrow x (sa, sc)).2).2) by
      rw [HEQ.out, HDR.out, rRows, if_pos HC2.out, List.append_assoc]; rfl)
     have HCS2 := hid (show (rRow nMrow x (sa, sc)).2.1 + El.countL (ks.drop (j + 1)) ≤ 100000 by have := HCS.out; have := HDC.out; have := HNX.out; omega);clear HEQ HC HDR HNX HCS HDC;generalize rRow nMrow x (sa, sc) = R at *;obtain ⟨m, sb⟩ := R;simp only at *;have HGA := hid (HG.out.mv HTA.out fun k hk _ => by omega);have HOW := hid HG.out.own_lt;have HBEA := hid (HTA.out.blk HBE.out fun h => by omega);have HBOA := hid (HTA.out.blk HBO.out fun h => by omega);have HBRA := hid (HTA.out.blk HBR.out fun h => by omega);have HB5 := hid HG.out.1;have HAP := hid (HG.out.apart HBE.out (by decide));refine wpPlan_shut2 rfl (fun K hK => ?_)
     go_wp2_with (at_builtin; go_loud (refine wpList_append_zero rfl (.tmp 73) (.tmp 82) rfl HGA.out HNL.out (by simp [Act.eval]) m HBV.out (by simp [Act.eval]) wr.heap.size HB5.out (fun k hk => (HOW.out k hk).2) HTL6.out HSTA.out (by omega) ?_); intro A8 c8 w8 hg8 ht8 _; refine Stay.mk ?_)
     obtain ⟨g8, cap8, hv8, hcap8, hg8B, hg8l, a0, a1, a2, a3, f0, f1, f2, f3⟩ := hg8.cells HNL.out;cases hv8;have HBE8 := hid (ht8.blk HBEA.out fun h => HAP.out h);have hbo8 := ht8.blk HBOA.out fun h => by have := (HOW.out _ h).1; omega
     have HBR8 := hid (ht8.blk HBRA.out fun h => by have := (HOW.out _ h).1; omega);have HRD8 := hid (HRDA.out.move ht8 (fun h => by have := (HOW.out _ h).1; omega) fun k hk => by have := (HOW.out _ hk).1; omega);have HT8 := hid (show Touch (fun k => k = g) w w8 from (HT.out.trans HTA.out).trans' ht8 fun k hk => .inr (by have := (HOW.out _ hk).1; omega));have HST := hid (hg8.stores HNL.out hbo8 (Nat.lt_succ_self bO));obtain ⟨_, _, _, q3, _, _, _, z3, hlt8⟩ := Blk.four hbo8;have hne : bO ≠ g8 := by omega
     have hne' : g8 ≠ bO := by omega
     have hr1 : (j : Int) < (j : Int) + 1 := by omega
     have HAP8 := hid (hg8.apart HBE8.out (by decide));clear ht8 hbo8 hg8;refine Stay.go ?_;go_wp2_with fail
     refine hK _ _ trivial ?_;clear hK K
     repeat (refine wpPlan_plain rfl (fun K hK => ?_); go_simp; refine hK _ ?_; clear hK K)
     refine wpPlan_fork ?_ ?_
     focus
      refine wpPlan_lone rfl (fun K hK => ?_);go_wp2_with fail
      refine hK _ _ trivial ?_;clear hK K;refine wpPlan_lone rfl (fun K hK => ?_);go_wp2_with fail
      refine hK _ _ trivial ?_;clear hK K;have HT9 := hid (HST.out.1 _ rfl);unfold putAt4 at HT9;clear a0 a1 a2 a3 f0 f1 f2 f3 q3 z3 HST;generalize World.setCell _ ⟨bO, 3, none⟩ _ = W9 at HT9 ⊢
     rotate_left
     focus
      refine wpPlan_lone rfl (fun K hK => ?_);go_wp2_with fail
      refine hK _ _ trivial ?_;clear hK K;refine wpPlan_lone rfl (fun K hK => ?_);go_wp2_with fail
      refine hK _ _ trivial ?_;clear hK K;have HT9 := hid (HST.out.2 _ rfl);unfold putAt4 at HT9;clear a0 a1 a2 a3 f0 f1 f2 f3 q3 z3 HST;generalize World.setCell _ ⟨g8, j * 4 + 3, none⟩ _ = W9 at HT9 ⊢
     all_goals
      refine wpPlan_nil ?_;go_wp2_with fail
      obtain ⟨hb9, hg9, ht9⟩ := HT9.out
      exact ⟨⟨j + 1, some ⟨g8, 0, none⟩, c8, ns ++ [m], sb, by simp, by omega, hid (by rw [List.length_append, HNL.out]; rfl), hid (ht9.blk HBE8.out fun h => h.elim (fun h => HAP8.out (by rw [h]; rfl)) fun h => by omega), hid (ht9.blk HBR8.out fun h => by omega), hid hb9, hid hg9, hid (HT8.out.trans' ht9 fun i hi => .inr (by omega)),
       hid (HRD8.out.move ht9 (by omega) fun i hi => by omega), HCS2, HEQ2⟩, by simp [intOf]; omega⟩
   ·have hend : rRows nMrow (ks.drop j) (sa, sc) = ([], (sa, sc)) := by
     by_cases c2 : j < ks.length
     ·exact El.rRows_stop _ _ _ fun h => c1 ⟨c2, h⟩
     ·rw [List.drop_of_length_le (by omega), rRows]
    have HFIN := hid (show RF = (ns, (sa, sc)) by rw [HEQ.out, hend, List.append_nil]);clear hend HEQ;clear hl2
    by_cases h6 : K = 6 ∧ sc < 0
    ·have hjk : j = ks.length := by
      rcases Nat.lt_or_ge j ks.length with h | h
      ·exact absurd ⟨h, h6.2⟩ c1
      ·omega
     have hsq := HSB.out h6.1 (HBD2.out (by rw [HFIN.out]; exact h6.2));have HE3 := hid (HE2.out ns sc h6.1 h6.2);have d1 : decide ((j : Int) < (ks.length : Int)) = false := dF (by omega);have d1n : decide (j < ks.length) = false := dF (by omega);have d2 : decide (sc < (0 : Int)) = true := dT h6.2;obtain ⟨h6a, h6b⟩ := h6;subst h6a
     rcases hsq with ⟨hnm, hkl⟩ | ⟨hnm, hkl⟩
     ·have dn : (n == ([109, 115, 113, 114, 116] : List UInt8)) = true := by rw [beq_iff_eq]; exact hnm
      rw [hkl] at hjk;subst hjk
      obtain ⟨x, hx⟩ : ∃ x, ns = [x] := by
       have := HNL.out
       match ns, this with
       | [x], _ => exact ⟨x, rfl⟩
      subst hx;obtain ⟨_, _, _, u3, _, _, _, _, hlo⟩ := Blk.four HBO.out;go_wp2_with fail
      have k3 := cT (S := fun k => k = g) u3 (by omega);clear e2 u3 r1 d1 d1n d2 dn c0
      refine wp_region_planC (fun W => ∃ x : Turned (fun k => k = g) wr, W = x.W) (Plan.of [(0, true), (1, true), (2, true), (3, true)] (.lone 4 .nil)) [0, 1, 2, 3, 4] 5 (Array.replicate 5 true ++ Array.replicate 5 false) (fun _ => True)
       (Plan.of [(6, true), (8, true)] (.fork 7 (.lone 9 .nil) 9 (.lone 7 .nil))) [6, 7, 8, 9] (Array.replicate 10 true) (by kernel_rfl) (fun _ _ d _ _ h => by cases d <;> exact h) (by kernel_rfl) ⟨⟨_, (Touch.refl _ _).drewN 1⟩, rfl⟩ ?_
      unfold Plan.of
      repeat (refine wpPlan_plain rfl (fun K hK => ?_); go_simp; refine hK _ ?_; clear hK K; first | done | unfold Plan.of)
      clear k3;refine wpPlan_lone rfl (fun K hK => ?_);go_wp2_with fail
      refine hK _ _ ⟨⟨_, ((Touch.refl _ wr).drewN 1).alloc _⟩, rfl⟩ ?_;clear hK;have HBV := hid (show Blk ((wr.drewN 1).alloc (.cells #[.int .i64 0, .string ⟨#[]⟩, .int .i64 0, .slice none 0 0] 30)) wr.heap.size 30 #[.int .i64 0, .string ⟨#[]⟩, .int .i64 0, .slice none 0 0] from Blk.new (wr.drewN 1) 30 #[.int .i64 0, .string ⟨#[]⟩, .int .i64 0, .slice none 0 0]);have HFA := hid (show Fresh wr ((wr.drewN 1).alloc (.cells #[.int .i64 0, .string ⟨#[]⟩, .int .i64 0, .slice none 0 0] 30)) from ((Touch.refl _ wr).drewN 1).alloc _);generalize ((wr.drewN 1).alloc (.cells #[.int .i64 0, .string ⟨#[]⟩, .int .i64 0, .slice none 0 0] 30)) = wA at HBV HFA ⊢;have HGA := hid (HG.out.fresh HFA.out);have HOW := hid HG.out.own_lt;have HBEA := hid (HFA.out.blk HBE.out fun h => h);have HBOA := hid (HFA.out.blk HBO.out fun h => h);have HBRA := hid (HFA.out.blk HBR.out fun h => h);have HB5 := hid HG.out.1;have HST0 := hid (show Stab (fun k => k < wr.heap.size) wA fun W => RepL W (rowNil).kids (.slice none 0 0) from fun _ _ => RepL.nil _ _);refine wpPlan_shut2 rfl (fun K hK => ?_)
      go_wp2_with (at_builtin; go_loud (refine wpList_append_zero rfl (.tmp 99) (.tmp 102) rfl HGA.out rfl (by simp [Act.eval]) rowNil HBV.out (by simp [Act.eval]) wr.heap.size HB5.out (fun k hk => (HOW.out k hk).2) (Nat.zero_le _) HST0.out (by show 1 < 2 ^ 40; decide) ?_); intro A8 c8 w8 hg8 ht8 _; refine Stay.mk ?_)
      obtain ⟨g8, cap8, hv8, hcap8, hg8B, hg8l, a0, a1, a2, a3, f0, f1, f2, f3⟩ := hg8.cells (n := 1) rfl;replace a0 : w8.cell? ⟨g8, 4, none⟩ = some (.int .i64 0) := a0;replace a1 : w8.cell? ⟨g8, 5, none⟩ = some (.string ⟨#[]⟩) := a1;replace a2 : w8.cell? ⟨g8, 6, none⟩ = some (.int .i64 0) := a2;replace a3 : w8.cell? ⟨g8, 7, none⟩ = some (.slice none 0 0) := a3;replace f0 : w8.frozen? ⟨g8, 4, none⟩ = false := f0;replace f1 : w8.frozen? ⟨g8, 5, none⟩ = false := f1;replace f2 : w8.frozen? ⟨g8, 6, none⟩ = false := f2;replace f3 : w8.frozen? ⟨g8, 7, none⟩ = false := f3;cases hv8;have HBE8 := hid (ht8.blk HBEA.out fun h => by have := (HOW.out _ h).1; omega);have hbo8 := ht8.blk HBOA.out fun h => by have := (HOW.out _ h).1; omega
      have HBR8 := hid (ht8.blk HBRA.out fun h => by have := (HOW.out _ h).1; omega);have HRD8 := hid ((HRD.out.fresh HFA.out).move ht8 (fun h => by have := (HOW.out _ h).1; omega) fun k hk => by have := (HOW.out _ hk).1; omega);have HT8 := hid (show Touch (fun k => k = g) w w8 from (HT.out.trans' HFA.out (fun _ h => h.elim)).trans' ht8 fun k hk => .inr (by have := (HOW.out _ hk).1; omega));have HST := hid (hg8.stores (n := 1) rfl hbo8 (Nat.lt_succ_self bO));obtain ⟨_, _, _, q3, _, _, _, z3, hlt8⟩ := Blk.four hbo8;have hne : bO ≠ g8 := by omega
      have hne' : g8 ≠ bO := by omega
      clear ht8 hbo8 hg8;refine Stay.go ?_;go_wp2_with fail
      refine hK _ _ trivial ?_;clear hK
      repeat (refine wpPlan_plain rfl (fun K hK => ?_); go_simp; refine hK _ ?_; clear hK K)
      refine wpPlan_fork ?_ ?_
      focus
       refine wpPlan_lone rfl (fun K hK => ?_);go_wp2_with fail
       refine hK _ _ trivial ?_;clear hK;refine wpPlan_lone rfl (fun K hK => ?_);go_wp2_with fail
       refine hK _ _ trivial ?_;clear hK;have HT9 := hid (HST.out.1 _ rfl);unfold putAt4 at HT9;simp only [rowNil, Nd.kind, Nd.text, Nd.cols, Nat.reduceMul, Nat.reduceAdd] at HT9;clear a0 a1 a2 a3 f0 f1 f2 f3 q3 z3 HST;generalize World.setCell _ ⟨bO, 3, none⟩ _ = W9 at HT9 ⊢
      rotate_left
      focus
       refine wpPlan_lone rfl (fun K hK => ?_);go_wp2_with fail
       refine hK _ _ trivial ?_;clear hK;refine wpPlan_lone rfl (fun K hK => ?_);go_wp2_with fail
       refine hK _ _ trivial ?_;clear hK;have HT9 := hid (HST.out.2 _ rfl);unfold putAt4 at HT9;simp only [rowNil, Nd.kind, Nd.text, Nd.cols, Nat.reduceMul, Nat.reduceAdd] at HT9;clear a0 a1 a2 a3 f0 f1 f2 f3 q3 z3 HST;generalize World.setCell _ ⟨g8, 7, none⟩ _ = W9 at HT9 ⊢
      all_goals
       refine wpPlan_nil ?_;go_wp2_with fail
       obtain ⟨hb9, hg9, ht9⟩ := HT9.out;have HBO := hid hb9;have HG := hid (show GrowN (bO + 1) W9 [x, rowNil] (.slice (some ⟨g8, 0, none⟩) 2 c8) from hg9);have HBE := hid (ht9.blk HBE8.out fun h => by omega);have HBR := hid (ht9.blk HBR8.out fun h => by omega);have HT := hid (show Touch (fun k => k = g) w W9 from HT8.out.trans' ht9 fun i hi => .inr (by omega));have HRD := hid (HRD8.out.move ht9 (by omega) fun i hi => by omega);clear hb9 hg9 ht9 HT9;obtain ⟨gS, cS, sx, sy, ⟨Ax, nx, cx, rfl⟩, ⟨Ay, ny, cy, rfl⟩, hvS, hcS, hgB, hgl, hfz, ⟨a0, a1, a2, a3⟩, ⟨b0, b1, b2, b3⟩, hgN⟩ := (HG.out.fresh ((Touch.refl (fun _ => False) W9).drewN 1)).two;cases hvS;obtain ⟨_, _, _, u3, _, _, _, _, hlo⟩ := Blk.four HBO.out;have hgl9 : g8 < W9.heap.size := hgl;have HGN := hid hgN;have HTW := hid (show Touch (fun k => k = g8) W9 _ from (((Touch.refl (fun k => k = g8) W9).drewN 1).trans (touchAt4 (W9.drewN 1) g8 0 (.int .i64 rowNil.kind) (.string ⟨rowNil.text.toArray⟩) (.int .i64 rowNil.cols) (.slice Ay ny cy))).trans (touchAt4 _ g8 4 (.int .i64 x.kind) (.string ⟨x.text.toArray⟩) (.int .i64 x.cols) (.slice Ax nx cx)));have k3 := cR u3;have m0 := cR (show W9.cell? ⟨g8, 0, none⟩ = _ from a0);have m1 := cR (show W9.cell? ⟨g8, 1, none⟩ = _ from a1);have m2 := cR (show W9.cell? ⟨g8, 2, none⟩ = _ from a2);have m3 := cR (show W9.cell? ⟨g8, 3, none⟩ = _ from a3);have m4 := cR (show W9.cell? ⟨g8, 4, none⟩ = _ from b0);have m5 := cR (show W9.cell? ⟨g8, 5, none⟩ = _ from b1);have m6 := cR (show W9.cell? ⟨g8, 6, none⟩ = _ from b2);have m7 := cR (show W9.cell? ⟨g8, 7, none⟩ = _ from b3);have hbg : bO ≠ g8 := by omega
       clear hgN u3 hlo;refine wp_region_mix [([(0, true), (1, true), (2, true), (3, true), (4, true), (5, true), (6, true), (7, true), (8, true), (9, true), (10, true), (11, true), (12, true)], 13), ([(14, true)], 15)] [] (by kernel_rfl) (fun _ _ d _ _ h => by cases d <;> exact h) (by kernel_rfl) ?_;refine wpMix_seg ?_
       repeat (refine wpSeq_plain rfl (fun K hK => ?_); go_simp; refine hK _ ?_; clear hK K)
       clear k3 m0 m1 m2 m3 m4 m5 m6 m7;have f0 := hfz 0;have f1 := hfz 1;have f2 := hfz 2;have f3 := hfz 3;have f4 := hfz 4;have f5 := hfz 5;have f6 := hfz 6;have f7 := hfz 7;refine wpSeq_shut rfl (fun K hK => ?_);go_wp2_with fail
       refine wpMix_seg ?_
       repeat (refine wpSeq_plain rfl (fun K hK => ?_); go_simp; refine hK _ ?_; clear hK K)
       refine wpSeq_shut rfl (fun K hK => ?_);go_wp2_with fail
       refine wpMix_end ?_;unfold putAt4 at HGN HTW;simp only [Nat.zero_add, Nat.reduceAdd] at HGN HTW;clear a0 a1 a2 a3 b0 b1 b2 b3 f0 f1 f2 f3 f4 f5 f6 f7 hfz hgl;generalize World.setCell _ ⟨g8, 7, none⟩ _ = WF at HGN HTW ⊢;have HBOF := hid (HTW.out.blk HBO.out fun h => by omega);have HBRF := hid (HTW.out.blk HBR.out fun h => by omega);have HTF := hid (show Touch (fun k => k = g) w WF from HT.out.trans' HTW.out fun i hi => .inr (by omega));have HRDF := hid (HRD.out.move HTW.out (by omega) fun i hi => by omega);obtain ⟨u0, u1, u2, u3, _, _, _, _, hlo⟩ := Blk.four HBOF.out;obtain ⟨p0, p1, p2, p3, y0, y1, y2, y3, hlp⟩ := Blk.four HBRF.out;have HG9 := hid (HGN.out.mv ((Touch.refl (fun k => k = w.heap.size + 1) WF).put4 (.inl rfl) (.int .i64 6) (.string ⟨tx.toArray⟩) (.int .i64 0) (.slice (some ⟨g8, 0, none⟩) 2 c8)) (fun k hk _ => by omega));obtain ⟨t0, t1, t2, t3, _, _, _, _, _⟩ := Blk.four (HBRF.out.self4 (.int .i64 6) (.string ⟨tx.toArray⟩) (.int .i64 0) (.slice (some ⟨g8, 0, none⟩) 2 c8));simp only [put4] at t0 t1 t2 t3;have HT9 := hid (Touch.put4 (g := w.heap.size + 1) HTF.out (.inr (by omega)) (.int .i64 6) (.string ⟨tx.toArray⟩) (.int .i64 0) (.slice (some ⟨g8, 0, none⟩) 2 c8));have HRD9 := hid (HRDF.out.move ((Touch.refl (fun k => k = w.heap.size + 1) WF).put4 (.inl rfl) (.int .i64 6) (.string ⟨tx.toArray⟩) (.int .i64 0) (.slice (some ⟨g8, 0, none⟩) 2 c8)) (by omega) fun k hk => by omega);go_wp2_with fail
       refine bodyPost_ret (v := .agg #[.int .i64 6, .string ⟨tx.toArray⟩, .int .i64 0, (.slice (some ⟨g8, 0, none⟩) 2 c8)]) (by simp [results, Tryz.results32, go_sem, t0, t1, t2, t3]) rfl ?_;refine ⟨_, rfl, ?_, ?_⟩
       ·rw [HRI.out, HFIN.out]
        rw [show El.endItem (E.mk n ats ks t) [x] sc = _ from HE3.out.trans (if_pos hnm)];refine ⟨.slice (some ⟨g8, 0, none⟩) 2 c8, rfl, HT9.out, HTL.out, ?_⟩;exact (HG9.out.done.mono fun i _ hi => by omega)
       ·rw [HRI.out, HFIN.out]
        exact HRD9.out
     ·have dn : (n == ([109, 115, 113, 114, 116] : List UInt8)) = false := by rw [beq_eq_false_iff_ne]; exact hnm
      rw [hkl] at hjk;subst hjk
      obtain ⟨x, y, hx⟩ : ∃ x y, ns = [x, y] := by
       have := HNL.out
       match ns, this with
       | [x, y], _ => exact ⟨x, y, rfl⟩
      subst hx;obtain ⟨_, _, _, u3, _, _, _, _, hlo⟩ := Blk.four HBO.out;obtain ⟨W9, hW9⟩ : ∃ W9, W9 = wr := ⟨_, rfl⟩;subst hW9;go_wp2_with fail
      clear e2 u3 r1 d1 d1n d2 dn c0 hlo;obtain ⟨gS, cS, sx, sy, ⟨Ax, nx, cx, rfl⟩, ⟨Ay, ny, cy, rfl⟩, hvS, hcS, hgB, hgl, hfz, ⟨a0, a1, a2, a3⟩, ⟨b0, b1, b2, b3⟩, hgN⟩ := (HG.out.fresh ((Touch.refl (fun _ => False) W9).drewN 1)).two;cases hvS;obtain ⟨_, _, _, u3, _, _, _, _, hlo⟩ := Blk.four HBO.out;have hgl9 : gS < W9.heap.size := hgl;have HGN := hid hgN;have HTW := hid (show Touch (fun k => k = gS) W9 _ from (((Touch.refl (fun k => k = gS) W9).drewN 1).trans (touchAt4 (W9.drewN 1) gS 0 (.int .i64 y.kind) (.string ⟨y.text.toArray⟩) (.int .i64 y.cols) (.slice Ay ny cy))).trans (touchAt4 _ gS 4 (.int .i64 x.kind) (.string ⟨x.text.toArray⟩) (.int .i64 x.cols) (.slice Ax nx cx)));have k3 := cR u3;have m0 := cR (show W9.cell? ⟨gS, 0, none⟩ = _ from a0);have m1 := cR (show W9.cell? ⟨gS, 1, none⟩ = _ from a1);have m2 := cR (show W9.cell? ⟨gS, 2, none⟩ = _ from a2);have m3 := cR (show W9.cell? ⟨gS, 3, none⟩ = _ from a3);have m4 := cR (show W9.cell? ⟨gS, 4, none⟩ = _ from b0);have m5 := cR (show W9.cell? ⟨gS, 5, none⟩ = _ from b1);have m6 := cR (show W9.cell? ⟨gS, 6, none⟩ = _ from b2);have m7 := cR (show W9.cell? ⟨gS, 7, none⟩ = _ from b3);have hbg : bO ≠ gS := by omega
      clear hgN u3 hlo;refine wp_region_mix [([(0, true), (1, true), (2, true), (3, true), (4, true), (5, true), (6, true), (7, true), (8, true), (9, true), (10, true), (11, true), (12, true)], 13), ([(14, true)], 15)] [] (by kernel_rfl) (fun _ _ d _ _ h => by cases d <;> exact h) (by kernel_rfl) ?_;refine wpMix_seg ?_
      repeat (refine wpSeq_plain rfl (fun K hK => ?_); go_simp; refine hK _ ?_; clear hK K)
      clear k3 m0 m1 m2 m3 m4 m5 m6 m7;have f0 := hfz 0;have f1 := hfz 1;have f2 := hfz 2;have f3 := hfz 3;have f4 := hfz 4;have f5 := hfz 5;have f6 := hfz 6;have f7 := hfz 7;refine wpSeq_shut rfl (fun K hK => ?_);go_wp2_with fail
      refine wpMix_seg ?_
      repeat (refine wpSeq_plain rfl (fun K hK => ?_); go_simp; refine hK _ ?_; clear hK K)
      refine wpSeq_shut rfl (fun K hK => ?_);go_wp2_with fail
      refine wpMix_end ?_;unfold putAt4 at HGN HTW;simp only [Nat.zero_add, Nat.reduceAdd] at HGN HTW;clear a0 a1 a2 a3 b0 b1 b2 b3 f0 f1 f2 f3 f4 f5 f6 f7 hfz hgl;generalize World.setCell _ ⟨gS, 7, none⟩ _ = WF at HGN HTW ⊢;have HBOF := hid (HTW.out.blk HBO.out fun h => by omega);have HBRF := hid (HTW.out.blk HBR.out fun h => by omega);have HTF := hid (show Touch (fun k => k = g) w WF from HT.out.trans' HTW.out fun i hi => .inr (by omega));have HRDF := hid (HRD.out.move HTW.out (by omega) fun i hi => by omega);obtain ⟨u0, u1, u2, u3, _, _, _, _, hlo⟩ := Blk.four HBOF.out;obtain ⟨p0, p1, p2, p3, y0, y1, y2, y3, hlp⟩ := Blk.four HBRF.out;have HG9 := hid (HGN.out.mv ((Touch.refl (fun k => k = w.heap.size + 1) WF).put4 (.inl rfl) (.int .i64 6) (.string ⟨tx.toArray⟩) (.int .i64 0) (.slice (some ⟨gS, 0, none⟩) 2 ce)) (fun k hk _ => by omega));obtain ⟨t0, t1, t2, t3, _, _, _, _, _⟩ := Blk.four (HBRF.out.self4 (.int .i64 6) (.string ⟨tx.toArray⟩) (.int .i64 0) (.slice (some ⟨gS, 0, none⟩) 2 ce));simp only [put4] at t0 t1 t2 t3;have HT9 := hid (Touch.put4 (g := w.heap.size + 1) HTF.out (.inr (by omega)) (.int .i64 6) (.string ⟨tx.toArray⟩) (.int .i64 0) (.slice (some ⟨gS, 0, none⟩) 2 ce));have HRD9 := hid (HRDF.out.move ((Touch.refl (fun k => k = w.heap.size + 1) WF).put4 (.inl rfl) (.int .i64 6) (.string ⟨tx.toArray⟩) (.int .i64 0) (.slice (some ⟨gS, 0, none⟩) 2 ce)) (by omega) fun k hk => by omega);go_wp2_with fail
      refine bodyPost_ret (v := .agg #[.int .i64 6, .string ⟨tx.toArray⟩, .int .i64 0, (.slice (some ⟨gS, 0, none⟩) 2 ce)]) (by simp [results, Tryz.results32, go_sem, t0, t1, t2, t3]) rfl ?_;refine ⟨_, rfl, ?_, ?_⟩
      ·rw [HRI.out, HFIN.out]
       rw [show El.endItem (E.mk n ats ks t) [x, y] sc = _ from HE3.out.trans (if_neg hnm)];refine ⟨.slice (some ⟨gS, 0, none⟩) 2 ce, rfl, HT9.out, HTL.out, ?_⟩;exact (HG9.out.done.mono fun i _ hi => by omega)
      ·rw [HRI.out, HFIN.out]
       exact HRD9.out
    ·have hno : ¬ (K = 6 ∧ sc < 0) := h6
     have HNO := hid hno
     have hways2 : ((decide ((j : Int) < (ks.length : Int)) = false ∧ decide (j < ks.length) = false) ∨ ((decide ((j : Int) < (ks.length : Int)) = true ∧ decide (j < ks.length) = true) ∧ decide (sc < (0 : Int)) = false)) ∧ ((K == (6 : Int)) = false ∨ ((K == (6 : Int)) = true ∧ decide (sc < (0 : Int)) = false)) := by
      constructor
      ·by_cases c2 : j < ks.length
       ·exact .inr ⟨⟨dT (by omega), dT c2⟩, dF fun h => c1 ⟨c2, h⟩⟩
       ·exact .inl ⟨dF (by omega), dF c2⟩
      ·by_cases c3 : K = 6
       ·exact .inr ⟨by rw [beq_iff_eq]; exact c3, dF fun h => hno ⟨c3, h⟩⟩
       ·exact .inl (by rw [beq_eq_false_iff_ne]; exact c3)
     clear hno h6
     rcases hways2 with ⟨⟨d1, d1n⟩ | ⟨⟨d1, d1n⟩, d2⟩, d6 | ⟨d6, d3⟩⟩
     all_goals
      have hno := HNO.out;obtain ⟨u0, u1, u2, u3, _, _, _, _, hlo⟩ := Blk.four HBO.out;obtain ⟨p0, p1, p2, p3, y0, y1, y2, y3, hlp⟩ := Blk.four HBR.out;have HG9 := hid (HG.out.mv ((Touch.refl (fun k => k = w.heap.size + 1) wr).put4 (.inl rfl) (.int .i64 K) (.string ⟨tx.toArray⟩) (.int .i64 0) (.slice Ae j ce)) (fun k hk _ => by omega));obtain ⟨t0, t1, t2, t3, _, _, _, _, _⟩ := Blk.four (HBR.out.self4 (.int .i64 K) (.string ⟨tx.toArray⟩) (.int .i64 0) (.slice Ae j ce));simp only [put4] at t0 t1 t2 t3;have HT9 := hid (Touch.put4 (g := w.heap.size + 1) HT.out (.inr (by omega)) (.int .i64 K) (.string ⟨tx.toArray⟩) (.int .i64 0) (.slice Ae j ce));have HRD9 := hid (HRD.out.move ((Touch.refl (fun k => k = w.heap.size + 1) wr).put4 (.inl rfl) (.int .i64 K) (.string ⟨tx.toArray⟩) (.int .i64 0) (.slice Ae j ce)) (by omega) fun k hk => by omega);go_wp2_with fail
      refine bodyPost_ret (v := .agg #[.int .i64 K, .string ⟨tx.toArray⟩, .int .i64 0, (.slice Ae j ce)]) (by simp [results, Tryz.results32, go_sem, t0, t1, t2, t3]) rfl ?_;refine ⟨_, rfl, ?_, ?_⟩
      ·rw [HRI.out, HFIN.out, HE1.out ns sc HNO.out]
       refine ⟨.slice Ae j ce, rfl, HT9.out, HTL.out, ?_⟩;exact (HG9.out.done.mono fun i _ hi => by omega)
      ·rw [HRI.out, HFIN.out]
       exact HRD9.out
end Go.Proofs.YtfnjcldgicohaaaGreat
