/- Part 30 of 33 of a proof; its texts, joined: MoO, XmP, XmF, XmG. No condition. -/
import Derived.Test.YtfnjcldgicohaaaGreatWa18
import Derived.Test.YtfnjcldgicohaaaGreatWa26
import Derived.Test.YtfnjcldgicohaaaGreatWa29
import Derived.Test.YtfnjcldgicohaaaGreatWa10
import Derived.Test.YtfnjcldgicohaaaGreatWa11
import Derived.Test.YtfnjcldgicohaaaGreatWa4
import Derived.Test.YtfnjcldgicohaaaGreatWa12
import Derived.Laws.Concat
set_option maxRecDepth 100000
set_option maxHeartbeats 4000000
namespace Go.Proofs.YtfnjcldgicohaaaGreat
open Go.RowKit
open Tr (Nd)
open El (E Attrs Rd refNodeF rRow rowNil nilNd)
attribute [local go_sem] stillV stillUpon
namespace El
theorem cnt_take (l : List Nd) (i : Nat) : Tr.countL (l.take i) ≤ Tr.countL l := Tr.countL_le l i
theorem cnt_mk (n : Bytes) (a : Attrs) (t : Bytes) (rs cs : List Nd) (c : Nat) (m : Nat) (h1 : Tr.countL rs ≤ m) (h2 : Tr.countL cs ≤ m) : Tr.count (mkN n a t rs cs c) ≤ m + 2 := by
 have h3 := cnt_take rs 1
 have h4 : Tr.countL ((rs.drop 1).take 1 ++ rs.take 1) ≤ Tr.countL rs := by
  match rs with
  | [] => exact Nat.le_refl _
  | [x] => simp [Tr.countL]
  | x :: y :: l => simp only [List.drop_succ_cons, List.drop_zero, List.take_succ_cons, List.take_zero, List.singleton_append, Tr.countL]; omega
 have h5 : Tr.count rowNil = 1 := by rw [rowNil, Tr.count, Tr.countL]
 unfold mkN
 repeat (split; · first | (rw [Tr.count, Tr.countL]; omega) | (rw [Tr.count, Tr.countL, h5]; omega) | (rw [Tr.count]; omega))
 rw [Tr.count]; omega
theorem cnt_both : ∀ (m : Nat) (l : List E), countL l ≤ m → Tr.countL (itemsN l) ≤ 2 * countL l ∧ Tr.countL (rowsN l) ≤ 2 * countL l ∧ Tr.countL (cellsN l) ≤ 2 * countL l := by
 intro m
 induction m with
 | zero =>
  intro l h;cases l with
  | nil => exact ⟨Nat.le_refl _, Nat.le_refl _, Nat.le_refl _⟩
  | cons x l => rw [countL] at h; have := count_pos x; omega
 | succ m ih =>
  intro l
  induction l with
  | nil => intro _; exact ⟨Nat.le_refl _, Nat.le_refl _, Nat.le_refl _⟩
  | cons x l ihl =>
   intro h;rw [countL] at h;obtain ⟨h1, h2, h3⟩ := ihl (by omega);have hk := count_kids x;obtain ⟨k1, k2, k3⟩ := ih x.kids (by omega);have hm := cnt_mk x.name x.attrs x.text (rowsN x.kids) (cellsN x.kids) (colsN x.kids) _ k2 k3;rw [← itemN_eq] at hm;obtain ⟨n, a, ks, t⟩ := x;refine ⟨?_, ?_, ?_⟩
   ·rw [itemsN, Tr.countL, countL]; omega
   ·have k1 : Tr.countL (itemsN ks) ≤ 2 * countL ks := k1
    have hk : count (.mk n a ks t) = 1 + countL ks := hk;rw [rowsN, Tr.countL, countL, Tr.count]; omega
   ·have k2 : Tr.countL (rowsN ks) ≤ 2 * countL ks := k2
    have hk : count (.mk n a ks t) = 1 + countL ks := hk
    have happ : ∀ a b : List Nd, Tr.countL (a ++ b) = Tr.countL a + Tr.countL b := by
     intro a b
     induction a with
     | nil => simp [Tr.countL]
     | cons x a ih => rw [List.cons_append, Tr.countL, Tr.countL, ih]; omega
    rw [cellsN, happ, countL]; omega
theorem cnt_row (e : E) : Tr.count (rowN e) ≤ 2 * count e := by
 have h := (cnt_both _ e.kids (Nat.le_refl _)).1;have hk := count_kids e;unfold rowN;rw [Tr.count]; omega
end El
theorem rValid23_any (e : E) (va vk : Value) (w : World) (hr : RepV w e va vk) (hc : El.count e ≤ 1000000) :
  Calls Tryz.prog 15 #[ev e va vk] w fun x w' => x = .returned (.bool (El.valid e)) ∧ Fresh w w' := by
 have HPR := hid (fun (W : World) (h : RepV W e va vk) => El.E.ind (p := RProperC) rproper_step e va vk W h);have HCO := hid (fun (W : World) (h : RepV W e va vk) => rcount_any e va vk W h hc);have HDE := hid (fun (W : World) (h : RepV W e va vk) => rdepth_any e va vk W h hc);have HV := hid (show El.valid e = (El.proper e && decide (El.count e ≤ 3000) && decide (El.depth e ≤ 64)) from rfl);have hdl : El.depth e ≤ 1000000 := by have h1 := depthL_le_count e.kids; have h2 := El.depth_kids e; have h3 := El.count_kids e; omega
 have HR := hid hr;obtain ⟨A, ca, hva⟩ := hr.1.slice;obtain ⟨B, cb, hvk⟩ := hr.2.1.slice;clear hr;generalize El.valid e = V at *;generalize El.proper e = P at *;generalize El.count e = c at *;generalize El.depth e = d at *;obtain ⟨n, ats, ks, t⟩ := e;replace hva : va = .slice A ats.length ca := hva;replace hvk : vk = .slice B ks.length cb := hvk;subst hva;subst hvk;unfold ev at *;simp only [E.name, E.text] at *;have HB0 := hid (Blk.new w 25 #[.string ⟨n.toArray⟩, .slice A ats.length ca, .slice B ks.length cb, .string ⟨t.toArray⟩]);have HF0 := hid ((Touch.refl (fun _ => False) w).alloc (.cells #[.string ⟨n.toArray⟩, .slice A ats.length ca, .slice B ks.length cb, .string ⟨t.toArray⟩] 25));go_enter Tryz.func15, Tryz.ntmps15;go_wp2_with fail
 refine (HPR.out _ (HR.out.fresh HF0.out)).mono ?_;rintro _ w1 ⟨rfl, hf1⟩;have HF1 := hid (HF0.out.trans hf1);have HB1 := hid (hf1.blk HB0.out fun h => h);clear hf1 HF0 HB0;cases P with
 | false =>
  have HZ := hid (show V = false by rw [HV.out]; rfl);go_wp2_with fail
  go_ret;exact ⟨ret_bool' _ _ HZ.out.symm, HF1.out⟩
 | true =>
 obtain ⟨q0, q1, q2, q3, _⟩ := Blk.four HB1.out;go_wp2_with fail
 refine (HCO.out _ (HR.out.fresh HF1.out)).mono ?_;rintro _ w2 ⟨rfl, hf2⟩;have HF2 := hid (HF1.out.trans hf2);have HB2 := hid (hf2.blk HB1.out fun h => h);clear hf2 HF1 HB1 q0 q1 q2 q3;obtain ⟨q0, q1, q2, q3, _⟩ := Blk.four HB2.out
 by_cases c1 : c ≤ 3000
 ·have d1 : decide ((c : Int) ≤ (3000 : Int)) = true := dT (by omega)
  have d1n : decide (c ≤ 3000) = true := dT c1;go_wp2_with fail
  refine (HDE.out _ (HR.out.fresh HF2.out)).mono ?_;rintro _ w3 ⟨rfl, hf3⟩;have HF3 := hid (HF2.out.trans hf3)
  have HZ := hid (show V = decide ((d : Int) ≤ (64 : Int)) by
   rw [HV.out, d1n, Bool.true_and, Bool.true_and, decide_eq_decide]; omega)
  clear hf3;go_wp2_with fail
  go_ret;exact ⟨ret_bool' _ _ HZ.out.symm, HF3.out⟩
 ·have d1 : decide ((c : Int) ≤ (3000 : Int)) = false := dF (by omega)
  have d1n : decide (c ≤ 3000) = false := dF c1;have HZ := hid (show V = false by rw [HV.out, d1n]; rfl);go_wp2_with fail
  go_ret;exact ⟨ret_bool' _ _ HZ.out.symm, HF2.out⟩
theorem rboth_all (W0 : World) (g : Nat) : ∀ (m : Nat) (e : E), El.count e ≤ m → RRowC W0 g e ∧ RItemC W0 g e := by
 intro m
 induction m with
 | zero => intro e h; have := El.count_pos e; omega
 | succ m ih =>
  intro e hm
  have hk : ∀ x ∈ e.kids, El.count x ≤ m := by
   intro x hx;have := El.count_mem hx;rw [El.count_kids] at hm;omega
  refine ⟨rrow_step W0 g e fun x hx => (ih x (hk x hx)).2, ?_⟩
  by_cases h12 : El.kindR e.name = 12
  ·exact ritem_table W0 g e h12 fun x hx => rline_step W0 g x fun y hy => (ih y (by have := El.count_mem hy; have := El.count_kids x; have := hk x hx; omega)).1
  ·exact ritem_rows W0 g e h12 fun x hx => (ih x (hk x hx)).1
theorem rrow24_any (W0 : World) (g : Nat) (e : E) : RRowC W0 g e := (rboth_all W0 g _ e (Nat.le_refl _)).1
theorem rNode24_any (e : E) (va vk : Value) (w : World) (hr : RepV w e va vk) (hc : El.count e ≤ 90000) :
  Calls Tryz.prog 7 #[ev e va vk] w fun x w' => ∃ v, x = .returned (.tuple #[v, .int .i64 (refNodeF e).2.1, .int .i64 (refNodeF e).2.2]) ∧ MakesN w w' (refNodeF e).1 v := by
 have HV := hid (fun (W : World) (h : RepV W e va vk) => rValid23_any e va vk W h (by omega));have HRW := hid (fun (W0 : World) (g : Nat) (W : World) (hv : El.valid e = true) (h : RepV W0 e va vk) (hrd : Rdr W0 g (0, -1) W) => rrow24_any W0 g e El.nMath (0, -1) va vk W (by decide) (by decide) (by show 0 + El.count e ≤ 100000; omega) (by unfold El.valid at hv; simp only [Bool.and_eq_true] at hv; exact hv.1.1) h hrd);have HRF := hid (show refNodeF e = (if El.valid e then (if 0 ≤ (rRow El.nMath e (0, -1)).2.2 then (nilNd, (rRow El.nMath e (0, -1)).2.2, 19) else if Tr.valid (rRow El.nMath e (0, -1)).1 then ((rRow El.nMath e (0, -1)).1, 0, 0) else (nilNd, 0, 6)) else (nilNd, 0, 1)) from rfl)
 have HCN := hid (show (rRow El.nMath e (0, -1)).2.2 < 0 → Tr.count (rRow El.nMath e (0, -1)).1 ≤ 1000000 by
  intro h;have hb := (El.both_law _ e (Nat.le_refl _)).1 El.nMath (by decide) 0;have hlt := El.vis_lt e (decide (e.name = El.nMath)) 0;cases hv : (El.vis (decide (e.name = El.nMath)) 0 e).1 with
  | true => rw [hb.1 hv]; have := El.cnt_row e; show Tr.count (El.rowN e) ≤ _; omega
  | false => have := hb.2 hv; omega)
 have HR := hid hr;obtain ⟨A, ca, hva⟩ := hr.1.slice;obtain ⟨B, cb, hvk⟩ := hr.2.1.slice;clear hr;generalize refNodeF e = R at *;generalize rRow El.nMath e (0, -1) = RR at *;generalize El.valid e = V at *;obtain ⟨m, s1, s2⟩ := RR;obtain ⟨n, ats, ks, t⟩ := e;replace hva : va = .slice A ats.length ca := hva;replace hvk : vk = .slice B ks.length cb := hvk;subst hva;subst hvk;unfold ev at *;simp only [E.name, E.text] at *;have hbx := (Blk.new w 25 #[.string ⟨n.toArray⟩, .slice A ats.length ca, .slice B ks.length cb, .string ⟨t.toArray⟩]).alloc (.cells #[.int .i64 0, .string ⟨#[]⟩, .int .i64 0, .slice none 0 0] 30);have hby := Blk.new2 w (.cells #[.string ⟨n.toArray⟩, .slice A ats.length ca, .slice B ks.length cb, .string ⟨t.toArray⟩] 25) 30 #[.int .i64 0, .string ⟨#[]⟩, .int .i64 0, .slice none 0 0];have hfx := ((Touch.refl (fun _ => False) w).alloc (.cells #[.string ⟨n.toArray⟩, .slice A ats.length ca, .slice B ks.length cb, .string ⟨t.toArray⟩] 25)).alloc (.cells #[.int .i64 0, .string ⟨#[]⟩, .int .i64 0, .slice none 0 0] 30);have HBX := hid hbx;have HBY := hid hby;have HFX := hid hfx;clear hbx hby hfx;go_enter Tryz.func7, Tryz.ntmps7;go_wp2_with fail
 refine (HV.out _ (HR.out.fresh HFX.out)).mono ?_;rintro _ w1 ⟨rfl, hf1⟩;have HF1 := hid (HFX.out.trans hf1);have HB1 := hid (hf1.blk HBX.out fun h => h);have HY1 := hid (hf1.blk HBY.out fun h => h);clear hf1 HFX HBX HBY;obtain ⟨p0, p1, p2, p3, y0, y1, y2, y3, hg1⟩ := Blk.four HY1.out;cases V with
 | false =>
  have HZ := hid (show R = (nilNd, 0, 1) by rw [HRF.out]; rfl);go_wp2_with fail
  obtain ⟨r0, r1, r2, r3, _, _, _, _, _⟩ := Blk.four (HY1.out.self4 (.int .i64 0) (.string ⟨#[]⟩) (.int .i64 0) (.slice none 0 0));simp only [put4] at r0 r1 r2 r3;refine bodyPost_ret (v := .tuple #[.agg #[.int .i64 0, .string ⟨#[]⟩, .int .i64 0, .slice none 0 0], .int .i64 0, .int .i64 1]) (by simp [results, Tryz.results7, go_sem, r0, r1, r2, r3]) rfl ?_;rw [HZ.out];exact ⟨_, rfl, nil_makes _ _ (Touch.put4 HF1.out (.inr (by omega)) _ _ _ _)⟩
 | true =>
 clear p0 p1 p2 p3 y0 y1 y2 y3;obtain ⟨q0, q1, q2, q3, _⟩ := Blk.four HB1.out;go_wp2_with fail
 have HF2 := hid (HF1.out.alloc (.cells #[.int .i64 0, .int .i64 (-1)] 46));have HY2 := hid (HY1.out.alloc (.cells #[.int .i64 0, .int .i64 (-1)] 46));have HRD2 := hid (show Rdr w1 w1.heap.size (0, -1) (w1.alloc (.cells #[.int .i64 0, .int .i64 (-1)] 46)) from ⟨(Touch.refl _ _).alloc _, Blk.new _ _ _, Nat.le_refl _⟩);refine (HRW.out w1 w1.heap.size _ trivial (HR.out.fresh HF1.out) HRD2.out).mono ?_;rintro _ w3 ⟨v3, rfl, ⟨sl, rfl, ht3, htl3, hst3⟩, hrd3⟩;obtain ⟨Ar, cr, rfl⟩ := hst3.now.slice;have hgl := HRD2.out.lt;have HF3 := hid (show Fresh w w3 from HF2.out.trans' ht3 fun k hk => .inr (by subst hk; exact HF1.out.size));have HY3 := hid (ht3.blk HY2.out fun h => by omega);have HRD3 := hid hrd3;have HST3 := hid (show Stab (fun k => k < w1.heap.size) w3 fun W => RepL W m.kids (.slice Ar m.kids.length cr) from hst3.mono fun i _ hi => by omega);have HTL := hid htl3;have hy1 : w.heap.size + 1 < w1.heap.size := hg1;obtain ⟨G, hG⟩ : ∃ G, G = w1.heap.size := ⟨_, rfl⟩;have HG := hid hG;rw [← hG] at HRD3 HST3 hy1 ⊢;clear ht3 htl3 hst3 hrd3 HF1 HB1 HY1 HF2 HY2 HRD2 hg1 q0 q1 q2 q3 HRW hgl hG;obtain ⟨_, k1, _, _, hgk⟩ := Blk.two (x0 := .int .i64 (s1 : Int)) (x1 := .int .i64 s2) HRD3.out.blk
 by_cases c1 : 0 ≤ s2
 ·have d1 : decide ((0 : Int) ≤ s2) = true := dT c1
  have HZ := hid (show R = (nilNd, s2, 19) by rw [HRF.out]; exact if_pos c1);go_wp2_with fail
  clear k1 hgk;have HF4 := hid (HF3.out.alloc (.cells #[.int .i64 m.kind, .string ⟨m.text.toArray⟩, .int .i64 m.cols, .slice Ar m.kids.length cr] 30));have HY4 := hid (HY3.out.alloc (.cells #[.int .i64 m.kind, .string ⟨m.text.toArray⟩, .int .i64 m.cols, .slice Ar m.kids.length cr] 30));have HN4 := hid (Blk.new w3 30 #[.int .i64 m.kind, .string ⟨m.text.toArray⟩, .int .i64 m.cols, .slice Ar m.kids.length cr]);have HK4 := hid (HRD3.out.blk.alloc (.cells #[.int .i64 m.kind, .string ⟨m.text.toArray⟩, .int .i64 m.cols, .slice Ar m.kids.length cr] 30));have HST4 := hid (HST3.out.fresh ((Touch.refl _ w3).alloc (.cells #[.int .i64 m.kind, .string ⟨m.text.toArray⟩, .int .i64 m.cols, .slice Ar m.kids.length cr] 30)));have hz4 : w3.heap.size < (w3.alloc (.cells #[.int .i64 m.kind, .string ⟨m.text.toArray⟩, .int .i64 m.cols, .slice Ar m.kids.length cr] 30)).heap.size := HN4.out.lt;generalize (w3.alloc (.cells #[.int .i64 m.kind, .string ⟨m.text.toArray⟩, .int .i64 m.cols, .slice Ar m.kids.length cr] 30)) = w4 at HF4 HY4 HN4 HK4 HST4 hz4 ⊢;obtain ⟨_, k1, _, _, hgk⟩ := Blk.two (x0 := .int .i64 (s1 : Int)) (x1 := .int .i64 s2) HK4.out;obtain ⟨p0, p1, p2, p3, y0, y1, y2, y3, hg1⟩ := Blk.four HY4.out;clear HF3 HY3 HRD3 HST3;have kk := cT (S := fun k => k = w.heap.size + 1) k1 (by omega);refine wp_region_plan_in (fun W => ∃ x : Turned (fun k => k = w.heap.size + 1) w4, W = x.W) (Plan.of [(0, true), (1, true), (2, true), (3, true), (4, true)] (.lone 5 (.plain 6 (.plain 7 .nil)))) [0, 1, 2, 3, 4, 5, 6, 7] (Array.replicate 8 true) (by kernel_rfl) (fun _ _ d _ _ h => by cases d <;> exact h) (by kernel_rfl) ⟨⟨_, (Touch.refl _ _).drewN 1⟩, rfl⟩ ?_;unfold Plan.of
  repeat (refine wpPlan_plain rfl (fun K hK => ?_); go_simp; refine hK _ ?_; clear hK K; first | done | unfold Plan.of)
  obtain ⟨p0, p1, p2, p3, y0, y1, y2, y3, hg1'⟩ := Blk.four (HY4.out.drewN 1);refine wpPlan_lone rfl (fun K hK => ?_);go_wp2_with fail
  refine hK _ _ ⟨⟨_, ((Touch.refl (fun k => k = w.heap.size + 1) w4).drewN 1).put4 (.inl rfl) (.int .i64 0) (.string ⟨#[]⟩) (.int .i64 0) (.slice none 0 0)⟩, rfl⟩ ?_;clear hK K
  repeat (refine wpPlan_plain rfl (fun K hK => ?_); go_simp; refine hK _ ?_; clear hK K)
  refine wpPlan_nil ?_;go_wp2_with fail
  obtain ⟨r0, r1, r2, r3, _, _, _, _, _⟩ := Blk.four ((HY4.out.drewN 1).self4 (.int .i64 0) (.string ⟨#[]⟩) (.int .i64 0) (.slice none 0 0));simp only [put4] at r0 r1 r2 r3
  (try simp only [Exit.inBlock, Exit.then])
  refine bodyPost_ret (v := .tuple #[.agg #[.int .i64 0, .string ⟨#[]⟩, .int .i64 0, .slice none 0 0], .int .i64 s2, .int .i64 19]) (by simp [results, Tryz.results7, go_sem, r0, r1, r2, r3]) rfl ?_;rw [HZ.out];exact ⟨_, rfl, nil_makes _ _ (Touch.put4 (HF4.out.drewN 1) (.inr (by omega)) _ _ _ _)⟩
 ·have d1 : decide ((0 : Int) ≤ s2) = false := dF c1
  have HZ := hid (show R = (if Tr.valid m then (m, 0, 0) else (nilNd, 0, 6)) by rw [HRF.out]; exact if_neg c1);have HVA := hid (fun (W : World) (h : RepL W m.kids (.slice Ar m.kids.length cr)) => rValid_any m _ W h HTL.out (HCN.out (by omega)));clear c1 HRF HCN;obtain ⟨mk, mt, mc, mks⟩ := m;unfold nv;simp only [Nd.kind, Nd.text, Nd.cols, Nd.kids] at *;go_wp2_with fail
  clear k1 hgk;have HF4 := hid (HF3.out.alloc (.cells #[.int .i64 mk, .string ⟨mt.toArray⟩, .int .i64 mc, .slice Ar mks.length cr] 30));have HY4 := hid (HY3.out.alloc (.cells #[.int .i64 mk, .string ⟨mt.toArray⟩, .int .i64 mc, .slice Ar mks.length cr] 30));have HN4 := hid (Blk.new w3 30 #[.int .i64 mk, .string ⟨mt.toArray⟩, .int .i64 mc, .slice Ar mks.length cr]);have HK4 := hid (HRD3.out.blk.alloc (.cells #[.int .i64 mk, .string ⟨mt.toArray⟩, .int .i64 mc, .slice Ar mks.length cr] 30));have HST4 := hid (HST3.out.fresh ((Touch.refl _ w3).alloc (.cells #[.int .i64 mk, .string ⟨mt.toArray⟩, .int .i64 mc, .slice Ar mks.length cr] 30)));have hz4 : w3.heap.size < (w3.alloc (.cells #[.int .i64 mk, .string ⟨mt.toArray⟩, .int .i64 mc, .slice Ar mks.length cr] 30)).heap.size := HN4.out.lt;generalize (w3.alloc (.cells #[.int .i64 mk, .string ⟨mt.toArray⟩, .int .i64 mc, .slice Ar mks.length cr] 30)) = w4 at HF4 HY4 HN4 HK4 HST4 hz4 ⊢;clear HF3 HY3 HRD3 HST3;refine (HVA.out _ HST4.out.now).mono ?_;rintro _ w5 ⟨rfl, hf5⟩;have HF5 := hid (HF4.out.trans hf5);have HY5 := hid (hf5.blk HY4.out fun h => h);have HN5 := hid (hf5.blk HN4.out fun h => h);have HST5 := hid (HST4.out.fresh hf5);clear hf5 HVA;obtain ⟨p0, p1, p2, p3, y0, y1, y2, y3, hg5⟩ := Blk.four HY5.out;obtain ⟨u0, u1, u2, u3, _, _, _, _, hgn⟩ := Blk.four HN5.out;cases hv : Tr.valid (.mk mk mt mc mks) with
  | false =>
   have h1 : R = (nilNd, 0, 6) := by rw [HZ.out, hv]; rfl
   have HR1 := hid h1;clear hv h1;go_wp2_with fail
   obtain ⟨r0, r1, r2, r3, _, _, _, _, _⟩ := Blk.four (HY5.out.self4 (.int .i64 0) (.string ⟨#[]⟩) (.int .i64 0) (.slice none 0 0));simp only [put4] at r0 r1 r2 r3;refine bodyPost_ret (v := .tuple #[.agg #[.int .i64 0, .string ⟨#[]⟩, .int .i64 0, .slice none 0 0], .int .i64 0, .int .i64 6]) (by simp [results, Tryz.results7, go_sem, r0, r1, r2, r3]) rfl ?_;rw [HR1.out];exact ⟨_, rfl, nil_makes _ _ (Touch.put4 HF5.out (.inr (by omega)) _ _ _ _)⟩
  | true =>
   have h1 : R = (.mk mk mt mc mks, 0, 0) := by rw [HZ.out, hv]; rfl
   have HR1 := hid h1;clear hv h1;go_wp2_with fail
   obtain ⟨r0, r1, r2, r3, _, _, _, _, _⟩ := Blk.four (HY5.out.self4 (.int .i64 mk) (.string ⟨mt.toArray⟩) (.int .i64 mc) (.slice Ar mks.length cr));simp only [put4] at r0 r1 r2 r3;refine bodyPost_ret (v := .tuple #[.agg #[.int .i64 mk, .string ⟨mt.toArray⟩, .int .i64 mc, .slice Ar mks.length cr], .int .i64 0, .int .i64 0]) (by simp [results, Tryz.results7, go_sem, r0, r1, r2, r3]) rfl ?_;rw [HR1.out];refine ⟨_, rfl, .slice Ar mks.length cr, rfl, Touch.put4 HF5.out (.inr (by omega)) _ _ _ _, HTL.out, ?_⟩;exact HST5.out.step ((Touch.refl (fun k => k = w.heap.size + 1) w5).put4 (.inl rfl) _ _ _ _) (fun i _ hi => by have hi : i = w.heap.size + 1 := hi; omega) (fun i _ hi => by omega)
end Go.Proofs.YtfnjcldgicohaaaGreat
namespace Go.Proofs.YtfnjcldgicohaaaGreat.El
def escB (b : UInt8) : Bytes := if b = 38 then [38, 97, 109, 112, 59] else if b = 60 then [38, 108, 116, 59] else if b = 62 then [38, 103, 116, 59] else if b = 34 then [38, 113, 117, 111, 116, 59] else [b]
def escL (s : Bytes) : Bytes := s.flatMap escB
theorem escL_snoc (s : Bytes) (b : UInt8) : escL (s ++ [b]) = escL s ++ escB b := by unfold escL; rw [List.flatMap_append]; simp
theorem escL_nil : escL [] = [] := rfl
def attrW (a : Bytes × Bytes) : Bytes := 32 :: a.1 ++ [61, 34] ++ escL a.2 ++ [34]
def attrsW (l : Attrs) : Bytes := l.flatMap attrW
theorem attrsW_snoc (l : Attrs) (j : Nat) (h : j < l.length) : attrsW (l.take (j + 1)) = attrsW (l.take j) ++ attrW l[j] := by
 unfold attrsW; rw [List.take_add_one, List.getElem?_eq_getElem h, List.flatMap_append]; simp
theorem attrsW_le (l : Attrs) (j : Nat) : (attrsW (l.take j)).length ≤ (attrsW l).length := by
 have : attrsW l = attrsW (l.take j) ++ attrsW (l.drop j) := by unfold attrsW; rw [← List.flatMap_append, List.take_append_drop]
 rw [this, List.length_append]; omega
mutual
def writeE : E → Bytes
 | .mk n a ks t => 60 :: n ++ attrsW a ++ (if t.isEmpty && ks.isEmpty then [47, 62] else 62 :: escL t ++ writeL ks ++ ([60, 47] ++ n ++ [62]))
def writeL : List E → Bytes
 | [] => []
 | x :: xs => writeE x ++ writeL xs
end
theorem writeL_map (l : List E) : writeL l = l.flatMap writeE := by
 induction l with
 | nil => rw [writeL]; rfl
 | cons x l ih => rw [writeL, ih, List.flatMap_cons]
theorem writeL_snoc (l : List E) (j : Nat) (h : j < l.length) : writeL (l.take (j + 1)) = writeL (l.take j) ++ writeE l[j] := by
 rw [writeL_map, writeL_map, List.take_add_one, List.getElem?_eq_getElem h, List.flatMap_append]; simp
theorem writeL_le (l : List E) (j : Nat) : (writeL (l.take j)).length ≤ (writeL l).length := by
 have : writeL l = writeL (l.take j) ++ writeL (l.drop j) := by rw [writeL_map, writeL_map, writeL_map, ← List.flatMap_append, List.take_append_drop]
 rw [this, List.length_append]; omega
end Go.Proofs.YtfnjcldgicohaaaGreat.El
namespace Go.Proofs.YtfnjcldgicohaaaGreat
open Go.RowKit
open El (E Attrs escL escB)
def Kb (w w' : World) : Prop := ∀ k T cs, T ≠ 5 → T ≠ 77 → Blk w k T cs → Blk w' k T cs
theorem Kb.refl (w : World) : Kb w w := fun _ _ _ _ _ h => h
theorem Kb.trans {a b c : World} (h : Kb a b) (h' : Kb b c) : Kb a c := fun k T cs h1 h2 h3 => h' k T cs h1 h2 (h k T cs h1 h2 h3)
structure BW (w0 : World) (g : Nat) (l : List UInt8) (w : World) : Prop where
 bld : ∃ cs v, Bld w (g + 1) g 0 77 cs v l ∧ cs.size = 2
 frs : Fresh w0 w
 le : w0.heap.size ≤ g
theorem BW.lt {w0 w : World} {g : Nat} {l : List UInt8} (h : BW w0 g l w) : g < w.heap.size := by
 obtain ⟨cs, v, h1, _⟩ := h.bld;exact h1.lt
theorem bld_alloc {w : World} {B b o : Nat} {T : TypeId} {cs : Array Value} {v : Value} {l : List UInt8} (h : Bld w B b o T cs v l) {w' : World} (hf : Fresh w w') : Bld w' B b o T cs v l :=
 ⟨hf.blk h.blk (fun h => h), h.addr, h.buf, ownsRow_touch h.own hf (fun _ _ h => h), h.ne, h.nilv⟩
theorem BW.fresh {w0 w w' : World} {g : Nat} {l : List UInt8} (h : BW w0 g l w) (hf : Fresh w w') : BW w0 g l w' := by
 obtain ⟨cs, v, h1, h2⟩ := h.bld;exact ⟨⟨cs, v, bld_alloc h1 hf, h2⟩, h.frs.trans hf, h.le⟩
theorem Fresh.kb {w w' : World} (hf : Fresh w w') : Kb w w' := fun _ _ _ _ _ h => hf.blk h fun h => h
theorem blk_type {w : World} {k : Nat} {T T' : TypeId} {cs cs' : Array Value} {s : Nat × Nat} (h : Blk w k T cs) (h' : w.heap[k]? = some (.cells cs' T' s)) : T = T' := by
 unfold Blk at h;rw [h] at h';cases h';rfl
theorem BW.step {w0 w w' : World} {g : Nat} {l : List UInt8} {cs : Array Value} {v : Value} (h : BW w0 g l w) (hb : Bld w (g + 1) g 0 77 cs v l) {m : List UInt8} {cs' : Array Value} {v' : Value}
  (hb' : Bld w' (g + 1) g 0 77 cs' v' m) (hs : cs'.size = 2) (ht : Touch (fun k => k = g ∨ v.ownBlock = some k) w w') : BW w0 g m w' ∧ Kb w w' := by
 have hl := h.le;refine ⟨⟨⟨cs', v', hb', hs⟩, h.frs.trans' ht ?_, h.le⟩, fun k T ds h1 h2 h3 => ht.blk h3 ?_⟩
 ·rintro i (h1 | h1)
  ·right; omega
  ·right; have := (hb.own.lt _ h1).1; omega
 ·rintro (h4 | h4)
  ·subst h4
   exact h2 (blk_type h3 hb.blk)
  ·obtain ⟨_, h5⟩ := hb.own
   rcases h5 with ⟨h5, _⟩ | ⟨g', cap, cur, h5, _, h6, _⟩
   ·rw [h5] at h4; cases h4
   ·rw [h5] at h4
    cases h4;exact h1 (blk_type h3 h6)
theorem bw_byte {w0 w : World} {g : Nat} {l : List UInt8} (h : BW w0 g l w) (x : Int) (c : UInt8) (hx : x = c.toNat) (hl : l.length + 1 ≤ 140737488355328) :
  Calls Tryz.prog 65 #[.pointer (some ⟨g, 0, none⟩), .int .u8 x] w fun e w' => e = .returned .nilIface ∧ BW w0 g (l ++ [c]) w' ∧ Kb w w' := by
 obtain ⟨cs, v, hb, hs⟩ := h.bld;refine (writeByte_any hb (by rw [hs]; exact liesBuilder) x c hx hl (by have := h.lt; omega)).mono ?_;rintro _ w' ⟨rfl, v', hb', ht⟩;exact ⟨rfl, h.step hb hb' (by simp [hs]) ht⟩
theorem bw_str {w0 w : World} {g : Nat} {l : List UInt8} (h : BW w0 g l w) (m : List UInt8) (hl : l.length + m.length ≤ 140737488355328) :
  Calls Tryz.prog 63 #[.pointer (some ⟨g, 0, none⟩), .string ⟨m.toArray⟩] w fun e w' => e = .returned (.tuple #[.int .i64 m.length, .nilIface]) ∧ BW w0 g (l ++ m) w' ∧ Kb w w' := by
 obtain ⟨cs, v, hb, hs⟩ := h.bld;refine (writeString_any hb (by omega) (by rw [hs]; exact liesBuilder) ⟨m.toArray⟩ (by show _ + m.toArray.size ≤ _; simpa using hl) (by have := h.lt; omega)).mono ?_;rintro _ w' ⟨rfl, v', hb', ht⟩;exact ⟨by show _ = Ending.returned (.tuple #[.int .i64 (m.length : Nat), .nilIface]); simp [ByteArray.size], h.step hb (by simpa using hb') (by simp [hs]) ht⟩
theorem bw_string {w0 w : World} {g : Nat} {l : List UInt8} (h : BW w0 g l w) :
  Calls Tryz.prog 38 #[.pointer (some ⟨g, 0, none⟩)] w fun e w' => e = .returned (.string ⟨l.toArray⟩) ∧ Fresh w0 w' ∧ Kb w w' := by
 obtain ⟨cs, v, hb, hs⟩ := h.bld;have hl := h.le;refine (bstring_any hb).mono ?_;rintro _ w' ⟨rfl, ht⟩;refine ⟨rfl, h.frs.trans' ht (fun i h1 => by right; have := (hb.own.lt _ h1).1; omega), fun k T ds h1 h2 h3 => ht.blk h3 fun h4 => ?_⟩;obtain ⟨_, h5⟩ := hb.own
 rcases h5 with ⟨h5, _⟩ | ⟨g', cap, cur, h5, _, h6, _⟩
 ·rw [h5] at h4; cases h4
 ·rw [h5] at h4
  cases h4;exact h1 (blk_type h3 h6)
theorem bw_new (w0 w : World) (h : Fresh w0 w) : BW w0 w.heap.size [] (w.alloc (.cells #[.pointer none, .slice none 0 0] 77)) :=
 ⟨⟨_, _, ⟨Blk.new _ _ _, .inl rfl, rfl, World.ownsRow_nil _ _ _ _, by simp [Value.ownBlock], fun _ => rfl⟩, rfl⟩, h.alloc _, h.size⟩
theorem escL_le (s : List UInt8) (j : Nat) : (escL (s.take j)).length ≤ (escL s).length := by
 have : escL s = escL (s.take j) ++ escL (s.drop j) := by unfold El.escL; rw [← List.flatMap_append, List.take_append_drop]
 rw [this, List.length_append]; omega
theorem escL_take (s : List UInt8) (j : Nat) (h : j < s.length) : escL (s.take (j + 1)) = escL (s.take j) ++ escB s[j] := by
 rw [List.take_succ_eq_append_getElem h, El.escL_snoc]
theorem escape_any (s : List UInt8) (w0 : World) (g : Nat) (l : List UInt8) (w : World) (h : BW w0 g l w) (hl : l.length + (escL s).length ≤ 140737488355328) (hs : s.length ≤ 9223372036854775807) :
  Calls Tryz.prog 64 #[.pointer (some ⟨g, 0, none⟩), .string ⟨s.toArray⟩] w fun e w' => e = .returned (.tuple #[]) ∧ BW w0 g (l ++ escL s) w' ∧ Kb w w' := by
 have H := hid h;have HL := hid hl;have HSZ := hid (show (⟨s.toArray⟩ : ByteArray).size = s.length from by simp [ByteArray.size]);obtain ⟨t, ht⟩ : ∃ t : ByteArray, t = ⟨s.toArray⟩ := ⟨_, rfl⟩;rw [← ht];rw [← ht] at HSZ;have HTE := hid ht;have hm : t.size ≤ 9223372036854775807 := by rw [HSZ.out]; exact hs
 clear h hl ht;go_enter Tryz.func64, Tryz.ntmps64;go_wp2_with fail
 go_loopw [4] (fun i wr => ∃ j : Nat, i = .int .i64 j ∧ j ≤ t.size ∧ Hid (BW w0 g (l ++ escL (s.take j)) wr) ∧ Hid (Kb w wr)) (fun i _ => t.size - (intOf i).toNat)
 case atStart => exact ⟨0, rfl, Nat.zero_le _, hid (by simpa [El.escL_nil] using H.out), Kb.refl _⟩
 case round =>
  obtain ⟨j, rfl, hj, HB, HK⟩ := hrel
  by_cases c1 : j < t.size
  ·have d1 : decide ((j : Int) < (t.size : Int)) = true := dT (by omega)
   have d1' : (j : Int) < (t.size : Int) := by omega
   have d1n : decide (j < t.size) = true := dT (by omega);have c1s : j < s.length := by rw [← HSZ.out]; exact c1
   obtain ⟨b, hb⟩ : ∃ b, t[j]'c1 = b := ⟨_, rfl⟩;have HSB := hid (show s[j] = b by rw [← hb]; have := HTE.out; subst this; rfl);have HST := hid (escL_take s j c1s);have HLE := hid (show (escL (s.take j)).length + (escB s[j]).length ≤ (escL s).length by rw [← List.length_append, ← HST.out]; exact escL_le s (j + 1));rw [HSB.out] at HST HLE;clear HSB
   by_cases c2 : b = 38
   ·have b2 : ((b.toNat : Int) == 38) = true := u8_eq_of _ 38 c2
    have HEB := hid (show escB b = [38, 97, 109, 112, 59] by unfold El.escB; rw [if_pos c2]);go_wp2_with fail
    refine (bw_str HB.out [38, 97, 109, 112, 59] (by have := HLE.out; rw [HEB.out] at this; have := HL.out; rw [List.length_append]; omega)).mono ?_;rintro _ w2 ⟨rfl, hb2, hk2⟩;have HB2 := hid hb2;have HK2 := hid (HK.out.trans hk2);clear hb2 hk2;go_wp2_with fail
    go_roundw
    case rel => exact ⟨j + 1, by go_num, c1, by unfold Hid; rw [HST.out, HEB.out, ← List.append_assoc]; exact HB2.out, HK2⟩
    case measure => simp [intOf]; omega
   have b2 : ((b.toNat : Int) == 38) = false := u8_ne_of _ 38 c2
   by_cases c3 : b = 60
   ·have b3 : ((b.toNat : Int) == 60) = true := u8_eq_of _ 60 c3
    have HEB := hid (show escB b = [38, 108, 116, 59] by unfold El.escB; rw [if_neg c2, if_pos c3]);go_wp2_with fail
    refine (bw_str HB.out [38, 108, 116, 59] (by have := HLE.out; rw [HEB.out] at this; have := HL.out; rw [List.length_append]; omega)).mono ?_;rintro _ w2 ⟨rfl, hb2, hk2⟩;have HB2 := hid hb2;have HK2 := hid (HK.out.trans hk2);clear hb2 hk2;go_wp2_with fail
    go_roundw
    case rel => exact ⟨j + 1, by go_num, c1, by unfold Hid; rw [HST.out, HEB.out, ← List.append_assoc]; exact HB2.out, HK2⟩
    case measure => simp [intOf]; omega
   have b3 : ((b.toNat : Int) == 60) = false := u8_ne_of _ 60 c3
   by_cases c4 : b = 62
   ·have b4 : ((b.toNat : Int) == 62) = true := u8_eq_of _ 62 c4
    have HEB := hid (show escB b = [38, 103, 116, 59] by unfold El.escB; rw [if_neg c2, if_neg c3, if_pos c4]);go_wp2_with fail
    refine (bw_str HB.out [38, 103, 116, 59] (by have := HLE.out; rw [HEB.out] at this; have := HL.out; rw [List.length_append]; omega)).mono ?_;rintro _ w2 ⟨rfl, hb2, hk2⟩;have HB2 := hid hb2;have HK2 := hid (HK.out.trans hk2);clear hb2 hk2;go_wp2_with fail
    go_roundw
    case rel => exact ⟨j + 1, by go_num, c1, by unfold Hid; rw [HST.out, HEB.out, ← List.append_assoc]; exact HB2.out, HK2⟩
    case measure => simp [intOf]; omega
   have b4 : ((b.toNat : Int) == 62) = false := u8_ne_of _ 62 c4
   by_cases c5 : b = 34
   ·have b5 : ((b.toNat : Int) == 34) = true := u8_eq_of _ 34 c5
    have HEB := hid (show escB b = [38, 113, 117, 111, 116, 59] by unfold El.escB; rw [if_neg c2, if_neg c3, if_neg c4, if_pos c5]);go_wp2_with fail
    refine (bw_str HB.out [38, 113, 117, 111, 116, 59] (by have := HLE.out; rw [HEB.out] at this; have := HL.out; rw [List.length_append]; omega)).mono ?_;rintro _ w2 ⟨rfl, hb2, hk2⟩;have HB2 := hid hb2;have HK2 := hid (HK.out.trans hk2);clear hb2 hk2;go_wp2_with fail
    go_roundw
    case rel => exact ⟨j + 1, by go_num, c1, by unfold Hid; rw [HST.out, HEB.out, ← List.append_assoc]; exact HB2.out, HK2⟩
    case measure => simp [intOf]; omega
   have b5 : ((b.toNat : Int) == 34) = false := u8_ne_of _ 34 c5;have HEB := hid (show escB b = [b] by unfold El.escB; rw [if_neg c2, if_neg c3, if_neg c4, if_neg c5]);go_wp2_with fail
   refine (bw_byte HB.out _ b rfl (by have := HLE.out; rw [HEB.out] at this; have := HL.out; rw [List.length_append]; simp at *; omega)).mono ?_;rintro _ w2 ⟨rfl, hb2, hk2⟩;have HB2 := hid hb2;have HK2 := hid (HK.out.trans hk2);clear hb2 hk2;go_wp2_with fail
   go_roundw
   case rel => exact ⟨j + 1, by go_num, c1, by unfold Hid; rw [HST.out, HEB.out, ← List.append_assoc]; exact HB2.out, HK2⟩
   case measure => simp [intOf]; omega
  ·have d1 : decide ((j : Int) < (t.size : Int)) = false := dF (by omega)
   have d1n : decide (j < t.size) = false := dF (by omega);have HTK := hid (show s.take j = s from List.take_of_length_le (by rw [← HSZ.out]; omega));go_wp2_with fail
   go_end0
   exact ⟨rfl, by have := HB.out; rwa [HTK.out] at this, HK.out⟩
end Go.Proofs.YtfnjcldgicohaaaGreat
namespace Go.Proofs.YtfnjcldgicohaaaGreat
open Go.RowKit
open El (E Attrs escL escB writeE writeL attrW attrsW)
def WriteC (e : E) : Prop := ∀ (w0 : World) (ge oe g : Nat) (va vk : Value) (l : List UInt8) (w : World), ElAt w0 ge oe e va vk → BW w0 g l w → l.length + (writeE e).length ≤ 8000000 →
 Calls Tryz.prog 37 #[.pointer (some ⟨g, 0, none⟩), .pointer (some ⟨ge, oe, none⟩)] w fun x w' => x = .returned (.tuple #[]) ∧ BW w0 g (l ++ writeE e) w' ∧ Kb w w'
theorem write_step (e : E) (ih : ∀ x ∈ e.kids, WriteC x) : WriteC e := by
 intro w0 ge oe g va vk l w he hb hl;obtain ⟨n, ats, ks, t⟩ := e;have HE := hid he;have HB := hid hb;have HL := hid hl;have HIH := hid ih;obtain ⟨A, ca, hva⟩ := he.2.2.2.2.2.1.slice;obtain ⟨B, cb, hvb⟩ := he.2.2.2.2.2.2.1.slice;replace hva : va = .slice A ats.length ca := hva;replace hvb : vk = .slice B ks.length cb := hvb;subst hva;subst hvb;have HW := hid (show writeE (.mk n ats ks t) = 60 :: n ++ attrsW ats ++ (if t.isEmpty && ks.isEmpty then [47, 62] else 62 :: escL t ++ writeL ks ++ ([60, 47] ++ n ++ [62])) by rw [writeE])
 have hwl : l.length + (n.length + 1 + (attrsW ats).length) + 2 ≤ 8000000 := by
  rw [HW.out] at hl
  have h2 : 2 ≤ (if t.isEmpty && ks.isEmpty then [47, 62] else 62 :: escL t ++ writeL ks ++ ([60, 47] ++ n ++ [62]) : List UInt8).length := by
   split
   ·simp
   ·simp only [List.length_append, List.length_cons]; omega
  simp only [List.length_append, List.length_cons] at hl h2 ⊢;omega
 have hl1 : ats.length ≤ maxLen := by obtain ⟨_, _, _, h, _⟩ := he.2.2.2.2.2.1; exact h.1
 have hl2 : ks.length ≤ maxLen := he.2.2.2.2.2.2.1.len;have htl : t.length ≤ maxLen := he.2.2.2.2.2.2.2.2;unfold maxLen at hl1 hl2 htl;have hE1 := he.fresh hb.frs;obtain ⟨hg, h0, h1, h2, h3, _⟩ := hE1;replace h0 : w.cell? ⟨ge, oe, none⟩ = some (.string ⟨n.toArray⟩) := h0;have hadd := fun W : World => run_string_add_lists (P := Tryz.prog) W [60] n (by simp) (by omega)
 clear he hb hl ih;go_enter Tryz.func37, Tryz.ntmps37;go_wp2_with fail
 refine (bw_str HB.out (60 :: n) (by simp; omega)).mono ?_;rintro _ w1 ⟨rfl, hb1, hk1⟩;have HB1 := hid hb1;have HK1 := hid hk1;clear hb1 hk1 h0 h1 h2 h3 hg hadd;obtain ⟨hg, h0, h1, h2, h3, _⟩ := HE.out.fresh HB1.out.frs;replace h1 : w1.cell? ⟨ge, oe + 1, none⟩ = some (.slice A ats.length ca) := h1;go_wp2_with fail
 clear hg h0 h1 h2 h3
 go_loopw [19] (fun i wr => ∃ j : Nat, i = .int .i64 j ∧ j ≤ ats.length ∧ Hid (BW w0 g (l ++ (60 :: n) ++ attrsW (ats.take j)) wr) ∧ Hid (Kb w wr)) (fun i _ => ats.length - (intOf i).toNat)
 case atStart => exact ⟨0, rfl, Nat.zero_le _, hid (by simpa [attrsW] using HB1.out), HK1⟩
 case round =>
  obtain ⟨j, rfl, hj, HBj, HKj⟩ := hrel
  by_cases c1 : j < ats.length
  ·have d1 : decide ((j : Int) < (ats.length : Int)) = true := dT (by omega)
   have d1' : (j : Int) < (ats.length : Int) := by omega
   have HA := hid (show RepA w0 ats _ from HE.out.2.2.2.2.2.1);obtain ⟨ga, oa, rfl, hga, m0, m1, hx1, hx2⟩ := HA.out.get j c1;have e0 := HBj.out.frs.cell m0 (fun h => h);have f0 := HBj.out.frs.cell m1 (fun h => h);have HAS := hid (El.attrsW_snoc ats j c1)
   have hxl : (attrsW (ats.take j)).length + ((ats[j]).1.length + (escL (ats[j]).2).length + 4) ≤ (attrsW ats).length := by
    have := El.attrsW_le ats (j + 1);rw [HAS.out, List.length_append] at this;unfold El.attrW at this;simp only [List.length_append, List.length_cons, List.length_nil] at this;omega
   have hx2' : (ats[j]).2.length ≤ 9223372036854775807 := hx2;clear m0 m1 hx1 hx2;generalize ats[j] = x at *;have hadd1 := fun W : World => run_string_add_lists (P := Tryz.prog) W [32] x.1 (by simp) (by omega)
   have hadd2 := fun W : World => run_string_add_lists (P := Tryz.prog) W (32 :: x.1) [61, 34] (by simp; omega) (by simp)
   go_wp2_with fail
   refine (bw_str (HBj.out.fresh ((Touch.refl _ wr).alloc (.cells #[.string ⟨x.1.toArray⟩, .string ⟨x.2.toArray⟩] 53))) (32 :: (x.1 ++ [61, 34])) (by simp only [List.length_append, List.length_cons, List.length_nil]; omega)).mono ?_;rintro _ w3 ⟨rfl, hb3, hk3⟩;have hq := hk3 _ _ _ (by decide) (by decide) (Blk.new wr 53 #[.string ⟨x.1.toArray⟩, .string ⟨x.2.toArray⟩]);have HB3 := hid hb3;have HK3 := hid (HKj.out.trans ((Fresh.kb ((Touch.refl _ wr).alloc _)).trans hk3));have HQ := hid hq;have q1 : w3.cell? ⟨wr.heap.size, 1, none⟩ = some (.string ⟨x.2.toArray⟩) := hq.cell 1;have qz : wr.heap.size < w3.heap.size := hq.lt;clear hb3 hk3 e0 f0 hadd1 hadd2 hq;go_wp2_with fail
   refine (escape_any x.2 w0 g _ w3 HB3.out (by simp only [List.length_append, List.length_cons, List.length_nil]; omega) hx2').mono ?_;rintro _ w4 ⟨rfl, hb4, hk4⟩;have HB4 := hid hb4;have HK4 := hid (HK3.out.trans hk4);clear hb4 hk4 q1 qz;go_wp2_with fail
   refine (bw_byte HB4.out _ 34 rfl (by simp only [List.length_append, List.length_cons, List.length_nil]; omega)).mono ?_;rintro _ w5 ⟨rfl, hb5, hk5⟩;have HB5 := hid (show BW w0 g (l ++ (60 :: n) ++ attrsW (ats.take (j + 1))) w5 by rw [HAS.out]; unfold El.attrW; simpa [List.append_assoc] using hb5);have HK5 := hid (HK4.out.trans hk5);clear hb5 hk5;go_wp2_with fail
   go_roundw
   case rel => exact ⟨j + 1, by go_num, c1, HB5, HK5⟩
   case measure => simp [intOf]; omega
  ·have d1 : decide ((j : Int) < (ats.length : Int)) = false := dF (by omega)
   obtain rfl : j = ats.length := by omega
   have HB2 := hid (show BW w0 g (l ++ (60 :: n) ++ attrsW ats) wr by have := HBj.out; rwa [List.take_length] at this);obtain ⟨hg, h0, h1, h2, h3, _⟩ := HE.out.fresh HB2.out.frs;replace h2 : wr.cell? ⟨ge, oe + 2, none⟩ = some (.slice B ks.length cb) := h2;replace h3 : wr.cell? ⟨ge, oe + 3, none⟩ = some (.string ⟨t.toArray⟩) := h3;clear h0 h1 d1 hj
   by_cases c2 : t = [] ∧ ks.length = 0
   ·obtain ⟨rfl, ck⟩ := c2
    have hks : ks = [] := List.eq_nil_of_length_eq_zero ck;have HW2 := hid (show writeE (.mk n ats ks []) = 60 :: n ++ attrsW ats ++ [47, 62] by rw [HW.out, hks]; rfl);have d2 : ((ks.length : Int) == 0) = true := by rw [ck]; rfl
    clear hks ck;go_wp2_with fail
    refine (bw_str HB2.out [47, 62] (by simp only [List.length_append, List.length_cons, List.length_nil]; omega)).mono ?_;rintro _ w6 ⟨rfl, hb6, hk6⟩;have HB6 := hid hb6;have HK6 := hid (HKj.out.trans hk6);clear hb6 hk6;go_wp2_with fail
    refine bodyPost_ret (results_none rfl _ _ _) rfl ?_;exact ⟨rfl, by rw [HW2.out]; simpa [List.append_assoc] using HB6.out, HK6.out⟩
   ·have HW2 := hid (show writeE (.mk n ats ks t) = 60 :: n ++ attrsW ats ++ (62 :: escL t ++ writeL ks ++ ([60, 47] ++ n ++ [62])) by
     rw [HW.out, if_neg];rw [Bool.and_eq_true, List.isEmpty_iff, List.isEmpty_iff];rintro ⟨e1, e2⟩;exact c2 ⟨e1, by rw [e2]; rfl⟩)
    have hwl2 : l.length + (n.length + 1 + (attrsW ats).length) + (1 + (escL t).length + (writeL ks).length + (n.length + 3)) ≤ 8000000 := by
     have := HL.out;rw [HW2.out] at this;simp only [List.length_append, List.length_cons, List.length_nil] at this;omega
    have hte : t.isEmpty = true → ((ks.length : Int) == 0) = false := fun h => by
     rw [beq_eq_false_iff_ne];intro h2;exact c2 ⟨List.isEmpty_iff.1 h, by omega⟩
    have HTE := hid hte;clear c2 hte
    by_cases ct : t.isEmpty = true
    focus
     have d2 := HTE.out ct;have et : t.isEmpty = true := ct;clear ct;go_wp2_with fail
    rotate_left
    focus
     have et : t.isEmpty = false := by simpa using ct
     clear ct;go_wp2_with fail
    all_goals
     refine (bw_byte HB2.out _ 62 rfl (by simp only [List.length_append, List.length_cons]; omega)).mono ?_;rintro _ w6 ⟨rfl, hb6, hk6⟩;have HB6 := hid hb6;have HK6 := hid (HKj.out.trans hk6);clear hb6 hk6 hg h2 h3;obtain ⟨hg, h0, h1, h2, h3, _⟩ := HE.out.fresh HB6.out.frs;replace h3 : w6.cell? ⟨ge, oe + 3, none⟩ = some (.string ⟨t.toArray⟩) := h3;clear et
     try clear d2
     clear h0 h1 h2;go_wp2_with fail
     refine (escape_any _ w0 g _ w6 HB6.out (by simp only [List.length_append, List.length_cons, List.length_nil]; omega) htl).mono ?_;rintro _ w7 ⟨rfl, hb7, hk7⟩;have HB7 := hid hb7;have HK7 := hid (HK6.out.trans hk7);clear hb7 hk7 hg h3;obtain ⟨hg, h0, h1, h2, h3, _⟩ := HE.out.fresh HB7.out.frs;replace h2 : w7.cell? ⟨ge, oe + 2, none⟩ = some (.slice B ks.length cb) := h2;clear h0 h1 h3;go_wp2_with fail
     clear hg h2
     go_loopw [64] (fun i wr => ∃ j : Nat, i = .int .i64 j ∧ j ≤ ks.length ∧ Hid (BW w0 g (l ++ (60 :: n) ++ attrsW ats ++ [62] ++ escL t ++ writeL (ks.take j)) wr) ∧ Hid (Kb w wr)) (fun i _ => ks.length - (intOf i).toNat)
     case atStart => exact ⟨0, rfl, Nat.zero_le _, hid (by simpa [El.writeL] using HB7.out), HK7⟩
     case round =>
      obtain ⟨j, rfl, hj, HBj, HKj⟩ := hrel;rename_i wr _
      by_cases c1 : j < ks.length
      ·have d1 : decide ((j : Int) < (ks.length : Int)) = true := dT (by omega)
       have d1' : (j : Int) < (ks.length : Int) := by omega
       obtain ⟨gk, ok, wa, wk, rfl, hek⟩ := (show RepE w0 ks _ from HE.out.2.2.2.2.2.2.1).elAt j c1;have HS := hid (El.writeL_snoc ks j c1)
       have hsm : (writeL (ks.take j)).length + (writeE ks[j]).length ≤ (writeL ks).length := by
        rw [← List.length_append, ← HS.out]; exact El.writeL_le ks (j + 1)
       obtain ⟨hg, h0, h1, h2, h3, _⟩ := HE.out.fresh HBj.out.frs;replace h2 : wr.cell? ⟨ge, oe + 2, none⟩ = some (.slice (some ⟨gk, ok, none⟩) ks.length cb) := h2;have HC := hid (HIH.out ks[j] (List.getElem_mem c1) w0 gk (ok + j * 4) g wa wk _ wr hek HBj.out (by simp only [List.length_append, List.length_cons, List.length_nil]; omega));clear h0 h1 h3 hek;generalize ks[j] = x at *;go_wp2_with fail
       refine HC.out.mono ?_;rintro _ w8 ⟨rfl, hb8, hk8⟩;have HB8 := hid (show BW w0 g (l ++ (60 :: n) ++ attrsW ats ++ [62] ++ escL t ++ writeL (ks.take (j + 1))) w8 by rw [HS.out, ← List.append_assoc]; exact hb8);have HK8 := hid (HKj.out.trans hk8);clear hb8 hk8 hg h2;go_wp2_with fail
       go_roundw
       case rel => exact ⟨j + 1, by go_num, c1, HB8, HK8⟩
       case measure => simp [intOf]; omega
      ·have d1 : decide ((j : Int) < (ks.length : Int)) = false := dF (by omega)
       obtain rfl : j = ks.length := by omega
       have HB8 := hid (show BW w0 g (l ++ (60 :: n) ++ attrsW ats ++ [62] ++ escL t ++ writeL ks) wr by have := HBj.out; rwa [List.take_length] at this);obtain ⟨hg, h0, h1, h2, h3, _⟩ := HE.out.fresh HB8.out.frs;replace h0 : wr.cell? ⟨ge, oe, none⟩ = some (.string ⟨n.toArray⟩) := h0;have hadd := fun W : World => run_string_add_lists (P := Tryz.prog) W [60, 47] n (by simp) (by omega)
       have hadd2 := fun W : World => run_string_add_lists (P := Tryz.prog) W ([60, 47] ++ n) [62] (by simp; omega) (by simp)
       clear h1 h2 h3 d1 hj;go_wp2_with fail
       rw [show ((⟨(60 :: 47 :: n).toArray⟩ : ByteArray) ++ ⟨#[62]⟩) = ⟨(60 :: 47 :: (n ++ [62])).toArray⟩ from by apply ByteArray.ext; simp [ByteArray.data_append]];refine (bw_str HB8.out (60 :: 47 :: (n ++ [62])) (by simp only [List.length_append, List.length_cons, List.length_nil]; omega)).mono ?_;rintro _ w9 ⟨rfl, hb9, hk9⟩;have HB9 := hid hb9;have HK9 := hid (HKj.out.trans hk9);clear hb9 hk9;go_wp2_with fail
       go_end0
       exact ⟨rfl, by rw [HW2.out]; simpa [List.append_assoc] using HB9.out, HK9.out⟩
theorem write_any (e : E) : WriteC e := El.E.ind (p := WriteC) write_step e
end Go.Proofs.YtfnjcldgicohaaaGreat
