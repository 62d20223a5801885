/- Part 17 of 33 of a proof; its texts, joined: MnF, MnG, MoM. No condition. -/
import Derived.Test.YtfnjcldgicohaaaGreatWa16
import Derived.Test.YtfnjcldgicohaaaGreatWa3
import Derived.Laws.EntriesVeiled
import Derived.OwnWalk
import Derived.Test.YtfnjcldgicohaaaGreatWa11
import Derived.Test.YtfnjcldgicohaaaGreatWa13
set_option maxRecDepth 100000
set_option maxHeartbeats 2000000
namespace Go.Proofs.YtfnjcldgicohaaaGreat
open Go.RowKit
open El (E Attrs attrV vis visL)
attribute [local go_sem] stillV stillUpon
theorem attrV_len {W : World} {a : Attrs} {v : Value} (h : RepA W a v) (nm : List UInt8) : (attrV a nm).length ≤ maxLen := by
 obtain ⟨_, _, _, _, h3, _⟩ := h
 have : ∀ a : Attrs, (∀ x ∈ a, x.1.length ≤ maxLen ∧ x.2.length ≤ maxLen) → (attrV a nm).length ≤ maxLen := by
  intro a
  induction a with
  | nil => intro _; exact Nat.zero_le _
  | cons x a ih =>
   intro h;rw [attrV];split
   ·exact (h x (List.mem_cons_self ..)).2
   ·exact ih fun y hy => h y (List.mem_cons_of_mem _ hy)
 exact this a h3
theorem admits_el (p k : E) (g o gk ok : Nat) (va vk ua uk : Value) (w : World) (hp : ElAt w g o p va vk) (hk : ElAt w gk ok k ua uk) (hne : 0 < p.kids.length) :
  Calls Tryz.prog 24 #[.pointer (some ⟨g, o, none⟩), .pointer (some ⟨gk, ok, none⟩)] w fun x w' => x = .returned (.bool (El.admF p k)) ∧ Fresh w w' := by
 obtain ⟨n, a, ks, t⟩ := p;obtain ⟨m, b, ls, s⟩ := k;obtain ⟨B, cb, hvb⟩ := hp.2.2.2.2.2.2.1.slice;obtain ⟨Bl, cl, hvl⟩ := hk.2.2.2.2.2.2.1.slice;replace hvb : vk = .slice B ks.length cb := hvb;replace hvl : uk = .slice Bl ls.length cl := hvl;subst hvb;subst hvl;obtain ⟨i, e, xa, xk, hA, hx⟩ := (show RepE w ks _ from hp.2.2.2.2.2.2.1).elAt 0 hne;subst hA
 match ks, hne, hp, hx with
 | x :: r, _, hp, hx =>
  obtain ⟨xn, xt, xs, xx⟩ := x;obtain ⟨Bj, cj, hvj⟩ := hx.2.2.2.2.2.2.1.slice;replace hvj : xk = .slice Bj xs.length cj := hvj;subst hvj;exact admits_any n m a b _ ls xs t s xn xt xx r rfl g o gk ok i e cb cl cj Bl Bj w hp.2.1 hp.2.2.2.1 hk.2.1 hk.2.2.2.1 (by have := hx.2.2.2.1; simpa using this)
def VisEnd (adm : Bool) (k c : Nat) (e : E) (w : World) (x : Ending) (w' : World) : Prop := x = .returned (.bool (vis adm k e).1) ∧ Touch (fun b => b = c) w w' ∧ Blk w' c 3 #[.int .i64 (((vis adm k e).2 : Int) - 1)]
abbrev visV (c f : Nat) : Value := .func (.func 22) #[] #[.pointer (some ⟨c, 0, none⟩), .pointer (some ⟨f, 0, none⟩)]
abbrev tVisit : TypeId := 56
def VisitC (e : E) : Prop := ∀ (adm : Bool) (g o c f k : Nat) (va vk : Value) (w : World), ElAt w g o e va vk → Blk w c 3 #[.int .i64 ((k : Int) - 1)] → Blk w f tVisit #[visV c f] → c ≠ f → k + El.count e ≤ 100000 →
 Calls Tryz.prog 22 #[.pointer (some ⟨g, o, none⟩), .bool adm, .pointer (some ⟨c, 0, none⟩), .pointer (some ⟨f, 0, none⟩)] w (VisEnd adm k c e w)
theorem visL_snoc (p : E) (l : List E) : ∀ (k j : Nat) (h : j < l.length), (visL p k (l.take j)).1 = true → visL p k (l.take (j + 1)) = vis (El.admF p l[j]) (visL p k (l.take j)).2 l[j] := by
 induction l with
 | nil => intro k j h; simp at h
 | cons x l ih =>
  intro k j h hv;cases j with
  | zero =>
   simp only [List.take_zero, List.take_succ_cons, List.getElem_cons_zero, El.visL]
   rcases hx : vis (El.admF p x) k x with ⟨b, k'⟩
   cases b <;> rfl
  | succ j =>
   simp only [List.take_succ_cons, List.getElem_cons_succ, El.visL] at hv ⊢
   rcases hx : vis (El.admF p x) k x with ⟨b, k'⟩
   rw [hx] at hv;cases b with
   | false => cases hv
   | true => exact ih k' j (by simpa using h) hv
theorem visL_stop (p : E) (l : List E) : ∀ (k j : Nat), (visL p k (l.take j)).1 = false → visL p k l = visL p k (l.take j) := by
 induction l with
 | nil => intro k j h; simp
 | cons x l ih =>
  intro k j h;cases j with
  | zero => simp [El.visL] at h
  | succ j =>
   simp only [List.take_succ_cons, El.visL] at h ⊢
   rcases hx : vis (El.admF p x) k x with ⟨b, k'⟩
   rw [hx] at h;cases b with
   | false => rfl
   | true => exact ih k' j h
theorem visL_lt (p : E) (l : List E) (k : Nat) : (visL p k l).2 ≤ k + El.countL l := by
 induction l generalizing k with
 | nil => rw [El.visL, El.countL]; exact Nat.le_refl _
 | cons x l ih =>
  have hx := El.vis_lt x (El.admF p x) k;rw [El.visL, El.countL]
  rcases hv : vis (El.admF p x) k x with ⟨b, k'⟩
  rw [hv] at hx;replace hx : k < k' ∧ k' ≤ k + El.count x := hx;cases b with
  | true => have := ih k'; show (visL p k' l).2 ≤ _; omega
  | false => show k' ≤ _; omega
theorem visit_step (e : E) (ih : ∀ x ∈ e.kids, VisitC x) : VisitC e := by
 intro adm g o c f k va vk w he hc hf hcf hcount;have HV := hid (El.vis_eq adm k e);have HE := hid he;have HC := hid hc;have HF := hid hf;have HIH := hid ih;have hcl : k + 1 + El.countL e.kids ≤ 100000 := by rw [El.count_kids] at hcount; omega
 have hcc : c < w.heap.size := hc.lt;have q0 := hc.cell 0;replace q0 : w.cell? ⟨c, 0, none⟩ = some (.int .i64 ((k : Int) - 1)) := q0;have qf : w.frozen? ⟨c, 0, none⟩ = false := hc.frozen 0;have hkb : (k : Int) ≤ 100000 := by omega
 have HC1 := hid (show Blk (w.setCell ⟨c, 0, none⟩ (.int .i64 (k : Int))) c 3 #[.int .i64 (k : Int)] from HC.out.put 0 (.int .i64 (k : Int)));have HT1 := hid ((Touch.refl (fun b => b = c) w).setCell (p := ⟨c, 0, none⟩) (.inl rfl) (.int .i64 (k : Int)));have HE1 := hid (HE.out.turn HT1.out fun b hb => by rw [show b = c from hb]; exact NoStr.int HC.out);have HF1 := hid (HT1.out.blk HF.out fun h => hcf h.symm);have hk1 : (k : Int) - 1 + 1 = (k : Int) := by omega
 clear he hc hf ih hcount;cases adm with
 | false =>
  have HV2 := hid (show vis false k e = (false, k + 1) by rw [HV.out]; rfl);go_enter Tryz.func22, Tryz.ntmps22;go_wp2_with fail
  go_ret;exact ⟨by rw [HV2.out]; rfl, HT1.out, by rw [HV2.out]; have := HC1.out; rw [show (((false, k + 1) : Bool × Nat).2 : Int) - 1 = (k : Int) by show ((k + 1 : Nat) : Int) - 1 = _; omega]; exact this⟩
 | true =>
  go_enter Tryz.func22, Tryz.ntmps22;go_wp2_with fail
  refine (own_elem e g o va vk _ HE1.out (attrV_len HE1.out.2.2.2.2.2.1 _)).mono ?_;rintro _ w2 ⟨rfl, hf2⟩;have HT2 := hid (HT1.out.trans (hf2.mono fun _ h => h.elim));have HE2 := hid (HE1.out.fresh hf2);have HC2 := hid (hf2.blk HC1.out fun h => h);have HF2 := hid (hf2.blk HF1.out fun h => h);clear hf2 q0 qf hcc;cases hown : El.ownF e with
  | false =>
   have HV2 := hid (show vis true k e = (false, k + 1) by rw [HV.out, hown]; rfl);go_wp2_with fail
   go_ret;exact ⟨by rw [HV2.out]; rfl, HT2.out, by rw [HV2.out]; have := HC2.out; rw [show (((false, k + 1) : Bool × Nat).2 : Int) - 1 = (k : Int) by show ((k + 1 : Nat) : Int) - 1 = _; omega]; exact this⟩
  | true =>
   have HV2 := hid (show vis true k e = visL e (k + 1) e.kids by rw [HV.out, hown]; rfl);have hl2 := HE.out.2.2.2.2.2.2.1.len;obtain ⟨B, cb, hvb⟩ := HE.out.2.2.2.2.2.2.1.slice;subst hvb;unfold maxLen at hl2;obtain ⟨hg2, _, _, h2, _, _⟩ := HE2.out;go_wp2_with fail
   clear hg2 h2
   go_loopw [22] (fun i wr => ∃ j : Nat, i = .int .i64 j ∧ j ≤ e.kids.length ∧ Hid ((visL e (k + 1) (e.kids.take j)).1 = true) ∧ Hid (Touch (fun b => b = c) w wr) ∧ Hid (Blk wr c 3 #[.int .i64 (((visL e (k + 1) (e.kids.take j)).2 : Int) - 1)])) (fun i _ => e.kids.length - (intOf i).toNat)
   case atStart =>
    refine ⟨0, rfl, Nat.zero_le _, by show (visL e (k + 1) []).1 = true; rw [El.visL], HT2, ?_⟩;show Blk _ _ _ #[.int .i64 (((visL e (k + 1) []).2 : Int) - 1)];rw [El.visL];have := HC2.out;rw [show (((k + 1 : Nat) : Int) - 1) = (k : Int) by omega];exact this
   case round =>
    obtain ⟨j, rfl, hj, HVL, HT, HCC⟩ := hrel;rename_i wr _;have HE3 := hid (HE.out.turn HT.out fun b hb => by rw [show b = c from hb]; exact NoStr.int HC.out);have HF3 := hid (HT.out.blk HF.out fun h => hcf h.symm)
    by_cases c1 : j < e.kids.length
    ·have d1 : decide ((j : Int) < (e.kids.length : Int)) = true := dT (by omega)
     have d1' : (j : Int) < (e.kids.length : Int) := by omega
     obtain ⟨gk, ok, wa, wk, rfl, hek⟩ := (show RepE wr e.kids _ from HE3.out.2.2.2.2.2.2.1).elAt j c1;have hle := visL_lt e (e.kids.take j) (k + 1);have HS := hid (visL_snoc e e.kids (k + 1) j c1 HVL.out);have HN := hid (visL_stop e e.kids (k + 1) (j + 1));have hcm := El.countL_take e.kids j c1;have hcm2 := El.countL_le e.kids (j + 1);have HADM := hid (fun (w : World) (hp : ElAt w g o e va (.slice (some ⟨gk, ok, none⟩) e.kids.length cb)) (hk : ElAt w gk (ok + j * 4) e.kids[j] wa wk) => admits_el e e.kids[j] g o gk (ok + j * 4) va _ wa wk w hp hk (show 0 < e.kids.length by omega));have HC4 := hid (HIH.out e.kids[j] (List.getElem_mem c1) (El.admF e e.kids[j]) gk (ok + j * 4) c f (visL e (k + 1) (e.kids.take j)).2 wa wk);have HEK := hid hek;have hcv : (visL e (k + 1) (e.kids.take j)).2 + El.count e.kids[j] ≤ 100000 := by omega
     clear hek hle hcm hcm2;generalize e.kids[j] = x at *;obtain ⟨hg2, _, _, h2, _, _⟩ := HE3.out;go_wp2_with fail
     have k2 := cR h2;have kf := cR (HF3.out.cell 0);refine wp_region_mix [([(0, true), (1, true), (2, true), (3, true), (4, true), (5, true), (6, true), (7, true), (8, true), (9, true), (10, true), (11, true), (12, true), (13, true), (14, false)], 15)] [(16, true)] (by kernel_rfl) (fun _ _ d _ _ h => by cases d <;> exact h) (by kernel_rfl) ?_;refine wpMix_seg ?_
     repeat (refine wpSeq_plain rfl (fun K hK => ?_); go_simp; refine hK _ ?_; clear hK K)
     refine wpSeq_lone rfl (fun K hK => ?_);go_wp2_with fail
     refine (HADM.out _ (HE3.out.fresh frR) (HEK.out.fresh frR)).mono ?_;rintro _ w5 ⟨rfl, hf5⟩;have HF5 := hid (show Fresh wr w5 from preA hf5);clear hf5 k2 kf;go_wp2_with fail
     refine hK _ _ (growing_fresh HF5.out) ?_;clear hK K;refine wpSeq_shut rfl (fun K hK => ?_);go_wp2_with fail
     refine (HC4.out w5 (HEK.out.fresh HF5.out) (HF5.out.blk HCC.out fun h => h) (HF5.out.blk HF3.out fun h => h) hcf hcv).mono ?_;rintro _ w6 ⟨rfl, ht6, hb6⟩;have HT6 := hid ((HT.out.trans (HF5.out.mono fun _ h => h.elim)).trans ht6);have HB6 := hid hb6;clear ht6 hb6;rw [← HS.out];rw [← HS.out] at HB6;cases hv : (visL e (k + 1) (e.kids.take (j + 1))).1 with
     | false =>
      have HVX := hid (HV2.out.trans (HN.out hv));have HVB := hid hv;clear hv;go_wp2_with fail
      refine wpMix_last ?_
      repeat (refine wpSeq_plain rfl (fun K hK => ?_); go_simp; refine hK _ ?_; clear hK K)
      refine wpSeq_end ?_;go_wp2_with fail
      go_ret;exact ⟨by rw [HVX.out, HVB.out]; rfl, HT6.out, by rw [HVX.out]; exact HB6.out⟩
     | true =>
      have HVB := hid hv;clear hv;go_wp2_with fail
      refine wpMix_last ?_
      repeat (refine wpSeq_plain rfl (fun K hK => ?_); go_simp; refine hK _ ?_; clear hK K)
      refine wpSeq_end ?_;go_wp2_with fail
      go_roundw
      case rel => exact ⟨j + 1, by go_num, c1, HVB, HT6, HB6⟩
      case measure => simp [intOf]; omega
    ·have d1 : decide ((j : Int) < (e.kids.length : Int)) = false := dF (by omega)
     obtain rfl : j = e.kids.length := by omega
     have HVX := hid (show vis true k e = visL e (k + 1) e.kids from HV2.out);have HVB := hid (show (visL e (k + 1) e.kids).1 = true by have := HVL.out; rwa [List.take_length] at this);go_wp2_with fail
     go_ret;exact ⟨by rw [HVX.out, HVB.out]; rfl, HT.out, by rw [HVX.out]; have := HCC.out; rwa [List.take_length] at this⟩
theorem visit_any (e : E) : VisitC e := El.E.ind (p := VisitC) visit_step e
theorem fault_any (e : E) (g o : Nat) (va vk : Value) (w : World) (he : ElAt w g o e va vk) (hc : El.count e ≤ 90000) :
  Calls Tryz.prog 12 #[.pointer (some ⟨g, o, none⟩)] w fun x w' => x = .returned (.tuple #[.int .i64 (El.faultF e).1, .bool (El.faultF e).2]) ∧ Fresh w w' := by
 have HE := hid he;have HV := hid (visit_any e);have HFF := hid (show El.faultF e = if (vis (decide (e.name = El.nMath)) 0 e).1 then (0, false) else (((vis (decide (e.name = El.nMath)) 0 e).2 : Int) - 1, true) from rfl);have hd : (e.name == [109, 97, 116, 104]) = decide (e.name = El.nMath) := (dec_beq e.name El.nMath).symm;have HD := hid hd;clear he hd;go_enter Tryz.func12, Tryz.ntmps12;go_wp2_with fail
 have hb1 := Blk.new2 w (.cells #[.int .i64 (-1)] 3) tVisit #[visV w.heap.size (w.heap.size + 1)];have hb0 := (Blk.new w 3 #[.int .i64 (-1)]).alloc (.cells #[visV w.heap.size (w.heap.size + 1)] tVisit);have hf0 := ((Touch.refl (fun _ => False) w).alloc (.cells #[.int .i64 (-1)] 3)).alloc (.cells #[visV w.heap.size (w.heap.size + 1)] tVisit);generalize ((w.alloc (.cells #[.int .i64 (-1)] 3)).alloc (.cells #[visV w.heap.size (w.heap.size + 1)] tVisit)) = W2 at *;have HB1 := hid hb1;have HB0 := hid hb0;have HF0 := hid hf0;have HE2 := hid (HE.out.fresh hf0);obtain ⟨hg2, h0, _, _, _, _⟩ := HE2.out;have k0 := cR h0;have kf := cR (hb1.cell 0);clear hb1 hb0 hf0;refine wp_region_mix [([(0, true), (1, true), (2, true), (3, true), (4, true), (5, true), (6, true)], 7)] [] (by kernel_rfl) (fun _ _ d _ _ h => by cases d <;> exact h) (by kernel_rfl) ?_;refine wpMix_seg ?_
 repeat (refine wpSeq_plain rfl (fun K hK => ?_); go_simp; refine hK _ ?_; clear hK K)
 refine wpSeq_shut rfl (fun K hK => ?_);go_wp2_with fail
 rw [HD.out];generalize decide (e.name = El.nMath) = adm at *;have hdr := (Touch.refl (fun _ => False) W2).drewN 1;refine (HV.out adm g o w.heap.size (w.heap.size + 1) 0 va vk _ (HE2.out.fresh hdr) (hdr.blk HB0.out fun h => h) (hdr.blk HB1.out fun h => h) (by omega) (by omega)).mono ?_;rintro _ w3 ⟨rfl, ht3, hb3⟩;have HF3 := hid (show Fresh w w3 from (HF0.out.trans hdr).trans' ht3 fun i hi => .inr (by have hi : i = w.heap.size := hi; omega));have c0 := hb3.cell 0;replace c0 : w3.cell? ⟨w.heap.size, 0, none⟩ = some (.int .i64 (((vis adm 0 e).2 : Int) - 1)) := c0;clear ht3 hb3 kf k0 h0;cases hv : (vis adm 0 e).1 with
 | false =>
  have HR := hid (show El.faultF e = (((vis adm 0 e).2 : Int) - 1, true) by rw [HFF.out, hv]; rfl);clear hv;go_wp2_with fail
  refine wpMix_end ?_;go_wp2_with fail
  go_ret2;exact ⟨by rw [HR.out]; rfl, HF3.out⟩
 | true =>
  have HR := hid (show El.faultF e = (0, false) by rw [HFF.out, hv]; rfl);clear hv;go_wp2_with fail
  refine wpMix_end ?_;go_wp2_with fail
  go_ret2;exact ⟨by rw [HR.out]; rfl, HF3.out⟩
end Go.Proofs.YtfnjcldgicohaaaGreat
namespace Go.Proofs.YtfnjcldgicohaaaGreat
open Go.RowKit
open El (E Attrs)
def RCountC (e : E) : Prop := ∀ (va vk : Value) (w : World), RepV w e va vk → El.count e ≤ 1000000 → Calls Tryz.prog 29 #[ev e va vk] w fun x w' => x = .returned (.int .i64 (El.count e : Nat)) ∧ Fresh w w'
theorem rcount_step (e : E) (ih : ∀ x ∈ e.kids, RCountC x) : RCountC e := by
 intro va vk w hr hc;obtain ⟨A, ca, hva⟩ := hr.1.slice;obtain ⟨B, cb, hvk⟩ := hr.2.1.slice;have HR := hid hr;have HIH := hid ih;obtain ⟨n, ats, ks, t⟩ := e;have hl2 : ks.length ≤ maxLen := hr.2.1.len;unfold maxLen at hl2;have HCE := hid (show El.count (.mk n ats ks t) = 1 + El.countL ks from by rw [El.count]);rw [HCE.out] at hc;rw [HCE.out];replace hva : va = .slice A ats.length ca := hva;replace hvk : vk = .slice B ks.length cb := hvk;subst hva;subst hvk;unfold ev;simp only [E.name, E.kids, E.text] at HIH ⊢;clear hr ih;have HK := hid (show RepE w ks _ from HR.out.2.1);go_enter Tryz.func29, Tryz.ntmps29;go_wp2_with fail
 have HB0 := hid (Blk.new w 25 #[.string ⟨n.toArray⟩, .slice A ats.length ca, .slice B ks.length cb, .string ⟨t.toArray⟩]);have HF0 := hid ((Touch.refl (fun _ => False) w).alloc (.cells #[.string ⟨n.toArray⟩, .slice A ats.length ca, .slice B ks.length cb, .string ⟨t.toArray⟩] 25))
 go_loopw [4, 3] (fun i s wr => ∃ j : Nat, i = .int .i64 j ∧ s = .int .i64 ((1 + El.countL (ks.take j) : Nat) : Int) ∧ j ≤ ks.length ∧ Hid (Blk wr w.heap.size 25 #[.string ⟨n.toArray⟩, .slice A ats.length ca, .slice B ks.length cb, .string ⟨t.toArray⟩]) ∧ Hid (Fresh w wr)) (fun i _ _ => ks.length - (intOf i).toNat)
 case atStart => exact ⟨0, rfl, by show _ = Value.int .i64 ((1 + El.countL [] : Nat) : Int); rw [El.countL]; rfl, Nat.zero_le _, HB0, HF0⟩
 case round =>
  obtain ⟨j, rfl, rfl, hj, HB, HF⟩ := hrel;obtain ⟨q0, q1, q2, q3, _, _, _, _, _⟩ := Blk.four HB.out
  by_cases c1 : j < ks.length
  ·have d1 : decide ((j : Int) < (ks.length : Int)) = true := dT (by omega)
   have d1' : (j : Int) < (ks.length : Int) := by omega
   have d1n : decide (j < ks.length) = true := dT c1;obtain ⟨g, o, va, vk, rfl, hg, m0, m1, m2, m3, hrx⟩ := HK.out.get j c1;obtain ⟨e0, e1, e2, e3⟩ := mv4 HF.out m0 m1 m2 m3;obtain ⟨Aa, aa, hva⟩ := hrx.1.slice;obtain ⟨Ak, ak, hvk⟩ := hrx.2.1.slice;have HS := hid (El.countL_take ks j c1);have hle := El.countL_le ks (j + 1);rw [HS.out] at hle;have HC := hid (fun (W : World) (hw : RepV W ks[j] va vk) => HIH.out ks[j] (List.getElem_mem c1) va vk W hw (by omega));have HX := hid (hrx.fresh HF.out);clear m0 m1 m2 m3 hrx;generalize ks[j] = x at *;obtain ⟨xn, xa, xk, xt⟩ := x;unfold ev at HC;simp only [E.name, E.attrs, E.kids, E.text] at hva hvk e0 e1 e2 e3 HC;subst hva hvk;go_wp2_with fail
   refine (HC.out _ HX.out).mono ?_;rintro _ w2 ⟨rfl, hf2⟩;have HF2 := hid (HF.out.trans hf2);have HB2 := hid (hf2.blk HB.out fun h => h);clear hf2;go_wp2_with fail
   go_roundw
   case rel => exact ⟨j + 1, by go_num, by rw [HS.out]; go_num, c1, HB2, HF2⟩
   case measure => simp [intOf]; omega
  ·have d1 : decide ((j : Int) < (ks.length : Int)) = false := dF (by omega)
   have d1n : decide (j < ks.length) = false := dF c1;obtain rfl : j = ks.length := by omega
   go_wp2_with fail
   go_ret;exact ⟨by rw [List.take_length]; rfl, HF.out⟩
theorem rcount_any (e : E) : RCountC e := El.E.ind (p := RCountC) rcount_step e
def RLeftC (e : E) : Prop := ∀ (m : Int) (va vk : Value) (w : World), 0 ≤ m → m ≤ 100000 → RepV w e va vk → Calls Tryz.prog 10 #[ev e va vk, .int .i64 m] w fun x w' => ∃ r : Int, x = .returned (.int .i64 r) ∧ Fresh w w' ∧ -1 ≤ r ∧ r < m ∧ (0 ≤ r → r = m - (El.count e : Nat))
theorem rleft_step (e : E) (ih : ∀ x ∈ e.kids, RLeftC x) : RLeftC e := by
 intro m va vk w hm0 hm hr;obtain ⟨A, ca, hva⟩ := hr.1.slice;obtain ⟨B, cb, hvk⟩ := hr.2.1.slice;have HR := hid hr;have HIH := hid ih;obtain ⟨n, ats, ks, t⟩ := e;have hl1 : ats.length ≤ maxLen := by obtain ⟨_, _, _, h, _⟩ := hr.1; exact h.1
 have hl2 : ks.length ≤ maxLen := hr.2.1.len;have hnl : n.length ≤ maxLen := hr.2.2.1;have htl : t.length ≤ maxLen := hr.2.2.2;unfold maxLen at hl1 hl2 hnl htl;have HCE := hid (show (El.count (.mk n ats ks t) : Nat) = 1 + El.countL ks from by rw [El.count]);rw [HCE.out];replace hva : va = .slice A ats.length ca := hva;replace hvk : vk = .slice B ks.length cb := hvk;subst hva;subst hvk;unfold ev;simp only [E.name, E.kids, E.text] at HIH ⊢;clear hr ih;have HK := hid (show RepE w ks _ from HR.out.2.1);have HA := hid (show RepA w ats _ from HR.out.1);have hw : IntKind.i64.wrap (m - 1) = m - 1 := IntWalk.i64_in _ (by omega);have HB0 := hid (Blk.new w 25 #[.string ⟨n.toArray⟩, .slice A ats.length ca, .slice B ks.length cb, .string ⟨t.toArray⟩]);have HF0 := hid ((Touch.refl (fun _ => False) w).alloc (.cells #[.string ⟨n.toArray⟩, .slice A ats.length ca, .slice B ks.length cb, .string ⟨t.toArray⟩] 25))
 have hways : decide ((20 : Int) < (ats.length : Int)) = true ∨ (decide ((20 : Int) < (ats.length : Int)) = false ∧ decide ((400 : Int) < (t.length : Int)) = true) ∨ (decide ((20 : Int) < (ats.length : Int)) = false ∧ decide ((400 : Int) < (t.length : Int)) = false ∧ decide ((400 : Int) < (n.length : Int)) = true) ∨
   (decide ((20 : Int) < (ats.length : Int)) = false ∧ decide ((400 : Int) < (t.length : Int)) = false ∧ decide ((400 : Int) < (n.length : Int)) = false) := by
  cases decide ((20 : Int) < (ats.length : Int)) <;> cases decide ((400 : Int) < (t.length : Int)) <;> cases decide ((400 : Int) < (n.length : Int)) <;> simp
 rcases hways with c1 | ⟨c1, c2⟩ | ⟨c1, c2, c3⟩ | ⟨c1, c2, c3⟩
 focus
  go_enter Tryz.func10, Tryz.ntmps10;go_wp2_with fail
  go_ret;exact ⟨-1, rfl, HF0.out, by omega, by omega, fun h => absurd h (by decide)⟩
 focus
  go_enter Tryz.func10, Tryz.ntmps10;go_wp2_with fail
  go_ret;exact ⟨-1, rfl, HF0.out, by omega, by omega, fun h => absurd h (by decide)⟩
 focus
  go_enter Tryz.func10, Tryz.ntmps10;go_wp2_with fail
  go_ret;exact ⟨-1, rfl, HF0.out, by omega, by omega, fun h => absurd h (by decide)⟩
 go_enter Tryz.func10, Tryz.ntmps10;go_wp2_with fail
 clear c1 c2 c3 hw;refine forget_world (fun W => Fresh w W ∧ Blk W w.heap.size 25 #[.string ⟨n.toArray⟩, .slice A ats.length ca, .slice B ks.length cb, .string ⟨t.toArray⟩]) ⟨HF0.out, HB0.out⟩ ?_;clear HF0 HB0;rintro W1 ⟨hf1, hb1⟩;have HF1 := hid hf1;have HB1 := hid hb1;have HA1 := hid (HA.out.fresh hf1);have hg1 := hb1.lt;clear hf1 hb1
 go_loopw [5] (fun i wr => ∃ j : Nat, i = .int .i64 j ∧ j ≤ ats.length ∧ wr = W1) (fun i _ => ats.length - (intOf i).toNat)
 case atStart => exact ⟨0, rfl, Nat.zero_le _, rfl⟩
 case round =>
  obtain ⟨j, rfl, hj, rfl⟩ := hrel;obtain ⟨q0, q1, q2, q3, _⟩ := Blk.four HB1.out
  by_cases c1 : j < ats.length
  ·have d1 : decide ((j : Int) < (ats.length : Int)) = true := dT (by omega)
   have d1' : (j : Int) < (ats.length : Int) := by omega
   have d1n : decide (j < ats.length) = true := dT c1;obtain ⟨g, o, rfl, hg2, m0, m1, hx1, hx2⟩ := HA1.out.get j c1;unfold maxLen at hx1 hx2;generalize ats[j] = x at *
   have hways : decide ((400 : Int) < (x.1.length : Int)) = true ∨ (decide ((400 : Int) < (x.1.length : Int)) = false ∧ decide ((400 : Int) < (x.2.length : Int)) = true) ∨ (decide ((400 : Int) < (x.1.length : Int)) = false ∧ decide ((400 : Int) < (x.2.length : Int)) = false) := by
    cases decide ((400 : Int) < (x.1.length : Int)) <;> cases decide ((400 : Int) < (x.2.length : Int)) <;> simp
   rcases hways with c2 | ⟨c2, c3⟩ | ⟨c2, c3⟩
   ·go_wp2_with fail
    go_ret;exact ⟨-1, rfl, HF1.out, by omega, by omega, fun h => absurd h (by decide)⟩
   ·go_wp2_with fail
    go_ret;exact ⟨-1, rfl, HF1.out, by omega, by omega, fun h => absurd h (by decide)⟩
   ·go_wp2_with fail
    go_roundw
    case rel => exact ⟨j + 1, by go_num, c1, trivial⟩
    case measure => simp [intOf]; omega
  ·have d1 : decide ((j : Int) < (ats.length : Int)) = false := dF (by omega)
   have d1n : decide (j < ats.length) = false := dF c1;clear hj;go_wp2_with fail
   clear d1 d1n c1 q0 q1 q2 q3
   go_loopw [6, 1] (fun i s wr => ∃ (k : Nat) (r : Int), i = .int .i64 k ∧ s = .int .i64 r ∧ k ≤ ks.length ∧ -1 ≤ r ∧ r < m ∧ Hid (0 ≤ r → r = m - ((1 + El.countL (ks.take k) : Nat) : Int)) ∧ Hid (Blk wr w.heap.size 25 #[.string ⟨n.toArray⟩, .slice A ats.length ca, .slice B ks.length cb, .string ⟨t.toArray⟩]) ∧ Hid (Fresh w wr)) (fun i _ _ => ks.length - (intOf i).toNat)
   case atStart => exact ⟨0, m - 1, rfl, rfl, Nat.zero_le _, by omega, by omega, hid (fun _ => by rw [List.take_zero, El.countL]; omega), HB1, HF1⟩
   case round =>
    obtain ⟨k, r, rfl, rfl, hk, hr1, hr2, HRR, HB, HF⟩ := hrel;rename_i wr2 _;obtain ⟨q0, q1, q2, q3, _, _, _, _, _⟩ := Blk.four HB.out
    by_cases c1 : k < ks.length ∧ 0 ≤ r
    ·have d1 : decide ((k : Int) < (ks.length : Int)) = true := dT (by omega)
     have d1' : (k : Int) < (ks.length : Int) := by omega
     have d1n : decide (k < ks.length) = true := dT c1.1;have d2 : decide ((0 : Int) ≤ r) = true := dT c1.2;obtain ⟨hkl, hr0⟩ := c1;obtain ⟨g, o, va, vk, rfl, hg, m0, m1, m2, m3, hrx⟩ := HK.out.get k hkl;obtain ⟨e0, e1, e2, e3⟩ := mv4 HF.out m0 m1 m2 m3;obtain ⟨Aa, aa, hva⟩ := hrx.1.slice;obtain ⟨Ak, ak, hvk⟩ := hrx.2.1.slice;have HS := hid (El.countL_take ks k hkl);have HC := hid (fun (W : World) (hw : RepV W ks[k] va vk) => HIH.out ks[k] (List.getElem_mem hkl) r va vk W hr0 (by omega) hw);have HX := hid (hrx.fresh HF.out);have HE2 := hid (HRR.out hr0);clear m0 m1 m2 m3 hrx;generalize ks[k] = x at *;obtain ⟨xn, xa, xk, xt⟩ := x;unfold ev at HC;simp only [E.name, E.attrs, E.kids, E.text] at hva hvk e0 e1 e2 e3 HC;subst hva hvk;go_wp2_with fail
     refine (HC.out _ HX.out).mono ?_;rintro _ w2 ⟨r2, rfl, hf2, h1, h2, h3⟩;have HF2 := hid (HF.out.trans hf2);have HB2 := hid (hf2.blk HB.out fun h => h);have H3 := hid h3;have H1 := hid h1;have H2 := hid h2;clear hf2 h1 h2 h3;go_wp2_with fail
     go_roundw
     case rel => exact ⟨k + 1, r2, by go_num, rfl, hkl, H1.out, by have := H2.out; omega, hid (fun h => by have := H3.out h; have := HS.out; have := HE2.out; omega), HB2, HF2⟩
     case measure => simp [intOf]; omega
    ·have hways : (decide ((k : Int) < (ks.length : Int)) = false ∧ decide (k < ks.length) = false) ∨ ((decide ((k : Int) < (ks.length : Int)) = true ∧ decide (k < ks.length) = true) ∧ decide ((0 : Int) ≤ r) = false) := by
      by_cases c2 : k < ks.length
      ·exact .inr ⟨⟨dT (by omega), dT c2⟩, dF fun h => c1 ⟨c2, h⟩⟩
      ·exact .inl ⟨dF (by omega), dF c2⟩
     have HFIN := hid (show 0 ≤ r → r = m - ((1 + El.countL ks : Nat) : Int) from fun h => by
      have hkl : k = ks.length := by
       rcases Nat.lt_or_ge k ks.length with h1 | h1
       ·exact absurd ⟨h1, h⟩ c1
       ·omega
      have := HRR.out h
      rwa [hkl, List.take_length] at this)
     have HH1 := hid hr1;have HH2 := hid hr2;clear c1 hr1 hr2 hk
     rcases hways with ⟨d1, d1n⟩ | ⟨⟨d1, d1n⟩, d2⟩
     all_goals
      go_wp2_with fail
      go_ret;exact ⟨r, rfl, HF.out, HH1.out, HH2.out, HFIN.out⟩
theorem rleft_any (e : E) : RLeftC e := El.E.ind (p := RLeftC) rleft_step e
theorem rfew23_any (e : E) (m : Int) (va vk : Value) (w : World) (hm0 : 0 ≤ m) (hm : m ≤ 100000) (hr : RepV w e va vk) :
  Calls Tryz.prog 5 #[ev e va vk, .int .i64 m] w fun x w' => ∃ b, x = .returned (.bool b) ∧ Fresh w w' ∧ (b = true → (El.count e : Int) ≤ m) := by
 have HL := hid (fun (W : World) (h : RepV W e va vk) => rleft_any e m va vk W hm0 hm h);have HR := hid hr;clear hr;generalize El.count e = c at *;obtain ⟨n, ats, ks, t⟩ := e;obtain ⟨A, ca, hva⟩ := HR.out.1.slice;obtain ⟨B, cb, hvk⟩ := HR.out.2.1.slice;replace hva : va = .slice A ats.length ca := hva;replace hvk : vk = .slice B ks.length cb := hvk;subst hva;subst hvk;unfold ev at *;simp only [E.name, E.text] at *;go_enter Tryz.func5, Tryz.ntmps5;go_wp2_with fail
 refine (HL.out _ (HR.out.fresh ((Touch.refl _ w).alloc _))).mono ?_;rintro _ w1 ⟨r, rfl, hf1, h1, h2, h3⟩;have HF1 := hid (Touch.pre hf1);have H3 := hid h3;clear hf1 h1 h2 h3;go_wp2_with fail
 go_ret;exact ⟨_, rfl, HF1.out, fun h => by have := of_decide_eq_true h; have := H3.out this; omega⟩
def RDepthC (e : E) : Prop := ∀ (va vk : Value) (w : World), RepV w e va vk → El.count e ≤ 1000000 → Calls Tryz.prog 30 #[ev e va vk] w fun x w' => x = .returned (.int .i64 (El.depth e : Nat)) ∧ Fresh w w'
theorem depthL_le_count (l : List E) : El.depthL l ≤ El.countL l := by
 have : ∀ (k : Nat) (l : List E), El.countL l ≤ k → El.depthL l ≤ El.countL l := by
  intro k
  induction k with
  | zero =>
   intro l h;cases l with
   | nil => exact Nat.le_refl _
   | cons x l => rw [El.countL] at h; have := El.count_pos x; omega
  | succ k ih =>
   intro l
   induction l with
   | nil => intro _; exact Nat.le_refl _
   | cons x l ihl =>
    intro h;rw [El.countL] at h ⊢;rw [El.depthL, El.depth_kids];have h1 := El.count_kids x;have h2 := ihl (by omega);have h3 := ih x.kids (by omega);omega
 exact this _ l (Nat.le_refl _)
theorem rdepth_step (e : E) (ih : ∀ x ∈ e.kids, RDepthC x) : RDepthC e := by
 intro va vk w hr hc;obtain ⟨A, ca, hva⟩ := hr.1.slice;obtain ⟨B, cb, hvk⟩ := hr.2.1.slice;have HR := hid hr;have HIH := hid ih;obtain ⟨n, ats, ks, t⟩ := e;have hl2 : ks.length ≤ maxLen := hr.2.1.len;unfold maxLen at hl2;have hcl : 1 + El.countL ks ≤ 1000000 := by rw [El.count] at hc; exact hc
 have HCE := hid (show El.depth (.mk n ats ks t) = El.depthL ks + 1 from by rw [El.depth]);rw [HCE.out];replace hva : va = .slice A ats.length ca := hva;replace hvk : vk = .slice B ks.length cb := hvk;subst hva;subst hvk;unfold ev;simp only [E.name, E.kids, E.text] at HIH ⊢;clear hr ih hc;have HK := hid (show RepE w ks _ from HR.out.2.1);go_enter Tryz.func30, Tryz.ntmps30;go_wp2_with fail
 have HB0 := hid (Blk.new w 25 #[.string ⟨n.toArray⟩, .slice A ats.length ca, .slice B ks.length cb, .string ⟨t.toArray⟩]);have HF0 := hid ((Touch.refl (fun _ => False) w).alloc (.cells #[.string ⟨n.toArray⟩, .slice A ats.length ca, .slice B ks.length cb, .string ⟨t.toArray⟩] 25))
 go_loopw [4, 3] (fun i s wr => ∃ j d : Nat, i = .int .i64 j ∧ s = .int .i64 d ∧ Hid (d = El.depthL (ks.take j)) ∧ j ≤ ks.length ∧ d ≤ 1000000 ∧ Hid (Blk wr w.heap.size 25 #[.string ⟨n.toArray⟩, .slice A ats.length ca, .slice B ks.length cb, .string ⟨t.toArray⟩]) ∧ Hid (Fresh w wr)) (fun i _ _ => ks.length - (intOf i).toNat)
 case atStart => exact ⟨0, 0, rfl, rfl, hid (by rw [List.take_zero, El.depthL]), Nat.zero_le _, Nat.zero_le _, HB0, HF0⟩
 case round =>
  obtain ⟨j, d, rfl, rfl, HD, hj, hdl, HB, HF⟩ := hrel;obtain ⟨q0, q1, q2, q3, _, _, _, _, _⟩ := Blk.four HB.out
  by_cases c1 : j < ks.length
  ·have d1 : decide ((j : Int) < (ks.length : Int)) = true := dT (by omega)
   have d1' : (j : Int) < (ks.length : Int) := by omega
   have d1n : decide (j < ks.length) = true := dT c1;obtain ⟨g, o, va, vk, rfl, hg, m0, m1, m2, m3, hrx⟩ := HK.out.get j c1;obtain ⟨e0, e1, e2, e3⟩ := mv4 HF.out m0 m1 m2 m3;obtain ⟨Aa, aa, hva⟩ := hrx.1.slice;obtain ⟨Ak, ak, hvk⟩ := hrx.2.1.slice;have HS := hid (El.depthL_take ks j c1)
   have HDL := hid (show El.depth ks[j] ≤ 1000000 by
    have h1 := El.depth_mem (List.getElem_mem c1);have h2 := depthL_le_count ks;omega)
   have HC := hid (fun (W : World) (hw : RepV W ks[j] va vk) => HIH.out ks[j] (List.getElem_mem c1) va vk W hw (by have := El.count_mem (List.getElem_mem c1); omega));have HX := hid (hrx.fresh HF.out);clear m0 m1 m2 m3 hrx;generalize ks[j] = x at *;generalize El.depth x = dx at *;obtain ⟨xn, xa, xk, xt⟩ := x;unfold ev at HC;simp only [E.name, E.attrs, E.kids, E.text] at hva hvk e0 e1 e2 e3 HC;subst hva hvk;go_wp2_with fail
   refine (HC.out _ HX.out).mono ?_;rintro _ w2 ⟨rfl, hf2⟩;have HF2 := hid (HF.out.trans hf2);have HB2 := hid (hf2.blk HB.out fun h => h);have hdx := HDL.out;clear hf2;go_wp2_with fail
   go_roundw
   case rel => exact ⟨j + 1, max d dx, by go_num, by first | rfl | (congr 1; omega), hid (by rw [HS.out, HD.out]), c1, by omega, HB2, HF2⟩
   case measure => simp [intOf]; omega
  ·have d1 : decide ((j : Int) < (ks.length : Int)) = false := dF (by omega)
   have d1n : decide (j < ks.length) = false := dF c1;obtain rfl : j = ks.length := by omega
   have HD2 := hid (show d = El.depthL ks by rw [HD.out, List.take_length]);clear HD;go_wp2_with fail
   go_ret;exact ⟨by rw [← HD2.out]; rfl, HF.out⟩
theorem rdepth_any (e : E) : RDepthC e := El.E.ind (p := RDepthC) rdepth_step e
end Go.Proofs.YtfnjcldgicohaaaGreat
