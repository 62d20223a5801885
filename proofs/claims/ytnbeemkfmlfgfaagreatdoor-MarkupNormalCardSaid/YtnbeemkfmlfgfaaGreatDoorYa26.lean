/- Part 26 of 35 of a proof; its texts, joined: MnF, MkB, MkC. No condition. -/
import Derived.Test.YtnbeemkfmlfgfaaGreatDoorYa25
import Derived.Test.YtnbeemkfmlfgfaaGreatDoorYa3
import Derived.Laws.EntriesVeiled
import Derived.Test.YtnbeemkfmlfgfaaGreatDoorYa12
import Derived.Maps.RangeWalk
import Derived.WideMake
import Derived.Test.YtnbeemkfmlfgfaaGreatDoorYa13
import Derived.Test.YtnbeemkfmlfgfaaGreatDoorYa8
import Derived.Test.YtnbeemkfmlfgfaaGreatDoorYa21
set_option maxRecDepth 100000
set_option maxHeartbeats 2000000
namespace Go.Proofs.YtnbeemkfmlfgfaaGreatDoor
open Go.RowKit
open El (E Attrs attrV vis visL)
attribute [local go_sem] stillV stillUpon
theorem attrV_len {W : World} {a : Attrs} {v : Value} (h : RepA W a v) (nm : List UInt8) : (attrV a nm).length ≤ maxLen := by
 obtain ⟨_, _, _, _, h3, _⟩ := h
 have : ∀ a : Attrs, (∀ x ∈ a, x.1.length ≤ maxLen ∧ x.2.length ≤ maxLen) → (attrV a nm).length ≤ maxLen := by
  intro a
  induction a with
  | nil => intro _; exact Nat.zero_le _
  | cons x a ih =>
   intro h;rw [attrV];split
   ·exact (h x (List.mem_cons_self ..)).2
   ·exact ih fun y hy => h y (List.mem_cons_of_mem _ hy)
 exact this a h3
theorem admits_el (p k : E) (g o gk ok : Nat) (va vk ua uk : Value) (w : World) (hp : ElAt w g o p va vk) (hk : ElAt w gk ok k ua uk) (hne : 0 < p.kids.length) :
  Calls Tryz.prog 74 #[.pointer (some ⟨g, o, none⟩), .pointer (some ⟨gk, ok, none⟩)] w fun x w' => x = .returned (.bool (El.admF p k)) ∧ Fresh w w' := by
 obtain ⟨n, a, ks, t⟩ := p;obtain ⟨m, b, ls, s⟩ := k;obtain ⟨B, cb, hvb⟩ := hp.2.2.2.2.2.2.1.slice;obtain ⟨Bl, cl, hvl⟩ := hk.2.2.2.2.2.2.1.slice;replace hvb : vk = .slice B ks.length cb := hvb;replace hvl : uk = .slice Bl ls.length cl := hvl;subst hvb;subst hvl;obtain ⟨i, e, xa, xk, hA, hx⟩ := (show RepE w ks _ from hp.2.2.2.2.2.2.1).elAt 0 hne;subst hA
 match ks, hne, hp, hx with
 | x :: r, _, hp, hx =>
  obtain ⟨xn, xt, xs, xx⟩ := x;obtain ⟨Bj, cj, hvj⟩ := hx.2.2.2.2.2.2.1.slice;replace hvj : xk = .slice Bj xs.length cj := hvj;subst hvj;exact admits_any n m a b _ ls xs t s xn xt xx r rfl g o gk ok i e cb cl cj Bl Bj w hp.2.1 hp.2.2.2.1 hk.2.1 hk.2.2.2.1 (by have := hx.2.2.2.1; simpa using this)
def VisEnd (adm : Bool) (k c : Nat) (e : E) (w : World) (x : Ending) (w' : World) : Prop := x = .returned (.bool (vis adm k e).1) ∧ Touch (fun b => b = c) w w' ∧ Blk w' c 3 #[.int .i64 (((vis adm k e).2 : Int) - 1)]
abbrev visV (c f : Nat) : Value := .func (.func 72) #[] #[.pointer (some ⟨c, 0, none⟩), .pointer (some ⟨f, 0, none⟩)]
abbrev tVisit : TypeId := 136
def VisitC (e : E) : Prop := ∀ (adm : Bool) (g o c f k : Nat) (va vk : Value) (w : World), ElAt w g o e va vk → Blk w c 3 #[.int .i64 ((k : Int) - 1)] → Blk w f tVisit #[visV c f] → c ≠ f → k + El.count e ≤ 100000 →
 Calls Tryz.prog 72 #[.pointer (some ⟨g, o, none⟩), .bool adm, .pointer (some ⟨c, 0, none⟩), .pointer (some ⟨f, 0, none⟩)] w (VisEnd adm k c e w)
theorem visL_snoc (p : E) (l : List E) : ∀ (k j : Nat) (h : j < l.length), (visL p k (l.take j)).1 = true → visL p k (l.take (j + 1)) = vis (El.admF p l[j]) (visL p k (l.take j)).2 l[j] := by
 induction l with
 | nil => intro k j h; simp at h
 | cons x l ih =>
  intro k j h hv;cases j with
  | zero =>
   simp only [List.take_zero, List.take_succ_cons, List.getElem_cons_zero, El.visL]
   rcases hx : vis (El.admF p x) k x with ⟨b, k'⟩
   cases b <;> rfl
  | succ j =>
   simp only [List.take_succ_cons, List.getElem_cons_succ, El.visL] at hv ⊢
   rcases hx : vis (El.admF p x) k x with ⟨b, k'⟩
   rw [hx] at hv;cases b with
   | false => cases hv
   | true => exact ih k' j (by simpa using h) hv
theorem visL_stop (p : E) (l : List E) : ∀ (k j : Nat), (visL p k (l.take j)).1 = false → visL p k l = visL p k (l.take j) := by
 induction l with
 | nil => intro k j h; simp
 | cons x l ih =>
  intro k j h;cases j with
  | zero => simp [El.visL] at h
  | succ j =>
   simp only [List.take_succ_cons, El.visL] at h ⊢
   rcases hx : vis (El.admF p x) k x with ⟨b, k'⟩
   rw [hx] at h;cases b with
   | false => rfl
   | true => exact ih k' j h
theorem visL_lt (p : E) (l : List E) (k : Nat) : (visL p k l).2 ≤ k + El.countL l := by
 induction l generalizing k with
 | nil => rw [El.visL, El.countL]; exact Nat.le_refl _
 | cons x l ih =>
  have hx := El.vis_lt x (El.admF p x) k;rw [El.visL, El.countL]
  rcases hv : vis (El.admF p x) k x with ⟨b, k'⟩
  rw [hv] at hx;replace hx : k < k' ∧ k' ≤ k + El.count x := hx;cases b with
  | true => have := ih k'; show (visL p k' l).2 ≤ _; omega
  | false => show k' ≤ _; omega
theorem visit_step (e : E) (ih : ∀ x ∈ e.kids, VisitC x) : VisitC e := by
 intro adm g o c f k va vk w he hc hf hcf hcount;have HV := hid (El.vis_eq adm k e);have HE := hid he;have HC := hid hc;have HF := hid hf;have HIH := hid ih;have hcl : k + 1 + El.countL e.kids ≤ 100000 := by rw [El.count_kids] at hcount; omega
 have hcc : c < w.heap.size := hc.lt;have q0 := hc.cell 0;replace q0 : w.cell? ⟨c, 0, none⟩ = some (.int .i64 ((k : Int) - 1)) := q0;have qf : w.frozen? ⟨c, 0, none⟩ = false := hc.frozen 0;have hkb : (k : Int) ≤ 100000 := by omega
 have HC1 := hid (show Blk (w.setCell ⟨c, 0, none⟩ (.int .i64 (k : Int))) c 3 #[.int .i64 (k : Int)] from HC.out.put 0 (.int .i64 (k : Int)));have HT1 := hid ((Touch.refl (fun b => b = c) w).setCell (p := ⟨c, 0, none⟩) (.inl rfl) (.int .i64 (k : Int)));have HE1 := hid (HE.out.turn HT1.out fun b hb => by rw [show b = c from hb]; exact NoStr.int HC.out);have HF1 := hid (HT1.out.blk HF.out fun h => hcf h.symm);have hk1 : (k : Int) - 1 + 1 = (k : Int) := by omega
 clear he hc hf ih hcount;cases adm with
 | false =>
  have HV2 := hid (show vis false k e = (false, k + 1) by rw [HV.out]; rfl);go_enter Tryz.func72, Tryz.ntmps72;go_wp2_with fail
  go_ret;exact ⟨by rw [HV2.out]; rfl, HT1.out, by rw [HV2.out]; have := HC1.out; rw [show (((false, k + 1) : Bool × Nat).2 : Int) - 1 = (k : Int) by show ((k + 1 : Nat) : Int) - 1 = _; omega]; exact this⟩
 | true =>
  go_enter Tryz.func72, Tryz.ntmps72;go_wp2_with fail
  refine (own_elem e g o va vk _ HE1.out (attrV_len HE1.out.2.2.2.2.2.1 _)).mono ?_;rintro _ w2 ⟨rfl, hf2⟩;have HT2 := hid (HT1.out.trans (hf2.mono fun _ h => h.elim));have HE2 := hid (HE1.out.fresh hf2);have HC2 := hid (hf2.blk HC1.out fun h => h);have HF2 := hid (hf2.blk HF1.out fun h => h);clear hf2 q0 qf hcc;cases hown : El.ownF e with
  | false =>
   have HV2 := hid (show vis true k e = (false, k + 1) by rw [HV.out, hown]; rfl);go_wp2_with fail
   go_ret;exact ⟨by rw [HV2.out]; rfl, HT2.out, by rw [HV2.out]; have := HC2.out; rw [show (((false, k + 1) : Bool × Nat).2 : Int) - 1 = (k : Int) by show ((k + 1 : Nat) : Int) - 1 = _; omega]; exact this⟩
  | true =>
   have HV2 := hid (show vis true k e = visL e (k + 1) e.kids by rw [HV.out, hown]; rfl);have hl2 := HE.out.2.2.2.2.2.2.1.len;obtain ⟨B, cb, hvb⟩ := HE.out.2.2.2.2.2.2.1.slice;subst hvb;unfold maxLen at hl2;obtain ⟨hg2, _, _, h2, _, _⟩ := HE2.out;go_wp2_with fail
   clear hg2 h2
   go_loopw [22] (fun i wr => ∃ j : Nat, i = .int .i64 j ∧ j ≤ e.kids.length ∧ Hid ((visL e (k + 1) (e.kids.take j)).1 = true) ∧ Hid (Touch (fun b => b = c) w wr) ∧ Hid (Blk wr c 3 #[.int .i64 (((visL e (k + 1) (e.kids.take j)).2 : Int) - 1)])) (fun i _ => e.kids.length - (intOf i).toNat)
   case atStart =>
    refine ⟨0, rfl, Nat.zero_le _, by show (visL e (k + 1) []).1 = true; rw [El.visL], HT2, ?_⟩;show Blk _ _ _ #[.int .i64 (((visL e (k + 1) []).2 : Int) - 1)];rw [El.visL];have := HC2.out;rw [show (((k + 1 : Nat) : Int) - 1) = (k : Int) by omega];exact this
   case round =>
    obtain ⟨j, rfl, hj, HVL, HT, HCC⟩ := hrel;rename_i wr _;have HE3 := hid (HE.out.turn HT.out fun b hb => by rw [show b = c from hb]; exact NoStr.int HC.out);have HF3 := hid (HT.out.blk HF.out fun h => hcf h.symm)
    by_cases c1 : j < e.kids.length
    ·have d1 : decide ((j : Int) < (e.kids.length : Int)) = true := dT (by omega)
     have d1' : (j : Int) < (e.kids.length : Int) := by omega
     obtain ⟨gk, ok, wa, wk, rfl, hek⟩ := (show RepE wr e.kids _ from HE3.out.2.2.2.2.2.2.1).elAt j c1;have hle := visL_lt e (e.kids.take j) (k + 1);have HS := hid (visL_snoc e e.kids (k + 1) j c1 HVL.out);have HN := hid (visL_stop e e.kids (k + 1) (j + 1));have hcm := El.countL_take e.kids j c1;have hcm2 := El.countL_le e.kids (j + 1);have HADM := hid (fun (w : World) (hp : ElAt w g o e va (.slice (some ⟨gk, ok, none⟩) e.kids.length cb)) (hk : ElAt w gk (ok + j * 4) e.kids[j] wa wk) => admits_el e e.kids[j] g o gk (ok + j * 4) va _ wa wk w hp hk (show 0 < e.kids.length by omega));have HC4 := hid (HIH.out e.kids[j] (List.getElem_mem c1) (El.admF e e.kids[j]) gk (ok + j * 4) c f (visL e (k + 1) (e.kids.take j)).2 wa wk);have HEK := hid hek;have hcv : (visL e (k + 1) (e.kids.take j)).2 + El.count e.kids[j] ≤ 100000 := by omega
     clear hek hle hcm hcm2;generalize e.kids[j] = x at *;obtain ⟨hg2, _, _, h2, _, _⟩ := HE3.out;go_wp2_with fail
     have k2 := cR h2;have kf := cR (HF3.out.cell 0);refine wp_region_mix [([(0, true), (1, true), (2, true), (3, true), (4, true), (5, true), (6, true), (7, true), (8, true), (9, true), (10, true), (11, true), (12, true), (13, true), (14, false)], 15)] [(16, true)] (by kernel_rfl) (fun _ _ d _ _ h => by cases d <;> exact h) (by kernel_rfl) ?_;refine wpMix_seg ?_
     repeat (refine wpSeq_plain rfl (fun K hK => ?_); go_simp; refine hK _ ?_; clear hK K)
     refine wpSeq_lone rfl (fun K hK => ?_);go_wp2_with fail
     refine (HADM.out _ (HE3.out.fresh frR) (HEK.out.fresh frR)).mono ?_;rintro _ w5 ⟨rfl, hf5⟩;have HF5 := hid (show Fresh wr w5 from preA hf5);clear hf5 k2 kf;go_wp2_with fail
     refine hK _ _ (growing_fresh HF5.out) ?_;clear hK K;refine wpSeq_shut rfl (fun K hK => ?_);go_wp2_with fail
     refine (HC4.out w5 (HEK.out.fresh HF5.out) (HF5.out.blk HCC.out fun h => h) (HF5.out.blk HF3.out fun h => h) hcf hcv).mono ?_;rintro _ w6 ⟨rfl, ht6, hb6⟩;have HT6 := hid ((HT.out.trans (HF5.out.mono fun _ h => h.elim)).trans ht6);have HB6 := hid hb6;clear ht6 hb6;rw [← HS.out];rw [← HS.out] at HB6;cases hv : (visL e (k + 1) (e.kids.take (j + 1))).1 with
     | false =>
      have HVX := hid (HV2.out.trans (HN.out hv));have HVB := hid hv;clear hv;go_wp2_with fail
      refine wpMix_last ?_
      repeat (refine wpSeq_plain rfl (fun K hK => ?_); go_simp; refine hK _ ?_; clear hK K)
      refine wpSeq_end ?_;go_wp2_with fail
      go_ret;exact ⟨by rw [HVX.out, HVB.out]; rfl, HT6.out, by rw [HVX.out]; exact HB6.out⟩
     | true =>
      have HVB := hid hv;clear hv;go_wp2_with fail
      refine wpMix_last ?_
      repeat (refine wpSeq_plain rfl (fun K hK => ?_); go_simp; refine hK _ ?_; clear hK K)
      refine wpSeq_end ?_;go_wp2_with fail
      go_roundw
      case rel => exact ⟨j + 1, by go_num, c1, HVB, HT6, HB6⟩
      case measure => simp [intOf]; omega
    ·have d1 : decide ((j : Int) < (e.kids.length : Int)) = false := dF (by omega)
     obtain rfl : j = e.kids.length := by omega
     have HVX := hid (show vis true k e = visL e (k + 1) e.kids from HV2.out);have HVB := hid (show (visL e (k + 1) e.kids).1 = true by have := HVL.out; rwa [List.take_length] at this);go_wp2_with fail
     go_ret;exact ⟨by rw [HVX.out, HVB.out]; rfl, HT.out, by rw [HVX.out]; have := HCC.out; rwa [List.take_length] at this⟩
theorem visit_any (e : E) : VisitC e := El.E.ind (p := VisitC) visit_step e
theorem fault_any (e : E) (g o : Nat) (va vk : Value) (w : World) (he : ElAt w g o e va vk) (hc : El.count e ≤ 90000) :
  Calls Tryz.prog 44 #[.pointer (some ⟨g, o, none⟩)] w fun x w' => x = .returned (.tuple #[.int .i64 (El.faultF e).1, .bool (El.faultF e).2]) ∧ Fresh w w' := by
 have HE := hid he;have HV := hid (visit_any e);have HFF := hid (show El.faultF e = if (vis (decide (e.name = El.nMath)) 0 e).1 then (0, false) else (((vis (decide (e.name = El.nMath)) 0 e).2 : Int) - 1, true) from rfl);have hd : (e.name == [109, 97, 116, 104]) = decide (e.name = El.nMath) := (dec_beq e.name El.nMath).symm;have HD := hid hd;clear he hd;go_enter Tryz.func44, Tryz.ntmps44;go_wp2_with fail
 have hb1 := Blk.new2 w (.cells #[.int .i64 (-1)] 3) tVisit #[visV w.heap.size (w.heap.size + 1)];have hb0 := (Blk.new w 3 #[.int .i64 (-1)]).alloc (.cells #[visV w.heap.size (w.heap.size + 1)] tVisit);have hf0 := ((Touch.refl (fun _ => False) w).alloc (.cells #[.int .i64 (-1)] 3)).alloc (.cells #[visV w.heap.size (w.heap.size + 1)] tVisit);generalize ((w.alloc (.cells #[.int .i64 (-1)] 3)).alloc (.cells #[visV w.heap.size (w.heap.size + 1)] tVisit)) = W2 at *;have HB1 := hid hb1;have HB0 := hid hb0;have HF0 := hid hf0;have HE2 := hid (HE.out.fresh hf0);obtain ⟨hg2, h0, _, _, _, _⟩ := HE2.out;have k0 := cR h0;have kf := cR (hb1.cell 0);clear hb1 hb0 hf0;refine wp_region_mix [([(0, true), (1, true), (2, true), (3, true), (4, true), (5, true), (6, true)], 7)] [] (by kernel_rfl) (fun _ _ d _ _ h => by cases d <;> exact h) (by kernel_rfl) ?_;refine wpMix_seg ?_
 repeat (refine wpSeq_plain rfl (fun K hK => ?_); go_simp; refine hK _ ?_; clear hK K)
 refine wpSeq_shut rfl (fun K hK => ?_);go_wp2_with fail
 rw [HD.out];generalize decide (e.name = El.nMath) = adm at *;have hdr := (Touch.refl (fun _ => False) W2).drewN 1;refine (HV.out adm g o w.heap.size (w.heap.size + 1) 0 va vk _ (HE2.out.fresh hdr) (hdr.blk HB0.out fun h => h) (hdr.blk HB1.out fun h => h) (by omega) (by omega)).mono ?_;rintro _ w3 ⟨rfl, ht3, hb3⟩;have HF3 := hid (show Fresh w w3 from (HF0.out.trans hdr).trans' ht3 fun i hi => .inr (by have hi : i = w.heap.size := hi; omega));have c0 := hb3.cell 0;replace c0 : w3.cell? ⟨w.heap.size, 0, none⟩ = some (.int .i64 (((vis adm 0 e).2 : Int) - 1)) := c0;clear ht3 hb3 kf k0 h0;cases hv : (vis adm 0 e).1 with
 | false =>
  have HR := hid (show El.faultF e = (((vis adm 0 e).2 : Int) - 1, true) by rw [HFF.out, hv]; rfl);clear hv;go_wp2_with fail
  refine wpMix_end ?_;go_wp2_with fail
  go_ret2;exact ⟨by rw [HR.out]; rfl, HF3.out⟩
 | true =>
  have HR := hid (show El.faultF e = (0, false) by rw [HFF.out, hv]; rfl);clear hv;go_wp2_with fail
  refine wpMix_end ?_;go_wp2_with fail
  go_ret2;exact ⟨by rw [HR.out]; rfl, HF3.out⟩
end Go.Proofs.YtnbeemkfmlfgfaaGreatDoor
namespace Go.Proofs.YtnbeemkfmlfgfaaGreatDoor
open Go.RowKit Go.Maps
theorem strKeys : Keyed Tryz.prog 9 := string_keyed Tryz.underlying9
section
variable {H : Type}
def rkL : List (List UInt8 × Int) := [(El.nMfrac, 5), (El.nMsub, 7), (El.nMsup, 8), (El.nMsubsup, 9)]
def rkD : DataW H := rkL.foldl (fun D x => D.put (.string x.1) (.lit (.int .i64 x.2))) (.map [])
theorem rkD_is : (rkD : DataW H) = .map [(.string El.nMfrac, .lit (.int .i64 5)), (.string El.nMsub, .lit (.int .i64 7)), (.string El.nMsubsup, .lit (.int .i64 9)), (.string El.nMsup, .lit (.int .i64 8))] := by rfl
theorem rkD_at (x : List UInt8) (zd : DataW H) : (rkD : DataW H).atKey (.string x) zd = match rkL.find? (·.1 == x) with | some y => .lit (.int .i64 y.2) | none => zd := by
 rw [rkD_is]
 by_cases h1 : El.nMfrac = x
 ·subst h1; rfl
 by_cases h2 : El.nMsub = x
 ·subst h2; rfl
 by_cases h3 : El.nMsup = x
 ·subst h3; rfl
 by_cases h4 : El.nMsubsup = x
 ·subst h4; rfl
 have b1 : (El.nMfrac == x) = false := beq_eq_false_iff_ne.2 h1;have b2 : (El.nMsub == x) = false := beq_eq_false_iff_ne.2 h2;have b3 : (El.nMsup == x) = false := beq_eq_false_iff_ne.2 h3;have b4 : (El.nMsubsup == x) = false := beq_eq_false_iff_ne.2 h4;simp only [DataW.atKey, Lit.sameKey, rkL, List.find?_cons, List.find?_nil, b1, b2, b3, b4]
theorem rkD_entry (x : List UInt8) (c : Int) (h : ∀ zd, (rkD : DataW H).atKey (.string x) zd = .lit (.int .i64 c)) : rkL.find? (·.1 == x) = some (x, c) := by
 have h1 := h (.lit (.int .i64 (c + 1)));rw [rkD_at] at h1;cases hf : rkL.find? (·.1 == x) with
 | none =>
  rw [hf] at h1;simp only [DataW.lit.injEq, Lit.int.injEq, true_and] at h1;omega
 | some y =>
  rw [hf] at h1;simp only [DataW.lit.injEq, Lit.int.injEq, true_and] at h1;have h2 := List.find?_some hf;simp only [beq_iff_eq] at h2;subst h1 h2;rfl
end
section
variable {w : World}
theorem keyOf_strs (x : List UInt8) (h : x.length ≤ maxLen) : keyOf Tryz.prog 9 (.string ⟨x.toArray⟩) = some (.string x) := by
 have hs : (⟨x.toArray⟩ : ByteArray).size ≤ maxLen := by show x.toArray.size ≤ _; simpa using h
 simp [keyOf, Tryz.underlying9, mapKey, hs]
theorem rowKinds_any (H : Type) (w : World) : Calls Tryz.prog 132 #[] w fun e w' => e = .returned (.map (some w.heap.size)) ∧ w'.ownsMap (H := H) Tryz.prog 9 (plainElem Tryz.prog 3) w.heap.size 4 rkD ∧ Fresh w w' := by
 have hmm : ∀ W : World, (Instr.makeMap 177 none).run Tryz.prog W = .ok (.map (some W.heap.size)) (W.alloc (.map #[] 0)) := fun W => run_makeMap_plain W 177
 have hw : ∀ n : Int, (Lit.int .i64 n).wf = true → plainElem (H := H) Tryz.prog 3 (.int .i64 n) = some (.lit (.int .i64 n), []) := fun n h => plainElem_int Tryz.underlying3 h
 obtain ⟨w1, r1, o1, g1⟩ := (World.ownsMap_made (H := H) w Tryz.prog 9 (plainElem Tryz.prog 3)).update strKeys Tryz.underlying177 (by decide) (keyOf_strs El.nMfrac (by decide)) (hw 5 (by decide));obtain ⟨w2, r2, o2, g2⟩ := o1.update strKeys Tryz.underlying177 (by decide) (keyOf_strs El.nMsub (by decide)) (hw 7 (by decide));obtain ⟨w3, r3, o3, g3⟩ := o2.update strKeys Tryz.underlying177 (by decide) (keyOf_strs El.nMsup (by decide)) (hw 8 (by decide));obtain ⟨w4, r4, o4, g4⟩ := o3.update strKeys Tryz.underlying177 (by decide) (keyOf_strs El.nMsubsup (by decide)) (hw 9 (by decide));have hf : Fresh w w4 := (((((Touch.refl _ w).alloc (.map #[] 0)).grown g1 (fun k hk => .inr (by cases hk; exact Nat.le_refl _))).grown g2 (fun k hk => .inr (by cases hk; exact Nat.le_refl _))).grown g3 (fun k hk => .inr (by cases hk; exact Nat.le_refl _))).grown g4 (fun k hk => .inr (by cases hk; exact Nat.le_refl _));have HF := hid hf;have HO := hid o4;simp only [El.nMfrac, El.nMsub, El.nMsup, El.nMsubsup] at r1 r2 r3 r4;clear o1 o2 o3 o4 g1 g2 g3 g4 hf hw;go_enter Tryz.func132, Tryz.ntmps132;go_wp2_with fail
 go_ret;exact ⟨rfl, HO.out, HF.out⟩
end
end Go.Proofs.YtnbeemkfmlfgfaaGreatDoor
namespace Go.Proofs.YtnbeemkfmlfgfaaGreatDoor
open Go.RowKit
open Tr (Nd)
open El (E elE elK mrow)
attribute [local go_sem] stillV stillUpon
def MakesE (w w' : World) (e : E) (v : Value) : Prop := ∃ va vk, v = ev e va vk ∧ Fresh w w' ∧ Stab (fun k => k < w.heap.size) w' fun W => RepV W e va vk
def ElementC (n : Nd) : Prop := ∀ (sl : Value) (w : World), Tr.count n ≤ 100000 → RepL w n.kids sl → Calls Tryz.prog 70 #[nv n sl] w fun e w' => ∃ v, e = .returned v ∧ MakesE w w' (elE n) v
def rowsE (nm : List UInt8) (ks : List Nd) : List E := ks.map fun n => mrow nm (elK n.kids)
def RowsC (ks : List Nd) : Prop := ∀ (nm : List UInt8) (sl : Value) (w : World), nm.length ≤ maxLen → Tr.countL ks ≤ 100000 → RepL w ks sl → Calls Tryz.prog 130 #[.string ⟨nm.toArray⟩, sl] w fun e w' => ∃ v, e = .returned v ∧ MakesE w w' (mrow nm (rowsE El.nMrow ks)) v
theorem rowsE_len (nm : List UInt8) (l : List Nd) : (rowsE nm l).length = l.length := List.length_map _
theorem rowsE_take (nm : List UInt8) (l : List Nd) (j : Nat) (h : j < l.length) : (rowsE nm l).take j ++ [mrow nm (elK l[j].kids)] = (rowsE nm l).take (j + 1) := by
 unfold rowsE;rw [List.take_add_one, List.getElem?_map, List.getElem?_eq_getElem h];rfl
def RowC (n : Nd) : Prop := ∀ (nm : List UInt8) (sl : Value) (w : World), nm.length ≤ maxLen → Tr.count n ≤ 100000 → RepL w n.kids sl → Calls Tryz.prog 42 #[.string ⟨nm.toArray⟩, nv n sl] w fun e w' => ∃ v, e = .returned v ∧ MakesE w w' (mrow nm (elK n.kids)) v
theorem GrowE.base {B : Nat} {w : World} {es : List E} {v : Value} (h : GrowE B w es v) : B ≤ w.heap.size := h.1
theorem elK_len (l : List Nd) : (elK l).length = l.length := by rw [El.elK_map, List.length_map]
theorem elK_take (l : List Nd) (j : Nat) (h : j < l.length) : (elK l).take j ++ [elE l[j]] = (elK l).take (j + 1) := by
 rw [El.elK_map, List.take_add_one, List.getElem?_map, List.getElem?_eq_getElem h];rfl
theorem mkrow_any (n : Nd) (ih : ∀ x ∈ n.kids, ElementC x) : RowC n := by
 intro nm sl w hnm hc hsl;have hcl : Tr.countL n.kids ≤ 100000 := by have := Tr.count_kids n; omega
 obtain ⟨A, cap, rfl⟩ := hsl.slice;have HSL := hid hsl;have HIH := hid ih;have HNM := hid hnm;have hkl := Tr.countL_len n.kids;clear hc;generalize hks : n.kids = ks at *;have HKS := hid hks;clear hsl ih hnm hks;go_enter Tryz.func42, Tryz.ntmps42;go_wp2_with fail
 refine forget_world (fun W => Fresh w W ∧ W.heap.size = w.heap.size + 3 ∧ Blk W (w.heap.size + 1) 45 #[.string ⟨#[]⟩, .slice none 0 0, .slice none 0 0, .string ⟨#[]⟩] ∧ Blk W (w.heap.size + 1 + 1) 45 #[.string ⟨nm.toArray⟩, .slice none 0 0, .slice none 0 0, .string ⟨#[]⟩]) ⟨(((Touch.refl _ _).alloc _).alloc _).alloc _, by simp, (Blk.new2 w _ 45 _).alloc _, Blk.new3' _ _ _ _ _⟩ ?_;rintro W1 ⟨hf1, hs1, hbr1, hbe1⟩;have HF1 := hid hf1;have HBR1 := hid hbr1;have HBE1 := hid hbe1;have HS1 := hid hs1;have HG1 := hid (show GrowE (w.heap.size + 3) W1 ((elK ks).take 0) (.slice none 0 0) by rw [List.take_zero]; exact GrowE.nil (by omega));clear hf1 hbr1 hbe1 hs1
 go_loopw [13] (fun i wr => ∃ (j : Nat) (Ae : Option Addr) (ce : Nat), i = .int .i64 j ∧ j ≤ ks.length ∧ Hid (Blk wr (w.heap.size + 1) 45 #[.string ⟨#[]⟩, .slice none 0 0, .slice none 0 0, .string ⟨#[]⟩]) ∧ Hid (Blk wr (w.heap.size + 1 + 1) 45 #[.string ⟨nm.toArray⟩, .slice none 0 0, .slice Ae j ce, .string ⟨#[]⟩]) ∧ Hid (GrowE (w.heap.size + 3) wr ((elK ks).take j) (.slice Ae j ce)) ∧ Hid (Fresh w wr)) (fun i _ => ks.length - (intOf i).toNat)
 case atStart => exact ⟨0, none, 0, rfl, Nat.zero_le _, HBR1, HBE1, HG1, HF1⟩
 case round =>
  obtain ⟨j, Ae, ce, rfl, hj, HBR, HBE, HG, HF⟩ := hrel;rename_i wr _
  by_cases c1 : j < ks.length
  ·have d1 : decide ((j : Int) < (ks.length : Int)) = true := dT (by omega)
   have d1n : decide (j < ks.length) = true := dT c1;have d1' : (j : Int) < (ks.length : Int) := by omega
   obtain ⟨g, o, sx, hA, hg, m0, m1, m2, m3, hrx⟩ := HSL.out.get j c1;cases hA;obtain ⟨Ax, cx, rfl⟩ := hrx.slice;have e0 := HF.out.cell m0 (fun h => h);have e1 := HF.out.cell m1 (fun h => h);have e2 := HF.out.cell m2 (fun h => h);have e3 := HF.out.cell m3 (fun h => h);have hgl : g < wr.heap.size := Nat.lt_of_lt_of_le hg HF.out.size;have HRX := hid (hrx.fresh HF.out);have HMEM := hid (List.getElem_mem c1);have HLN := hid (show ((elK ks).take j).length = j by rw [List.length_take, elK_len]; omega);clear m0 m1 m2 m3 hg hrx;go_wp2_with fail
   have k0 := cR ((HBE.out.alloc (.cells #[.int .i64 ks[j].kind, .string ⟨ks[j].text.toArray⟩, .int .i64 ks[j].cols, .slice Ax ks[j].kids.length cx] 31)).cell 2 |>.trans rfl);have j0 := cR ((Blk.new wr 31 #[.int .i64 ks[j].kind, .string ⟨ks[j].text.toArray⟩, .int .i64 ks[j].cols, .slice Ax ks[j].kids.length cx]).cell 0 |>.trans rfl);have j1 := cR ((Blk.new wr 31 #[.int .i64 ks[j].kind, .string ⟨ks[j].text.toArray⟩, .int .i64 ks[j].cols, .slice Ax ks[j].kids.length cx]).cell 1 |>.trans rfl);have j2 := cR ((Blk.new wr 31 #[.int .i64 ks[j].kind, .string ⟨ks[j].text.toArray⟩, .int .i64 ks[j].cols, .slice Ax ks[j].kids.length cx]).cell 2 |>.trans rfl);have j3 := cR ((Blk.new wr 31 #[.int .i64 ks[j].kind, .string ⟨ks[j].text.toArray⟩, .int .i64 ks[j].cols, .slice Ax ks[j].kids.length cx]).cell 3 |>.trans rfl);have HG5 := hid (HG.out.fresh ((Touch.refl _ wr).alloc (.cells #[.int .i64 ks[j].kind, .string ⟨ks[j].text.toArray⟩, .int .i64 ks[j].cols, .slice Ax ks[j].kids.length cx] 31)));have HBE5 := hid (HBE.out.alloc (.cells #[.int .i64 ks[j].kind, .string ⟨ks[j].text.toArray⟩, .int .i64 ks[j].cols, .slice Ax ks[j].kids.length cx] 31));have HBR5 := hid (HBR.out.alloc (.cells #[.int .i64 ks[j].kind, .string ⟨ks[j].text.toArray⟩, .int .i64 ks[j].cols, .slice Ax ks[j].kids.length cx] 31));have HF5 := hid (HF.out.alloc (.cells #[.int .i64 ks[j].kind, .string ⟨ks[j].text.toArray⟩, .int .i64 ks[j].cols, .slice Ax ks[j].kids.length cx] 31));have HRX5 := hid (HRX.out.fresh ((Touch.refl _ wr).alloc (.cells #[.int .i64 ks[j].kind, .string ⟨ks[j].text.toArray⟩, .int .i64 ks[j].cols, .slice Ax ks[j].kids.length cx] 31)));generalize (wr.alloc (.cells #[.int .i64 ks[j].kind, .string ⟨ks[j].text.toArray⟩, .int .i64 ks[j].cols, .slice Ax ks[j].kids.length cx] 31)) = W5 at k0 j0 j1 j2 j3 HG5 HBE5 HBR5 HF5 HRX5 ⊢;obtain ⟨bx, hbx⟩ : ∃ b, b = wr.heap.size := ⟨_, rfl⟩;rw [← hbx] at j0 j1 j2 j3 ⊢;clear e0 e1 e2 e3 hgl hbx;refine wp_region_mix [([(0, true), (1, true), (2, true), (3, false), (4, false)], 5), ([(6, true)], 7)] [] (by kernel_rfl) (fun _ _ d _ _ h => by cases d <;> exact h) (by kernel_rfl) ?_;refine wpMix_seg ?_
   repeat (refine wpSeq_plain rfl (fun K hK => ?_); go_simp; refine hK _ ?_; clear hK K)
   clear k0 j0 j1 j2 j3;refine wpSeq_lone rfl (fun K hK => ?_);go_wp2_with fail
   refine (HIH.out ks[j] HMEM.out _ _ (by have := Tr.count_mem HMEM.out; omega) (HRX5.out.fresh ((Touch.refl _ _).drewN 1))).mono ?_;rintro _ w6 ⟨v6, rfl, va, vk, rfl, hf6, hst6⟩;have HF6 := hid (show Fresh W5 w6 from ((Touch.refl _ W5).drewN 1).trans hf6);have HST6 := hid (show Stab (fun k => k < W5.heap.size) w6 fun W => RepV W (elE ks[j]) va vk from hst6);obtain ⟨Aa, ca, rfl⟩ := hst6.now.1.slice;obtain ⟨Ak, ck, rfl⟩ := hst6.now.2.1.slice;clear hf6 hst6;go_wp2_with fail
   refine hK _ _ (growing_fresh HF6.out) ?_;clear hK K;refine wpSeq_lone rfl (fun K hK => ?_);go_wp2_with fail
   refine hK _ _ (growing_fresh (HF6.out.alloc _)) ?_;clear hK K;have HBV := hid (Blk.new w6 45 #[.string ⟨(elE ks[j]).name.toArray⟩, .slice Aa (elE ks[j]).attrs.length ca, .slice Ak (elE ks[j]).kids.length ck, .string ⟨(elE ks[j]).text.toArray⟩]);have HF7 := hid (HF6.out.alloc (.cells #[.string ⟨(elE ks[j]).name.toArray⟩, .slice Aa (elE ks[j]).attrs.length ca, .slice Ak (elE ks[j]).kids.length ck, .string ⟨(elE ks[j]).text.toArray⟩] 45));have HST7 := hid (HST6.out.fresh ((Touch.refl _ w6).alloc (.cells #[.string ⟨(elE ks[j]).name.toArray⟩, .slice Aa (elE ks[j]).attrs.length ca, .slice Ak (elE ks[j]).kids.length ck, .string ⟨(elE ks[j]).text.toArray⟩] 45)));generalize (w6.alloc (.cells #[.string ⟨(elE ks[j]).name.toArray⟩, .slice Aa (elE ks[j]).attrs.length ca, .slice Ak (elE ks[j]).kids.length ck, .string ⟨(elE ks[j]).text.toArray⟩] 45)) = w7 at HBV HF7 HST7 ⊢;have HG7 := hid (HG5.out.fresh HF7.out);have HOW := hid HG5.out.own_lt;have HBE7 := hid (HF7.out.blk HBE5.out fun h => h);have HBR7 := hid (HF7.out.blk HBR5.out fun h => h);have HB5 := hid HG5.out.base;refine wpSeq_shut rfl (fun K hK => ?_)
   go_wp2_with (at_builtin; go_loud (refine wpList_append_elem rfl (.tmp 18) (.tmp 21) rfl HG7.out HLN.out (by simp [Act.eval]) (elE ks[j]) HBV.out (by simp [Act.eval]) W5.heap.size HB5.out (fun k hk => (HOW.out k hk).2) HST7.out (by omega) ?_); intro A8 c8 w8 hg8 ht8 _; refine Stay.mk ?_)
   have HG8 := hid hg8;have HBE8 := hid (ht8.blk HBE7.out fun h => by have := (HOW.out _ h).1; omega);have HBR8 := hid (ht8.blk HBR7.out fun h => by have := (HOW.out _ h).1; omega);have HF8 := hid (show Fresh w w8 from (HF5.out.trans HF7.out).trans' ht8 fun k hk => .inr (by have := (HOW.out _ hk).1; omega));clear hg8 ht8;obtain ⟨q0, q1, q2, q3, z0, z1, z2, z3, hlt⟩ := Blk.four HBE8.out;refine Stay.go ?_;go_wp2_with fail
   refine wpMix_seg ?_
   repeat (refine wpSeq_plain rfl (fun K hK => ?_); go_simp; refine hK _ ?_; clear hK K)
   refine wpSeq_shut rfl (fun K hK => ?_);go_wp2_with fail
   refine wpMix_end ?_;go_wp2_with fail
   have hg9 := HG8.out.mv ((Touch.refl (fun k => k = (w.heap.size + 1 + 1)) w8).setCell (p := ⟨(w.heap.size + 1 + 1), 2, none⟩) (.inl rfl) (.slice A8 (j + 1) c8)) (fun k hk _ => by omega);rw [elK_take ks j c1] at hg9;exact ⟨⟨j + 1, A8, c8, by simp, by omega, HBR8.out.far (p := ⟨(w.heap.size + 1 + 1), 2, none⟩) (by simp) _, HBE8.out.put 2 _, hg9, HF8.out.setCell (p := ⟨(w.heap.size + 1 + 1), 2, none⟩) (.inr (by show w.heap.size ≤ (w.heap.size + 1 + 1); omega)) _⟩, by simp [intOf]; omega⟩
  ·have d1 : decide ((j : Int) < (ks.length : Int)) = false := dF (by omega)
   have d1n : decide (j < ks.length) = false := dF c1;obtain rfl : j = ks.length := by omega
   obtain ⟨q0, q1, q2, q3, _, _, _, _, hlt⟩ := Blk.four HBE.out;obtain ⟨p0, p1, p2, p3, y0, y1, y2, y3, hlp⟩ := Blk.four HBR.out;have hg9 := HG.out.mv ((Touch.refl (fun k => k = (w.heap.size + 1)) wr).put4 (.inl rfl) (.string ⟨nm.toArray⟩) (.slice none 0 0) (.slice Ae ks.length ce) (.string ⟨#[]⟩)) (fun k hk _ => by omega);rw [List.take_of_length_le (by rw [elK_len]; exact Nat.le_refl _)] at hg9;have HG9 := hid hg9;obtain ⟨r0, r1, r2, r3, _, _, _, _, _⟩ := Blk.four (HBR.out.self4 (.string ⟨nm.toArray⟩) (.slice none 0 0) (.slice Ae ks.length ce) (.string ⟨#[]⟩));simp only [put4] at r0 r1 r2 r3;clear hg9;go_wp2_with fail
   refine bodyPost_ret (v := .agg #[.string ⟨nm.toArray⟩, .slice none 0 0, .slice Ae ks.length ce, .string ⟨#[]⟩]) (by simp [results, Tryz.results42, go_sem, r0, r1, r2, r3]) rfl ?_;refine ⟨_, rfl, .slice none 0 0, .slice Ae ks.length ce, rfl, Touch.put4 HF.out (.inr (by omega)) _ _ _ _, ?_⟩;exact (HG9.out.done.mono fun i _ hi => by omega).imp fun W hW => ⟨RepA.nil _ _ _, hW, HNM.out, Nat.zero_le _⟩
theorem mkrows_any (ks0 : List Nd) (ih : ∀ x ∈ ks0, RowC x) : RowsC ks0 := by
 intro nm sl w hnm hcl hsl;obtain ⟨A, cap, rfl⟩ := hsl.slice;have HSL := hid hsl;have HIH := hid ih;have HNM := hid hnm;have hkl := Tr.countL_len ks0;generalize hks : ks0 = ks at *;have HKS := hid hks;clear hsl ih hnm hks;go_enter Tryz.func130, Tryz.ntmps130;go_wp2_with fail
 refine forget_world (fun W => Fresh w W ∧ W.heap.size = w.heap.size + 2 ∧ Blk W w.heap.size 45 #[.string ⟨#[]⟩, .slice none 0 0, .slice none 0 0, .string ⟨#[]⟩] ∧ Blk W (w.heap.size + 1) 45 #[.string ⟨nm.toArray⟩, .slice none 0 0, .slice none 0 0, .string ⟨#[]⟩]) ⟨((Touch.refl _ _).alloc _).alloc _, by simp, (Blk.new w 45 _).alloc _, Blk.new2 w _ 45 _⟩ ?_;rintro W1 ⟨hf1, hs1, hbr1, hbe1⟩;have HF1 := hid hf1;have HBR1 := hid hbr1;have HBE1 := hid hbe1;have HS1 := hid hs1;have HG1 := hid (show GrowE (w.heap.size + 2) W1 ((rowsE El.nMrow ks).take 0) (.slice none 0 0) by rw [List.take_zero]; exact GrowE.nil (by omega));clear hf1 hbr1 hbe1 hs1
 go_loopw [12] (fun i wr => ∃ (j : Nat) (Ae : Option Addr) (ce : Nat), i = .int .i64 j ∧ j ≤ ks.length ∧ Hid (Blk wr w.heap.size 45 #[.string ⟨#[]⟩, .slice none 0 0, .slice none 0 0, .string ⟨#[]⟩]) ∧ Hid (Blk wr (w.heap.size + 1) 45 #[.string ⟨nm.toArray⟩, .slice none 0 0, .slice Ae j ce, .string ⟨#[]⟩]) ∧ Hid (GrowE (w.heap.size + 2) wr ((rowsE El.nMrow ks).take j) (.slice Ae j ce)) ∧ Hid (Fresh w wr)) (fun i _ => ks.length - (intOf i).toNat)
 case atStart => exact ⟨0, none, 0, rfl, Nat.zero_le _, HBR1, HBE1, HG1, HF1⟩
 case round =>
  obtain ⟨j, Ae, ce, rfl, hj, HBR, HBE, HG, HF⟩ := hrel;rename_i wr _
  by_cases c1 : j < ks.length
  ·have d1 : decide ((j : Int) < (ks.length : Int)) = true := dT (by omega)
   have d1n : decide (j < ks.length) = true := dT c1;have d1' : (j : Int) < (ks.length : Int) := by omega
   obtain ⟨g, o, sx, hA, hg, m0, m1, m2, m3, hrx⟩ := HSL.out.get j c1;cases hA;obtain ⟨Ax, cx, rfl⟩ := hrx.slice;have e0 := HF.out.cell m0 (fun h => h);have e1 := HF.out.cell m1 (fun h => h);have e2 := HF.out.cell m2 (fun h => h);have e3 := HF.out.cell m3 (fun h => h);have hgl : g < wr.heap.size := Nat.lt_of_lt_of_le hg HF.out.size;have HRX := hid (hrx.fresh HF.out);have HMEM := hid (List.getElem_mem c1);have HLN := hid (show ((rowsE El.nMrow ks).take j).length = j by rw [List.length_take, rowsE_len]; omega);clear m0 m1 m2 m3 hg hrx;go_wp2_with fail
   have k0 := cR ((HBE.out.alloc (.cells #[.int .i64 ks[j].kind, .string ⟨ks[j].text.toArray⟩, .int .i64 ks[j].cols, .slice Ax ks[j].kids.length cx] 31)).cell 2 |>.trans rfl);have j0 := cR ((Blk.new wr 31 #[.int .i64 ks[j].kind, .string ⟨ks[j].text.toArray⟩, .int .i64 ks[j].cols, .slice Ax ks[j].kids.length cx]).cell 0 |>.trans rfl);have j1 := cR ((Blk.new wr 31 #[.int .i64 ks[j].kind, .string ⟨ks[j].text.toArray⟩, .int .i64 ks[j].cols, .slice Ax ks[j].kids.length cx]).cell 1 |>.trans rfl);have j2 := cR ((Blk.new wr 31 #[.int .i64 ks[j].kind, .string ⟨ks[j].text.toArray⟩, .int .i64 ks[j].cols, .slice Ax ks[j].kids.length cx]).cell 2 |>.trans rfl);have j3 := cR ((Blk.new wr 31 #[.int .i64 ks[j].kind, .string ⟨ks[j].text.toArray⟩, .int .i64 ks[j].cols, .slice Ax ks[j].kids.length cx]).cell 3 |>.trans rfl);have HG5 := hid (HG.out.fresh ((Touch.refl _ wr).alloc (.cells #[.int .i64 ks[j].kind, .string ⟨ks[j].text.toArray⟩, .int .i64 ks[j].cols, .slice Ax ks[j].kids.length cx] 31)));have HBE5 := hid (HBE.out.alloc (.cells #[.int .i64 ks[j].kind, .string ⟨ks[j].text.toArray⟩, .int .i64 ks[j].cols, .slice Ax ks[j].kids.length cx] 31));have HBR5 := hid (HBR.out.alloc (.cells #[.int .i64 ks[j].kind, .string ⟨ks[j].text.toArray⟩, .int .i64 ks[j].cols, .slice Ax ks[j].kids.length cx] 31));have HF5 := hid (HF.out.alloc (.cells #[.int .i64 ks[j].kind, .string ⟨ks[j].text.toArray⟩, .int .i64 ks[j].cols, .slice Ax ks[j].kids.length cx] 31));have HRX5 := hid (HRX.out.fresh ((Touch.refl _ wr).alloc (.cells #[.int .i64 ks[j].kind, .string ⟨ks[j].text.toArray⟩, .int .i64 ks[j].cols, .slice Ax ks[j].kids.length cx] 31)));generalize (wr.alloc (.cells #[.int .i64 ks[j].kind, .string ⟨ks[j].text.toArray⟩, .int .i64 ks[j].cols, .slice Ax ks[j].kids.length cx] 31)) = W5 at k0 j0 j1 j2 j3 HG5 HBE5 HBR5 HF5 HRX5 ⊢;obtain ⟨bx, hbx⟩ : ∃ b, b = wr.heap.size := ⟨_, rfl⟩;rw [← hbx] at j0 j1 j2 j3 ⊢;clear e0 e1 e2 e3 hgl hbx;refine wp_region_mix [([(0, true), (1, true), (2, true), (3, false), (4, false)], 5), ([(6, true)], 7)] [] (by kernel_rfl) (fun _ _ d _ _ h => by cases d <;> exact h) (by kernel_rfl) ?_;refine wpMix_seg ?_
   repeat (refine wpSeq_plain rfl (fun K hK => ?_); go_simp; refine hK _ ?_; clear hK K)
   clear k0 j0 j1 j2 j3;refine wpSeq_lone rfl (fun K hK => ?_);go_wp2_with fail
   refine (HIH.out ks[j] HMEM.out El.nMrow _ _ (by decide) (by have := Tr.count_mem HMEM.out; omega) (HRX5.out.fresh ((Touch.refl _ _).drewN 1))).mono ?_;rintro _ w6 ⟨v6, rfl, va, vk, rfl, hf6, hst6⟩;have HF6 := hid (show Fresh W5 w6 from ((Touch.refl _ W5).drewN 1).trans hf6);have HST6 := hid (show Stab (fun k => k < W5.heap.size) w6 fun W => RepV W (mrow El.nMrow (elK ks[j].kids)) va vk from hst6);obtain ⟨Aa, ca, rfl⟩ := hst6.now.1.slice;obtain ⟨Ak, ck, rfl⟩ := hst6.now.2.1.slice;clear hf6 hst6;go_wp2_with fail
   refine hK _ _ (growing_fresh HF6.out) ?_;clear hK K;refine wpSeq_lone rfl (fun K hK => ?_);go_wp2_with fail
   refine hK _ _ (growing_fresh (HF6.out.alloc _)) ?_;clear hK K;have HBV := hid (Blk.new w6 45 #[.string ⟨(mrow El.nMrow (elK ks[j].kids)).name.toArray⟩, .slice Aa (mrow El.nMrow (elK ks[j].kids)).attrs.length ca, .slice Ak (mrow El.nMrow (elK ks[j].kids)).kids.length ck, .string ⟨(mrow El.nMrow (elK ks[j].kids)).text.toArray⟩]);have HF7 := hid (HF6.out.alloc (.cells #[.string ⟨(mrow El.nMrow (elK ks[j].kids)).name.toArray⟩, .slice Aa (mrow El.nMrow (elK ks[j].kids)).attrs.length ca, .slice Ak (mrow El.nMrow (elK ks[j].kids)).kids.length ck, .string ⟨(mrow El.nMrow (elK ks[j].kids)).text.toArray⟩] 45));have HST7 := hid (HST6.out.fresh ((Touch.refl _ w6).alloc (.cells #[.string ⟨(mrow El.nMrow (elK ks[j].kids)).name.toArray⟩, .slice Aa (mrow El.nMrow (elK ks[j].kids)).attrs.length ca, .slice Ak (mrow El.nMrow (elK ks[j].kids)).kids.length ck, .string ⟨(mrow El.nMrow (elK ks[j].kids)).text.toArray⟩] 45)));generalize (w6.alloc (.cells #[.string ⟨(mrow El.nMrow (elK ks[j].kids)).name.toArray⟩, .slice Aa (mrow El.nMrow (elK ks[j].kids)).attrs.length ca, .slice Ak (mrow El.nMrow (elK ks[j].kids)).kids.length ck, .string ⟨(mrow El.nMrow (elK ks[j].kids)).text.toArray⟩] 45)) = w7 at HBV HF7 HST7 ⊢;have HG7 := hid (HG5.out.fresh HF7.out);have HOW := hid HG5.out.own_lt;have HBE7 := hid (HF7.out.blk HBE5.out fun h => h);have HBR7 := hid (HF7.out.blk HBR5.out fun h => h);have HB5 := hid HG5.out.base;refine wpSeq_shut rfl (fun K hK => ?_)
   go_wp2_with (at_builtin; go_loud (refine wpList_append_elem rfl (.tmp 17) (.tmp 20) rfl HG7.out HLN.out (by simp [Act.eval]) (mrow El.nMrow (elK ks[j].kids)) HBV.out (by simp [Act.eval]) W5.heap.size HB5.out (fun k hk => (HOW.out k hk).2) HST7.out (by omega) ?_); intro A8 c8 w8 hg8 ht8 _; refine Stay.mk ?_)
   have HG8 := hid hg8;have HBE8 := hid (ht8.blk HBE7.out fun h => by have := (HOW.out _ h).1; omega);have HBR8 := hid (ht8.blk HBR7.out fun h => by have := (HOW.out _ h).1; omega);have HF8 := hid (show Fresh w w8 from (HF5.out.trans HF7.out).trans' ht8 fun k hk => .inr (by have := (HOW.out _ hk).1; omega));clear hg8 ht8;obtain ⟨q0, q1, q2, q3, z0, z1, z2, z3, hlt⟩ := Blk.four HBE8.out;refine Stay.go ?_;go_wp2_with fail
   refine wpMix_seg ?_
   repeat (refine wpSeq_plain rfl (fun K hK => ?_); go_simp; refine hK _ ?_; clear hK K)
   refine wpSeq_shut rfl (fun K hK => ?_);go_wp2_with fail
   refine wpMix_end ?_;go_wp2_with fail
   have hg9 := HG8.out.mv ((Touch.refl (fun k => k = (w.heap.size + 1)) w8).setCell (p := ⟨(w.heap.size + 1), 2, none⟩) (.inl rfl) (.slice A8 (j + 1) c8)) (fun k hk _ => by omega);rw [rowsE_take El.nMrow ks j c1] at hg9;exact ⟨⟨j + 1, A8, c8, by simp, by omega, HBR8.out.far (p := ⟨(w.heap.size + 1), 2, none⟩) (by simp) _, HBE8.out.put 2 _, hg9, HF8.out.setCell (p := ⟨(w.heap.size + 1), 2, none⟩) (.inr (by show w.heap.size ≤ (w.heap.size + 1); omega)) _⟩, by simp [intOf]; omega⟩
  ·have d1 : decide ((j : Int) < (ks.length : Int)) = false := dF (by omega)
   have d1n : decide (j < ks.length) = false := dF c1;obtain rfl : j = ks.length := by omega
   obtain ⟨q0, q1, q2, q3, _, _, _, _, hlt⟩ := Blk.four HBE.out;obtain ⟨p0, p1, p2, p3, y0, y1, y2, y3, hlp⟩ := Blk.four HBR.out;have hg9 := HG.out.mv ((Touch.refl (fun k => k = w.heap.size) wr).put4 (.inl rfl) (.string ⟨nm.toArray⟩) (.slice none 0 0) (.slice Ae ks.length ce) (.string ⟨#[]⟩)) (fun k hk _ => by omega);rw [List.take_of_length_le (by rw [rowsE_len]; exact Nat.le_refl _)] at hg9;have HG9 := hid hg9;obtain ⟨r0, r1, r2, r3, _, _, _, _, _⟩ := Blk.four (HBR.out.self4 (.string ⟨nm.toArray⟩) (.slice none 0 0) (.slice Ae ks.length ce) (.string ⟨#[]⟩));simp only [put4] at r0 r1 r2 r3;clear hg9;go_wp2_with fail
   refine bodyPost_ret (v := .agg #[.string ⟨nm.toArray⟩, .slice none 0 0, .slice Ae ks.length ce, .string ⟨#[]⟩]) (by simp [results, Tryz.results130, go_sem, r0, r1, r2, r3]) rfl ?_;refine ⟨_, rfl, .slice none 0 0, .slice Ae ks.length ce, rfl, Touch.put4 HF.out (.inr (by omega)) _ _ _ _, ?_⟩;exact (HG9.out.done.mono fun i _ hi => by omega).imp fun W hW => ⟨RepA.nil _ _ _, hW, HNM.out, Nat.zero_le _⟩
end Go.Proofs.YtnbeemkfmlfgfaaGreatDoor
