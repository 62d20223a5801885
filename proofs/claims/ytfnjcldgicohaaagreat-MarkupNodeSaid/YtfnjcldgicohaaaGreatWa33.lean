/- Part 33 of 33 of a proof; its texts, joined: MkG, MkH, XmI, MoQ. No condition. -/
import Derived.Test.YtfnjcldgicohaaaGreatWa32
import Derived.Test.YtfnjcldgicohaaaGreatWa31
import Derived.Test.YtfnjcldgicohaaaGreatWa13
import Derived.Test.YtfnjcldgicohaaaGreatWa30
import Derived.Test.YtfnjcldgicohaaaGreatWa2
set_option maxRecDepth 100000
set_option maxHeartbeats 3000000
namespace Go.Proofs.YtfnjcldgicohaaaGreat
open Go.RowKit
open Tr (Nd)
open El (E elE elK mrow)
theorem text_le (k : Int) (s : List UInt8) (h : Tr.textOK k s = true) : s.length ≤ 200 := by
 unfold Tr.textOK at h;split at h
 ·unfold Tr.symbol at h
  split at h
  ·simp
  ·simp only [Bool.and_eq_true, decide_eq_true_eq] at h; omega
 split at h
 ·unfold Tr.isNum at h
  simp only [Bool.and_eq_true, decide_eq_true_eq] at h;omega
 split at h
 ·simp only [Bool.and_eq_true, decide_eq_true_eq] at h; omega
 split at h
 ·have hm := List.contains_iff_mem.1 h
  simp only [Tr.accents, List.mem_cons, List.not_mem_nil, or_false] at hm
  rcases hm with rfl | rfl | rfl | rfl | rfl | rfl <;> decide
 split at h
 ·unfold Tr.fence at h
  split at h
  ·simp
  ·cases h
 ·rw [List.isEmpty_iff.1 h]; simp
theorem formL_mem (r : Bool) : ∀ (l : List Nd), Tr.formL r l = true → ∀ x ∈ l, ((x.kind == 1) != r) = true ∧ Tr.form x = true
 | [], _, x, hx => by cases hx
 | y :: l, h, x, hx => by
  rw [Tr.formL, Bool.and_eq_true, Bool.and_eq_true] at h
  rcases List.mem_cons.1 hx with rfl | hx
  ·exact h.1
  ·exact formL_mem r l h.2 x hx
theorem mkE_rows (n : Nd) (k : Int) (nm : List UInt8) (hk : n.kind = k) (h : ∀ t c ss, El.mkE k t c ss = .mk nm [] (ss.map (mrow El.nMrow)) []) : elE n = mrow nm (rowsE El.nMrow n.kids) := by
 rw [El.elE_eq, hk, h, El.slotsE_map, List.map_map];rfl
theorem element_any (m : Nat) : ∀ n, Tr.count n ≤ m → Tr.form n = true → (n.kind == 1) = false → ElementC n := by
 induction m with
 | zero => intro n h; have := Tr.count_pos n; omega
 | succ m ih =>
  intro n hm hf hk1;rw [Tr.form_eq, Bool.and_eq_true, Bool.and_eq_true, hk1] at hf;obtain ⟨⟨ht, hkk⟩, hfl⟩ := hf;have htx : n.text.length ≤ maxLen := Nat.le_trans (text_le _ _ ht) (by decide)
  have hrow : ∀ x ∈ n.kids, RowC x := fun x hx => mkrow_any x fun y hy => by
   obtain ⟨h1, h2⟩ := formL_mem _ _ hfl x hx;rw [Tr.form_eq, Bool.and_eq_true] at h2;have hx1 : (x.kind == 1) = true := by simpa using h1
   rw [hx1] at h2;obtain ⟨h3, h4⟩ := formL_mem _ _ h2.2 y hy;have c1 := Tr.count_mem hx;have c2 := Tr.count_mem hy;have c3 := Tr.count_kids n;have c4 := Tr.count_kids x;exact ih y (by omega) h4 (by simpa using h3)
  intro sl w hc hsl;unfold Tr.kidsOK at hkk
  by_cases h12 : n.kind = 12
  ·rw [if_pos h12] at hkk
   simp only [Bool.and_eq_true, decide_eq_true_eq] at hkk;exact el_matrix n h12 htx n.cols.toNat (by omega) (by omega) hrow sl w hc hsl
  rw [if_neg h12] at hkk;split at hkk
  ·cases hkk
  split at hkk
  ·rename_i h1
   rw [h1] at hk1;cases hk1
  split at hkk
  ·rename_i h
   rcases h with h | h | h
   ·cases hl : El.lett n.text with
    | true => exact el_sym_true n h htx hl sl w hc hsl
    | false => exact el_sym_false n h htx hl sl w hc hsl
   ·exact el_mn n h htx sl w hc hsl
   ·exact el_mtext n h htx sl w hc hsl
  split at hkk
  ·rename_i h
   have h2 : n.kids.length = 2 := by simpa using hkk
   rcases h with h | h | h | h
   ·exact el_rows n El.nMfrac 5 (by simp [rkL]) h (mkE_rows n 5 _ h fun _ _ _ => rfl) hrow sl w hc hsl
   ·obtain ⟨a, b, hks⟩ : ∃ a b, n.kids = [a, b] := by
     match hh : n.kids, h2 with
     | [a, b], _ => exact ⟨a, b, rfl⟩
    by_cases ha : a.kids = []
    ·exact el_sqrt n a b h hks htx ha (hrow b (by rw [hks]; simp)) sl w hc hsl
    ·exact el_root n a b h hks htx ha (hrow a (by rw [hks]; simp)) (hrow b (by rw [hks]; simp)) sl w hc hsl
   ·exact el_rows n El.nMsub 7 (by simp [rkL]) h (mkE_rows n 7 _ h fun _ _ _ => rfl) hrow sl w hc hsl
   ·exact el_rows n El.nMsup 8 (by simp [rkL]) h (mkE_rows n 8 _ h fun _ _ _ => rfl) hrow sl w hc hsl
  split at hkk
  ·rename_i h
   exact el_rows n El.nMsubsup 9 (by simp [rkL]) h (mkE_rows n 9 _ h fun _ _ _ => rfl) hrow sl w hc hsl
  split at hkk
  ·rename_i h
   have h1 : n.kids.length = 1 := by simpa using hkk
   obtain ⟨a, hks⟩ := List.length_eq_one_iff.1 h1
   rcases h with h | h
   ·exact el_accent n a h hks htx (hrow a (by rw [hks]; simp)) sl w hc hsl
   ·have h2 : n.text.length = 2 := by
     rw [h] at ht;have ht' : Tr.fence n.text = true := ht;unfold Tr.fence at ht';split at ht'
     ·rename_i hx; rw [hx]; rfl
     ·cases ht'
    exact el_fence n a h hks htx (hrow a (by rw [hks]; simp)) h2 _ _ rfl rfl sl w hc hsl
  ·cases hkk
theorem row_any_k (n : Nd) (hf : Tr.form n = true) (hk : (n.kind == 1) = true) : RowC n := mkrow_any n fun y hy => by
 rw [Tr.form_eq, Bool.and_eq_true, hk] at hf;obtain ⟨h3, h4⟩ := formL_mem _ _ hf.2 y hy;exact element_any _ y (Nat.le_refl _) h4 (by simpa using h3)
end Go.Proofs.YtfnjcldgicohaaaGreat
namespace Go.Proofs.YtfnjcldgicohaaaGreat
open Go.RowKit
open Tr (Nd)
open El (E elE elK mrow)
attribute [local go_sem] stillV stillUpon
def elNil : E := .mk [] [] [] []
def markE (n : Nd) : E := if Tr.valid n then El.elM n else elNil
def markEr (n : Nd) : Int := if Tr.valid n then 0 else 1
theorem elNil_made (w w' : World) (hf : Fresh w w') : MakesE w w' elNil (.agg #[.string ⟨#[]⟩, .slice none 0 0, .slice none 0 0, .string ⟨#[]⟩]) :=
 ⟨_, _, rfl, hf, fun _ _ => ⟨RepA.nil _ _ _, .nil _ _, Nat.zero_le _, Nat.zero_le _⟩⟩
theorem mkEl_any (n : Nd) (sl : Value) (w : World) (hr : RepL w n.kids sl) (ht : n.text.length ≤ maxLen) (hc : Tr.count n ≤ 1000) :
  Calls Tryz.prog 19 #[nv n sl] w fun e w' => ∃ v, e = .returned (.tuple #[v, .int .i64 (markEr n)]) ∧ MakesE w w' (markE n) v := by
 obtain ⟨A, cap, rfl⟩ := hr.slice;have HV := hid (fun (w : World) (hr : RepL w n.kids (.slice A n.kids.length cap)) => valid_call n _ w hr ht (by omega));have HR := hid hr;have HC := hid hc;clear hr hc;cases hv : Tr.valid n with
 | false =>
  have HS := hid (show markE n = elNil from by unfold markE; rw [hv]; rfl);have HE := hid (show markEr n = 1 from by unfold markEr; rw [hv]; rfl);rw [HS.out, HE.out];go_enter Tryz.func19, Tryz.ntmps19;go_wp2_with fail
  refine (HV.out _ (HR.out.fresh (((Touch.refl _ _).alloc _).alloc _))).mono ?_;rintro _ w1 ⟨rfl, hf⟩;have HF := hid (Touch.pre (Touch.pre hf));have hb1 := hf.blk (Blk.new2 _ _ _ _) (fun h => h);obtain ⟨q0, q1, q2, q3, f0, f1, f2, f3, hg⟩ := Blk.four hb1;have HB := hid hb1;clear hf hb1;go_wp2_with fail
  obtain ⟨r0, r1, r2, r3, _, _, _, _, _⟩ := Blk.four (HB.out.self4 (.string ⟨#[]⟩) (.slice none 0 0) (.slice none 0 0) (.string ⟨#[]⟩));simp only [put4] at r0 r1 r2 r3;refine bodyPost_ret (v := .tuple #[.agg #[.string ⟨#[]⟩, .slice none 0 0, .slice none 0 0, .string ⟨#[]⟩], .int .i64 1]) (by simp [results, Tryz.results19, go_sem, r0, r1, r2, r3]) rfl ?_;exact ⟨_, rfl, elNil_made _ _ (Touch.put4 HF.out (.inr (by omega)) _ _ _ _)⟩
 | true =>
  have HS := hid (show markE n = El.elM n from by unfold markE; rw [hv]; rfl);have HE := hid (show markEr n = 0 from by unfold markEr; rw [hv]; rfl);have hv' := hv;unfold Tr.valid at hv';simp only [Bool.and_eq_true] at hv';have HROW := hid (row_any_k n (by simp_all) (by simp_all));clear hv';rw [HS.out, HE.out];go_enter Tryz.func19, Tryz.ntmps19;go_wp2_with fail
  refine (HV.out _ (HR.out.fresh (((Touch.refl _ _).alloc _).alloc _))).mono ?_;rintro _ w1 ⟨rfl, hf⟩;have HF := hid (Touch.pre (Touch.pre hf));have hb1 := hf.blk (Blk.new2 _ _ _ _) (fun h => h);have hb0 := hf.blk ((Blk.new _ _ _).alloc _) (fun h => h);obtain ⟨p0, p1, p2, p3, _, _, _, _, _⟩ := Blk.four hb0;have HB := hid hb1;clear hf hb1 hb0;go_wp2_with fail
  refine (HROW.out El.nMath (.slice A n.kids.length cap) w1 (by decide) (by have := HC.out; omega) (HR.out.fresh HF.out)).mono ?_;rintro _ w2 ⟨v, rfl, va, vk, hev, hf2, hst⟩;replace hev : v = .agg #[.string ⟨El.nMath.toArray⟩, va, vk, .string ⟨#[]⟩] := hev;subst hev;obtain ⟨Aa, ca, hva⟩ := hst.now.1.slice;obtain ⟨Ak, ck, hvk⟩ := hst.now.2.1.slice;replace hva : va = .slice Aa 0 ca := hva;replace hvk : vk = .slice Ak (elK n.kids).length ck := hvk;subst hva;subst hvk;have HF2 := hid (HF.out.trans hf2);have HB2 := hid (hf2.blk HB.out fun h => h);have HST := hid hst;have HL := hid HB.out.lt;have HS1 := hid HF.out.size;clear hf2 hst p0 p1 p2 p3;obtain ⟨q0, q1, q2, q3, f0, f1, f2, f3, hg⟩ := Blk.four HB2.out;go_wp2_with fail
  obtain ⟨r0, r1, r2, r3, _, _, _, _, _⟩ := Blk.four (HB2.out.self4 (.string ⟨El.nMath.toArray⟩) (.slice Aa 0 ca) (.slice Ak (elK n.kids).length ck) (.string ⟨#[]⟩));simp only [put4] at r0 r1 r2 r3;refine bodyPost_ret (v := .tuple #[.agg #[.string ⟨El.nMath.toArray⟩, .slice Aa 0 ca, .slice Ak (elK n.kids).length ck, .string ⟨#[]⟩], .int .i64 0]) (by simp [results, Tryz.results19, go_sem, r0, r1, r2, r3]) rfl ?_;have hst9 := HST.out.step (S2 := fun k => k < w.heap.size) ((Touch.refl (fun k => k = w.heap.size + 1) w2).put4 (.inl rfl) (.string ⟨El.nMath.toArray⟩) (.slice Aa 0 ca) (.slice Ak (elK n.kids).length ck) (.string ⟨#[]⟩)) (fun i _ hi => by have := HL.out; have hi : i = w.heap.size + 1 := hi; omega) (fun i _ hi => by have := HS1.out; omega);exact ⟨_, rfl, (.slice Aa 0 ca), (.slice Ak (elK n.kids).length ck), rfl, Touch.put4 HF2.out (.inr (by omega)) _ _ _ _, hst9⟩
end Go.Proofs.YtfnjcldgicohaaaGreat
namespace Go.Proofs.YtfnjcldgicohaaaGreat
open Go.RowKit
open Tr (Nd)
open El (E Attrs writeE)
def exportX (n : Nd) : List UInt8 := if Tr.valid n then printX (El.elM n) else []
def exportEr (n : Nd) : Int := if Tr.valid n then printXEr (El.elM n) else 1
theorem mkExport_any (n : Nd) (sl : Value) (w : World) (hr : RepL w n.kids sl) (ht : n.text.length ≤ maxLen) (hc : Tr.count n ≤ 1000) (hl : Tr.valid n = true → (writeE (El.elM n)).length ≤ 8000000) :
  Calls Tryz.prog 9 #[nv n sl] w fun x w' => x = .returned (.tuple #[.string ⟨(exportX n).toArray⟩, .int .i64 (exportEr n)]) ∧ Fresh w w' := by
 obtain ⟨A, cap, rfl⟩ := hr.slice;have HM := hid (fun (w : World) (hr : RepL w n.kids (.slice A n.kids.length cap)) => mkEl_any n _ w hr ht hc);have HR := hid hr;have HL := hid hl;clear hr hl;cases hv : Tr.valid n with
 | false =>
  have HS := hid (show markE n = elNil from by unfold markE; rw [hv]; rfl);have HE := hid (show markEr n = 1 from by unfold markEr; rw [hv]; rfl);have HX := hid (show exportX n = [] from by unfold exportX; rw [hv]; rfl);have HXE := hid (show exportEr n = 1 from by unfold exportEr; rw [hv]; rfl);rw [HX.out, HXE.out];go_enter Tryz.func9, Tryz.ntmps9;go_wp2_with fail
  refine (HM.out _ (HR.out.fresh ((Touch.refl _ w).alloc _))).mono ?_;rintro _ w1 ⟨v, rfl, va, vk, hev, hf, hst⟩;rw [HE.out];rw [HS.out] at hev hst;replace hev : v = .agg #[.string ⟨#[]⟩, va, vk, .string ⟨#[]⟩] := hev;obtain ⟨Aa, ca, hva⟩ := hst.now.1.slice;obtain ⟨Ak, ck, hvk⟩ := hst.now.2.1.slice;subst hev hva hvk;have HF := hid (Touch.pre hf);clear hf hst;go_wp2_with fail
  go_ret2;exact ⟨rfl, HF.out.alloc _⟩
 | true =>
  have HS := hid (show markE n = El.elM n from by unfold markE; rw [hv]; rfl);have HE := hid (show markEr n = 0 from by unfold markEr; rw [hv]; rfl);have HX := hid (show exportX n = printX (El.elM n) from by unfold exportX; rw [hv]; rfl);have HXE := hid (show exportEr n = printXEr (El.elM n) from by unfold exportEr; rw [hv]; rfl);rw [HX.out, HXE.out];have HL2 := hid (HL.out hv);go_enter Tryz.func9, Tryz.ntmps9;go_wp2_with fail
  refine (HM.out _ (HR.out.fresh ((Touch.refl _ w).alloc _))).mono ?_;rintro _ w1 ⟨v, rfl, va, vk, hev, hf, hst⟩;rw [HE.out];rw [HS.out] at hev hst;have HPR := hid (fun (w : World) (h : RepV w (El.elM n) va vk) => xPrint_any (El.elM n) va vk w h (fun _ => HL2.out));have HST := hid hst;obtain ⟨Aa, ca, hva⟩ := hst.now.1.slice;obtain ⟨Ak, ck, hvk⟩ := hst.now.2.1.slice
  rcases hem : El.elM n with ⟨en, ea, ek, et⟩
  have HEM := hid hem;rw [hem] at HPR hev hva hvk HST;clear hem;unfold ev at HPR hev;simp only [E.name, E.attrs, E.kids, E.text] at HPR hev hva hvk;subst hev hva hvk;have HF := hid (Touch.pre hf);clear hf hst;go_wp2_with fail
  refine (HPR.out _ ((HST.out _ ((Touch.refl _ w1).alloc _)))).mono ?_;rintro _ w2 ⟨rfl, hf2⟩;have HF2 := hid (HF.out.trans (Touch.pre hf2));clear hf2;go_wp2_with fail
  go_ret2;exact ⟨by rw [HEM.out]; rfl, HF2.out⟩
def xplus : Nd := .mk 1 [] 0 [.mk 2 [120] 0 [], .mk 2 [43] 0 []]
def xplusT : List UInt8 := [60, 109, 97, 116, 104, 62, 60, 109, 105, 62, 120, 60, 47, 109, 105, 62, 60, 109, 111, 62, 43, 60, 47, 109, 111, 62, 60, 47, 109, 97, 116, 104, 62]
theorem awake24_any (w : World) : Calls Tryz.prog 4 #[] w fun e w' => e = .returned (.bool true) ∧ Fresh w w' := by
 have HS := hid (show exportX xplus = xplusT by decide +kernel);have HE := hid (show exportEr xplus = 0 by decide +kernel);go_enter Tryz.func4, Tryz.ntmps4;go_wp2_with fail
 have hp : RepL (w.alloc (.cells #[.int .i64 2, .string ⟨#[120]⟩, .int .i64 0, .slice none 0 0, .int .i64 2, .string ⟨#[43]⟩, .int .i64 0, .slice none 0 0] 30)) xplus.kids (.slice (some ⟨w.heap.size, 0, none⟩) 2 2) := RepL.kid2 (k := 2) (s := [120]) (c := 0) (ks := []) (k' := 2) (s' := [43]) (c' := 0) (ks' := []) (Blk.new w 30 _) (by decide) (by decide) (.nil _ _) (.nil _ _);refine (mkExport_any xplus _ _ hp (by decide) (by decide +kernel) (fun _ => by decide +kernel)).mono ?_;rintro _ w1 ⟨rfl, hf⟩;rw [HS.out, HE.out];have HF := hid (Touch.pre hf);clear hp hf;unfold xplusT;go_wp2_with fail
 go_ret;exact ⟨ret_bool' _ _ (by decide), HF.out⟩
end Go.Proofs.YtfnjcldgicohaaaGreat
namespace Go.Proofs.YtfnjcldgicohaaaGreat
open Go.ChangeShapes Go.WideShapes Go.ChangeAt Go.RowKit
open Tr (Nd)
open El (E Attrs)
theorem markupNode_any (e : E) (va vk : Value) (w : World) (hr : RepV w e va vk) :
  Calls Tryz.prog 3 #[ev e va vk] w fun x w' => x = .returned (.bool true) ∧ Fresh w w' := by
 have HR := hid hr;have HFW := hid (fun (W : World) (h : RepV W e va vk) => rfew23_any e 200 va vk W (by decide) (by decide) h);have HMK := hid (fun (W : World) (h : RepV W e va vk) => mkNode_any e va vk W h)
 have HRF := hid (fun (W : World) (h : RepV W e va vk) (hc : (El.count e : Int) ≤ 200) => show Calls Tryz.prog 7 #[ev e va vk] W fun x w' => ∃ v, x = .returned (.tuple #[v, .int .i64 (El.nodeF e).2.1, .int .i64 (El.nodeF e).2.2]) ∧ MakesN W w' (El.nodeF e).1 v from by
  rw [← El.node_eq];exact rNode24_any e va vk W h (by omega))
 obtain ⟨A, ca, hva⟩ := hr.1.slice;obtain ⟨B, cb, hvk⟩ := hr.2.1.slice;clear hr;generalize El.nodeF e = R at *;generalize El.count e = c at *;obtain ⟨⟨mk, mt, mc, mks⟩, at1, er⟩ := R;obtain ⟨n, ats, ks, t⟩ := e;replace hva : va = .slice A ats.length ca := hva;replace hvk : vk = .slice B ks.length cb := hvk;subst hva;subst hvk;unfold ev at *;simp only [E.name, E.text] at *;have HB0 := hid (Blk.new w 25 #[.string ⟨n.toArray⟩, .slice A ats.length ca, .slice B ks.length cb, .string ⟨t.toArray⟩]);have HF0 := hid ((Touch.refl (fun _ => False) w).alloc (.cells #[.string ⟨n.toArray⟩, .slice A ats.length ca, .slice B ks.length cb, .string ⟨t.toArray⟩] 25));go_enter Tryz.func3, Tryz.ntmps3;go_wp2_with fail
 refine (awake24_any _).mono ?_;rintro _ w1 ⟨rfl, hf1⟩;have HF1 := hid (HF0.out.trans hf1);have HB1 := hid (hf1.blk HB0.out fun h => h);clear hf1 HF0 HB0;obtain ⟨q0, q1, q2, q3, _⟩ := Blk.four HB1.out;go_wp2_with fail
 refine (HFW.out _ (HR.out.fresh HF1.out)).mono ?_;rintro _ w2 ⟨b, rfl, hf2, hb⟩;have HF2 := hid (HF1.out.trans hf2);have HB2 := hid (hf2.blk HB1.out fun h => h);have HC := hid hb;clear hf2 HF1 HB1 hb q0 q1 q2 q3;obtain ⟨q0, q1, q2, q3, _⟩ := Blk.four HB2.out;cases b with
 | false =>
  go_wp2_with fail
  go_ret;exact ⟨rfl, HF2.out⟩
 | true =>
 go_wp2_with fail
 refine (HMK.out _ (HR.out.fresh HF2.out)).mono ?_;rintro _ w3 ⟨v3, rfl, s3, rfl, hf3, htl3, hst3⟩;obtain ⟨A3, c3, rfl⟩ := hst3.now.slice;have HF3 := hid (HF2.out.trans hf3);have HB3 := hid (hf3.blk HB2.out fun h => h);have HR3 := hid (show RepL w3 mks (.slice A3 mks.length c3) from hst3.now);clear hf3 hst3 HF2 HB2 q0 q1 q2 q3 htl3;obtain ⟨q0, q1, q2, q3, _⟩ := Blk.four HB3.out;unfold nv;simp only [Nd.kind, Nd.text, Nd.cols, Nd.kids];go_wp2_with fail
 have HFA := hid ((Touch.refl (fun _ => False) w3).alloc (.cells #[.int .i64 mk, .string ⟨mt.toArray⟩, .int .i64 mc, .slice A3 mks.length c3] 30));have HBN := hid (Blk.new w3 30 #[.int .i64 mk, .string ⟨mt.toArray⟩, .int .i64 mc, .slice A3 mks.length c3]);have HF3a := hid (HF3.out.trans HFA.out);have HB3a := hid (HFA.out.blk HB3.out fun h => h);have HR3a := hid (HR3.out.fresh HFA.out);generalize (w3.alloc (.cells #[.int .i64 mk, .string ⟨mt.toArray⟩, .int .i64 mc, .slice A3 mks.length c3] 30)) = w4 at HBN HF3a HB3a HR3a ⊢;clear HFA HF3 HB3 HR3 q0 q1 q2 q3;refine (HRF.out _ (HR.out.fresh HF3a.out) (HC.out trivial)).mono ?_;rintro _ w5 ⟨v5, rfl, s5, rfl, hf5, htl5, hst5⟩;obtain ⟨A5, c5, rfl⟩ := hst5.now.slice;have HF5 := hid (HF3a.out.trans hf5);have HBN5 := hid (hf5.blk HBN.out fun h => h);have HR3b := hid (HR3a.out.fresh hf5);have HR5 := hid (show RepL w5 mks (.slice A5 mks.length c5) from hst5.now);clear hf5 hst5 HF3a HB3a HBN htl5 HR3a;have he1 : (er == er) = true := by simp
 have he2 : (at1 == at1) = true := by simp
 obtain ⟨u0, u1, u2, u3, _, _, _, _, hu⟩ := Blk.four HBN5.out;unfold nv;simp only [Nd.kind, Nd.text, Nd.cols, Nd.kids];go_wp2_with fail
 have HFB := hid ((Touch.refl (fun _ => False) w5).alloc (.cells #[.int .i64 mk, .string ⟨mt.toArray⟩, .int .i64 mc, .slice A5 mks.length c5] 30));refine (equal_any _ (.mk mk mt mc mks) (.mk mk mt mc mks) (.slice A3 mks.length c3) (.slice A5 mks.length c5) _ (Nat.le_refl _) (HR3b.out.fresh HFB.out) (HR5.out.fresh HFB.out)).mono ?_;rintro _ w6 ⟨rfl, hf6⟩;have HF6 := hid (HF5.out.trans (HFB.out.trans hf6));have HEQ := hid ((Tr.eqN_iff (.mk mk mt mc mks) (.mk mk mt mc mks)).2 rfl);clear hf6;go_wp2_with fail
 go_ret;exact ⟨ret_bool' _ _ HEQ.out, HF6.out⟩
theorem markupNode_lifted (os : Os) (started : os.Started) (H : Type) (enc : TypeId × Value → H) :
  ReturnsInHanded {} Tryz.checked os 3 .any (Rows.markupNodeSpec.pre6 enc Tryz.prog Tryz.f3 Rows.markupNodeRow.domain false) (Rows.markupNodeSpec.post enc Tryz.prog Tryz.f3 false true false false) := by
 refine returnsInHanded_of_change (C := Tryz.checked) Tryz.ownKnob started (by kernel_rfl) Tryz.func3
  (ChangeSpec.witness6 (enc := enc) (C := Tryz.checked) false ⟨#[], #[.agg #[.string ⟨#[]⟩, .slice none 0 0, .slice none 0 0, .string ⟨#[]⟩]], []⟩ 8 (by kernel_rfl) (by kernel_rfl) (by kernel_rfl) (by kernel_rfl)) ?_
 intro W base args ds gs before hval0 hW hcnd _;have hval : ∀ (j : Nat) t v, Tryz.f3.params[j]? = some t → args[j]? = some v → Value.okWide Tryz.prog W .any base t v := hval0;have hW' := hW;obtain ⟨p, q, hA0, hV, rfl, hfz, hnd⟩ := hW;have hA : DataW.TrodAll enc Tryz.prog W 0 (fun _ => true) true Tryz.f3.params.toList args.toList ds p := hA0;rw [Tryz.params3] at hA hval;obtain ⟨v0, d0, rfl, rfl, h0⟩ := trodAll_one hA;obtain ⟨rfl, rfl⟩ := trodVars_none hV;obtain ⟨n0, a0, k0, rfl, r0⟩ := open_elem (hval 0 25 v0 rfl rfl) h0;refine (markupNode_any n0 a0 k0 W r0).mono fun e W' ⟨he, hw⟩ => ?_
 exact ⟨_, he, post_true Tryz.laidOut Tryz.underlying4 (by kernel_rfl) (by kernel_rfl) rfl rfl hW' hw⟩
theorem MarkupNode_holds : Rows.MarkupNodeSaid :=
 OpenClaim.holds_of_wide 3 Tryz.f3 rfl rfl rfl rfl rfl rfl rfl ⟨rfl, rfl, rfl, rfl, rfl⟩ rfl rfl rfl rfl rfl (by kernel_rfl) Tryz.func3 (by kernel_rfl)
  (of_decide_eq_true (by kernel_rfl)) (by unfold Func.isWrapper; first | (rw [if_pos (by decide +kernel)]; kernel_rfl) | (rw [if_neg (by decide +kernel)]; exact ⟨rfl, rfl⟩))
  (fun os started H enc _ => markupNode_lifted os started H enc)
end Go.Proofs.YtfnjcldgicohaaaGreat
