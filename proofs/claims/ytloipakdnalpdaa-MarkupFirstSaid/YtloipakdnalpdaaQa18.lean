/- Part 18 of 20 of a proof; its texts, joined: MkG, MkH, TrK, XmI, TrC, ReA. No condition. -/
import Derived.Test.YtloipakdnalpdaaQa17
import Derived.Test.YtloipakdnalpdaaQa5
import Derived.Test.YtloipakdnalpdaaQa2
import Derived.Test.YtloipakdnalpdaaQa15
set_option maxRecDepth 100000
set_option maxHeartbeats 2000000
namespace Go.Proofs.Ytloipakdnalpdaa
open Go.RowKit
open Tr (Nd)
open El (E elE elK mrow)
theorem text_le (k : Int) (s : List UInt8) (h : Tr.textOK k s = true) : s.length ≤ 200 := by
 unfold Tr.textOK at h;split at h
 ·unfold Tr.symbol at h
  split at h
  ·simp
  ·simp only [Bool.and_eq_true, decide_eq_true_eq] at h; omega
 split at h
 ·unfold Tr.isNum at h
  simp only [Bool.and_eq_true, decide_eq_true_eq] at h;omega
 split at h
 ·simp only [Bool.and_eq_true, decide_eq_true_eq] at h; omega
 split at h
 ·have hm := List.contains_iff_mem.1 h
  simp only [Tr.accents, List.mem_cons, List.not_mem_nil, or_false] at hm
  rcases hm with rfl | rfl | rfl | rfl | rfl | rfl <;> decide
 split at h
 ·unfold Tr.fence at h
  split at h
  ·simp
  ·cases h
 ·rw [List.isEmpty_iff.1 h]; simp
theorem formL_mem (r : Bool) : ∀ (l : List Nd), Tr.formL r l = true → ∀ x ∈ l, ((x.kind == 1) != r) = true ∧ Tr.form x = true
 | [], _, x, hx => by cases hx
 | y :: l, h, x, hx => by
  rw [Tr.formL, Bool.and_eq_true, Bool.and_eq_true] at h
  rcases List.mem_cons.1 hx with rfl | hx
  ·exact h.1
  ·exact formL_mem r l h.2 x hx
theorem mkE_rows (n : Nd) (k : Int) (nm : List UInt8) (hk : n.kind = k) (h : ∀ t c ss, El.mkE k t c ss = .mk nm [] (ss.map (mrow El.nMrow)) []) : elE n = mrow nm (rowsE El.nMrow n.kids) := by
 rw [El.elE_eq, hk, h, El.slotsE_map, List.map_map];rfl
theorem element_any (m : Nat) : ∀ n, Tr.count n ≤ m → Tr.form n = true → (n.kind == 1) = false → ElementC n := by
 induction m with
 | zero => intro n h; have := Tr.count_pos n; omega
 | succ m ih =>
  intro n hm hf hk1;rw [Tr.form_eq, Bool.and_eq_true, Bool.and_eq_true, hk1] at hf;obtain ⟨⟨ht, hkk⟩, hfl⟩ := hf;have htx : n.text.length ≤ maxLen := Nat.le_trans (text_le _ _ ht) (by decide)
  have hrow : ∀ x ∈ n.kids, RowC x := fun x hx => mkrow_any x fun y hy => by
   obtain ⟨h1, h2⟩ := formL_mem _ _ hfl x hx;rw [Tr.form_eq, Bool.and_eq_true] at h2;have hx1 : (x.kind == 1) = true := by simpa using h1
   rw [hx1] at h2;obtain ⟨h3, h4⟩ := formL_mem _ _ h2.2 y hy;have c1 := Tr.count_mem hx;have c2 := Tr.count_mem hy;have c3 := Tr.count_kids n;have c4 := Tr.count_kids x;exact ih y (by omega) h4 (by simpa using h3)
  intro sl w hc hsl;unfold Tr.kidsOK at hkk
  by_cases h12 : n.kind = 12
  ·rw [if_pos h12] at hkk
   simp only [Bool.and_eq_true, decide_eq_true_eq] at hkk;exact el_matrix n h12 htx n.cols.toNat (by omega) (by omega) hrow sl w hc hsl
  rw [if_neg h12] at hkk;split at hkk
  ·cases hkk
  split at hkk
  ·rename_i h1
   rw [h1] at hk1;cases hk1
  split at hkk
  ·rename_i h
   rcases h with h | h | h
   ·cases hl : El.lett n.text with
    | true => exact el_sym_true n h htx hl sl w hc hsl
    | false => exact el_sym_false n h htx hl sl w hc hsl
   ·exact el_mn n h htx sl w hc hsl
   ·exact el_mtext n h htx sl w hc hsl
  split at hkk
  ·rename_i h
   have h2 : n.kids.length = 2 := by simpa using hkk
   rcases h with h | h | h | h
   ·exact el_rows n El.nMfrac 5 (by simp [rkL]) h (mkE_rows n 5 _ h fun _ _ _ => rfl) hrow sl w hc hsl
   ·obtain ⟨a, b, hks⟩ : ∃ a b, n.kids = [a, b] := by
     match hh : n.kids, h2 with
     | [a, b], _ => exact ⟨a, b, rfl⟩
    by_cases ha : a.kids = []
    ·exact el_sqrt n a b h hks htx ha (hrow b (by rw [hks]; simp)) sl w hc hsl
    ·exact el_root n a b h hks htx ha (hrow a (by rw [hks]; simp)) (hrow b (by rw [hks]; simp)) sl w hc hsl
   ·exact el_rows n El.nMsub 7 (by simp [rkL]) h (mkE_rows n 7 _ h fun _ _ _ => rfl) hrow sl w hc hsl
   ·exact el_rows n El.nMsup 8 (by simp [rkL]) h (mkE_rows n 8 _ h fun _ _ _ => rfl) hrow sl w hc hsl
  split at hkk
  ·rename_i h
   exact el_rows n El.nMsubsup 9 (by simp [rkL]) h (mkE_rows n 9 _ h fun _ _ _ => rfl) hrow sl w hc hsl
  split at hkk
  ·rename_i h
   have h1 : n.kids.length = 1 := by simpa using hkk
   obtain ⟨a, hks⟩ := List.length_eq_one_iff.1 h1
   rcases h with h | h
   ·exact el_accent n a h hks htx (hrow a (by rw [hks]; simp)) sl w hc hsl
   ·have h2 : n.text.length = 2 := by
     rw [h] at ht;have ht' : Tr.fence n.text = true := ht;unfold Tr.fence at ht';split at ht'
     ·rename_i hx; rw [hx]; rfl
     ·cases ht'
    exact el_fence n a h hks htx (hrow a (by rw [hks]; simp)) h2 _ _ rfl rfl sl w hc hsl
  ·cases hkk
theorem row_any_k (n : Nd) (hf : Tr.form n = true) (hk : (n.kind == 1) = true) : RowC n := mkrow_any n fun y hy => by
 rw [Tr.form_eq, Bool.and_eq_true, hk] at hf;obtain ⟨h3, h4⟩ := formL_mem _ _ hf.2 y hy;exact element_any _ y (Nat.le_refl _) h4 (by simpa using h3)
end Go.Proofs.Ytloipakdnalpdaa
namespace Go.Proofs.Ytloipakdnalpdaa
open Go.RowKit
open Tr (Nd)
open El (E elE elK mrow)
attribute [local go_sem] stillV stillUpon
def elNil : E := .mk [] [] [] []
def markE (n : Nd) : E := if Tr.valid n then El.elM n else elNil
def markEr (n : Nd) : Int := if Tr.valid n then 0 else 1
theorem elNil_made (w w' : World) (hf : Fresh w w') : MakesE w w' elNil (.agg #[.string ⟨#[]⟩, .slice none 0 0, .slice none 0 0, .string ⟨#[]⟩]) :=
 ⟨_, _, rfl, hf, fun _ _ => ⟨RepA.nil _ _ _, .nil _ _, Nat.zero_le _, Nat.zero_le _⟩⟩
theorem mkEl_any (n : Nd) (sl : Value) (w : World) (hr : RepL w n.kids sl) (ht : n.text.length ≤ maxLen) (hc : Tr.count n ≤ 1000) :
  Calls Try.prog 7 #[nv n sl] w fun e w' => ∃ v, e = .returned (.tuple #[v, .int .i64 (markEr n)]) ∧ MakesE w w' (markE n) v := by
 obtain ⟨A, cap, rfl⟩ := hr.slice;have HV := hid (fun (w : World) (hr : RepL w n.kids (.slice A n.kids.length cap)) => valid_call n _ w hr ht (by omega));have HR := hid hr;have HC := hid hc;clear hr hc;cases hv : Tr.valid n with
 | false =>
  have HS := hid (show markE n = elNil from by unfold markE; rw [hv]; rfl);have HE := hid (show markEr n = 1 from by unfold markEr; rw [hv]; rfl);rw [HS.out, HE.out];go_enter Try.func7, Try.ntmps7;go_wp2_with fail
  refine (HV.out _ (HR.out.fresh (((Touch.refl _ _).alloc _).alloc _))).mono ?_;rintro _ w1 ⟨rfl, hf⟩;have HF := hid (Touch.pre (Touch.pre hf));have hb1 := hf.blk (Blk.new2 _ _ _ _) (fun h => h);obtain ⟨q0, q1, q2, q3, f0, f1, f2, f3, hg⟩ := Blk.four hb1;have HB := hid hb1;clear hf hb1;go_wp2_with fail
  obtain ⟨r0, r1, r2, r3, _, _, _, _, _⟩ := Blk.four (HB.out.self4 (.string ⟨#[]⟩) (.slice none 0 0) (.slice none 0 0) (.string ⟨#[]⟩));simp only [put4] at r0 r1 r2 r3;refine bodyPost_ret (v := .tuple #[.agg #[.string ⟨#[]⟩, .slice none 0 0, .slice none 0 0, .string ⟨#[]⟩], .int .i64 1]) (by simp [results, Try.results7, go_sem, r0, r1, r2, r3]) rfl ?_;exact ⟨_, rfl, elNil_made _ _ (Touch.put4 HF.out (.inr (by omega)) _ _ _ _)⟩
 | true =>
  have HS := hid (show markE n = El.elM n from by unfold markE; rw [hv]; rfl);have HE := hid (show markEr n = 0 from by unfold markEr; rw [hv]; rfl);have hv' := hv;unfold Tr.valid at hv';simp only [Bool.and_eq_true] at hv';have HROW := hid (row_any_k n (by simp_all) (by simp_all));clear hv';rw [HS.out, HE.out];go_enter Try.func7, Try.ntmps7;go_wp2_with fail
  refine (HV.out _ (HR.out.fresh (((Touch.refl _ _).alloc _).alloc _))).mono ?_;rintro _ w1 ⟨rfl, hf⟩;have HF := hid (Touch.pre (Touch.pre hf));have hb1 := hf.blk (Blk.new2 _ _ _ _) (fun h => h);have hb0 := hf.blk ((Blk.new _ _ _).alloc _) (fun h => h);obtain ⟨p0, p1, p2, p3, _, _, _, _, _⟩ := Blk.four hb0;have HB := hid hb1;clear hf hb1 hb0;go_wp2_with fail
  refine (HROW.out El.nMath (.slice A n.kids.length cap) w1 (by decide) (by have := HC.out; omega) (HR.out.fresh HF.out)).mono ?_;rintro _ w2 ⟨v, rfl, va, vk, hev, hf2, hst⟩;replace hev : v = .agg #[.string ⟨El.nMath.toArray⟩, va, vk, .string ⟨#[]⟩] := hev;subst hev;obtain ⟨Aa, ca, hva⟩ := hst.now.1.slice;obtain ⟨Ak, ck, hvk⟩ := hst.now.2.1.slice;replace hva : va = .slice Aa 0 ca := hva;replace hvk : vk = .slice Ak (elK n.kids).length ck := hvk;subst hva;subst hvk;have HF2 := hid (HF.out.trans hf2);have HB2 := hid (hf2.blk HB.out fun h => h);have HST := hid hst;have HL := hid HB.out.lt;have HS1 := hid HF.out.size;clear hf2 hst p0 p1 p2 p3;obtain ⟨q0, q1, q2, q3, f0, f1, f2, f3, hg⟩ := Blk.four HB2.out;go_wp2_with fail
  obtain ⟨r0, r1, r2, r3, _, _, _, _, _⟩ := Blk.four (HB2.out.self4 (.string ⟨El.nMath.toArray⟩) (.slice Aa 0 ca) (.slice Ak (elK n.kids).length ck) (.string ⟨#[]⟩));simp only [put4] at r0 r1 r2 r3;refine bodyPost_ret (v := .tuple #[.agg #[.string ⟨El.nMath.toArray⟩, .slice Aa 0 ca, .slice Ak (elK n.kids).length ck, .string ⟨#[]⟩], .int .i64 0]) (by simp [results, Try.results7, go_sem, r0, r1, r2, r3]) rfl ?_;have hst9 := HST.out.step (S2 := fun k => k < w.heap.size) ((Touch.refl (fun k => k = w.heap.size + 1) w2).put4 (.inl rfl) (.string ⟨El.nMath.toArray⟩) (.slice Aa 0 ca) (.slice Ak (elK n.kids).length ck) (.string ⟨#[]⟩)) (fun i _ hi => by have := HL.out; have hi : i = w.heap.size + 1 := hi; omega) (fun i _ hi => by have := HS1.out; omega);exact ⟨_, rfl, (.slice Aa 0 ca), (.slice Ak (elK n.kids).length ck), rfl, Touch.put4 HF2.out (.inr (by omega)) _ _ _ _, hst9⟩
end Go.Proofs.Ytloipakdnalpdaa
namespace Go.Proofs.Ytloipakdnalpdaa
open Go.RowKit
open Tr (Nd)
theorem RepL.leaf1 {W : World} {g : Nat} {k : Int} {s : List UInt8} (h : Blk W g 24 #[.int .i64 k, .string ⟨s.toArray⟩, .int .i64 0, .slice none 0 0]) (hs : s.length ≤ maxLen) : RepL W [.mk k s 0 []] (.slice (some ⟨g, 0, none⟩) 1 1) := by
 refine RepL.row g 0 1 [.mk k s 0 []] (fun _ => .slice none 0 0) h.lt (show 1 ≤ maxLen by decide) ?_ ?_ ?_ ?_ ?_ ?_
 all_goals (intro i hi; obtain rfl : i = 0 := by simpa using hi)
 ·exact hs
 ·exact h.cell 0
 ·exact h.cell 1
 ·exact h.cell 2
 ·exact h.cell 3
 ·exact .nil _ _
theorem RepL.kid1 {W : World} {g : Nat} {k c : Int} {s : List UInt8} {ks : List Nd} {v : Value} (h : Blk W g 24 #[.int .i64 k, .string ⟨s.toArray⟩, .int .i64 c, v]) (hs : s.length ≤ maxLen) (hk : RepL W ks v) : RepL W [.mk k s c ks] (.slice (some ⟨g, 0, none⟩) 1 1) := by
 refine RepL.row g 0 1 [.mk k s c ks] (fun _ => v) h.lt (show 1 ≤ maxLen by decide) ?_ ?_ ?_ ?_ ?_ ?_
 all_goals (intro i hi; obtain rfl : i = 0 := by simpa using hi)
 ·exact hs
 ·exact h.cell 0
 ·exact h.cell 1
 ·exact h.cell 2
 ·exact h.cell 3
 ·exact hk
theorem RepL.kid2 {W : World} {g : Nat} {k c k' c' : Int} {s s' : List UInt8} {ks ks' : List Nd} {v v' : Value} (h : Blk W g 24 #[.int .i64 k, .string ⟨s.toArray⟩, .int .i64 c, v, .int .i64 k', .string ⟨s'.toArray⟩, .int .i64 c', v']) (hs : s.length ≤ maxLen) (hs' : s'.length ≤ maxLen)
  (hk : RepL W ks v) (hk' : RepL W ks' v') : RepL W [.mk k s c ks, .mk k' s' c' ks'] (.slice (some ⟨g, 0, none⟩) 2 2) := by
 refine RepL.row g 0 2 [.mk k s c ks, .mk k' s' c' ks'] (fun i => if i = 0 then v else v') h.lt (show 2 ≤ maxLen by decide) ?_ ?_ ?_ ?_ ?_ ?_
 all_goals (intro i hi; have hi2 : i < 2 := (by simpa using hi); obtain rfl | rfl : i = 0 ∨ i = 1 := by omega)
 ·exact hs
 ·exact hs'
 ·exact h.cell 0
 ·exact h.cell 4
 ·exact h.cell 1
 ·exact h.cell 5
 ·exact h.cell 2
 ·exact h.cell 6
 ·exact h.cell 3
 ·exact h.cell 7
 ·exact hk
 ·exact hk'
end Go.Proofs.Ytloipakdnalpdaa
namespace Go.Proofs.Ytloipakdnalpdaa
open Go.RowKit
open Tr (Nd)
open El (E Attrs writeE)
def exportX (n : Nd) : List UInt8 := if Tr.valid n then printX (El.elM n) else []
def exportEr (n : Nd) : Int := if Tr.valid n then printXEr (El.elM n) else 1
theorem mkExport_any (n : Nd) (sl : Value) (w : World) (hr : RepL w n.kids sl) (ht : n.text.length ≤ maxLen) (hc : Tr.count n ≤ 1000) (hl : Tr.valid n = true → (writeE (El.elM n)).length ≤ 8000000) :
  Calls Try.prog 15 #[nv n sl] w fun x w' => x = .returned (.tuple #[.string ⟨(exportX n).toArray⟩, .int .i64 (exportEr n)]) ∧ Fresh w w' := by
 obtain ⟨A, cap, rfl⟩ := hr.slice;have HM := hid (fun (w : World) (hr : RepL w n.kids (.slice A n.kids.length cap)) => mkEl_any n _ w hr ht hc);have HR := hid hr;have HL := hid hl;clear hr hl;cases hv : Tr.valid n with
 | false =>
  have HS := hid (show markE n = elNil from by unfold markE; rw [hv]; rfl);have HE := hid (show markEr n = 1 from by unfold markEr; rw [hv]; rfl);have HX := hid (show exportX n = [] from by unfold exportX; rw [hv]; rfl);have HXE := hid (show exportEr n = 1 from by unfold exportEr; rw [hv]; rfl);rw [HX.out, HXE.out];go_enter Try.func15, Try.ntmps15;go_wp2_with fail
  refine (HM.out _ (HR.out.fresh ((Touch.refl _ w).alloc _))).mono ?_;rintro _ w1 ⟨v, rfl, va, vk, hev, hf, hst⟩;rw [HE.out];rw [HS.out] at hev hst;replace hev : v = .agg #[.string ⟨#[]⟩, va, vk, .string ⟨#[]⟩] := hev;obtain ⟨Aa, ca, hva⟩ := hst.now.1.slice;obtain ⟨Ak, ck, hvk⟩ := hst.now.2.1.slice;subst hev hva hvk;have HF := hid (Touch.pre hf);clear hf hst;go_wp2_with fail
  go_ret2;exact ⟨rfl, HF.out.alloc _⟩
 | true =>
  have HS := hid (show markE n = El.elM n from by unfold markE; rw [hv]; rfl);have HE := hid (show markEr n = 0 from by unfold markEr; rw [hv]; rfl);have HX := hid (show exportX n = printX (El.elM n) from by unfold exportX; rw [hv]; rfl);have HXE := hid (show exportEr n = printXEr (El.elM n) from by unfold exportEr; rw [hv]; rfl);rw [HX.out, HXE.out];have HL2 := hid (HL.out hv);go_enter Try.func15, Try.ntmps15;go_wp2_with fail
  refine (HM.out _ (HR.out.fresh ((Touch.refl _ w).alloc _))).mono ?_;rintro _ w1 ⟨v, rfl, va, vk, hev, hf, hst⟩;rw [HE.out];rw [HS.out] at hev hst;have HPR := hid (fun (w : World) (h : RepV w (El.elM n) va vk) => xPrint_any (El.elM n) va vk w h (fun _ => HL2.out));have HST := hid hst;obtain ⟨Aa, ca, hva⟩ := hst.now.1.slice;obtain ⟨Ak, ck, hvk⟩ := hst.now.2.1.slice
  rcases hem : El.elM n with ⟨en, ea, ek, et⟩
  have HEM := hid hem;rw [hem] at HPR hev hva hvk HST;clear hem;unfold ev at HPR hev;simp only [E.name, E.attrs, E.kids, E.text] at HPR hev hva hvk;subst hev hva hvk;have HF := hid (Touch.pre hf);clear hf hst;go_wp2_with fail
  refine (HPR.out _ ((HST.out _ ((Touch.refl _ w1).alloc _)))).mono ?_;rintro _ w2 ⟨rfl, hf2⟩;have HF2 := hid (HF.out.trans (Touch.pre hf2));clear hf2;go_wp2_with fail
  go_ret2;exact ⟨by rw [HEM.out]; rfl, HF2.out⟩
def xplus : Nd := .mk 1 [] 0 [.mk 2 [120] 0 [], .mk 2 [43] 0 []]
def xplusT : List UInt8 := [60, 109, 97, 116, 104, 62, 60, 109, 105, 62, 120, 60, 47, 109, 105, 62, 60, 109, 111, 62, 43, 60, 47, 109, 111, 62, 60, 47, 109, 97, 116, 104, 62]
theorem awake24_any (w : World) : Calls Try.prog 5 #[] w fun e w' => e = .returned (.bool true) ∧ Fresh w w' := by
 have HS := hid (show exportX xplus = xplusT by decide +kernel);have HE := hid (show exportEr xplus = 0 by decide +kernel);go_enter Try.func5, Try.ntmps5;go_wp2_with fail
 have hp : RepL (w.alloc (.cells #[.int .i64 2, .string ⟨#[120]⟩, .int .i64 0, .slice none 0 0, .int .i64 2, .string ⟨#[43]⟩, .int .i64 0, .slice none 0 0] 24)) xplus.kids (.slice (some ⟨w.heap.size, 0, none⟩) 2 2) := RepL.kid2 (k := 2) (s := [120]) (c := 0) (ks := []) (k' := 2) (s' := [43]) (c' := 0) (ks' := []) (Blk.new w 24 _) (by decide) (by decide) (.nil _ _) (.nil _ _);refine (mkExport_any xplus _ _ hp (by decide) (by decide +kernel) (fun _ => by decide +kernel)).mono ?_;rintro _ w1 ⟨rfl, hf⟩;rw [HS.out, HE.out];have HF := hid (Touch.pre hf);clear hp hf;unfold xplusT;go_wp2_with fail
 go_ret;exact ⟨ret_bool' _ _ (by decide), HF.out⟩
end Go.Proofs.Ytloipakdnalpdaa
namespace Go.Proofs.Ytloipakdnalpdaa
open Go.ChangeShapes Go.WideShapes Go.ChangeAt Go.RowKit
inductive RepC (W : World) : List Tr.Nd → Value → Prop
 | nil (A : Option Addr) (cap : Nat) : RepC W [] (.slice A 0 cap)
 | row (g o cap : Nat) (ks : List Tr.Nd) (sl : Nat → Value) (hg : g < W.heap.size) (hl : ks.length ≤ maxLen) (ht : ∀ i (hi : i < ks.length), ks[i].text.length ≤ maxLen)
   (h0 : ∀ i (hi : i < ks.length), W.cell? ⟨g, o + i * 4, none⟩ = some (.int .i64 ks[i].kind))
   (h1 : ∀ i (hi : i < ks.length), W.cell? ⟨g, o + i * 4 + 1, none⟩ = some (.string ⟨ks[i].text.toArray⟩))
   (h2 : ∀ i (hi : i < ks.length), W.cell? ⟨g, o + i * 4 + 2, none⟩ = some (.int .i64 ks[i].cols))
   (h3 : ∀ i, i < ks.length → W.cell? ⟨g, o + i * 4 + 3, none⟩ = some (sl i))
   (hk : ∀ i (hi : i < ks.length), RepC W ks[i].kids (sl i)) (hc : ks.length ≤ cap) (hm : cap ≤ maxLen) : RepC W ks (.slice (some ⟨g, o, none⟩) ks.length cap)
theorem RepC.fresh {W W' : World} {ks : List Tr.Nd} {v : Value} (h : RepC W ks v) (hf : Fresh W W') : RepC W' ks v := by
 induction h with
 | nil A cap => exact .nil A cap
 | row g o cap ks sl hg hl ht h0 h1 h2 h3 hk hc hm ih =>
  exact .row g o cap ks sl (Nat.lt_of_lt_of_le hg hf.size) hl ht (fun i hi => hf.cell (h0 i hi) (fun h => h)) (fun i hi => hf.cell (h1 i hi) (fun h => h)) (fun i hi => hf.cell (h2 i hi) (fun h => h)) (fun i hi => hf.cell (h3 i hi) (fun h => h)) ih hc hm
theorem RepC.rep {W : World} {ks : List Tr.Nd} {v : Value} (h : RepC W ks v) : RepL W ks v := by
 induction h with
 | nil A cap => exact .nil A cap
 | row g o cap ks sl hg hl ht h0 h1 h2 h3 hk hc hm ih => exact .row g o cap ks sl hg hl ht h0 h1 h2 h3 ih
theorem RepC.slice {W : World} {ks : List Tr.Nd} {v : Value} (h : RepC W ks v) : ∃ A cap, v = .slice A ks.length cap := h.rep.slice
theorem RepC.len {W : World} {ks : List Tr.Nd} {v : Value} (h : RepC W ks v) : ks.length ≤ maxLen := h.rep.len
theorem RepC.texts {W : World} {ks : List Tr.Nd} {v : Value} (h : RepC W ks v) (i : Nat) (hi : i < ks.length) : ks[i].text.length ≤ maxLen := h.rep.texts i hi
theorem RepC.get {W : World} {ks : List Tr.Nd} {A : Option Addr} {len cap : Nat} (h : RepC W ks (.slice A len cap)) (i : Nat) (hi : i < ks.length) :
  ∃ g o sl, A = some ⟨g, o, none⟩ ∧ g < W.heap.size ∧ W.cell? ⟨g, o + i * 4, none⟩ = some (.int .i64 ks[i].kind) ∧ W.cell? ⟨g, o + i * 4 + 1, none⟩ = some (.string ⟨ks[i].text.toArray⟩) ∧
   W.cell? ⟨g, o + i * 4 + 2, none⟩ = some (.int .i64 ks[i].cols) ∧ W.cell? ⟨g, o + i * 4 + 3, none⟩ = some sl ∧ RepC W ks[i].kids sl := by
 generalize hv : Value.slice A len cap = v at h;cases h with
 | nil A cap => simp at hi
 | row g o cap _ sl hg hl ht h0 h1 h2 h3 hk =>
  cases hv;exact ⟨g, o, sl i, rfl, hg, h0 i hi, h1 i hi, h2 i hi, h3 i hi, hk i hi⟩
theorem RepC.cap {W : World} {ks : List Tr.Nd} {A : Option Addr} {len cap : Nat} (h : RepC W ks (.slice A len cap)) (hne : 0 < ks.length) : ks.length ≤ cap ∧ cap ≤ maxLen := by
 generalize hv : Value.slice A len cap = v at h;cases h with
 | nil A cap => simp at hne
 | row g o cap _ sl hg hl ht h0 h1 h2 h3 hk hc hm => cases hv; exact ⟨hc, hm⟩
theorem RepC.sub {W : World} {ks : List Tr.Nd} {g o len cap : Nat} (h : RepC W ks (.slice (some ⟨g, o, none⟩) len cap)) (i c cap' : Nat) (hi : i + c ≤ ks.length) (hc : c ≤ cap') (hm : cap' ≤ maxLen) : RepC W ((ks.drop i).take c) (.slice (some ⟨g, o + i * 4, none⟩) c cap') := by
 have hlen : ((ks.drop i).take c).length = c := by rw [List.length_take, List.length_drop]; omega
 cases Nat.eq_zero_or_pos c with
 | inl h0 => subst h0; rw [List.take_zero]; exact .nil _ _
 | inr hpos =>
  generalize hv : Value.slice (some ⟨g, o, none⟩) len cap = v at h;cases h with
  | nil A cap => simp at hi; omega
  | row g o cap _ sl hg hl ht h0 h1 h2 h3 hk hc' hm' =>
   cases hv;have e : ∀ k (hk : k < ((ks.drop i).take c).length), ((ks.drop i).take c)[k] = ks[i + k]'(by rw [hlen] at hk; omega) := fun k hk => by simp
   have a : ∀ k, o + i * 4 + k * 4 = o + (i + k) * 4 := fun k => by omega
   have := RepC.row (W := W) g (o + i * 4) cap' ((ks.drop i).take c) (fun k => sl (i + k)) hg (by rw [hlen]; omega) (fun k hk => by rw [e k hk]; exact ht _ _) (fun k hk => by rw [e k hk, a]; exact h0 _ _) (fun k hk => by rw [e k hk, a]; exact h1 _ _) (fun k hk => by rw [e k hk, a]; exact h2 _ _)
    (fun k hk => by rw [a]; exact h3 _ (by rw [hlen] at hk; omega)) (fun k hk => by rw [e k hk]; exact ‹∀ i (hi : i < ks.length), RepC W ks[i].kids (sl i)› _ _) (by rw [hlen]; exact hc) hm
   rw [hlen] at this;exact this
section
variable {H : Type} {enc : TypeId × Value → H}
theorem open_nodesC {w : World} {base : Nat} {sp : Nat → Bool} {hd : Bool} : ∀ (fuel : Nat) (cs : List Value) (y : DataW H × List MemPlace), DataW.trod enc Try.prog w base sp hd fuel 22 cs = some y → ∃ ks v, cs = [v] ∧ RepC w ks v := by
 intro fuel
 induction fuel using Nat.strongRecOn with
 | _ fuel ih =>
  intro cs y h
  rcases DataW.trod_slice Try.underlying22 h with ⟨rfl, _⟩ | ⟨a, len, cap, elems, rest, n, hn, rfl, _, hb, hl, hm, hlen, hel, _, _⟩
  ·exact ⟨[], _, rfl, .nil _ _⟩
  ·have hC : Try.prog.cellsOf 24 = 4 := by kernel_rfl
   rw [hC] at hel
   have each : ∀ i, i < len → ∃ (t : Tr.Nd) (sl : Value), a.spot = none ∧ a.block < w.heap.size ∧ w.cell? ⟨a.block, a.off + i * 4, none⟩ = some (.int .i64 t.kind) ∧ w.cell? ⟨a.block, a.off + i * 4 + 1, none⟩ = some (.string ⟨t.text.toArray⟩) ∧
     w.cell? ⟨a.block, a.off + i * 4 + 2, none⟩ = some (.int .i64 t.cols) ∧ w.cell? ⟨a.block, a.off + i * 4 + 3, none⟩ = some sl ∧ RepC w t.kids sl ∧ t.text.length ≤ maxLen := by
    intro i hi;have h0 := hel i hi;rw [List.getElem?_eq_getElem (by omega), Option.bind_eq_some_iff] at h0;obtain ⟨cs', hcs, hy⟩ := h0;obtain ⟨c0, c1, c2, c3, rfl, hs, hlt, e0, e1, e2, e3⟩ := cells4 hcs;obtain ⟨k, c, s, m, z, hm', rfl, rfl, rfl, hsz, hz⟩ := open_node4 hy;obtain ⟨ks, v, hv, hr⟩ := ih m (by omega) _ _ hz;cases hv
    have hsp : a.spot = none ∨ 0 < i := by
     rcases Nat.eq_zero_or_pos i with h | h
     ·subst h; left; simpa [Addr.add] using hs
     ·exact .inr h
    have hblk : (a.add (i * 4)).block = a.block := by unfold Addr.add; split <;> rfl
    have hoff : (a.add (i * 4)).off = a.off + i * 4 := by
     unfold Addr.add;split
     ·omega
     ·rfl
    rw [hblk, hoff] at e0 e1 e2 e3;rw [hblk] at hlt
    have hs0 : a.spot = none := by
     rcases hsp with h | h
     ·exact h
     ·have h00 := hel 0 (by omega)
      rw [List.getElem?_eq_getElem (by omega), Option.bind_eq_some_iff] at h00;obtain ⟨cs0, hcs0, _⟩ := h00;obtain ⟨_, _, _, _, _, hs', _⟩ := cells4 hcs0;simpa [Addr.add] using hs'
    exact ⟨.mk k s.data.toList c ks, c3, hs0, hlt, e0, e1, e2, e3, hr, by show s.data.toList.length ≤ maxLen; simpa using hsz⟩
   cases hl0 : len with
   | zero => subst hl0; exact ⟨[], _, rfl, .nil _ _⟩
   | succ l =>
    rw [← hl0];have hpos : 0 < len := by omega
    have he : ∃ f : Nat → Tr.Nd × Value, ∀ i, i < len → w.cell? ⟨a.block, a.off + i * 4, none⟩ = some (.int .i64 (f i).1.kind) ∧ w.cell? ⟨a.block, a.off + i * 4 + 1, none⟩ = some (.string ⟨(f i).1.text.toArray⟩) ∧
     w.cell? ⟨a.block, a.off + i * 4 + 2, none⟩ = some (.int .i64 (f i).1.cols) ∧ w.cell? ⟨a.block, a.off + i * 4 + 3, none⟩ = some (f i).2 ∧ RepC w (f i).1.kids (f i).2 ∧ (f i).1.text.length ≤ maxLen := by
     refine ⟨fun i => if h : i < len then ⟨Classical.choose (each i h), Classical.choose (Classical.choose_spec (each i h))⟩ else ⟨.mk 0 [] 0 [], .bool false⟩, fun i hi => ?_⟩;simp only [dif_pos hi];exact (Classical.choose_spec (Classical.choose_spec (each i hi))).2.2
    obtain ⟨f, hf⟩ := he;obtain ⟨_, _, hs, hlt, _⟩ := each 0 hpos;obtain ⟨g, o, s⟩ := a;simp only at hs hlt hf;subst hs;have hln : ((List.range len).map fun i => (f i).1).length = len := by simp
    refine ⟨(List.range len).map fun i => (f i).1, _, rfl, ?_⟩
    have := RepC.row (W := w) g o cap ((List.range len).map fun i => (f i).1) (fun i => (f i).2) hlt (by rw [hln]; omega) (fun i hi => by simpa using (hf i (by simpa using hi)).2.2.2.2.2)
     (fun i hi => by simpa using (hf i (by simpa using hi)).1) (fun i hi => by simpa using (hf i (by simpa using hi)).2.1) (fun i hi => by simpa using (hf i (by simpa using hi)).2.2.1)
     (fun i hi => by simpa using (hf i (by simpa using hi)).2.2.2.1) (fun i hi => by simpa using (hf i (by simpa using hi)).2.2.2.2.1) (by rw [hln]; exact hl) (by first | exact hm | omega)
    rw [hln] at this;exact this
theorem open_nodeC {w : World} {base b0 : Nat} {sp : Nat → Bool} {hd : Bool} {v : Value} {d : DataW H} {p : List MemPlace} (hv : Value.okWide Try.prog w .any b0 24 v) (h : DataW.Trod enc Try.prog w base sp hd 24 v d p) :
  ∃ (n : Tr.Nd) (sl : Value), v = .agg #[.int .i64 n.kind, .string ⟨n.text.toArray⟩, .int .i64 n.cols, sl] ∧ RepC w n.kids sl ∧ n.text.length ≤ maxLen := by
 obtain ⟨cs, rfl, hsz⟩ := okWide_struct Try.underlying24 hv;have hC : Try.prog.cellsOf 24 = 4 := by kernel_rfl
 rw [hC] at hsz;obtain ⟨fuel, hf⟩ := h;obtain ⟨l, rfl⟩ : ∃ l : List Value, cs = l.toArray := ⟨cs.toList, by simp⟩
 match l, hsz with
 | [c0, c1, c2, c3], _ =>
  obtain ⟨k, c, s, m, z, _, rfl, rfl, rfl, hsz, hz⟩ := open_node4 hf;obtain ⟨ks, v, hv, hr⟩ := open_nodesC m _ _ hz;cases hv;exact ⟨.mk k s.data.toList c ks, c3, rfl, hr, by show s.data.toList.length ≤ maxLen; simpa using hsz⟩
end
end Go.Proofs.Ytloipakdnalpdaa
namespace Go.Proofs.Ytloipakdnalpdaa
open Go.RowKit
open Tr (Nd)
open El (E elE elK mrow)
attribute [local go_sem] stillV stillUpon
def MakesL (w w' : World) (es : List E) (v : Value) : Prop := Fresh w w' ∧ Stab (fun k => k < w.heap.size) w' fun W => RepE W es v
def ReItemC (n : Nd) : Prop := ∀ (sl : Value) (w : World), Tr.count n ≤ 100000 → RepC w n.kids sl → Calls Try.prog 33 #[nv n sl] w fun e w' => ∃ v, e = .returned v ∧ MakesE w w' (elE n) v
def ReElsC (ks : List Nd) : Prop := ∀ (sl : Value) (w : World), Tr.countL ks ≤ 100000 → RepC w ks sl → Calls Try.prog 22 #[sl] w fun e w' => ∃ v, e = .returned v ∧ MakesL w w' (elK ks) v
def ReRowsC (ks : List Nd) : Prop := ∀ (nm : List UInt8) (sl : Value) (w : World), nm.length ≤ maxLen → Tr.countL ks ≤ 100000 → RepC w ks sl → Calls Try.prog 59 #[.string ⟨nm.toArray⟩, sl] w fun e w' => ∃ v, e = .returned v ∧ MakesL w w' (rowsE nm ks) v
theorem reels_any (ks : List Nd) (ih : ∀ x ∈ ks, ReItemC x) : ReElsC ks := by
 intro sl w hcl hsl;obtain ⟨A, cap, rfl⟩ := hsl.slice;have hkl := Tr.countL_len ks;have HSL := hid hsl;have HIH := hid ih;have HG0 := hid (show GrowE w.heap.size w ((elK ks).take 0) (.slice none 0 0) by rw [List.take_zero]; exact GrowE.nil (Nat.le_refl _));clear hsl ih;go_enter Try.func22, Try.ntmps22;go_wp2_with fail
 go_loopw [3, 4] (fun x i wr => ∃ (j : Nat) (Ao : Option Addr) (co : Nat), i = .int .i64 j ∧ x = .slice Ao j co ∧ j ≤ ks.length ∧ Hid (GrowE w.heap.size wr ((elK ks).take j) (.slice Ao j co)) ∧ Hid (Fresh w wr)) (fun _ i _ => ks.length - (intOf i).toNat)
 case atStart => exact ⟨0, none, 0, rfl, rfl, Nat.zero_le _, HG0, Touch.refl _ _⟩
 case round =>
  obtain ⟨j, Ao, co, rfl, rfl, hj, HG, HF⟩ := hrel;rename_i wr _
  by_cases c1 : j < ks.length
  ·have d1 : decide ((j : Int) < (ks.length : Int)) = true := dT (by omega)
   have d1n : decide (j < ks.length) = true := dT c1;have d1' : (j : Int) < (ks.length : Int) := by omega
   obtain ⟨g, o, sx, hA, hg, m0, m1, m2, m3, hrx⟩ := HSL.out.get j c1;cases hA;obtain ⟨Ax, cx, rfl⟩ := hrx.slice;have e0 := HF.out.cell m0 (fun h => h);have e1 := HF.out.cell m1 (fun h => h);have e2 := HF.out.cell m2 (fun h => h);have e3 := HF.out.cell m3 (fun h => h);have hgl : g < wr.heap.size := Nat.lt_of_lt_of_le hg HF.out.size;have HRX := hid (hrx.fresh HF.out);have HMEM := hid (List.getElem_mem c1);have HLN := hid (show ((elK ks).take j).length = j by rw [List.length_take, elK_len]; omega);have HOW := hid HG.out.own_lt;have HB := hid HG.out.base;have HCX := hid (show Tr.count ks[j] ≤ 100000 by have := Tr.count_mem HMEM.out; omega);clear m0 m1 m2 m3 hg hrx;go_wp2_with fail
   refine (HIH.out ks[j] HMEM.out _ _ HCX.out HRX.out).mono ?_;rintro _ w6 ⟨v6, rfl, va, vk, rfl, hf6, hst6⟩;obtain ⟨Aa, ca, rfl⟩ := hst6.now.1.slice;obtain ⟨Ak, ck, rfl⟩ := hst6.now.2.1.slice;have HF6 := hid hf6;have HST6 := hid hst6;clear hf6 hst6;have HBV := hid (show Blk (w6.alloc (.cells #[.string ⟨(elE ks[j]).name.toArray⟩, .slice Aa (elE ks[j]).attrs.length ca, .slice Ak (elE ks[j]).kids.length ck, .string ⟨(elE ks[j]).text.toArray⟩] 30)) w6.heap.size 30 #[.string ⟨(elE ks[j]).name.toArray⟩, .slice Aa (elE ks[j]).attrs.length ca, .slice Ak (elE ks[j]).kids.length ck, .string ⟨(elE ks[j]).text.toArray⟩] from Blk.new w6 30 _);have HF7 := hid (HF6.out.alloc (.cells #[.string ⟨(elE ks[j]).name.toArray⟩, .slice Aa (elE ks[j]).attrs.length ca, .slice Ak (elE ks[j]).kids.length ck, .string ⟨(elE ks[j]).text.toArray⟩] 30));have HST7 := hid (HST6.out.fresh ((Touch.refl _ w6).alloc (.cells #[.string ⟨(elE ks[j]).name.toArray⟩, .slice Aa (elE ks[j]).attrs.length ca, .slice Ak (elE ks[j]).kids.length ck, .string ⟨(elE ks[j]).text.toArray⟩] 30)))
   go_wp2_with (at_builtin; go_loud (refine wpList_append_elem rfl (.tmp 11) (.tmp 17) rfl (HG.out.fresh HF7.out) HLN.out (by simp [Act.eval]) (elE ks[j]) HBV.out (by simp [Act.eval]) wr.heap.size HB.out (fun k hk => (HOW.out k hk).2) HST7.out (by omega) ?_); intro A8 c8 w8 hg8 ht8 _; refine Stay.mk ?_)
   have HG8 := hid hg8;have HF8 := hid (show Fresh w w8 from (HF.out.trans HF7.out).trans' ht8 fun k hk => .inr (HOW.out _ hk).1);clear hg8 ht8;refine Stay.go ?_;go_wp2_with fail
   have hg9 := HG8.out;rw [elK_take ks j c1] at hg9;exact ⟨⟨j + 1, A8, c8, by simp, rfl, by omega, hg9, HF8⟩, by simp [intOf]; omega⟩
  ·have d1 : decide ((j : Int) < (ks.length : Int)) = false := dF (by omega)
   have d1n : decide (j < ks.length) = false := dF c1;obtain rfl : j = ks.length := by omega
   have hg9 := HG.out;rw [List.take_of_length_le (by rw [elK_len]; exact Nat.le_refl _)] at hg9;have HG9 := hid hg9;clear hg9;go_wp2_with fail
   go_ret;exact ⟨_, rfl, HF.out, HG9.out.done⟩
theorem rerows_any (ks : List Nd) (ih : ∀ x ∈ ks, ReElsC x.kids) : ReRowsC ks := by
 intro nm sl w hnm hcl hsl;obtain ⟨A, cap, rfl⟩ := hsl.slice;have hkl := Tr.countL_len ks;have HSL := hid hsl;have HIH := hid ih;have HG0 := hid (show GrowE w.heap.size w ((rowsE nm ks).take 0) (.slice none 0 0) by rw [List.take_zero]; exact GrowE.nil (Nat.le_refl _));clear hsl ih;go_enter Try.func59, Try.ntmps59;go_wp2_with fail
 go_loopw [5, 6] (fun x i wr => ∃ (j : Nat) (Ao : Option Addr) (co : Nat), i = .int .i64 j ∧ x = .slice Ao j co ∧ j ≤ ks.length ∧ Hid (GrowE w.heap.size wr ((rowsE nm ks).take j) (.slice Ao j co)) ∧ Hid (Fresh w wr)) (fun _ i _ => ks.length - (intOf i).toNat)
 case atStart => exact ⟨0, none, 0, rfl, rfl, Nat.zero_le _, HG0, Touch.refl _ _⟩
 case round =>
  obtain ⟨j, Ao, co, rfl, rfl, hj, HG, HF⟩ := hrel;rename_i wr _
  by_cases c1 : j < ks.length
  ·have d1 : decide ((j : Int) < (ks.length : Int)) = true := dT (by omega)
   have d1n : decide (j < ks.length) = true := dT c1;have d1' : (j : Int) < (ks.length : Int) := by omega
   obtain ⟨g, o, sx, hA, hg, m0, m1, m2, m3, hrx⟩ := HSL.out.get j c1;cases hA;obtain ⟨Ax, cx, rfl⟩ := hrx.slice;have e0 := HF.out.cell m0 (fun h => h);have e1 := HF.out.cell m1 (fun h => h);have e2 := HF.out.cell m2 (fun h => h);have e3 := HF.out.cell m3 (fun h => h);have hgl : g < wr.heap.size := Nat.lt_of_lt_of_le hg HF.out.size;have HRX := hid (hrx.fresh HF.out);have HMEM := hid (List.getElem_mem c1);have HLN := hid (show ((rowsE nm ks).take j).length = j by rw [List.length_take, rowsE_len]; omega);have HOW := hid HG.out.own_lt;have HB := hid HG.out.base;have HCX := hid (show Tr.count ks[j] ≤ 100000 by have := Tr.count_mem HMEM.out; omega);clear m0 m1 m2 m3 hg hrx;go_wp2_with fail
   refine (HIH.out ks[j] HMEM.out _ _ (by have := HCX.out; have := Tr.count_kids ks[j]; omega) HRX.out).mono ?_;rintro _ w6 ⟨vk, rfl, hf6, hst6⟩;obtain ⟨Ak, ck, rfl⟩ := hst6.now.slice;have HF6 := hid hf6;have HST6 := hid (show Stab (fun k => k < wr.heap.size) w6 fun W => RepV W (mrow nm (elK ks[j].kids)) (.slice none 0 0) (.slice Ak (elK ks[j].kids).length ck) from hst6.imp fun W h => ⟨RepA.nil _ _ _, h, hnm, Nat.zero_le _⟩);clear hf6 hst6;have HBV := hid (show Blk (w6.alloc (.cells #[.string ⟨nm.toArray⟩, .slice none 0 0, .slice Ak (elK ks[j].kids).length ck, .string ⟨#[]⟩] 30)) w6.heap.size 30 #[.string ⟨(mrow nm (elK ks[j].kids)).name.toArray⟩, .slice none 0 0, .slice Ak (elK ks[j].kids).length ck, .string ⟨(mrow nm (elK ks[j].kids)).text.toArray⟩] from Blk.new w6 30 _);have HF7 := hid (HF6.out.alloc (.cells #[.string ⟨nm.toArray⟩, .slice none 0 0, .slice Ak (elK ks[j].kids).length ck, .string ⟨#[]⟩] 30));have HST7 := hid (HST6.out.fresh ((Touch.refl _ w6).alloc (.cells #[.string ⟨nm.toArray⟩, .slice none 0 0, .slice Ak (elK ks[j].kids).length ck, .string ⟨#[]⟩] 30)))
   go_wp2_with (at_builtin; go_loud (refine wpList_append_elem rfl (.tmp 13) (.tmp 22) rfl (HG.out.fresh HF7.out) HLN.out (by simp [Act.eval]) (mrow nm (elK ks[j].kids)) HBV.out (by simp [Act.eval]) wr.heap.size HB.out (fun k hk => (HOW.out k hk).2) HST7.out (by omega) ?_); intro A8 c8 w8 hg8 ht8 _; refine Stay.mk ?_)
   have HG8 := hid hg8;have HF8 := hid (show Fresh w w8 from (HF.out.trans HF7.out).trans' ht8 fun k hk => .inr (HOW.out _ hk).1);clear hg8 ht8;refine Stay.go ?_;go_wp2_with fail
   have hg9 := HG8.out;rw [rowsE_take nm ks j c1] at hg9;exact ⟨⟨j + 1, A8, c8, by simp, rfl, by omega, hg9, HF8⟩, by simp [intOf]; omega⟩
  ·have d1 : decide ((j : Int) < (ks.length : Int)) = false := dF (by omega)
   have d1n : decide (j < ks.length) = false := dF c1;obtain rfl : j = ks.length := by omega
   have hg9 := HG.out;rw [List.take_of_length_le (by rw [rowsE_len]; exact Nat.le_refl _)] at hg9;have HG9 := hid hg9;clear hg9;go_wp2_with fail
   go_ret;exact ⟨_, rfl, HF.out, HG9.out.done⟩
end Go.Proofs.Ytloipakdnalpdaa
