/- Part 34 of 35 of a proof; its texts, joined: MkG, MkH, XmI, MoL, MnG, MoM. No condition. -/
import Derived.Test.YtnbeemkfmlfgfaaGreatDoorYa33
import Derived.Test.YtnbeemkfmlfgfaaGreatDoorYa31
import Derived.Test.YtnbeemkfmlfgfaaGreatDoorYa22
import Derived.Test.YtnbeemkfmlfgfaaGreatDoorYa12
import Derived.Test.YtnbeemkfmlfgfaaGreatDoorYa26
import Derived.Test.YtnbeemkfmlfgfaaGreatDoorYa13
import Derived.OwnWalk
set_option maxRecDepth 100000
set_option maxHeartbeats 1000000
namespace Go.Proofs.YtnbeemkfmlfgfaaGreatDoor
open Go.RowKit
open Tr (Nd)
open El (E elE elK mrow)
theorem text_le (k : Int) (s : List UInt8) (h : Tr.textOK k s = true) : s.length ≤ 200 := by
 unfold Tr.textOK at h;split at h
 ·unfold Tr.symbol at h
  split at h
  ·simp
  ·simp only [Bool.and_eq_true, decide_eq_true_eq] at h; omega
 split at h
 ·unfold Tr.isNum at h
  simp only [Bool.and_eq_true, decide_eq_true_eq] at h;omega
 split at h
 ·simp only [Bool.and_eq_true, decide_eq_true_eq] at h; omega
 split at h
 ·have hm := List.contains_iff_mem.1 h
  simp only [Tr.accents, List.mem_cons, List.not_mem_nil, or_false] at hm
  rcases hm with rfl | rfl | rfl | rfl | rfl | rfl <;> decide
 split at h
 ·unfold Tr.fence at h
  split at h
  ·simp
  ·cases h
 ·rw [List.isEmpty_iff.1 h]; simp
theorem formL_mem (r : Bool) : ∀ (l : List Nd), Tr.formL r l = true → ∀ x ∈ l, ((x.kind == 1) != r) = true ∧ Tr.form x = true
 | [], _, x, hx => by cases hx
 | y :: l, h, x, hx => by
  rw [Tr.formL, Bool.and_eq_true, Bool.and_eq_true] at h
  rcases List.mem_cons.1 hx with rfl | hx
  ·exact h.1
  ·exact formL_mem r l h.2 x hx
theorem mkE_rows (n : Nd) (k : Int) (nm : List UInt8) (hk : n.kind = k) (h : ∀ t c ss, El.mkE k t c ss = .mk nm [] (ss.map (mrow El.nMrow)) []) : elE n = mrow nm (rowsE El.nMrow n.kids) := by
 rw [El.elE_eq, hk, h, El.slotsE_map, List.map_map];rfl
theorem element_any (m : Nat) : ∀ n, Tr.count n ≤ m → Tr.form n = true → (n.kind == 1) = false → ElementC n := by
 induction m with
 | zero => intro n h; have := Tr.count_pos n; omega
 | succ m ih =>
  intro n hm hf hk1;rw [Tr.form_eq, Bool.and_eq_true, Bool.and_eq_true, hk1] at hf;obtain ⟨⟨ht, hkk⟩, hfl⟩ := hf;have htx : n.text.length ≤ maxLen := Nat.le_trans (text_le _ _ ht) (by decide)
  have hrow : ∀ x ∈ n.kids, RowC x := fun x hx => mkrow_any x fun y hy => by
   obtain ⟨h1, h2⟩ := formL_mem _ _ hfl x hx;rw [Tr.form_eq, Bool.and_eq_true] at h2;have hx1 : (x.kind == 1) = true := by simpa using h1
   rw [hx1] at h2;obtain ⟨h3, h4⟩ := formL_mem _ _ h2.2 y hy;have c1 := Tr.count_mem hx;have c2 := Tr.count_mem hy;have c3 := Tr.count_kids n;have c4 := Tr.count_kids x;exact ih y (by omega) h4 (by simpa using h3)
  intro sl w hc hsl;unfold Tr.kidsOK at hkk
  by_cases h12 : n.kind = 12
  ·rw [if_pos h12] at hkk
   simp only [Bool.and_eq_true, decide_eq_true_eq] at hkk;exact el_matrix n h12 htx n.cols.toNat (by omega) (by omega) hrow sl w hc hsl
  rw [if_neg h12] at hkk;split at hkk
  ·cases hkk
  split at hkk
  ·rename_i h1
   rw [h1] at hk1;cases hk1
  split at hkk
  ·rename_i h
   rcases h with h | h | h
   ·cases hl : El.lett n.text with
    | true => exact el_sym_true n h htx hl sl w hc hsl
    | false => exact el_sym_false n h htx hl sl w hc hsl
   ·exact el_mn n h htx sl w hc hsl
   ·exact el_mtext n h htx sl w hc hsl
  split at hkk
  ·rename_i h
   have h2 : n.kids.length = 2 := by simpa using hkk
   rcases h with h | h | h | h
   ·exact el_rows n El.nMfrac 5 (by simp [rkL]) h (mkE_rows n 5 _ h fun _ _ _ => rfl) hrow sl w hc hsl
   ·obtain ⟨a, b, hks⟩ : ∃ a b, n.kids = [a, b] := by
     match hh : n.kids, h2 with
     | [a, b], _ => exact ⟨a, b, rfl⟩
    by_cases ha : a.kids = []
    ·exact el_sqrt n a b h hks htx ha (hrow b (by rw [hks]; simp)) sl w hc hsl
    ·exact el_root n a b h hks htx ha (hrow a (by rw [hks]; simp)) (hrow b (by rw [hks]; simp)) sl w hc hsl
   ·exact el_rows n El.nMsub 7 (by simp [rkL]) h (mkE_rows n 7 _ h fun _ _ _ => rfl) hrow sl w hc hsl
   ·exact el_rows n El.nMsup 8 (by simp [rkL]) h (mkE_rows n 8 _ h fun _ _ _ => rfl) hrow sl w hc hsl
  split at hkk
  ·rename_i h
   exact el_rows n El.nMsubsup 9 (by simp [rkL]) h (mkE_rows n 9 _ h fun _ _ _ => rfl) hrow sl w hc hsl
  split at hkk
  ·rename_i h
   have h1 : n.kids.length = 1 := by simpa using hkk
   obtain ⟨a, hks⟩ := List.length_eq_one_iff.1 h1
   rcases h with h | h
   ·exact el_accent n a h hks htx (hrow a (by rw [hks]; simp)) sl w hc hsl
   ·have h2 : n.text.length = 2 := by
     rw [h] at ht;have ht' : Tr.fence n.text = true := ht;unfold Tr.fence at ht';split at ht'
     ·rename_i hx; rw [hx]; rfl
     ·cases ht'
    exact el_fence n a h hks htx (hrow a (by rw [hks]; simp)) h2 _ _ rfl rfl sl w hc hsl
  ·cases hkk
theorem row_any_k (n : Nd) (hf : Tr.form n = true) (hk : (n.kind == 1) = true) : RowC n := mkrow_any n fun y hy => by
 rw [Tr.form_eq, Bool.and_eq_true, hk] at hf;obtain ⟨h3, h4⟩ := formL_mem _ _ hf.2 y hy;exact element_any _ y (Nat.le_refl _) h4 (by simpa using h3)
end Go.Proofs.YtnbeemkfmlfgfaaGreatDoor
namespace Go.Proofs.YtnbeemkfmlfgfaaGreatDoor
open Go.RowKit
open Tr (Nd)
open El (E elE elK mrow)
attribute [local go_sem] stillV stillUpon
def elNil : E := .mk [] [] [] []
def markE (n : Nd) : E := if Tr.valid n then El.elM n else elNil
def markEr (n : Nd) : Int := if Tr.valid n then 0 else 1
theorem elNil_made (w w' : World) (hf : Fresh w w') : MakesE w w' elNil (.agg #[.string ⟨#[]⟩, .slice none 0 0, .slice none 0 0, .string ⟨#[]⟩]) :=
 ⟨_, _, rfl, hf, fun _ _ => ⟨RepA.nil _ _ _, .nil _ _, Nat.zero_le _, Nat.zero_le _⟩⟩
theorem mkEl_any (n : Nd) (sl : Value) (w : World) (hr : RepL w n.kids sl) (ht : n.text.length ≤ maxLen) (hc : Tr.count n ≤ 1000) :
  Calls Tryz.prog 22 #[nv n sl] w fun e w' => ∃ v, e = .returned (.tuple #[v, .int .i64 (markEr n)]) ∧ MakesE w w' (markE n) v := by
 obtain ⟨A, cap, rfl⟩ := hr.slice;have HV := hid (fun (w : World) (hr : RepL w n.kids (.slice A n.kids.length cap)) => valid_call n _ w hr ht (by omega));have HR := hid hr;have HC := hid hc;clear hr hc;cases hv : Tr.valid n with
 | false =>
  have HS := hid (show markE n = elNil from by unfold markE; rw [hv]; rfl);have HE := hid (show markEr n = 1 from by unfold markEr; rw [hv]; rfl);rw [HS.out, HE.out];go_enter Tryz.func22, Tryz.ntmps22;go_wp2_with fail
  refine (HV.out _ (HR.out.fresh (((Touch.refl _ _).alloc _).alloc _))).mono ?_;rintro _ w1 ⟨rfl, hf⟩;have HF := hid (Touch.pre (Touch.pre hf));have hb1 := hf.blk (Blk.new2 _ _ _ _) (fun h => h);obtain ⟨q0, q1, q2, q3, f0, f1, f2, f3, hg⟩ := Blk.four hb1;have HB := hid hb1;clear hf hb1;go_wp2_with fail
  obtain ⟨r0, r1, r2, r3, _, _, _, _, _⟩ := Blk.four (HB.out.self4 (.string ⟨#[]⟩) (.slice none 0 0) (.slice none 0 0) (.string ⟨#[]⟩));simp only [put4] at r0 r1 r2 r3;refine bodyPost_ret (v := .tuple #[.agg #[.string ⟨#[]⟩, .slice none 0 0, .slice none 0 0, .string ⟨#[]⟩], .int .i64 1]) (by simp [results, Tryz.results22, go_sem, r0, r1, r2, r3]) rfl ?_;exact ⟨_, rfl, elNil_made _ _ (Touch.put4 HF.out (.inr (by omega)) _ _ _ _)⟩
 | true =>
  have HS := hid (show markE n = El.elM n from by unfold markE; rw [hv]; rfl);have HE := hid (show markEr n = 0 from by unfold markEr; rw [hv]; rfl);have hv' := hv;unfold Tr.valid at hv';simp only [Bool.and_eq_true] at hv';have HROW := hid (row_any_k n (by simp_all) (by simp_all));clear hv';rw [HS.out, HE.out];go_enter Tryz.func22, Tryz.ntmps22;go_wp2_with fail
  refine (HV.out _ (HR.out.fresh (((Touch.refl _ _).alloc _).alloc _))).mono ?_;rintro _ w1 ⟨rfl, hf⟩;have HF := hid (Touch.pre (Touch.pre hf));have hb1 := hf.blk (Blk.new2 _ _ _ _) (fun h => h);have hb0 := hf.blk ((Blk.new _ _ _).alloc _) (fun h => h);obtain ⟨p0, p1, p2, p3, _, _, _, _, _⟩ := Blk.four hb0;have HB := hid hb1;clear hf hb1 hb0;go_wp2_with fail
  refine (HROW.out El.nMath (.slice A n.kids.length cap) w1 (by decide) (by have := HC.out; omega) (HR.out.fresh HF.out)).mono ?_;rintro _ w2 ⟨v, rfl, va, vk, hev, hf2, hst⟩;replace hev : v = .agg #[.string ⟨El.nMath.toArray⟩, va, vk, .string ⟨#[]⟩] := hev;subst hev;obtain ⟨Aa, ca, hva⟩ := hst.now.1.slice;obtain ⟨Ak, ck, hvk⟩ := hst.now.2.1.slice;replace hva : va = .slice Aa 0 ca := hva;replace hvk : vk = .slice Ak (elK n.kids).length ck := hvk;subst hva;subst hvk;have HF2 := hid (HF.out.trans hf2);have HB2 := hid (hf2.blk HB.out fun h => h);have HST := hid hst;have HL := hid HB.out.lt;have HS1 := hid HF.out.size;clear hf2 hst p0 p1 p2 p3;obtain ⟨q0, q1, q2, q3, f0, f1, f2, f3, hg⟩ := Blk.four HB2.out;go_wp2_with fail
  obtain ⟨r0, r1, r2, r3, _, _, _, _, _⟩ := Blk.four (HB2.out.self4 (.string ⟨El.nMath.toArray⟩) (.slice Aa 0 ca) (.slice Ak (elK n.kids).length ck) (.string ⟨#[]⟩));simp only [put4] at r0 r1 r2 r3;refine bodyPost_ret (v := .tuple #[.agg #[.string ⟨El.nMath.toArray⟩, .slice Aa 0 ca, .slice Ak (elK n.kids).length ck, .string ⟨#[]⟩], .int .i64 0]) (by simp [results, Tryz.results22, go_sem, r0, r1, r2, r3]) rfl ?_;have hst9 := HST.out.step (S2 := fun k => k < w.heap.size) ((Touch.refl (fun k => k = w.heap.size + 1) w2).put4 (.inl rfl) (.string ⟨El.nMath.toArray⟩) (.slice Aa 0 ca) (.slice Ak (elK n.kids).length ck) (.string ⟨#[]⟩)) (fun i _ hi => by have := HL.out; have hi : i = w.heap.size + 1 := hi; omega) (fun i _ hi => by have := HS1.out; omega);exact ⟨_, rfl, (.slice Aa 0 ca), (.slice Ak (elK n.kids).length ck), rfl, Touch.put4 HF2.out (.inr (by omega)) _ _ _ _, hst9⟩
end Go.Proofs.YtnbeemkfmlfgfaaGreatDoor
namespace Go.Proofs.YtnbeemkfmlfgfaaGreatDoor
open Go.RowKit
open Tr (Nd)
open El (E Attrs writeE)
def exportX (n : Nd) : List UInt8 := if Tr.valid n then printX (El.elM n) else []
def exportEr (n : Nd) : Int := if Tr.valid n then printXEr (El.elM n) else 1
theorem mkExport_any (n : Nd) (sl : Value) (w : World) (hr : RepL w n.kids sl) (ht : n.text.length ≤ maxLen) (hc : Tr.count n ≤ 1000) (hl : Tr.valid n = true → (writeE (El.elM n)).length ≤ 8000000) :
  Calls Tryz.prog 13 #[nv n sl] w fun x w' => x = .returned (.tuple #[.string ⟨(exportX n).toArray⟩, .int .i64 (exportEr n)]) ∧ Fresh w w' := by
 obtain ⟨A, cap, rfl⟩ := hr.slice;have HM := hid (fun (w : World) (hr : RepL w n.kids (.slice A n.kids.length cap)) => mkEl_any n _ w hr ht hc);have HR := hid hr;have HL := hid hl;clear hr hl;cases hv : Tr.valid n with
 | false =>
  have HS := hid (show markE n = elNil from by unfold markE; rw [hv]; rfl);have HE := hid (show markEr n = 1 from by unfold markEr; rw [hv]; rfl);have HX := hid (show exportX n = [] from by unfold exportX; rw [hv]; rfl);have HXE := hid (show exportEr n = 1 from by unfold exportEr; rw [hv]; rfl);rw [HX.out, HXE.out];go_enter Tryz.func13, Tryz.ntmps13;go_wp2_with fail
  refine (HM.out _ (HR.out.fresh ((Touch.refl _ w).alloc _))).mono ?_;rintro _ w1 ⟨v, rfl, va, vk, hev, hf, hst⟩;rw [HE.out];rw [HS.out] at hev hst;replace hev : v = .agg #[.string ⟨#[]⟩, va, vk, .string ⟨#[]⟩] := hev;obtain ⟨Aa, ca, hva⟩ := hst.now.1.slice;obtain ⟨Ak, ck, hvk⟩ := hst.now.2.1.slice;subst hev hva hvk;have HF := hid (Touch.pre hf);clear hf hst;go_wp2_with fail
  go_ret2;exact ⟨rfl, HF.out.alloc _⟩
 | true =>
  have HS := hid (show markE n = El.elM n from by unfold markE; rw [hv]; rfl);have HE := hid (show markEr n = 0 from by unfold markEr; rw [hv]; rfl);have HX := hid (show exportX n = printX (El.elM n) from by unfold exportX; rw [hv]; rfl);have HXE := hid (show exportEr n = printXEr (El.elM n) from by unfold exportEr; rw [hv]; rfl);rw [HX.out, HXE.out];have HL2 := hid (HL.out hv);go_enter Tryz.func13, Tryz.ntmps13;go_wp2_with fail
  refine (HM.out _ (HR.out.fresh ((Touch.refl _ w).alloc _))).mono ?_;rintro _ w1 ⟨v, rfl, va, vk, hev, hf, hst⟩;rw [HE.out];rw [HS.out] at hev hst;have HPR := hid (fun (w : World) (h : RepV w (El.elM n) va vk) => xPrint_any (El.elM n) va vk w h (fun _ => HL2.out));have HST := hid hst;obtain ⟨Aa, ca, hva⟩ := hst.now.1.slice;obtain ⟨Ak, ck, hvk⟩ := hst.now.2.1.slice
  rcases hem : El.elM n with ⟨en, ea, ek, et⟩
  have HEM := hid hem;rw [hem] at HPR hev hva hvk HST;clear hem;unfold ev at HPR hev;simp only [E.name, E.attrs, E.kids, E.text] at HPR hev hva hvk;subst hev hva hvk;have HF := hid (Touch.pre hf);clear hf hst;go_wp2_with fail
  refine (HPR.out _ ((HST.out _ ((Touch.refl _ w1).alloc _)))).mono ?_;rintro _ w2 ⟨rfl, hf2⟩;have HF2 := hid (HF.out.trans (Touch.pre hf2));clear hf2;go_wp2_with fail
  go_ret2;exact ⟨by rw [HEM.out]; rfl, HF2.out⟩
def xplus : Nd := .mk 1 [] 0 [.mk 2 [120] 0 [], .mk 2 [43] 0 []]
def xplusT : List UInt8 := [60, 109, 97, 116, 104, 62, 60, 109, 105, 62, 120, 60, 47, 109, 105, 62, 60, 109, 111, 62, 43, 60, 47, 109, 111, 62, 60, 47, 109, 97, 116, 104, 62]
theorem awake24_any (w : World) : Calls Tryz.prog 16 #[] w fun e w' => e = .returned (.bool true) ∧ Fresh w w' := by
 have HS := hid (show exportX xplus = xplusT by decide +kernel);have HE := hid (show exportEr xplus = 0 by decide +kernel);go_enter Tryz.func16, Tryz.ntmps16;go_wp2_with fail
 have hp : RepL (w.alloc (.cells #[.int .i64 2, .string ⟨#[120]⟩, .int .i64 0, .slice none 0 0, .int .i64 2, .string ⟨#[43]⟩, .int .i64 0, .slice none 0 0] 31)) xplus.kids (.slice (some ⟨w.heap.size, 0, none⟩) 2 2) := RepL.kid2 (k := 2) (s := [120]) (c := 0) (ks := []) (k' := 2) (s' := [43]) (c' := 0) (ks' := []) (Blk.new w 31 _) (by decide) (by decide) (.nil _ _) (.nil _ _);refine (mkExport_any xplus _ _ hp (by decide) (by decide +kernel) (fun _ => by decide +kernel)).mono ?_;rintro _ w1 ⟨rfl, hf⟩;rw [HS.out, HE.out];have HF := hid (Touch.pre hf);clear hp hf;unfold xplusT;go_wp2_with fail
 go_ret;exact ⟨ret_bool' _ _ (by decide), HF.out⟩
end Go.Proofs.YtnbeemkfmlfgfaaGreatDoor
namespace Go.Proofs.YtnbeemkfmlfgfaaGreatDoor
open Go.RowKit
theorem lett23_256 : ∀ n : Fin 256, El.letter (UInt8.ofNat n.1) = ((decide ((97 : Int) ≤ (n.1 : Int)) && decide ((n.1 : Int) ≤ (122 : Int))) || (decide ((65 : Int) ≤ (n.1 : Int)) && decide ((n.1 : Int) ≤ (90 : Int)))) := by decide +kernel
theorem lett23_or (b : UInt8) : El.letter b = ((decide ((97 : Int) ≤ (b.toNat : Int)) && decide ((b.toNat : Int) ≤ (122 : Int))) || (decide ((65 : Int) ≤ (b.toNat : Int)) && decide ((b.toNat : Int) ≤ (90 : Int)))) := by
 have := lett23_256 ⟨b.toNat, b.toNat_lt⟩;simpa using this
theorem prin23_256 : ∀ n : Fin 256, El.printable (UInt8.ofNat n.1) = (!decide ((n.1 : Int) < (32 : Int)) && !decide ((126 : Int) < (n.1 : Int))) := by decide +kernel
theorem prin23_or (b : UInt8) : El.printable b = (!decide ((b.toNat : Int) < (32 : Int)) && !decide ((126 : Int) < (b.toNat : Int))) := by
 have := prin23_256 ⟨b.toNat, b.toNat_lt⟩;simpa using this
theorem rletter23_byte (b : UInt8) (w : World) : Calls Tryz.prog 123 #[.int .u8 (b.toNat : Int)] w fun e w' => e = .returned (.bool (El.letter b)) ∧ w' = w := by
 go_enter Tryz.func123, Tryz.ntmps123;cases h1 : decide ((97 : Int) ≤ (b.toNat : Int)) with
 | false =>
  have h1n : decide (97 ≤ b.toNat) = false := by have hx := h1; simp only [decide_eq_false_iff_not] at hx ⊢; omega
  cases h2 : decide ((65 : Int) ≤ (b.toNat : Int)) with
  | false =>
   have h2n : decide (65 ≤ b.toNat) = false := by have hx := h2; simp only [decide_eq_false_iff_not] at hx ⊢; omega
   go_wp2_with fail
   go_ret;exact ⟨ret_bool' _ _ (by rw [lett23_or]; simp only [*] <;> rfl), rfl⟩
  | true =>
   have h2n : decide (65 ≤ b.toNat) = true := by have hx := h2; simp only [decide_eq_true_eq] at hx ⊢; omega
   cases h3 : decide ((b.toNat : Int) ≤ (90 : Int)) with
   | false =>
    have h3n : decide (b.toNat ≤ 90) = false := by have hx := h3; simp only [decide_eq_false_iff_not] at hx ⊢; omega
    go_wp2_with fail
    go_ret;exact ⟨ret_bool' _ _ (by rw [lett23_or]; simp only [*] <;> rfl), rfl⟩
   | true =>
    have h3n : decide (b.toNat ≤ 90) = true := by have hx := h3; simp only [decide_eq_true_eq] at hx ⊢; omega
    go_wp2_with fail
    go_ret;exact ⟨ret_bool' _ _ (by rw [lett23_or]; simp only [*] <;> rfl), rfl⟩
 | true =>
  have h1n : decide (97 ≤ b.toNat) = true := by have hx := h1; simp only [decide_eq_true_eq] at hx ⊢; omega
  cases h4 : decide ((b.toNat : Int) ≤ (122 : Int)) with
  | false =>
   have h4n : decide (b.toNat ≤ 122) = false := by have hx := h4; simp only [decide_eq_false_iff_not] at hx ⊢; omega
   cases h5 : decide ((65 : Int) ≤ (b.toNat : Int)) with
   | false =>
    have h5n : decide (65 ≤ b.toNat) = false := by have hx := h5; simp only [decide_eq_false_iff_not] at hx ⊢; omega
    go_wp2_with fail
    go_ret;exact ⟨ret_bool' _ _ (by rw [lett23_or]; simp only [*] <;> rfl), rfl⟩
   | true =>
    have h5n : decide (65 ≤ b.toNat) = true := by have hx := h5; simp only [decide_eq_true_eq] at hx ⊢; omega
    cases h6 : decide ((b.toNat : Int) ≤ (90 : Int)) with
    | false =>
     have h6n : decide (b.toNat ≤ 90) = false := by have hx := h6; simp only [decide_eq_false_iff_not] at hx ⊢; omega
     go_wp2_with fail
     go_ret;exact ⟨ret_bool' _ _ (by rw [lett23_or]; simp only [*] <;> rfl), rfl⟩
    | true =>
     have h6n : decide (b.toNat ≤ 90) = true := by have hx := h6; simp only [decide_eq_true_eq] at hx ⊢; omega
     go_wp2_with fail
     go_ret;exact ⟨ret_bool' _ _ (by rw [lett23_or]; simp only [*] <;> rfl), rfl⟩
  | true =>
   have h4n : decide (b.toNat ≤ 122) = true := by have hx := h4; simp only [decide_eq_true_eq] at hx ⊢; omega
   go_wp2_with fail
   go_ret;exact ⟨ret_bool' _ _ (by rw [lett23_or]; simp only [*] <;> rfl), rfl⟩
theorem rinner23_byte (b : UInt8) (w : World) : Calls Tryz.prog 139 #[.int .u8 (b.toNat : Int)] w fun e w' => e = .returned (.bool (El.inner b)) ∧ w' = w := by
 go_enter Tryz.func139, Tryz.ntmps139;go_wp2_with fail
 refine Calls.mono (rletter23_byte b _) ?_;rintro _ w1q ⟨rfl, hqw1⟩;replace hqw1 := hqw1.symm;subst hqw1;cases h7 : (El.letter b) with
 | false =>
  cases h8 : decide ((48 : Int) ≤ (b.toNat : Int)) with
  | false =>
   have h8n : decide (48 ≤ b.toNat) = false := by have hx := h8; simp only [decide_eq_false_iff_not] at hx ⊢; omega
   cases h9 : ((b.toNat : Int) == (45 : Int)) with
   | false =>
    have h9m : ((b.toNat : Int) != (45 : Int)) = true := by rw [bne, h9]; rfl
    go_wp2_with fail
    go_ret;exact ⟨ret_bool' _ _ (by rw [inner_or]; simp only [*] <;> rfl), rfl⟩
   | true =>
    have h9m : ((b.toNat : Int) != (45 : Int)) = false := by rw [bne, h9]; rfl
    go_wp2_with fail
    go_ret;exact ⟨ret_bool' _ _ (by rw [inner_or]; simp only [*] <;> rfl), rfl⟩
  | true =>
   have h8n : decide (48 ≤ b.toNat) = true := by have hx := h8; simp only [decide_eq_true_eq] at hx ⊢; omega
   cases h10 : decide ((b.toNat : Int) ≤ (57 : Int)) with
   | false =>
    have h10n : decide (b.toNat ≤ 57) = false := by have hx := h10; simp only [decide_eq_false_iff_not] at hx ⊢; omega
    cases h11 : ((b.toNat : Int) == (45 : Int)) with
    | false =>
     have h11m : ((b.toNat : Int) != (45 : Int)) = true := by rw [bne, h11]; rfl
     go_wp2_with fail
     go_ret;exact ⟨ret_bool' _ _ (by rw [inner_or]; simp only [*] <;> rfl), rfl⟩
    | true =>
     have h11m : ((b.toNat : Int) != (45 : Int)) = false := by rw [bne, h11]; rfl
     go_wp2_with fail
     go_ret;exact ⟨ret_bool' _ _ (by rw [inner_or]; simp only [*] <;> rfl), rfl⟩
   | true =>
    have h10n : decide (b.toNat ≤ 57) = true := by have hx := h10; simp only [decide_eq_true_eq] at hx ⊢; omega
    go_wp2_with fail
    go_ret;exact ⟨ret_bool' _ _ (by rw [inner_or]; simp only [*] <;> rfl), rfl⟩
 | true =>
  go_wp2_with fail
  go_ret;exact ⟨ret_bool' _ _ (by rw [inner_or]; simp only [*] <;> rfl), rfl⟩
theorem rvalue_any (s : ByteArray) (w : World) (hm : s.size ≤ 9223372036854775807) : Calls Tryz.prog 77 #[.string s] w fun e w' => e = .returned (.bool (El.valueOK s.data.toList)) ∧ w' = w := by
 go_enter Tryz.func77, Tryz.ntmps77;go_wp2_with fail
 go_loopw [3] (fun i wr => ∃ j : Nat, i = .int .i64 j ∧ j ≤ s.size ∧ Hid ((s.data.toList.take j).all El.printable = true) ∧ wr = w) (fun i _ => s.size - (intOf i).toNat)
 case atStart => exact ⟨0, rfl, Nat.zero_le _, by simp [Hid], rfl⟩
 case round =>
  obtain ⟨j, rfl, hj, HA, rfl⟩ := hrel
  by_cases c1 : j < s.size
  ·have d1 : decide ((j : Int) < (s.size : Int)) = true := by simp; omega
   have d1' : (j : Int) < (s.size : Int) := by omega
   obtain ⟨b, hb⟩ : ∃ b, s[j]'c1 = b := ⟨_, rfl⟩;have hst := all_snoc' s.data.toList j (by simpa using c1) El.printable;have hno := all_no s.data.toList j (by simpa using c1) El.printable;have hbl : s.data.toList[j]'(by simpa using c1) = b := hb;rw [hbl] at hst hno;have HS := hid hst;have HN := hid hno;clear hst hno hbl;cases h12 : decide ((b.toNat : Int) < (32 : Int)) with
   | false =>
    have h12n : decide (b.toNat < 32) = false := by have hx := h12; simp only [decide_eq_false_iff_not] at hx ⊢; omega
    cases h13 : decide ((126 : Int) < (b.toNat : Int)) with
    | false =>
     have h13n : decide (126 < b.toNat) = false := by have hx := h13; simp only [decide_eq_false_iff_not] at hx ⊢; omega
     go_wp2_with fail
     go_roundw
     case rel => exact ⟨j + 1, by go_num, c1, by unfold Hid; rw [HS.out, HA.out]; rw [prin23_or]; simp only [*] <;> rfl, trivial⟩
     case measure => simp [intOf]; omega
    | true =>
     have h13n : decide (126 < b.toNat) = true := by have hx := h13; simp only [decide_eq_true_eq] at hx ⊢; omega
     go_wp2_with fail
     go_ret;exact ⟨ret_bool' _ _ (by unfold El.valueOK; rw [HN.out (by rw [prin23_or]; simp only [*] <;> rfl)]; rfl), rfl⟩
   | true =>
    have h12n : decide (b.toNat < 32) = true := by have hx := h12; simp only [decide_eq_true_eq] at hx ⊢; omega
    go_wp2_with fail
    go_ret;exact ⟨ret_bool' _ _ (by unfold El.valueOK; rw [HN.out (by rw [prin23_or]; simp only [*] <;> rfl)]; rfl), rfl⟩
  ·have d1 : decide ((j : Int) < (s.size : Int)) = false := by simp; omega
   go_wp2_with fail
   go_ret;exact ⟨ret_bool' _ _ (by unfold El.valueOK; rw [all_end s El.printable j hj c1 HA.out]; rw [show s.data.toList.length = s.size by simp, Bool.eq_iff_iff]; simp; omega), rfl⟩
theorem rvalue_list (l : List UInt8) (w : World) (h : l.length ≤ 9223372036854775807) : Calls Tryz.prog 77 #[.string ⟨l.toArray⟩] w fun e w' => e = .returned (.bool (El.valueOK l)) ∧ Fresh w w' :=
 (rvalue_any ⟨l.toArray⟩ w h).mono fun e w' ⟨h1, h2⟩ => ⟨h1, by rw [h2]; exact Touch.refl _ _⟩
theorem nameOK_first (s : List UInt8) (b : UInt8) (h : 0 < s.length) (hb : s[0] = b) (hl : El.letter b = false) : El.nameOK s = false := by
 cases s with
 | nil => cases h
 | cons c s =>
  have : c = b := hb;show (El.letter c && s.all El.inner) = false;rw [this, hl]; rfl
theorem lett_first (s : List UInt8) (b : UInt8) (h : 0 < s.length) (hb : s[0] = b) (hl : El.letter b = true) : El.lett s = true := by
 cases s with
 | nil => cases h
 | cons c s =>
  have : c = b := hb;show El.letter c = true;rw [this, hl]
theorem lett_nil (s : List UInt8) (h : s.length = 0) : El.lett s = false := by
 cases s with
 | nil => rfl
 | cons c s => cases h
theorem rname23_any (s : ByteArray) (w : World) (hm : s.size ≤ 9223372036854775807) : Calls Tryz.prog 76 #[.string s] w fun e w' => e = .returned (.bool (El.nameOK s.data.toList)) ∧ w' = w := by
 go_enter Tryz.func76, Tryz.ntmps76;go_wp2_with fail
 go_loopw [3] (fun i wr => ∃ j : Nat, i = .int .i64 j ∧ j ≤ s.size ∧ Hid ((s.data.toList.take j).all El.inner = true ∧ (0 < j → El.lett s.data.toList = true)) ∧ wr = w) (fun i _ => s.size - (intOf i).toNat)
 case atStart => exact ⟨0, rfl, Nat.zero_le _, ⟨by simp, fun h => absurd h (by decide)⟩, rfl⟩
 case round =>
  obtain ⟨j, rfl, hj, HA, rfl⟩ := hrel
  by_cases c1 : j < s.size
  ·have d1 : decide ((j : Int) < (s.size : Int)) = true := by simp; omega
   have d1' : (j : Int) < (s.size : Int) := by omega
   obtain ⟨b, hb⟩ : ∃ b, s[j]'c1 = b := ⟨_, rfl⟩;have hst := all_snoc' s.data.toList j (by simpa using c1) El.inner;have hno := all_no s.data.toList j (by simpa using c1) El.inner;have hbl : s.data.toList[j]'(by simpa using c1) = b := hb;rw [hbl] at hst hno;have HS := hid hst;have HN := hid hno;clear hst hno
   have hways : (((j : Int) == (0 : Int)) = true ∧ El.letter b = false ∧ El.nameOK s.data.toList = false) ∨ ((((j : Int) == (0 : Int)) = true ∧ El.letter b = true ∨ ((j : Int) == (0 : Int)) = false) ∧ El.lett s.data.toList = true) := by
    by_cases h0 : j = 0
    ·subst h0
     cases hl : El.letter b with
     | false => exact .inl ⟨rfl, rfl, nameOK_first _ b (by simpa using c1) hbl hl⟩
     | true => exact .inr ⟨.inl ⟨rfl, rfl⟩, lett_first _ b (by simpa using c1) hbl hl⟩
    ·exact .inr ⟨.inr (by rw [beq_eq_false_iff_ne]; omega), HA.out.2 (by omega)⟩
   clear hbl
   rcases hways with ⟨h0, hl, hno⟩ | ⟨⟨h0, hl⟩ | h0, hlt⟩
   focus
    have HNO := hid hno;clear hno;have h0n : (j == 0) = true := by rw [beq_iff_eq] at h0 ⊢; omega
    go_wp2_with fail
    refine Calls.mono (rletter23_byte b _) ?_;rintro _ w3q ⟨rfl, hqw3⟩;replace hqw3 := hqw3.symm;subst hqw3;go_wp2_with fail
    go_ret;exact ⟨ret_bool' _ _ (by rw [HNO.out]), rfl⟩
   focus
    have HLT := hid hlt;clear hlt;have h0n : (j == 0) = true := by rw [beq_iff_eq] at h0 ⊢; omega
    go_wp2_with fail
    refine Calls.mono (rletter23_byte b _) ?_;rintro _ w3q ⟨rfl, hqw3⟩;replace hqw3 := hqw3.symm;subst hqw3;go_wp2_with fail
   rotate_left
   focus
    have HLT := hid hlt;clear hlt;have h0n : (j == 0) = false := by rw [beq_eq_false_iff_ne] at h0 ⊢; omega
    go_wp2_with fail
   all_goals
    refine Calls.mono (rinner23_byte b _) ?_;rintro _ w4q ⟨rfl, hqw4⟩;replace hqw4 := hqw4.symm;subst hqw4;cases h9 : (El.inner b) with
    | false =>
     go_wp2_with fail
     go_ret;exact ⟨ret_bool' _ _ (by rw [nameOK_in _ (HN.out (by assumption))]), rfl⟩
    | true =>
     go_wp2_with fail
     go_roundw
     case rel => exact ⟨j + 1, by go_num, c1, ⟨by rw [HS.out, HA.out.1]; simp_all, fun _ => HLT.out⟩, trivial⟩
     case measure => simp [intOf]; omega
  ·have d1 : decide ((j : Int) < (s.size : Int)) = false := by simp; omega
   have HALL := hid (nameOK_of _ (all_end s El.inner j hj c1 HA.out.1))
   have HV := hid (show El.nameOK s.data.toList = decide ((1 : Int) ≤ (s.size : Int)) by
    rw [HALL.out]
    rcases Nat.eq_zero_or_pos j with h | h
    ·have h0 : s.size = 0 := by omega
     rw [lett_nil _ (by simpa using h0), h0]; rfl
    ·rw [HA.out.2 h]; exact (decide_eq_true (by omega)).symm)
   go_wp2_with fail
   go_ret;exact ⟨ret_bool' _ _ HV.out.symm, rfl⟩
theorem rname23_list (l : List UInt8) (w : World) (h : l.length ≤ 9223372036854775807) : Calls Tryz.prog 76 #[.string ⟨l.toArray⟩] w fun e w' => e = .returned (.bool (El.nameOK l)) ∧ Fresh w w' :=
 (rname23_any ⟨l.toArray⟩ w h).mono fun e w' ⟨h1, h2⟩ => ⟨h1, by rw [h2]; exact Touch.refl _ _⟩
end Go.Proofs.YtnbeemkfmlfgfaaGreatDoor
namespace Go.Proofs.YtnbeemkfmlfgfaaGreatDoor
open Go.RowKit
open El (E Attrs)
def RCountC (e : E) : Prop := ∀ (va vk : Value) (w : World), RepV w e va vk → El.count e ≤ 1000000 → Calls Tryz.prog 47 #[ev e va vk] w fun x w' => x = .returned (.int .i64 (El.count e : Nat)) ∧ Fresh w w'
theorem rcount_step (e : E) (ih : ∀ x ∈ e.kids, RCountC x) : RCountC e := by
 intro va vk w hr hc;obtain ⟨A, ca, hva⟩ := hr.1.slice;obtain ⟨B, cb, hvk⟩ := hr.2.1.slice;have HR := hid hr;have HIH := hid ih;obtain ⟨n, ats, ks, t⟩ := e;have hl2 : ks.length ≤ maxLen := hr.2.1.len;unfold maxLen at hl2;have HCE := hid (show El.count (.mk n ats ks t) = 1 + El.countL ks from by rw [El.count]);rw [HCE.out] at hc;rw [HCE.out];replace hva : va = .slice A ats.length ca := hva;replace hvk : vk = .slice B ks.length cb := hvk;subst hva;subst hvk;unfold ev;simp only [E.name, E.kids, E.text] at HIH ⊢;clear hr ih;have HK := hid (show RepE w ks _ from HR.out.2.1);go_enter Tryz.func47, Tryz.ntmps47;go_wp2_with fail
 have HB0 := hid (Blk.new w 45 #[.string ⟨n.toArray⟩, .slice A ats.length ca, .slice B ks.length cb, .string ⟨t.toArray⟩]);have HF0 := hid ((Touch.refl (fun _ => False) w).alloc (.cells #[.string ⟨n.toArray⟩, .slice A ats.length ca, .slice B ks.length cb, .string ⟨t.toArray⟩] 45))
 go_loopw [4, 3] (fun i s wr => ∃ j : Nat, i = .int .i64 j ∧ s = .int .i64 ((1 + El.countL (ks.take j) : Nat) : Int) ∧ j ≤ ks.length ∧ Hid (Blk wr w.heap.size 45 #[.string ⟨n.toArray⟩, .slice A ats.length ca, .slice B ks.length cb, .string ⟨t.toArray⟩]) ∧ Hid (Fresh w wr)) (fun i _ _ => ks.length - (intOf i).toNat)
 case atStart => exact ⟨0, rfl, by show _ = Value.int .i64 ((1 + El.countL [] : Nat) : Int); rw [El.countL]; rfl, Nat.zero_le _, HB0, HF0⟩
 case round =>
  obtain ⟨j, rfl, rfl, hj, HB, HF⟩ := hrel;obtain ⟨q0, q1, q2, q3, _, _, _, _, _⟩ := Blk.four HB.out
  by_cases c1 : j < ks.length
  ·have d1 : decide ((j : Int) < (ks.length : Int)) = true := dT (by omega)
   have d1' : (j : Int) < (ks.length : Int) := by omega
   have d1n : decide (j < ks.length) = true := dT c1;obtain ⟨g, o, va, vk, rfl, hg, m0, m1, m2, m3, hrx⟩ := HK.out.get j c1;obtain ⟨e0, e1, e2, e3⟩ := mv4 HF.out m0 m1 m2 m3;obtain ⟨Aa, aa, hva⟩ := hrx.1.slice;obtain ⟨Ak, ak, hvk⟩ := hrx.2.1.slice;have HS := hid (El.countL_take ks j c1);have hle := El.countL_le ks (j + 1);rw [HS.out] at hle;have HC := hid (fun (W : World) (hw : RepV W ks[j] va vk) => HIH.out ks[j] (List.getElem_mem c1) va vk W hw (by omega));have HX := hid (hrx.fresh HF.out);clear m0 m1 m2 m3 hrx;generalize ks[j] = x at *;obtain ⟨xn, xa, xk, xt⟩ := x;unfold ev at HC;simp only [E.name, E.attrs, E.kids, E.text] at hva hvk e0 e1 e2 e3 HC;subst hva hvk;go_wp2_with fail
   refine (HC.out _ HX.out).mono ?_;rintro _ w2 ⟨rfl, hf2⟩;have HF2 := hid (HF.out.trans hf2);have HB2 := hid (hf2.blk HB.out fun h => h);clear hf2;go_wp2_with fail
   go_roundw
   case rel => exact ⟨j + 1, by go_num, by rw [HS.out]; go_num, c1, HB2, HF2⟩
   case measure => simp [intOf]; omega
  ·have d1 : decide ((j : Int) < (ks.length : Int)) = false := dF (by omega)
   have d1n : decide (j < ks.length) = false := dF c1;obtain rfl : j = ks.length := by omega
   go_wp2_with fail
   go_ret;exact ⟨by rw [List.take_length]; rfl, HF.out⟩
theorem rcount_any (e : E) : RCountC e := El.E.ind (p := RCountC) rcount_step e
namespace El
def smallOwn (n : Bytes) (a : Attrs) (t : Bytes) : Bool := decide (a.length ≤ 20) && decide (t.length ≤ 400) && decide (n.length ≤ 400) && a.all (fun x => decide (x.1.length ≤ 400) && decide (x.2.length ≤ 400))
mutual
def small : E → Bool
 | .mk n a ks t => smallOwn n a t && smallL ks
def smallL : List E → Bool
 | [] => true
 | x :: xs => small x && smallL xs
end
theorem smallL_all (l : List E) : smallL l = l.all small := by
 induction l with
 | nil => rw [smallL]; rfl
 | cons x l ih => rw [smallL, ih, List.all_cons]
theorem smallL_snoc (l : List E) (j : Nat) (h : j < l.length) : smallL (l.take (j + 1)) = (smallL (l.take j) && small l[j]) := by
 rw [smallL_all, smallL_all, List.take_add_one, List.getElem?_eq_getElem h, List.all_append];simp
end El
def RDepthC (e : E) : Prop := ∀ (va vk : Value) (w : World), RepV w e va vk → El.count e ≤ 1000000 → Calls Tryz.prog 48 #[ev e va vk] w fun x w' => x = .returned (.int .i64 (El.depth e : Nat)) ∧ Fresh w w'
theorem depthL_le_count (l : List E) : El.depthL l ≤ El.countL l := by
 have : ∀ (k : Nat) (l : List E), El.countL l ≤ k → El.depthL l ≤ El.countL l := by
  intro k
  induction k with
  | zero =>
   intro l h;cases l with
   | nil => exact Nat.le_refl _
   | cons x l => rw [El.countL] at h; have := El.count_pos x; omega
  | succ k ih =>
   intro l
   induction l with
   | nil => intro _; exact Nat.le_refl _
   | cons x l ihl =>
    intro h;rw [El.countL] at h ⊢;rw [El.depthL, El.depth_kids];have h1 := El.count_kids x;have h2 := ihl (by omega);have h3 := ih x.kids (by omega);omega
 exact this _ l (Nat.le_refl _)
theorem rdepth_step (e : E) (ih : ∀ x ∈ e.kids, RDepthC x) : RDepthC e := by
 intro va vk w hr hc;obtain ⟨A, ca, hva⟩ := hr.1.slice;obtain ⟨B, cb, hvk⟩ := hr.2.1.slice;have HR := hid hr;have HIH := hid ih;obtain ⟨n, ats, ks, t⟩ := e;have hl2 : ks.length ≤ maxLen := hr.2.1.len;unfold maxLen at hl2;have hcl : 1 + El.countL ks ≤ 1000000 := by rw [El.count] at hc; exact hc
 have HCE := hid (show El.depth (.mk n ats ks t) = El.depthL ks + 1 from by rw [El.depth]);rw [HCE.out];replace hva : va = .slice A ats.length ca := hva;replace hvk : vk = .slice B ks.length cb := hvk;subst hva;subst hvk;unfold ev;simp only [E.name, E.kids, E.text] at HIH ⊢;clear hr ih hc;have HK := hid (show RepE w ks _ from HR.out.2.1);go_enter Tryz.func48, Tryz.ntmps48;go_wp2_with fail
 have HB0 := hid (Blk.new w 45 #[.string ⟨n.toArray⟩, .slice A ats.length ca, .slice B ks.length cb, .string ⟨t.toArray⟩]);have HF0 := hid ((Touch.refl (fun _ => False) w).alloc (.cells #[.string ⟨n.toArray⟩, .slice A ats.length ca, .slice B ks.length cb, .string ⟨t.toArray⟩] 45))
 go_loopw [4, 3] (fun i s wr => ∃ j d : Nat, i = .int .i64 j ∧ s = .int .i64 d ∧ Hid (d = El.depthL (ks.take j)) ∧ j ≤ ks.length ∧ d ≤ 1000000 ∧ Hid (Blk wr w.heap.size 45 #[.string ⟨n.toArray⟩, .slice A ats.length ca, .slice B ks.length cb, .string ⟨t.toArray⟩]) ∧ Hid (Fresh w wr)) (fun i _ _ => ks.length - (intOf i).toNat)
 case atStart => exact ⟨0, 0, rfl, rfl, hid (by rw [List.take_zero, El.depthL]), Nat.zero_le _, Nat.zero_le _, HB0, HF0⟩
 case round =>
  obtain ⟨j, d, rfl, rfl, HD, hj, hdl, HB, HF⟩ := hrel;obtain ⟨q0, q1, q2, q3, _, _, _, _, _⟩ := Blk.four HB.out
  by_cases c1 : j < ks.length
  ·have d1 : decide ((j : Int) < (ks.length : Int)) = true := dT (by omega)
   have d1' : (j : Int) < (ks.length : Int) := by omega
   have d1n : decide (j < ks.length) = true := dT c1;obtain ⟨g, o, va, vk, rfl, hg, m0, m1, m2, m3, hrx⟩ := HK.out.get j c1;obtain ⟨e0, e1, e2, e3⟩ := mv4 HF.out m0 m1 m2 m3;obtain ⟨Aa, aa, hva⟩ := hrx.1.slice;obtain ⟨Ak, ak, hvk⟩ := hrx.2.1.slice;have HS := hid (El.depthL_take ks j c1)
   have HDL := hid (show El.depth ks[j] ≤ 1000000 by
    have h1 := El.depth_mem (List.getElem_mem c1);have h2 := depthL_le_count ks;omega)
   have HC := hid (fun (W : World) (hw : RepV W ks[j] va vk) => HIH.out ks[j] (List.getElem_mem c1) va vk W hw (by have := El.count_mem (List.getElem_mem c1); omega));have HX := hid (hrx.fresh HF.out);clear m0 m1 m2 m3 hrx;generalize ks[j] = x at *;generalize El.depth x = dx at *;obtain ⟨xn, xa, xk, xt⟩ := x;unfold ev at HC;simp only [E.name, E.attrs, E.kids, E.text] at hva hvk e0 e1 e2 e3 HC;subst hva hvk;go_wp2_with fail
   refine (HC.out _ HX.out).mono ?_;rintro _ w2 ⟨rfl, hf2⟩;have HF2 := hid (HF.out.trans hf2);have HB2 := hid (hf2.blk HB.out fun h => h);have hdx := HDL.out;clear hf2;go_wp2_with fail
   go_roundw
   case rel => exact ⟨j + 1, max d dx, by go_num, by first | rfl | (congr 1; omega), hid (by rw [HS.out, HD.out]), c1, by omega, HB2, HF2⟩
   case measure => simp [intOf]; omega
  ·have d1 : decide ((j : Int) < (ks.length : Int)) = false := dF (by omega)
   have d1n : decide (j < ks.length) = false := dF c1;obtain rfl : j = ks.length := by omega
   have HD2 := hid (show d = El.depthL ks by rw [HD.out, List.take_length]);clear HD;go_wp2_with fail
   go_ret;exact ⟨by rw [← HD2.out]; rfl, HF.out⟩
theorem rdepth_any (e : E) : RDepthC e := El.E.ind (p := RDepthC) rdepth_step e
end Go.Proofs.YtnbeemkfmlfgfaaGreatDoor
