/- Part 15 of 20 of a proof; its texts, joined: XmG, XmH, MkB, PrZ, MkC. No condition. -/
import Derived.Test.YtloipakdnalpdaaQa12
import Derived.Test.YtloipakdnalpdaaQa14
import Derived.Laws.Concat
import Derived.Test.YtloipakdnalpdaaQa13
import Derived.Maps.RangeWalk
import Derived.WideMake
import Derived.Test.YtloipakdnalpdaaQa5
import Derived.Test.YtloipakdnalpdaaQa2
import Derived.Test.YtloipakdnalpdaaQa3
import Derived.Test.YtloipakdnalpdaaQa8
set_option maxRecDepth 100000
set_option maxHeartbeats 4000000
namespace Go.Proofs.Ytloipakdnalpdaa
open Go.RowKit
open El (E Attrs escL escB writeE writeL attrW attrsW)
def WriteC (e : E) : Prop := ∀ (w0 : World) (ge oe g : Nat) (va vk : Value) (l : List UInt8) (w : World), ElAt w0 ge oe e va vk → BW w0 g l w → l.length + (writeE e).length ≤ 8000000 →
 Calls Try.prog 39 #[.pointer (some ⟨g, 0, none⟩), .pointer (some ⟨ge, oe, none⟩)] w fun x w' => x = .returned (.tuple #[]) ∧ BW w0 g (l ++ writeE e) w' ∧ Kb w w'
theorem write_step (e : E) (ih : ∀ x ∈ e.kids, WriteC x) : WriteC e := by
 intro w0 ge oe g va vk l w he hb hl;obtain ⟨n, ats, ks, t⟩ := e;have HE := hid he;have HB := hid hb;have HL := hid hl;have HIH := hid ih;obtain ⟨A, ca, hva⟩ := he.2.2.2.2.2.1.slice;obtain ⟨B, cb, hvb⟩ := he.2.2.2.2.2.2.1.slice;replace hva : va = .slice A ats.length ca := hva;replace hvb : vk = .slice B ks.length cb := hvb;subst hva;subst hvb;have HW := hid (show writeE (.mk n ats ks t) = 60 :: n ++ attrsW ats ++ (if t.isEmpty && ks.isEmpty then [47, 62] else 62 :: escL t ++ writeL ks ++ ([60, 47] ++ n ++ [62])) by rw [writeE])
 have hwl : l.length + (n.length + 1 + (attrsW ats).length) + 2 ≤ 8000000 := by
  rw [HW.out] at hl
  have h2 : 2 ≤ (if t.isEmpty && ks.isEmpty then [47, 62] else 62 :: escL t ++ writeL ks ++ ([60, 47] ++ n ++ [62]) : List UInt8).length := by
   split
   ·simp
   ·simp only [List.length_append, List.length_cons]; omega
  simp only [List.length_append, List.length_cons] at hl h2 ⊢;omega
 have hl1 : ats.length ≤ maxLen := by obtain ⟨_, _, _, h, _⟩ := he.2.2.2.2.2.1; exact h.1
 have hl2 : ks.length ≤ maxLen := he.2.2.2.2.2.2.1.len;have htl : t.length ≤ maxLen := he.2.2.2.2.2.2.2.2;unfold maxLen at hl1 hl2 htl;have hE1 := he.fresh hb.frs;obtain ⟨hg, h0, h1, h2, h3, _⟩ := hE1;replace h0 : w.cell? ⟨ge, oe, none⟩ = some (.string ⟨n.toArray⟩) := h0;have hadd := fun W : World => run_string_add_lists (P := Try.prog) W [60] n (by simp) (by omega)
 clear he hb hl ih;go_enter Try.func39, Try.ntmps39;go_wp2_with fail
 refine (bw_str HB.out (60 :: n) (by simp; omega)).mono ?_;rintro _ w1 ⟨rfl, hb1, hk1⟩;have HB1 := hid hb1;have HK1 := hid hk1;clear hb1 hk1 h0 h1 h2 h3 hg hadd;obtain ⟨hg, h0, h1, h2, h3, _⟩ := HE.out.fresh HB1.out.frs;replace h1 : w1.cell? ⟨ge, oe + 1, none⟩ = some (.slice A ats.length ca) := h1;go_wp2_with fail
 clear hg h0 h1 h2 h3
 go_loopw [19] (fun i wr => ∃ j : Nat, i = .int .i64 j ∧ j ≤ ats.length ∧ Hid (BW w0 g (l ++ (60 :: n) ++ attrsW (ats.take j)) wr) ∧ Hid (Kb w wr)) (fun i _ => ats.length - (intOf i).toNat)
 case atStart => exact ⟨0, rfl, Nat.zero_le _, hid (by simpa [attrsW] using HB1.out), HK1⟩
 case round =>
  obtain ⟨j, rfl, hj, HBj, HKj⟩ := hrel
  by_cases c1 : j < ats.length
  ·have d1 : decide ((j : Int) < (ats.length : Int)) = true := dT (by omega)
   have d1' : (j : Int) < (ats.length : Int) := by omega
   have HA := hid (show RepA w0 ats _ from HE.out.2.2.2.2.2.1);obtain ⟨ga, oa, rfl, hga, m0, m1, hx1, hx2⟩ := HA.out.get j c1;have e0 := HBj.out.frs.cell m0 (fun h => h);have f0 := HBj.out.frs.cell m1 (fun h => h);have HAS := hid (El.attrsW_snoc ats j c1)
   have hxl : (attrsW (ats.take j)).length + ((ats[j]).1.length + (escL (ats[j]).2).length + 4) ≤ (attrsW ats).length := by
    have := El.attrsW_le ats (j + 1);rw [HAS.out, List.length_append] at this;unfold El.attrW at this;simp only [List.length_append, List.length_cons, List.length_nil] at this;omega
   have hx2' : (ats[j]).2.length ≤ 9223372036854775807 := hx2;clear m0 m1 hx1 hx2;generalize ats[j] = x at *;have hadd1 := fun W : World => run_string_add_lists (P := Try.prog) W [32] x.1 (by simp) (by omega)
   have hadd2 := fun W : World => run_string_add_lists (P := Try.prog) W (32 :: x.1) [61, 34] (by simp; omega) (by simp)
   go_wp2_with fail
   refine (bw_str (HBj.out.fresh ((Touch.refl _ wr).alloc (.cells #[.string ⟨x.1.toArray⟩, .string ⟨x.2.toArray⟩] 51))) (32 :: (x.1 ++ [61, 34])) (by simp only [List.length_append, List.length_cons, List.length_nil]; omega)).mono ?_;rintro _ w3 ⟨rfl, hb3, hk3⟩;have hq := hk3 _ _ _ (by decide) (by decide) (Blk.new wr 51 #[.string ⟨x.1.toArray⟩, .string ⟨x.2.toArray⟩]);have HB3 := hid hb3;have HK3 := hid (HKj.out.trans ((Fresh.kb ((Touch.refl _ wr).alloc _)).trans hk3));have HQ := hid hq;have q1 : w3.cell? ⟨wr.heap.size, 1, none⟩ = some (.string ⟨x.2.toArray⟩) := hq.cell 1;have qz : wr.heap.size < w3.heap.size := hq.lt;clear hb3 hk3 e0 f0 hadd1 hadd2 hq;go_wp2_with fail
   refine (escape_any x.2 w0 g _ w3 HB3.out (by simp only [List.length_append, List.length_cons, List.length_nil]; omega) hx2').mono ?_;rintro _ w4 ⟨rfl, hb4, hk4⟩;have HB4 := hid hb4;have HK4 := hid (HK3.out.trans hk4);clear hb4 hk4 q1 qz;go_wp2_with fail
   refine (bw_byte HB4.out _ 34 rfl (by simp only [List.length_append, List.length_cons, List.length_nil]; omega)).mono ?_;rintro _ w5 ⟨rfl, hb5, hk5⟩;have HB5 := hid (show BW w0 g (l ++ (60 :: n) ++ attrsW (ats.take (j + 1))) w5 by rw [HAS.out]; unfold El.attrW; simpa [List.append_assoc] using hb5);have HK5 := hid (HK4.out.trans hk5);clear hb5 hk5;go_wp2_with fail
   go_roundw
   case rel => exact ⟨j + 1, by go_num, c1, HB5, HK5⟩
   case measure => simp [intOf]; omega
  ·have d1 : decide ((j : Int) < (ats.length : Int)) = false := dF (by omega)
   obtain rfl : j = ats.length := by omega
   have HB2 := hid (show BW w0 g (l ++ (60 :: n) ++ attrsW ats) wr by have := HBj.out; rwa [List.take_length] at this);obtain ⟨hg, h0, h1, h2, h3, _⟩ := HE.out.fresh HB2.out.frs;replace h2 : wr.cell? ⟨ge, oe + 2, none⟩ = some (.slice B ks.length cb) := h2;replace h3 : wr.cell? ⟨ge, oe + 3, none⟩ = some (.string ⟨t.toArray⟩) := h3;clear h0 h1 d1 hj
   by_cases c2 : t = [] ∧ ks.length = 0
   ·obtain ⟨rfl, ck⟩ := c2
    have hks : ks = [] := List.eq_nil_of_length_eq_zero ck;have HW2 := hid (show writeE (.mk n ats ks []) = 60 :: n ++ attrsW ats ++ [47, 62] by rw [HW.out, hks]; rfl);have d2 : ((ks.length : Int) == 0) = true := by rw [ck]; rfl
    clear hks ck;go_wp2_with fail
    refine (bw_str HB2.out [47, 62] (by simp only [List.length_append, List.length_cons, List.length_nil]; omega)).mono ?_;rintro _ w6 ⟨rfl, hb6, hk6⟩;have HB6 := hid hb6;have HK6 := hid (HKj.out.trans hk6);clear hb6 hk6;go_wp2_with fail
    refine bodyPost_ret (results_none rfl _ _ _) rfl ?_;exact ⟨rfl, by rw [HW2.out]; simpa [List.append_assoc] using HB6.out, HK6.out⟩
   ·have HW2 := hid (show writeE (.mk n ats ks t) = 60 :: n ++ attrsW ats ++ (62 :: escL t ++ writeL ks ++ ([60, 47] ++ n ++ [62])) by
     rw [HW.out, if_neg];rw [Bool.and_eq_true, List.isEmpty_iff, List.isEmpty_iff];rintro ⟨e1, e2⟩;exact c2 ⟨e1, by rw [e2]; rfl⟩)
    have hwl2 : l.length + (n.length + 1 + (attrsW ats).length) + (1 + (escL t).length + (writeL ks).length + (n.length + 3)) ≤ 8000000 := by
     have := HL.out;rw [HW2.out] at this;simp only [List.length_append, List.length_cons, List.length_nil] at this;omega
    have hte : t.isEmpty = true → ((ks.length : Int) == 0) = false := fun h => by
     rw [beq_eq_false_iff_ne];intro h2;exact c2 ⟨List.isEmpty_iff.1 h, by omega⟩
    have HTE := hid hte;clear c2 hte
    by_cases ct : t.isEmpty = true
    focus
     have d2 := HTE.out ct;have et : t.isEmpty = true := ct;clear ct;go_wp2_with fail
    rotate_left
    focus
     have et : t.isEmpty = false := by simpa using ct
     clear ct;go_wp2_with fail
    all_goals
     refine (bw_byte HB2.out _ 62 rfl (by simp only [List.length_append, List.length_cons]; omega)).mono ?_;rintro _ w6 ⟨rfl, hb6, hk6⟩;have HB6 := hid hb6;have HK6 := hid (HKj.out.trans hk6);clear hb6 hk6 hg h2 h3;obtain ⟨hg, h0, h1, h2, h3, _⟩ := HE.out.fresh HB6.out.frs;replace h3 : w6.cell? ⟨ge, oe + 3, none⟩ = some (.string ⟨t.toArray⟩) := h3;clear et
     try clear d2
     clear h0 h1 h2;go_wp2_with fail
     refine (escape_any _ w0 g _ w6 HB6.out (by simp only [List.length_append, List.length_cons, List.length_nil]; omega) htl).mono ?_;rintro _ w7 ⟨rfl, hb7, hk7⟩;have HB7 := hid hb7;have HK7 := hid (HK6.out.trans hk7);clear hb7 hk7 hg h3;obtain ⟨hg, h0, h1, h2, h3, _⟩ := HE.out.fresh HB7.out.frs;replace h2 : w7.cell? ⟨ge, oe + 2, none⟩ = some (.slice B ks.length cb) := h2;clear h0 h1 h3;go_wp2_with fail
     clear hg h2
     go_loopw [64] (fun i wr => ∃ j : Nat, i = .int .i64 j ∧ j ≤ ks.length ∧ Hid (BW w0 g (l ++ (60 :: n) ++ attrsW ats ++ [62] ++ escL t ++ writeL (ks.take j)) wr) ∧ Hid (Kb w wr)) (fun i _ => ks.length - (intOf i).toNat)
     case atStart => exact ⟨0, rfl, Nat.zero_le _, hid (by simpa [El.writeL] using HB7.out), HK7⟩
     case round =>
      obtain ⟨j, rfl, hj, HBj, HKj⟩ := hrel;rename_i wr _
      by_cases c1 : j < ks.length
      ·have d1 : decide ((j : Int) < (ks.length : Int)) = true := dT (by omega)
       have d1' : (j : Int) < (ks.length : Int) := by omega
       obtain ⟨gk, ok, wa, wk, rfl, hek⟩ := (show RepE w0 ks _ from HE.out.2.2.2.2.2.2.1).elAt j c1;have HS := hid (El.writeL_snoc ks j c1)
       have hsm : (writeL (ks.take j)).length + (writeE ks[j]).length ≤ (writeL ks).length := by
        rw [← List.length_append, ← HS.out]; exact El.writeL_le ks (j + 1)
       obtain ⟨hg, h0, h1, h2, h3, _⟩ := HE.out.fresh HBj.out.frs;replace h2 : wr.cell? ⟨ge, oe + 2, none⟩ = some (.slice (some ⟨gk, ok, none⟩) ks.length cb) := h2;have HC := hid (HIH.out ks[j] (List.getElem_mem c1) w0 gk (ok + j * 4) g wa wk _ wr hek HBj.out (by simp only [List.length_append, List.length_cons, List.length_nil]; omega));clear h0 h1 h3 hek;generalize ks[j] = x at *;go_wp2_with fail
       refine HC.out.mono ?_;rintro _ w8 ⟨rfl, hb8, hk8⟩;have HB8 := hid (show BW w0 g (l ++ (60 :: n) ++ attrsW ats ++ [62] ++ escL t ++ writeL (ks.take (j + 1))) w8 by rw [HS.out, ← List.append_assoc]; exact hb8);have HK8 := hid (HKj.out.trans hk8);clear hb8 hk8 hg h2;go_wp2_with fail
       go_roundw
       case rel => exact ⟨j + 1, by go_num, c1, HB8, HK8⟩
       case measure => simp [intOf]; omega
      ·have d1 : decide ((j : Int) < (ks.length : Int)) = false := dF (by omega)
       obtain rfl : j = ks.length := by omega
       have HB8 := hid (show BW w0 g (l ++ (60 :: n) ++ attrsW ats ++ [62] ++ escL t ++ writeL ks) wr by have := HBj.out; rwa [List.take_length] at this);obtain ⟨hg, h0, h1, h2, h3, _⟩ := HE.out.fresh HB8.out.frs;replace h0 : wr.cell? ⟨ge, oe, none⟩ = some (.string ⟨n.toArray⟩) := h0;have hadd := fun W : World => run_string_add_lists (P := Try.prog) W [60, 47] n (by simp) (by omega)
       have hadd2 := fun W : World => run_string_add_lists (P := Try.prog) W ([60, 47] ++ n) [62] (by simp; omega) (by simp)
       clear h1 h2 h3 d1 hj;go_wp2_with fail
       rw [show ((⟨(60 :: 47 :: n).toArray⟩ : ByteArray) ++ ⟨#[62]⟩) = ⟨(60 :: 47 :: (n ++ [62])).toArray⟩ from by apply ByteArray.ext; simp [ByteArray.data_append]];refine (bw_str HB8.out (60 :: 47 :: (n ++ [62])) (by simp only [List.length_append, List.length_cons, List.length_nil]; omega)).mono ?_;rintro _ w9 ⟨rfl, hb9, hk9⟩;have HB9 := hid hb9;have HK9 := hid (HKj.out.trans hk9);clear hb9 hk9;go_wp2_with fail
       go_end0
       exact ⟨rfl, by rw [HW2.out]; simpa [List.append_assoc] using HB9.out, HK9.out⟩
theorem write_any (e : E) : WriteC e := El.E.ind (p := WriteC) write_step e
end Go.Proofs.Ytloipakdnalpdaa
namespace Go.Proofs.Ytloipakdnalpdaa
open Go.RowKit
open El (E Attrs writeE)
def printX (e : E) : List UInt8 := if El.valid e then writeE e else []
def printXEr (e : E) : Int := if El.valid e then 0 else 1
theorem xPrint_any (e : E) (va vk : Value) (w : World) (hr : RepV w e va vk) (hl : El.valid e = true → (writeE e).length ≤ 8000000) :
  Calls Try.prog 27 #[ev e va vk] w fun x w' => x = .returned (.tuple #[.string ⟨(printX e).toArray⟩, .int .i64 (printXEr e)]) ∧ Fresh w w' := by
 have HV := hid (fun (w : World) (h : RepV w e va vk) => xValid_any e va vk w h);obtain ⟨A, ca, hva⟩ := hr.1.slice;obtain ⟨B, cb, hvk⟩ := hr.2.1.slice;have HR := hid hr;have HL := hid hl;have HX := hid (write_any e);have HPX := hid (show printX e = if El.valid e then writeE e else [] from rfl);have HPE := hid (show printXEr e = if El.valid e then 0 else 1 from rfl);subst hva;subst hvk;clear hr hl;obtain ⟨n, ats, ks, t⟩ := e;unfold ev at *;simp only [E.name, E.attrs, E.kids, E.text] at *;cases hv : El.valid (.mk n ats ks t) with
 | false =>
  have HP := hid (show printX (.mk n ats ks t) = [] by rw [HPX.out, hv]; rfl);have HE := hid (show printXEr (.mk n ats ks t) = 1 by rw [HPE.out, hv]; rfl);rw [HP.out, HE.out];go_enter Try.func27, Try.ntmps27;go_wp2_with fail
  refine (HV.out _ (HR.out.fresh ((Touch.refl _ w).alloc _))).mono ?_;rintro _ w1 ⟨rfl, hf⟩;rw [hv];have HF := hid (Touch.pre hf);clear hf;go_wp2_with fail
  go_ret2;exact ⟨rfl, HF.out⟩
 | true =>
  have HP := hid (show printX (.mk n ats ks t) = writeE (.mk n ats ks t) by rw [HPX.out, hv]; rfl);have HE := hid (show printXEr (.mk n ats ks t) = 0 by rw [HPE.out, hv]; rfl);rw [HP.out, HE.out];have HL2 := hid (HL.out hv);go_enter Try.func27, Try.ntmps27;go_wp2_with fail
  refine (HV.out _ (HR.out.fresh ((Touch.refl _ w).alloc _))).mono ?_;rintro _ w1 ⟨rfl, hf⟩;rw [hv];have HF := hid (Touch.pre hf);have hb0 := hf.blk (Blk.new w 30 #[.string ⟨n.toArray⟩, .slice A ats.length ca, .slice B ks.length cb, .string ⟨t.toArray⟩]) (fun h => h);obtain ⟨q0, q1, q2, q3, _, _, _, _, hg⟩ := Blk.four hb0;have HE0 := hid (show ElAt w1 w.heap.size 0 (.mk n ats ks t) (.slice A ats.length ca) (.slice B ks.length cb) from ⟨hg, q0, q1, q2, q3, HR.out.fresh HF.out⟩);clear hf hb0 q0 q1 q2 q3 hg;go_wp2_with fail
  refine (HX.out w1 w.heap.size 0 w1.heap.size _ _ [] _ HE0.out (bw_new w1 w1 (Touch.refl _ _)) (by simpa using HL2.out)).mono ?_;rintro _ w2 ⟨rfl, hb2, _⟩;have HB2 := hid hb2;clear hb2;go_wp2_with fail
  refine (bw_string HB2.out).mono ?_;rintro _ w3 ⟨rfl, hf3, _⟩;have HF3 := hid (HF.out.trans hf3);clear hf3;go_wp2_with fail
  go_ret2;exact ⟨rfl, HF3.out⟩
end Go.Proofs.Ytloipakdnalpdaa
namespace Go.Proofs.Ytloipakdnalpdaa
open Go.RowKit Go.Maps
theorem strKeys : Keyed Try.prog 9 := string_keyed Try.underlying9
section
variable {H : Type}
def rkL : List (List UInt8 × Int) := [(El.nMfrac, 5), (El.nMsub, 7), (El.nMsup, 8), (El.nMsubsup, 9)]
def rkD : DataW H := rkL.foldl (fun D x => D.put (.string x.1) (.lit (.int .i64 x.2))) (.map [])
theorem rkD_is : (rkD : DataW H) = .map [(.string El.nMfrac, .lit (.int .i64 5)), (.string El.nMsub, .lit (.int .i64 7)), (.string El.nMsubsup, .lit (.int .i64 9)), (.string El.nMsup, .lit (.int .i64 8))] := by rfl
theorem rkD_at (x : List UInt8) (zd : DataW H) : (rkD : DataW H).atKey (.string x) zd = match rkL.find? (·.1 == x) with | some y => .lit (.int .i64 y.2) | none => zd := by
 rw [rkD_is]
 by_cases h1 : El.nMfrac = x
 ·subst h1; rfl
 by_cases h2 : El.nMsub = x
 ·subst h2; rfl
 by_cases h3 : El.nMsup = x
 ·subst h3; rfl
 by_cases h4 : El.nMsubsup = x
 ·subst h4; rfl
 have b1 : (El.nMfrac == x) = false := beq_eq_false_iff_ne.2 h1;have b2 : (El.nMsub == x) = false := beq_eq_false_iff_ne.2 h2;have b3 : (El.nMsup == x) = false := beq_eq_false_iff_ne.2 h3;have b4 : (El.nMsubsup == x) = false := beq_eq_false_iff_ne.2 h4;simp only [DataW.atKey, Lit.sameKey, rkL, List.find?_cons, List.find?_nil, b1, b2, b3, b4]
theorem rkD_entry (x : List UInt8) (c : Int) (h : ∀ zd, (rkD : DataW H).atKey (.string x) zd = .lit (.int .i64 c)) : rkL.find? (·.1 == x) = some (x, c) := by
 have h1 := h (.lit (.int .i64 (c + 1)));rw [rkD_at] at h1;cases hf : rkL.find? (·.1 == x) with
 | none =>
  rw [hf] at h1;simp only [DataW.lit.injEq, Lit.int.injEq, true_and] at h1;omega
 | some y =>
  rw [hf] at h1;simp only [DataW.lit.injEq, Lit.int.injEq, true_and] at h1;have h2 := List.find?_some hf;simp only [beq_iff_eq] at h2;subst h1 h2;rfl
end
section
variable {w : World}
theorem keyOf_strs (x : List UInt8) (h : x.length ≤ maxLen) : keyOf Try.prog 9 (.string ⟨x.toArray⟩) = some (.string x) := by
 have hs : (⟨x.toArray⟩ : ByteArray).size ≤ maxLen := by show x.toArray.size ≤ _; simpa using h
 simp [keyOf, Try.underlying9, mapKey, hs]
theorem rowKinds_any (H : Type) (w : World) : Calls Try.prog 51 #[] w fun e w' => e = .returned (.map (some w.heap.size)) ∧ w'.ownsMap (H := H) Try.prog 9 (plainElem Try.prog 3) w.heap.size 4 rkD ∧ Fresh w w' := by
 have hmm : ∀ W : World, (Instr.makeMap 83 none).run Try.prog W = .ok (.map (some W.heap.size)) (W.alloc (.map #[] 0)) := fun W => run_makeMap_plain W 83
 have hw : ∀ n : Int, (Lit.int .i64 n).wf = true → plainElem (H := H) Try.prog 3 (.int .i64 n) = some (.lit (.int .i64 n), []) := fun n h => plainElem_int Try.underlying3 h
 obtain ⟨w1, r1, o1, g1⟩ := (World.ownsMap_made (H := H) w Try.prog 9 (plainElem Try.prog 3)).update strKeys Try.underlying83 (by decide) (keyOf_strs El.nMfrac (by decide)) (hw 5 (by decide));obtain ⟨w2, r2, o2, g2⟩ := o1.update strKeys Try.underlying83 (by decide) (keyOf_strs El.nMsub (by decide)) (hw 7 (by decide));obtain ⟨w3, r3, o3, g3⟩ := o2.update strKeys Try.underlying83 (by decide) (keyOf_strs El.nMsup (by decide)) (hw 8 (by decide));obtain ⟨w4, r4, o4, g4⟩ := o3.update strKeys Try.underlying83 (by decide) (keyOf_strs El.nMsubsup (by decide)) (hw 9 (by decide));have hf : Fresh w w4 := (((((Touch.refl _ w).alloc (.map #[] 0)).grown g1 (fun k hk => .inr (by cases hk; exact Nat.le_refl _))).grown g2 (fun k hk => .inr (by cases hk; exact Nat.le_refl _))).grown g3 (fun k hk => .inr (by cases hk; exact Nat.le_refl _))).grown g4 (fun k hk => .inr (by cases hk; exact Nat.le_refl _));have HF := hid hf;have HO := hid o4;simp only [El.nMfrac, El.nMsub, El.nMsup, El.nMsubsup] at r1 r2 r3 r4;clear o1 o2 o3 o4 g1 g2 g3 g4 hf hw;go_enter Try.func51, Try.ntmps51;go_wp2_with fail
 go_ret;exact ⟨rfl, HO.out, HF.out⟩
end
end Go.Proofs.Ytloipakdnalpdaa
namespace Go.Proofs.Ytloipakdnalpdaa
open Go.RowKit
abbrev Low (W0 w : World) : Prop := Touch (fun k => W0.heap.size ≤ k) W0 w
theorem low_no {W0 : World} {q : Addr} {v : Value} (h : W0.cell? q = some v) : ¬ W0.heap.size ≤ q.block := by
 have := bL (a := q) (v := v) h;omega
theorem Low.cell {W0 w : World} (hl : Low W0 w) {q : Addr} {v : Value} (h : W0.cell? q = some v) : w.cell? q = some v := Touch.cell hl h (low_no h)
theorem low4 {w w' : World} {a b c d : Addr} {x y z u : Value} (h : Low w w') (h0 : w.cell? a = some x) (h1 : w.cell? b = some y) (h2 : w.cell? c = some z) (h3 : w.cell? d = some u) :
  w'.cell? a = some x ∧ w'.cell? b = some y ∧ w'.cell? c = some z ∧ w'.cell? d = some u := ⟨h.cell h0, h.cell h1, h.cell h2, h.cell h3⟩
theorem Low.fresh {W0 w w' : World} (hl : Low W0 w) (hf : Fresh w w') : Low W0 w' := hl.trans' hf fun _ h => h.elim
theorem RepL.low {W0 w : World} {ks : List Tr.Nd} {v : Value} (h : RepL W0 ks v) (hl : Low W0 w) : RepL w ks v := by
 induction h with
 | nil A cap => exact .nil A cap
 | row g o cap ks sl hg hln ht h0 h1 h2 h3 hk ih =>
  exact .row g o cap ks sl (Nat.lt_of_lt_of_le hg hl.size) hln ht (fun i hi => hl.cell (h0 i hi)) (fun i hi => hl.cell (h1 i hi)) (fun i hi => hl.cell (h2 i hi)) (fun i hi => hl.cell (h3 i hi)) ih
abbrev nv (n : Tr.Nd) (sl : Value) : Value := .agg #[.int .i64 n.kind, .string ⟨n.text.toArray⟩, .int .i64 n.cols, sl]
theorem owns_type {w : World} {B e size n g : Nat} {v : Value} {xs : List Value} (h : w.ownsRow B e size v n xs) (hg : v.ownBlock = some g) : B ≤ g ∧ ∃ cur, w.heap[g]? = some (.cells cur e (0, 0)) := by
 rcases h.2 with ⟨h1, _⟩ | ⟨g', cap, cur, h1, h2, h3, _⟩
 ·rw [h1] at hg; cases hg
 ·rw [h1] at hg
  simp only [Value.ownBlock, Option.some.injEq] at hg;subst hg;exact ⟨h2, cur, h3⟩
end Go.Proofs.Ytloipakdnalpdaa
namespace Go.Proofs.Ytloipakdnalpdaa
open Go.RowKit
open Tr (Nd)
open El (E elE elK mrow)
attribute [local go_sem] stillV stillUpon
def MakesE (w w' : World) (e : E) (v : Value) : Prop := ∃ va vk, v = ev e va vk ∧ Fresh w w' ∧ Stab (fun k => k < w.heap.size) w' fun W => RepV W e va vk
def ElementC (n : Nd) : Prop := ∀ (sl : Value) (w : World), Tr.count n ≤ 100000 → RepL w n.kids sl → Calls Try.prog 30 #[nv n sl] w fun e w' => ∃ v, e = .returned v ∧ MakesE w w' (elE n) v
def rowsE (nm : List UInt8) (ks : List Nd) : List E := ks.map fun n => mrow nm (elK n.kids)
def RowsC (ks : List Nd) : Prop := ∀ (nm : List UInt8) (sl : Value) (w : World), nm.length ≤ maxLen → Tr.countL ks ≤ 100000 → RepL w ks sl → Calls Try.prog 49 #[.string ⟨nm.toArray⟩, sl] w fun e w' => ∃ v, e = .returned v ∧ MakesE w w' (mrow nm (rowsE El.nMrow ks)) v
theorem rowsE_len (nm : List UInt8) (l : List Nd) : (rowsE nm l).length = l.length := List.length_map _
theorem rowsE_take (nm : List UInt8) (l : List Nd) (j : Nat) (h : j < l.length) : (rowsE nm l).take j ++ [mrow nm (elK l[j].kids)] = (rowsE nm l).take (j + 1) := by
 unfold rowsE;rw [List.take_add_one, List.getElem?_map, List.getElem?_eq_getElem h];rfl
def RowC (n : Nd) : Prop := ∀ (nm : List UInt8) (sl : Value) (w : World), nm.length ≤ maxLen → Tr.count n ≤ 100000 → RepL w n.kids sl → Calls Try.prog 18 #[.string ⟨nm.toArray⟩, nv n sl] w fun e w' => ∃ v, e = .returned v ∧ MakesE w w' (mrow nm (elK n.kids)) v
theorem GrowE.base {B : Nat} {w : World} {es : List E} {v : Value} (h : GrowE B w es v) : B ≤ w.heap.size := h.1
theorem elK_len (l : List Nd) : (elK l).length = l.length := by rw [El.elK_map, List.length_map]
theorem elK_take (l : List Nd) (j : Nat) (h : j < l.length) : (elK l).take j ++ [elE l[j]] = (elK l).take (j + 1) := by
 rw [El.elK_map, List.take_add_one, List.getElem?_map, List.getElem?_eq_getElem h];rfl
theorem mkrow_any (n : Nd) (ih : ∀ x ∈ n.kids, ElementC x) : RowC n := by
 intro nm sl w hnm hc hsl;have hcl : Tr.countL n.kids ≤ 100000 := by have := Tr.count_kids n; omega
 obtain ⟨A, cap, rfl⟩ := hsl.slice;have HSL := hid hsl;have HIH := hid ih;have HNM := hid hnm;have hkl := Tr.countL_len n.kids;clear hc;generalize hks : n.kids = ks at *;have HKS := hid hks;clear hsl ih hnm hks;go_enter Try.func18, Try.ntmps18;go_wp2_with fail
 refine forget_world (fun W => Fresh w W ∧ W.heap.size = w.heap.size + 3 ∧ Blk W (w.heap.size + 1) 30 #[.string ⟨#[]⟩, .slice none 0 0, .slice none 0 0, .string ⟨#[]⟩] ∧ Blk W (w.heap.size + 1 + 1) 30 #[.string ⟨nm.toArray⟩, .slice none 0 0, .slice none 0 0, .string ⟨#[]⟩]) ⟨(((Touch.refl _ _).alloc _).alloc _).alloc _, by simp, (Blk.new2 w _ 30 _).alloc _, Blk.new3' _ _ _ _ _⟩ ?_;rintro W1 ⟨hf1, hs1, hbr1, hbe1⟩;have HF1 := hid hf1;have HBR1 := hid hbr1;have HBE1 := hid hbe1;have HS1 := hid hs1;have HG1 := hid (show GrowE (w.heap.size + 3) W1 ((elK ks).take 0) (.slice none 0 0) by rw [List.take_zero]; exact GrowE.nil (by omega));clear hf1 hbr1 hbe1 hs1
 go_loopw [13] (fun i wr => ∃ (j : Nat) (Ae : Option Addr) (ce : Nat), i = .int .i64 j ∧ j ≤ ks.length ∧ Hid (Blk wr (w.heap.size + 1) 30 #[.string ⟨#[]⟩, .slice none 0 0, .slice none 0 0, .string ⟨#[]⟩]) ∧ Hid (Blk wr (w.heap.size + 1 + 1) 30 #[.string ⟨nm.toArray⟩, .slice none 0 0, .slice Ae j ce, .string ⟨#[]⟩]) ∧ Hid (GrowE (w.heap.size + 3) wr ((elK ks).take j) (.slice Ae j ce)) ∧ Hid (Fresh w wr)) (fun i _ => ks.length - (intOf i).toNat)
 case atStart => exact ⟨0, none, 0, rfl, Nat.zero_le _, HBR1, HBE1, HG1, HF1⟩
 case round =>
  obtain ⟨j, Ae, ce, rfl, hj, HBR, HBE, HG, HF⟩ := hrel;rename_i wr _
  by_cases c1 : j < ks.length
  ·have d1 : decide ((j : Int) < (ks.length : Int)) = true := dT (by omega)
   have d1n : decide (j < ks.length) = true := dT c1;have d1' : (j : Int) < (ks.length : Int) := by omega
   obtain ⟨g, o, sx, hA, hg, m0, m1, m2, m3, hrx⟩ := HSL.out.get j c1;cases hA;obtain ⟨Ax, cx, rfl⟩ := hrx.slice;have e0 := HF.out.cell m0 (fun h => h);have e1 := HF.out.cell m1 (fun h => h);have e2 := HF.out.cell m2 (fun h => h);have e3 := HF.out.cell m3 (fun h => h);have hgl : g < wr.heap.size := Nat.lt_of_lt_of_le hg HF.out.size;have HRX := hid (hrx.fresh HF.out);have HMEM := hid (List.getElem_mem c1);have HLN := hid (show ((elK ks).take j).length = j by rw [List.length_take, elK_len]; omega);clear m0 m1 m2 m3 hg hrx;go_wp2_with fail
   have k0 := cR ((HBE.out.alloc (.cells #[.int .i64 ks[j].kind, .string ⟨ks[j].text.toArray⟩, .int .i64 ks[j].cols, .slice Ax ks[j].kids.length cx] 24)).cell 2 |>.trans rfl);have j0 := cR ((Blk.new wr 24 #[.int .i64 ks[j].kind, .string ⟨ks[j].text.toArray⟩, .int .i64 ks[j].cols, .slice Ax ks[j].kids.length cx]).cell 0 |>.trans rfl);have j1 := cR ((Blk.new wr 24 #[.int .i64 ks[j].kind, .string ⟨ks[j].text.toArray⟩, .int .i64 ks[j].cols, .slice Ax ks[j].kids.length cx]).cell 1 |>.trans rfl);have j2 := cR ((Blk.new wr 24 #[.int .i64 ks[j].kind, .string ⟨ks[j].text.toArray⟩, .int .i64 ks[j].cols, .slice Ax ks[j].kids.length cx]).cell 2 |>.trans rfl);have j3 := cR ((Blk.new wr 24 #[.int .i64 ks[j].kind, .string ⟨ks[j].text.toArray⟩, .int .i64 ks[j].cols, .slice Ax ks[j].kids.length cx]).cell 3 |>.trans rfl);have HG5 := hid (HG.out.fresh ((Touch.refl _ wr).alloc (.cells #[.int .i64 ks[j].kind, .string ⟨ks[j].text.toArray⟩, .int .i64 ks[j].cols, .slice Ax ks[j].kids.length cx] 24)));have HBE5 := hid (HBE.out.alloc (.cells #[.int .i64 ks[j].kind, .string ⟨ks[j].text.toArray⟩, .int .i64 ks[j].cols, .slice Ax ks[j].kids.length cx] 24));have HBR5 := hid (HBR.out.alloc (.cells #[.int .i64 ks[j].kind, .string ⟨ks[j].text.toArray⟩, .int .i64 ks[j].cols, .slice Ax ks[j].kids.length cx] 24));have HF5 := hid (HF.out.alloc (.cells #[.int .i64 ks[j].kind, .string ⟨ks[j].text.toArray⟩, .int .i64 ks[j].cols, .slice Ax ks[j].kids.length cx] 24));have HRX5 := hid (HRX.out.fresh ((Touch.refl _ wr).alloc (.cells #[.int .i64 ks[j].kind, .string ⟨ks[j].text.toArray⟩, .int .i64 ks[j].cols, .slice Ax ks[j].kids.length cx] 24)));generalize (wr.alloc (.cells #[.int .i64 ks[j].kind, .string ⟨ks[j].text.toArray⟩, .int .i64 ks[j].cols, .slice Ax ks[j].kids.length cx] 24)) = W5 at k0 j0 j1 j2 j3 HG5 HBE5 HBR5 HF5 HRX5 ⊢;obtain ⟨bx, hbx⟩ : ∃ b, b = wr.heap.size := ⟨_, rfl⟩;rw [← hbx] at j0 j1 j2 j3 ⊢;clear e0 e1 e2 e3 hgl hbx;refine wp_region_mix [([(0, true), (1, true), (2, true), (3, false), (4, false)], 5), ([(6, true)], 7)] [] (by kernel_rfl) (fun _ _ d _ _ h => by cases d <;> exact h) (by kernel_rfl) ?_;refine wpMix_seg ?_
   repeat (refine wpSeq_plain rfl (fun K hK => ?_); go_simp; refine hK _ ?_; clear hK K)
   clear k0 j0 j1 j2 j3;refine wpSeq_lone rfl (fun K hK => ?_);go_wp2_with fail
   refine (HIH.out ks[j] HMEM.out _ _ (by have := Tr.count_mem HMEM.out; omega) (HRX5.out.fresh ((Touch.refl _ _).drewN 1))).mono ?_;rintro _ w6 ⟨v6, rfl, va, vk, rfl, hf6, hst6⟩;have HF6 := hid (show Fresh W5 w6 from ((Touch.refl _ W5).drewN 1).trans hf6);have HST6 := hid (show Stab (fun k => k < W5.heap.size) w6 fun W => RepV W (elE ks[j]) va vk from hst6);obtain ⟨Aa, ca, rfl⟩ := hst6.now.1.slice;obtain ⟨Ak, ck, rfl⟩ := hst6.now.2.1.slice;clear hf6 hst6;go_wp2_with fail
   refine hK _ _ (growing_fresh HF6.out) ?_;clear hK K;refine wpSeq_lone rfl (fun K hK => ?_);go_wp2_with fail
   refine hK _ _ (growing_fresh (HF6.out.alloc _)) ?_;clear hK K;have HBV := hid (Blk.new w6 30 #[.string ⟨(elE ks[j]).name.toArray⟩, .slice Aa (elE ks[j]).attrs.length ca, .slice Ak (elE ks[j]).kids.length ck, .string ⟨(elE ks[j]).text.toArray⟩]);have HF7 := hid (HF6.out.alloc (.cells #[.string ⟨(elE ks[j]).name.toArray⟩, .slice Aa (elE ks[j]).attrs.length ca, .slice Ak (elE ks[j]).kids.length ck, .string ⟨(elE ks[j]).text.toArray⟩] 30));have HST7 := hid (HST6.out.fresh ((Touch.refl _ w6).alloc (.cells #[.string ⟨(elE ks[j]).name.toArray⟩, .slice Aa (elE ks[j]).attrs.length ca, .slice Ak (elE ks[j]).kids.length ck, .string ⟨(elE ks[j]).text.toArray⟩] 30)));generalize (w6.alloc (.cells #[.string ⟨(elE ks[j]).name.toArray⟩, .slice Aa (elE ks[j]).attrs.length ca, .slice Ak (elE ks[j]).kids.length ck, .string ⟨(elE ks[j]).text.toArray⟩] 30)) = w7 at HBV HF7 HST7 ⊢;have HG7 := hid (HG5.out.fresh HF7.out);have HOW := hid HG5.out.own_lt;have HBE7 := hid (HF7.out.blk HBE5.out fun h => h);have HBR7 := hid (HF7.out.blk HBR5.out fun h => h);have HB5 := hid HG5.out.base;refine wpSeq_shut rfl (fun K hK => ?_)
   go_wp2_with (at_builtin; go_loud (refine wpList_append_elem rfl (.tmp 18) (.tmp 21) rfl HG7.out HLN.out (by simp [Act.eval]) (elE ks[j]) HBV.out (by simp [Act.eval]) W5.heap.size HB5.out (fun k hk => (HOW.out k hk).2) HST7.out (by omega) ?_); intro A8 c8 w8 hg8 ht8 _; refine Stay.mk ?_)
   have HG8 := hid hg8;have HBE8 := hid (ht8.blk HBE7.out fun h => by have := (HOW.out _ h).1; omega);have HBR8 := hid (ht8.blk HBR7.out fun h => by have := (HOW.out _ h).1; omega);have HF8 := hid (show Fresh w w8 from (HF5.out.trans HF7.out).trans' ht8 fun k hk => .inr (by have := (HOW.out _ hk).1; omega));clear hg8 ht8;obtain ⟨q0, q1, q2, q3, z0, z1, z2, z3, hlt⟩ := Blk.four HBE8.out;refine Stay.go ?_;go_wp2_with fail
   refine wpMix_seg ?_
   repeat (refine wpSeq_plain rfl (fun K hK => ?_); go_simp; refine hK _ ?_; clear hK K)
   refine wpSeq_shut rfl (fun K hK => ?_);go_wp2_with fail
   refine wpMix_end ?_;go_wp2_with fail
   have hg9 := HG8.out.mv ((Touch.refl (fun k => k = (w.heap.size + 1 + 1)) w8).setCell (p := ⟨(w.heap.size + 1 + 1), 2, none⟩) (.inl rfl) (.slice A8 (j + 1) c8)) (fun k hk _ => by omega);rw [elK_take ks j c1] at hg9;exact ⟨⟨j + 1, A8, c8, by simp, by omega, HBR8.out.far (p := ⟨(w.heap.size + 1 + 1), 2, none⟩) (by simp) _, HBE8.out.put 2 _, hg9, HF8.out.setCell (p := ⟨(w.heap.size + 1 + 1), 2, none⟩) (.inr (by show w.heap.size ≤ (w.heap.size + 1 + 1); omega)) _⟩, by simp [intOf]; omega⟩
  ·have d1 : decide ((j : Int) < (ks.length : Int)) = false := dF (by omega)
   have d1n : decide (j < ks.length) = false := dF c1;obtain rfl : j = ks.length := by omega
   obtain ⟨q0, q1, q2, q3, _, _, _, _, hlt⟩ := Blk.four HBE.out;obtain ⟨p0, p1, p2, p3, y0, y1, y2, y3, hlp⟩ := Blk.four HBR.out;have hg9 := HG.out.mv ((Touch.refl (fun k => k = (w.heap.size + 1)) wr).put4 (.inl rfl) (.string ⟨nm.toArray⟩) (.slice none 0 0) (.slice Ae ks.length ce) (.string ⟨#[]⟩)) (fun k hk _ => by omega);rw [List.take_of_length_le (by rw [elK_len]; exact Nat.le_refl _)] at hg9;have HG9 := hid hg9;obtain ⟨r0, r1, r2, r3, _, _, _, _, _⟩ := Blk.four (HBR.out.self4 (.string ⟨nm.toArray⟩) (.slice none 0 0) (.slice Ae ks.length ce) (.string ⟨#[]⟩));simp only [put4] at r0 r1 r2 r3;clear hg9;go_wp2_with fail
   refine bodyPost_ret (v := .agg #[.string ⟨nm.toArray⟩, .slice none 0 0, .slice Ae ks.length ce, .string ⟨#[]⟩]) (by simp [results, Try.results18, go_sem, r0, r1, r2, r3]) rfl ?_;refine ⟨_, rfl, .slice none 0 0, .slice Ae ks.length ce, rfl, Touch.put4 HF.out (.inr (by omega)) _ _ _ _, ?_⟩;exact (HG9.out.done.mono fun i _ hi => by omega).imp fun W hW => ⟨RepA.nil _ _ _, hW, HNM.out, Nat.zero_le _⟩
theorem mkrows_any (ks0 : List Nd) (ih : ∀ x ∈ ks0, RowC x) : RowsC ks0 := by
 intro nm sl w hnm hcl hsl;obtain ⟨A, cap, rfl⟩ := hsl.slice;have HSL := hid hsl;have HIH := hid ih;have HNM := hid hnm;have hkl := Tr.countL_len ks0;generalize hks : ks0 = ks at *;have HKS := hid hks;clear hsl ih hnm hks;go_enter Try.func49, Try.ntmps49;go_wp2_with fail
 refine forget_world (fun W => Fresh w W ∧ W.heap.size = w.heap.size + 2 ∧ Blk W w.heap.size 30 #[.string ⟨#[]⟩, .slice none 0 0, .slice none 0 0, .string ⟨#[]⟩] ∧ Blk W (w.heap.size + 1) 30 #[.string ⟨nm.toArray⟩, .slice none 0 0, .slice none 0 0, .string ⟨#[]⟩]) ⟨((Touch.refl _ _).alloc _).alloc _, by simp, (Blk.new w 30 _).alloc _, Blk.new2 w _ 30 _⟩ ?_;rintro W1 ⟨hf1, hs1, hbr1, hbe1⟩;have HF1 := hid hf1;have HBR1 := hid hbr1;have HBE1 := hid hbe1;have HS1 := hid hs1;have HG1 := hid (show GrowE (w.heap.size + 2) W1 ((rowsE El.nMrow ks).take 0) (.slice none 0 0) by rw [List.take_zero]; exact GrowE.nil (by omega));clear hf1 hbr1 hbe1 hs1
 go_loopw [12] (fun i wr => ∃ (j : Nat) (Ae : Option Addr) (ce : Nat), i = .int .i64 j ∧ j ≤ ks.length ∧ Hid (Blk wr w.heap.size 30 #[.string ⟨#[]⟩, .slice none 0 0, .slice none 0 0, .string ⟨#[]⟩]) ∧ Hid (Blk wr (w.heap.size + 1) 30 #[.string ⟨nm.toArray⟩, .slice none 0 0, .slice Ae j ce, .string ⟨#[]⟩]) ∧ Hid (GrowE (w.heap.size + 2) wr ((rowsE El.nMrow ks).take j) (.slice Ae j ce)) ∧ Hid (Fresh w wr)) (fun i _ => ks.length - (intOf i).toNat)
 case atStart => exact ⟨0, none, 0, rfl, Nat.zero_le _, HBR1, HBE1, HG1, HF1⟩
 case round =>
  obtain ⟨j, Ae, ce, rfl, hj, HBR, HBE, HG, HF⟩ := hrel;rename_i wr _
  by_cases c1 : j < ks.length
  ·have d1 : decide ((j : Int) < (ks.length : Int)) = true := dT (by omega)
   have d1n : decide (j < ks.length) = true := dT c1;have d1' : (j : Int) < (ks.length : Int) := by omega
   obtain ⟨g, o, sx, hA, hg, m0, m1, m2, m3, hrx⟩ := HSL.out.get j c1;cases hA;obtain ⟨Ax, cx, rfl⟩ := hrx.slice;have e0 := HF.out.cell m0 (fun h => h);have e1 := HF.out.cell m1 (fun h => h);have e2 := HF.out.cell m2 (fun h => h);have e3 := HF.out.cell m3 (fun h => h);have hgl : g < wr.heap.size := Nat.lt_of_lt_of_le hg HF.out.size;have HRX := hid (hrx.fresh HF.out);have HMEM := hid (List.getElem_mem c1);have HLN := hid (show ((rowsE El.nMrow ks).take j).length = j by rw [List.length_take, rowsE_len]; omega);clear m0 m1 m2 m3 hg hrx;go_wp2_with fail
   have k0 := cR ((HBE.out.alloc (.cells #[.int .i64 ks[j].kind, .string ⟨ks[j].text.toArray⟩, .int .i64 ks[j].cols, .slice Ax ks[j].kids.length cx] 24)).cell 2 |>.trans rfl);have j0 := cR ((Blk.new wr 24 #[.int .i64 ks[j].kind, .string ⟨ks[j].text.toArray⟩, .int .i64 ks[j].cols, .slice Ax ks[j].kids.length cx]).cell 0 |>.trans rfl);have j1 := cR ((Blk.new wr 24 #[.int .i64 ks[j].kind, .string ⟨ks[j].text.toArray⟩, .int .i64 ks[j].cols, .slice Ax ks[j].kids.length cx]).cell 1 |>.trans rfl);have j2 := cR ((Blk.new wr 24 #[.int .i64 ks[j].kind, .string ⟨ks[j].text.toArray⟩, .int .i64 ks[j].cols, .slice Ax ks[j].kids.length cx]).cell 2 |>.trans rfl);have j3 := cR ((Blk.new wr 24 #[.int .i64 ks[j].kind, .string ⟨ks[j].text.toArray⟩, .int .i64 ks[j].cols, .slice Ax ks[j].kids.length cx]).cell 3 |>.trans rfl);have HG5 := hid (HG.out.fresh ((Touch.refl _ wr).alloc (.cells #[.int .i64 ks[j].kind, .string ⟨ks[j].text.toArray⟩, .int .i64 ks[j].cols, .slice Ax ks[j].kids.length cx] 24)));have HBE5 := hid (HBE.out.alloc (.cells #[.int .i64 ks[j].kind, .string ⟨ks[j].text.toArray⟩, .int .i64 ks[j].cols, .slice Ax ks[j].kids.length cx] 24));have HBR5 := hid (HBR.out.alloc (.cells #[.int .i64 ks[j].kind, .string ⟨ks[j].text.toArray⟩, .int .i64 ks[j].cols, .slice Ax ks[j].kids.length cx] 24));have HF5 := hid (HF.out.alloc (.cells #[.int .i64 ks[j].kind, .string ⟨ks[j].text.toArray⟩, .int .i64 ks[j].cols, .slice Ax ks[j].kids.length cx] 24));have HRX5 := hid (HRX.out.fresh ((Touch.refl _ wr).alloc (.cells #[.int .i64 ks[j].kind, .string ⟨ks[j].text.toArray⟩, .int .i64 ks[j].cols, .slice Ax ks[j].kids.length cx] 24)));generalize (wr.alloc (.cells #[.int .i64 ks[j].kind, .string ⟨ks[j].text.toArray⟩, .int .i64 ks[j].cols, .slice Ax ks[j].kids.length cx] 24)) = W5 at k0 j0 j1 j2 j3 HG5 HBE5 HBR5 HF5 HRX5 ⊢;obtain ⟨bx, hbx⟩ : ∃ b, b = wr.heap.size := ⟨_, rfl⟩;rw [← hbx] at j0 j1 j2 j3 ⊢;clear e0 e1 e2 e3 hgl hbx;refine wp_region_mix [([(0, true), (1, true), (2, true), (3, false), (4, false)], 5), ([(6, true)], 7)] [] (by kernel_rfl) (fun _ _ d _ _ h => by cases d <;> exact h) (by kernel_rfl) ?_;refine wpMix_seg ?_
   repeat (refine wpSeq_plain rfl (fun K hK => ?_); go_simp; refine hK _ ?_; clear hK K)
   clear k0 j0 j1 j2 j3;refine wpSeq_lone rfl (fun K hK => ?_);go_wp2_with fail
   refine (HIH.out ks[j] HMEM.out El.nMrow _ _ (by decide) (by have := Tr.count_mem HMEM.out; omega) (HRX5.out.fresh ((Touch.refl _ _).drewN 1))).mono ?_;rintro _ w6 ⟨v6, rfl, va, vk, rfl, hf6, hst6⟩;have HF6 := hid (show Fresh W5 w6 from ((Touch.refl _ W5).drewN 1).trans hf6);have HST6 := hid (show Stab (fun k => k < W5.heap.size) w6 fun W => RepV W (mrow El.nMrow (elK ks[j].kids)) va vk from hst6);obtain ⟨Aa, ca, rfl⟩ := hst6.now.1.slice;obtain ⟨Ak, ck, rfl⟩ := hst6.now.2.1.slice;clear hf6 hst6;go_wp2_with fail
   refine hK _ _ (growing_fresh HF6.out) ?_;clear hK K;refine wpSeq_lone rfl (fun K hK => ?_);go_wp2_with fail
   refine hK _ _ (growing_fresh (HF6.out.alloc _)) ?_;clear hK K;have HBV := hid (Blk.new w6 30 #[.string ⟨(mrow El.nMrow (elK ks[j].kids)).name.toArray⟩, .slice Aa (mrow El.nMrow (elK ks[j].kids)).attrs.length ca, .slice Ak (mrow El.nMrow (elK ks[j].kids)).kids.length ck, .string ⟨(mrow El.nMrow (elK ks[j].kids)).text.toArray⟩]);have HF7 := hid (HF6.out.alloc (.cells #[.string ⟨(mrow El.nMrow (elK ks[j].kids)).name.toArray⟩, .slice Aa (mrow El.nMrow (elK ks[j].kids)).attrs.length ca, .slice Ak (mrow El.nMrow (elK ks[j].kids)).kids.length ck, .string ⟨(mrow El.nMrow (elK ks[j].kids)).text.toArray⟩] 30));have HST7 := hid (HST6.out.fresh ((Touch.refl _ w6).alloc (.cells #[.string ⟨(mrow El.nMrow (elK ks[j].kids)).name.toArray⟩, .slice Aa (mrow El.nMrow (elK ks[j].kids)).attrs.length ca, .slice Ak (mrow El.nMrow (elK ks[j].kids)).kids.length ck, .string ⟨(mrow El.nMrow (elK ks[j].kids)).text.toArray⟩] 30)));generalize (w6.alloc (.cells #[.string ⟨(mrow El.nMrow (elK ks[j].kids)).name.toArray⟩, .slice Aa (mrow El.nMrow (elK ks[j].kids)).attrs.length ca, .slice Ak (mrow El.nMrow (elK ks[j].kids)).kids.length ck, .string ⟨(mrow El.nMrow (elK ks[j].kids)).text.toArray⟩] 30)) = w7 at HBV HF7 HST7 ⊢;have HG7 := hid (HG5.out.fresh HF7.out);have HOW := hid HG5.out.own_lt;have HBE7 := hid (HF7.out.blk HBE5.out fun h => h);have HBR7 := hid (HF7.out.blk HBR5.out fun h => h);have HB5 := hid HG5.out.base;refine wpSeq_shut rfl (fun K hK => ?_)
   go_wp2_with (at_builtin; go_loud (refine wpList_append_elem rfl (.tmp 17) (.tmp 20) rfl HG7.out HLN.out (by simp [Act.eval]) (mrow El.nMrow (elK ks[j].kids)) HBV.out (by simp [Act.eval]) W5.heap.size HB5.out (fun k hk => (HOW.out k hk).2) HST7.out (by omega) ?_); intro A8 c8 w8 hg8 ht8 _; refine Stay.mk ?_)
   have HG8 := hid hg8;have HBE8 := hid (ht8.blk HBE7.out fun h => by have := (HOW.out _ h).1; omega);have HBR8 := hid (ht8.blk HBR7.out fun h => by have := (HOW.out _ h).1; omega);have HF8 := hid (show Fresh w w8 from (HF5.out.trans HF7.out).trans' ht8 fun k hk => .inr (by have := (HOW.out _ hk).1; omega));clear hg8 ht8;obtain ⟨q0, q1, q2, q3, z0, z1, z2, z3, hlt⟩ := Blk.four HBE8.out;refine Stay.go ?_;go_wp2_with fail
   refine wpMix_seg ?_
   repeat (refine wpSeq_plain rfl (fun K hK => ?_); go_simp; refine hK _ ?_; clear hK K)
   refine wpSeq_shut rfl (fun K hK => ?_);go_wp2_with fail
   refine wpMix_end ?_;go_wp2_with fail
   have hg9 := HG8.out.mv ((Touch.refl (fun k => k = (w.heap.size + 1)) w8).setCell (p := ⟨(w.heap.size + 1), 2, none⟩) (.inl rfl) (.slice A8 (j + 1) c8)) (fun k hk _ => by omega);rw [rowsE_take El.nMrow ks j c1] at hg9;exact ⟨⟨j + 1, A8, c8, by simp, by omega, HBR8.out.far (p := ⟨(w.heap.size + 1), 2, none⟩) (by simp) _, HBE8.out.put 2 _, hg9, HF8.out.setCell (p := ⟨(w.heap.size + 1), 2, none⟩) (.inr (by show w.heap.size ≤ (w.heap.size + 1); omega)) _⟩, by simp [intOf]; omega⟩
  ·have d1 : decide ((j : Int) < (ks.length : Int)) = false := dF (by omega)
   have d1n : decide (j < ks.length) = false := dF c1;obtain rfl : j = ks.length := by omega
   obtain ⟨q0, q1, q2, q3, _, _, _, _, hlt⟩ := Blk.four HBE.out;obtain ⟨p0, p1, p2, p3, y0, y1, y2, y3, hlp⟩ := Blk.four HBR.out;have hg9 := HG.out.mv ((Touch.refl (fun k => k = w.heap.size) wr).put4 (.inl rfl) (.string ⟨nm.toArray⟩) (.slice none 0 0) (.slice Ae ks.length ce) (.string ⟨#[]⟩)) (fun k hk _ => by omega);rw [List.take_of_length_le (by rw [rowsE_len]; exact Nat.le_refl _)] at hg9;have HG9 := hid hg9;obtain ⟨r0, r1, r2, r3, _, _, _, _, _⟩ := Blk.four (HBR.out.self4 (.string ⟨nm.toArray⟩) (.slice none 0 0) (.slice Ae ks.length ce) (.string ⟨#[]⟩));simp only [put4] at r0 r1 r2 r3;clear hg9;go_wp2_with fail
   refine bodyPost_ret (v := .agg #[.string ⟨nm.toArray⟩, .slice none 0 0, .slice Ae ks.length ce, .string ⟨#[]⟩]) (by simp [results, Try.results49, go_sem, r0, r1, r2, r3]) rfl ?_;refine ⟨_, rfl, .slice none 0 0, .slice Ae ks.length ce, rfl, Touch.put4 HF.out (.inr (by omega)) _ _ _ _, ?_⟩;exact (HG9.out.done.mono fun i _ hi => by omega).imp fun W hW => ⟨RepA.nil _ _ _, hW, HNM.out, Nat.zero_le _⟩
end Go.Proofs.Ytloipakdnalpdaa
