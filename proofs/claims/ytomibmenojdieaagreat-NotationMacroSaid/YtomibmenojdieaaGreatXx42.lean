/- Part 42 of 42 of a proof; its texts, joined: NzM, NzN. No condition. -/
import Derived.Test.YtomibmenojdieaaGreatXx41
import Derived.Test.YtomibmenojdieaaGreatXx4
import Derived.SizedLaws
set_option maxRecDepth 100000
set_option maxHeartbeats 8000000
namespace Go.Proofs.YtomibmenojdieaaGreat
open Go.RowKit
open Tr (Nd)
attribute [local go_sem] stillV stillUpon
theorem notationMacro_any (l : List MacD) (A : Option Addr) (cp : Nat) (as_ : List ByteArray) (Aa : Option Addr) (ca : Nat) (sl sr : ByteArray) (w : World) (h : MacRow w A l) (hl : l.length ≤ maxLen) (ha : StrRow w Aa as_) (hla : as_.length ≤ maxLen) (has : ∀ a ∈ as_, a.size ≤ 140737488351232) (hsl : sl.size ≤ 140737488351232) (hsr : sr.size ≤ 140737488351232) :
  Calls Tryz.prog 3 #[.slice A l.length cp, .slice Aa as_.length ca, .agg #[.string sl, .string sr]] w fun e w' => e = .returned (.bool true) ∧ Fresh w w' := by
 have H := hid h;have HL := hid hl;have HA := hid ha;have HLA := hid hla;have HAS := hid has;clear h hl ha hla has;refine Calls.via fun Q hQ => ?_
 have HQ := hid hQ;clear hQ;have HW20 := hid (fun (W : World) (hf : Fresh w W) => few20_any l A cp W (H.out.fresh hf) HL.out);obtain ⟨n, hn⟩ : ∃ n, n = l.length := ⟨_, rfl⟩;have HN := hid hn;rw [← hn] at HW20 ⊢;clear hn;obtain ⟨na, hna⟩ : ∃ n, n = as_.length := ⟨_, rfl⟩;have HNA := hid hna;rw [← hna] at HLA ⊢;clear hna;go_enter Tryz.func3, Tryz.ntmps3;go_wp2_with fail
 have HF0 := hid ((Touch.refl (fun _ => False) w).alloc (.cells #[.string sl, .string sr] 24));have HBS := hid (Blk.new w 24 #[.string sl, .string sr]);generalize hgs : w.heap.size = gs at HBS ⊢;generalize w.alloc (.cells #[.string sl, .string sr] 24) = w0 at HF0 HBS ⊢;refine (awake20_any _).mono ?_;rintro _ w1 ⟨rfl, hf1⟩;have HF1 := hid (HF0.out.trans hf1);have HBS1 := hid (hf1.blk HBS.out fun h => h);clear hf1 HF0 HBS;go_wp2_with fail
 refine (HW20.out _ HF1.out).mono ?_;rintro _ w2 ⟨rfl, hf2⟩;have HF2 := hid (HF1.out.trans hf2);have HBS2 := hid (hf2.blk HBS1.out fun h => h);clear hf2 HF1 HW20 HBS1;obtain ⟨b0, b1, _, _, hg2⟩ := Blk.two HBS2.out;have hAW : Hid (∀ (W : World), Fresh w W → Calls Tryz.prog 4 #[] W fun e w' => e = .returned (.bool true) ∧ Fresh w w') := hid fun W hf => (awake20_any W).mono fun e w' h => ⟨h.1, hf.trans h.2⟩
 cases h20 : few20 l with
 | false =>
  go_wp2_with fail
  refine (hAW.out _ HF2.out).mono ?_;rintro _ w3 ⟨rfl, hf3⟩;have HF3 := hid hf3;clear hf3;go_wp2_with fail
  exact HQ.out _ _ ⟨rfl, HF3.out⟩
 | true =>
 by_cases c0 : n = 0
 ·have d0 : ((n : Int) == (0 : Int)) = true := by simp [c0]
  go_wp2_with fail
  refine (hAW.out _ HF2.out).mono ?_;rintro _ w3 ⟨rfl, hf3⟩;have HF3 := hid hf3;clear hf3;go_wp2_with fail
  exact HQ.out _ _ ⟨rfl, HF3.out⟩
 have d0 : ((n : Int) == (0 : Int)) = false := by simp; omega
 by_cases c4 : 4 < na
 ·have d4 : decide ((4 : Int) < (na : Int)) = true := dT (by omega)
  have d4n : decide (4 < na) = true := dT c4;go_wp2_with fail
  refine (hAW.out _ HF2.out).mono ?_;rintro _ w3 ⟨rfl, hf3⟩;have HF3 := hid hf3;clear hf3;go_wp2_with fail
  exact HQ.out _ _ ⟨rfl, HF3.out⟩
 have d4 : decide ((4 : Int) < (na : Int)) = false := dF (by omega);have d4n : decide (4 < na) = false := dF c4
 by_cases c3 : 300 < sl.size + sr.size
 ·have d3 : decide ((300 : Int) < (sl.size : Int) + (sr.size : Int)) = true := dT (by omega)
  go_wp2_with fail
  refine (hAW.out _ HF2.out).mono ?_;rintro _ w3 ⟨rfl, hf3⟩;have HF3 := hid hf3;clear hf3;go_wp2_with fail
  exact HQ.out _ _ ⟨rfl, HF3.out⟩
 have d3 : decide ((300 : Int) < (sl.size : Int) + (sr.size : Int)) = false := dF (by omega)
 have hn70 : n ≤ 70 := by
  unfold few20 at h20;rw [Bool.and_eq_true, decide_eq_true_iff] at h20;have := h20.2; have := HN.out; omega
 have HBO := hid (show ∀ m ∈ l, m.1.size ≤ 140737488355328 ∧ m.2.2.size ≤ 140737488355328 ∧ (Lx.lexAll m.2.2.data.toList).1.length ≤ 8000 from fun m hm => by
  unfold few20 at h20;rw [Bool.and_eq_true, List.all_eq_true] at h20;have h1 := h20.1 m hm;rw [Bool.and_eq_true, decide_eq_true_iff, decide_eq_true_iff] at h1;have h2 := Lx.lexAll_count m.2.2.data.toList;have h3 : m.2.2.data.toList.length = m.2.2.size := by simp
  refine ⟨by omega, by omega, by omega⟩)
 have HC3 := hid (show sl.size + sr.size ≤ 300 by omega);clear hAW;have HLO := hid (fun (W : World) (hf : Fresh w W) => load_any l A cp W (H.out.fresh hf) (by have := HN.out; omega) HBO.out);rw [← HN.out] at HLO;obtain ⟨m, rfl⟩ : ∃ m, n = m + 1 := ⟨n - 1, by omega⟩;go_wp2_with fail
 refine (HLO.out _ HF2.out).mono ?_;intro e w4 hres;obtain ⟨pt, i1, k1, er1, rfl, hf4, hT⟩ := hres.gen;have HF4 := hid (HF2.out.trans hf4);have HT := hid hT;have HBS4 := hid (hf4.blk HBS2.out fun h => h);clear hres hf4 hT HLO b0 b1 hg2 HF2 HBS2 h20 c0 d0 c4 d4 d4n c3 d3;have hml : m < l.length := by have := HN.out; omega
 obtain ⟨g, f, hAg, hg, q0, q1, q2⟩ := (H.out.fresh HF4.out) m hml;obtain rfl := hAg
 have HEL := hid (show ∀ T, Mcr.loadF [] (l.map defOf) = some T → Mcr.NameOK l[m].1.data.toList ∧ ∃ mc, Mcr.getF T l[m].1.data.toList = some mc ∧ mc.params = l[m].2.1.toNat ∧ 0 ≤ l[m].2.1 ∧ l[m].2.1 ≤ 4 from fun T hT => by
  have e1 : l.map defOf = (l.take m).map defOf ++ [defOf l[m]] := by
   rw [← List.map_singleton, ← List.map_append, ← List.take_succ_eq_append_getElem hml, List.take_of_length_le (by have := HN.out; omega)]
  rw [e1] at hT;exact last_macro hT)
 have hnm := (HBO.out _ (List.getElem_mem hml)).1;clear H HL HBO hg;generalize l[m] = x at q0 q1 q2 HEL hnm;obtain ⟨nm, mp, mb⟩ := x;simp only at q0 q1 q2 HEL hnm;generalize l.map defOf = ds at HT HEL
 rcases HT.out with ⟨_, he⟩ | ⟨T, hT, rfl, htv⟩
 ·have e0 : (er1 == (0 : Int)) = false := by simpa using he
  go_wp2_with fail
  exact HQ.out _ _ ⟨rfl, HF4.out.alloc _⟩
 obtain ⟨hok, mc, hget, hpar, _, _⟩ := HEL.out T hT;clear HEL HT hT
 by_cases hp : (na : Int) = mp
 rotate_left
 ·have e0 : ((na : Int) == mp) = false := by simpa using hp
  go_wp2_with fail
  exact HQ.out _ _ ⟨rfl, HF4.out.alloc _⟩
 subst hp;have HOK := hid hok;have HGET := hid hget;have HPAR := hid (show mc.params = na by rw [hpar]; simp);have HTV := hid htv;clear hok hget hpar htv;go_wp2_with fail
 have HF5 := hid (HF4.out.alloc (.cells #[.string nm, .int .i64 na, .string mb] 32));have HBM := hid (Blk.new w4 32 #[.string nm, .int .i64 na, .string mb]);have HBS5 := hid (HBS4.out.alloc (.cells #[.string nm, .int .i64 na, .string mb] 32));have HTV5 := hid ((HTV.out.up (show w4.heap.size ≤ (w4.alloc (.cells #[.string nm, .int .i64 na, .string mb] 32)).heap.size from ((Touch.refl (fun _ => False) w4).alloc _).size)).fresh ((Touch.refl _ w4).alloc (.cells #[.string nm, .int .i64 na, .string mb] 32)));generalize w4.heap.size = gm at HBM ⊢;generalize w4.alloc (.cells #[.string nm, .int .i64 na, .string mb] 32) = W5 at HF5 HBM HBS5 HTV5 ⊢;clear HF4 HBS4 HTV q0 q1 q2 hnm hml;have hna4 : na ≤ 4 := by omega
 have HST := hid (CallSt.start T nm as_ HOK.out.le)
 go_loopw [82, 12, 13] (fun i s v wr0 => ∃ (wr : World) (q : Nat) (S : ByteArray) (kss : List (List Nd)) (A' : Option Addr) (cp' : Nat), wr = wr0 ∧ i = .int .i64 q ∧ s = .string S ∧ v = .slice A' q cp' ∧ q ≤ na ∧ Hid (Fresh W5 wr) ∧ Hid (CallSt T nm.data.toList as_ q S kss) ∧ Hid (Grow (fun _ => False) wr W5.heap.size W5.heap.size (kss.map Np.slot) (.slice A' q cp'))) (fun i _ _ _ => na - (intOf i).toNat)
 case atStart => exact ⟨_, 0, _, [], none, 0, rfl, rfl, rfl, rfl, Nat.zero_le _, hid (Touch.refl _ _), HST, hid (Grow.nil _ _ _ _)⟩
 case round =>
  obtain ⟨wr, q, S, kss, A', cp', rfl, rfl, rfl, rfl, hq, HF, HC, HG⟩ := hrel
  by_cases c1 : q < na
  ·have d1 : decide ((q : Int) < (na : Int)) = true := dT (by omega)
   have d1n : decide (q < na) = true := dT c1;have d1' : (q : Int) < (na : Int) := by omega
   have hql : q < as_.length := by have := HNA.out; omega
   obtain ⟨g2, f2, hA2, hg2, p0⟩ := (HA.out.fresh (HF5.out.trans HF.out)) q hql;obtain rfl := hA2;have HNX := hid (fun ks r (h : Mcr.readS 0 T as_[q].data.toList = .ok (ks, true) r) (hs : as_[q].size ≤ 200) => HC.out.next hql h hs);have hab := HAS.out _ (List.getElem_mem hql);have hS := HC.out.size;have hS2 : S.size ≤ 1000 := by omega
   have HKL := hid (show (kss.map Np.slot).length = q by rw [List.length_map, HC.out.len]);clear hS;generalize as_[q] = a at p0 HNX hab;have HPL := hid (parse_len a T pt wr ((HTV5.out.up HF.out.size).fresh HF.out) (by omega));go_wp2_with fail
   refine HPL.out.mono ?_;rintro e w6 ⟨X, ⟨Ax, cx, rfl, htx, hfx⟩, hrd⟩;have HF6 := hid hfx;have HTX := hid htx;have HRD := hid hrd;clear htx hfx hrd HPL HA hg2 p0;obtain ⟨⟨nk, nt, nc, nks⟩, ix, ex⟩ := X;unfold nv;simp only [Nd.kind, Nd.text, Nd.cols, Nd.kids] at *
   by_cases c2 : 200 < a.size
   ·have d2 : decide ((200 : Int) < (a.size : Int)) = true := dT (by omega)
    have d2n : decide (200 < a.size) = true := dT c2;go_wp2_with fail
    exact HQ.out _ _ ⟨rfl, (HF5.out.trans (HF.out.trans HF6.out)).alloc _⟩
   have d2 : decide ((200 : Int) < (a.size : Int)) = false := dF (by omega);have d2n : decide (200 < a.size) = false := dF c2
   by_cases he : ex = 0
   rotate_left
   ·have e0 : ((ex : Int) == (0 : Int)) = false := by simpa using he
    have e0' : ¬ (ex : Int) = 0 := by omega
    go_wp2_with fail
    exact HQ.out _ _ ⟨rfl, (HF5.out.trans (HF.out.trans HF6.out)).alloc _⟩
   subst he;obtain ⟨ks, r, hread, hX, hval⟩ := HRD.out rfl;unfold Np.slot at hX;simp only [Prod.mk.injEq, Nd.mk.injEq] at hX;obtain ⟨⟨rfl, rfl, rfl, rfl⟩, rfl, _⟩ := hX;have HC2 := hid (HNX.out nks r hread (by omega));clear hread hval HRD HNX;have hf8 : Fresh w6 ((w6.alloc (.cells #[.int .i64 1, .string ⟨#[]⟩, .int .i64 0, .slice Ax nks.length cx] 35)).alloc (.cells #[.int .i64 1, .string ⟨#[]⟩, .int .i64 0, .slice Ax nks.length cx] 35)) := ((Touch.refl _ w6).alloc _).alloc _;have HBV := hid (Blk.new2 w6 (.cells #[.int .i64 1, .string ⟨#[]⟩, .int .i64 0, .slice Ax nks.length cx] 35) 35 #[.int .i64 1, .string ⟨#[]⟩, .int .i64 0, .slice Ax nks.length cx]);have HG8 := hid (HG.out.fresh (HF6.out.trans hf8));have HT8 := hid (HTX.out.fresh hf8);have HF8 := hid hf8;have HOW := hid HG.out.own_lt;clear hf8 HTX HG;obtain ⟨ns, hns⟩ : ∃ ns, ns = kss.map Np.slot := ⟨_, rfl⟩;rw [← hns] at HG8 HKL;have HNS := hid hns;clear hns;obtain rfl := HKL.out;obtain ⟨ii, hi, hz0, hz1, hz2⟩ := info_parts infoNodeD
   go_wp2_with (at_builtin; go_loud (refine wpList_append_grow rfl (.tmp 105) (.tmp 107) rfl ii _ hi hz0 hz1 hz2 rfl (B0 := W5.heap.size) (B := W5.heap.size) (B1 := wr.heap.size) (ks := ns) (v := .slice A' ns.length cp') (y := .slice (some ⟨w6.heap.size + 1, 0, none⟩) 1 1) HG8.out (by simp [Act.eval]) (Np.slot nks) (.slice Ax nks.length cx) (by simp [Act.eval]) (Src.of_blk HBV.out rfl) HT8.out HF.out.size (fun _ h => h.elim) HOW.out (Nat.zero_le _) (by omega) (by have := HF.out.size; have := HF6.out.size; have := HF8.out.size; omega) ?_); intro A8 c8 w8 hg8 ht8; refine Stay.mk ?_)
   have HG9 := hid (show Grow (fun _ => False) w8 W5.heap.size W5.heap.size ((kss ++ [nks]).map Np.slot) (.slice A8 (ns.length + 1) c8) from by rw [List.map_append, ← HNS.out]; exact hg8);have HF9 := hid (show Fresh W5 w8 from ((HF.out.trans HF6.out).trans HF8.out).trans' ht8 fun k hk => .inr hk.1);clear hg8 ht8;refine Stay.go ?_;go_wp2_with fail
   go_roundw
   case rel => exact ⟨_, ns.length + 1, _, _, A8, c8, rfl, by go_num, rfl, rfl, by omega, HF9, HC2, HG9⟩
   case measure => simp [intOf]; omega
  ·have d1 : decide ((q : Int) < (na : Int)) = false := dF (by omega)
   have d1n : decide (q < na) = false := dF c1;have d1' : ¬ (q : Int) < (na : Int) := by omega
   obtain rfl : q = na := by omega
   have HRW := hid (HG.out.tree (Nat.le_refl _)).rep;have HXP := hid (expandm_any wr.heap.size T (.pointer pt) nm.data.toList (kss.map Np.slot) (.slice A' q cp') wr ((HTV5.out.up HF.out.size).fresh HF.out) HRW.out);rw [show (⟨nm.data.toList.toArray⟩ : ByteArray) = nm by simp] at HXP;obtain ⟨m0, m1, m2, _⟩ := Blk.three (HF.out.blk HBM.out fun h => h);obtain ⟨R, hR⟩ : ∃ R, R = Mcr.expandF T nm.data.toList (kss.map Np.slot) := ⟨_, rfl⟩;rw [← hR] at HXP;have HR := hid hR.symm;clear HG HRW hR HA HAS HST HLA d1 d1n d1' c1 hq;obtain ⟨⟨fk, ft, fc, fks⟩, fe⟩ := R;go_wp2_with fail
   refine HXP.out.mono ?_;rintro e w6 ⟨Af, cf, rfl, ht6, _, hf6⟩;unfold nv;simp only [Nd.kind, Nd.text, Nd.cols, Nd.kids] at *;have HF7 := hid ((HF.out.trans hf6).alloc (.cells #[.int .i64 fk, .string ⟨ft.toArray⟩, .int .i64 fc, .slice Af fks.length cf] 35));have HBF := hid (Blk.new w6 35 #[.int .i64 fk, .string ⟨ft.toArray⟩, .int .i64 fc, .slice Af fks.length cf]);have HRF := hid (ht6.rep.fresh ((Touch.refl _ w6).alloc (.cells #[.int .i64 fk, .string ⟨ft.toArray⟩, .int .i64 fc, .slice Af fks.length cf] 35)));have HBS7 := hid (HF7.out.blk HBS5.out fun h => h);have HTV7 := hid ((HTV5.out.up HF7.out.size).fresh HF7.out);clear ht6 hf6 HF HBS5 HTV5 HBM m0 m1 m2 HXP;obtain ⟨b0, b1, _, _, _⟩ := Blk.two HBS7.out;go_wp2_with fail
   generalize w6.heap.size = gF at HBF ⊢;generalize w6.alloc (.cells #[.int .i64 fk, .string ⟨ft.toArray⟩, .int .i64 fc, .slice Af fks.length cf] 35) = W7 at HF7 HBF HRF HBS7 HTV7 b0 b1 ⊢;refine (parse_len sl T pt W7 HTV7.out (by omega)).mono ?_;rintro e w8 ⟨X, ⟨Al, cl, rfl, htx, hfx⟩, hrd⟩;obtain ⟨⟨lk, lt, lc, lks⟩, li, le⟩ := X;unfold nv;simp only [Nd.kind, Nd.text, Nd.cols, Nd.kids] at *;have HRL := hid hrd;have hf8 := hfx.alloc (.cells #[.int .i64 lk, .string ⟨lt.toArray⟩, .int .i64 lc, .slice Al lks.length cl] 35);have HBL := hid (Blk.new w8 35 #[.int .i64 lk, .string ⟨lt.toArray⟩, .int .i64 lc, .slice Al lks.length cl]);have HTL := hid (htx.rep.fresh ((Touch.refl _ w8).alloc (.cells #[.int .i64 lk, .string ⟨lt.toArray⟩, .int .i64 lc, .slice Al lks.length cl] 35)));have HF8 := hid (HF7.out.trans hf8);have HBF8 := hid (hf8.blk HBF.out fun h => h);have HRF8 := hid (HRF.out.fresh hf8);have HBS8 := hid (hf8.blk HBS7.out fun h => h);have HTV8 := hid ((HTV7.out.up hf8.size).fresh hf8);clear hf8 htx hfx hrd HF7 HBF HRF HBS7 HTV7 b0 b1;obtain ⟨b0, b1, _, _, _⟩ := Blk.two HBS8.out;go_wp2_with fail
   generalize w8.heap.size = gL at HBL ⊢;generalize w8.alloc (.cells #[.int .i64 lk, .string ⟨lt.toArray⟩, .int .i64 lc, .slice Al lks.length cl] 35) = W8 at HF8 HBL HTL HBF8 HRF8 HBS8 HTV8 b0 b1 ⊢;refine (parse_len sr T pt W8 HTV8.out (by omega)).mono ?_;rintro e w9 ⟨X, ⟨Ar, cr, rfl, htx, hfx⟩, hrd⟩;obtain ⟨⟨rk, rt, rc, rks⟩, ri, re⟩ := X;unfold nv;simp only [Nd.kind, Nd.text, Nd.cols, Nd.kids] at *;have HRR := hid hrd;have hf9 := hfx.alloc (.cells #[.int .i64 rk, .string ⟨rt.toArray⟩, .int .i64 rc, .slice Ar rks.length cr] 35);have HBR := hid (Blk.new w9 35 #[.int .i64 rk, .string ⟨rt.toArray⟩, .int .i64 rc, .slice Ar rks.length cr]);have HTR := hid (htx.rep.fresh ((Touch.refl _ w9).alloc (.cells #[.int .i64 rk, .string ⟨rt.toArray⟩, .int .i64 rc, .slice Ar rks.length cr] 35)));have HF9 := hid (HF8.out.trans hf9);have HBF9 := hid (hf9.blk HBF8.out fun h => h);have HRF9 := hid (HRF8.out.fresh hf9);have HBL9 := hid (hf9.blk HBL.out fun h => h);have HTL9 := hid (HTL.out.fresh hf9);have HBS9 := hid (hf9.blk HBS8.out fun h => h);have HTV9 := hid ((HTV8.out.up hf9.size).fresh hf9);clear hf9 htx hfx hrd HF8 HBF8 HRF8 HBS8 HTV8 HBL HTL b0 b1
   by_cases e1 : fe = 0
   rotate_left
   ·have e0 : (fe == (0 : Int)) = false := by simpa using e1
    go_wp2_with fail
    exact HQ.out _ _ ⟨rfl, HF5.out.trans HF9.out⟩
   subst e1
   by_cases e1 : le = 0
   rotate_left
   ·have e0 : ((le : Int) == (0 : Int)) = false := by simpa using e1
    have e0' : ¬ (le : Int) = 0 := by omega
    go_wp2_with fail
    exact HQ.out _ _ ⟨rfl, HF5.out.trans HF9.out⟩
   subst e1
   by_cases e1 : re = 0
   rotate_left
   ·have e0 : ((re : Int) == (0 : Int)) = false := by simpa using e1
    have e0' : ¬ (re : Int) = 0 := by omega
    go_wp2_with fail
    exact HQ.out _ _ ⟨rfl, HF5.out.trans HF9.out⟩
   subst e1;obtain ⟨kl, ql, hl1, hX, hvl⟩ := HRL.out rfl;unfold Np.slot at hX;simp only [Prod.mk.injEq, Nd.mk.injEq] at hX;obtain ⟨⟨rfl, rfl, rfl, rfl⟩, rfl, _⟩ := hX;obtain ⟨kr, qr, hr1, hX, hvr⟩ := HRR.out rfl;unfold Np.slot at hX;simp only [Prod.mk.injEq, Nd.mk.injEq] at hX;obtain ⟨⟨rfl, rfl, rfl, rfl⟩, rfl, _⟩ := hX;obtain ⟨hfd, hfc, hlp, hls⟩ := call_laws HOK.out (by have h := HC.out; rw [HNA.out] at h; exact h) HGET.out (by rw [HPAR.out, HNA.out]) HR.out hl1 hr1;unfold Np.slot at hfd;simp only [Nd.kids, Nd.mk.injEq] at hfd;obtain ⟨rfl, rfl, rfl, _⟩ := hfd;have hcl := Mcr.valid_count hvl;have hcr := Mcr.valid_count hvr;simp only [Np.slot, Tr.count] at hcl hcr hfc;have HLP := hid hlp;have HLS := hid hls;simp only [Nd.kids] at HLP HLS;have hS := HC.out.size;have HSZ := hid (show S.size ≤ 1000 by omega);clear hlp hls hvl hvr hl1 hr1 HRL HRR HR HC HOK HGET HPAR hS;go_wp2_with fail
   generalize w9.heap.size = gR at HBR ⊢;generalize w9.alloc (.cells #[.int .i64 1, .string ⟨#[]⟩, .int .i64 0, .slice Ar rks.length cr] 35) = W9 at HF9 HBR HTR HBF9 HRF9 HBL9 HTL9 HBS9 HTV9 ⊢;have hcn : lks.length + fks.length + rks.length ≤ 3000 := by have := Tr.countL_len lks; have := Tr.countL_len fks; have := Tr.countL_len rks; omega
   have HCN := hid (show Tr.countL (lks ++ fks ++ rks) ≤ 100000 by rw [countL_app20, countL_app20]; omega);have HCF := hid (show Tr.countL fks ≤ 100000 by omega);have HFW := hid (HF5.out.trans HF9.out);clear hfc hcl hcr HF5 HF9;have x0 := cR (HBS9.out.cell 0 |>.trans rfl);have x1 := cR (HBS9.out.cell 1 |>.trans rfl);have x2 := cR (HBF9.out.cell 3 |>.trans rfl);have x3 := cR (HBL9.out.cell 3 |>.trans rfl);have x4 := cR (HBR.out.cell 3 |>.trans rfl);refine wp_region_mix [([(0, true), (1, true), (2, true), (4, true), (5, true), (7, true), (8, true), (10, true), (11, true), (3, false), (6, false), (9, false), (12, false)], 13)] [(14, true), (15, true), (16, true), (17, true), (18, false), (19, true), (20, true)] (by kernel_rfl) (fun _ _ d _ _ h => by cases d <;> exact h) (by kernel_rfl) ?_;refine wpMix_seg ?_
   repeat (refine wpSeq_plain rfl (fun K hK => ?_); go_simp; refine hK _ ?_; clear hK K)
   refine wpSeq_lone rfl (fun K hK => ?_);go_wp2_with fail
   have hsq := sq_e0 W9 1 35 4;refine hK _ _ (growing_fresh hsq.1) ?_;generalize ((W9.drewN 1).alloc (.cells #[] 35)) = Wd at hsq ⊢;have HSQ := hid hsq;clear hsq hK K;obtain ⟨csl, hnl, hsl2⟩ := HTL9.out.src20;obtain ⟨csf, hnf, hsf⟩ := HRF9.out.src20;obtain ⟨csr, hnr, hsr2⟩ := HTR.out.src20;have NL := hid hnl;have NF := hid hnf;have NR := hid hnr;have SL := hid hsl2;have SF := hid hsf;have SR := hid hsr2;have OL := hid hnl.oneCell;have OF := hid hnf.oneCell;have OR := hid hnr.oneCell;clear hnl hnf hnr hsl2 hsf hsr2;obtain ⟨i0, hi, hz0, hz1, hz2⟩ := info_parts infoNode20;refine wpSeq_lone rfl (fun K hK => ?_)
   go_wp2_with (at_builtin; refine wpList_append_src _ rfl (.tmp 147) (.tmp 149) 33 rfl W9.heap.size 35 i0 _ 4 56 Tryz.underlying33 hi hz0 hz1 hz2 rfl (by decide) (.slice (some ⟨W9.heap.size, 0, none⟩) 0 0) (0) ([]) (by simp [Act.eval]) HSQ.out.2 (.slice Al lks.length cl) lks.length csl (by simp [Act.eval]) (SL.out.fresh HSQ.out.1) OL.out (by unfold maxLen; omega) (by omega) (Touch.size HSQ.out.1) ?_; intro v w' ho hg _; refine Stay.mk ?_)
   rw [Nat.zero_add, List.nil_append] at ho;have hsq := HSQ.out.append ho hg;obtain ⟨Ax, cx, rfl⟩ := hsq.slice;replace HSQ := hid hsq;clear hsq ho hg;refine Stay.go ?_;go_wp2_with fail
   refine hK _ _ (growing_fresh HSQ.out.1) ?_;clear hK K;refine wpSeq_lone rfl (fun K hK => ?_)
   go_wp2_with (at_builtin; refine wpList_append_src _ rfl (.tmp 150) (.tmp 152) 33 rfl W9.heap.size 35 i0 _ 4 56 Tryz.underlying33 hi hz0 hz1 hz2 rfl (by decide) (.slice Ax lks.length cx) (lks.length) (csl) (by simp [Act.eval]) HSQ.out.2 (.slice Af fks.length cf) fks.length csf (by simp [Act.eval]) (SF.out.fresh HSQ.out.1) OF.out (by unfold maxLen; omega) (by omega) (Touch.size HSQ.out.1) ?_; intro v w' ho hg _; refine Stay.mk ?_)
   have hsq := HSQ.out.append ho hg;obtain ⟨Ay, cy, rfl⟩ := hsq.slice;replace HSQ := hid hsq;clear hsq ho hg;refine Stay.go ?_;go_wp2_with fail
   refine hK _ _ (growing_fresh HSQ.out.1) ?_;clear hK K;refine wpSeq_lone rfl (fun K hK => ?_)
   go_wp2_with (at_builtin; refine wpList_append_src _ rfl (.tmp 153) (.tmp 155) 33 rfl W9.heap.size 35 i0 _ 4 56 Tryz.underlying33 hi hz0 hz1 hz2 rfl (by decide) (.slice Ay (lks.length + fks.length) cy) (lks.length + fks.length) (csl ++ csf) (by simp [Act.eval]) HSQ.out.2 (.slice Ar rks.length cr) rks.length csr (by simp [Act.eval]) (SR.out.fresh HSQ.out.1) OR.out (by unfold maxLen; omega) (by omega) (Touch.size HSQ.out.1) ?_; intro v w' ho hg _; refine Stay.mk ?_)
   have hsq := HSQ.out.append ho hg;obtain ⟨Az, cz, rfl⟩ := hsq.slice;have hr9 : RepL _ (lks ++ fks ++ rks) (.slice Az (lks.length + fks.length + rks.length) cz) := join_rep (ks := lks ++ fks) (ms := rks) (by rw [List.length_append]; exact hsq) (NL.out.append NF.out) NR.out;replace HSQ := hid hsq;rw [← List.length_append, ← List.length_append] at hr9;have HR9 := hid hr9;clear hsq ho hg hr9;refine Stay.go ?_;go_wp2_with fail
   refine hK _ _ (growing_fresh HSQ.out.1) ?_;clear hK K x0 x1 x2 x3 x4;refine wpSeq_shut rfl (fun K hK => ?_);go_wp2_with fail
   have hf9 := HSQ.out.1;have hpl := placed_any T pt S sl sr (lks ++ fks ++ rks) Az cz w' ((HTV9.out.up hf9.size).fresh hf9) (by have := HSZ.out; have := HC3.out; omega) HR9.out HCN.out HLP.out;rw [List.length_append, List.length_append] at hpl;refine hpl.mono ?_;clear hpl;rintro _ W10 ⟨rfl, hf10⟩;have HF10 := hid (hf9.trans hf10);clear hf9 hf10 HSQ HR9 HCN HLP NL NF NR SL SF SR OL OF OR HBS9 HBL9 HBR HTL9 HTR;have x0 := cR (HF10.out.blk HBF9.out (fun h => h) |>.cell 0 |>.trans rfl);have x1 := cR (HF10.out.blk HBF9.out (fun h => h) |>.cell 1 |>.trans rfl);have x2 := cR (HF10.out.blk HBF9.out (fun h => h) |>.cell 2 |>.trans rfl);have x3 := cR (HF10.out.blk HBF9.out (fun h => h) |>.cell 3 |>.trans rfl);go_wp2_with fail
   refine wpMix_last ?_
   repeat (refine wpSeq_plain rfl (fun K hK => ?_); go_simp; refine hK _ ?_; clear hK K)
   clear x0 x1 x2 x3;refine wpSeq_lone rfl (fun K hK => ?_);go_wp2_with fail
   refine (scripted_any T pt S fks Af cf W10 ((HTV9.out.up HF10.out.size).fresh HF10.out) (by have := HSZ.out; omega) (HRF9.out.fresh HF10.out) HCF.out HLS.out).mono ?_;rintro _ W11 ⟨rfl, hf11⟩;have HF11 := hid (HF10.out.trans hf11);have hg11 := growing_fresh hf11;clear hf11;go_wp2_with fail
   refine hK _ _ hg11 ?_;clear hK K hg11
   repeat (refine wpSeq_plain rfl (fun K hK => ?_); go_simp; refine hK _ ?_; clear hK K)
   refine wpSeq_end ?_;go_wp2_with fail
   exact HQ.out _ _ ⟨rfl, HFW.out.trans HF11.out⟩
end Go.Proofs.YtomibmenojdieaaGreat
namespace Go.Proofs.YtomibmenojdieaaGreat
open Go.ChangeShapes Go.WideShapes Go.ChangeAt Go.RowKit
open Go.ChangeMaps (open_string shut_string)
open Tr (Nd)
theorem cells3 {W : World} {base : Nat} {a : Addr} {cs : List Value} (h : W.cells? base a 3 = some cs) : ∃ c0 c1 c2, cs = [c0, c1, c2] ∧ a.spot = none ∧ a.block < W.heap.size ∧
  W.cell? ⟨a.block, a.off, none⟩ = some c0 ∧ W.cell? ⟨a.block, a.off + 1, none⟩ = some c1 ∧ W.cell? ⟨a.block, a.off + 2, none⟩ = some c2 := by
 obtain ⟨_, hl, hc⟩ := World.cells?_some h
 match cs, hl with
 | [c0, c1, c2], _ =>
  have e0 := hc 0 (by decide);have e1 := hc 1 (by decide);have e2 := hc 2 (by decide);obtain ⟨g, o, s⟩ := a
  have hs : s = none := by
   cases s with
   | none => rfl
   | some x =>
    simp only [Addr.add, if_true, List.getElem?_cons_zero] at e0;unfold World.cell? at e0;split at e0
    ·simp at e0
    ·cases e0
  subst hs;have hlt := bL (a := ⟨g, o, none⟩) (v := c0) (by simpa [Addr.add] using e0);exact ⟨c0, c1, c2, rfl, rfl, hlt, by simpa [Addr.add] using e0, by simpa [Addr.add] using e1, by simpa [Addr.add] using e2⟩
section
variable {H : Type} {enc : TypeId × Value → H}
theorem open_mac3 {w : World} {base : Nat} {sp : Nat → Bool} {hd : Bool} {fuel : Nat} {c0 c1 c2 : Value} {y : DataW H × List MemPlace} (h : DataW.trod enc Tryz.prog w base sp hd fuel 32 [c0, c1, c2] = some y) :
  ∃ m : MacD, c0 = .string m.1 ∧ c1 = .int .i64 m.2.1 ∧ c2 = .string m.2.2 := by
 obtain ⟨xs, n, hfuel, _, _, hlen, hf⟩ := DataW.trod_struct Tryz.underlying32 h;have e0 := hf 0 _ rfl;have e1 := hf 1 _ rfl;have e2 := hf 2 _ rfl
 match xs, hlen with
 | [y0, y1, y2], _ =>
  obtain ⟨s, g0, _⟩ := DataW.trod_string Tryz.underlying9 (by exact e0);obtain ⟨k, g1, _⟩ := DataW.trod_int Tryz.underlying3 (by exact e1);obtain ⟨b, g2, _⟩ := DataW.trod_string Tryz.underlying9 (by exact e2);have hC1 : Tryz.prog.cellsOf 3 = 1 := by kernel_rfl
  have hC2 : Tryz.prog.cellsOf 9 = 1 := by kernel_rfl
  simp [hC2] at g0
  simp [hC1] at g1
  simp [hC2] at g2
  exact ⟨(s, k, b), g0, g1, g2⟩
theorem open_macs {w : World} {base : Nat} {sp : Nat → Bool} {hd : Bool} {fuel : Nat} {cs : List Value} {y : DataW H × List MemPlace} (h : DataW.trod enc Tryz.prog w base sp hd fuel 22 cs = some y) :
  ∃ (l : List MacD) (A : Option Addr) (cap : Nat), cs = [.slice A l.length cap] ∧ MacRow w A l ∧ l.length ≤ maxLen ∧ l.length ≤ cap := by
 rcases DataW.trod_slice Tryz.underlying22 h with ⟨rfl, _⟩ | ⟨a, len, cap, elems, rest, n, hn, rfl, _, hb, hl, hm, hlen, hel, _, _⟩
 ·exact ⟨[], _, _, rfl, fun i hi => absurd hi (Nat.not_lt_zero _), Nat.zero_le _, Nat.zero_le _⟩
 ·have hC : Tryz.prog.cellsOf 32 = 3 := by kernel_rfl
  rw [hC] at hel
  have each : ∀ i, i < len → ∃ (t : MacD), a.spot = none ∧ a.block < w.heap.size ∧ w.cell? ⟨a.block, a.off + i * 3, none⟩ = some (.string t.1) ∧ w.cell? ⟨a.block, a.off + i * 3 + 1, none⟩ = some (.int .i64 t.2.1) ∧
    w.cell? ⟨a.block, a.off + i * 3 + 2, none⟩ = some (.string t.2.2) := by
   intro i hi;have h0 := hel i hi;rw [List.getElem?_eq_getElem (by omega), Option.bind_eq_some_iff] at h0;obtain ⟨cs', hcs, hy⟩ := h0;obtain ⟨c0, c1, c2, rfl, hs, hlt, e0, e1, e2⟩ := cells3 hcs;obtain ⟨m, rfl, rfl, rfl⟩ := open_mac3 hy;have hblk : (a.add (i * 3)).block = a.block := by unfold Addr.add; split <;> rfl
   have hoff : (a.add (i * 3)).off = a.off + i * 3 := by
    unfold Addr.add;split
    ·omega
    ·rfl
   rw [hblk, hoff] at e0 e1 e2;rw [hblk] at hlt
   have hs0 : a.spot = none := by
    have h00 := hel 0 (by omega);rw [List.getElem?_eq_getElem (by omega), Option.bind_eq_some_iff] at h00;obtain ⟨cs0, hcs0, _⟩ := h00;obtain ⟨_, _, _, _, hs', _⟩ := cells3 hcs0;simpa [Addr.add] using hs'
   exact ⟨m, hs0, hlt, e0, e1, e2⟩
  have he : ∃ f : Nat → MacD, ∀ i, i < len → a.spot = none ∧ a.block < w.heap.size ∧ w.cell? ⟨a.block, a.off + i * 3, none⟩ = some (.string (f i).1) ∧ w.cell? ⟨a.block, a.off + i * 3 + 1, none⟩ = some (.int .i64 (f i).2.1) ∧
    w.cell? ⟨a.block, a.off + i * 3 + 2, none⟩ = some (.string (f i).2.2) := by
   refine ⟨fun i => if h : i < len then Classical.choose (each i h) else (⟨#[]⟩, 0, ⟨#[]⟩), fun i hi => ?_⟩;simp only [dif_pos hi];exact Classical.choose_spec (each i hi)
  obtain ⟨f, hf⟩ := he;have hln : ((List.range len).map f).length = len := by simp
  refine ⟨(List.range len).map f, some a, cap, by rw [hln], fun i hi => ?_, by rw [hln]; omega, by rw [hln]; omega⟩;rw [hln] at hi;obtain ⟨g, o, s⟩ := a;obtain ⟨rfl, h2, h3, h4, h5⟩ := hf i hi;exact ⟨g, o, rfl, h2, by simpa using h3, by simpa using h4, by simpa using h5⟩
end
section
variable {H : Type} {enc : TypeId × Value → H}
theorem weights_all {P : Program} {e : TypeId} : ∀ {l : List (DataW H)} {d : DataW H}, d ∈ l → ∀ n ∈ d.weights P e, n ∈ DataW.weightsAll P e l
 | x :: l, d, hd, n, hn => by
  rw [DataW.weightsAll, List.mem_append]
  rcases List.mem_cons.1 hd with rfl | hd
  ·exact .inl hn
  ·exact .inr (weights_all hd n hn)
theorem open_texts {w : World} {base : Nat} {sp : Nat → Bool} {hd : Bool} {fuel : Nat} {cs : List Value} {x : DataW H × List MemPlace} (h : DataW.trod enc Tryz.prog w base sp hd fuel 23 cs = some x) :
  ∃ (l : List ByteArray) (A : Option Addr) (cap : Nat), cs = [.slice A l.length cap] ∧ StrRow w A l ∧ l.length ≤ maxLen ∧ ∀ s ∈ l, s.data.toList.length ∈ x.1.weights Tryz.prog 23 := by
 rcases open_strings Tryz.underlying23 Tryz.underlying9 (by kernel_rfl) h with ⟨rfl, _⟩ | ⟨a, len, cap, ss, rfl, _, hl, hm, hz, rfl, hc, _⟩
 ·exact ⟨[], _, _, rfl, fun i hi => absurd hi (Nat.not_lt_zero _), Nat.zero_le _, fun s hs => by cases hs⟩
 ·have hlen : len ≤ ss.length := by rw [hz]; split <;> omega
  have e : (ss.take len).length = len := by rw [List.length_take]; omega
  refine ⟨ss.take len, some a, cap, by rw [e], fun i hi => ?_, by rw [e]; omega, fun s hs => ?_⟩
  ·rw [e] at hi
   obtain ⟨g, o, sp⟩ := a;obtain rfl : sp = none := by simpa [Addr.add] using World.cell?_spot (hc 0 (by omega))
   have h1 := hc i (by omega);have h2 : ss.getD i ByteArray.empty = (ss.take len)[i] := by rw [List.getElem_take]; simp [List.getD, List.getElem?_eq_getElem (show i < ss.length by omega)]
   rw [h2] at h1
   have h3 : w.cell? ⟨g, o + i, none⟩ = some (.string (ss.take len)[i]) := by
    rcases Nat.eq_zero_or_pos i with rfl | h0
    ·simpa [Addr.add] using h1
    ·rw [Addr.add, if_neg (by omega)] at h1; exact h1
   exact ⟨g, o, rfl, bL h3, h3⟩
  ·unfold DataW.weights
   rw [Tryz.underlying23];simp only
   refine List.mem_cons_of_mem _ (List.mem_append.2 (.inl (weights_all (d := .lit (.string s.data.toList)) (List.mem_map.2 ⟨s, hs, rfl⟩) _ (by simp [DataW.weights]))))
theorem okWide_array {P : Program} {w : World} {r : Reach} {base n : Nat} {e t : TypeId} {v : Value} (ht : P.underlying t = some (.array n e)) (h : Value.okWide P w r base t v) : ∃ cs, v = .agg cs ∧ cs.size = P.cellsOf t := by
 simp only [Value.okWide, ht] at h;obtain ⟨cs, h1, h2, _⟩ := h;exact ⟨cs, h1, h2⟩
theorem open_two {w : World} {base b0 : Nat} {sp : Nat → Bool} {hd : Bool} {v : Value} {d : DataW H} {p : List MemPlace} (hv : Value.okWide Tryz.prog w .any b0 24 v) (h : DataW.Trod enc Tryz.prog w base sp hd 24 v d p) :
  ∃ s r : ByteArray, v = .agg #[.string s, .string r] ∧ s.data.toList.length ∈ d.weights Tryz.prog 24 ∧ r.data.toList.length ∈ d.weights Tryz.prog 24 := by
 obtain ⟨cs, rfl, hsz⟩ := okWide_array Tryz.underlying24 hv;have hC : Tryz.prog.cellsOf 24 = 2 := by kernel_rfl
 have hC1 : Tryz.prog.cellsOf 9 = 1 := by kernel_rfl
 rw [hC] at hsz;obtain ⟨fuel, hf⟩ := h;obtain ⟨l, rfl⟩ : ∃ l : List Value, cs = l.toArray := ⟨cs.toList, by simp⟩
 match l, hsz with
 | [c0, c1], _ =>
  have hf2 : DataW.trod enc Tryz.prog w base sp hd fuel 24 [c0, c1] = some (d, p) := hf;obtain ⟨xs, m, hm, hx, hcl, hl, he⟩ := DataW.trod_array Tryz.underlying24 hf2;clear hcl;cases hx;have e0 := he 0 (by decide);have e1 := he 1 (by decide)
  match xs, hl with
  | [y0, y1], _ =>
   obtain ⟨s, g0, k0, _⟩ := DataW.trod_string Tryz.underlying9 (by exact e0);obtain ⟨r, g1, k1, _⟩ := DataW.trod_string Tryz.underlying9 (by exact e1);simp [hC1] at g0 g1
   subst g0 g1;refine ⟨s, r, rfl, ?_, ?_⟩
   all_goals
    unfold DataW.weights;rw [Tryz.underlying24];simp [DataW.weightsAll, k0, k1, DataW.weights]
end
theorem sized_one {H : Type} {P : Program} {ts : List TypeId} {ds : List (DataW H)} (h : (DataW.weightsEach P ts ds).all (· ≤ reachBytes) = true) {j : Nat} {t : TypeId} {d : DataW H} (ht : ts[j]? = some t) (hd : ds[j]? = some d) {s : ByteArray} (hs : s.data.toList.length ∈ d.weights P t) : s.size ≤ 140737488351232 := by
 have := List.all_eq_true.1 h _ (DataW.weights_mem_each ht hd _ hs);have h2 : s.data.toList.length ≤ reachBytes := by simpa using this
 rw [ba_len] at h2;exact h2
theorem notationMacro_lifted (os : Os) (started : os.Started) (H : Type) (enc : TypeId × Value → H) :
  ReturnsInHanded {} Tryz.checked os 3 .any (Rows.notationMacroSpec.pre6 enc Tryz.prog Tryz.f3 Rows.notationMacroRow.domain false) (Rows.notationMacroSpec.post enc Tryz.prog Tryz.f3 false true false false) := by
 refine returnsInHanded_of_change_sized (C := Tryz.checked) Tryz.ownKnob started (by kernel_rfl) Tryz.func3
  (ChangeSpec.witness6 (enc := enc) (C := Tryz.checked) false ⟨#[], #[.slice none 0 0, .slice none 0 0, .agg #[.string ⟨#[]⟩, .string ⟨#[]⟩]], []⟩ 8 (by kernel_rfl) (by kernel_rfl) (by kernel_rfl) (by kernel_rfl)) ?_
 intro W base args ds gs before hval0 hW hcnd hsz0 _;have hval : ∀ (j : Nat) t v, Tryz.f3.params[j]? = some t → args[j]? = some v → Value.okWide Tryz.prog W .any base t v := hval0;have hW' := hW;obtain ⟨p, q, hA0, hV, rfl, hfz, hnd⟩ := hW;have hA : DataW.TrodAll enc Tryz.prog W 0 (fun _ => true) true Tryz.f3.params.toList args.toList ds p := hA0;have hsz : (DataW.weightsEach Tryz.prog (Tryz.f3.params.toList ++ Rows.notationMacroSpec.plain.varTypes Tryz.prog) (ds ++ gs)).all (· ≤ reachBytes) = true := hsz0;rw [Tryz.params3] at hA hval hsz;obtain ⟨v0, v1, v2, d0, d1, d2, p0, p1, p2, rfl, rfl, rfl, h0, h1, h2⟩ := trodAll_three hA;obtain ⟨rfl, rfl⟩ := trodVars_none hV;obtain ⟨a0, n0, c0, rfl⟩ := okWide_slice Tryz.underlying22 (hval 0 22 v0 rfl rfl);obtain ⟨a1, n1, c1, rfl⟩ := okWide_slice Tryz.underlying23 (hval 1 23 v1 rfl rfl);obtain ⟨s, r, rfl, zs, zr⟩ := open_two (hval 2 24 v2 rfl rfl) h2;obtain ⟨f0, hf0⟩ := h0;obtain ⟨f1, hf1⟩ := h1;obtain ⟨l, A, cap, e0, hm, hl, _⟩ := open_macs hf0;obtain ⟨as_, Aa, ca, e1, ha, hla, hza⟩ := open_texts hf1;simp [Value.cells] at e0 e1
 obtain ⟨rfl, rfl, rfl⟩ := e0;obtain ⟨rfl, rfl, rfl⟩ := e1;refine (notationMacro_any l a0 c0 as_ a1 c1 s r W hm hl ha hla (fun x hx => sized_one hsz (j := 1) rfl rfl (hza x hx)) (sized_one hsz (j := 2) rfl rfl zs) (sized_one hsz (j := 2) rfl rfl zr)).mono fun e W' ⟨he, hw⟩ => ?_
 exact ⟨_, he, post_true Tryz.laidOut Tryz.underlying4 (by kernel_rfl) (by kernel_rfl) rfl rfl hW' hw⟩
theorem NotationMacro_holds : Rows.NotationMacroSaid :=
 OpenClaim.holds_of_wide 3 Tryz.f3 rfl rfl rfl rfl rfl rfl rfl ⟨rfl, rfl, rfl, rfl, rfl⟩ rfl rfl rfl rfl rfl (by kernel_rfl) Tryz.func3 (by kernel_rfl)
  (of_decide_eq_true (by kernel_rfl)) (by unfold Func.isWrapper; first | (rw [if_pos (by decide +kernel)]; kernel_rfl) | (rw [if_neg (by decide +kernel)]; exact ⟨rfl, rfl⟩))
  (fun os started H enc _ => notationMacro_lifted os started H enc)
end Go.Proofs.YtomibmenojdieaaGreat
