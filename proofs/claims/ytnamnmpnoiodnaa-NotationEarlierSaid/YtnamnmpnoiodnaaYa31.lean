/- Part 31 of 31 of a proof; its texts, joined: NzF, NzG, NzH. No condition. -/
import Derived.Test.YtnamnmpnoiodnaaYa30
import Derived.Test.YtnamnmpnoiodnaaYa5
import Derived.Test.YtnamnmpnoiodnaaYa2
set_option maxRecDepth 100000
set_option maxHeartbeats 4000000
namespace Go.Proofs.Ytnamnmpnoiodnaa
open Go.RowKit
open Tr (Nd)
attribute [local go_sem] stillV stillUpon
def few20 (l : List MacD) : Bool := (l.all fun m => decide (m.1.size ≤ 40) && decide (m.2.2.size ≤ 200)) && decide (l.length ≤ 70)
def few19 (l : List Nd) : Bool := (l.all fun n => decide (Tr.count n ≤ 300)) && decide (l.length ≤ 8)
theorem all_from {α : Type} (p : α → Bool) (l : List α) (q : Nat) (hq : q < l.length) : (l.drop q).all p = (p l[q] && (l.drop (q + 1)).all p) := by
 rw [List.drop_eq_getElem_cons hq, List.all_cons]
theorem few20_any (l : List MacD) (A : Option Addr) (cp : Nat) (w : World) (h : MacRow w A l) (hl : l.length ≤ maxLen) : Calls Try.prog 5 #[.slice A l.length cp] w fun e w' => e = .returned (.bool (few20 l)) ∧ Fresh w w' := by
 have H := hid h;have HL := hid hl;clear h hl;refine Calls.via fun Q hQ => ?_
 have HQ := hid hQ;clear hQ;obtain ⟨X, hX⟩ : ∃ X, X = few20 l := ⟨_, rfl⟩;rw [← hX] at HQ;have HX := hid (show X = ((l.drop 0).all (fun m => decide (m.1.size ≤ 40) && decide (m.2.2.size ≤ 200)) && decide (l.length ≤ 70)) from hX);clear hX;obtain ⟨n, hn⟩ : ∃ n, n = l.length := ⟨_, rfl⟩;have HN := hid hn;rw [← hn] at HX ⊢;clear hn;go_enter Try.func5, Try.ntmps5;go_wp2_with fail
 go_loopw [3] (fun i wr0 => ∃ (wr : World) (q : Nat), wr = wr0 ∧ i = .int .i64 q ∧ q ≤ n ∧ Hid (Fresh w wr) ∧ Hid (X = ((l.drop q).all (fun m => decide (m.1.size ≤ 40) && decide (m.2.2.size ≤ 200)) && decide (n ≤ 70)))) (fun i _ => n - (intOf i).toNat)
 case atStart => exact ⟨_, 0, rfl, rfl, Nat.zero_le _, hid (Touch.refl _ _), HX⟩
 case round =>
  clear HX;obtain ⟨wr, q, rfl, rfl, hq, HF, HX⟩ := hrel
  by_cases c1 : q < n
  ·have d1 : decide ((q : Int) < (n : Int)) = true := dT (by omega)
   have d1n : decide (q < n) = true := dT c1;have d1' : (q : Int) < (n : Int) := by omega
   have hql : q < l.length := by have := HN.out; omega
   have hnl : n ≤ maxLen := by have := HN.out; have := HL.out; omega
   unfold maxLen at hnl;obtain ⟨g, f, rfl, hg, q0, q1, q2⟩ := (H.out.fresh HF.out) q hql;have HXS := hid (show X = (((decide (l[q].1.size ≤ 40) && decide (l[q].2.2.size ≤ 200)) && (l.drop (q + 1)).all (fun m => decide (m.1.size ≤ 40) && decide (m.2.2.size ≤ 200))) && decide (n ≤ 70)) from by rw [HX.out, all_from _ l q hql]);generalize l[q] = m at q0 q1 q2 HXS;obtain ⟨ms, mp, mb⟩ := m;simp only at q0 q1 q2 HXS
   by_cases c2 : ms.size ≤ 40
   ·have d2 : decide ((ms.size : Int) > 40) = false := dF (by omega)
    have d2n : decide ((40 : Int) < (ms.size : Int)) = false := dF (by omega);have d2' : decide (40 < ms.size) = false := dF (by omega);have d2'' : ¬ (40 : Int) < (ms.size : Int) := by omega
    by_cases c3 : mb.size ≤ 200
    ·have d3 : decide ((mb.size : Int) > 200) = false := dF (by omega)
     have d3n : decide ((200 : Int) < (mb.size : Int)) = false := dF (by omega);have d3' : decide (200 < mb.size) = false := dF (by omega);have d3'' : ¬ (200 : Int) < (mb.size : Int) := by omega
     have HXN := hid (show X = ((l.drop (q + 1)).all (fun m => decide (m.1.size ≤ 40) && decide (m.2.2.size ≤ 200)) && decide (n ≤ 70)) from by rw [HXS.out, dT c2, dT c3]; rfl);go_wp2_with fail
     exact ⟨⟨_, q + 1, rfl, by simp, by omega, HF, HXN⟩, by simp [intOf]; omega⟩
    ·have d3 : decide ((mb.size : Int) > 200) = true := dT (by omega)
     have d3n : decide ((200 : Int) < (mb.size : Int)) = true := dT (by omega);have d3' : decide (200 < mb.size) = true := dT (by omega);have d3'' : (200 : Int) < (mb.size : Int) := by omega
     have HXN := hid (show X = false from by rw [HXS.out, dT c2, dF c3]; rfl);rw [HXN.out] at HQ;go_wp2_with fail
     exact HQ.out _ _ ⟨rfl, HF.out⟩
   ·have d2 : decide ((ms.size : Int) > 40) = true := dT (by omega)
    have d2n : decide ((40 : Int) < (ms.size : Int)) = true := dT (by omega);have d2' : decide (40 < ms.size) = true := dT (by omega);have d2'' : (40 : Int) < (ms.size : Int) := by omega
    have HXN := hid (show X = false from by rw [HXS.out, dF c2]; rfl);rw [HXN.out] at HQ;go_wp2_with fail
    exact HQ.out _ _ ⟨rfl, HF.out⟩
  ·have d1 : decide ((q : Int) < (n : Int)) = false := dF (by omega)
   have d1n : decide (q < n) = false := dF c1;have d1' : ¬ (q : Int) < (n : Int) := by omega
   obtain rfl : q = n := by omega
   have HXE := hid (show X = decide ((q : Int) ≤ 70) from by
    rw [HX.out, List.drop_eq_nil_of_le (by have := HN.out; omega)];show decide (q ≤ 70) = _;rw [Bool.eq_iff_iff, decide_eq_true_iff, decide_eq_true_iff];omega)
   rw [HXE.out] at HQ;go_wp2_with fail
   exact HQ.out _ _ ⟨rfl, HF.out⟩
theorem few19_any (l : List Nd) (A : Option Addr) (cp : Nat) (w : World) (h : RepL w l (.slice A l.length cp)) (hl : l.length ≤ maxLen) : Calls Try.prog 6 #[.slice A l.length cp] w fun e w' => e = .returned (.bool (few19 l)) ∧ Fresh w w' := by
 have H := hid h;have HL := hid hl;clear h hl;refine Calls.via fun Q hQ => ?_
 have HQ := hid hQ;clear hQ;obtain ⟨X, hX⟩ : ∃ X, X = few19 l := ⟨_, rfl⟩;rw [← hX] at HQ;have HX := hid (show X = ((l.drop 0).all (fun n => decide (Tr.count n ≤ 300)) && decide (l.length ≤ 8)) from hX);clear hX;obtain ⟨n, hn⟩ : ∃ n, n = l.length := ⟨_, rfl⟩;have HN := hid hn;rw [← hn] at HX ⊢;clear hn;go_enter Try.func6, Try.ntmps6;go_wp2_with fail
 go_loopw [3] (fun i wr0 => ∃ (wr : World) (q : Nat), wr = wr0 ∧ i = .int .i64 q ∧ q ≤ n ∧ Hid (Fresh w wr) ∧ Hid (X = ((l.drop q).all (fun n => decide (Tr.count n ≤ 300)) && decide (n ≤ 8)))) (fun i _ => n - (intOf i).toNat)
 case atStart => exact ⟨_, 0, rfl, rfl, Nat.zero_le _, hid (Touch.refl _ _), HX⟩
 case round =>
  clear HX;obtain ⟨wr, q, rfl, rfl, hq, HF, HX⟩ := hrel
  by_cases c1 : q < n
  ·have d1 : decide ((q : Int) < (n : Int)) = true := dT (by omega)
   have d1n : decide (q < n) = true := dT c1;have d1' : (q : Int) < (n : Int) := by omega
   have hql : q < l.length := by have := HN.out; omega
   have hnl : n ≤ maxLen := by have := HN.out; have := HL.out; omega
   unfold maxLen at hnl;obtain ⟨g, f, cap2, sl, hv, hg, _, hp⟩ := (H.out.fresh HF.out).parts (fun e => by rw [e] at hql; exact Nat.not_lt_zero _ hql);obtain ⟨_, q0, q1, q2, q3, hr⟩ := hp q hql;cases hv;have HXS := hid (show X = ((decide (Tr.count l[q] ≤ 300) && (l.drop (q + 1)).all (fun n => decide (Tr.count n ≤ 300))) && decide (n ≤ 8)) from by rw [HX.out, all_from _ l q hql]);have HR := hid hr;obtain ⟨A3, c3, hs3⟩ := hr.slice;rw [hs3] at HR q3;clear hp hr hs3;generalize l[q] = m at q0 q1 q2 q3 HXS HR;go_wp2_with fail
   refine (few_any m _ 300 _ HR.out (by decide) (by decide)).mono ?_;rintro _ w2 ⟨rfl, hf⟩;have HF2 := hid (HF.out.trans hf);clear hf
   by_cases c2 : Tr.count m ≤ 300
   ·have d2 : decide ((Tr.count m : Int) ≤ 300) = true := dT (by omega)
    have HXN := hid (show X = ((l.drop (q + 1)).all (fun n => decide (Tr.count n ≤ 300)) && decide (n ≤ 8)) from by rw [HXS.out, dT c2]; rfl);rw [d2];go_wp2_with fail
    exact ⟨⟨_, q + 1, rfl, by simp, by omega, HF2, HXN⟩, by simp [intOf]; omega⟩
   ·have d2 : decide ((Tr.count m : Int) ≤ 300) = false := dF (by omega)
    have HXN := hid (show X = false from by rw [HXS.out, dF c2]; rfl);rw [HXN.out] at HQ;rw [d2];go_wp2_with fail
    exact HQ.out _ _ ⟨rfl, HF2.out⟩
  ·have d1 : decide ((q : Int) < (n : Int)) = false := dF (by omega)
   have d1n : decide (q < n) = false := dF c1;have d1' : ¬ (q : Int) < (n : Int) := by omega
   obtain rfl : q = n := by omega
   have HXE := hid (show X = decide ((q : Int) ≤ 8) from by
    rw [HX.out, List.drop_eq_nil_of_le (by have := HN.out; omega)];show decide (q ≤ 8) = _;rw [Bool.eq_iff_iff, decide_eq_true_iff, decide_eq_true_iff];omega)
   rw [HXE.out] at HQ;go_wp2_with fail
   exact HQ.out _ _ ⟨rfl, HF.out⟩
theorem LoadE.gen {W W' : World} {X : Option Mcr.Table} {e : Ending} (h : LoadE W X e W') : ∃ (pt : Option Addr) (i k er : Int), e = .returned (.tuple #[.pointer pt, .int .i64 i, .int .i64 k, .int .i64 er]) ∧ Fresh W W' ∧ ((X = none ∧ er ≠ 0) ∨ ∃ T, X = some T ∧ er = 0 ∧ TabV W' W'.heap.size T (.pointer pt)) := by
 cases X with
 | none =>
  obtain ⟨i, k, er, he, rfl, hf⟩ := h;exact ⟨none, i, k, er, rfl, hf, .inl ⟨rfl, he⟩⟩
 | some T =>
  obtain ⟨gt, bm, nr, sls, rfl, ht⟩ := h;exact ⟨some ⟨gt, 0, none⟩, 0, 0, 0, rfl, ht.fr, .inr ⟨T, rfl, rfl, ht.val⟩⟩
theorem notationEarlier_any (l : List MacD) (A : Option Addr) (cp : Nat) (b : Nat) (hb : b < 256) (args : List Nd) (Aa : Option Addr) (ca : Nat) (w : World) (h : MacRow w A l) (hl : l.length ≤ maxLen) (hcp : l.length ≤ cp) (ha : RepL w args (.slice Aa args.length ca)) (hla : args.length ≤ maxLen) :
  Calls Try.prog 3 #[.slice A l.length cp, .int .u8 (b : Int), .slice Aa args.length ca] w fun e w' => e = .returned (.bool true) ∧ Fresh w w' := by
 have H := hid h;have HL := hid hl;have HA := hid ha;have HLA := hid hla;have HCP := hid hcp;clear h hl ha hla hcp;refine Calls.via fun Q hQ => ?_
 have HQ := hid hQ;clear hQ;have HW20 := hid (fun (W : World) (hf : Fresh w W) => few20_any l A cp W (H.out.fresh hf) HL.out);have HW19 := hid (fun (W : World) (hf : Fresh w W) => few19_any args Aa ca W (HA.out.fresh hf) HLA.out);obtain ⟨n, hn⟩ : ∃ n, n = l.length := ⟨_, rfl⟩;have HN := hid hn;rw [← hn] at HW20 HCP ⊢;clear hn;go_enter Try.func3, Try.ntmps3;go_wp2_with fail
 refine (awake20_any _).mono ?_;rintro _ w1 ⟨rfl, hf1⟩;have HF1 := hid hf1;clear hf1;go_wp2_with fail
 refine (HW20.out _ HF1.out).mono ?_;rintro _ w2 ⟨rfl, hf2⟩;have HF2 := hid (HF1.out.trans hf2);clear hf2 HF1 HW20;cases h20 : few20 l with
 | false =>
  go_wp2_with fail
  refine (awake20_any _).mono ?_;rintro _ w3 ⟨rfl, hf3⟩;have HF3 := hid (HF2.out.trans hf3);clear hf3;go_wp2_with fail
  exact HQ.out _ _ ⟨rfl, HF3.out⟩
 | true =>
  by_cases c0 : n = 0
  ·have d0 : ((n : Int) == (0 : Int)) = true := by simp [c0]
   go_wp2_with fail
   refine (awake20_any _).mono ?_;rintro _ w3 ⟨rfl, hf3⟩;have HF3 := hid (HF2.out.trans hf3);clear hf3;go_wp2_with fail
   exact HQ.out _ _ ⟨rfl, HF3.out⟩
  ·have d0 : ((n : Int) == (0 : Int)) = false := by simp; omega
   go_wp2_with fail
   refine (HW19.out _ HF2.out).mono ?_;rintro _ w3 ⟨rfl, hf3⟩;have HF3 := hid (HF2.out.trans hf3);clear hf3 HF2 HW19;cases h19 : few19 args with
   | false =>
    go_wp2_with fail
    refine (awake20_any _).mono ?_;rintro _ w4 ⟨rfl, hf4⟩;have HF4 := hid (HF3.out.trans hf4);clear hf4;go_wp2_with fail
    exact HQ.out _ _ ⟨rfl, HF4.out⟩
   | true =>
    have hn70 : n ≤ 70 := by
     unfold few20 at h20;rw [Bool.and_eq_true, decide_eq_true_iff] at h20;have := h20.2; have := HN.out; omega
    have HBO := hid (show ∀ m ∈ l, m.1.size ≤ 1000000000 ∧ m.2.2.size ≤ 1000000000 ∧ (Lx.lexAll m.2.2.data.toList).1.length ≤ 8000 from fun m hm => by
     unfold few20 at h20;rw [Bool.and_eq_true, List.all_eq_true] at h20;have h1 := h20.1 m hm;rw [Bool.and_eq_true, decide_eq_true_iff, decide_eq_true_iff] at h1;have h2 := Lx.lexAll_count m.2.2.data.toList;have h3 : m.2.2.data.toList.length = m.2.2.size := by simp
     refine ⟨by omega, by omega, by omega⟩)
    clear h20 h19;have hni : (n : Int) ≤ 70 := by omega
    have hnz : (n : Int) ≠ 0 := by omega
    have hn0 : (0 : Int) < (n : Int) := by omega
    have hbi : (b : Int) < 256 := by omega
    have HL1 := hid (fun (W : World) (hf : Fresh w W) => load_any l A cp W (H.out.fresh hf) (by have := HN.out; omega) HBO.out);rw [← HN.out] at HL1;go_wp2_with fail
    have hjn : b % n < n := Nat.mod_lt _ (by omega);rw [show ((b : Int) % (n : Int)) = ((b % n : Nat) : Int) from by rw [Int.natCast_emod]];generalize b % n = j at hjn ⊢;obtain ⟨g, f, hAg, hg, q0, q1, q2⟩ := (H.out.fresh HF3.out) j (by have := HN.out; omega);clear q0 q1 q2 hg;obtain rfl := hAg;have HJN := hid hjn;have HL2 := hid (fun (W : World) (hf : Fresh w W) => load_any (l.take (j + 1)) _ cp W ((H.out.fresh hf).take _) (by have := HN.out; rw [List.length_take]; omega) (fun m hm => HBO.out m (List.mem_of_mem_take hm)));rw [show (l.take (j + 1)).length = j + 1 by rw [List.length_take]; have := HN.out; have := HJN.out; omega] at HL2;have HCN := hid (show j + 1 ≤ cp by have := HCP.out; omega)
    have HEA := hid (show ∀ T, Mcr.loadF [] (l.map defOf) = some T → ∃ U, Mcr.loadF [] ((l.take (j + 1)).map defOf) = some U ∧ Mcr.getF U (l[j]'(by have := HN.out; have := HJN.out; omega)).1.data.toList = Mcr.getF T (l[j]'(by have := HN.out; have := HJN.out; omega)).1.data.toList from fun T hT => by
     have h1 := Mcr.earlier hT j (by rw [List.length_map]; have := HN.out; have := HJN.out; omega);rw [List.getElem_map, ← List.map_take] at h1;exact h1)
    refine (HL1.out _ HF3.out).mono ?_;intro e w4 hres;obtain ⟨pt, i1, k1, er1, rfl, hf4, hT⟩ := hres.gen;have HF4 := hid (HF3.out.trans hf4);have HT := hid hT;clear hres hf4 hT HL1;have hcz : (j : Int) + 1 ≤ (cp : Int) := by have := HCN.out; omega
    have hcn : j + 1 ≤ cp := HCN.out;go_wp2_with fail
    refine (HL2.out _ HF4.out).mono ?_;intro e w5 hres;obtain ⟨pt2, i2, k2, er2, rfl, hf5, hT2⟩ := hres.gen;have HF5 := hid (HF4.out.trans hf5);have HT5 := hid (show (Mcr.loadF [] (l.map defOf) = none ∧ er1 ≠ 0) ∨ ∃ T, Mcr.loadF [] (l.map defOf) = some T ∧ er1 = 0 ∧ TabV w5 w5.heap.size T (.pointer pt) from HT.out.imp id fun ⟨T, h1, h2, h3⟩ => ⟨T, h1, h2, (h3.up hf5.size).fresh hf5⟩);have HT2 := hid hT2;clear hres hf5 hT2 HL2 HT
    rcases HT5.out with ⟨_, he⟩ | ⟨T, hT, rfl, htv⟩
    ·have e0 : (er1 == (0 : Int)) = false := by simpa using he
     go_wp2_with fail
     exact HQ.out _ _ ⟨rfl, HF5.out⟩
    ·obtain ⟨U, hU, hgU⟩ := HEA.out T hT
     have hjl : j < l.length := by have := HN.out; omega
     rcases HT2.out with ⟨h1, _⟩ | ⟨T2, hT2, rfl, htv2⟩
     ·rw [hU] at h1; cases h1
     ·rw [hU] at hT2
      cases hT2;have HX1 := hid (fun (W : World) (hf : Fresh w5 W) => expandm_any w5.heap.size T (.pointer pt) l[j].1.data.toList args (.slice Aa args.length ca) W (htv.fresh hf) (HA.out.fresh (HF5.out.trans hf)));have HX2 := hid (fun (W : World) (hf : Fresh w5 W) => expandm_any w5.heap.size U (.pointer pt2) l[j].1.data.toList args (.slice Aa args.length ca) W (htv2.fresh hf) (HA.out.fresh (HF5.out.trans hf)));rw [show Mcr.expandF U l[j].1.data.toList args = Mcr.expandF T l[j].1.data.toList args by unfold Mcr.expandF; rw [hgU]] at HX2;rw [show (⟨l[j].1.data.toList.toArray⟩ : ByteArray) = l[j].1 by simp] at HX1 HX2;obtain ⟨g', f', hAg, hg, q0, _, _⟩ := (H.out.fresh HF5.out) j hjl;cases hAg;clear hgU HEA htv htv2 HT2 HT5 hT hU;generalize Mcr.expandF T l[j].1.data.toList args = R at HX1 HX2;generalize l[j].1 = nm at q0 HX1 HX2;obtain ⟨nd, er⟩ := R;obtain ⟨nk, nt, nc, nkids⟩ := nd;go_wp2_with fail
      refine (HX1.out _ (Touch.refl _ _)).mono ?_;rintro _ w6 ⟨A6, c6, rfl, ht6, _, hf6⟩;have HF6 := hid hf6;have HT6 := hid ht6.rep;have HB6 := hid (Blk.new w6 32 #[.int .i64 nk, .string ⟨nt.toArray⟩, .int .i64 nc, .slice A6 nkids.length c6]);have q0' := (hf6.alloc (.cells #[.int .i64 nk, .string ⟨nt.toArray⟩, .int .i64 nc, .slice A6 nkids.length c6] 32)).cell q0 (fun h => h);have hg' : g < (w6.alloc (.cells #[.int .i64 nk, .string ⟨nt.toArray⟩, .int .i64 nc, .slice A6 nkids.length c6] 32)).heap.size := Nat.lt_of_lt_of_le hg (hf6.alloc (.cells #[.int .i64 nk, .string ⟨nt.toArray⟩, .int .i64 nc, .slice A6 nkids.length c6] 32)).size;clear ht6 hf6 q0;unfold nv;simp only [Nd.kind, Nd.text, Nd.cols, Nd.kids] at *;go_wp2_with fail
      have hf7a := HF6.out.alloc (.cells #[.int .i64 nk, .string ⟨nt.toArray⟩, .int .i64 nc, .slice A6 nkids.length c6] 32);refine (HX2.out _ hf7a).mono ?_;rintro _ w7 ⟨A7, c7, rfl, ht7, _, hf7⟩;have HF7 := hid (HF5.out.trans (hf7a.trans hf7));have HT7 := hid ht7.rep;have HT67 := hid ((HT6.out.fresh ((Touch.refl _ w6).alloc (.cells #[.int .i64 nk, .string ⟨nt.toArray⟩, .int .i64 nc, .slice A6 nkids.length c6] 32))).fresh hf7);have HB67 := hid ((hf7.blk HB6.out fun h => h).alloc (.cells #[.int .i64 nk, .string ⟨nt.toArray⟩, .int .i64 nc, .slice A7 nkids.length c7] 32));have HB7 := hid (Blk.new w7 32 #[.int .i64 nk, .string ⟨nt.toArray⟩, .int .i64 nc, .slice A7 nkids.length c7]);have HFA := hid ((Touch.refl (fun _ => False) w7).alloc (.cells #[.int .i64 nk, .string ⟨nt.toArray⟩, .int .i64 nc, .slice A7 nkids.length c7] 32));clear ht7 hf7 hf7a q0' hg' HF6 HB6;obtain ⟨x0, x1, x2, x3, _, _, _, _, hlx⟩ := Blk.four HB67.out;obtain ⟨y0, y1, y2, y3, _, _, _, _, hly⟩ := Blk.four HB7.out;have hee : (er == er) = true := by simp
      unfold nv;simp only [Nd.kind, Nd.text, Nd.cols, Nd.kids] at *;go_wp2_with fail
      refine (equal_any _ (.mk nk nt nc nkids) (.mk nk nt nc nkids) (.slice A6 nkids.length c6) (.slice A7 nkids.length c7) _ (Nat.le_refl _) (HT67.out.fresh HFA.out) (HT7.out.fresh HFA.out)).mono ?_;rintro _ w8 ⟨rfl, hf8⟩;have HF8 := hid (HF7.out.trans (HFA.out.trans hf8));clear hf8;rw [show Tr.eqN (.mk nk nt nc nkids) (.mk nk nt nc nkids) = true from (Tr.eqN_iff _ _).2 rfl];go_wp2_with fail
      exact HQ.out _ _ ⟨rfl, HF8.out⟩
end Go.Proofs.Ytnamnmpnoiodnaa
namespace Go.Proofs.Ytnamnmpnoiodnaa
open Go.ChangeShapes Go.WideShapes Go.ChangeAt Go.RowKit
open Go.ChangeMaps (open_string shut_string)
open Tr (Nd)
theorem cells3 {W : World} {base : Nat} {a : Addr} {cs : List Value} (h : W.cells? base a 3 = some cs) : ∃ c0 c1 c2, cs = [c0, c1, c2] ∧ a.spot = none ∧ a.block < W.heap.size ∧
  W.cell? ⟨a.block, a.off, none⟩ = some c0 ∧ W.cell? ⟨a.block, a.off + 1, none⟩ = some c1 ∧ W.cell? ⟨a.block, a.off + 2, none⟩ = some c2 := by
 obtain ⟨_, hl, hc⟩ := World.cells?_some h
 match cs, hl with
 | [c0, c1, c2], _ =>
  have e0 := hc 0 (by decide);have e1 := hc 1 (by decide);have e2 := hc 2 (by decide);obtain ⟨g, o, s⟩ := a
  have hs : s = none := by
   cases s with
   | none => rfl
   | some x =>
    simp only [Addr.add, if_true, List.getElem?_cons_zero] at e0;unfold World.cell? at e0;split at e0
    ·simp at e0
    ·cases e0
  subst hs;have hlt := bL (a := ⟨g, o, none⟩) (v := c0) (by simpa [Addr.add] using e0);exact ⟨c0, c1, c2, rfl, rfl, hlt, by simpa [Addr.add] using e0, by simpa [Addr.add] using e1, by simpa [Addr.add] using e2⟩
section
variable {H : Type} {enc : TypeId × Value → H}
theorem open_mac3 {w : World} {base : Nat} {sp : Nat → Bool} {hd : Bool} {fuel : Nat} {c0 c1 c2 : Value} {y : DataW H × List MemPlace} (h : DataW.trod enc Try.prog w base sp hd fuel 36 [c0, c1, c2] = some y) :
  ∃ m : MacD, c0 = .string m.1 ∧ c1 = .int .i64 m.2.1 ∧ c2 = .string m.2.2 := by
 obtain ⟨xs, n, hfuel, _, _, hlen, hf⟩ := DataW.trod_struct Try.underlying36 h;have e0 := hf 0 _ rfl;have e1 := hf 1 _ rfl;have e2 := hf 2 _ rfl
 match xs, hlen with
 | [y0, y1, y2], _ =>
  obtain ⟨s, g0, _⟩ := DataW.trod_string Try.underlying9 (by exact e0);obtain ⟨k, g1, _⟩ := DataW.trod_int Try.underlying3 (by exact e1);obtain ⟨b, g2, _⟩ := DataW.trod_string Try.underlying9 (by exact e2);have hC1 : Try.prog.cellsOf 3 = 1 := by kernel_rfl
  have hC2 : Try.prog.cellsOf 9 = 1 := by kernel_rfl
  simp [hC2] at g0
  simp [hC1] at g1
  simp [hC2] at g2
  exact ⟨(s, k, b), g0, g1, g2⟩
theorem open_macs {w : World} {base : Nat} {sp : Nat → Bool} {hd : Bool} {fuel : Nat} {cs : List Value} {y : DataW H × List MemPlace} (h : DataW.trod enc Try.prog w base sp hd fuel 22 cs = some y) :
  ∃ (l : List MacD) (A : Option Addr) (cap : Nat), cs = [.slice A l.length cap] ∧ MacRow w A l ∧ l.length ≤ maxLen ∧ l.length ≤ cap := by
 rcases DataW.trod_slice Try.underlying22 h with ⟨rfl, _⟩ | ⟨a, len, cap, elems, rest, n, hn, rfl, _, hb, hl, hm, hlen, hel, _, _⟩
 ·exact ⟨[], _, _, rfl, fun i hi => absurd hi (Nat.not_lt_zero _), Nat.zero_le _, Nat.zero_le _⟩
 ·have hC : Try.prog.cellsOf 36 = 3 := by kernel_rfl
  rw [hC] at hel
  have each : ∀ i, i < len → ∃ (t : MacD), a.spot = none ∧ a.block < w.heap.size ∧ w.cell? ⟨a.block, a.off + i * 3, none⟩ = some (.string t.1) ∧ w.cell? ⟨a.block, a.off + i * 3 + 1, none⟩ = some (.int .i64 t.2.1) ∧
    w.cell? ⟨a.block, a.off + i * 3 + 2, none⟩ = some (.string t.2.2) := by
   intro i hi;have h0 := hel i hi;rw [List.getElem?_eq_getElem (by omega), Option.bind_eq_some_iff] at h0;obtain ⟨cs', hcs, hy⟩ := h0;obtain ⟨c0, c1, c2, rfl, hs, hlt, e0, e1, e2⟩ := cells3 hcs;obtain ⟨m, rfl, rfl, rfl⟩ := open_mac3 hy;have hblk : (a.add (i * 3)).block = a.block := by unfold Addr.add; split <;> rfl
   have hoff : (a.add (i * 3)).off = a.off + i * 3 := by
    unfold Addr.add;split
    ·omega
    ·rfl
   rw [hblk, hoff] at e0 e1 e2;rw [hblk] at hlt
   have hs0 : a.spot = none := by
    have h00 := hel 0 (by omega);rw [List.getElem?_eq_getElem (by omega), Option.bind_eq_some_iff] at h00;obtain ⟨cs0, hcs0, _⟩ := h00;obtain ⟨_, _, _, _, hs', _⟩ := cells3 hcs0;simpa [Addr.add] using hs'
   exact ⟨m, hs0, hlt, e0, e1, e2⟩
  have he : ∃ f : Nat → MacD, ∀ i, i < len → a.spot = none ∧ a.block < w.heap.size ∧ w.cell? ⟨a.block, a.off + i * 3, none⟩ = some (.string (f i).1) ∧ w.cell? ⟨a.block, a.off + i * 3 + 1, none⟩ = some (.int .i64 (f i).2.1) ∧
    w.cell? ⟨a.block, a.off + i * 3 + 2, none⟩ = some (.string (f i).2.2) := by
   refine ⟨fun i => if h : i < len then Classical.choose (each i h) else (⟨#[]⟩, 0, ⟨#[]⟩), fun i hi => ?_⟩;simp only [dif_pos hi];exact Classical.choose_spec (each i hi)
  obtain ⟨f, hf⟩ := he;have hln : ((List.range len).map f).length = len := by simp
  refine ⟨(List.range len).map f, some a, cap, by rw [hln], fun i hi => ?_, by rw [hln]; omega, by rw [hln]; omega⟩;rw [hln] at hi;obtain ⟨g, o, s⟩ := a;obtain ⟨rfl, h2, h3, h4, h5⟩ := hf i hi;exact ⟨g, o, rfl, h2, by simpa using h3, by simpa using h4, by simpa using h5⟩
end
theorem u8_rangeN {k : Int} (h : (Lit.int .u8 k).wf = true) : 0 ≤ k ∧ k < 256 := by
 have h2 : IntKind.u8.min ≤ k ∧ k ≤ IntKind.u8.max := by simpa [Lit.wf] using h
 have e1 : IntKind.u8.min = 0 := by decide
 have e2 : IntKind.u8.max = 255 := by decide
 omega
theorem notationEarlier_lifted (os : Os) (started : os.Started) (H : Type) (enc : TypeId × Value → H) :
  ReturnsInHanded {} Try.checked os 3 .any (Rows.notationEarlierSpec.pre6 enc Try.prog Try.f3 Rows.notationEarlierRow.domain false) (Rows.notationEarlierSpec.post enc Try.prog Try.f3 false true false false) := by
 refine returnsInHanded_of_change (C := Try.checked) Try.ownKnob started (by kernel_rfl) Try.func3
  (ChangeSpec.witness6 (enc := enc) (C := Try.checked) false ⟨#[], #[.slice none 0 0, .int .u8 0, .slice none 0 0], []⟩ 8 (by kernel_rfl) (by kernel_rfl) (by kernel_rfl) (by kernel_rfl)) ?_
 intro W base args ds gs before hval0 hW hcnd _;have hval : ∀ (j : Nat) t v, Try.f3.params[j]? = some t → args[j]? = some v → Value.okWide Try.prog W .any base t v := hval0;have hW' := hW;obtain ⟨p, q, hA0, hV, rfl, hfz, hnd⟩ := hW;have hA : DataW.TrodAll enc Try.prog W 0 (fun _ => true) true Try.f3.params.toList args.toList ds p := hA0;rw [Try.params3] at hA hval;obtain ⟨v0, v1, v2, d0, d1, d2, p0, p1, p2, rfl, rfl, rfl, h0, h1, h2⟩ := trodAll_three hA;obtain ⟨rfl, rfl⟩ := trodVars_none hV;obtain ⟨a0, n0, c0, rfl⟩ := okWide_slice Try.underlying22 (hval 0 22 v0 rfl rfl);obtain ⟨k1, rfl, _, _, g1⟩ := open_int Try.underlying5 (hval 1 5 v1 rfl rfl) h1;obtain ⟨a2, n2, c2, rfl⟩ := okWide_slice Try.underlying23 (hval 2 23 v2 rfl rfl);obtain ⟨f0, hf0⟩ := h0;obtain ⟨f2, hf2⟩ := h2;obtain ⟨l, A, cap, e0, hm, hl, hc⟩ := open_macs hf0;obtain ⟨ks, v, e2, hr⟩ := open_nodes f2 _ _ hf2;simp [Value.cells] at e0 e2
 obtain ⟨rfl, rfl, rfl⟩ := e0;subst e2;obtain ⟨B, cb, hs⟩ := hr.slice;cases hs;obtain ⟨b, rfl⟩ : ∃ b : Nat, k1 = b := ⟨k1.toNat, by have := u8_rangeN g1; omega⟩;refine (notationEarlier_any l a0 c0 b (by have := u8_rangeN g1; omega) ks a2 c2 W hm hl hc hr hr.len).mono fun e W' ⟨he, hw⟩ => ?_
 exact ⟨_, he, post_true Try.laidOut Try.underlying4 (by kernel_rfl) (by kernel_rfl) rfl rfl hW' hw⟩
theorem NotationEarlier_holds : Rows.NotationEarlierSaid :=
 OpenClaim.holds_of_wide 3 Try.f3 rfl rfl rfl rfl rfl rfl rfl ⟨rfl, rfl, rfl, rfl, rfl⟩ rfl rfl rfl rfl rfl (by kernel_rfl) Try.func3 (by kernel_rfl)
  (of_decide_eq_true (by kernel_rfl)) (by unfold Func.isWrapper; first | (rw [if_pos (by decide +kernel)]; kernel_rfl) | (rw [if_neg (by decide +kernel)]; exact ⟨rfl, rfl⟩))
  (fun os started H enc _ => notationEarlier_lifted os started H enc)
end Go.Proofs.Ytnamnmpnoiodnaa
