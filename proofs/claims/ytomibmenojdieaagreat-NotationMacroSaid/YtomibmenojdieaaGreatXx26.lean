/- Part 26 of 42 of a proof; its texts, joined: NyJ. No condition. -/
import Derived.Test.YtomibmenojdieaaGreatXx24
import Derived.Test.YtomibmenojdieaaGreatXx25
set_option maxRecDepth 100000
set_option maxHeartbeats 400000
namespace Go.Proofs.YtomibmenojdieaaGreat
open Go.RowKit
open Tr (Nd)
open Lx (PTok)
open Mcr (R pRow pIn pScript pItem pPrim pArgs pName pCells pArg pMac)
attribute [local go_sem] stillV stillUpon
def tokA (t : PTok) : Value := .agg #[.int .i64 (t.kind : Int), .string ⟨t.text.toArray⟩, .int .i64 (t.from_ : Int), .int .i64 (t.to_ : Int)]
def matrixR (c : Cf) (f : Nat) (op : List Nat) (r : Mcr.St) : R (List Nd) :=
 if Np.isM 123 r.l then (pCells c.E f (op ++ [Np.place c.en r.l]) [] 0 0 r.up).map fun p => [.mk 12 [] p.2 p.1] else Mcr.refuse c.E r
def MatrixN (c : Cf) (f : Nat) : Prop := ∀ (k : Kp) (op : List Nat) (w : World), Ps c k op w → op.length ≤ k.p → k.p < c.T.length → matrixR c f op (c.at k.up) ≠ .out →
 Calls Tryz.prog 44 #[pp0 c] w (ItemsE c k op (matrixR c f op (c.at k.up)) w)
def NameN (c : Cf) (f : Nat) : Prop := ∀ (k : Kp) (op : List Nat) (t : PTok) (r : List PTok) (w : World), Ps c k op w → op.length ≤ k.p → (c.at k).l = t :: r → pName c.E f op t (c.at k.up) ≠ .out →
 Calls Tryz.prog 90 #[pp0 c, tokA t] w (ItemsE c k op (pName c.E f op t (c.at k.up)) w)
theorem named_enter (s : List UInt8) (F : FuncId) (hF : namedF s = some F) (a : Array Value) (w : World) : (callFunc F a).run Tryz.prog w = .ok (.enter F a) w := by
 rw [namedF_eq] at hF
 repeat' split at hF
 all_goals first | (cases hF; kernel_rfl) | cases hF
theorem named_none (c : Cf) (f : Nat) (op : List Nat) (t : PTok) (r : Mcr.St) (h : namedF t.text = none) : pName c.E (f + 1) op t r = match Mcr.getF c.tb t.text with
  | some m => pMac c.E f m.params op t r
  | none => Mcr.plainName t r := by
 have hs := (namedF_special t.text).1 h;unfold Np.special at hs;simp only [Bool.or_eq_false_iff, beq_eq_false_iff_ne, ne_eq] at hs;obtain ⟨⟨⟨h1, h2⟩, h3⟩, h4⟩ := hs;rw [pName, if_neg h1, if_neg h2, if_neg h3, if_neg (by rw [h4]; decide)];rfl
def ExpandN (c : Cf) (f : Nat) : Prop := ∀ (k : Kp) (op : List Nat) (t : PTok) (m : Mcr.Mac) (w : World), Ps c k op w → op.length ≤ k.p → k.n + 1000 ≤ 1000 * k.p → t.text.length ≤ maxLen → Mcr.getF c.tb t.text = some m → pMac c.E f m.params op t (c.at k) ≠ .out →
 Calls Tryz.prog 102 #[pp0 c, tokA t, .int .i64 (m.params : Int)] w (ItemsE c k op (pMac c.E f m.params op t (c.at k)) w)
theorem named_call (c : Cf) (f : Nat) (k : Kp) (op : List Nat) (t : PTok) (r : List PTok) (w : World) (F : FuncId) (hF : namedF t.text = some F) (h1 : FractionN c f) (h2 : RootN c f) (h3 : MatrixN c f) (h4 : AccentN c f) (h : Ps c k op w) (hop : op.length ≤ k.p) (hl : (c.at k).l = t :: r)
  (hne : pName c.E (f + 1) op t (c.at k.up) ≠ .out) : Calls Tryz.prog F #[pp0 c] w (ItemsE c k op (pName c.E (f + 1) op t (c.at k.up)) w) := by
 have hk := drop_lt (c := c) (k := k) (by rw [hl]; exact List.cons_ne_nil _ _);rw [namedF_eq] at hF;rw [pName] at hne ⊢
 by_cases e1 : t.text = Tr.sFrac
 ·rw [if_pos e1] at hF hne ⊢
  cases hF;exact h1 k op w h hop hk (R.map_out hne)
 ·rw [if_neg e1] at hF hne ⊢
  by_cases e2 : t.text = Tr.sRoot
  ·rw [if_pos e2] at hF hne ⊢
   cases hF;exact h2 k op w h hop hk hne
  ·rw [if_neg e2] at hF hne ⊢
   by_cases e3 : t.text = Tr.sMatrix
   ·rw [if_pos e3] at hF hne ⊢
    cases hF;exact h3 k op w h hop hk hne
   ·rw [if_neg e3] at hF hne ⊢
    by_cases e4 : Np.accented t.text = true
    ·rw [if_pos e4] at hF hne ⊢
     cases hF;exact h4 k op t r w h hop hl (R.map_out hne)
    ·rw [if_neg e4] at hF
     cases hF
theorem name_n (c : Cf) (hc : c.Good) (bm : Nat) (hnm : c.Named bm) (f : Nat) (hF1 : FractionN c f) (hF2 : RootN c f) (hF3 : MatrixN c f) (hF4 : AccentN c f) (hF5 : ExpandN c f) : NameN c (f + 1) := by
 intro k op t r w h hop hl hne;have htl := hc.tl;have hk := drop_lt (c := c) (k := k) (by rw [hl]; exact List.cons_ne_nil _ _);have hk4 : k.p ≤ 100000 := by omega
 have HCALL := hid (fun (F : FuncId) (hF : namedF t.text = some F) (w' : World) (hf : Fresh w w') => named_call c f k op t r w' F hF hF1 hF2 hF3 hF4 (h.fresh hf) hop hl hne);have HMAC := hid (fun (w' : World) (hf : Fresh w w') => macro_any_n c hc k op t.text w' (h.fresh hf));have HEXP := hid hF5;have HNL := hid h.nl;have htx := hc.txt t (List.mem_of_mem_drop (i := k.p) (by rw [← Cf.at_l, hl]; simp));have HTX := hid htx;have HSI := hid (fun (w' : World) (hf : Fresh w w') => single_any_n c hc k op 2 t.text w' (h.fresh hf) hk htx);have HL := hid hl;have H := hid h;have HOP := hid hop;have HNE := hid hne;have HW0 := hid h.low.size;have HK := hid hk;have hgl : c.g < w.heap.size := h.glt;have HNM := hid hnm;have hmv := hnm.1;obtain ⟨ov, hb, _⟩ := h.box;have HB := hid hb;have hmap := hnm.at h;have HMAP := hid hmap;rw [hmv] at hb;have HB := hid hb;clear h hl hop hne hnm hmap hmv hb hF1 hF2 hF3 hF4 hF5 hc htx;refine Calls.via fun Q hQ => ?_
 have HQ := hid hQ;clear hQ;unfold pp0 tokA;go_enter Tryz.func90, Tryz.ntmps90;go_wp2_with fail
 have hf1 : Fresh w ((w.alloc (.cells #[.int .i64 (t.kind : Int), .string ⟨t.text.toArray⟩, .int .i64 (t.from_ : Int), .int .i64 (t.to_ : Int)] 107)).alloc (.cells #[.int .i64 0, .int .i64 0] 48)) := ((Touch.refl _ _).alloc _).alloc _;have hbt1 : Blk ((w.alloc (.cells #[.int .i64 (t.kind : Int), .string ⟨t.text.toArray⟩, .int .i64 (t.from_ : Int), .int .i64 (t.to_ : Int)] 107)).alloc (.cells #[.int .i64 0, .int .i64 0] 48)) w.heap.size 107 #[.int .i64 (t.kind : Int), .string ⟨t.text.toArray⟩, .int .i64 (t.from_ : Int), .int .i64 (t.to_ : Int)] := (Blk.new _ _ _).alloc _;have hbf1 : Blk ((w.alloc (.cells #[.int .i64 (t.kind : Int), .string ⟨t.text.toArray⟩, .int .i64 (t.from_ : Int), .int .i64 (t.to_ : Int)] 107)).alloc (.cells #[.int .i64 0, .int .i64 0] 48)) (w.heap.size + 1) 48 #[.int .i64 0, .int .i64 0] := Blk.new2 _ _ _ _;generalize ((w.alloc (.cells #[.int .i64 (t.kind : Int), .string ⟨t.text.toArray⟩, .int .i64 (t.from_ : Int), .int .i64 (t.to_ : Int)] 107)).alloc (.cells #[.int .i64 0, .int .i64 0] 48)) = W1 at hf1 hbt1 hbf1 ⊢;have HF1 := hid hf1;have HBT1 := hid hbt1;have HBF1 := hid hbf1;have hm1 := (hf1.block bm (Array.getElem?_eq_some_iff.1 HMAP.out).1 (fun h => h)).trans HMAP.out;have hlk := run_named (w := W1.drewN 1) (bm := bm) (g := c.g) (clock := 9) hm1 t.text true;have hb1 := hf1.blk HB.out (fun h => h);have q6 := hb1.cell 6;have z6 := hb1.frozen 6;have hlt0 := hb1.lt;obtain ⟨t0, t1, t2, t3, _, _, _, _, hlt1⟩ := Blk.four hbt1;clear hf1 hbt1 hbf1 hm1 hb1;cases hnf : namedF t.text with
 | some F =>
  rw [hnf] at hlk;simp only [if_true] at hlk;refine wp_region_in (fun W => W = W1.drewN 1) [(0, true), (1, true), (2, true), (3, true), (4, true), (5, true), (6, true), (7, true), (8, true), (9, true), (10, true), (11, true)] (by kernel_rfl) (fun _ _ d _ _ h => by cases d <;> exact h) (by kernel_rfl) rfl ?_;refine wpSeq_plain rfl (fun K hK => ?_);rw [if_pos (by rfl)];refine ⟨(.pointer (some ⟨c.g, 0, none⟩)), fun W hW => ?_, hK _ ?_⟩
  ·subst hW
   go_simp
  clear hK K;refine wpSeq_plain rfl (fun K hK => ?_);rw [if_pos (by rfl)];refine ⟨(.pointer (some ⟨c.g, 0, none⟩)), fun W hW => ?_, hK _ ?_⟩
  ·subst hW
   go_simp
  clear hK K;refine wpSeq_plain rfl (fun K hK => ?_);rw [if_pos (by rfl)];refine ⟨(.pointer (some ⟨c.g, 6, none⟩)), fun W hW => ?_, hK _ ?_⟩
  ·subst hW
   go_simp
  clear hK K;refine wpSeq_plain rfl (fun K hK => ?_);rw [if_pos (by rfl)];refine ⟨(.map (some bm)), fun W hW => ?_, hK _ ?_⟩
  ·subst hW
   go_simp
  clear hK K;refine wpSeq_plain rfl (fun K hK => ?_);rw [if_pos (by rfl)];refine ⟨(.pointer (some ⟨w.heap.size, 1, none⟩)), fun W hW => ?_, hK _ ?_⟩
  ·subst hW
   go_simp
  clear hK K;refine wpSeq_plain rfl (fun K hK => ?_);rw [if_pos (by rfl)];refine ⟨(.string ⟨t.text.toArray⟩), fun W hW => ?_, hK _ ?_⟩
  ·subst hW
   go_simp
  clear hK K;refine wpSeq_plain rfl (fun K hK => ?_);rw [if_pos (by rfl)];refine ⟨(.tuple #[methodV c.g F, .bool true]), fun W hW => ?_, hK _ ?_⟩
  ·subst hW
   go_simp
  clear hK K;refine wpSeq_plain rfl (fun K hK => ?_);rw [if_pos (by rfl)];refine ⟨(.tuple #[methodV c.g F, .bool true]), fun W hW => ?_, hK _ ?_⟩
  ·subst hW
   go_simp
  clear hK K;refine wpSeq_plain rfl (fun K hK => ?_);rw [if_pos (by rfl)];refine ⟨methodV c.g F, fun W hW => ?_, hK _ ?_⟩
  ·subst hW
   go_simp
  clear hK K;refine wpSeq_plain rfl (fun K hK => ?_);rw [if_pos (by rfl)];refine ⟨(.bool true), fun W hW => ?_, hK _ ?_⟩
  ·subst hW
   go_simp
  clear hK K;refine wpSeq_plain rfl (fun K hK => ?_);rw [if_pos (by rfl)];refine ⟨methodV c.g F, fun W hW => ?_, hK _ ?_⟩
  ·subst hW
   go_simp
  clear hK K;refine wpSeq_plain rfl (fun K hK => ?_);rw [if_pos (by rfl)];refine ⟨(.bool true), fun W hW => ?_, hK _ ?_⟩
  ·subst hW
   go_simp
  clear hK K;refine wpSeq_end ?_;have HD1 := hid (show Fresh w (W1.drewN 1) from HF1.out.drewN 1);have HBT2 := hid (HBT1.out.drewN 1);have HBF2 := hid (HBF1.out.drewN 1);clear q6 z6 hlt0 hlk t0 t1 t2 t3 hlt1;generalize W1.drewN 1 = W2 at HD1 HBT2 HBF2 ⊢;unfold methodV;have hcf := named_enter t.text F hnf #[.pointer (some ⟨c.g, 0, none⟩)] W2;go_wp2_with fail
  refine (HCALL.out F hnf W2 HD1.out).mono ?_;intro e w3 hres;have HM2 := hid (Mp.fresh (g := c.g) (B := c.W0.heap.size) HD1.out);generalize pName c.E (f + 1) op t (c.at k.up) = X at HNE HQ hres;cases X with
  | out => exact absurd rfl HNE.out
  | err i er =>
   obtain ⟨he0, A, n, cp, rfl, hm⟩ := hres;have HM3 := hid (HM2.out.trans hm);have HBF3 := hid (hm.blk HBF2.out (by omega) (by decide));have HE0 := hid he0;clear hm he0;obtain ⟨q0, q1, z0, z1, hlt3⟩ := Blk.two HBF3.out;unfold failV;go_wp2_with fail
   have n1 := HBF3.out.self2 (.int .i64 (i : Int)) (.int .i64 (er : Int));have hm4 : Mp c.g c.W0.heap.size w (put2 w3 (w.heap.size + 1) (.int .i64 (i : Int)) (.int .i64 (er : Int))) := HM3.out.put2 (g := w.heap.size + 1) (.inr (by omega)) (.int .i64 (i : Int)) (.int .i64 (er : Int));have ht4 := touch2 w3 (w.heap.size + 1) (.int .i64 (i : Int)) (.int .i64 (er : Int));simp only [put2] at n1 hm4 ht4;generalize (World.setCell (World.setCell w3 ⟨w.heap.size + 1, 0, none⟩ _) ⟨w.heap.size + 1, 1, none⟩ _) = W4 at n1 hm4 ht4 ⊢;obtain ⟨f0, f1, _⟩ := Blk.two n1
   (try simp only [Exit.inBlock, Exit.then])
   refine bodyPost_ret (v := .tuple #[.slice A n cp, failV i er]) (by simp [failV, results, Tryz.results90, go_sem, f0, f1]) rfl ?_;exact HQ.out _ _ ⟨HE0.out, A, n, cp, rfl, hm4⟩
  | ok items rest =>
   obtain ⟨A, cp, k', rfl, htr, hdr, hkk, hp, hm⟩ := hres;have HM3 := hid (HM2.out.trans hm);have HBF3 := hid (hm.blk HBF2.out (by omega) (by decide));have HTR := hid htr;have HDR := hid hdr;have HKK := hid hkk;have HP3 := hid hp;clear hm htr hdr hkk hp;obtain ⟨q0, q1, z0, z1, hlt3⟩ := Blk.two HBF3.out;unfold failV;go_wp2_with fail
   have n1 := HBF3.out.self2 (.int .i64 0) (.int .i64 0);have hm4 : Mp c.g c.W0.heap.size w (put2 w3 (w.heap.size + 1) (.int .i64 0) (.int .i64 0)) := HM3.out.put2 (g := w.heap.size + 1) (.inr (by omega)) (.int .i64 0) (.int .i64 0);have ht4 := touch2 w3 (w.heap.size + 1) (.int .i64 0) (.int .i64 0);simp only [put2] at n1 hm4 ht4;generalize (World.setCell (World.setCell w3 ⟨w.heap.size + 1, 0, none⟩ _) ⟨w.heap.size + 1, 1, none⟩ _) = W4 at n1 hm4 ht4 ⊢;obtain ⟨f0, f1, _⟩ := Blk.two n1
   (try simp only [Exit.inBlock, Exit.then])
   refine bodyPost_ret (v := .tuple #[.slice A items.length cp, failV 0 0]) (by simp [failV, results, Tryz.results90, go_sem, f0, f1]) rfl ?_;have hps := HP3.out.mv ht4 (fun b hb => by have := HW0.out; subst hb; exact ⟨by omega, by omega, _, _, (by decide), HBF3.out⟩);exact HQ.out _ _ ⟨A, cp, k', rfl, (HTR.out.base HM2.out.size).other HBF3.out (by decide) ht4, HDR.out, by have := HKK.out; (try simp only [Kp.up_p] at this ⊢); omega, hps, hm4⟩
 | none =>
  rw [hnf] at hlk;simp only [if_true] at hlk;refine wp_region_in (fun W => W = W1.drewN 1) [(0, true), (1, true), (2, true), (3, true), (4, true), (5, true), (6, true), (7, true), (8, true), (9, true), (10, true), (11, true)] (by kernel_rfl) (fun _ _ d _ _ h => by cases d <;> exact h) (by kernel_rfl) rfl ?_;refine wpSeq_plain rfl (fun K hK => ?_);rw [if_pos (by rfl)];refine ⟨(.pointer (some ⟨c.g, 0, none⟩)), fun W hW => ?_, hK _ ?_⟩
  ·subst hW
   go_simp
  clear hK K;refine wpSeq_plain rfl (fun K hK => ?_);rw [if_pos (by rfl)];refine ⟨(.pointer (some ⟨c.g, 0, none⟩)), fun W hW => ?_, hK _ ?_⟩
  ·subst hW
   go_simp
  clear hK K;refine wpSeq_plain rfl (fun K hK => ?_);rw [if_pos (by rfl)];refine ⟨(.pointer (some ⟨c.g, 6, none⟩)), fun W hW => ?_, hK _ ?_⟩
  ·subst hW
   go_simp
  clear hK K;refine wpSeq_plain rfl (fun K hK => ?_);rw [if_pos (by rfl)];refine ⟨(.map (some bm)), fun W hW => ?_, hK _ ?_⟩
  ·subst hW
   go_simp
  clear hK K;refine wpSeq_plain rfl (fun K hK => ?_);rw [if_pos (by rfl)];refine ⟨(.pointer (some ⟨w.heap.size, 1, none⟩)), fun W hW => ?_, hK _ ?_⟩
  ·subst hW
   go_simp
  clear hK K;refine wpSeq_plain rfl (fun K hK => ?_);rw [if_pos (by rfl)];refine ⟨(.string ⟨t.text.toArray⟩), fun W hW => ?_, hK _ ?_⟩
  ·subst hW
   go_simp
  clear hK K;refine wpSeq_plain rfl (fun K hK => ?_);rw [if_pos (by rfl)];refine ⟨(.tuple #[.nilFunc, .bool false]), fun W hW => ?_, hK _ ?_⟩
  ·subst hW
   go_simp
  clear hK K;refine wpSeq_plain rfl (fun K hK => ?_);rw [if_pos (by rfl)];refine ⟨(.tuple #[.nilFunc, .bool false]), fun W hW => ?_, hK _ ?_⟩
  ·subst hW
   go_simp
  clear hK K;refine wpSeq_plain rfl (fun K hK => ?_);rw [if_pos (by rfl)];refine ⟨.nilFunc, fun W hW => ?_, hK _ ?_⟩
  ·subst hW
   go_simp
  clear hK K;refine wpSeq_plain rfl (fun K hK => ?_);rw [if_pos (by rfl)];refine ⟨(.bool false), fun W hW => ?_, hK _ ?_⟩
  ·subst hW
   go_simp
  clear hK K;refine wpSeq_plain rfl (fun K hK => ?_);rw [if_pos (by rfl)];refine ⟨.nilFunc, fun W hW => ?_, hK _ ?_⟩
  ·subst hW
   go_simp
  clear hK K;refine wpSeq_plain rfl (fun K hK => ?_);rw [if_pos (by rfl)];refine ⟨(.bool false), fun W hW => ?_, hK _ ?_⟩
  ·subst hW
   go_simp
  clear hK K;refine wpSeq_end ?_;have HD1 := hid (show Fresh w (W1.drewN 1) from HF1.out.drewN 1);have HBT2 := hid (HBT1.out.drewN 1);have HBF2 := hid (HBF1.out.drewN 1);clear q6 z6 hlt0 hlk t0 t1 t2 t3 hlt1;generalize W1.drewN 1 = W2 at HD1 HBT2 HBF2 ⊢;obtain ⟨t0, t1, t2, t3, _, _, _, _, hlt1⟩ := Blk.four HBT2.out;go_wp2_with fail
  clear t0 t1 t2 t3 hlt1;refine (HMAC.out W2 HD1.out).mono ?_;rintro _ w3 ⟨rfl, hf⟩;have HD3 := hid (HD1.out.trans hf);have HBT3 := hid (hf.blk HBT2.out fun h => h);have HBF3 := hid (hf.blk HBF2.out fun h => h);clear hf;obtain ⟨t0, t1, t2, t3, _, _, _, _, hlt1⟩ := Blk.four HBT3.out;cases hg : Mcr.getF c.tb t.text with
  | none =>
   have hgv : getV c.tb t.text = (0, false) := by unfold getV; rw [hg]
   rw [hgv]
   by_cases h1 : t.text.length = 1
   ·have c1 : (t.text.length : Int) = 1 := by omega
    have c2 : ((t.text.length : Int) == 1) = true := by simp [c1]
    have HPN := hid (show pName c.E (f + 1) op t (c.at k.up) = .err t.from_ 11 from by
     rw [named_none c f op t _ hnf, hg]; simp only; rw [Mcr.plainName, if_pos h1])
    go_wp2_with fail
    have r2 := cR (HBT3.out.cell 2 |>.trans rfl);have hlt3 := HBT3.out.lt;have HBR := HBF3;have HMR := hid (Mp.fresh (g := c.g) (B := c.W0.heap.size) HD3.out);clear t0 t1 t2 t3 hlt1;refine wp_region_mix [([(0, true), (1, true), (2, true), (3, true)], 4)] [] (by kernel_rfl) (fun _ _ d _ _ h => by cases d <;> exact h) (by kernel_rfl) ?_;refine wpMix_seg ?_
    repeat (refine wpSeq_plain rfl (fun K hK => ?_); go_simp; refine hK _ ?_; clear hK K)
    obtain ⟨p0, p1, y0, y1, hlt⟩ := Blk.two (HBR.out.drewN 1);refine wpSeq_shut rfl (fun K hK => ?_);go_wp2_with fail
    refine wpMix_end ?_;go_wp2_with fail
    have hb5 : Blk _ (w.heap.size + 1) 48 #[.int .i64 (t.from_ : Int), .int .i64 11] := ((HBR.out.drewN 1).put 0 (.int .i64 (t.from_ : Int))).put 1 (.int .i64 11);have hm5 := ((HMR.out.drewN 1).setCell (p := ⟨w.heap.size + 1, 0, none⟩) (.inr (by show w.heap.size ≤ w.heap.size + 1; omega)) (.int .i64 (t.from_ : Int))).setCell (p := ⟨w.heap.size + 1, 1, none⟩) (.inr (by show w.heap.size ≤ w.heap.size + 1; omega)) (.int .i64 11);obtain ⟨f0, f1, _⟩ := Blk.two hb5
    (try simp only [Exit.inBlock, Exit.then])
    refine bodyPost_ret (v := .tuple #[.slice none 0 0, failV t.from_ 11]) (by simp [failV, results, Tryz.results90, go_sem, f0, f1]) rfl ?_;rw [HPN.out] at HQ;exact HQ.out _ _ ⟨by decide, none, 0, 0, rfl, hm5⟩
   ·have c1 : ¬ (t.text.length : Int) = 1 := by omega
    have c2 : ((t.text.length : Int) == 1) = false := by simp [c1]
    have HPN := hid (show pName c.E (f + 1) op t (c.at k.up) = .ok [.mk 2 t.text 0 []] (c.at k.up) from by
     rw [named_none c f op t _ hnf, hg]; simp only; rw [Mcr.plainName, if_neg h1])
    go_wp2_with fail
    refine (HSI.out w3 HD3.out).mono ?_;rintro _ w4 ⟨b, rfl, htr, hp, hm⟩;have HTR := hid htr;have HP4 := hid hp;have HM3 := hid ((Mp.fresh HD3.out).trans hm);have HZ := hid (show w.heap.size + 1 < w3.heap.size from HBF3.out.lt);have hbf4 := hm.blk HBF3.out (by omega) (by decide);clear HBF3 htr hp hm t0 t1 t2 t3 hlt1;have HBF3 := hid hbf4;clear hbf4;obtain ⟨q0, q1, z0, z1, hlt3⟩ := Blk.two HBF3.out;unfold failV;go_wp2_with fail
    have n1 := HBF3.out.self2 (.int .i64 0) (.int .i64 0);have hm4 : Mp c.g c.W0.heap.size w (put2 w4 (w.heap.size + 1) (.int .i64 0) (.int .i64 0)) := HM3.out.put2 (g := w.heap.size + 1) (.inr (by omega)) (.int .i64 0) (.int .i64 0);have ht4 := touch2 w4 (w.heap.size + 1) (.int .i64 0) (.int .i64 0);simp only [put2] at n1 hm4 ht4;generalize (World.setCell (World.setCell w4 ⟨w.heap.size + 1, 0, none⟩ _) ⟨w.heap.size + 1, 1, none⟩ _) = W4 at n1 hm4 ht4 ⊢;obtain ⟨f0, f1, _⟩ := Blk.two n1
    (try simp only [Exit.inBlock, Exit.then])
    refine bodyPost_ret (v := .tuple #[.slice (some ⟨b, 0, none⟩) 1 1, failV 0 0]) (by simp [failV, results, Tryz.results90, go_sem, f0, f1]) rfl ?_;have hps := HP4.out.mv ht4 (fun b hb => by have := HW0.out; subst hb; exact ⟨by omega, by omega, _, _, (by decide), HBF3.out⟩);rw [HPN.out] at HQ;exact HQ.out _ _ ⟨_, 1, k.up, rfl, (HTR.out.base (Nat.le_of_lt (Nat.lt_of_succ_lt HZ.out))).other HBF3.out (by decide) ht4, rfl, Nat.le_succ _, hps, hm4⟩
  | some m =>
   have hgv : getV c.tb t.text = (m.params, true) := by unfold getV; rw [hg]
   rw [hgv];have HGM := hid hg
   have HPN := hid (show pName c.E (f + 1) op t (c.at k.up) = pMac c.E f m.params op t (c.at k.up) from by
    rw [named_none c f op t _ hnf, hg])
   rw [HPN.out] at HQ HNE;have HP3 := hid (H.out.fresh HD3.out);obtain ⟨ov3, hb3, _⟩ := HP3.out.box;have q1 := hb3.cell 1;have z1 := hb3.frozen 1;have hg3 := hb3.lt;have e1 : ((k.p : Int) + 1) = ((k.p + 1 : Nat) : Int) := by simp
   have HE := hid e1;have hne3 : w.heap.size ≠ c.g := by omega
   clear hb3 e1 hgv hg;go_wp2_with fail
   have hn := HP3.out.next HK.out ((k.p : Int) + 1) HE.out;have HBT4 := hid (HBT3.out.far (p := ⟨c.g, 1, none⟩) (fun e => by have h2 : w.heap.size = c.g := e; omega) (.int .i64 ((k.p : Int) + 1)));have HBF4 := hid (HBF3.out.far (p := ⟨c.g, 1, none⟩) (fun e => by have h2 : w.heap.size + 1 = c.g := e; omega) (.int .i64 ((k.p : Int) + 1)));have HP4 := hid hn.1;have HM4 := hid ((Mp.fresh HD3.out).trans hn.2);clear hn t0 t1 t2 t3 hlt1 q1 z1 hg3;generalize (w3.setCell ⟨c.g, 1, none⟩ (.int .i64 ((k.p : Int) + 1))) = W5 at HP4 HM4 HBT4 HBF4 ⊢;have HL5 := hid (show w.heap.size + 1 < W5.heap.size from HBF4.out.lt);obtain ⟨t0, t1, t2, t3, _, _, _, _, hlt1⟩ := Blk.four HBT4.out;go_wp2_with fail
   refine (HEXP.out k.up op t m W5 HP4.out (by have := HOP.out; rw [Kp.up_p]; omega) (by have := HNL.out; rw [Kp.up_p]; show k.n + 1000 ≤ _; omega) HTX.out HGM.out HNE.out).mono ?_;intro e w6 hres;generalize pMac c.E f m.params op t (c.at k.up) = X at HNE HQ hres;clear t0 t1 t2 t3 hlt1;cases X with
   | out => exact absurd rfl HNE.out
   | err i er =>
    obtain ⟨he0, A, n, cp, rfl, hm⟩ := hres;have HM6 := hid (HM4.out.trans hm);have HBF6 := hid (hm.blk HBF4.out (by omega) (by decide));have HE0 := hid he0;clear hm he0;obtain ⟨q0, q1, z0, z1, hlt3⟩ := Blk.two HBF6.out;unfold failV;go_wp2_with fail
    have n1 := HBF6.out.self2 (.int .i64 (i : Int)) (.int .i64 (er : Int));have hm4 : Mp c.g c.W0.heap.size w (put2 w6 (w.heap.size + 1) (.int .i64 (i : Int)) (.int .i64 (er : Int))) := HM6.out.put2 (g := w.heap.size + 1) (.inr (by omega)) (.int .i64 (i : Int)) (.int .i64 (er : Int));have ht4 := touch2 w6 (w.heap.size + 1) (.int .i64 (i : Int)) (.int .i64 (er : Int));simp only [put2] at n1 hm4 ht4;generalize (World.setCell (World.setCell w6 ⟨w.heap.size + 1, 0, none⟩ _) ⟨w.heap.size + 1, 1, none⟩ _) = W7 at n1 hm4 ht4 ⊢;obtain ⟨f0, f1, _⟩ := Blk.two n1
    (try simp only [Exit.inBlock, Exit.then])
    refine bodyPost_ret (v := .tuple #[.slice A n cp, failV i er]) (by simp [failV, results, Tryz.results90, go_sem, f0, f1]) rfl ?_;exact HQ.out _ _ ⟨HE0.out, A, n, cp, rfl, hm4⟩
   | ok items rest =>
    obtain ⟨A, cp, k', rfl, htr, hdr, hkk, hp, hm⟩ := hres;have HM6 := hid (HM4.out.trans hm);have HBF6 := hid (hm.blk HBF4.out (by omega) (by decide));have HTR := hid htr;have HDR := hid hdr;have HKK := hid hkk;have HP6 := hid hp;clear hm htr hdr hkk hp;obtain ⟨q0, q1, z0, z1, hlt3⟩ := Blk.two HBF6.out;unfold failV;go_wp2_with fail
    have n1 := HBF6.out.self2 (.int .i64 0) (.int .i64 0);have hm4 : Mp c.g c.W0.heap.size w (put2 w6 (w.heap.size + 1) (.int .i64 0) (.int .i64 0)) := HM6.out.put2 (g := w.heap.size + 1) (.inr (by omega)) (.int .i64 0) (.int .i64 0);have ht4 := touch2 w6 (w.heap.size + 1) (.int .i64 0) (.int .i64 0);simp only [put2] at n1 hm4 ht4;generalize (World.setCell (World.setCell w6 ⟨w.heap.size + 1, 0, none⟩ _) ⟨w.heap.size + 1, 1, none⟩ _) = W7 at n1 hm4 ht4 ⊢;obtain ⟨f0, f1, _⟩ := Blk.two n1
    (try simp only [Exit.inBlock, Exit.then])
    refine bodyPost_ret (v := .tuple #[.slice A items.length cp, failV 0 0]) (by simp [failV, results, Tryz.results90, go_sem, f0, f1]) rfl ?_;have hps := HP6.out.mv ht4 (fun b hb => by have := HW0.out; subst hb; exact ⟨by omega, by omega, _, _, (by decide), HBF6.out⟩);exact HQ.out _ _ ⟨A, cp, k', rfl, (HTR.out.base HM4.out.size).other HBF6.out (by decide) ht4, HDR.out, by have := HKK.out; rw [Kp.up_p] at this; omega, hps, hm4⟩
end Go.Proofs.YtomibmenojdieaaGreat
