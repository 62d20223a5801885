/- Part 8 of 12 of a proof; its texts, joined: NqJ, NqL, NqM. No condition. -/
import Derived.Test.YtdacpbdamliafaaGreatUa7

/- The parser's name. -/
namespace Go.Proofs.YtdacpbdamliafaaGreat
open Go.RowKit
open Tr (Nd)
open Lx (PTok)
open Np (R pRow pIn pScript pItem pPrim pArgs pName pCells pArg)
attribute [local go_sem] stillV stillUpon
def tokA (t : PTok) : Value := .agg #[.int .i64 (t.kind : Int), .string ⟨t.text.toArray⟩, .int .i64 (t.from_ : Int), .int .i64 (t.to_ : Int)]
def matrixR (c : Cf) (f : Nat) (op : List Nat) (r : List PTok) : R (List Nd) :=
 if Np.isM 123 r then (pCells c.en f (op ++ [Np.place c.en r]) [] 0 0 r.tail).map fun p => [.mk 12 [] p.2 p.1] else Np.refuse c.en r
def MatrixN (c : Cf) (f : Nat) : Prop := ∀ (k : Nat) (op : List Nat) (w : World), Ps c k op w → op.length ≤ k → k < c.T.length → matrixR c f op (c.T.drop (k + 1)) ≠ .out →
 Calls Tryz.prog 109 #[pp0 c] w (ItemsE c k op (matrixR c f op (c.T.drop (k + 1))) w)
def NameN (c : Cf) (f : Nat) : Prop := ∀ (k : Nat) (op : List Nat) (t : PTok) (r : List PTok) (w : World), Ps c k op w → op.length ≤ k → c.T.drop k = t :: r → pName c.en f op t r ≠ .out →
 Calls Tryz.prog 182 #[pp0 c, tokA t] w (ItemsE c k op (pName c.en f op t r) w)
theorem named_enter (s : List UInt8) (F : FuncId) (hF : namedF s = some F) (a : Array Value) (w : World) : (callFunc F a).run Tryz.prog w = .ok (.enter F a) w := by
 rw [namedF_eq] at hF
 repeat' split at hF
 all_goals first | (cases hF; kernel_rfl) | cases hF
theorem named_none (c : Cf) (f : Nat) (op : List Nat) (t : PTok) (r : List PTok) (h : namedF t.text = none) : pName c.en (f + 1) op t r = Np.plainName t r := by
 have hs := (namedF_special t.text).1 h
 unfold Np.special at hs
 simp only [Bool.or_eq_false_iff, beq_eq_false_iff_ne, ne_eq] at hs
 obtain ⟨⟨⟨h1, h2⟩, h3⟩, h4⟩ := hs
 rw [pName, if_neg h1, if_neg h2, if_neg h3, if_neg (by rw [h4]; decide)]
theorem named_call (c : Cf) (f k : Nat) (op : List Nat) (t : PTok) (r : List PTok) (w : World) (F : FuncId) (hF : namedF t.text = some F) (h1 : FractionN c f) (h2 : RootN c f) (h3 : MatrixN c f) (h4 : AccentN c f) (h : Ps c k op w) (hop : op.length ≤ k) (hl : c.T.drop k = t :: r)
  (hne : pName c.en (f + 1) op t r ≠ .out) : Calls Tryz.prog F #[pp0 c] w (ItemsE c k op (pName c.en (f + 1) op t r) w) := by
 have hr : r = c.T.drop (k + 1) := by rw [← List.tail_drop, hl]; rfl
 have hk := drop_lt (c := c) (k := k) (by rw [hl]; exact List.cons_ne_nil _ _)
 rw [namedF_eq] at hF
 rw [pName] at hne ⊢
 rw [hr] at hne ⊢
 by_cases e1 : t.text = Tr.sFrac
 ·rw [if_pos e1] at hF hne ⊢
  cases hF
  exact h1 k op w h hop hk (R.map_out hne)
 ·rw [if_neg e1] at hF hne ⊢
  by_cases e2 : t.text = Tr.sRoot
  ·rw [if_pos e2] at hF hne ⊢
   cases hF
   exact h2 k op w h hop hk hne
  ·rw [if_neg e2] at hF hne ⊢
   by_cases e3 : t.text = Tr.sMatrix
   ·rw [if_pos e3] at hF hne ⊢
    cases hF
    exact h3 k op w h hop hk hne
   ·rw [if_neg e3] at hF hne ⊢
    by_cases e4 : Np.accented t.text = true
    ·rw [if_pos e4] at hF hne ⊢
     cases hF
     exact h4 k op t r w h hop hl (R.map_out hne)
    ·rw [if_neg e4] at hF
     cases hF
set_option maxRecDepth 100000 in
set_option maxHeartbeats 400000 in
theorem name_n (c : Cf) (hc : c.Good) (bm : Nat) (hnm : c.Named bm) (f : Nat) (hF1 : FractionN c f) (hF2 : RootN c f) (hF3 : MatrixN c f) (hF4 : AccentN c f) : NameN c (f + 1) := by
 intro k op t r w h hop hl hne
 have htl := hc.tl
 have hk := drop_lt (c := c) (k := k) (by rw [hl]; exact List.cons_ne_nil _ _)
 have hk4 : k ≤ 100000 := by omega
 have HCALL := hid (fun (F : FuncId) (hF : namedF t.text = some F) (w' : World) (hf : Fresh w w') => named_call c f k op t r w' F hF hF1 hF2 hF3 hF4 (h.fresh hf) hop hl hne)
 have HMAC := hid (fun (w' : World) (hf : Fresh w w') => macro_any_n c k op ⟨t.text.toArray⟩ w' (h.fresh hf))
 have htx := hc.txt t (List.mem_of_mem_drop (i := k) (by rw [hl]; simp))
 have HTX := hid htx
 have HSI := hid (fun (w' : World) (hf : Fresh w w') => single_any_n c hc k op 2 t.text w' (h.fresh hf) hk htx)
 have HL := hid hl
 have H := hid h
 have HOP := hid hop
 have HNE := hid hne
 have HW0 := hid h.low.size
 have HK := hid hk
 have hgl : c.g < w.heap.size := h.glt
 have HNM := hid hnm
 have hmv := hnm.1
 obtain ⟨ov, hb, _⟩ := h.box
 have HB := hid hb
 have hmap := hnm.at h
 have HMAP := hid hmap
 rw [hmv] at hb
 have HB := hid hb
 clear h hl hop hne hnm hmap hmv hb hF1 hF2 hF3 hF4 hc htx
 refine Calls.via fun Q hQ => ?_
 have HQ := hid hQ
 clear hQ
 unfold pp0 tokA
 go_enter Tryz.func182, Tryz.ntmps182
 go_wp2_with fail
 have hf1 : Fresh w ((w.alloc (.cells #[.int .i64 (t.kind : Int), .string ⟨t.text.toArray⟩, .int .i64 (t.from_ : Int), .int .i64 (t.to_ : Int)] 150)).alloc (.cells #[.int .i64 0, .int .i64 0] 88)) := ((Touch.refl _ _).alloc _).alloc _
 have hbt1 : Blk ((w.alloc (.cells #[.int .i64 (t.kind : Int), .string ⟨t.text.toArray⟩, .int .i64 (t.from_ : Int), .int .i64 (t.to_ : Int)] 150)).alloc (.cells #[.int .i64 0, .int .i64 0] 88)) w.heap.size 150 #[.int .i64 (t.kind : Int), .string ⟨t.text.toArray⟩, .int .i64 (t.from_ : Int), .int .i64 (t.to_ : Int)] := (Blk.new _ _ _).alloc _
 have hbf1 : Blk ((w.alloc (.cells #[.int .i64 (t.kind : Int), .string ⟨t.text.toArray⟩, .int .i64 (t.from_ : Int), .int .i64 (t.to_ : Int)] 150)).alloc (.cells #[.int .i64 0, .int .i64 0] 88)) (w.heap.size + 1) 88 #[.int .i64 0, .int .i64 0] := Blk.new2 _ _ _ _
 generalize ((w.alloc (.cells #[.int .i64 (t.kind : Int), .string ⟨t.text.toArray⟩, .int .i64 (t.from_ : Int), .int .i64 (t.to_ : Int)] 150)).alloc (.cells #[.int .i64 0, .int .i64 0] 88)) = W1 at hf1 hbt1 hbf1 ⊢
 have HF1 := hid hf1
 have HBT1 := hid hbt1
 have HBF1 := hid hbf1
 have hm1 := (hf1.block bm (Array.getElem?_eq_some_iff.1 HMAP.out).1 (fun h => h)).trans HMAP.out
 have hlk := run_named (w := W1.drewN 1) (bm := bm) (g := c.g) (clock := 9) hm1 t.text true
 have hb1 := hf1.blk HB.out (fun h => h)
 have q6 := hb1.cell 6
 have z6 := hb1.frozen 6
 have hlt0 := hb1.lt
 obtain ⟨t0, t1, t2, t3, _, _, _, _, hlt1⟩ := Blk.four hbt1
 clear hf1 hbt1 hbf1 hm1 hb1
 cases hnf : namedF t.text with
 | some F =>
  rw [hnf] at hlk
  simp only [if_true] at hlk
  refine wp_region_in (fun W => W = W1.drewN 1) [(0, true), (1, true), (2, true), (3, true), (4, true), (5, true), (6, true), (7, true), (8, true), (9, true), (10, true), (11, true)] (by kernel_rfl) (fun _ _ d _ _ h => by cases d <;> exact h) (by kernel_rfl) rfl ?_
  refine wpSeq_plain rfl (fun K hK => ?_)
  rw [if_pos (by rfl)]
  refine ⟨(.pointer (some ⟨c.g, 0, none⟩)), fun W hW => ?_, hK _ ?_⟩
  ·subst hW
   go_simp
  clear hK K
  refine wpSeq_plain rfl (fun K hK => ?_)
  rw [if_pos (by rfl)]
  refine ⟨(.pointer (some ⟨c.g, 0, none⟩)), fun W hW => ?_, hK _ ?_⟩
  ·subst hW
   go_simp
  clear hK K
  refine wpSeq_plain rfl (fun K hK => ?_)
  rw [if_pos (by rfl)]
  refine ⟨(.pointer (some ⟨c.g, 6, none⟩)), fun W hW => ?_, hK _ ?_⟩
  ·subst hW
   go_simp
  clear hK K
  refine wpSeq_plain rfl (fun K hK => ?_)
  rw [if_pos (by rfl)]
  refine ⟨(.map (some bm)), fun W hW => ?_, hK _ ?_⟩
  ·subst hW
   go_simp
  clear hK K
  refine wpSeq_plain rfl (fun K hK => ?_)
  rw [if_pos (by rfl)]
  refine ⟨(.pointer (some ⟨w.heap.size, 1, none⟩)), fun W hW => ?_, hK _ ?_⟩
  ·subst hW
   go_simp
  clear hK K
  refine wpSeq_plain rfl (fun K hK => ?_)
  rw [if_pos (by rfl)]
  refine ⟨(.string ⟨t.text.toArray⟩), fun W hW => ?_, hK _ ?_⟩
  ·subst hW
   go_simp
  clear hK K
  refine wpSeq_plain rfl (fun K hK => ?_)
  rw [if_pos (by rfl)]
  refine ⟨(.tuple #[methodV c.g F, .bool true]), fun W hW => ?_, hK _ ?_⟩
  ·subst hW
   go_simp
  clear hK K
  refine wpSeq_plain rfl (fun K hK => ?_)
  rw [if_pos (by rfl)]
  refine ⟨(.tuple #[methodV c.g F, .bool true]), fun W hW => ?_, hK _ ?_⟩
  ·subst hW
   go_simp
  clear hK K
  refine wpSeq_plain rfl (fun K hK => ?_)
  rw [if_pos (by rfl)]
  refine ⟨methodV c.g F, fun W hW => ?_, hK _ ?_⟩
  ·subst hW
   go_simp
  clear hK K
  refine wpSeq_plain rfl (fun K hK => ?_)
  rw [if_pos (by rfl)]
  refine ⟨(.bool true), fun W hW => ?_, hK _ ?_⟩
  ·subst hW
   go_simp
  clear hK K
  refine wpSeq_plain rfl (fun K hK => ?_)
  rw [if_pos (by rfl)]
  refine ⟨methodV c.g F, fun W hW => ?_, hK _ ?_⟩
  ·subst hW
   go_simp
  clear hK K
  refine wpSeq_plain rfl (fun K hK => ?_)
  rw [if_pos (by rfl)]
  refine ⟨(.bool true), fun W hW => ?_, hK _ ?_⟩
  ·subst hW
   go_simp
  clear hK K
  refine wpSeq_end ?_
  have HD1 := hid (show Fresh w (W1.drewN 1) from HF1.out.drewN 1)
  have HBT2 := hid (HBT1.out.drewN 1)
  have HBF2 := hid (HBF1.out.drewN 1)
  clear q6 z6 hlt0 hlk t0 t1 t2 t3 hlt1
  generalize W1.drewN 1 = W2 at HD1 HBT2 HBF2 ⊢
  unfold methodV
  have hcf := named_enter t.text F hnf #[.pointer (some ⟨c.g, 0, none⟩)] W2
  go_wp2_with fail
  refine (HCALL.out F hnf W2 HD1.out).mono ?_
  intro e w3 hres
  have HM2 := hid (Mp.fresh (g := c.g) (B := c.W0.heap.size) HD1.out)
  generalize pName c.en (f + 1) op t r = X at HNE HQ hres
  cases X with
  | out => exact absurd rfl HNE.out
  | err i er =>
   obtain ⟨he0, A, n, cp, rfl, hm⟩ := hres
   have HM3 := hid (HM2.out.trans hm)
   have HBF3 := hid (hm.blk HBF2.out (by omega) (by decide))
   have HE0 := hid he0
   clear hm he0
   obtain ⟨q0, q1, z0, z1, hlt3⟩ := Blk.two HBF3.out
   unfold failV
   go_wp2_with fail
   have n1 := HBF3.out.self2 (.int .i64 (i : Int)) (.int .i64 (er : Int))
   have hm4 : Mp c.g c.W0.heap.size w (put2 w3 (w.heap.size + 1) (.int .i64 (i : Int)) (.int .i64 (er : Int))) := HM3.out.put2 (g := w.heap.size + 1) (.inr (by omega)) (.int .i64 (i : Int)) (.int .i64 (er : Int))
   have ht4 := touch2 w3 (w.heap.size + 1) (.int .i64 (i : Int)) (.int .i64 (er : Int))
   simp only [put2] at n1 hm4 ht4
   generalize (World.setCell (World.setCell w3 ⟨w.heap.size + 1, 0, none⟩ _) ⟨w.heap.size + 1, 1, none⟩ _) = W4 at n1 hm4 ht4 ⊢
   obtain ⟨f0, f1, _⟩ := Blk.two n1
   (try simp only [Exit.inBlock, Exit.then])
   refine bodyPost_ret (v := .tuple #[.slice A n cp, failV i er]) (by simp [failV, results, Tryz.results182, go_sem, f0, f1]) rfl ?_
   exact HQ.out _ _ ⟨HE0.out, A, n, cp, rfl, hm4⟩
  | ok items rest =>
   obtain ⟨A, cp, k', rfl, htr, hdr, hkk, hp, hm⟩ := hres
   have HM3 := hid (HM2.out.trans hm)
   have HBF3 := hid (hm.blk HBF2.out (by omega) (by decide))
   have HTR := hid htr
   have HDR := hid hdr
   have HKK := hid hkk
   have HP3 := hid hp
   clear hm htr hdr hkk hp
   obtain ⟨q0, q1, z0, z1, hlt3⟩ := Blk.two HBF3.out
   unfold failV
   go_wp2_with fail
   have n1 := HBF3.out.self2 (.int .i64 0) (.int .i64 0)
   have hm4 : Mp c.g c.W0.heap.size w (put2 w3 (w.heap.size + 1) (.int .i64 0) (.int .i64 0)) := HM3.out.put2 (g := w.heap.size + 1) (.inr (by omega)) (.int .i64 0) (.int .i64 0)
   have ht4 := touch2 w3 (w.heap.size + 1) (.int .i64 0) (.int .i64 0)
   simp only [put2] at n1 hm4 ht4
   generalize (World.setCell (World.setCell w3 ⟨w.heap.size + 1, 0, none⟩ _) ⟨w.heap.size + 1, 1, none⟩ _) = W4 at n1 hm4 ht4 ⊢
   obtain ⟨f0, f1, _⟩ := Blk.two n1
   (try simp only [Exit.inBlock, Exit.then])
   refine bodyPost_ret (v := .tuple #[.slice A items.length cp, failV 0 0]) (by simp [failV, results, Tryz.results182, go_sem, f0, f1]) rfl ?_
   have hps := HP3.out.mv ht4 (fun b hb => by have := HW0.out; subst hb; exact ⟨by omega, by omega, _, _, (by decide), HBF3.out⟩)
   exact HQ.out _ _ ⟨A, cp, k', rfl, (HTR.out.base HM2.out.size).other HBF3.out (by decide) ht4, HDR.out, by have := HKK.out; omega, hps, hm4⟩
 | none =>
  rw [hnf] at hlk
  simp only [if_true] at hlk
  refine wp_region_in (fun W => W = W1.drewN 1) [(0, true), (1, true), (2, true), (3, true), (4, true), (5, true), (6, true), (7, true), (8, true), (9, true), (10, true), (11, true)] (by kernel_rfl) (fun _ _ d _ _ h => by cases d <;> exact h) (by kernel_rfl) rfl ?_
  refine wpSeq_plain rfl (fun K hK => ?_)
  rw [if_pos (by rfl)]
  refine ⟨(.pointer (some ⟨c.g, 0, none⟩)), fun W hW => ?_, hK _ ?_⟩
  ·subst hW
   go_simp
  clear hK K
  refine wpSeq_plain rfl (fun K hK => ?_)
  rw [if_pos (by rfl)]
  refine ⟨(.pointer (some ⟨c.g, 0, none⟩)), fun W hW => ?_, hK _ ?_⟩
  ·subst hW
   go_simp
  clear hK K
  refine wpSeq_plain rfl (fun K hK => ?_)
  rw [if_pos (by rfl)]
  refine ⟨(.pointer (some ⟨c.g, 6, none⟩)), fun W hW => ?_, hK _ ?_⟩
  ·subst hW
   go_simp
  clear hK K
  refine wpSeq_plain rfl (fun K hK => ?_)
  rw [if_pos (by rfl)]
  refine ⟨(.map (some bm)), fun W hW => ?_, hK _ ?_⟩
  ·subst hW
   go_simp
  clear hK K
  refine wpSeq_plain rfl (fun K hK => ?_)
  rw [if_pos (by rfl)]
  refine ⟨(.pointer (some ⟨w.heap.size, 1, none⟩)), fun W hW => ?_, hK _ ?_⟩
  ·subst hW
   go_simp
  clear hK K
  refine wpSeq_plain rfl (fun K hK => ?_)
  rw [if_pos (by rfl)]
  refine ⟨(.string ⟨t.text.toArray⟩), fun W hW => ?_, hK _ ?_⟩
  ·subst hW
   go_simp
  clear hK K
  refine wpSeq_plain rfl (fun K hK => ?_)
  rw [if_pos (by rfl)]
  refine ⟨(.tuple #[.nilFunc, .bool false]), fun W hW => ?_, hK _ ?_⟩
  ·subst hW
   go_simp
  clear hK K
  refine wpSeq_plain rfl (fun K hK => ?_)
  rw [if_pos (by rfl)]
  refine ⟨(.tuple #[.nilFunc, .bool false]), fun W hW => ?_, hK _ ?_⟩
  ·subst hW
   go_simp
  clear hK K
  refine wpSeq_plain rfl (fun K hK => ?_)
  rw [if_pos (by rfl)]
  refine ⟨.nilFunc, fun W hW => ?_, hK _ ?_⟩
  ·subst hW
   go_simp
  clear hK K
  refine wpSeq_plain rfl (fun K hK => ?_)
  rw [if_pos (by rfl)]
  refine ⟨(.bool false), fun W hW => ?_, hK _ ?_⟩
  ·subst hW
   go_simp
  clear hK K
  refine wpSeq_plain rfl (fun K hK => ?_)
  rw [if_pos (by rfl)]
  refine ⟨.nilFunc, fun W hW => ?_, hK _ ?_⟩
  ·subst hW
   go_simp
  clear hK K
  refine wpSeq_plain rfl (fun K hK => ?_)
  rw [if_pos (by rfl)]
  refine ⟨(.bool false), fun W hW => ?_, hK _ ?_⟩
  ·subst hW
   go_simp
  clear hK K
  refine wpSeq_end ?_
  have HD1 := hid (show Fresh w (W1.drewN 1) from HF1.out.drewN 1)
  have HBT2 := hid (HBT1.out.drewN 1)
  have HBF2 := hid (HBF1.out.drewN 1)
  clear q6 z6 hlt0 hlk t0 t1 t2 t3 hlt1
  generalize W1.drewN 1 = W2 at HD1 HBT2 HBF2 ⊢
  obtain ⟨t0, t1, t2, t3, _, _, _, _, hlt1⟩ := Blk.four HBT2.out
  go_wp2_with fail
  clear t0 t1 t2 t3 hlt1
  refine (HMAC.out W2 HD1.out).mono ?_
  rintro _ w3 ⟨rfl, hf⟩
  have HD3 := hid (HD1.out.trans hf)
  have HBT3 := hid (hf.blk HBT2.out fun h => h)
  have HBF3 := hid (hf.blk HBF2.out fun h => h)
  clear hf
  obtain ⟨t0, t1, t2, t3, _, _, _, _, hlt1⟩ := Blk.four HBT3.out
  by_cases h1 : t.text.length = 1
  ·have c1 : (t.text.length : Int) = 1 := by omega
   have c2 : ((t.text.length : Int) == 1) = true := by simp [c1]
   have HPN := hid (show pName c.en (f + 1) op t r = .err t.from_ 11 from by
    rw [named_none c f op t r hnf, Np.plainName, if_pos h1])
   go_wp2_with fail
   have r2 := cell_regrown (HBT3.out.cell 2 |>.trans rfl)
   have hlt3 := HBT3.out.lt
   have HBR := HBF3
   have HMR := hid (Mp.fresh (g := c.g) (B := c.W0.heap.size) HD3.out)
   clear t0 t1 t2 t3 hlt1
   refine wp_region_mix [([(0, true), (1, true), (2, true), (3, true)], 4)] [] (by kernel_rfl) (fun _ _ d _ _ h => by cases d <;> exact h) (by kernel_rfl) ?_
   refine wpMix_seg ?_
   repeat (refine wpSeq_plain rfl (fun K hK => ?_); go_simp; refine hK _ ?_; clear hK K)
   obtain ⟨p0, p1, y0, y1, hlt⟩ := Blk.two (HBR.out.drewN 1)
   refine wpSeq_shut rfl (fun K hK => ?_)
   go_wp2_with fail
   refine wpMix_end ?_
   go_wp2_with fail
   have hb5 : Blk _ (w.heap.size + 1) 88 #[.int .i64 (t.from_ : Int), .int .i64 11] := ((HBR.out.drewN 1).put 0 (.int .i64 (t.from_ : Int))).put 1 (.int .i64 11)
   have hm5 := ((HMR.out.drewN 1).setCell (p := ⟨w.heap.size + 1, 0, none⟩) (.inr (by show w.heap.size ≤ w.heap.size + 1; omega)) (.int .i64 (t.from_ : Int))).setCell (p := ⟨w.heap.size + 1, 1, none⟩) (.inr (by show w.heap.size ≤ w.heap.size + 1; omega)) (.int .i64 11)
   obtain ⟨f0, f1, _⟩ := Blk.two hb5
   (try simp only [Exit.inBlock, Exit.then])
   refine bodyPost_ret (v := .tuple #[.slice none 0 0, failV t.from_ 11]) (by simp [failV, results, Tryz.results182, go_sem, f0, f1]) rfl ?_
   rw [HPN.out] at HQ
   exact HQ.out _ _ ⟨by decide, none, 0, 0, rfl, hm5⟩
  ·have c1 : ¬ (t.text.length : Int) = 1 := by omega
   have c2 : ((t.text.length : Int) == 1) = false := by simp [c1]
   have HPN := hid (show pName c.en (f + 1) op t r = .ok [.mk 2 t.text 0 []] r from by
    rw [named_none c f op t r hnf, Np.plainName, if_neg h1])
   go_wp2_with fail
   refine (HSI.out w3 HD3.out).mono ?_
   rintro _ w4 ⟨b, rfl, htr, hp, hm⟩
   have HTR := hid htr
   have HP4 := hid hp
   have HM3 := hid ((Mp.fresh HD3.out).trans hm)
   have HZ := hid (show w.heap.size + 1 < w3.heap.size from HBF3.out.lt)
   have hbf4 := hm.blk HBF3.out (by omega) (by decide)
   clear HBF3 htr hp hm t0 t1 t2 t3 hlt1
   have HBF3 := hid hbf4
   clear hbf4
   obtain ⟨q0, q1, z0, z1, hlt3⟩ := Blk.two HBF3.out
   unfold failV
   go_wp2_with fail
   have n1 := HBF3.out.self2 (.int .i64 0) (.int .i64 0)
   have hm4 : Mp c.g c.W0.heap.size w (put2 w4 (w.heap.size + 1) (.int .i64 0) (.int .i64 0)) := HM3.out.put2 (g := w.heap.size + 1) (.inr (by omega)) (.int .i64 0) (.int .i64 0)
   have ht4 := touch2 w4 (w.heap.size + 1) (.int .i64 0) (.int .i64 0)
   simp only [put2] at n1 hm4 ht4
   generalize (World.setCell (World.setCell w4 ⟨w.heap.size + 1, 0, none⟩ _) ⟨w.heap.size + 1, 1, none⟩ _) = W4 at n1 hm4 ht4 ⊢
   obtain ⟨f0, f1, _⟩ := Blk.two n1
   (try simp only [Exit.inBlock, Exit.then])
   refine bodyPost_ret (v := .tuple #[.slice (some ⟨b, 0, none⟩) 1 1, failV 0 0]) (by simp [failV, results, Tryz.results182, go_sem, f0, f1]) rfl ?_
   have hps := HP4.out.mv ht4 (fun b hb => by have := HW0.out; subst hb; exact ⟨by omega, by omega, _, _, (by decide), HBF3.out⟩)
   rw [HPN.out] at HQ
   have hr : c.T.drop (k + 1) = r := by rw [← List.tail_drop, HL.out]; rfl
   exact HQ.out _ _ ⟨_, 1, k + 1, rfl, (HTR.out.base (Nat.le_of_lt (Nat.lt_of_succ_lt HZ.out))).other HBF3.out (by decide) ht4, hr, by omega, hps, hm4⟩
end Go.Proofs.YtdacpbdamliafaaGreat

/- The parser's primary. -/
namespace Go.Proofs.YtdacpbdamliafaaGreat
open Go.RowKit
open Tr (Nd)
open Lx (PTok)
open Np (R pRow pIn pScript pItem pPrim pArgs pName pCells pArg)
attribute [local go_sem] stillV stillUpon
def PrimaryN (c : Cf) (f : Nat) : Prop := ∀ (k : Nat) (op : List Nat) (w : World), Ps c k op w → op.length ≤ k → pPrim c.en f op (c.T.drop k) ≠ .out → Calls Tryz.prog 154 #[pp0 c] w (ItemsE c k op (pPrim c.en f op (c.T.drop k)) w)
theorem isM_parts {b : UInt8} {t : PTok} {r : List PTok} (h : Np.isM b (t :: r) = true) : t.kind = 7 ∧ t.text = [b] := by
 simpa [Np.isM] using h
theorem ItemsE.parts {c : Cf} {k : Nat} {op : List Nat} {X : R (List Nd)} {w w' : World} {e : Ending} (h : ItemsE c k op X w e w') (hne : X ≠ .out) : ∃ A n cp i er, e = .returned (.tuple #[.slice A n cp, failV i er]) ∧ Mp c.g c.W0.heap.size w w' ∧
  ((∃ items rest k', X = .ok items rest ∧ n = items.length ∧ i = 0 ∧ er = 0 ∧ TreT w.heap.size w' items (.slice A n cp) ∧ c.T.drop k' = rest ∧ k ≤ k' ∧ Ps c k' op w') ∨ (X = .err i er ∧ er ≠ 0)) := by
 cases X with
 | out => exact absurd rfl hne
 | err i er =>
  obtain ⟨he0, A, n, cp, rfl, hm⟩ := h
  exact ⟨A, n, cp, i, er, rfl, hm, .inr ⟨rfl, he0⟩⟩
 | ok items rest =>
  obtain ⟨A, cp, k', rfl, htr, hdr, hkk, hp, hm⟩ := h
  exact ⟨A, items.length, cp, 0, 0, rfl, hm, .inl ⟨items, rest, k', rfl, rfl, rfl, rfl, htr, hdr, hkk, hp⟩⟩
set_option maxRecDepth 100000 in
set_option maxHeartbeats 400000 in
theorem primary_n (c : Cf) (hc : c.Good) (f : Nat) (hname : NameN c f) (hwith : WithN c f 1) (henc : EnclosedN c f) : PrimaryN c (f + 1) := by
 intro k op w h hop hne
 have htl := hc.tl
 have HSIM := hid (fun (w' : World) (hf : Fresh w w') => simple_any_n c hc k op w' (h.fresh hf))
 have HT := hid (fun (w' : World) (hf : Fresh w w') => tok_any_n c hc k op w' (h.fresh hf))
 have HA := hid (fun (b : UInt8) (w' : World) (hf : Fresh w w') => at_any_n c hc k op b w' (h.fresh hf))
 have HR := hid (fun (w' : World) (hf : Fresh w w') => refuse_any_n c hc k op w' (h.fresh hf))
 have HNA := hid hname
 have HW := hid hwith
 have HEN := hid henc
 have HTXT := hid hc.txt
 have H := hid h
 have HOP := hid hop
 have HW0 := hid h.low.size
 have hgl : c.g < w.heap.size := h.glt
 have HNE := hid hne
 refine Calls.via fun Q hQ => ?_
 have HQ := hid hQ
 clear hne h hop hc hQ hname hwith henc
 generalize hl : c.T.drop k = l at HSIM HT HA HR HNE HQ
 unfold SimpleE at HSIM
 rw [hl] at HSIM
 have HL := hid hl
 clear hl
 unfold pp0
 go_enter Tryz.func154, Tryz.ntmps154
 go_wp2_with fail
 refine (HSIM.out _ ((Touch.refl _ _).alloc _)).mono ?_
 rintro e w1 (⟨x, b, hx, rfl, htr, hp, hm⟩ | ⟨hx, rfl, hf⟩)
 ·have HM3 := hid ((Mp.fresh ((Touch.refl _ w).alloc _)).trans hm)
  have HBF3 := hid (hm.blk (Blk.new w 88 #[.int .i64 0, .int .i64 0]) (by omega) (by decide))
  have HTR := hid htr
  have HP3 := hid hp
  have HX := hid (show pPrim c.en (f + 1) op l = .ok [x] (c.T.drop (k + 1)) from by
   cases l with
   | nil => cases hx
   | cons t r =>
    have hr : c.T.drop (k + 1) = r := by rw [← List.tail_drop, HL.out]; rfl
    rw [hr, pPrim]
    simp only [show Np.leafOf t = some x from hx])
  clear hm htr hp hx
  obtain ⟨q0, q1, z0, z1, hlt3⟩ := Blk.two HBF3.out
  (try unfold failV)
  go_wp2_with fail
  have n1 := HBF3.out.self2 (.int .i64 0) (.int .i64 0)
  have hm4 : Mp c.g c.W0.heap.size w (put2 w1 (w.heap.size) (.int .i64 0) (.int .i64 0)) := HM3.out.put2 (g := w.heap.size) (.inr (by omega)) (.int .i64 0) (.int .i64 0)
  have ht4 := touch2 w1 (w.heap.size) (.int .i64 0) (.int .i64 0)
  simp only [put2] at n1 hm4 ht4
  generalize (World.setCell (World.setCell w1 ⟨w.heap.size, 0, none⟩ _) ⟨w.heap.size, 1, none⟩ _) = W4 at n1 hm4 ht4 ⊢
  obtain ⟨f0, f1, _⟩ := Blk.two n1
  (try simp only [Exit.inBlock, Exit.then])
  refine bodyPost_ret (v := .tuple #[.slice (some ⟨b, 0, none⟩) 1 1, failV 0 0]) (by simp [failV, results, Tryz.results154, go_sem, f0, f1]) rfl ?_
  have hps := HP3.out.mv ht4 (fun b hb => by have := HW0.out; subst hb; exact ⟨by omega, by omega, _, _, (by decide), HBF3.out⟩)
  rw [HX.out] at HQ
  exact HQ.out _ _ ⟨_, 1, k + 1, rfl, (HTR.out.base (by simp)).other HBF3.out (by decide) ht4, rfl, by omega, hps, hm4⟩
 ·have HF1 := hid (show Fresh w w1 from Touch.pre hf)
  have HBF1 := hid (hf.blk (Blk.new w 88 #[.int .i64 0, .int .i64 0]) (fun h => h))
  have HS1 := hid (show w.heap.size < w1.heap.size from HBF1.out.lt)
  clear hf
  cases l with
  | nil =>
   have m40 : Np.isM 40 ([] : List PTok) = false := rfl
   have m91 : Np.isM 91 ([] : List PTok) = false := rfl
   have m123 : Np.isM 123 ([] : List PTok) = false := rfl
   have HXX := hid (show pPrim c.en (f + 1) op [] = .err (Np.place c.en []) 3 from by rw [pPrim]; rfl)
   rw [HXX.out] at HQ
   unfold tokV at HT
   go_wp2_with fail
   refine (HT.out _ HF1.out).mono ?_
   rintro _ w2 ⟨rfl, hf⟩
   have HF2 := hid (HF1.out.trans hf)
   have HBF2' := hid (hf.blk HBF1.out fun h => h)
   clear hf
   go_wp2_with fail
   refine (HA.out 40 _ (HF2.out.alloc (.cells #[.int .i64 0, .string ⟨#[]⟩, .int .i64 (c.en : Int), .int .i64 (c.en : Int)] 150))).mono ?_
   rintro _ w3 ⟨rfl, hf⟩
   have HF3 := hid ((HF2.out.alloc (.cells #[.int .i64 0, .string ⟨#[]⟩, .int .i64 (c.en : Int), .int .i64 (c.en : Int)] 150)).trans hf)
   have HB3 := hid (hf.blk (HBF2'.out.alloc (.cells #[.int .i64 0, .string ⟨#[]⟩, .int .i64 (c.en : Int), .int .i64 (c.en : Int)] 150)) fun h => h)
   have HT3 := hid (hf.blk (Blk.new w2 150 #[.int .i64 0, .string ⟨#[]⟩, .int .i64 (c.en : Int), .int .i64 (c.en : Int)]) fun h => h)
   clear hf
   rw [m40]
   go_wp2_with fail
   refine (HA.out 91 _ HF3.out).mono ?_
   rintro _ w4 ⟨rfl, hf⟩
   have HF4 := hid (HF3.out.trans hf)
   have HB4 := hid (hf.blk HB3.out fun h => h)
   have HT4 := hid (hf.blk HT3.out fun h => h)
   clear hf
   rw [m91]
   go_wp2_with fail
   refine (HA.out 123 _ HF4.out).mono ?_
   rintro _ w5 ⟨rfl, hf⟩
   have HF5 := hid (HF4.out.trans hf)
   have HB5 := hid (hf.blk HB4.out fun h => h)
   have HT5 := hid (hf.blk HT4.out fun h => h)
   clear hf
   rw [m123]
   go_wp2_with fail
   refine (HR.out _ HF5.out).mono ?_
   rintro _ w9 ⟨rfl, hf⟩
   have HM3 := hid (Mp.fresh (g := c.g) (B := c.W0.heap.size) (HF5.out.trans hf))
   have HBF3 := hid (hf.blk HB5.out fun h => h)
   clear hf
   obtain ⟨q0, q1, z0, z1, hlt3⟩ := Blk.two HBF3.out
   (try unfold failV)
   go_wp2_with fail
   have n1 := HBF3.out.self2 (.int .i64 (Np.place c.en [] : Int)) (.int .i64 3)
   have hm4 : Mp c.g c.W0.heap.size w (put2 w9 (w.heap.size) (.int .i64 (Np.place c.en [] : Int)) (.int .i64 3)) := HM3.out.put2 (g := w.heap.size) (.inr (by omega)) (.int .i64 (Np.place c.en [] : Int)) (.int .i64 3)
   have ht4 := touch2 w9 (w.heap.size) (.int .i64 (Np.place c.en [] : Int)) (.int .i64 3)
   simp only [put2] at n1 hm4 ht4
   generalize (World.setCell (World.setCell w9 ⟨w.heap.size, 0, none⟩ _) ⟨w.heap.size, 1, none⟩ _) = W4 at n1 hm4 ht4 ⊢
   obtain ⟨f0, f1, _⟩ := Blk.two n1
   (try simp only [Exit.inBlock, Exit.then])
   refine bodyPost_ret (v := .tuple #[.slice none 0 0, failV (Np.place c.en []) 3]) (by simp [failV, results, Tryz.results154, go_sem, f0, f1]) rfl ?_
   exact HQ.out _ _ ⟨by decide, none, 0, 0, rfl, hm4⟩
  | cons t r =>
   have HK := hid (show k < c.T.length from drop_lt (by rw [HL.out]; exact List.cons_ne_nil _ _))
   have hr : r = c.T.drop (k + 1) := by rw [← List.tail_drop, HL.out]; rfl
   have HR1 := hid hr
   have HX := hid (show Np.leafOf t = none from hx)
   have HTX := hid (HTXT.out t (List.mem_of_mem_drop (i := k) (by rw [HL.out]; simp)))
   clear hx hr
   unfold tokV at HT
   go_wp2_with fail
   refine (HT.out _ HF1.out).mono ?_
   rintro _ w2 ⟨rfl, hf⟩
   have HF2 := hid (HF1.out.trans hf)
   have HBF2' := hid (hf.blk HBF1.out fun h => h)
   clear hf
   by_cases h4 : t.kind = 4
   ·have e4 := kind_is _ 4 h4
    have HXX := hid (show pPrim c.en (f + 1) op (t :: r) = pName c.en f op t r from by
     rw [pPrim]
     simp only [HX.out]
     rw [if_pos h4])
    rw [HXX.out] at HQ HNE
    clear h4
    go_wp2_with fail
    have hf3 := HF2.out.alloc (.cells #[.int .i64 (t.kind : Int), .string ⟨t.text.toArray⟩, .int .i64 (t.from_ : Int), .int .i64 (t.to_ : Int)] 150)
    have hbf3 := HBF2'.out.alloc (.cells #[.int .i64 (t.kind : Int), .string ⟨t.text.toArray⟩, .int .i64 (t.from_ : Int), .int .i64 (t.to_ : Int)] 150)
    generalize (w2.alloc (.cells #[.int .i64 (t.kind : Int), .string ⟨t.text.toArray⟩, .int .i64 (t.from_ : Int), .int .i64 (t.to_ : Int)] 150)) = W2 at hf3 hbf3 ⊢
    have HM2 := hid (Mp.fresh (g := c.g) (B := c.W0.heap.size) hf3)
    have HBF2 := hid hbf3
    refine (HNA.out k op t r W2 (H.out.fresh hf3) HOP.out HL.out HNE.out).mono ?_
    intro e w3 hres
    clear hf3 hbf3
    generalize pName c.en f op t r = X at HNE HQ hres
    cases X with
    | out => exact absurd rfl HNE.out
    | err i er =>
     obtain ⟨he0, A, n, cp, rfl, hm⟩ := hres
     have HM3 := hid (HM2.out.trans hm)
     have HBF3 := hid (hm.blk HBF2.out (by omega) (by decide))
     have HE0 := hid he0
     clear hm he0
     obtain ⟨q0, q1, z0, z1, hlt3⟩ := Blk.two HBF3.out
     (try unfold failV)
     go_wp2_with fail
     have n1 := HBF3.out.self2 (.int .i64 (i : Int)) (.int .i64 (er : Int))
     have hm4 : Mp c.g c.W0.heap.size w (put2 w3 (w.heap.size) (.int .i64 (i : Int)) (.int .i64 (er : Int))) := HM3.out.put2 (g := w.heap.size) (.inr (by omega)) (.int .i64 (i : Int)) (.int .i64 (er : Int))
     have ht4 := touch2 w3 (w.heap.size) (.int .i64 (i : Int)) (.int .i64 (er : Int))
     simp only [put2] at n1 hm4 ht4
     generalize (World.setCell (World.setCell w3 ⟨w.heap.size, 0, none⟩ _) ⟨w.heap.size, 1, none⟩ _) = W4 at n1 hm4 ht4 ⊢
     obtain ⟨f0, f1, _⟩ := Blk.two n1
     (try simp only [Exit.inBlock, Exit.then])
     refine bodyPost_ret (v := .tuple #[.slice A n cp, failV i er]) (by simp [failV, results, Tryz.results154, go_sem, f0, f1]) rfl ?_
     exact HQ.out _ _ ⟨HE0.out, A, n, cp, rfl, hm4⟩
    | ok items rest =>
     obtain ⟨A, cp, k', rfl, htr, hdr, hkk, hp, hm⟩ := hres
     have HM3 := hid (HM2.out.trans hm)
     have HBF3 := hid (hm.blk HBF2.out (by omega) (by decide))
     have HTR := hid htr
     have HDR := hid hdr
     have HKK := hid hkk
     have HP3 := hid hp
     clear hm htr hdr hkk hp
     obtain ⟨q0, q1, z0, z1, hlt3⟩ := Blk.two HBF3.out
     (try unfold failV)
     go_wp2_with fail
     have n1 := HBF3.out.self2 (.int .i64 0) (.int .i64 0)
     have hm4 : Mp c.g c.W0.heap.size w (put2 w3 (w.heap.size) (.int .i64 0) (.int .i64 0)) := HM3.out.put2 (g := w.heap.size) (.inr (by omega)) (.int .i64 0) (.int .i64 0)
     have ht4 := touch2 w3 (w.heap.size) (.int .i64 0) (.int .i64 0)
     simp only [put2] at n1 hm4 ht4
     generalize (World.setCell (World.setCell w3 ⟨w.heap.size, 0, none⟩ _) ⟨w.heap.size, 1, none⟩ _) = W4 at n1 hm4 ht4 ⊢
     obtain ⟨f0, f1, _⟩ := Blk.two n1
     (try simp only [Exit.inBlock, Exit.then])
     refine bodyPost_ret (v := .tuple #[.slice A items.length cp, failV 0 0]) (by simp [failV, results, Tryz.results154, go_sem, f0, f1]) rfl ?_
     have hps := HP3.out.mv ht4 (fun b hb => by have := HW0.out; subst hb; exact ⟨by omega, by omega, _, _, (by decide), HBF3.out⟩)
     exact HQ.out _ _ ⟨A, cp, k', rfl, (HTR.out.base HM2.out.size).other HBF3.out (by decide) ht4, HDR.out, by have := HKK.out; omega, hps, hm4⟩
   ·have e4 := kind_no _ 4 h4
    by_cases h5 : t.kind = 5
    ·have e5 := kind_is _ 5 h5
     have HXX := hid (show pPrim c.en (f + 1) op (t :: r) = (pArgs c.en f 1 op (c.T.drop (k + 1))).map fun ks => [.mk 11 t.text 0 ks] from by
      rw [← HR1.out, pPrim]
      simp only [HX.out]
      rw [if_neg h4, if_pos h5])
     rw [HXX.out] at HQ HNE
     clear h4 h5
     have hk4 : k ≤ 100000 := by have := HK.out; omega
     have HE := hid (show ((k : Int) + 1) = ((k + 1 : Nat) : Int) by simp)
     obtain ⟨ov, hb2, _⟩ := (H.out.fresh HF2.out).box
     have q1 := hb2.cell 1
     have z1 := hb2.frozen 1
     have hg2 := hb2.lt
     clear hb2
     go_wp2_with fail
     have hn := (H.out.fresh HF2.out).next HK.out ((k : Int) + 1) HE.out
     have hbf3 := HBF2'.out.far (p := ⟨c.g, 1, none⟩) (fun e => by have e' : w.heap.size = c.g := e; omega) (.int .i64 ((k : Int) + 1))
     generalize (w2.setCell ⟨c.g, 1, none⟩ (.int .i64 ((k : Int) + 1))) = W1 at hn hbf3 ⊢
     have hp3 := hn.1.fresh ((Touch.refl _ W1).alloc (.cells #[.int .i64 (t.kind : Int), .string ⟨t.text.toArray⟩, .int .i64 (t.from_ : Int), .int .i64 (t.to_ : Int)] 150))
     have hm3 := (Mp.fresh HF2.out).trans (hn.2.trans (Mp.fresh ((Touch.refl _ W1).alloc (.cells #[.int .i64 (t.kind : Int), .string ⟨t.text.toArray⟩, .int .i64 (t.from_ : Int), .int .i64 (t.to_ : Int)] 150))))
     have hbf4 := hbf3.alloc (.cells #[.int .i64 (t.kind : Int), .string ⟨t.text.toArray⟩, .int .i64 (t.from_ : Int), .int .i64 (t.to_ : Int)] 150)
     generalize (W1.alloc (.cells #[.int .i64 (t.kind : Int), .string ⟨t.text.toArray⟩, .int .i64 (t.from_ : Int), .int .i64 (t.to_ : Int)] 150)) = W2 at hp3 hm3 hbf4 ⊢
     have HP2 := hid hp3
     have HM2 := hid hm3
     have HBF2 := hid hbf4
     clear hn hbf3 hbf4 hp3 hm3 q1 z1 hg2
     refine (HW.out (k + 1) op 11 t.text [] none w.heap.size W2 HP2.out (by have := HOP.out; omega) HTX.out (by simp) HM2.out.size (.nil _ _) (R.map_out HNE.out)).mono ?_
     intro e w3 hres
     generalize pArgs c.en f 1 op (c.T.drop (k + 1)) = r at HNE HQ hres
     cases r with
     | out => exact absurd rfl HNE.out
     | err i er =>
      obtain ⟨he0, A, n, cp, rfl, hm⟩ := hres
      have HM3 := hid (HM2.out.trans hm)
      have HBF3 := hid (hm.blk HBF2.out (by omega) (by decide))
      have HE0 := hid he0
      clear hm he0
      obtain ⟨q0, q1, z0, z1, hlt3⟩ := Blk.two HBF3.out
      (try unfold failV)
      go_wp2_with fail
      have n1 := HBF3.out.self2 (.int .i64 (i : Int)) (.int .i64 (er : Int))
      have hm4 : Mp c.g c.W0.heap.size w (put2 w3 (w.heap.size) (.int .i64 (i : Int)) (.int .i64 (er : Int))) := HM3.out.put2 (g := w.heap.size) (.inr (by omega)) (.int .i64 (i : Int)) (.int .i64 (er : Int))
      have ht4 := touch2 w3 (w.heap.size) (.int .i64 (i : Int)) (.int .i64 (er : Int))
      simp only [put2] at n1 hm4 ht4
      generalize (World.setCell (World.setCell w3 ⟨w.heap.size, 0, none⟩ _) ⟨w.heap.size, 1, none⟩ _) = W4 at n1 hm4 ht4 ⊢
      obtain ⟨f0, f1, _⟩ := Blk.two n1
      (try simp only [Exit.inBlock, Exit.then])
      refine bodyPost_ret (v := .tuple #[.slice A n cp, failV i er]) (by simp [failV, results, Tryz.results154, go_sem, f0, f1]) rfl ?_
      exact HQ.out _ _ ⟨HE0.out, A, n, cp, rfl, hm4⟩
     | ok ks rest =>
      obtain ⟨b, k', rfl, htr, hdr, hkk, hp, hm⟩ := hres
      have HM3 := hid (HM2.out.trans hm)
      have HBF3 := hid (hm.blk HBF2.out (by omega) (by decide))
      have HTR := hid htr
      have HDR := hid hdr
      have HKK := hid hkk
      have HP3 := hid hp
      clear hm htr hdr hkk hp
      obtain ⟨q0, q1, z0, z1, hlt3⟩ := Blk.two HBF3.out
      (try unfold failV)
      go_wp2_with fail
      have n1 := HBF3.out.self2 (.int .i64 0) (.int .i64 0)
      have hm4 : Mp c.g c.W0.heap.size w (put2 w3 (w.heap.size) (.int .i64 0) (.int .i64 0)) := HM3.out.put2 (g := w.heap.size) (.inr (by omega)) (.int .i64 0) (.int .i64 0)
      have ht4 := touch2 w3 (w.heap.size) (.int .i64 0) (.int .i64 0)
      simp only [put2] at n1 hm4 ht4
      generalize (World.setCell (World.setCell w3 ⟨w.heap.size, 0, none⟩ _) ⟨w.heap.size, 1, none⟩ _) = W4 at n1 hm4 ht4 ⊢
      obtain ⟨f0, f1, _⟩ := Blk.two n1
      (try simp only [Exit.inBlock, Exit.then])
      refine bodyPost_ret (v := .tuple #[.slice (some ⟨b, 0, none⟩) 1 1, failV 0 0]) (by simp [failV, results, Tryz.results154, go_sem, f0, f1]) rfl ?_
      have hps := HP3.out.mv ht4 (fun b hb => by have := HW0.out; subst hb; exact ⟨by omega, by omega, _, _, (by decide), HBF3.out⟩)
      exact HQ.out _ _ ⟨_, 1, k', rfl, HTR.out.other HBF3.out (by decide) ht4, HDR.out, by have := HKK.out; omega, hps, hm4⟩
    ·have e5 := kind_no _ 5 h5
     have HIN := hid (fun (cl : UInt8) (w' : World) (hp : Ps c k op w') (hne : pIn c.en f cl op (t :: r) ≠ .out) => show Calls _ _ _ _ (ItemsE c k op (pIn c.en f cl op (t :: r)) w') from by
      have h := HEN.out k op cl w' hp HOP.out HK.out
      rw [HL.out] at h
      exact h hne)
     cases m40 : Np.isM 40 (t :: r) with
     | true =>
      have htx := (isM_parts m40).2
      have hs91 : (t.text == [91]) = false := by rw [htx]; rfl
      have HXX := hid (show pPrim c.en (f + 1) op (t :: r) = (pIn c.en f 41 op (t :: r)).map fun items => [.mk 11 [40, 41] 0 [Np.slot items]] from by
       rw [pPrim]
       simp only [HX.out]
       rw [if_neg h4, if_neg h5, if_pos m40])
      rw [HXX.out] at HQ HNE
      clear h4 h5 htx
      go_wp2_with fail
      refine (HA.out 40 _ (HF2.out.alloc (.cells #[.int .i64 (t.kind : Int), .string ⟨t.text.toArray⟩, .int .i64 (t.from_ : Int), .int .i64 (t.to_ : Int)] 150))).mono ?_
      rintro _ w3 ⟨rfl, hf⟩
      have HF3 := hid ((HF2.out.alloc (.cells #[.int .i64 (t.kind : Int), .string ⟨t.text.toArray⟩, .int .i64 (t.from_ : Int), .int .i64 (t.to_ : Int)] 150)).trans hf)
      have HB3 := hid (hf.blk (HBF2'.out.alloc (.cells #[.int .i64 (t.kind : Int), .string ⟨t.text.toArray⟩, .int .i64 (t.from_ : Int), .int .i64 (t.to_ : Int)] 150)) fun h => h)
      have HT3 := hid (hf.blk (Blk.new w2 150 #[.int .i64 (t.kind : Int), .string ⟨t.text.toArray⟩, .int .i64 (t.from_ : Int), .int .i64 (t.to_ : Int)]) fun h => h)
      clear hf
      rw [m40]
      have t1 := HT3.out.cell 1
      have hltt := HT3.out.lt
      go_wp2_with fail
      clear t1 hltt
      refine (HIN.out 41 w3 (H.out.fresh HF3.out) (R.map_out HNE.out)).mono ?_
      intro e wa hres
      have hparts := hres.parts (R.map_out HNE.out)
      clear hres
      generalize pIn c.en f 41 op (t :: r) = X at HNE HQ hparts
      obtain ⟨A, n, cp, i, er, rfl, hm, hend⟩ := hparts
      have HMa := hid ((Mp.fresh HF3.out).trans hm)
      have HBa := hid (hm.blk HB3.out (by omega) (by decide))
      have HSa := hid (Nat.le_trans HF3.out.size hm.size)
      have HSb := hid (HF3.out.size)
      have HEND := hid hend
      clear hm hend
      unfold failV
      go_wp2_with fail
      have hbe : Blk (wa.alloc (.cells #[.int .i64 (i : Int), .int .i64 (er : Int)] 88)) wa.heap.size 88 #[.int .i64 (i : Int), .int .i64 (er : Int)] := Blk.new _ _ _
      have HFa := hid ((Touch.refl (fun _ => False) wa).alloc (.cells #[.int .i64 (i : Int), .int .i64 (er : Int)] 88))
      have hbr := HBa.out.alloc (.cells #[.int .i64 (i : Int), .int .i64 (er : Int)] 88)
      generalize (wa.alloc (.cells #[.int .i64 (i : Int), .int .i64 (er : Int)] 88)) = W5 at hbe HFa hbr ⊢
      have r0 := cell_regrown (hbe.cell 0 |>.trans rfl)
      have r1 := cell_regrown (hbe.cell 1 |>.trans rfl)
      have hlt5 := hbe.lt
      have HBR := hid hbr
      clear hbe hbr
      refine wp_region_mix [([(0, true), (1, true), (6, true), (2, false), (3, false), (4, true), (5, false), (7, true)], 8)] [] (by kernel_rfl) (fun _ _ d _ _ h => by cases d <;> exact h) (by kernel_rfl) ?_
      refine wpMix_seg ?_
      repeat (refine wpSeq_plain rfl (fun K hK => ?_); go_simp; refine hK _ ?_; clear hK K)
      refine wpSeq_lone rfl (fun K hK => ?_)
      go_wp2_with fail
      refine (slot_any_n A n cp _).mono ?_
      rintro _ w6 ⟨rfl, hf⟩
      have HF6 := hid (show Fresh W5 w6 from Touch.ofN hf)
      clear hf
      go_wp2_with fail
      refine hK _ _ (growing_fresh HF6.out) ?_
      clear hK K
      refine wpSeq_lone rfl (fun K hK => ?_)
      go_wp2_with fail
      refine hK _ _ (growing_fresh (HF6.out.alloc _)) ?_
      clear hK K
      repeat (refine wpSeq_plain rfl (fun K hK => ?_); go_simp; refine hK _ ?_; clear hK K)
      refine wpSeq_lone rfl (fun K hK => ?_)
      go_wp2_with fail
      refine hK _ _ (growing_fresh ((HF6.out.alloc _).alloc _)) ?_
      clear hK K
      repeat (refine wpSeq_plain rfl (fun K hK => ?_); go_simp; refine hK _ ?_; clear hK K)
      have HT7 := hid (fun (items : List Nd) (htr : TreT w.heap.size wa items (.slice A n cp)) => show TreT w.heap.size _ [Nd.mk 11 [40, 41] 0 [Np.slot items]] _ from
       TreT.lit (n := .mk 11 [40, 41] 0 [Np.slot items]) (TreT.lit (n := Np.slot items) ((htr.fresh HFa.out).fresh HF6.out) (Nat.le_trans HSa.out (Nat.le_trans HFa.out.size HF6.out.size)) (Nat.zero_le _)) (by
        have := Nat.le_trans HSa.out (Nat.le_trans HFa.out.size HF6.out.size)
        simp; omega) (by show 2 ≤ maxLen; simp [maxLen]))
      have hf7 := HFa.out.trans ((HF6.out.alloc (.cells #[.int .i64 1, .string ⟨#[]⟩, .int .i64 0, .slice A n cp] 24)).alloc (.cells #[.int .i64 11, .string ⟨#[40, 41]⟩, .int .i64 0, .slice (some ⟨w6.heap.size, 0, none⟩) 1 1] 24))
      have hb7 := hf7.blk HBa.out fun h => h
      change Hid (∀ items, TreT w.heap.size wa items (.slice A n cp) → TreT w.heap.size ((w6.alloc (.cells #[.int .i64 1, .string ⟨#[]⟩, .int .i64 0, .slice A n cp] 24)).alloc (.cells #[.int .i64 11, .string ⟨#[40, 41]⟩, .int .i64 0, .slice (some ⟨w6.heap.size, 0, none⟩) 1 1] 24)) [Nd.mk 11 [40, 41] 0 [Np.slot items]] (.slice (some ⟨(w6.alloc (.cells #[.int .i64 1, .string ⟨#[]⟩, .int .i64 0, .slice A n cp] 24)).heap.size, 0, none⟩) 1 1)) at HT7
      have e7 : (w6.alloc (.cells #[.int .i64 1, .string ⟨#[]⟩, .int .i64 0, .slice A n cp] 24)).heap.size = w6.heap.size + 1 := by simp
      rw [e7] at HT7
      clear e7
      generalize ((w6.alloc (.cells #[.int .i64 1, .string ⟨#[]⟩, .int .i64 0, .slice A n cp] 24)).alloc (.cells #[.int .i64 11, .string ⟨#[40, 41]⟩, .int .i64 0, .slice (some ⟨w6.heap.size, 0, none⟩) 1 1] 24)) = W7 at hf7 hb7 HT7 ⊢
      have HM7 := hid (HMa.out.trans (Mp.fresh hf7))
      have HF7 := hid hf7
      have HB7 := hid hb7
      clear hf7 hb7 r0 r1 hlt5
      obtain ⟨p0, p1, y0, y1, hlt⟩ := Blk.two HB7.out
      refine wpSeq_shut rfl (fun K hK => ?_)
      go_wp2_with fail
      refine wpMix_end ?_
      go_wp2_with fail
      have hb8 : Blk _ w.heap.size 88 #[.int .i64 (i : Int), .int .i64 (er : Int)] := (HB7.out.put 0 (.int .i64 (i : Int))).put 1 (.int .i64 (er : Int))
      have hm8 : Mp c.g c.W0.heap.size w (put2 W7 w.heap.size (.int .i64 (i : Int)) (.int .i64 (er : Int))) := HM7.out.put2 (g := w.heap.size) (.inr (Nat.le_refl _)) _ _
      have ht8 := touch2 W7 w.heap.size (.int .i64 (i : Int)) (.int .i64 (er : Int))
      obtain ⟨f0, f1, _⟩ := Blk.two hb8
      (try simp only [Exit.inBlock, Exit.then])
      refine bodyPost_ret (v := .tuple #[.slice (some ⟨w6.heap.size + 1, 0, none⟩) 1 1, failV i er]) (by simp [failV, results, Tryz.results154, go_sem, f0, f1]) rfl ?_
      rcases HEND.out with ⟨items, rest, k', rfl, rfl, rfl, rfl, htr, hdr, hkk, hp⟩ | ⟨rfl, he0⟩
      ·have hps := (hp.fresh HF7.out).mv ht8 (fun b hb => by have := HW0.out; subst hb; exact ⟨by omega, by omega, _, _, (by decide), HB7.out⟩)
       exact HQ.out _ _ ⟨_, 1, k', rfl, (HT7.out items (htr.base HSb.out)).other HB7.out (by decide) ht8, hdr, hkk, hps, hm8⟩
      ·exact HQ.out _ _ ⟨he0, _, _, _, rfl, hm8⟩
     | false =>
      cases m91 : Np.isM 91 (t :: r) with
      | true =>
       have htx := (isM_parts m91).2
       have hs91 : (t.text == [91]) = true := by rw [htx]; rfl
       have HXX := hid (show pPrim c.en (f + 1) op (t :: r) = (pIn c.en f 93 op (t :: r)).map fun items => [.mk 11 [91, 93] 0 [Np.slot items]] from by
        rw [pPrim]
        simp only [HX.out]
        rw [if_neg h4, if_neg h5, if_neg (by simp [m40]), if_pos m91])
       rw [HXX.out] at HQ HNE
       clear h4 h5 htx
       go_wp2_with fail
       refine (HA.out 40 _ (HF2.out.alloc (.cells #[.int .i64 (t.kind : Int), .string ⟨t.text.toArray⟩, .int .i64 (t.from_ : Int), .int .i64 (t.to_ : Int)] 150))).mono ?_
       rintro _ w3 ⟨rfl, hf⟩
       have HF3 := hid ((HF2.out.alloc (.cells #[.int .i64 (t.kind : Int), .string ⟨t.text.toArray⟩, .int .i64 (t.from_ : Int), .int .i64 (t.to_ : Int)] 150)).trans hf)
       have HB3 := hid (hf.blk (HBF2'.out.alloc (.cells #[.int .i64 (t.kind : Int), .string ⟨t.text.toArray⟩, .int .i64 (t.from_ : Int), .int .i64 (t.to_ : Int)] 150)) fun h => h)
       have HT3 := hid (hf.blk (Blk.new w2 150 #[.int .i64 (t.kind : Int), .string ⟨t.text.toArray⟩, .int .i64 (t.from_ : Int), .int .i64 (t.to_ : Int)]) fun h => h)
       clear hf
       rw [m40]
       go_wp2_with fail
       refine (HA.out 91 _ HF3.out).mono ?_
       rintro _ w4 ⟨rfl, hf⟩
       have HF4 := hid (HF3.out.trans hf)
       have HB4 := hid (hf.blk HB3.out fun h => h)
       have HT4 := hid (hf.blk HT3.out fun h => h)
       clear hf
       rw [m91]
       have t1 := HT4.out.cell 1
       have hltt := HT4.out.lt
       go_wp2_with fail
       clear t1 hltt
       refine (HIN.out 93 w4 (H.out.fresh HF4.out) (R.map_out HNE.out)).mono ?_
       intro e wa hres
       have hparts := hres.parts (R.map_out HNE.out)
       clear hres
       generalize pIn c.en f 93 op (t :: r) = X at HNE HQ hparts
       obtain ⟨A, n, cp, i, er, rfl, hm, hend⟩ := hparts
       have HMa := hid ((Mp.fresh HF4.out).trans hm)
       have HBa := hid (hm.blk HB4.out (by omega) (by decide))
       have HSa := hid (Nat.le_trans HF4.out.size hm.size)
       have HSb := hid (HF4.out.size)
       have HEND := hid hend
       clear hm hend
       unfold failV
       go_wp2_with fail
       have hbe : Blk (wa.alloc (.cells #[.int .i64 (i : Int), .int .i64 (er : Int)] 88)) wa.heap.size 88 #[.int .i64 (i : Int), .int .i64 (er : Int)] := Blk.new _ _ _
       have HFa := hid ((Touch.refl (fun _ => False) wa).alloc (.cells #[.int .i64 (i : Int), .int .i64 (er : Int)] 88))
       have hbr := HBa.out.alloc (.cells #[.int .i64 (i : Int), .int .i64 (er : Int)] 88)
       generalize (wa.alloc (.cells #[.int .i64 (i : Int), .int .i64 (er : Int)] 88)) = W5 at hbe HFa hbr ⊢
       have r0 := cell_regrown (hbe.cell 0 |>.trans rfl)
       have r1 := cell_regrown (hbe.cell 1 |>.trans rfl)
       have hlt5 := hbe.lt
       have HBR := hid hbr
       clear hbe hbr
       refine wp_region_mix [([(0, true), (1, true), (6, true), (2, false), (3, false), (4, true), (5, false), (7, true)], 8)] [] (by kernel_rfl) (fun _ _ d _ _ h => by cases d <;> exact h) (by kernel_rfl) ?_
       refine wpMix_seg ?_
       repeat (refine wpSeq_plain rfl (fun K hK => ?_); go_simp; refine hK _ ?_; clear hK K)
       refine wpSeq_lone rfl (fun K hK => ?_)
       go_wp2_with fail
       refine (slot_any_n A n cp _).mono ?_
       rintro _ w6 ⟨rfl, hf⟩
       have HF6 := hid (show Fresh W5 w6 from Touch.ofN hf)
       clear hf
       go_wp2_with fail
       refine hK _ _ (growing_fresh HF6.out) ?_
       clear hK K
       refine wpSeq_lone rfl (fun K hK => ?_)
       go_wp2_with fail
       refine hK _ _ (growing_fresh (HF6.out.alloc _)) ?_
       clear hK K
       repeat (refine wpSeq_plain rfl (fun K hK => ?_); go_simp; refine hK _ ?_; clear hK K)
       refine wpSeq_lone rfl (fun K hK => ?_)
       go_wp2_with fail
       refine hK _ _ (growing_fresh ((HF6.out.alloc _).alloc _)) ?_
       clear hK K
       repeat (refine wpSeq_plain rfl (fun K hK => ?_); go_simp; refine hK _ ?_; clear hK K)
       have HT7 := hid (fun (items : List Nd) (htr : TreT w.heap.size wa items (.slice A n cp)) => show TreT w.heap.size _ [Nd.mk 11 [91, 93] 0 [Np.slot items]] _ from
        TreT.lit (n := .mk 11 [91, 93] 0 [Np.slot items]) (TreT.lit (n := Np.slot items) ((htr.fresh HFa.out).fresh HF6.out) (Nat.le_trans HSa.out (Nat.le_trans HFa.out.size HF6.out.size)) (Nat.zero_le _)) (by
         have := Nat.le_trans HSa.out (Nat.le_trans HFa.out.size HF6.out.size)
         simp; omega) (by show 2 ≤ maxLen; simp [maxLen]))
       have hf7 := HFa.out.trans ((HF6.out.alloc (.cells #[.int .i64 1, .string ⟨#[]⟩, .int .i64 0, .slice A n cp] 24)).alloc (.cells #[.int .i64 11, .string ⟨#[91, 93]⟩, .int .i64 0, .slice (some ⟨w6.heap.size, 0, none⟩) 1 1] 24))
       have hb7 := hf7.blk HBa.out fun h => h
       change Hid (∀ items, TreT w.heap.size wa items (.slice A n cp) → TreT w.heap.size ((w6.alloc (.cells #[.int .i64 1, .string ⟨#[]⟩, .int .i64 0, .slice A n cp] 24)).alloc (.cells #[.int .i64 11, .string ⟨#[91, 93]⟩, .int .i64 0, .slice (some ⟨w6.heap.size, 0, none⟩) 1 1] 24)) [Nd.mk 11 [91, 93] 0 [Np.slot items]] (.slice (some ⟨(w6.alloc (.cells #[.int .i64 1, .string ⟨#[]⟩, .int .i64 0, .slice A n cp] 24)).heap.size, 0, none⟩) 1 1)) at HT7
       have e7 : (w6.alloc (.cells #[.int .i64 1, .string ⟨#[]⟩, .int .i64 0, .slice A n cp] 24)).heap.size = w6.heap.size + 1 := by simp
       rw [e7] at HT7
       clear e7
       generalize ((w6.alloc (.cells #[.int .i64 1, .string ⟨#[]⟩, .int .i64 0, .slice A n cp] 24)).alloc (.cells #[.int .i64 11, .string ⟨#[91, 93]⟩, .int .i64 0, .slice (some ⟨w6.heap.size, 0, none⟩) 1 1] 24)) = W7 at hf7 hb7 HT7 ⊢
       have HM7 := hid (HMa.out.trans (Mp.fresh hf7))
       have HF7 := hid hf7
       have HB7 := hid hb7
       clear hf7 hb7 r0 r1 hlt5
       obtain ⟨p0, p1, y0, y1, hlt⟩ := Blk.two HB7.out
       refine wpSeq_shut rfl (fun K hK => ?_)
       go_wp2_with fail
       refine wpMix_end ?_
       go_wp2_with fail
       have hb8 : Blk _ w.heap.size 88 #[.int .i64 (i : Int), .int .i64 (er : Int)] := (HB7.out.put 0 (.int .i64 (i : Int))).put 1 (.int .i64 (er : Int))
       have hm8 : Mp c.g c.W0.heap.size w (put2 W7 w.heap.size (.int .i64 (i : Int)) (.int .i64 (er : Int))) := HM7.out.put2 (g := w.heap.size) (.inr (Nat.le_refl _)) _ _
       have ht8 := touch2 W7 w.heap.size (.int .i64 (i : Int)) (.int .i64 (er : Int))
       obtain ⟨f0, f1, _⟩ := Blk.two hb8
       (try simp only [Exit.inBlock, Exit.then])
       refine bodyPost_ret (v := .tuple #[.slice (some ⟨w6.heap.size + 1, 0, none⟩) 1 1, failV i er]) (by simp [failV, results, Tryz.results154, go_sem, f0, f1]) rfl ?_
       rcases HEND.out with ⟨items, rest, k', rfl, rfl, rfl, rfl, htr, hdr, hkk, hp⟩ | ⟨rfl, he0⟩
       ·have hps := (hp.fresh HF7.out).mv ht8 (fun b hb => by have := HW0.out; subst hb; exact ⟨by omega, by omega, _, _, (by decide), HB7.out⟩)
        exact HQ.out _ _ ⟨_, 1, k', rfl, (HT7.out items (htr.base HSb.out)).other HB7.out (by decide) ht8, hdr, hkk, hps, hm8⟩
       ·exact HQ.out _ _ ⟨he0, _, _, _, rfl, hm8⟩
      | false =>
       cases m123 : Np.isM 123 (t :: r) with
       | true =>
        have HXX := hid (show pPrim c.en (f + 1) op (t :: r) = pIn c.en f 125 op (t :: r) from by
         rw [pPrim]
         simp only [HX.out]
         rw [if_neg h4, if_neg h5, if_neg (by simp [m40]), if_neg (by simp [m91]), if_pos m123])
        rw [HXX.out] at HQ HNE
        clear h4 h5
        go_wp2_with fail
        refine (HA.out 40 _ (HF2.out.alloc (.cells #[.int .i64 (t.kind : Int), .string ⟨t.text.toArray⟩, .int .i64 (t.from_ : Int), .int .i64 (t.to_ : Int)] 150))).mono ?_
        rintro _ w3 ⟨rfl, hf⟩
        have HF3 := hid ((HF2.out.alloc (.cells #[.int .i64 (t.kind : Int), .string ⟨t.text.toArray⟩, .int .i64 (t.from_ : Int), .int .i64 (t.to_ : Int)] 150)).trans hf)
        have HB3 := hid (hf.blk (HBF2'.out.alloc (.cells #[.int .i64 (t.kind : Int), .string ⟨t.text.toArray⟩, .int .i64 (t.from_ : Int), .int .i64 (t.to_ : Int)] 150)) fun h => h)
        have HT3 := hid (hf.blk (Blk.new w2 150 #[.int .i64 (t.kind : Int), .string ⟨t.text.toArray⟩, .int .i64 (t.from_ : Int), .int .i64 (t.to_ : Int)]) fun h => h)
        clear hf
        rw [m40]
        go_wp2_with fail
        refine (HA.out 91 _ HF3.out).mono ?_
        rintro _ w4 ⟨rfl, hf⟩
        have HF4 := hid (HF3.out.trans hf)
        have HB4 := hid (hf.blk HB3.out fun h => h)
        have HT4 := hid (hf.blk HT3.out fun h => h)
        clear hf
        rw [m91]
        go_wp2_with fail
        refine (HA.out 123 _ HF4.out).mono ?_
        rintro _ w5 ⟨rfl, hf⟩
        have HF5 := hid (HF4.out.trans hf)
        have HB5 := hid (hf.blk HB4.out fun h => h)
        have HT5 := hid (hf.blk HT4.out fun h => h)
        clear hf
        rw [m123]
        go_wp2_with fail
        have HM2 := hid (Mp.fresh (g := c.g) (B := c.W0.heap.size) HF5.out)
        have HBF2 := HB5
        generalize w5 = W2 at HM2 HBF2 HF5 ⊢
        refine (HIN.out 125 W2 (H.out.fresh HF5.out) HNE.out).mono ?_
        intro e w3 hres
        generalize pIn c.en f 125 op (t :: r) = X at HNE HQ hres
        cases X with
        | out => exact absurd rfl HNE.out
        | err i er =>
         obtain ⟨he0, A, n, cp, rfl, hm⟩ := hres
         have HM3 := hid (HM2.out.trans hm)
         have HBF3 := hid (hm.blk HBF2.out (by omega) (by decide))
         have HE0 := hid he0
         clear hm he0
         obtain ⟨q0, q1, z0, z1, hlt3⟩ := Blk.two HBF3.out
         (try unfold failV)
         go_wp2_with fail
         have n1 := HBF3.out.self2 (.int .i64 (i : Int)) (.int .i64 (er : Int))
         have hm4 : Mp c.g c.W0.heap.size w (put2 w3 (w.heap.size) (.int .i64 (i : Int)) (.int .i64 (er : Int))) := HM3.out.put2 (g := w.heap.size) (.inr (by omega)) (.int .i64 (i : Int)) (.int .i64 (er : Int))
         have ht4 := touch2 w3 (w.heap.size) (.int .i64 (i : Int)) (.int .i64 (er : Int))
         simp only [put2] at n1 hm4 ht4
         generalize (World.setCell (World.setCell w3 ⟨w.heap.size, 0, none⟩ _) ⟨w.heap.size, 1, none⟩ _) = W4 at n1 hm4 ht4 ⊢
         obtain ⟨f0, f1, _⟩ := Blk.two n1
         (try simp only [Exit.inBlock, Exit.then])
         refine bodyPost_ret (v := .tuple #[.slice A n cp, failV i er]) (by simp [failV, results, Tryz.results154, go_sem, f0, f1]) rfl ?_
         exact HQ.out _ _ ⟨HE0.out, A, n, cp, rfl, hm4⟩
        | ok items rest =>
         obtain ⟨A, cp, k', rfl, htr, hdr, hkk, hp, hm⟩ := hres
         have HM3 := hid (HM2.out.trans hm)
         have HBF3 := hid (hm.blk HBF2.out (by omega) (by decide))
         have HTR := hid htr
         have HDR := hid hdr
         have HKK := hid hkk
         have HP3 := hid hp
         clear hm htr hdr hkk hp
         obtain ⟨q0, q1, z0, z1, hlt3⟩ := Blk.two HBF3.out
         (try unfold failV)
         go_wp2_with fail
         have n1 := HBF3.out.self2 (.int .i64 0) (.int .i64 0)
         have hm4 : Mp c.g c.W0.heap.size w (put2 w3 (w.heap.size) (.int .i64 0) (.int .i64 0)) := HM3.out.put2 (g := w.heap.size) (.inr (by omega)) (.int .i64 0) (.int .i64 0)
         have ht4 := touch2 w3 (w.heap.size) (.int .i64 0) (.int .i64 0)
         simp only [put2] at n1 hm4 ht4
         generalize (World.setCell (World.setCell w3 ⟨w.heap.size, 0, none⟩ _) ⟨w.heap.size, 1, none⟩ _) = W4 at n1 hm4 ht4 ⊢
         obtain ⟨f0, f1, _⟩ := Blk.two n1
         (try simp only [Exit.inBlock, Exit.then])
         refine bodyPost_ret (v := .tuple #[.slice A items.length cp, failV 0 0]) (by simp [failV, results, Tryz.results154, go_sem, f0, f1]) rfl ?_
         have hps := HP3.out.mv ht4 (fun b hb => by have := HW0.out; subst hb; exact ⟨by omega, by omega, _, _, (by decide), HBF3.out⟩)
         exact HQ.out _ _ ⟨A, cp, k', rfl, (HTR.out.base HM2.out.size).other HBF3.out (by decide) ht4, HDR.out, by have := HKK.out; omega, hps, hm4⟩
       | false =>
        have HXX := hid (show pPrim c.en (f + 1) op (t :: r) = .err (Np.place c.en (t :: r)) 3 from by
         rw [pPrim]
         simp only [HX.out]
         rw [if_neg h4, if_neg h5, if_neg (by simp [m40]), if_neg (by simp [m91]), if_neg (by simp [m123])]
         rfl)
        rw [HXX.out] at HQ
        clear h4 h5
        go_wp2_with fail
        refine (HA.out 40 _ (HF2.out.alloc (.cells #[.int .i64 (t.kind : Int), .string ⟨t.text.toArray⟩, .int .i64 (t.from_ : Int), .int .i64 (t.to_ : Int)] 150))).mono ?_
        rintro _ w3 ⟨rfl, hf⟩
        have HF3 := hid ((HF2.out.alloc (.cells #[.int .i64 (t.kind : Int), .string ⟨t.text.toArray⟩, .int .i64 (t.from_ : Int), .int .i64 (t.to_ : Int)] 150)).trans hf)
        have HB3 := hid (hf.blk (HBF2'.out.alloc (.cells #[.int .i64 (t.kind : Int), .string ⟨t.text.toArray⟩, .int .i64 (t.from_ : Int), .int .i64 (t.to_ : Int)] 150)) fun h => h)
        have HT3 := hid (hf.blk (Blk.new w2 150 #[.int .i64 (t.kind : Int), .string ⟨t.text.toArray⟩, .int .i64 (t.from_ : Int), .int .i64 (t.to_ : Int)]) fun h => h)
        clear hf
        rw [m40]
        go_wp2_with fail
        refine (HA.out 91 _ HF3.out).mono ?_
        rintro _ w4 ⟨rfl, hf⟩
        have HF4 := hid (HF3.out.trans hf)
        have HB4 := hid (hf.blk HB3.out fun h => h)
        have HT4 := hid (hf.blk HT3.out fun h => h)
        clear hf
        rw [m91]
        go_wp2_with fail
        refine (HA.out 123 _ HF4.out).mono ?_
        rintro _ w5 ⟨rfl, hf⟩
        have HF5 := hid (HF4.out.trans hf)
        have HB5 := hid (hf.blk HB4.out fun h => h)
        have HT5 := hid (hf.blk HT4.out fun h => h)
        clear hf
        rw [m123]
        go_wp2_with fail
        refine (HR.out _ HF5.out).mono ?_
        rintro _ w9 ⟨rfl, hf⟩
        have HM3 := hid (Mp.fresh (g := c.g) (B := c.W0.heap.size) (HF5.out.trans hf))
        have HBF3 := hid (hf.blk HB5.out fun h => h)
        clear hf
        obtain ⟨q0, q1, z0, z1, hlt3⟩ := Blk.two HBF3.out
        (try unfold failV)
        go_wp2_with fail
        have n1 := HBF3.out.self2 (.int .i64 (Np.place c.en (t :: r) : Int)) (.int .i64 3)
        have hm4 : Mp c.g c.W0.heap.size w (put2 w9 (w.heap.size) (.int .i64 (Np.place c.en (t :: r) : Int)) (.int .i64 3)) := HM3.out.put2 (g := w.heap.size) (.inr (by omega)) (.int .i64 (Np.place c.en (t :: r) : Int)) (.int .i64 3)
        have ht4 := touch2 w9 (w.heap.size) (.int .i64 (Np.place c.en (t :: r) : Int)) (.int .i64 3)
        simp only [put2] at n1 hm4 ht4
        generalize (World.setCell (World.setCell w9 ⟨w.heap.size, 0, none⟩ _) ⟨w.heap.size, 1, none⟩ _) = W4 at n1 hm4 ht4 ⊢
        obtain ⟨f0, f1, _⟩ := Blk.two n1
        (try simp only [Exit.inBlock, Exit.then])
        refine bodyPost_ret (v := .tuple #[.slice none 0 0, failV (Np.place c.en (t :: r)) 3]) (by simp [failV, results, Tryz.results154, go_sem, f0, f1]) rfl ?_
        exact HQ.out _ _ ⟨by decide, none, 0, 0, rfl, hm4⟩
end Go.Proofs.YtdacpbdamliafaaGreat

/- The parser's argument. -/
namespace Go.Proofs.YtdacpbdamliafaaGreat
open Go.RowKit
open Tr (Nd)
open Lx (PTok)
open Np (R pRow pIn pScript pItem pPrim pArgs pName pCells pArg)
attribute [local go_sem] stillV stillUpon
theorem eql_func_nil (F : Fn) (a b : Array Value) (w : World) : (binOp .eql 127 (.func F a b) .nilFunc).run Tryz.prog w = .ok (.bool false) w := by
 have h : ∀ d, (Op.equalIn (d + 1) 127 (.func F a b) .nilFunc).run Tryz.prog w = .ok false w := fun d => by simp [Op.equalIn, run_underlying Tryz.underlying127]
 simp only [binOp]
 simp [Op.equal, Op.maxDepth, h 9999]
theorem eql_nil_nil (w : World) : (binOp .eql 127 .nilFunc .nilFunc).run Tryz.prog w = .ok (.bool true) w := by
 have h : ∀ d, (Op.equalIn (d + 1) 127 .nilFunc .nilFunc).run Tryz.prog w = .ok true w := fun d => by simp [Op.equalIn, run_underlying Tryz.underlying127]
 simp only [binOp]
 simp [Op.equal, Op.maxDepth, h 9999]
set_option maxRecDepth 100000 in
set_option maxHeartbeats 2000000 in
theorem argument_n (c : Cf) (hc : c.Good) (bm : Nat) (hnm : c.Named bm) (f : Nat) (henc : EnclosedN c f) (hname : NameN c 1) : ArgumentN c (f + 1) := by
 intro k op w h hop hne
 have htl := hc.tl
 have HSIM := hid (fun (w' : World) (hf : Fresh w w') => simple_any_n c hc k op w' (h.fresh hf))
 have HT := hid (fun (w' : World) (hf : Fresh w w') => tok_any_n c hc k op w' (h.fresh hf))
 have HA := hid (fun (b : UInt8) (w' : World) (hf : Fresh w w') => at_any_n c hc k op b w' (h.fresh hf))
 have HR := hid (fun (w' : World) (hf : Fresh w w') => refuse_any_n c hc k op w' (h.fresh hf))
 have HMAC := hid (fun (s : ByteArray) (w' : World) (hf : Fresh w w') => macro_any_n c k op s w' (h.fresh hf))
 have HNA := hid hname
 have HEN := hid henc
 have HTXT := hid hc.txt
 have H := hid h
 have HOP := hid hop
 have HW0 := hid h.low.size
 have hgl : c.g < w.heap.size := h.glt
 have HNE := hid hne
 have HNM := hid hnm
 have HMAP := hid (hnm.at h)
 refine Calls.via fun Q hQ => ?_
 have HQ := hid hQ
 clear hne h hop hc hQ hname henc hnm
 generalize hl : c.T.drop k = l at HSIM HT HA HR HNE HQ
 unfold SimpleE at HSIM
 rw [hl] at HSIM
 have HL := hid hl
 clear hl
 unfold pp0
 go_enter Tryz.func180, Tryz.ntmps180
 go_wp2_with fail
 refine (HSIM.out _ (((Touch.refl _ _).alloc _).alloc _)).mono ?_
 rintro e w1 (⟨x, b, hx, rfl, htr, hp, hm⟩ | ⟨hx, rfl, hf⟩)
 ·have HM1 := hid ((Mp.fresh (((Touch.refl _ w).alloc _).alloc _)).trans hm)
  have HBN1 := hid (hm.blk ((Blk.new w 24 zeroN).alloc (.cells #[.int .i64 0, .int .i64 0] 88)) (by omega) (by decide))
  have HBF1 := hid (hm.blk (Blk.new2 w (.cells zeroN 24) 88 #[.int .i64 0, .int .i64 0]) (by omega) (by decide))
  have htr' : TreT (w.heap.size + 1 + 1) w1 [x] (.slice (some ⟨b, 0, none⟩) 1 1) := htr.base (by simp)
  have HTR := hid htr'
  have HP3 := hid hp
  have HX := hid (show pArg c.en (f + 1) op l = .ok (Np.slot [x]) (c.T.drop (k + 1)) from by
   cases l with
   | nil => cases hx
   | cons t r =>
    have hr : c.T.drop (k + 1) = r := by rw [← List.tail_drop, HL.out]; rfl
    rw [hr, pArg]
    simp only [show Np.leafOf t = some x from hx])
  rw [HX.out] at HQ
  clear hm htr htr' hp hx
  go_wp2_with fail
  refine (slot_any_n (some ⟨b, 0, none⟩) 1 1 _).mono ?_
  rintro _ w7 ⟨rfl, hf⟩
  have HBN := hid (hf.blk HBN1.out fun h => h)
  have HBF := hid (hf.blk HBF1.out fun h => h)
  have HM := hid (HM1.out.trans (Mp.fresh hf))
  have HP := hid (HP3.out.fresh hf)
  have HTR7 := hid (HTR.out.fresh hf)
  clear hf
  obtain ⟨p0, p1, p2, p3, y0, y1, y2, y3, hlt0⟩ := Blk.four HBN.out
  obtain ⟨q0, q1, z0, z1, hlt1⟩ := Blk.two HBF.out
  go_wp2_with fail
  have hne : w.heap.size ≠ w.heap.size + 1 := by omega
  have n1 := (HBN.out.self4 (.int .i64 1) (.string ⟨#[]⟩) (.int .i64 0) (.slice (some ⟨b, 0, none⟩) 1 1)).far2 hne (.int .i64 0) (.int .i64 0)
  have n2' := HBF.out.far4 (Ne.symm hne) (.int .i64 1) (.string ⟨#[]⟩) (.int .i64 0) (.slice (some ⟨b, 0, none⟩) 1 1)
  have n2 := n2'.self2 (.int .i64 0) (.int .i64 0)
  have hps := (HP.out.put4 HBN.out (by decide) (by omega) HW0.out (.int .i64 1) (.string ⟨#[]⟩) (.int .i64 0) (.slice (some ⟨b, 0, none⟩) 1 1)).put2 n2' (by decide) (by omega) (by have := HW0.out; omega) (.int .i64 0) (.int .i64 0)
  have htr9 := (HTR7.out.far (touch4 w7 w.heap.size (.int .i64 1) (.string ⟨#[]⟩) (.int .i64 0) (.slice (some ⟨b, 0, none⟩) 1 1)) (by omega)).other n2' (by decide) (touch2 _ (w.heap.size + 1) (.int .i64 0) (.int .i64 0))
  have hm9 : Mp c.g c.W0.heap.size w _ := (HM.out.put4 (g := w.heap.size) (.inr (Nat.le_refl _)) (.int .i64 1) (.string ⟨#[]⟩) (.int .i64 0) (.slice (some ⟨b, 0, none⟩) 1 1)).put2 (g := w.heap.size + 1) (.inr (by omega)) (.int .i64 0) (.int .i64 0)
  obtain ⟨g0, g1, g2, g3, _⟩ := Blk.four n1
  obtain ⟨f0, f1, _⟩ := Blk.two n2
  simp only [put2, put4] at g0 g1 g2 g3 f0 f1 hps htr9 hm9
  (try simp only [Exit.inBlock, Exit.then])
  refine bodyPost_ret (v := .tuple #[.agg #[.int .i64 1, .string ⟨#[]⟩, .int .i64 0, .slice (some ⟨b, 0, none⟩) 1 1], failV 0 0]) (by simp [failV, results, Tryz.results180, go_sem, f0, f1, g0, g1, g2, g3]) rfl ?_
  exact HQ.out _ _ ⟨some ⟨b, 0, none⟩, 1, k + 1, rfl, htr9.base (by omega), Nat.zero_le _, rfl, by omega, hps, hm9⟩
 ·have HF1 := hid (show Fresh w w1 from Touch.pre (Touch.pre hf))
  have HBN1 := hid (hf.blk ((Blk.new w 24 zeroN).alloc (.cells #[.int .i64 0, .int .i64 0] 88)) (fun h => h))
  have HBF1 := hid (hf.blk (Blk.new2 w (.cells zeroN 24) 88 #[.int .i64 0, .int .i64 0]) (fun h => h))
  clear hf
  cases l with
  | nil =>
   have m123 : Np.isM 123 ([] : List PTok) = false := rfl
   have HXX := hid (show pArg c.en (f + 1) op [] = .err (Np.place c.en []) 3 from by rw [pArg]; rfl)
   rw [HXX.out] at HQ
   unfold tokV at HT
   go_wp2_with fail
   refine (HT.out _ HF1.out).mono ?_
   rintro _ w2 ⟨rfl, hf⟩
   have hf3 := (HF1.out.trans hf).alloc (.cells #[.int .i64 0, .string ⟨#[]⟩, .int .i64 (c.en : Int), .int .i64 (c.en : Int)] 150) |>.alloc (.cells #[.int .i64 0, .int .i64 0] 88)
   have hn3 := (hf.blk HBN1.out fun h => h).alloc (.cells #[.int .i64 0, .string ⟨#[]⟩, .int .i64 (c.en : Int), .int .i64 (c.en : Int)] 150) |>.alloc (.cells #[.int .i64 0, .int .i64 0] 88)
   have hb3 := (hf.blk HBF1.out fun h => h).alloc (.cells #[.int .i64 0, .string ⟨#[]⟩, .int .i64 (c.en : Int), .int .i64 (c.en : Int)] 150) |>.alloc (.cells #[.int .i64 0, .int .i64 0] 88)
   have ht3 : Blk _ w2.heap.size 150 #[.int .i64 0, .string ⟨#[]⟩, .int .i64 (c.en : Int), .int .i64 (c.en : Int)] := (Blk.new w2 150 #[.int .i64 0, .string ⟨#[]⟩, .int .i64 (c.en : Int), .int .i64 (c.en : Int)]).alloc (.cells #[.int .i64 0, .int .i64 0] 88)
   have h83 : Blk _ (w2.heap.size + 1) 88 #[.int .i64 0, .int .i64 0] := Blk.new2 w2 (.cells #[.int .i64 0, .string ⟨#[]⟩, .int .i64 (c.en : Int), .int .i64 (c.en : Int)] 150) 88 #[.int .i64 0, .int .i64 0]
   have HS2 := hid (show w.heap.size + 1 < w2.heap.size from (hf.blk HBF1.out fun h => h).lt)
   clear hf
   go_wp2_with fail
   generalize ((w2.alloc (.cells #[.int .i64 0, .string ⟨#[]⟩, .int .i64 (c.en : Int), .int .i64 (c.en : Int)] 150)).alloc (.cells #[.int .i64 0, .int .i64 0] 88)) = w3 at hf3 hn3 hb3 ht3 h83 ⊢
   have HF3 := hid hf3
   have HBN3 := hid hn3
   have HBF3 := hid hb3
   have HBT3 := hid ht3
   have HB83 := hid h83
   clear hf3 hn3 hb3 ht3 h83
   refine (HA.out 123 _ HF3.out).mono ?_
   rintro _ w4 ⟨rfl, hf⟩
   have HF4 := hid (HF3.out.trans hf)
   have HBN4 := hid (hf.blk HBN3.out fun h => h)
   have HBF4 := hid (hf.blk HBF3.out fun h => h)
   have HBT4 := hid (hf.blk HBT3.out fun h => h)
   have HB84 := hid (hf.blk HB83.out fun h => h)
   have HM4 := hid (Mp.fresh (g := c.g) (B := c.W0.heap.size) HF4.out)
   clear hf
   rw [m123]
   go_wp2_with fail
   obtain ⟨t0, t1, t2, t3, _, _, _, _, hltt⟩ := Blk.four HBT4.out
   have r0 := cell_regrown t0
   go_quiet (fail)
   have HF5 := hid (HF4.out.drewN nq)
   have HBN5' := hid (HBN4.out.drewN nq)
   have HBF5' := hid (HBF4.out.drewN nq)
   have HBT5 := hid (HBT4.out.drewN nq)
   have HB85' := hid (HB84.out.drewN nq)
   clear t0 t1 t2 t3 hltt r0
   generalize w4.drewN nq = w6 at HF5 HBN5' HBF5' HBT5 HB85' ⊢
   go_wp2_with fail
   refine (HR.out _ HF5.out).mono ?_
   rintro _ w5 ⟨rfl, hf⟩
   have HM5 := hid (Mp.fresh (g := c.g) (B := c.W0.heap.size) (HF5.out.trans hf))
   have HBN5 := hid (hf.blk HBN5'.out fun h => h)
   have HBF5 := hid (hf.blk HBF5'.out fun h => h)
   have HB85 := hid (hf.blk HB85'.out fun h => h)
   clear hf
   generalize Np.place c.en ([]) = pl at HQ ⊢
   obtain ⟨q0, q1, z0, z1, hlt3⟩ := Blk.two HB85.out
   (try unfold failV)
   go_wp2_with fail
   have b8 := HB85.out.self2 (.int .i64 (pl : Int)) (.int .i64 3)
   have bn := HBN5.out.far2 (L := w.heap.size) (g := w2.heap.size + 1) (by have := HS2.out; omega) (.int .i64 (pl : Int)) (.int .i64 3)
   have bf := HBF5.out.far2 (L := w.heap.size + 1) (g := w2.heap.size + 1) (by have := HS2.out; omega) (.int .i64 (pl : Int)) (.int .i64 3)
   have hm6 : Mp c.g c.W0.heap.size w _ := HM5.out.put2 (g := w2.heap.size + 1) (.inr (by have := HS2.out; omega)) (.int .i64 (pl : Int)) (.int .i64 3)
   simp only [put2] at b8 bn bf hm6
   generalize (World.setCell (World.setCell w5 ⟨w2.heap.size + 1, 0, none⟩ _) ⟨w2.heap.size + 1, 1, none⟩ _) = W6 at b8 bn bf hm6 ⊢
   clear q0 q1 z0 z1 hlt3
   have HB86 := hid b8
   have HBN6 := hid bn
   have HBF6 := hid bf
   have HM6 := hid hm6
   clear bn bf hm6 b8
   refine wp_region_in (fun W => Blk W (w2.heap.size + 1) 88 #[.int .i64 (pl : Int), .int .i64 3] ∧ Blk W w.heap.size 24 zeroN) [(0, true), (1, true), (2, false), (3, false)] (by kernel_rfl) (fun _ _ d _ _ h => by cases d <;> exact h) (by kernel_rfl) ⟨HB86.out.drewN 1, HBN6.out.drewN 1⟩ ?_
   refine wpSeq_plain rfl (fun K hK => ?_)
   rw [if_pos (by rfl)]
   refine ⟨.agg zeroN, fun W hW => ?_, hK _ ?_⟩
   ·go_simp
   clear hK K
   refine wpSeq_plain rfl (fun K hK => ?_)
   rw [if_pos (by rfl)]
   refine ⟨.agg #[.int .i64 (pl : Int), .int .i64 3], fun W hW => ?_, hK _ ?_⟩
   ·obtain ⟨h1, _⟩ := hW
    obtain ⟨p0, p1, _⟩ := Blk.two h1
    go_simp
   clear hK K
   obtain ⟨p0, p1, p2, p3, y0, y1, y2, y3, hlt0⟩ := Blk.four (HBN6.out.drewN 1)
   refine wpSeq_lone rfl (fun K hK => ?_)
   go_wp2_with fail
   have hne : w.heap.size ≠ w.heap.size + 1 := by omega
   have n1 := (HBN6.out.drewN 1).self4 (.int .i64 0) (.string ⟨#[]⟩) (.int .i64 0) (.slice none 0 0)
   have n2 := (HBF6.out.drewN 1).far4 (Ne.symm hne) (.int .i64 0) (.string ⟨#[]⟩) (.int .i64 0) (.slice none 0 0)
   have n8 := (HB86.out.drewN 1).far4 (L := w2.heap.size + 1) (g := w.heap.size) (by have := HS2.out; omega) (.int .i64 0) (.string ⟨#[]⟩) (.int .i64 0) (.slice none 0 0)
   have hm7 : Mp c.g c.W0.heap.size w _ := (HM6.out.drewN 1).put4 (g := w.heap.size) (.inr (Nat.le_refl _)) (.int .i64 0) (.string ⟨#[]⟩) (.int .i64 0) (.slice none 0 0)
   simp only [put4] at n1 n2 n8 hm7
   generalize (World.setCell (World.setCell (World.setCell (World.setCell (W6.drewN 1) ⟨w.heap.size, 0, none⟩ _) ⟨w.heap.size, 1, none⟩ _) ⟨w.heap.size, 2, none⟩ _) ⟨w.heap.size, 3, none⟩ _) = W7 at n1 n2 n8 hm7 ⊢
   refine hK _ _ ⟨n8, n1⟩ ?_
   clear hK K p0 p1 p2 p3 y0 y1 y2 y3 hlt0
   have HN1 := hid n1
   have HN2 := hid n2
   have HN8 := hid n8
   have HM7 := hid hm7
   clear n1 n2 n8 hm7
   obtain ⟨q0, q1, z0, z1, hlt1⟩ := Blk.two HN2.out
   refine wpSeq_lone rfl (fun K hK => ?_)
   go_wp2_with fail
   have m1 := HN1.out.far2 hne (.int .i64 (pl : Int)) (.int .i64 3)
   have m2 := HN2.out.self2 (.int .i64 (pl : Int)) (.int .i64 3)
   have m8 := HN8.out.far2 (L := w2.heap.size + 1) (g := w.heap.size + 1) (by have := HS2.out; omega) (.int .i64 (pl : Int)) (.int .i64 3)
   have hm8 : Mp c.g c.W0.heap.size w _ := HM7.out.put2 (g := w.heap.size + 1) (.inr (by omega)) (.int .i64 (pl : Int)) (.int .i64 3)
   simp only [put2] at m1 m2 m8 hm8
   generalize (World.setCell (World.setCell W7 ⟨w.heap.size + 1, 0, none⟩ _) ⟨w.heap.size + 1, 1, none⟩ _) = W8 at m1 m2 m8 hm8 ⊢
   refine hK _ _ ⟨m8, m1⟩ ?_
   clear hK K q0 q1 z0 z1 hlt1
   refine wpSeq_end ?_
   go_wp2_with fail
   obtain ⟨g0, g1, g2, g3, _⟩ := Blk.four m1
   obtain ⟨f0, f1, _⟩ := Blk.two m2
   (try simp only [Exit.inBlock, Exit.then])
   refine bodyPost_ret (v := .tuple #[.agg zeroN, failV pl 3]) (by simp [failV, results, Tryz.results180, go_sem, f0, f1, g0, g1, g2, g3]) rfl ?_
   exact HQ.out _ _ ⟨by decide, .mk 0 [] 0 [], none, 0, rfl, hm8⟩
  | cons t r =>
   have HK := hid (show k < c.T.length from drop_lt (by rw [HL.out]; exact List.cons_ne_nil _ _))
   have HX := hid (show Np.leafOf t = none from hx)
   clear hx
   unfold tokV at HT
   go_wp2_with fail
   refine (HT.out _ HF1.out).mono ?_
   rintro _ w2 ⟨rfl, hf⟩
   have hf3 := (HF1.out.trans hf).alloc (.cells #[.int .i64 (t.kind : Int), .string ⟨t.text.toArray⟩, .int .i64 (t.from_ : Int), .int .i64 (t.to_ : Int)] 150) |>.alloc (.cells #[.int .i64 0, .int .i64 0] 88)
   have hn3 := (hf.blk HBN1.out fun h => h).alloc (.cells #[.int .i64 (t.kind : Int), .string ⟨t.text.toArray⟩, .int .i64 (t.from_ : Int), .int .i64 (t.to_ : Int)] 150) |>.alloc (.cells #[.int .i64 0, .int .i64 0] 88)
   have hb3 := (hf.blk HBF1.out fun h => h).alloc (.cells #[.int .i64 (t.kind : Int), .string ⟨t.text.toArray⟩, .int .i64 (t.from_ : Int), .int .i64 (t.to_ : Int)] 150) |>.alloc (.cells #[.int .i64 0, .int .i64 0] 88)
   have ht3 : Blk _ w2.heap.size 150 #[.int .i64 (t.kind : Int), .string ⟨t.text.toArray⟩, .int .i64 (t.from_ : Int), .int .i64 (t.to_ : Int)] := (Blk.new w2 150 #[.int .i64 (t.kind : Int), .string ⟨t.text.toArray⟩, .int .i64 (t.from_ : Int), .int .i64 (t.to_ : Int)]).alloc (.cells #[.int .i64 0, .int .i64 0] 88)
   have h83 : Blk _ (w2.heap.size + 1) 88 #[.int .i64 0, .int .i64 0] := Blk.new2 w2 (.cells #[.int .i64 (t.kind : Int), .string ⟨t.text.toArray⟩, .int .i64 (t.from_ : Int), .int .i64 (t.to_ : Int)] 150) 88 #[.int .i64 0, .int .i64 0]
   have HS2 := hid (show w.heap.size + 1 < w2.heap.size from (hf.blk HBF1.out fun h => h).lt)
   clear hf
   go_wp2_with fail
   generalize ((w2.alloc (.cells #[.int .i64 (t.kind : Int), .string ⟨t.text.toArray⟩, .int .i64 (t.from_ : Int), .int .i64 (t.to_ : Int)] 150)).alloc (.cells #[.int .i64 0, .int .i64 0] 88)) = w3 at hf3 hn3 hb3 ht3 h83 ⊢
   have HF3 := hid hf3
   have HBN3 := hid hn3
   have HBF3 := hid hb3
   have HBT3 := hid ht3
   have HB83 := hid h83
   clear hf3 hn3 hb3 ht3 h83
   have HIN := hid (fun (w' : World) (hp : Ps c k op w') (hne : pIn c.en f 125 op (t :: r) ≠ .out) => show Calls _ _ _ _ (ItemsE c k op (pIn c.en f 125 op (t :: r)) w') from by
    have h := HEN.out k op 125 w' hp HOP.out HK.out
    rw [HL.out] at h
    exact h hne)
   cases m123 : Np.isM 123 (t :: r) with
   | true =>
    have HXX := hid (show pArg c.en (f + 1) op (t :: r) = (pIn c.en f 125 op (t :: r)).map Np.slot from by
     rw [pArg]
     simp only [HX.out]
     rw [if_pos m123])
    rw [HXX.out] at HQ HNE
    refine (HA.out 123 _ HF3.out).mono ?_
    rintro _ w4 ⟨rfl, hf⟩
    have HF4 := hid (HF3.out.trans hf)
    have HBN4 := hid (hf.blk HBN3.out fun h => h)
    have HBF4 := hid (hf.blk HBF3.out fun h => h)
    have HBT4 := hid (hf.blk HBT3.out fun h => h)
    have HB84 := hid (hf.blk HB83.out fun h => h)
    have HM4 := hid (Mp.fresh (g := c.g) (B := c.W0.heap.size) HF4.out)
    clear hf
    rw [m123]
    go_wp2_with fail
    refine (HIN.out w4 (H.out.fresh HF4.out) (R.map_out HNE.out)).mono ?_
    intro e w5 hres
    have hparts := hres.parts (R.map_out HNE.out)
    clear hres
    generalize pIn c.en f 125 op (t :: r) = X at HNE HQ hparts
    obtain ⟨A, n, cp, i, er, rfl, hm, hend⟩ := hparts
    have HM5 := hid (HM4.out.trans hm)
    have HBN5 := hid (hm.blk HBN4.out (by omega) (by decide))
    have HBF5 := hid (hm.blk HBF4.out (by omega) (by decide))
    have HB85 := hid (hm.blk HB84.out (by have := HS2.out; omega) (by decide))
    have hs4 : w.heap.size + 1 < w4.heap.size := HBF4.out.lt
    clear hm
    rcases hend with ⟨items, rest, k', hX, rfl, rfl, rfl, htr, hdr, hkk, hp⟩ | ⟨hX, he0⟩
    ·have HTR := hid htr
     have HDR := hid hdr
     have HKK := hid hkk
     have HP5 := hid hp
     clear htr hdr hkk hp
     rw [hX] at HQ
     clear hX
     obtain ⟨q0, q1, z0, z1, hlt3⟩ := Blk.two HB85.out
     (try unfold failV)
     go_wp2_with fail
     have b8 := HB85.out.self2 (.int .i64 0) (.int .i64 0)
     have bn := HBN5.out.far2 (L := w.heap.size) (g := w2.heap.size + 1) (by have := HS2.out; omega) (.int .i64 0) (.int .i64 0)
     have bf := HBF5.out.far2 (L := w.heap.size + 1) (g := w2.heap.size + 1) (by have := HS2.out; omega) (.int .i64 0) (.int .i64 0)
     have hm6 : Mp c.g c.W0.heap.size w _ := HM5.out.put2 (g := w2.heap.size + 1) (.inr (by have := HS2.out; omega)) (.int .i64 0) (.int .i64 0)
     have hp6 := HP5.out.put2 HB85.out (by decide) (by have := HS2.out; omega) (by have := HS2.out; have := HW0.out; omega) (.int .i64 0) (.int .i64 0)
     have htr6 := HTR.out.other HB85.out (by decide) (touch2 w5 (w2.heap.size + 1) (.int .i64 0) (.int .i64 0))
     simp only [put2] at b8 bn bf hm6 hp6 htr6
     generalize (World.setCell (World.setCell w5 ⟨w2.heap.size + 1, 0, none⟩ _) ⟨w2.heap.size + 1, 1, none⟩ _) = W6 at b8 bn bf hm6 hp6 htr6 ⊢
     clear q0 q1 z0 z1 hlt3
     have HBN6 := hid bn
     have HBF6 := hid bf
     have HM6 := hid hm6
     have HP6 := hid hp6
     have HTR6 := hid htr6
     clear b8 bn bf hm6 hp6 htr6
     refine (slot_any_n A items.length cp _).mono ?_
     rintro _ w7 ⟨rfl, hf⟩
     have HBN := hid (hf.blk HBN6.out fun h => h)
     have HBF := hid (hf.blk HBF6.out fun h => h)
     have HM := hid (HM6.out.trans (Mp.fresh hf))
     have HP := hid (HP6.out.fresh hf)
     have HTR7 := hid (HTR6.out.fresh hf)
     clear hf
     obtain ⟨p0, p1, p2, p3, y0, y1, y2, y3, hlt0⟩ := Blk.four HBN.out
     obtain ⟨q0, q1, z0, z1, hlt1⟩ := Blk.two HBF.out
     go_wp2_with fail
     have hne : w.heap.size ≠ w.heap.size + 1 := by omega
     have n1 := (HBN.out.self4 (.int .i64 1) (.string ⟨#[]⟩) (.int .i64 0) (.slice A items.length cp)).far2 hne (.int .i64 0) (.int .i64 0)
     have n2' := HBF.out.far4 (Ne.symm hne) (.int .i64 1) (.string ⟨#[]⟩) (.int .i64 0) (.slice A items.length cp)
     have n2 := n2'.self2 (.int .i64 0) (.int .i64 0)
     have hps := (HP.out.put4 HBN.out (by decide) (by omega) HW0.out (.int .i64 1) (.string ⟨#[]⟩) (.int .i64 0) (.slice A items.length cp)).put2 n2' (by decide) (by omega) (by have := HW0.out; omega) (.int .i64 0) (.int .i64 0)
     have htr9 := (HTR7.out.far (touch4 w7 w.heap.size (.int .i64 1) (.string ⟨#[]⟩) (.int .i64 0) (.slice A items.length cp)) (by omega)).other n2' (by decide) (touch2 _ (w.heap.size + 1) (.int .i64 0) (.int .i64 0))
     have hm9 : Mp c.g c.W0.heap.size w _ := (HM.out.put4 (g := w.heap.size) (.inr (Nat.le_refl _)) (.int .i64 1) (.string ⟨#[]⟩) (.int .i64 0) (.slice A items.length cp)).put2 (g := w.heap.size + 1) (.inr (by omega)) (.int .i64 0) (.int .i64 0)
     obtain ⟨g0, g1, g2, g3, _⟩ := Blk.four n1
     obtain ⟨f0, f1, _⟩ := Blk.two n2
     simp only [put2, put4] at g0 g1 g2 g3 f0 f1 hps htr9 hm9
     (try simp only [Exit.inBlock, Exit.then])
     refine bodyPost_ret (v := .tuple #[.agg #[.int .i64 1, .string ⟨#[]⟩, .int .i64 0, .slice A items.length cp], failV 0 0]) (by simp [failV, results, Tryz.results180, go_sem, f0, f1, g0, g1, g2, g3]) rfl ?_
     exact HQ.out _ _ ⟨A, cp, k', rfl, htr9.base HM4.out.size, Nat.zero_le _, HDR.out, HKK.out, hps, hm9⟩
    ·have HE0 := hid he0
     have e0 := fail_ne he0
     rw [hX] at HQ
     clear he0 hX
     obtain ⟨q0, q1, z0, z1, hlt3⟩ := Blk.two HB85.out
     (try unfold failV)
     go_wp2_with fail
     have b8 := HB85.out.self2 (.int .i64 (i : Int)) (.int .i64 (er : Int))
     have bn := HBN5.out.far2 (L := w.heap.size) (g := w2.heap.size + 1) (by have := HS2.out; omega) (.int .i64 (i : Int)) (.int .i64 (er : Int))
     have bf := HBF5.out.far2 (L := w.heap.size + 1) (g := w2.heap.size + 1) (by have := HS2.out; omega) (.int .i64 (i : Int)) (.int .i64 (er : Int))
     have hm6 : Mp c.g c.W0.heap.size w _ := HM5.out.put2 (g := w2.heap.size + 1) (.inr (by have := HS2.out; omega)) (.int .i64 (i : Int)) (.int .i64 (er : Int))
     simp only [put2] at b8 bn bf hm6
     generalize (World.setCell (World.setCell w5 ⟨w2.heap.size + 1, 0, none⟩ _) ⟨w2.heap.size + 1, 1, none⟩ _) = W6 at b8 bn bf hm6 ⊢
     clear q0 q1 z0 z1 hlt3
     have HB86 := hid b8
     have HBN6 := hid bn
     have HBF6 := hid bf
     have HM6 := hid hm6
     clear bn bf hm6 b8
     refine wp_region_in (fun W => Blk W (w2.heap.size + 1) 88 #[.int .i64 (i : Int), .int .i64 (er : Int)] ∧ Blk W w.heap.size 24 zeroN) [(0, true), (1, true), (2, false), (3, false)] (by kernel_rfl) (fun _ _ d _ _ h => by cases d <;> exact h) (by kernel_rfl) ⟨HB86.out.drewN 1, HBN6.out.drewN 1⟩ ?_
     refine wpSeq_plain rfl (fun K hK => ?_)
     rw [if_pos (by rfl)]
     refine ⟨.agg zeroN, fun W hW => ?_, hK _ ?_⟩
     ·go_simp
     clear hK K
     refine wpSeq_plain rfl (fun K hK => ?_)
     rw [if_pos (by rfl)]
     refine ⟨.agg #[.int .i64 (i : Int), .int .i64 (er : Int)], fun W hW => ?_, hK _ ?_⟩
     ·obtain ⟨h1, _⟩ := hW
      obtain ⟨p0, p1, _⟩ := Blk.two h1
      go_simp
     clear hK K
     obtain ⟨p0, p1, p2, p3, y0, y1, y2, y3, hlt0⟩ := Blk.four (HBN6.out.drewN 1)
     refine wpSeq_lone rfl (fun K hK => ?_)
     go_wp2_with fail
     have hne : w.heap.size ≠ w.heap.size + 1 := by omega
     have n1 := (HBN6.out.drewN 1).self4 (.int .i64 0) (.string ⟨#[]⟩) (.int .i64 0) (.slice none 0 0)
     have n2 := (HBF6.out.drewN 1).far4 (Ne.symm hne) (.int .i64 0) (.string ⟨#[]⟩) (.int .i64 0) (.slice none 0 0)
     have n8 := (HB86.out.drewN 1).far4 (L := w2.heap.size + 1) (g := w.heap.size) (by have := HS2.out; omega) (.int .i64 0) (.string ⟨#[]⟩) (.int .i64 0) (.slice none 0 0)
     have hm7 : Mp c.g c.W0.heap.size w _ := (HM6.out.drewN 1).put4 (g := w.heap.size) (.inr (Nat.le_refl _)) (.int .i64 0) (.string ⟨#[]⟩) (.int .i64 0) (.slice none 0 0)
     simp only [put4] at n1 n2 n8 hm7
     generalize (World.setCell (World.setCell (World.setCell (World.setCell (W6.drewN 1) ⟨w.heap.size, 0, none⟩ _) ⟨w.heap.size, 1, none⟩ _) ⟨w.heap.size, 2, none⟩ _) ⟨w.heap.size, 3, none⟩ _) = W7 at n1 n2 n8 hm7 ⊢
     refine hK _ _ ⟨n8, n1⟩ ?_
     clear hK K p0 p1 p2 p3 y0 y1 y2 y3 hlt0
     have HN1 := hid n1
     have HN2 := hid n2
     have HN8 := hid n8
     have HM7 := hid hm7
     clear n1 n2 n8 hm7
     obtain ⟨q0, q1, z0, z1, hlt1⟩ := Blk.two HN2.out
     refine wpSeq_lone rfl (fun K hK => ?_)
     go_wp2_with fail
     have m1 := HN1.out.far2 hne (.int .i64 (i : Int)) (.int .i64 (er : Int))
     have m2 := HN2.out.self2 (.int .i64 (i : Int)) (.int .i64 (er : Int))
     have m8 := HN8.out.far2 (L := w2.heap.size + 1) (g := w.heap.size + 1) (by have := HS2.out; omega) (.int .i64 (i : Int)) (.int .i64 (er : Int))
     have hm8 : Mp c.g c.W0.heap.size w _ := HM7.out.put2 (g := w.heap.size + 1) (.inr (by omega)) (.int .i64 (i : Int)) (.int .i64 (er : Int))
     simp only [put2] at m1 m2 m8 hm8
     generalize (World.setCell (World.setCell W7 ⟨w.heap.size + 1, 0, none⟩ _) ⟨w.heap.size + 1, 1, none⟩ _) = W8 at m1 m2 m8 hm8 ⊢
     refine hK _ _ ⟨m8, m1⟩ ?_
     clear hK K q0 q1 z0 z1 hlt1
     refine wpSeq_end ?_
     go_wp2_with fail
     obtain ⟨g0, g1, g2, g3, _⟩ := Blk.four m1
     obtain ⟨f0, f1, _⟩ := Blk.two m2
     (try simp only [Exit.inBlock, Exit.then])
     refine bodyPost_ret (v := .tuple #[.agg zeroN, failV i er]) (by simp [failV, results, Tryz.results180, go_sem, f0, f1, g0, g1, g2, g3]) rfl ?_
     exact HQ.out _ _ ⟨HE0.out, .mk 0 [] 0 [], none, 0, rfl, hm8⟩
   | false =>
    refine (HA.out 123 _ HF3.out).mono ?_
    rintro _ w4 ⟨rfl, hf⟩
    have HF4 := hid (HF3.out.trans hf)
    have HBN4 := hid (hf.blk HBN3.out fun h => h)
    have HBF4 := hid (hf.blk HBF3.out fun h => h)
    have HBT4 := hid (hf.blk HBT3.out fun h => h)
    have HB84 := hid (hf.blk HB83.out fun h => h)
    have HM4 := hid (Mp.fresh (g := c.g) (B := c.W0.heap.size) HF4.out)
    clear hf
    rw [m123]
    go_wp2_with fail
    by_cases h4 : t.kind = 4
    ·have e4 := kind_is _ 4 h4
     have H4 := hid h4
     cases hnf : namedF t.text with
     | some F =>
      have HXX := hid (show pArg c.en (f + 1) op (t :: r) = .err (Np.place c.en (t :: r)) 3 from by
       rw [pArg]
       simp only [HX.out]
       rw [if_neg (by simp [m123]), if_neg (fun h => by rw [(namedF_special t.text).2 h.2] at hnf; cases hnf)]
       rfl)
      rw [HXX.out] at HQ
      clear h4
      obtain ⟨t0, t1, t2, t3, _, _, _, _, hltt⟩ := Blk.four (HBT4.out.drewN 1)
      obtain ⟨ov, hb, _⟩ := ((H.out.fresh HF4.out).fresh ((Touch.refl _ _).drewN 1)).box
      have q6 := (hb.cell 6).trans (congrArg some HNM.out.1)
      have hg6 := hb.lt
      have hm1 := ((HF4.out.drewN 1).block bm (Array.getElem?_eq_some_iff.1 HMAP.out).1 (fun h => h)).trans HMAP.out
      have hlk := run_named (w := w4.drewN 1) (bm := bm) (g := c.g) (clock := 9) hm1 t.text false
      rw [hnf] at hlk
      simp only [if_false, Bool.false_eq_true] at hlk
      (try unfold methodV at hlk)
      have hef := eql_func_nil
      have hen := eql_nil_nil
      clear hb hm1
      refine wp_region_in (fun W => W = w4.drewN 1) [(0, true), (1, true), (2, true), (3, true), (4, true), (5, true), (6, true), (7, true), (8, true), (9, true), (10, true), (11, true), (12, true), (13, true)] (by kernel_rfl) (fun _ _ d _ _ h => by cases d <;> exact h) (by kernel_rfl) rfl ?_
      refine wpSeq_plain rfl (fun K hK => ?_)
      rw [if_pos (by rfl)]
      refine ⟨(.pointer (some ⟨w2.heap.size, 0, none⟩)), fun W hW => ?_, ?_⟩
      ·subst hW
       go_simp
      go_simp
      refine hK _ ?_
      clear hK K
      refine wpSeq_plain rfl (fun K hK => ?_)
      rw [if_pos (by rfl)]
      refine ⟨(.int .i64 (t.kind : Int)), fun W hW => ?_, ?_⟩
      ·subst hW
       go_simp
      go_simp
      refine hK _ ?_
      clear hK K
      refine wpSeq_plain rfl (fun K hK => ?_)
      rw [if_pos (by rfl)]
      refine ⟨(.bool true), fun W hW => ?_, ?_⟩
      ·subst hW
       go_simp
       have := H4.out; omega
      go_simp
      refine hK _ ?_
      clear hK K
      refine wpSeq_plain rfl (fun K hK => ?_)
      rw [if_pos (by rfl)]
      refine ⟨(.bool true), fun W hW => ?_, ?_⟩
      ·subst hW
       go_simp
      go_simp
      refine hK _ ?_
      clear hK K
      refine wpSeq_plain rfl (fun K hK => ?_)
      rw [if_pos (by rfl)]
      refine ⟨(.pointer (some ⟨c.g, 0, none⟩)), fun W hW => ?_, ?_⟩
      ·subst hW
       go_simp
      go_simp
      refine hK _ ?_
      clear hK K
      refine wpSeq_plain rfl (fun K hK => ?_)
      rw [if_pos (by rfl)]
      refine ⟨(.pointer (some ⟨c.g, 0, none⟩)), fun W hW => ?_, ?_⟩
      ·subst hW
       go_simp
      go_simp
      refine hK _ ?_
      clear hK K
      refine wpSeq_plain rfl (fun K hK => ?_)
      rw [if_pos (by rfl)]
      refine ⟨(.pointer (some ⟨c.g, 6, none⟩)), fun W hW => ?_, ?_⟩
      ·subst hW
       go_simp
      go_simp
      refine hK _ ?_
      clear hK K
      refine wpSeq_plain rfl (fun K hK => ?_)
      rw [if_pos (by rfl)]
      refine ⟨(.map (some bm)), fun W hW => ?_, ?_⟩
      ·subst hW
       go_simp
      go_simp
      refine hK _ ?_
      clear hK K
      refine wpSeq_plain rfl (fun K hK => ?_)
      rw [if_pos (by rfl)]
      refine ⟨(.pointer (some ⟨w2.heap.size, 1, none⟩)), fun W hW => ?_, ?_⟩
      ·subst hW
       go_simp
      go_simp
      refine hK _ ?_
      clear hK K
      refine wpSeq_plain rfl (fun K hK => ?_)
      rw [if_pos (by rfl)]
      refine ⟨(.string ⟨t.text.toArray⟩), fun W hW => ?_, ?_⟩
      ·subst hW
       go_simp
      go_simp
      refine hK _ ?_
      clear hK K
      refine wpSeq_plain rfl (fun K hK => ?_)
      rw [if_pos (by rfl)]
      refine ⟨(.func (.func F) #[.pointer (some ⟨c.g, 0, none⟩)] #[]), fun W hW => ?_, ?_⟩
      ·subst hW
       go_simp
      go_simp
      refine hK _ ?_
      clear hK K
      refine wpSeq_plain rfl (fun K hK => ?_)
      rw [if_pos (by rfl)]
      refine ⟨(.bool false), fun W hW => ?_, ?_⟩
      ·subst hW
       go_simp
      go_simp
      refine hK _ ?_
      clear hK K
      refine wpSeq_plain rfl (fun K hK => ?_)
      rw [if_pos (by rfl)]
      refine ⟨(.bool false), fun W hW => ?_, ?_⟩
      ·subst hW
       go_simp
      go_simp
      refine hK _ ?_
      clear hK K
      refine wpSeq_plain rfl (fun K hK => ?_)
      rw [if_pos (by rfl)]
      refine ⟨(.bool false), fun W hW => ?_, ?_⟩
      ·subst hW
       go_simp
      go_simp
      refine hK _ ?_
      clear hK K
      refine wpSeq_end ?_
      have HF5 := hid (HF4.out.drewN 1)
      have HBN5' := hid (HBN4.out.drewN 1)
      have HBF5' := hid (HBF4.out.drewN 1)
      have HBT5 := hid (HBT4.out.drewN 1)
      have HB85' := hid (HB84.out.drewN 1)
      clear t0 t1 t2 t3 hltt q6 hg6 hlk hef hen
      generalize w4.drewN 1 = w6 at HF5 HBN5' HBF5' HBT5 HB85' ⊢
      go_wp2_with fail
      refine (HR.out _ HF5.out).mono ?_
      rintro _ w5 ⟨rfl, hf⟩
      have HM5 := hid (Mp.fresh (g := c.g) (B := c.W0.heap.size) (HF5.out.trans hf))
      have HBN5 := hid (hf.blk HBN5'.out fun h => h)
      have HBF5 := hid (hf.blk HBF5'.out fun h => h)
      have HB85 := hid (hf.blk HB85'.out fun h => h)
      clear hf
      generalize Np.place c.en (t :: r) = pl at HQ ⊢
      obtain ⟨q0, q1, z0, z1, hlt3⟩ := Blk.two HB85.out
      (try unfold failV)
      go_wp2_with fail
      have b8 := HB85.out.self2 (.int .i64 (pl : Int)) (.int .i64 3)
      have bn := HBN5.out.far2 (L := w.heap.size) (g := w2.heap.size + 1) (by have := HS2.out; omega) (.int .i64 (pl : Int)) (.int .i64 3)
      have bf := HBF5.out.far2 (L := w.heap.size + 1) (g := w2.heap.size + 1) (by have := HS2.out; omega) (.int .i64 (pl : Int)) (.int .i64 3)
      have hm6 : Mp c.g c.W0.heap.size w _ := HM5.out.put2 (g := w2.heap.size + 1) (.inr (by have := HS2.out; omega)) (.int .i64 (pl : Int)) (.int .i64 3)
      simp only [put2] at b8 bn bf hm6
      generalize (World.setCell (World.setCell w5 ⟨w2.heap.size + 1, 0, none⟩ _) ⟨w2.heap.size + 1, 1, none⟩ _) = W6 at b8 bn bf hm6 ⊢
      clear q0 q1 z0 z1 hlt3
      have HB86 := hid b8
      have HBN6 := hid bn
      have HBF6 := hid bf
      have HM6 := hid hm6
      clear bn bf hm6 b8
      refine wp_region_in (fun W => Blk W (w2.heap.size + 1) 88 #[.int .i64 (pl : Int), .int .i64 3] ∧ Blk W w.heap.size 24 zeroN) [(0, true), (1, true), (2, false), (3, false)] (by kernel_rfl) (fun _ _ d _ _ h => by cases d <;> exact h) (by kernel_rfl) ⟨HB86.out.drewN 1, HBN6.out.drewN 1⟩ ?_
      refine wpSeq_plain rfl (fun K hK => ?_)
      rw [if_pos (by rfl)]
      refine ⟨.agg zeroN, fun W hW => ?_, hK _ ?_⟩
      ·go_simp
      clear hK K
      refine wpSeq_plain rfl (fun K hK => ?_)
      rw [if_pos (by rfl)]
      refine ⟨.agg #[.int .i64 (pl : Int), .int .i64 3], fun W hW => ?_, hK _ ?_⟩
      ·obtain ⟨h1, _⟩ := hW
       obtain ⟨p0, p1, _⟩ := Blk.two h1
       go_simp
      clear hK K
      obtain ⟨p0, p1, p2, p3, y0, y1, y2, y3, hlt0⟩ := Blk.four (HBN6.out.drewN 1)
      refine wpSeq_lone rfl (fun K hK => ?_)
      go_wp2_with fail
      have hne : w.heap.size ≠ w.heap.size + 1 := by omega
      have n1 := (HBN6.out.drewN 1).self4 (.int .i64 0) (.string ⟨#[]⟩) (.int .i64 0) (.slice none 0 0)
      have n2 := (HBF6.out.drewN 1).far4 (Ne.symm hne) (.int .i64 0) (.string ⟨#[]⟩) (.int .i64 0) (.slice none 0 0)
      have n8 := (HB86.out.drewN 1).far4 (L := w2.heap.size + 1) (g := w.heap.size) (by have := HS2.out; omega) (.int .i64 0) (.string ⟨#[]⟩) (.int .i64 0) (.slice none 0 0)
      have hm7 : Mp c.g c.W0.heap.size w _ := (HM6.out.drewN 1).put4 (g := w.heap.size) (.inr (Nat.le_refl _)) (.int .i64 0) (.string ⟨#[]⟩) (.int .i64 0) (.slice none 0 0)
      simp only [put4] at n1 n2 n8 hm7
      generalize (World.setCell (World.setCell (World.setCell (World.setCell (W6.drewN 1) ⟨w.heap.size, 0, none⟩ _) ⟨w.heap.size, 1, none⟩ _) ⟨w.heap.size, 2, none⟩ _) ⟨w.heap.size, 3, none⟩ _) = W7 at n1 n2 n8 hm7 ⊢
      refine hK _ _ ⟨n8, n1⟩ ?_
      clear hK K p0 p1 p2 p3 y0 y1 y2 y3 hlt0
      have HN1 := hid n1
      have HN2 := hid n2
      have HN8 := hid n8
      have HM7 := hid hm7
      clear n1 n2 n8 hm7
      obtain ⟨q0, q1, z0, z1, hlt1⟩ := Blk.two HN2.out
      refine wpSeq_lone rfl (fun K hK => ?_)
      go_wp2_with fail
      have m1 := HN1.out.far2 hne (.int .i64 (pl : Int)) (.int .i64 3)
      have m2 := HN2.out.self2 (.int .i64 (pl : Int)) (.int .i64 3)
      have m8 := HN8.out.far2 (L := w2.heap.size + 1) (g := w.heap.size + 1) (by have := HS2.out; omega) (.int .i64 (pl : Int)) (.int .i64 3)
      have hm8 : Mp c.g c.W0.heap.size w _ := HM7.out.put2 (g := w.heap.size + 1) (.inr (by omega)) (.int .i64 (pl : Int)) (.int .i64 3)
      simp only [put2] at m1 m2 m8 hm8
      generalize (World.setCell (World.setCell W7 ⟨w.heap.size + 1, 0, none⟩ _) ⟨w.heap.size + 1, 1, none⟩ _) = W8 at m1 m2 m8 hm8 ⊢
      refine hK _ _ ⟨m8, m1⟩ ?_
      clear hK K q0 q1 z0 z1 hlt1
      refine wpSeq_end ?_
      go_wp2_with fail
      obtain ⟨g0, g1, g2, g3, _⟩ := Blk.four m1
      obtain ⟨f0, f1, _⟩ := Blk.two m2
      (try simp only [Exit.inBlock, Exit.then])
      refine bodyPost_ret (v := .tuple #[.agg zeroN, failV pl 3]) (by simp [failV, results, Tryz.results180, go_sem, f0, f1, g0, g1, g2, g3]) rfl ?_
      exact HQ.out _ _ ⟨by decide, .mk 0 [] 0 [], none, 0, rfl, hm8⟩
     | none =>
      have HXX := hid (show pArg c.en (f + 1) op (t :: r) = (Np.plainName t r).map Np.slot from by
       rw [pArg]
       simp only [HX.out]
       rw [if_neg (by simp [m123]), if_pos ⟨h4, (namedF_special t.text).1 hnf⟩])
      rw [HXX.out] at HQ HNE
      have HPN := hid (named_none c 0 op t r hnf)
      clear h4
      obtain ⟨t0, t1, t2, t3, _, _, _, _, hltt⟩ := Blk.four (HBT4.out.drewN 1)
      obtain ⟨ov, hb, _⟩ := ((H.out.fresh HF4.out).fresh ((Touch.refl _ _).drewN 1)).box
      have q6 := (hb.cell 6).trans (congrArg some HNM.out.1)
      have hg6 := hb.lt
      have hm1 := ((HF4.out.drewN 1).block bm (Array.getElem?_eq_some_iff.1 HMAP.out).1 (fun h => h)).trans HMAP.out
      have hlk := run_named (w := w4.drewN 1) (bm := bm) (g := c.g) (clock := 9) hm1 t.text false
      rw [hnf] at hlk
      simp only [if_false, Bool.false_eq_true] at hlk
      (try unfold methodV at hlk)
      have hef := eql_func_nil
      have hen := eql_nil_nil
      clear hb hm1
      refine wp_region_in (fun W => W = w4.drewN 1) [(0, true), (1, true), (2, true), (3, true), (4, true), (5, true), (6, true), (7, true), (8, true), (9, true), (10, true), (11, true), (12, true), (13, true)] (by kernel_rfl) (fun _ _ d _ _ h => by cases d <;> exact h) (by kernel_rfl) rfl ?_
      refine wpSeq_plain rfl (fun K hK => ?_)
      rw [if_pos (by rfl)]
      refine ⟨(.pointer (some ⟨w2.heap.size, 0, none⟩)), fun W hW => ?_, ?_⟩
      ·subst hW
       go_simp
      go_simp
      refine hK _ ?_
      clear hK K
      refine wpSeq_plain rfl (fun K hK => ?_)
      rw [if_pos (by rfl)]
      refine ⟨(.int .i64 (t.kind : Int)), fun W hW => ?_, ?_⟩
      ·subst hW
       go_simp
      go_simp
      refine hK _ ?_
      clear hK K
      refine wpSeq_plain rfl (fun K hK => ?_)
      rw [if_pos (by rfl)]
      refine ⟨(.bool true), fun W hW => ?_, ?_⟩
      ·subst hW
       go_simp
       have := H4.out; omega
      go_simp
      refine hK _ ?_
      clear hK K
      refine wpSeq_plain rfl (fun K hK => ?_)
      rw [if_pos (by rfl)]
      refine ⟨(.bool true), fun W hW => ?_, ?_⟩
      ·subst hW
       go_simp
      go_simp
      refine hK _ ?_
      clear hK K
      refine wpSeq_plain rfl (fun K hK => ?_)
      rw [if_pos (by rfl)]
      refine ⟨(.pointer (some ⟨c.g, 0, none⟩)), fun W hW => ?_, ?_⟩
      ·subst hW
       go_simp
      go_simp
      refine hK _ ?_
      clear hK K
      refine wpSeq_plain rfl (fun K hK => ?_)
      rw [if_pos (by rfl)]
      refine ⟨(.pointer (some ⟨c.g, 0, none⟩)), fun W hW => ?_, ?_⟩
      ·subst hW
       go_simp
      go_simp
      refine hK _ ?_
      clear hK K
      refine wpSeq_plain rfl (fun K hK => ?_)
      rw [if_pos (by rfl)]
      refine ⟨(.pointer (some ⟨c.g, 6, none⟩)), fun W hW => ?_, ?_⟩
      ·subst hW
       go_simp
      go_simp
      refine hK _ ?_
      clear hK K
      refine wpSeq_plain rfl (fun K hK => ?_)
      rw [if_pos (by rfl)]
      refine ⟨(.map (some bm)), fun W hW => ?_, ?_⟩
      ·subst hW
       go_simp
      go_simp
      refine hK _ ?_
      clear hK K
      refine wpSeq_plain rfl (fun K hK => ?_)
      rw [if_pos (by rfl)]
      refine ⟨(.pointer (some ⟨w2.heap.size, 1, none⟩)), fun W hW => ?_, ?_⟩
      ·subst hW
       go_simp
      go_simp
      refine hK _ ?_
      clear hK K
      refine wpSeq_plain rfl (fun K hK => ?_)
      rw [if_pos (by rfl)]
      refine ⟨(.string ⟨t.text.toArray⟩), fun W hW => ?_, ?_⟩
      ·subst hW
       go_simp
      go_simp
      refine hK _ ?_
      clear hK K
      refine wpSeq_plain rfl (fun K hK => ?_)
      rw [if_pos (by rfl)]
      refine ⟨.nilFunc, fun W hW => ?_, ?_⟩
      ·subst hW
       go_simp
      go_simp
      refine hK _ ?_
      clear hK K
      refine wpSeq_plain rfl (fun K hK => ?_)
      rw [if_pos (by rfl)]
      refine ⟨(.bool true), fun W hW => ?_, ?_⟩
      ·subst hW
       go_simp
      go_simp
      refine hK _ ?_
      clear hK K
      refine wpSeq_plain rfl (fun K hK => ?_)
      rw [if_pos (by rfl)]
      refine ⟨(.bool true), fun W hW => ?_, ?_⟩
      ·subst hW
       go_simp
      go_simp
      refine hK _ ?_
      clear hK K
      refine wpSeq_plain rfl (fun K hK => ?_)
      rw [if_pos (by rfl)]
      refine ⟨(.bool true), fun W hW => ?_, ?_⟩
      ·subst hW
       go_simp
      go_simp
      refine hK _ ?_
      clear hK K
      refine wpSeq_end ?_
      have HF5 := hid (HF4.out.drewN 1)
      have HBN5' := hid (HBN4.out.drewN 1)
      have HBF5' := hid (HBF4.out.drewN 1)
      have HBT5 := hid (HBT4.out.drewN 1)
      have HB85' := hid (HB84.out.drewN 1)
      clear t0 t1 t2 t3 hltt q6 hg6 hlk hef hen
      generalize w4.drewN 1 = w6 at HF5 HBN5' HBF5' HBT5 HB85' ⊢
      obtain ⟨t0, t1, t2, t3, _, _, _, _, hltt⟩ := Blk.four HBT5.out
      go_wp2_with fail
      clear t0 t1 t2 t3 hltt
      refine (HMAC.out ⟨t.text.toArray⟩ _ HF5.out).mono ?_
      rintro _ w7 ⟨rfl, hf⟩
      have HF7 := hid (HF5.out.trans hf)
      have HBN7 := hid (hf.blk HBN5'.out fun h => h)
      have HBF7 := hid (hf.blk HBF5'.out fun h => h)
      have HBT7 := hid (hf.blk HBT5.out fun h => h)
      have HB87 := hid (hf.blk HB85'.out fun h => h)
      have HM7 := hid (Mp.fresh (g := c.g) (B := c.W0.heap.size) HF7.out)
      clear hf
      obtain ⟨t0, t1, t2, t3, _, _, _, _, hltt⟩ := Blk.four HBT7.out
      go_wp2_with fail
      clear t0 t1 t2 t3 hltt
      refine (HNA.out k op t r w7 (H.out.fresh HF7.out) HOP.out HL.out (by rw [HPN.out]; exact R.map_out HNE.out)).mono ?_
      intro e w5 hres
      have hparts := hres.parts (by rw [HPN.out]; exact R.map_out HNE.out)
      rw [HPN.out] at hparts
      clear hres
      generalize Np.plainName t r = X at HNE HQ HPN hparts
      obtain ⟨A, n, cp, i, er, rfl, hm, hend⟩ := hparts
      have HM5 := hid (HM7.out.trans hm)
      have HBN5 := hid (hm.blk HBN7.out (by omega) (by decide))
      have HBF5 := hid (hm.blk HBF7.out (by omega) (by decide))
      have HB85 := hid (hm.blk HB87.out (by have := HS2.out; omega) (by decide))
      have hs4 : w.heap.size + 1 < w7.heap.size := HBF7.out.lt
      clear hm
      rcases hend with ⟨items, rest, k', hX, rfl, rfl, rfl, htr, hdr, hkk, hp⟩ | ⟨hX, he0⟩
      ·have HTR := hid htr
       have HDR := hid hdr
       have HKK := hid hkk
       have HP5 := hid hp
       clear htr hdr hkk hp
       rw [hX] at HQ
       clear hX
       obtain ⟨q0, q1, z0, z1, hlt3⟩ := Blk.two HB85.out
       (try unfold failV)
       go_wp2_with fail
       have b8 := HB85.out.self2 (.int .i64 0) (.int .i64 0)
       have bn := HBN5.out.far2 (L := w.heap.size) (g := w2.heap.size + 1) (by have := HS2.out; omega) (.int .i64 0) (.int .i64 0)
       have bf := HBF5.out.far2 (L := w.heap.size + 1) (g := w2.heap.size + 1) (by have := HS2.out; omega) (.int .i64 0) (.int .i64 0)
       have hm6 : Mp c.g c.W0.heap.size w _ := HM5.out.put2 (g := w2.heap.size + 1) (.inr (by have := HS2.out; omega)) (.int .i64 0) (.int .i64 0)
       have hp6 := HP5.out.put2 HB85.out (by decide) (by have := HS2.out; omega) (by have := HS2.out; have := HW0.out; omega) (.int .i64 0) (.int .i64 0)
       have htr6 := HTR.out.other HB85.out (by decide) (touch2 w5 (w2.heap.size + 1) (.int .i64 0) (.int .i64 0))
       simp only [put2] at b8 bn bf hm6 hp6 htr6
       generalize (World.setCell (World.setCell w5 ⟨w2.heap.size + 1, 0, none⟩ _) ⟨w2.heap.size + 1, 1, none⟩ _) = W6 at b8 bn bf hm6 hp6 htr6 ⊢
       clear q0 q1 z0 z1 hlt3
       have HBN6 := hid bn
       have HBF6 := hid bf
       have HM6 := hid hm6
       have HP6 := hid hp6
       have HTR6 := hid htr6
       clear b8 bn bf hm6 hp6 htr6
       refine (slot_any_n A items.length cp _).mono ?_
       rintro _ w7 ⟨rfl, hf⟩
       have HBN := hid (hf.blk HBN6.out fun h => h)
       have HBF := hid (hf.blk HBF6.out fun h => h)
       have HM := hid (HM6.out.trans (Mp.fresh hf))
       have HP := hid (HP6.out.fresh hf)
       have HTR7 := hid (HTR6.out.fresh hf)
       clear hf
       obtain ⟨p0, p1, p2, p3, y0, y1, y2, y3, hlt0⟩ := Blk.four HBN.out
       obtain ⟨q0, q1, z0, z1, hlt1⟩ := Blk.two HBF.out
       go_wp2_with fail
       have hne : w.heap.size ≠ w.heap.size + 1 := by omega
       have n1 := (HBN.out.self4 (.int .i64 1) (.string ⟨#[]⟩) (.int .i64 0) (.slice A items.length cp)).far2 hne (.int .i64 0) (.int .i64 0)
       have n2' := HBF.out.far4 (Ne.symm hne) (.int .i64 1) (.string ⟨#[]⟩) (.int .i64 0) (.slice A items.length cp)
       have n2 := n2'.self2 (.int .i64 0) (.int .i64 0)
       have hps := (HP.out.put4 HBN.out (by decide) (by omega) HW0.out (.int .i64 1) (.string ⟨#[]⟩) (.int .i64 0) (.slice A items.length cp)).put2 n2' (by decide) (by omega) (by have := HW0.out; omega) (.int .i64 0) (.int .i64 0)
       have htr9 := (HTR7.out.far (touch4 w7 w.heap.size (.int .i64 1) (.string ⟨#[]⟩) (.int .i64 0) (.slice A items.length cp)) (by omega)).other n2' (by decide) (touch2 _ (w.heap.size + 1) (.int .i64 0) (.int .i64 0))
       have hm9 : Mp c.g c.W0.heap.size w _ := (HM.out.put4 (g := w.heap.size) (.inr (Nat.le_refl _)) (.int .i64 1) (.string ⟨#[]⟩) (.int .i64 0) (.slice A items.length cp)).put2 (g := w.heap.size + 1) (.inr (by omega)) (.int .i64 0) (.int .i64 0)
       obtain ⟨g0, g1, g2, g3, _⟩ := Blk.four n1
       obtain ⟨f0, f1, _⟩ := Blk.two n2
       simp only [put2, put4] at g0 g1 g2 g3 f0 f1 hps htr9 hm9
       (try simp only [Exit.inBlock, Exit.then])
       refine bodyPost_ret (v := .tuple #[.agg #[.int .i64 1, .string ⟨#[]⟩, .int .i64 0, .slice A items.length cp], failV 0 0]) (by simp [failV, results, Tryz.results180, go_sem, f0, f1, g0, g1, g2, g3]) rfl ?_
       exact HQ.out _ _ ⟨A, cp, k', rfl, htr9.base HM7.out.size, Nat.zero_le _, HDR.out, HKK.out, hps, hm9⟩
      ·have HE0 := hid he0
       have e0 := fail_ne he0
       rw [hX] at HQ
       clear he0 hX
       obtain ⟨q0, q1, z0, z1, hlt3⟩ := Blk.two HB85.out
       (try unfold failV)
       go_wp2_with fail
       have b8 := HB85.out.self2 (.int .i64 (i : Int)) (.int .i64 (er : Int))
       have bn := HBN5.out.far2 (L := w.heap.size) (g := w2.heap.size + 1) (by have := HS2.out; omega) (.int .i64 (i : Int)) (.int .i64 (er : Int))
       have bf := HBF5.out.far2 (L := w.heap.size + 1) (g := w2.heap.size + 1) (by have := HS2.out; omega) (.int .i64 (i : Int)) (.int .i64 (er : Int))
       have hm6 : Mp c.g c.W0.heap.size w _ := HM5.out.put2 (g := w2.heap.size + 1) (.inr (by have := HS2.out; omega)) (.int .i64 (i : Int)) (.int .i64 (er : Int))
       simp only [put2] at b8 bn bf hm6
       generalize (World.setCell (World.setCell w5 ⟨w2.heap.size + 1, 0, none⟩ _) ⟨w2.heap.size + 1, 1, none⟩ _) = W6 at b8 bn bf hm6 ⊢
       clear q0 q1 z0 z1 hlt3
       have HB86 := hid b8
       have HBN6 := hid bn
       have HBF6 := hid bf
       have HM6 := hid hm6
       clear bn bf hm6 b8
       refine wp_region_in (fun W => Blk W (w2.heap.size + 1) 88 #[.int .i64 (i : Int), .int .i64 (er : Int)] ∧ Blk W w.heap.size 24 zeroN) [(0, true), (1, true), (2, false), (3, false)] (by kernel_rfl) (fun _ _ d _ _ h => by cases d <;> exact h) (by kernel_rfl) ⟨HB86.out.drewN 1, HBN6.out.drewN 1⟩ ?_
       refine wpSeq_plain rfl (fun K hK => ?_)
       rw [if_pos (by rfl)]
       refine ⟨.agg zeroN, fun W hW => ?_, hK _ ?_⟩
       ·go_simp
       clear hK K
       refine wpSeq_plain rfl (fun K hK => ?_)
       rw [if_pos (by rfl)]
       refine ⟨.agg #[.int .i64 (i : Int), .int .i64 (er : Int)], fun W hW => ?_, hK _ ?_⟩
       ·obtain ⟨h1, _⟩ := hW
        obtain ⟨p0, p1, _⟩ := Blk.two h1
        go_simp
       clear hK K
       obtain ⟨p0, p1, p2, p3, y0, y1, y2, y3, hlt0⟩ := Blk.four (HBN6.out.drewN 1)
       refine wpSeq_lone rfl (fun K hK => ?_)
       go_wp2_with fail
       have hne : w.heap.size ≠ w.heap.size + 1 := by omega
       have n1 := (HBN6.out.drewN 1).self4 (.int .i64 0) (.string ⟨#[]⟩) (.int .i64 0) (.slice none 0 0)
       have n2 := (HBF6.out.drewN 1).far4 (Ne.symm hne) (.int .i64 0) (.string ⟨#[]⟩) (.int .i64 0) (.slice none 0 0)
       have n8 := (HB86.out.drewN 1).far4 (L := w2.heap.size + 1) (g := w.heap.size) (by have := HS2.out; omega) (.int .i64 0) (.string ⟨#[]⟩) (.int .i64 0) (.slice none 0 0)
       have hm7 : Mp c.g c.W0.heap.size w _ := (HM6.out.drewN 1).put4 (g := w.heap.size) (.inr (Nat.le_refl _)) (.int .i64 0) (.string ⟨#[]⟩) (.int .i64 0) (.slice none 0 0)
       simp only [put4] at n1 n2 n8 hm7
       generalize (World.setCell (World.setCell (World.setCell (World.setCell (W6.drewN 1) ⟨w.heap.size, 0, none⟩ _) ⟨w.heap.size, 1, none⟩ _) ⟨w.heap.size, 2, none⟩ _) ⟨w.heap.size, 3, none⟩ _) = W7 at n1 n2 n8 hm7 ⊢
       refine hK _ _ ⟨n8, n1⟩ ?_
       clear hK K p0 p1 p2 p3 y0 y1 y2 y3 hlt0
       have HN1 := hid n1
       have HN2 := hid n2
       have HN8 := hid n8
       have HM7 := hid hm7
       clear n1 n2 n8 hm7
       obtain ⟨q0, q1, z0, z1, hlt1⟩ := Blk.two HN2.out
       refine wpSeq_lone rfl (fun K hK => ?_)
       go_wp2_with fail
       have m1 := HN1.out.far2 hne (.int .i64 (i : Int)) (.int .i64 (er : Int))
       have m2 := HN2.out.self2 (.int .i64 (i : Int)) (.int .i64 (er : Int))
       have m8 := HN8.out.far2 (L := w2.heap.size + 1) (g := w.heap.size + 1) (by have := HS2.out; omega) (.int .i64 (i : Int)) (.int .i64 (er : Int))
       have hm8 : Mp c.g c.W0.heap.size w _ := HM7.out.put2 (g := w.heap.size + 1) (.inr (by omega)) (.int .i64 (i : Int)) (.int .i64 (er : Int))
       simp only [put2] at m1 m2 m8 hm8
       generalize (World.setCell (World.setCell W7 ⟨w.heap.size + 1, 0, none⟩ _) ⟨w.heap.size + 1, 1, none⟩ _) = W8 at m1 m2 m8 hm8 ⊢
       refine hK _ _ ⟨m8, m1⟩ ?_
       clear hK K q0 q1 z0 z1 hlt1
       refine wpSeq_end ?_
       go_wp2_with fail
       obtain ⟨g0, g1, g2, g3, _⟩ := Blk.four m1
       obtain ⟨f0, f1, _⟩ := Blk.two m2
       (try simp only [Exit.inBlock, Exit.then])
       refine bodyPost_ret (v := .tuple #[.agg zeroN, failV i er]) (by simp [failV, results, Tryz.results180, go_sem, f0, f1, g0, g1, g2, g3]) rfl ?_
       exact HQ.out _ _ ⟨HE0.out, .mk 0 [] 0 [], none, 0, rfl, hm8⟩
    ·have e4 := kind_no _ 4 h4
     have e4p : ¬ ((t.kind : Int) = 4) := by omega
     have HXX := hid (show pArg c.en (f + 1) op (t :: r) = .err (Np.place c.en (t :: r)) 3 from by
      rw [pArg]
      simp only [HX.out]
      rw [if_neg (by simp [m123]), if_neg (fun h => h4 h.1)]
      rfl)
     rw [HXX.out] at HQ
     clear h4
     obtain ⟨t0, t1, t2, t3, _, _, _, _, hltt⟩ := Blk.four HBT4.out
     have r0 := cell_regrown t0
     go_quiet (fail)
     have HF5 := hid (HF4.out.drewN nq)
     have HBN5' := hid (HBN4.out.drewN nq)
     have HBF5' := hid (HBF4.out.drewN nq)
     have HBT5 := hid (HBT4.out.drewN nq)
     have HB85' := hid (HB84.out.drewN nq)
     clear t0 t1 t2 t3 hltt r0
     generalize w4.drewN nq = w6 at HF5 HBN5' HBF5' HBT5 HB85' ⊢
     go_wp2_with fail
     refine (HR.out _ HF5.out).mono ?_
     rintro _ w5 ⟨rfl, hf⟩
     have HM5 := hid (Mp.fresh (g := c.g) (B := c.W0.heap.size) (HF5.out.trans hf))
     have HBN5 := hid (hf.blk HBN5'.out fun h => h)
     have HBF5 := hid (hf.blk HBF5'.out fun h => h)
     have HB85 := hid (hf.blk HB85'.out fun h => h)
     clear hf
     generalize Np.place c.en (t :: r) = pl at HQ ⊢
     obtain ⟨q0, q1, z0, z1, hlt3⟩ := Blk.two HB85.out
     (try unfold failV)
     go_wp2_with fail
     have b8 := HB85.out.self2 (.int .i64 (pl : Int)) (.int .i64 3)
     have bn := HBN5.out.far2 (L := w.heap.size) (g := w2.heap.size + 1) (by have := HS2.out; omega) (.int .i64 (pl : Int)) (.int .i64 3)
     have bf := HBF5.out.far2 (L := w.heap.size + 1) (g := w2.heap.size + 1) (by have := HS2.out; omega) (.int .i64 (pl : Int)) (.int .i64 3)
     have hm6 : Mp c.g c.W0.heap.size w _ := HM5.out.put2 (g := w2.heap.size + 1) (.inr (by have := HS2.out; omega)) (.int .i64 (pl : Int)) (.int .i64 3)
     simp only [put2] at b8 bn bf hm6
     generalize (World.setCell (World.setCell w5 ⟨w2.heap.size + 1, 0, none⟩ _) ⟨w2.heap.size + 1, 1, none⟩ _) = W6 at b8 bn bf hm6 ⊢
     clear q0 q1 z0 z1 hlt3
     have HB86 := hid b8
     have HBN6 := hid bn
     have HBF6 := hid bf
     have HM6 := hid hm6
     clear bn bf hm6 b8
     refine wp_region_in (fun W => Blk W (w2.heap.size + 1) 88 #[.int .i64 (pl : Int), .int .i64 3] ∧ Blk W w.heap.size 24 zeroN) [(0, true), (1, true), (2, false), (3, false)] (by kernel_rfl) (fun _ _ d _ _ h => by cases d <;> exact h) (by kernel_rfl) ⟨HB86.out.drewN 1, HBN6.out.drewN 1⟩ ?_
     refine wpSeq_plain rfl (fun K hK => ?_)
     rw [if_pos (by rfl)]
     refine ⟨.agg zeroN, fun W hW => ?_, hK _ ?_⟩
     ·go_simp
     clear hK K
     refine wpSeq_plain rfl (fun K hK => ?_)
     rw [if_pos (by rfl)]
     refine ⟨.agg #[.int .i64 (pl : Int), .int .i64 3], fun W hW => ?_, hK _ ?_⟩
     ·obtain ⟨h1, _⟩ := hW
      obtain ⟨p0, p1, _⟩ := Blk.two h1
      go_simp
     clear hK K
     obtain ⟨p0, p1, p2, p3, y0, y1, y2, y3, hlt0⟩ := Blk.four (HBN6.out.drewN 1)
     refine wpSeq_lone rfl (fun K hK => ?_)
     go_wp2_with fail
     have hne : w.heap.size ≠ w.heap.size + 1 := by omega
     have n1 := (HBN6.out.drewN 1).self4 (.int .i64 0) (.string ⟨#[]⟩) (.int .i64 0) (.slice none 0 0)
     have n2 := (HBF6.out.drewN 1).far4 (Ne.symm hne) (.int .i64 0) (.string ⟨#[]⟩) (.int .i64 0) (.slice none 0 0)
     have n8 := (HB86.out.drewN 1).far4 (L := w2.heap.size + 1) (g := w.heap.size) (by have := HS2.out; omega) (.int .i64 0) (.string ⟨#[]⟩) (.int .i64 0) (.slice none 0 0)
     have hm7 : Mp c.g c.W0.heap.size w _ := (HM6.out.drewN 1).put4 (g := w.heap.size) (.inr (Nat.le_refl _)) (.int .i64 0) (.string ⟨#[]⟩) (.int .i64 0) (.slice none 0 0)
     simp only [put4] at n1 n2 n8 hm7
     generalize (World.setCell (World.setCell (World.setCell (World.setCell (W6.drewN 1) ⟨w.heap.size, 0, none⟩ _) ⟨w.heap.size, 1, none⟩ _) ⟨w.heap.size, 2, none⟩ _) ⟨w.heap.size, 3, none⟩ _) = W7 at n1 n2 n8 hm7 ⊢
     refine hK _ _ ⟨n8, n1⟩ ?_
     clear hK K p0 p1 p2 p3 y0 y1 y2 y3 hlt0
     have HN1 := hid n1
     have HN2 := hid n2
     have HN8 := hid n8
     have HM7 := hid hm7
     clear n1 n2 n8 hm7
     obtain ⟨q0, q1, z0, z1, hlt1⟩ := Blk.two HN2.out
     refine wpSeq_lone rfl (fun K hK => ?_)
     go_wp2_with fail
     have m1 := HN1.out.far2 hne (.int .i64 (pl : Int)) (.int .i64 3)
     have m2 := HN2.out.self2 (.int .i64 (pl : Int)) (.int .i64 3)
     have m8 := HN8.out.far2 (L := w2.heap.size + 1) (g := w.heap.size + 1) (by have := HS2.out; omega) (.int .i64 (pl : Int)) (.int .i64 3)
     have hm8 : Mp c.g c.W0.heap.size w _ := HM7.out.put2 (g := w.heap.size + 1) (.inr (by omega)) (.int .i64 (pl : Int)) (.int .i64 3)
     simp only [put2] at m1 m2 m8 hm8
     generalize (World.setCell (World.setCell W7 ⟨w.heap.size + 1, 0, none⟩ _) ⟨w.heap.size + 1, 1, none⟩ _) = W8 at m1 m2 m8 hm8 ⊢
     refine hK _ _ ⟨m8, m1⟩ ?_
     clear hK K q0 q1 z0 z1 hlt1
     refine wpSeq_end ?_
     go_wp2_with fail
     obtain ⟨g0, g1, g2, g3, _⟩ := Blk.four m1
     obtain ⟨f0, f1, _⟩ := Blk.two m2
     (try simp only [Exit.inBlock, Exit.then])
     refine bodyPost_ret (v := .tuple #[.agg zeroN, failV pl 3]) (by simp [failV, results, Tryz.results180, go_sem, f0, f1, g0, g1, g2, g3]) rfl ?_
     exact HQ.out _ _ ⟨by decide, .mk 0 [] 0 [], none, 0, rfl, hm8⟩
end Go.Proofs.YtdacpbdamliafaaGreat
