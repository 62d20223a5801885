/- Part 37 of 48 of a proof; its texts, joined: NqN. No condition. -/
import Derived.Test.YtncnoeoicaglaaaGreatVc36

/- The parser's item. -/
namespace Go.Proofs.YtncnoeoicaglaaaGreat
open Go.RowKit
open Tr (Nd)
open Lx (PTok)
open Np (R pRow pIn pScript pItem pPrim pArgs pName pCells pArg)
attribute [local go_sem] stillV stillUpon
def ItemN (c : Cf) (f : Nat) : Prop := ∀ (k : Nat) (op : List Nat) (w : World), Ps c k op w → op.length ≤ k → pItem c.en f op (c.T.drop k) ≠ .out → Calls Tryz.prog 75 #[pp0 c] w (ItemsE c k op (pItem c.en f op (c.T.drop k)) w)
theorem R.bind_ok {α β : Type} (a : α) (l : List PTok) (k : α → List PTok → R β) : (R.ok a l).bind k = k a l := rfl
theorem ScriptE.parts {c : Cf} {k : Nat} {op : List Nat} {X : R (Option Nd)} {w w' : World} {e : Ending} (h : ScriptE c k op X w e w') (hne : X ≠ .out) : ∃ n A cp th i er, e = .returned (.tuple #[nodeV n A cp, .bool th, failV i er]) ∧ Mp c.g c.W0.heap.size w w' ∧
  ((∃ so rest k', X = .ok so rest ∧ th = so.isSome ∧ i = 0 ∧ er = 0 ∧ (so.isSome = true → so = some n ∧ TreT w.heap.size w' n.kids (.slice A n.kids.length cp) ∧ n.text.length ≤ maxLen) ∧ c.T.drop k' = rest ∧ k ≤ k' ∧ Ps c k' op w') ∨ (X = .err i er ∧ er ≠ 0)) := by
 cases X with
 | out => exact absurd rfl hne
 | err i er =>
  obtain ⟨he0, n, A, cp, rfl, hm⟩ := h
  exact ⟨n, A, cp, true, i, er, rfl, hm, .inr ⟨rfl, he0⟩⟩
 | ok so rest =>
  cases so with
  | none =>
   obtain ⟨k', rfl, hdr, hkk, hp, hm⟩ := h
   exact ⟨.mk 0 [] 0 [], none, 0, false, 0, 0, rfl, hm, .inl ⟨none, rest, k', rfl, rfl, rfl, rfl, (fun h => by cases h), hdr, hkk, hp⟩⟩
  | some a =>
   obtain ⟨A, cp, k', rfl, htr, htx, hdr, hkk, hp, hm⟩ := h
   exact ⟨a, A, cp, true, 0, 0, rfl, hm, .inl ⟨some a, rest, k', rfl, rfl, rfl, rfl, (fun _ => ⟨rfl, htr, htx⟩), hdr, hkk, hp⟩⟩
theorem TreT.lit2 {B : Nat} {w : World} {n1 n2 : Nd} {s1 s2 : Value} (h1 : TreT B w n1.kids s1) (h2 : TreT B w n2.kids s2) (hB : B ≤ w.heap.size) (t1 : n1.text.length ≤ maxLen) (t2 : n2.text.length ≤ maxLen) :
  TreT B (w.alloc (.cells #[.int .i64 n1.kind, .string ⟨n1.text.toArray⟩, .int .i64 n1.cols, s1, .int .i64 n2.kind, .string ⟨n2.text.toArray⟩, .int .i64 n2.cols, s2] 26)) [n1, n2] (.slice (some ⟨w.heap.size, 0, none⟩) 2 2) := by
 have hb := Blk.new w 26 #[.int .i64 n1.kind, .string ⟨n1.text.toArray⟩, .int .i64 n1.cols, s1, .int .i64 n2.kind, .string ⟨n2.text.toArray⟩, .int .i64 n2.cols, s2]
 have hf : Fresh w _ := (Touch.refl _ w).alloc (.cells #[.int .i64 n1.kind, .string ⟨n1.text.toArray⟩, .int .i64 n1.cols, s1, .int .i64 n2.kind, .string ⟨n2.text.toArray⟩, .int .i64 n2.cols, s2] 26)
 exact TreT.row w.heap.size 2 [n1, n2] (fun i => if i = 0 then s1 else s2) hB ⟨_, _, hb⟩ (by simp [maxLen]) (fun i hi => match i, hi with | 0, _ => t1 | 1, _ => t2) (fun i hi => match i, hi with | 0, _ => hb.cell 0 | 1, _ => hb.cell 4) (fun i hi => match i, hi with | 0, _ => hb.cell 1 | 1, _ => hb.cell 5)
  (fun i hi => match i, hi with | 0, _ => hb.cell 2 | 1, _ => hb.cell 6) (fun i hi => match i, hi with | 0, _ => hb.cell 3 | 1, _ => hb.cell 7) (fun i hi => match i, hi with | 0, _ => h1.fresh hf | 1, _ => h2.fresh hf)
theorem TreT.lit3 {B : Nat} {w : World} {n1 n2 n3 : Nd} {s1 s2 s3 : Value} (h1 : TreT B w n1.kids s1) (h2 : TreT B w n2.kids s2) (h3 : TreT B w n3.kids s3) (hB : B ≤ w.heap.size) (t1 : n1.text.length ≤ maxLen) (t2 : n2.text.length ≤ maxLen) (t3 : n3.text.length ≤ maxLen) :
  TreT B (w.alloc (.cells #[.int .i64 n1.kind, .string ⟨n1.text.toArray⟩, .int .i64 n1.cols, s1, .int .i64 n2.kind, .string ⟨n2.text.toArray⟩, .int .i64 n2.cols, s2, .int .i64 n3.kind, .string ⟨n3.text.toArray⟩, .int .i64 n3.cols, s3] 26)) [n1, n2, n3] (.slice (some ⟨w.heap.size, 0, none⟩) 3 3) := by
 have hb := Blk.new w 26 #[.int .i64 n1.kind, .string ⟨n1.text.toArray⟩, .int .i64 n1.cols, s1, .int .i64 n2.kind, .string ⟨n2.text.toArray⟩, .int .i64 n2.cols, s2, .int .i64 n3.kind, .string ⟨n3.text.toArray⟩, .int .i64 n3.cols, s3]
 have hf : Fresh w _ := (Touch.refl _ w).alloc (.cells #[.int .i64 n1.kind, .string ⟨n1.text.toArray⟩, .int .i64 n1.cols, s1, .int .i64 n2.kind, .string ⟨n2.text.toArray⟩, .int .i64 n2.cols, s2, .int .i64 n3.kind, .string ⟨n3.text.toArray⟩, .int .i64 n3.cols, s3] 26)
 exact TreT.row w.heap.size 3 [n1, n2, n3] (fun i => if i = 0 then s1 else if i = 1 then s2 else s3) hB ⟨_, _, hb⟩ (by simp [maxLen]) (fun i hi => match i, hi with | 0, _ => t1 | 1, _ => t2 | 2, _ => t3) (fun i hi => match i, hi with | 0, _ => hb.cell 0 | 1, _ => hb.cell 4 | 2, _ => hb.cell 8) (fun i hi => match i, hi with | 0, _ => hb.cell 1 | 1, _ => hb.cell 5 | 2, _ => hb.cell 9)
  (fun i hi => match i, hi with | 0, _ => hb.cell 2 | 1, _ => hb.cell 6 | 2, _ => hb.cell 10) (fun i hi => match i, hi with | 0, _ => hb.cell 3 | 1, _ => hb.cell 7 | 2, _ => hb.cell 11) (fun i hi => match i, hi with | 0, _ => h1.fresh hf | 1, _ => h2.fresh hf | 2, _ => h3.fresh hf)
theorem Mp.fr {g B : Nat} {a b c : World} (h : Mp g B a b) (k : Fresh b c) : Mp g B a c := h.trans (Mp.fresh k)
set_option maxRecDepth 100000 in
set_option maxHeartbeats 3000000 in
theorem item_n (c : Cf) (hc : c.Good) (f : Nat) (hprim : PrimaryN c f) (hscr : ScriptN c f) : ItemN c (f + 1) := by
 intro k op w h hop hne
 have htl := hc.tl
 have HA := hid (fun (w' : World) (hf : Fresh w w') => at_any_n c hc k op 123 w' (h.fresh hf))
 have HR := hid (fun (k' : Nat) (w' : World) (hp : Ps c k' op w') => refuse_any_n c hc k' op w' hp)
 have HPR := hid hprim
 have HSC := hid hscr
 have H := hid h
 have HOP := hid hop
 have HW0 := hid h.low.size
 have hgl : c.g < w.heap.size := h.glt
 rw [pItem] at hne ⊢
 have HNE := hid hne
 refine Calls.via fun Q hQ => ?_
 have HQ := hid hQ
 clear hne h hop hc hQ hprim hscr
 generalize hgp : Np.isM 123 (c.T.drop k) = gp at HA HNE HQ
 clear hgp
 unfold pp0
 go_enter Tryz.func75, Tryz.ntmps75
 go_wp2_with fail
 refine (HA.out _ ((Touch.refl _ _).alloc _)).mono ?_
 rintro _ w1 ⟨rfl, hf⟩
 have HF1 := hid (show Fresh w w1 from Touch.pre hf)
 have HBR1 := hid (hf.blk (Blk.new w 56 #[.int .i64 0, .int .i64 0]) (fun h => h))
 clear hf
 go_wp2_with fail
 refine (HPR.out k op w1 (H.out.fresh HF1.out) HOP.out (fun h => HNE.out (by rw [h] <;> rfl))).mono ?_
 intro e w2 hres
 have hparts := hres.parts (fun h => HNE.out (by rw [h] <;> rfl))
 clear hres
 generalize pPrim c.en f op (c.T.drop k) = X at HNE HQ hparts
 obtain ⟨A, n, cp, i, er, rfl, hm, hend⟩ := hparts
 have HM2 := hid ((Mp.fresh HF1.out).trans hm)
 have HBR2 := hid (hm.blk HBR1.out (by omega) (by decide))
 have HS2 := hid (show w.heap.size < w2.heap.size from HBR2.out.lt)
 clear hm
 rcases hend with ⟨items, rest, k1, rfl, rfl, rfl, rfl, htr, rfl, hkk, hp⟩ | ⟨rfl, he0⟩
 case inr =>
  have HE0 := hid he0
  have e0 := fail_ne he0
  clear he0
  unfold failV
  go_wp2_with fail
  have hbe := Blk.new w2 56 #[.int .i64 (i : Int), .int .i64 (er : Int)]
  have hbr := HBR2.out.alloc (.cells #[.int .i64 (i : Int), .int .i64 (er : Int)] 56)
  have hmr := HM2.out.alloc (.cells #[.int .i64 (i : Int), .int .i64 (er : Int)] 56)
  have r0 := cell_regrown (hbe.cell 0 |>.trans rfl)
  have r1 := cell_regrown (hbe.cell 1 |>.trans rfl)
  have hlt3 := hbe.lt
  have HBR := hid hbr
  have HMR := hid hmr
  clear hbe hbr hmr
  refine wp_region_mix [([(0, true), (1, true)], 2)] [] (by kernel_rfl) (fun _ _ d _ _ h => by cases d <;> exact h) (by kernel_rfl) ?_
  refine wpMix_seg ?_
  repeat (refine wpSeq_plain rfl (fun K hK => ?_); go_simp; refine hK _ ?_; clear hK K)
  obtain ⟨p0, p1, y0, y1, hlt⟩ := Blk.two (HBR.out.drewN 1)
  refine wpSeq_shut rfl (fun K hK => ?_)
  go_wp2_with fail
  refine wpMix_end ?_
  go_wp2_with fail
  have hb5 : Blk _ (w.heap.size) 56 #[.int .i64 (i : Int), .int .i64 (er : Int)] := ((HBR.out.drewN 1).put 0 (.int .i64 (i : Int))).put 1 (.int .i64 (er : Int))
  have hm5 := ((HMR.out.drewN 1).setCell (p := ⟨w.heap.size, 0, none⟩) (.inr (by show w.heap.size ≤ w.heap.size; omega)) (.int .i64 (i : Int))).setCell (p := ⟨w.heap.size, 1, none⟩) (.inr (by show w.heap.size ≤ w.heap.size; omega)) (.int .i64 (er : Int))
  obtain ⟨f0, f1, _⟩ := Blk.two hb5
  (try simp only [Exit.inBlock, Exit.then])
  refine bodyPost_ret (v := .tuple #[.slice none 0 0, failV i er]) (by simp [failV, results, Tryz.results75, go_sem, f0, f1]) rfl ?_
  exact HQ.out _ _ ⟨HE0.out, none, 0, 0, rfl, hm5⟩
 have HP2 := hid hp
 have HT2 := hid htr
 have HK1 := hid hkk
 clear htr hkk hp
 simp only [R.bind_ok] at HNE HQ
 unfold failV
 go_wp2_with fail
 have hf3 : Fresh w2 (w2.alloc (.cells #[.int .i64 0, .int .i64 0] 56)) := (Touch.refl _ _).alloc _
 have hb6 := Blk.new w2 56 #[.int .i64 0, .int .i64 0]
 have hbr3 := HBR2.out.alloc (.cells #[.int .i64 0, .int .i64 0] 56)
 generalize (w2.alloc (.cells #[.int .i64 0, .int .i64 0] 56)) = w3 at hf3 hb6 hbr3 ⊢
 have HF3 := hid hf3
 have HB63 := hid hb6
 have HBR3 := hid hbr3
 have HP3 := hid (HP2.out.fresh hf3)
 have HC3 := hid (show Mp c.g c.W0.heap.size w2 w3 from Mp.fresh hf3)
 have HM3 := hid (HM2.out.fr hf3)
 clear hf3 hb6 hbr3
 refine (HSC.out k1 op 95 w3 HP3.out (by have := HOP.out; have := HK1.out; omega) (fun h => HNE.out (by rw [h] <;> rfl))).mono ?_
 intro e w4 hres
 have hparts := hres.parts (fun h => HNE.out (by rw [h] <;> rfl))
 clear hres
 generalize pScript c.en f 95 op (c.T.drop k1) = X at HNE HQ hparts
 obtain ⟨n4, A4, cp4, th4, i, er, rfl, hm, hend⟩ := hparts
 have HD4 := hid hm
 have HB64 := hid (hm.blk HB63.out (by have := HS2.out; omega) (by decide))
 have HBR4 := hid (hm.blk HBR3.out (by omega) (by decide))
 have HC4 := hid (HC3.out.trans hm)
 have HM4 := hid (HM3.out.trans hm)
 have HS4 := hid (show w2.heap.size < w4.heap.size from HB64.out.lt)
 have HZ4 := hid (show w3.heap.size ≤ w4.heap.size from hm.size)
 clear hm
 obtain ⟨q0, q1, z0, z1, hlt3⟩ := Blk.two HB64.out
 rcases hend with ⟨so1, rest, k2, rfl, rfl, rfl, rfl, hso, rfl, hkk, hp⟩ | ⟨rfl, he0⟩
 case inr =>
  have HE0 := hid he0
  have e0 := fail_ne he0
  clear he0
  unfold failV nodeV
  go_wp2_with fail
  have hbe := (HB64.out.self2 (.int .i64 (i : Int)) (.int .i64 (er : Int))).alloc (.cells #[.int .i64 n4.kind, .string ⟨n4.text.toArray⟩, .int .i64 n4.cols, .slice A4 n4.kids.length cp4] 26)
  have hbr := (HBR4.out.far2 (L := w.heap.size) (g := w2.heap.size) (by have := HS2.out; omega) (.int .i64 (i : Int)) (.int .i64 (er : Int))).alloc (.cells #[.int .i64 n4.kind, .string ⟨n4.text.toArray⟩, .int .i64 n4.cols, .slice A4 n4.kids.length cp4] 26)
  have hmr : Mp c.g c.W0.heap.size w _ := (HM4.out.put2 (g := w2.heap.size) (.inr (by have := HS2.out; omega)) (.int .i64 (i : Int)) (.int .i64 (er : Int))).alloc (.cells #[.int .i64 n4.kind, .string ⟨n4.text.toArray⟩, .int .i64 n4.cols, .slice A4 n4.kids.length cp4] 26)
  simp only [put2] at hbe hbr hmr
  generalize (World.setCell (World.setCell w4 ⟨w2.heap.size, 0, none⟩ _) ⟨w2.heap.size, 1, none⟩ _).alloc _ = W5 at hbe hbr hmr ⊢
  clear q0 q1 z0 z1 hlt3
  have r0 := cell_regrown (hbe.cell 0 |>.trans rfl)
  have r1 := cell_regrown (hbe.cell 1 |>.trans rfl)
  have hlt3 := hbe.lt
  have HBR := hid hbr
  have HMR := hid hmr
  clear hbe hbr hmr
  refine wp_region_mix [([(0, true), (1, true)], 2)] [] (by kernel_rfl) (fun _ _ d _ _ h => by cases d <;> exact h) (by kernel_rfl) ?_
  refine wpMix_seg ?_
  repeat (refine wpSeq_plain rfl (fun K hK => ?_); go_simp; refine hK _ ?_; clear hK K)
  obtain ⟨p0, p1, y0, y1, hlt⟩ := Blk.two (HBR.out.drewN 1)
  refine wpSeq_shut rfl (fun K hK => ?_)
  go_wp2_with fail
  refine wpMix_end ?_
  go_wp2_with fail
  have hb5 : Blk _ (w.heap.size) 56 #[.int .i64 (i : Int), .int .i64 (er : Int)] := ((HBR.out.drewN 1).put 0 (.int .i64 (i : Int))).put 1 (.int .i64 (er : Int))
  have hm5 := ((HMR.out.drewN 1).setCell (p := ⟨w.heap.size, 0, none⟩) (.inr (by show w.heap.size ≤ w.heap.size; omega)) (.int .i64 (i : Int))).setCell (p := ⟨w.heap.size, 1, none⟩) (.inr (by show w.heap.size ≤ w.heap.size; omega)) (.int .i64 (er : Int))
  obtain ⟨f0, f1, _⟩ := Blk.two hb5
  (try simp only [Exit.inBlock, Exit.then])
  refine bodyPost_ret (v := .tuple #[.slice none 0 0, failV i er]) (by simp [failV, results, Tryz.results75, go_sem, f0, f1]) rfl ?_
  exact HQ.out _ _ ⟨HE0.out, none, 0, 0, rfl, hm5⟩
 have HSO4 := hid hso
 have HKk2 := hid hkk
 have HP4 := hid hp
 clear hso hkk hp
 (try simp only [R.bind_ok] at HNE HQ ⊢); (try simp only [Option.isSome_none] at HNE HQ ⊢); (try simp only [Option.isSome_some] at HNE HQ ⊢); (try simp only [Option.isNone_none] at HNE HQ ⊢); (try simp only [Option.isNone_some] at HNE HQ ⊢); (try simp only [Bool.false_and] at HNE HQ ⊢); (try simp only [Bool.true_and] at HNE HQ ⊢); (try simp only [Bool.and_true] at HNE HQ ⊢); (try simp only [Bool.and_false] at HNE HQ ⊢); (try simp only [if_true] at HNE HQ ⊢); (try simp only [Bool.false_eq_true] at HNE HQ ⊢); (try simp only [if_false] at HNE HQ ⊢)
 unfold failV nodeV
 go_wp2_with fail
 have es : (put2 w4 w2.heap.size (.int .i64 0) (.int .i64 0)).heap.size = w4.heap.size := by simp [put2]
 have hb6 := (HB64.out.self2 (.int .i64 0) (.int .i64 0)).alloc (.cells #[.int .i64 n4.kind, .string ⟨n4.text.toArray⟩, .int .i64 n4.cols, .slice A4 n4.kids.length cp4] 26)
 have hbr := (HBR4.out.far2 (L := w.heap.size) (g := w2.heap.size) (by have := HS2.out; omega) (.int .i64 0) (.int .i64 0)).alloc (.cells #[.int .i64 n4.kind, .string ⟨n4.text.toArray⟩, .int .i64 n4.cols, .slice A4 n4.kids.length cp4] 26)
 have hbn := Blk.new (put2 w4 w2.heap.size (.int .i64 0) (.int .i64 0)) 26 #[.int .i64 n4.kind, .string ⟨n4.text.toArray⟩, .int .i64 n4.cols, .slice A4 n4.kids.length cp4]
 rw [es] at hbn
 have hc : Mp c.g c.W0.heap.size w2 ((put2 w4 w2.heap.size (.int .i64 0) (.int .i64 0)).alloc (.cells #[.int .i64 n4.kind, .string ⟨n4.text.toArray⟩, .int .i64 n4.cols, .slice A4 n4.kids.length cp4] 26)) := (HC4.out.put2 (g := w2.heap.size) (.inr (Nat.le_refl _)) (.int .i64 0) (.int .i64 0)).alloc (.cells #[.int .i64 n4.kind, .string ⟨n4.text.toArray⟩, .int .i64 n4.cols, .slice A4 n4.kids.length cp4] 26)
 have hm : Mp c.g c.W0.heap.size w ((put2 w4 w2.heap.size (.int .i64 0) (.int .i64 0)).alloc (.cells #[.int .i64 n4.kind, .string ⟨n4.text.toArray⟩, .int .i64 n4.cols, .slice A4 n4.kids.length cp4] 26)) := (HM4.out.put2 (g := w2.heap.size) (.inr (by have := HS2.out; omega)) (.int .i64 0) (.int .i64 0)).alloc (.cells #[.int .i64 n4.kind, .string ⟨n4.text.toArray⟩, .int .i64 n4.cols, .slice A4 n4.kids.length cp4] 26)
 have hp5 : Ps c k2 op ((put2 w4 w2.heap.size (.int .i64 0) (.int .i64 0)).alloc (.cells #[.int .i64 n4.kind, .string ⟨n4.text.toArray⟩, .int .i64 n4.cols, .slice A4 n4.kids.length cp4] 26)) := (HP4.out.put2 HB64.out (by decide) (by have := HS2.out; omega) (by have := HS2.out; have := HW0.out; omega) (.int .i64 0) (.int .i64 0)).fresh ((Touch.refl _ _).alloc (.cells #[.int .i64 n4.kind, .string ⟨n4.text.toArray⟩, .int .i64 n4.cols, .slice A4 n4.kids.length cp4] 26))
 have ht5 : ∀ B ks v, TreT B w4 ks v → TreT B ((put2 w4 w2.heap.size (.int .i64 0) (.int .i64 0)).alloc (.cells #[.int .i64 n4.kind, .string ⟨n4.text.toArray⟩, .int .i64 n4.cols, .slice A4 n4.kids.length cp4] 26)) ks v := fun B ks v h => (h.other HB64.out (by decide) (touch2 w4 w2.heap.size (.int .i64 0) (.int .i64 0))).fresh ((Touch.refl _ _).alloc (.cells #[.int .i64 n4.kind, .string ⟨n4.text.toArray⟩, .int .i64 n4.cols, .slice A4 n4.kids.length cp4] 26))
 have hz5 : w4.heap.size < ((put2 w4 w2.heap.size (.int .i64 0) (.int .i64 0)).alloc (.cells #[.int .i64 n4.kind, .string ⟨n4.text.toArray⟩, .int .i64 n4.cols, .slice A4 n4.kids.length cp4] 26)).heap.size := by simp [put2]
 simp only [put2] at hb6 hbr hbn hc hm hp5 ht5 hz5 
 generalize (World.setCell (World.setCell w4 ⟨w2.heap.size, 0, none⟩ _) ⟨w2.heap.size, 1, none⟩ _).alloc _ = w5 at hb6 hbr hbn hc hm hp5 ht5 hz5  ⊢
 have HB65 := hid hb6
 have HBR5 := hid hbr
 have HB75 := hid hbn
 have HC5 := hid hc
 have HM5 := hid hm
 have HP5 := hid hp5
 have HX5 := hid ht5
 have HY5 := hid hz5
 clear hb6 hbr hbn hc hm hp5 ht5 hz5  es q0 q1 z0 z1 hlt3
 refine (HSC.out k2 op 94 w5 HP5.out (by have := HOP.out; have := HK1.out; have := HKk2.out; omega) (fun h => HNE.out (by rw [h] <;> rfl))).mono ?_
 intro e w6 hres
 have hparts := hres.parts (fun h => HNE.out (by rw [h] <;> rfl))
 clear hres
 generalize pScript c.en f 94 op (c.T.drop k2) = X at HNE HQ hparts
 obtain ⟨n6, A6, cp6, th6, i, er, rfl, hm, hend⟩ := hparts
 have HD6 := hid hm
 have HB66 := hid (hm.blk HB65.out (by have := HS2.out; omega) (by decide))
 have HBR6 := hid (hm.blk HBR5.out (by omega) (by decide))
 have HC6 := hid (HC5.out.trans hm)
 have HM6 := hid (HM5.out.trans hm)
 have HS6 := hid (show w2.heap.size < w6.heap.size from HB66.out.lt)
 have HZ6 := hid (show w5.heap.size ≤ w6.heap.size from hm.size)
 have HB76 := hid (show Blk w6 w4.heap.size 26 #[.int .i64 n4.kind, .string ⟨n4.text.toArray⟩, .int .i64 n4.cols, .slice A4 n4.kids.length cp4] from hm.blk HB75.out (by have := HS4.out; have := HS2.out; omega) (by decide))
 clear hm
 obtain ⟨q0, q1, z0, z1, hlt3⟩ := Blk.two HB66.out
 rcases hend with ⟨so2, rest, k3, rfl, rfl, rfl, rfl, hso, rfl, hkk, hp⟩ | ⟨rfl, he0⟩
 case inr =>
  have HE0 := hid he0
  have e0 := fail_ne he0
  clear he0
  unfold failV nodeV
  go_wp2_with fail
  have hbe := (HB66.out.self2 (.int .i64 (i : Int)) (.int .i64 (er : Int))).alloc (.cells #[.int .i64 n6.kind, .string ⟨n6.text.toArray⟩, .int .i64 n6.cols, .slice A6 n6.kids.length cp6] 26)
  have hbr := (HBR6.out.far2 (L := w.heap.size) (g := w2.heap.size) (by have := HS2.out; omega) (.int .i64 (i : Int)) (.int .i64 (er : Int))).alloc (.cells #[.int .i64 n6.kind, .string ⟨n6.text.toArray⟩, .int .i64 n6.cols, .slice A6 n6.kids.length cp6] 26)
  have hmr : Mp c.g c.W0.heap.size w _ := (HM6.out.put2 (g := w2.heap.size) (.inr (by have := HS2.out; omega)) (.int .i64 (i : Int)) (.int .i64 (er : Int))).alloc (.cells #[.int .i64 n6.kind, .string ⟨n6.text.toArray⟩, .int .i64 n6.cols, .slice A6 n6.kids.length cp6] 26)
  simp only [put2] at hbe hbr hmr
  generalize (World.setCell (World.setCell w6 ⟨w2.heap.size, 0, none⟩ _) ⟨w2.heap.size, 1, none⟩ _).alloc _ = W5 at hbe hbr hmr ⊢
  clear q0 q1 z0 z1 hlt3
  have r0 := cell_regrown (hbe.cell 0 |>.trans rfl)
  have r1 := cell_regrown (hbe.cell 1 |>.trans rfl)
  have hlt3 := hbe.lt
  have HBR := hid hbr
  have HMR := hid hmr
  clear hbe hbr hmr
  refine wp_region_mix [([(0, true), (1, true)], 2)] [] (by kernel_rfl) (fun _ _ d _ _ h => by cases d <;> exact h) (by kernel_rfl) ?_
  refine wpMix_seg ?_
  repeat (refine wpSeq_plain rfl (fun K hK => ?_); go_simp; refine hK _ ?_; clear hK K)
  obtain ⟨p0, p1, y0, y1, hlt⟩ := Blk.two (HBR.out.drewN 1)
  refine wpSeq_shut rfl (fun K hK => ?_)
  go_wp2_with fail
  refine wpMix_end ?_
  go_wp2_with fail
  have hb5 : Blk _ (w.heap.size) 56 #[.int .i64 (i : Int), .int .i64 (er : Int)] := ((HBR.out.drewN 1).put 0 (.int .i64 (i : Int))).put 1 (.int .i64 (er : Int))
  have hm5 := ((HMR.out.drewN 1).setCell (p := ⟨w.heap.size, 0, none⟩) (.inr (by show w.heap.size ≤ w.heap.size; omega)) (.int .i64 (i : Int))).setCell (p := ⟨w.heap.size, 1, none⟩) (.inr (by show w.heap.size ≤ w.heap.size; omega)) (.int .i64 (er : Int))
  obtain ⟨f0, f1, _⟩ := Blk.two hb5
  (try simp only [Exit.inBlock, Exit.then])
  refine bodyPost_ret (v := .tuple #[.slice none 0 0, failV i er]) (by simp [failV, results, Tryz.results75, go_sem, f0, f1]) rfl ?_
  exact HQ.out _ _ ⟨HE0.out, none, 0, 0, rfl, hm5⟩
 have HY1 := hid (show w1.heap.size ≤ w1.heap.size from Nat.le_refl _)
 cases so1 with
 | none =>
  cases so2 with
  | none =>
   simp only [Np.scripts] at HQ
   cases gp with
   | true =>
    have HSO6 := hid hso
    have HKk3 := hid hkk
    have HP6 := hid hp
    clear hso hkk hp
    (try simp only [R.bind_ok] at HNE HQ ⊢); (try simp only [Option.isSome_none] at HNE HQ ⊢); (try simp only [Option.isSome_some] at HNE HQ ⊢); (try simp only [Option.isNone_none] at HNE HQ ⊢); (try simp only [Option.isNone_some] at HNE HQ ⊢); (try simp only [Bool.false_and] at HNE HQ ⊢); (try simp only [Bool.true_and] at HNE HQ ⊢); (try simp only [Bool.and_true] at HNE HQ ⊢); (try simp only [Bool.and_false] at HNE HQ ⊢); (try simp only [if_true] at HNE HQ ⊢); (try simp only [Bool.false_eq_true] at HNE HQ ⊢); (try simp only [if_false] at HNE HQ ⊢)
    unfold failV nodeV
    go_wp2_with fail
    have es : (put2 w6 w2.heap.size (.int .i64 0) (.int .i64 0)).heap.size = w6.heap.size := by simp [put2]
    have hb6 := (HB66.out.self2 (.int .i64 0) (.int .i64 0)).alloc (.cells #[.int .i64 n6.kind, .string ⟨n6.text.toArray⟩, .int .i64 n6.cols, .slice A6 n6.kids.length cp6] 26)
    have hbr := (HBR6.out.far2 (L := w.heap.size) (g := w2.heap.size) (by have := HS2.out; omega) (.int .i64 0) (.int .i64 0)).alloc (.cells #[.int .i64 n6.kind, .string ⟨n6.text.toArray⟩, .int .i64 n6.cols, .slice A6 n6.kids.length cp6] 26)
    have hbn := Blk.new (put2 w6 w2.heap.size (.int .i64 0) (.int .i64 0)) 26 #[.int .i64 n6.kind, .string ⟨n6.text.toArray⟩, .int .i64 n6.cols, .slice A6 n6.kids.length cp6]
    rw [es] at hbn
    have hc : Mp c.g c.W0.heap.size w2 ((put2 w6 w2.heap.size (.int .i64 0) (.int .i64 0)).alloc (.cells #[.int .i64 n6.kind, .string ⟨n6.text.toArray⟩, .int .i64 n6.cols, .slice A6 n6.kids.length cp6] 26)) := (HC6.out.put2 (g := w2.heap.size) (.inr (Nat.le_refl _)) (.int .i64 0) (.int .i64 0)).alloc (.cells #[.int .i64 n6.kind, .string ⟨n6.text.toArray⟩, .int .i64 n6.cols, .slice A6 n6.kids.length cp6] 26)
    have hm : Mp c.g c.W0.heap.size w ((put2 w6 w2.heap.size (.int .i64 0) (.int .i64 0)).alloc (.cells #[.int .i64 n6.kind, .string ⟨n6.text.toArray⟩, .int .i64 n6.cols, .slice A6 n6.kids.length cp6] 26)) := (HM6.out.put2 (g := w2.heap.size) (.inr (by have := HS2.out; omega)) (.int .i64 0) (.int .i64 0)).alloc (.cells #[.int .i64 n6.kind, .string ⟨n6.text.toArray⟩, .int .i64 n6.cols, .slice A6 n6.kids.length cp6] 26)
    have hp5 : Ps c k3 op ((put2 w6 w2.heap.size (.int .i64 0) (.int .i64 0)).alloc (.cells #[.int .i64 n6.kind, .string ⟨n6.text.toArray⟩, .int .i64 n6.cols, .slice A6 n6.kids.length cp6] 26)) := (HP6.out.put2 HB66.out (by decide) (by have := HS2.out; omega) (by have := HS2.out; have := HW0.out; omega) (.int .i64 0) (.int .i64 0)).fresh ((Touch.refl _ _).alloc (.cells #[.int .i64 n6.kind, .string ⟨n6.text.toArray⟩, .int .i64 n6.cols, .slice A6 n6.kids.length cp6] 26))
    have ht5 : ∀ B ks v, TreT B w6 ks v → TreT B ((put2 w6 w2.heap.size (.int .i64 0) (.int .i64 0)).alloc (.cells #[.int .i64 n6.kind, .string ⟨n6.text.toArray⟩, .int .i64 n6.cols, .slice A6 n6.kids.length cp6] 26)) ks v := fun B ks v h => (h.other HB66.out (by decide) (touch2 w6 w2.heap.size (.int .i64 0) (.int .i64 0))).fresh ((Touch.refl _ _).alloc (.cells #[.int .i64 n6.kind, .string ⟨n6.text.toArray⟩, .int .i64 n6.cols, .slice A6 n6.kids.length cp6] 26))
    have hz5 : w6.heap.size < ((put2 w6 w2.heap.size (.int .i64 0) (.int .i64 0)).alloc (.cells #[.int .i64 n6.kind, .string ⟨n6.text.toArray⟩, .int .i64 n6.cols, .slice A6 n6.kids.length cp6] 26)).heap.size := by simp [put2]
    have HB7o := (HB76.out.far2 (L := w4.heap.size) (g := w2.heap.size) (by have := HS4.out; omega) (.int .i64 0) (.int .i64 0)).alloc (.cells #[.int .i64 n6.kind, .string ⟨n6.text.toArray⟩, .int .i64 n6.cols, .slice A6 n6.kids.length cp6] 26)
    simp only [put2] at hb6 hbr hbn hc hm hp5 ht5 hz5 HB7o
    generalize (World.setCell (World.setCell w6 ⟨w2.heap.size, 0, none⟩ _) ⟨w2.heap.size, 1, none⟩ _).alloc _ = w7 at hb6 hbr hbn hc hm hp5 ht5 hz5 HB7o ⊢
    have HB67 := hid hb6
    have HBR7 := hid hbr
    have HB97 := hid hbn
    have HC7 := hid hc
    have HM7 := hid hm
    have HP7 := hid hp5
    have HX7 := hid ht5
    have HY7 := hid hz5
    have HB77 := hid HB7o
    clear hb6 hbr hbn hc hm hp5 ht5 hz5 HB7o es q0 q1 z0 z1 hlt3
    refine (HR.out k3 w7 HP7.out).mono ?_
    rintro _ w9 ⟨rfl, hf⟩
    have HM3' := hid (HM7.out.fr hf)
    have HBF3 := hid (hf.blk HBR7.out fun h => h)
    (try simp only [Np.refuse] at HQ)
    clear hf
    clear HM3
    have HM3 := HM3'
    generalize Np.place c.en (c.T.drop k3) = pl at HQ ⊢
    obtain ⟨q0, q1, z0, z1, hlt3⟩ := Blk.two HBF3.out
    (try unfold failV)
    go_wp2_with fail
    have n1 := HBF3.out.self2 (.int .i64 (pl : Int)) (.int .i64 3)
    have hm4 : Mp c.g c.W0.heap.size w (put2 w9 (w.heap.size) (.int .i64 (pl : Int)) (.int .i64 3)) := HM3.out.put2 (g := w.heap.size) (.inr (by omega)) (.int .i64 (pl : Int)) (.int .i64 3)
    have ht4 := touch2 w9 (w.heap.size) (.int .i64 (pl : Int)) (.int .i64 3)
    simp only [put2] at n1 hm4 ht4
    generalize (World.setCell (World.setCell w9 ⟨w.heap.size, 0, none⟩ _) ⟨w.heap.size, 1, none⟩ _) = W4 at n1 hm4 ht4 ⊢
    obtain ⟨f0, f1, _⟩ := Blk.two n1
    (try simp only [Exit.inBlock, Exit.then])
    refine bodyPost_ret (v := .tuple #[.slice none 0 0, failV pl 3]) (by simp [failV, results, Tryz.results75, go_sem, f0, f1]) rfl ?_
    exact HQ.out _ _ ⟨by decide, none, 0, 0, rfl, hm4⟩
   | false =>
    have HKk3 := hid hkk
    have HP6 := hid hp
    clear hso hkk hp
    (try simp only [R.bind_ok] at HNE HQ ⊢); (try simp only [Option.isSome_none] at HNE HQ ⊢); (try simp only [Option.isSome_some] at HNE HQ ⊢); (try simp only [Option.isNone_none] at HNE HQ ⊢); (try simp only [Option.isNone_some] at HNE HQ ⊢); (try simp only [Bool.false_and] at HNE HQ ⊢); (try simp only [Bool.true_and] at HNE HQ ⊢); (try simp only [Bool.and_true] at HNE HQ ⊢); (try simp only [Bool.and_false] at HNE HQ ⊢); (try simp only [if_true] at HNE HQ ⊢); (try simp only [Bool.false_eq_true] at HNE HQ ⊢); (try simp only [if_false] at HNE HQ ⊢)
    obtain ⟨p0, p1, y0, y1, hlt0⟩ := Blk.two HBR6.out
    have hs2 := HS2.out
    unfold failV nodeV
    go_wp2_with fail
    have n6' := HB66.out.self2 (.int .i64 0) (.int .i64 0)
    have nr := HBR6.out.far2 (L := w.heap.size) (g := w2.heap.size) (by have := HS2.out; omega) (.int .i64 0) (.int .i64 0)
    have hps := ((HP6.out.put2 HB66.out (by decide) (by have := HS2.out; omega) (by have := HS2.out; have := HW0.out; omega) (.int .i64 0) (.int .i64 0)).put2 nr (by decide) (by omega) HW0.out (.int .i64 0) (.int .i64 0)).fresh ((Touch.refl _ _).alloc (.cells #[.int .i64 n6.kind, .string ⟨n6.text.toArray⟩, .int .i64 n6.cols, .slice A6 n6.kids.length cp6] 26))
    have ht := (((HT2.out.mp HC6.out HP2.out).other HB66.out (by decide) (touch2 w6 w2.heap.size (.int .i64 0) (.int .i64 0))).other nr (by decide) (touch2 _ w.heap.size (.int .i64 0) (.int .i64 0))).fresh ((Touch.refl _ _).alloc (.cells #[.int .i64 n6.kind, .string ⟨n6.text.toArray⟩, .int .i64 n6.cols, .slice A6 n6.kids.length cp6] 26))
    have hm8 : Mp c.g c.W0.heap.size w _ := ((HM6.out.put2 (g := w2.heap.size) (.inr (by have := HS2.out; omega)) (.int .i64 0) (.int .i64 0)).put2 (g := w.heap.size) (.inr (Nat.le_refl _)) (.int .i64 0) (.int .i64 0)).alloc (.cells #[.int .i64 n6.kind, .string ⟨n6.text.toArray⟩, .int .i64 n6.cols, .slice A6 n6.kids.length cp6] 26)
    have nr2 := (nr.self2 (.int .i64 0) (.int .i64 0)).alloc (.cells #[.int .i64 n6.kind, .string ⟨n6.text.toArray⟩, .int .i64 n6.cols, .slice A6 n6.kids.length cp6] 26)
    simp only [put2] at hps ht hm8 nr2
    obtain ⟨f0, f1, _⟩ := Blk.two nr2
    (try simp only [Exit.inBlock, Exit.then])
    refine bodyPost_ret (v := .tuple #[.slice A items.length cp, failV 0 0]) (by simp [failV, results, Tryz.results75, go_sem, f0, f1]) rfl ?_
    exact HQ.out _ _ ⟨A, cp, k3, rfl, ht.base HF1.out.size, rfl, by have := HK1.out; have := HKk2.out; have := HKk3.out; omega, hps, hm8⟩
  | some a2 =>
   have HSO6 := hid hso
   have HKk3 := hid hkk
   have HP6 := hid hp
   clear hso hkk hp
   (try simp only [R.bind_ok] at HNE HQ ⊢); (try simp only [Option.isSome_none] at HNE HQ ⊢); (try simp only [Option.isSome_some] at HNE HQ ⊢); (try simp only [Option.isNone_none] at HNE HQ ⊢); (try simp only [Option.isNone_some] at HNE HQ ⊢); (try simp only [Bool.false_and] at HNE HQ ⊢); (try simp only [Bool.true_and] at HNE HQ ⊢); (try simp only [Bool.and_true] at HNE HQ ⊢); (try simp only [Bool.and_false] at HNE HQ ⊢); (try simp only [if_true] at HNE HQ ⊢); (try simp only [Bool.false_eq_true] at HNE HQ ⊢); (try simp only [if_false] at HNE HQ ⊢)
   unfold failV nodeV
   go_wp2_with fail
   have es : (put2 w6 w2.heap.size (.int .i64 0) (.int .i64 0)).heap.size = w6.heap.size := by simp [put2]
   have hb6 := (HB66.out.self2 (.int .i64 0) (.int .i64 0)).alloc (.cells #[.int .i64 n6.kind, .string ⟨n6.text.toArray⟩, .int .i64 n6.cols, .slice A6 n6.kids.length cp6] 26)
   have hbr := (HBR6.out.far2 (L := w.heap.size) (g := w2.heap.size) (by have := HS2.out; omega) (.int .i64 0) (.int .i64 0)).alloc (.cells #[.int .i64 n6.kind, .string ⟨n6.text.toArray⟩, .int .i64 n6.cols, .slice A6 n6.kids.length cp6] 26)
   have hbn := Blk.new (put2 w6 w2.heap.size (.int .i64 0) (.int .i64 0)) 26 #[.int .i64 n6.kind, .string ⟨n6.text.toArray⟩, .int .i64 n6.cols, .slice A6 n6.kids.length cp6]
   rw [es] at hbn
   have hc : Mp c.g c.W0.heap.size w2 ((put2 w6 w2.heap.size (.int .i64 0) (.int .i64 0)).alloc (.cells #[.int .i64 n6.kind, .string ⟨n6.text.toArray⟩, .int .i64 n6.cols, .slice A6 n6.kids.length cp6] 26)) := (HC6.out.put2 (g := w2.heap.size) (.inr (Nat.le_refl _)) (.int .i64 0) (.int .i64 0)).alloc (.cells #[.int .i64 n6.kind, .string ⟨n6.text.toArray⟩, .int .i64 n6.cols, .slice A6 n6.kids.length cp6] 26)
   have hm : Mp c.g c.W0.heap.size w ((put2 w6 w2.heap.size (.int .i64 0) (.int .i64 0)).alloc (.cells #[.int .i64 n6.kind, .string ⟨n6.text.toArray⟩, .int .i64 n6.cols, .slice A6 n6.kids.length cp6] 26)) := (HM6.out.put2 (g := w2.heap.size) (.inr (by have := HS2.out; omega)) (.int .i64 0) (.int .i64 0)).alloc (.cells #[.int .i64 n6.kind, .string ⟨n6.text.toArray⟩, .int .i64 n6.cols, .slice A6 n6.kids.length cp6] 26)
   have hp5 : Ps c k3 op ((put2 w6 w2.heap.size (.int .i64 0) (.int .i64 0)).alloc (.cells #[.int .i64 n6.kind, .string ⟨n6.text.toArray⟩, .int .i64 n6.cols, .slice A6 n6.kids.length cp6] 26)) := (HP6.out.put2 HB66.out (by decide) (by have := HS2.out; omega) (by have := HS2.out; have := HW0.out; omega) (.int .i64 0) (.int .i64 0)).fresh ((Touch.refl _ _).alloc (.cells #[.int .i64 n6.kind, .string ⟨n6.text.toArray⟩, .int .i64 n6.cols, .slice A6 n6.kids.length cp6] 26))
   have ht5 : ∀ B ks v, TreT B w6 ks v → TreT B ((put2 w6 w2.heap.size (.int .i64 0) (.int .i64 0)).alloc (.cells #[.int .i64 n6.kind, .string ⟨n6.text.toArray⟩, .int .i64 n6.cols, .slice A6 n6.kids.length cp6] 26)) ks v := fun B ks v h => (h.other HB66.out (by decide) (touch2 w6 w2.heap.size (.int .i64 0) (.int .i64 0))).fresh ((Touch.refl _ _).alloc (.cells #[.int .i64 n6.kind, .string ⟨n6.text.toArray⟩, .int .i64 n6.cols, .slice A6 n6.kids.length cp6] 26))
   have hz5 : w6.heap.size < ((put2 w6 w2.heap.size (.int .i64 0) (.int .i64 0)).alloc (.cells #[.int .i64 n6.kind, .string ⟨n6.text.toArray⟩, .int .i64 n6.cols, .slice A6 n6.kids.length cp6] 26)).heap.size := by simp [put2]
   have HB7o := (HB76.out.far2 (L := w4.heap.size) (g := w2.heap.size) (by have := HS4.out; omega) (.int .i64 0) (.int .i64 0)).alloc (.cells #[.int .i64 n6.kind, .string ⟨n6.text.toArray⟩, .int .i64 n6.cols, .slice A6 n6.kids.length cp6] 26)
   simp only [put2] at hb6 hbr hbn hc hm hp5 ht5 hz5 HB7o
   generalize (World.setCell (World.setCell w6 ⟨w2.heap.size, 0, none⟩ _) ⟨w2.heap.size, 1, none⟩ _).alloc _ = w7 at hb6 hbr hbn hc hm hp5 ht5 hz5 HB7o ⊢
   have HB67 := hid hb6
   have HBR7 := hid hbr
   have HB97 := hid hbn
   have HC7 := hid hc
   have HM7 := hid hm
   have HP7 := hid hp5
   have HX7 := hid ht5
   have HY7 := hid hz5
   have HB77 := hid HB7o
   clear hb6 hbr hbn hc hm hp5 ht5 hz5 HB7o es q0 q1 z0 z1 hlt3
   obtain ⟨ha, htr2, htx2⟩ := HSO6.out rfl
   cases ha
   have HR2 := hid htr2
   have HRX2 := hid htx2
   clear htr2 htx2
   refine (HSC.out k3 op 95 w7 HP7.out (by have := HOP.out; have := HK1.out; have := HKk2.out; have := HKk3.out; omega) (fun h => HNE.out (by rw [h] <;> rfl))).mono ?_
   intro e w8 hres
   have hparts := hres.parts (fun h => HNE.out (by rw [h] <;> rfl))
   clear hres
   generalize pScript c.en f 95 op (c.T.drop k3) = X at HNE HQ hparts
   obtain ⟨n8, A8, cp8, th8, i, er, rfl, hm, hend⟩ := hparts
   have HD8 := hid hm
   have HB68 := hid (hm.blk HB67.out (by have := HS2.out; omega) (by decide))
   have HBR8 := hid (hm.blk HBR7.out (by omega) (by decide))
   have HC8 := hid (HC7.out.trans hm)
   have HM8 := hid (HM7.out.trans hm)
   have HS8 := hid (show w2.heap.size < w8.heap.size from HB68.out.lt)
   have HZ8 := hid (show w7.heap.size ≤ w8.heap.size from hm.size)
   have HB78 := hid (show Blk w8 w4.heap.size 26 #[.int .i64 n4.kind, .string ⟨n4.text.toArray⟩, .int .i64 n4.cols, .slice A4 n4.kids.length cp4] from hm.blk HB77.out (by have := HS4.out; have := HS2.out; omega) (by decide))
   have HB98 := hid (show Blk w8 w6.heap.size 26 #[.int .i64 n6.kind, .string ⟨n6.text.toArray⟩, .int .i64 n6.cols, .slice A6 n6.kids.length cp6] from hm.blk HB97.out (by have := HS6.out; have := HS2.out; omega) (by decide))
   clear hm
   obtain ⟨q0, q1, z0, z1, hlt3⟩ := Blk.two HB68.out
   have hs4 := HS4.out
   obtain ⟨p0, p1, p2, p3, y0, y1, y2, y3, hlt7⟩ := Blk.four HB78.out
   rcases hend with ⟨so3, rest, k4, rfl, rfl, rfl, rfl, hso, rfl, hkk, hp⟩ | ⟨rfl, he0⟩
   case inr =>
    have HE0 := hid he0
    have e0 := fail_ne he0
    clear he0
    unfold failV nodeV
    go_wp2_with fail
    have hbe := (HB68.out.far4 (L := w2.heap.size) (g := w4.heap.size) (by have := HS4.out; omega) (.int .i64 n8.kind) (.string ⟨n8.text.toArray⟩) (.int .i64 n8.cols) (.slice A8 n8.kids.length cp8)).self2 (.int .i64 (i : Int)) (.int .i64 (er : Int))
    have hbr := (HBR8.out.far4 (L := w.heap.size) (g := w4.heap.size) (by have := HS4.out; have := HS2.out; omega) (.int .i64 n8.kind) (.string ⟨n8.text.toArray⟩) (.int .i64 n8.cols) (.slice A8 n8.kids.length cp8)).far2 (L := w.heap.size) (g := w2.heap.size) (by have := HS2.out; omega) (.int .i64 (i : Int)) (.int .i64 (er : Int))
    have hmr : Mp c.g c.W0.heap.size w _ := (HM8.out.put4 (g := w4.heap.size) (.inr (by have := HS4.out; have := HS2.out; omega)) (.int .i64 n8.kind) (.string ⟨n8.text.toArray⟩) (.int .i64 n8.cols) (.slice A8 n8.kids.length cp8)).put2 (g := w2.heap.size) (.inr (by have := HS2.out; omega)) (.int .i64 (i : Int)) (.int .i64 (er : Int))
    simp only [put2, put4] at hbe hbr hmr
    generalize World.setCell (World.setCell _ ⟨w2.heap.size, 0, none⟩ _) ⟨w2.heap.size, 1, none⟩ _ = W5 at hbe hbr hmr ⊢
    clear q0 q1 z0 z1 hlt3 p0 p1 p2 p3 y0 y1 y2 y3 hlt7
    have r0 := cell_regrown (hbe.cell 0 |>.trans rfl)
    have r1 := cell_regrown (hbe.cell 1 |>.trans rfl)
    have hlt3 := hbe.lt
    have HBR := hid hbr
    have HMR := hid hmr
    clear hbe hbr hmr
    refine wp_region_mix [([(0, true), (1, true)], 2)] [] (by kernel_rfl) (fun _ _ d _ _ h => by cases d <;> exact h) (by kernel_rfl) ?_
    refine wpMix_seg ?_
    repeat (refine wpSeq_plain rfl (fun K hK => ?_); go_simp; refine hK _ ?_; clear hK K)
    obtain ⟨p0, p1, y0, y1, hlt⟩ := Blk.two (HBR.out.drewN 1)
    refine wpSeq_shut rfl (fun K hK => ?_)
    go_wp2_with fail
    refine wpMix_end ?_
    go_wp2_with fail
    have hb5 : Blk _ (w.heap.size) 56 #[.int .i64 (i : Int), .int .i64 (er : Int)] := ((HBR.out.drewN 1).put 0 (.int .i64 (i : Int))).put 1 (.int .i64 (er : Int))
    have hm5 := ((HMR.out.drewN 1).setCell (p := ⟨w.heap.size, 0, none⟩) (.inr (by show w.heap.size ≤ w.heap.size; omega)) (.int .i64 (i : Int))).setCell (p := ⟨w.heap.size, 1, none⟩) (.inr (by show w.heap.size ≤ w.heap.size; omega)) (.int .i64 (er : Int))
    obtain ⟨f0, f1, _⟩ := Blk.two hb5
    (try simp only [Exit.inBlock, Exit.then])
    refine bodyPost_ret (v := .tuple #[.slice none 0 0, failV i er]) (by simp [failV, results, Tryz.results75, go_sem, f0, f1]) rfl ?_
    exact HQ.out _ _ ⟨HE0.out, none, 0, 0, rfl, hm5⟩
   cases so3 with
   | none =>
    have HSO8 := hid hso
    have HKk4 := hid hkk
    have HP8 := hid hp
    clear hso hkk hp
    (try simp only [R.bind_ok] at HNE HQ ⊢); (try simp only [Option.isSome_none] at HNE HQ ⊢); (try simp only [Option.isSome_some] at HNE HQ ⊢); (try simp only [Option.isNone_none] at HNE HQ ⊢); (try simp only [Option.isNone_some] at HNE HQ ⊢); (try simp only [Bool.false_and] at HNE HQ ⊢); (try simp only [Bool.true_and] at HNE HQ ⊢); (try simp only [Bool.and_true] at HNE HQ ⊢); (try simp only [Bool.and_false] at HNE HQ ⊢); (try simp only [if_true] at HNE HQ ⊢); (try simp only [Bool.false_eq_true] at HNE HQ ⊢); (try simp only [if_false] at HNE HQ ⊢)
    simp only [Np.scripts] at HQ
    unfold failV nodeV
    go_wp2_with fail
    have hb6' := HB68.out.far4 (L := w2.heap.size) (g := w4.heap.size) (by have := HS4.out; omega) (.int .i64 n8.kind) (.string ⟨n8.text.toArray⟩) (.int .i64 n8.cols) (.slice A8 n8.kids.length cp8)
    have hb6 := hb6'.self2 (.int .i64 0) (.int .i64 0)
    have hbr := (HBR8.out.far4 (L := w.heap.size) (g := w4.heap.size) (by have := HS4.out; have := HS2.out; omega) (.int .i64 n8.kind) (.string ⟨n8.text.toArray⟩) (.int .i64 n8.cols) (.slice A8 n8.kids.length cp8)).far2 (L := w.heap.size) (g := w2.heap.size) (by have := HS2.out; omega) (.int .i64 0) (.int .i64 0)
    have hb7 := (HB78.out.self4 (.int .i64 n8.kind) (.string ⟨n8.text.toArray⟩) (.int .i64 n8.cols) (.slice A8 n8.kids.length cp8)).far2 (L := w4.heap.size) (g := w2.heap.size) (by have := HS4.out; omega) (.int .i64 0) (.int .i64 0)
    have hb9 := (HB98.out.far4 (L := w6.heap.size) (g := w4.heap.size) (by have := HY5.out; have := HZ6.out; omega) (.int .i64 n8.kind) (.string ⟨n8.text.toArray⟩) (.int .i64 n8.cols) (.slice A8 n8.kids.length cp8)).far2 (L := w6.heap.size) (g := w2.heap.size) (by have := HS6.out; omega) (.int .i64 0) (.int .i64 0)
    have hc : Mp c.g c.W0.heap.size w2 _ := (HC8.out.put4 (g := w4.heap.size) (.inr (by have := HS4.out; omega)) (.int .i64 n8.kind) (.string ⟨n8.text.toArray⟩) (.int .i64 n8.cols) (.slice A8 n8.kids.length cp8)).put2 (g := w2.heap.size) (.inr (Nat.le_refl _)) (.int .i64 0) (.int .i64 0)
    have hm : Mp c.g c.W0.heap.size w _ := (HM8.out.put4 (g := w4.heap.size) (.inr (by have := HS4.out; have := HS2.out; omega)) (.int .i64 n8.kind) (.string ⟨n8.text.toArray⟩) (.int .i64 n8.cols) (.slice A8 n8.kids.length cp8)).put2 (g := w2.heap.size) (.inr (by have := HS2.out; omega)) (.int .i64 0) (.int .i64 0)
    have hp5 : Ps c k4 op _ := (HP8.out.put4 HB78.out (by decide) (by have := HS4.out; have := HS2.out; omega) (by have := HS4.out; have := HS2.out; have := HW0.out; omega) (.int .i64 n8.kind) (.string ⟨n8.text.toArray⟩) (.int .i64 n8.cols) (.slice A8 n8.kids.length cp8)).put2 hb6' (by decide) (by have := HS2.out; omega) (by have := HS2.out; have := HW0.out; omega) (.int .i64 0) (.int .i64 0)
    have ht5 : ∀ B ks v, w4.heap.size < B → TreT B w8 ks v → TreT B _ ks v := fun B ks v hB h => (h.far (touch4 w8 w4.heap.size (.int .i64 n8.kind) (.string ⟨n8.text.toArray⟩) (.int .i64 n8.cols) (.slice A8 n8.kids.length cp8)) hB).other hb6' (by decide) (touch2 _ w2.heap.size (.int .i64 0) (.int .i64 0))
    simp only [put2, put4] at hb6 hbr hb7 hb9 hc hm hp5 ht5
    generalize World.setCell (World.setCell _ ⟨w2.heap.size, 0, none⟩ _) ⟨w2.heap.size, 1, none⟩ _ = w9 at hb6 hbr hb7 hb9 hc hm hp5 ht5 ⊢
    have HB69 := hid hb6
    have HBR9 := hid hbr
    have HB79 := hid hb7
    have HB99 := hid hb9
    have HC9 := hid hc
    have HM9 := hid hm
    have HP9 := hid hp5
    have HX9 := hid ht5
    clear hb6 hb6' hbr hb7 hb9 hc hm hp5 ht5 q0 q1 z0 z1 hlt3 p0 p1 p2 p3 y0 y1 y2 y3 hlt7
    have HR29 := hid ((HX9.out _ _ _ HY5.out ((HX7.out _ _ _ HR2.out).mp HD8.out HP7.out)).base HM5.out.size)
    have htb := (HT2.out.mp HC9.out HP2.out).base (Nat.le_trans (Nat.le_trans HF1.out.size HY1.out) (Nat.le_refl _))
    have HTB := hid htb
    clear htb
    have HTI1 := hid (HR29.out)
    have HTX1 := hid (HRX2.out)
    have r00 := cell_regrown (HB99.out.cell 0 |>.trans rfl)
    have r01 := cell_regrown (HB99.out.cell 1 |>.trans rfl)
    have r02 := cell_regrown (HB99.out.cell 2 |>.trans rfl)
    have r03 := cell_regrown (HB99.out.cell 3 |>.trans rfl)
    have hl0 := HB99.out.lt
    refine wp_region_mix [([(0, true), (2, true), (6, true), (1, false), (3, false), (4, true), (5, false), (7, true)], 8)] [] (by kernel_rfl) (fun _ _ d _ _ h => by cases d <;> exact h) (by kernel_rfl) ?_
    refine wpMix_seg ?_
    repeat (refine wpSeq_plain rfl (fun K hK => ?_); go_simp; refine hK _ ?_; clear hK K)
    refine wpSeq_lone rfl (fun K hK => ?_)
    go_wp2_with fail
    refine (slot_any_n A items.length cp _).mono ?_
    rintro _ wx ⟨rfl, hf⟩
    have HFX := hid (show Fresh w9 wx from Touch.ofN hf)
    clear hf
    go_wp2_with fail
    refine hK _ _ (growing_fresh HFX.out) ?_
    clear hK K
    refine wpSeq_lone rfl (fun K hK => ?_)
    go_wp2_with fail
    refine hK _ _ (growing_fresh (HFX.out.alloc _)) ?_
    clear hK K
    repeat (refine wpSeq_plain rfl (fun K hK => ?_); go_simp; refine hK _ ?_; clear hK K)
    refine wpSeq_lone rfl (fun K hK => ?_)
    go_wp2_with fail
    refine hK _ _ (growing_fresh ((HFX.out.alloc _).alloc _)) ?_
    clear hK K
    repeat (refine wpSeq_plain rfl (fun K hK => ?_); go_simp; refine hK _ ?_; clear hK K)
    have hB : w.heap.size ≤ wx.heap.size := Nat.le_trans HM9.out.size HFX.out.size
    have ht7 : TreT w.heap.size ((wx.alloc (.cells #[.int .i64 1, .string ⟨#[]⟩, .int .i64 0, .slice A items.length cp, .int .i64 n6.kind, .string ⟨n6.text.toArray⟩, .int .i64 n6.cols, .slice A6 n6.kids.length cp6] 26)).alloc (.cells #[.int .i64 8, .string ⟨#[]⟩, .int .i64 0, .slice (some ⟨wx.heap.size, 0, none⟩) 2 2] 26)) [Nd.mk 8 [] 0 [Np.slot items, n6]] (.slice (some ⟨(wx.alloc (.cells #[.int .i64 1, .string ⟨#[]⟩, .int .i64 0, .slice A items.length cp, .int .i64 n6.kind, .string ⟨n6.text.toArray⟩, .int .i64 n6.cols, .slice A6 n6.kids.length cp6] 26)).heap.size, 0, none⟩) 1 1) :=
     TreT.lit (n := .mk 8 [] 0 [Np.slot items, n6]) (TreT.lit2 (n1 := Np.slot items) (HTB.out.fresh HFX.out) (HTI1.out.fresh HFX.out) hB (Nat.zero_le _) HTX1.out) (by simp; omega) (Nat.zero_le _)
    rw [show (wx.alloc (.cells #[.int .i64 1, .string ⟨#[]⟩, .int .i64 0, .slice A items.length cp, .int .i64 n6.kind, .string ⟨n6.text.toArray⟩, .int .i64 n6.cols, .slice A6 n6.kids.length cp6] 26)).heap.size = wx.heap.size + 1 by simp] at ht7
    have hf7 : Fresh w9 ((wx.alloc (.cells #[.int .i64 1, .string ⟨#[]⟩, .int .i64 0, .slice A items.length cp, .int .i64 n6.kind, .string ⟨n6.text.toArray⟩, .int .i64 n6.cols, .slice A6 n6.kids.length cp6] 26)).alloc (.cells #[.int .i64 8, .string ⟨#[]⟩, .int .i64 0, .slice (some ⟨wx.heap.size, 0, none⟩) 2 2] 26)) := (HFX.out.alloc (.cells #[.int .i64 1, .string ⟨#[]⟩, .int .i64 0, .slice A items.length cp, .int .i64 n6.kind, .string ⟨n6.text.toArray⟩, .int .i64 n6.cols, .slice A6 n6.kids.length cp6] 26)).alloc (.cells #[.int .i64 8, .string ⟨#[]⟩, .int .i64 0, .slice (some ⟨wx.heap.size, 0, none⟩) 2 2] 26)
    generalize ((wx.alloc (.cells #[.int .i64 1, .string ⟨#[]⟩, .int .i64 0, .slice A items.length cp, .int .i64 n6.kind, .string ⟨n6.text.toArray⟩, .int .i64 n6.cols, .slice A6 n6.kids.length cp6] 26)).alloc (.cells #[.int .i64 8, .string ⟨#[]⟩, .int .i64 0, .slice (some ⟨wx.heap.size, 0, none⟩) 2 2] 26)) = W7 at ht7 hf7 ⊢
    have HM7' := hid (HM9.out.fr hf7)
    have HB7' := hid (hf7.blk HBR9.out fun h => h)
    have HT7' := hid ht7
    have HP7' := hid (HP9.out.fresh hf7)
    clear ht7 hf7 hB
    clear r00 r01 r02 r03 hl0
    obtain ⟨p0, p1, y0, y1, hlt⟩ := Blk.two HB7'.out
    refine wpSeq_shut rfl (fun K hK => ?_)
    go_wp2_with fail
    refine wpMix_end ?_
    go_wp2_with fail
    have hb8 := HB7'.out.self2 (.int .i64 0) (.int .i64 0)
    have hm8 : Mp c.g c.W0.heap.size w (put2 W7 w.heap.size (.int .i64 0) (.int .i64 0)) := HM7'.out.put2 (g := w.heap.size) (.inr (Nat.le_refl _)) _ _
    have ht8 := touch2 W7 w.heap.size (.int .i64 0) (.int .i64 0)
    obtain ⟨f0, f1, _⟩ := Blk.two hb8
    have hps := HP7'.out.mv ht8 (fun b hb => by have := HW0.out; subst hb; exact ⟨by omega, by omega, _, _, (by decide), HB7'.out⟩)
    have htr8 := HT7'.out.other HB7'.out (by decide) ht8
    simp only [put2] at f0 f1 hm8 hps htr8
    (try simp only [Exit.inBlock, Exit.then])
    refine bodyPost_ret (v := .tuple #[.slice (some ⟨wx.heap.size + 1, 0, none⟩) 1 1, failV 0 0]) (by simp [failV, results, Tryz.results75, go_sem, f0, f1]) rfl ?_
    exact HQ.out _ _ ⟨_, 1, k4, rfl, htr8, rfl, by have := HK1.out; have := HKk2.out; have := HKk3.out; have := HKk4.out; omega, hps, hm8⟩
   | some a3 =>
    have HSO8 := hid hso
    have HKk4 := hid hkk
    have HP8 := hid hp
    clear hso hkk hp
    (try simp only [R.bind_ok] at HNE HQ ⊢); (try simp only [Option.isSome_none] at HNE HQ ⊢); (try simp only [Option.isSome_some] at HNE HQ ⊢); (try simp only [Option.isNone_none] at HNE HQ ⊢); (try simp only [Option.isNone_some] at HNE HQ ⊢); (try simp only [Bool.false_and] at HNE HQ ⊢); (try simp only [Bool.true_and] at HNE HQ ⊢); (try simp only [Bool.and_true] at HNE HQ ⊢); (try simp only [Bool.and_false] at HNE HQ ⊢); (try simp only [if_true] at HNE HQ ⊢); (try simp only [Bool.false_eq_true] at HNE HQ ⊢); (try simp only [if_false] at HNE HQ ⊢)
    simp only [Np.scripts] at HQ
    unfold failV nodeV
    go_wp2_with fail
    have hb6' := HB68.out.far4 (L := w2.heap.size) (g := w4.heap.size) (by have := HS4.out; omega) (.int .i64 n8.kind) (.string ⟨n8.text.toArray⟩) (.int .i64 n8.cols) (.slice A8 n8.kids.length cp8)
    have hb6 := hb6'.self2 (.int .i64 0) (.int .i64 0)
    have hbr := (HBR8.out.far4 (L := w.heap.size) (g := w4.heap.size) (by have := HS4.out; have := HS2.out; omega) (.int .i64 n8.kind) (.string ⟨n8.text.toArray⟩) (.int .i64 n8.cols) (.slice A8 n8.kids.length cp8)).far2 (L := w.heap.size) (g := w2.heap.size) (by have := HS2.out; omega) (.int .i64 0) (.int .i64 0)
    have hb7 := (HB78.out.self4 (.int .i64 n8.kind) (.string ⟨n8.text.toArray⟩) (.int .i64 n8.cols) (.slice A8 n8.kids.length cp8)).far2 (L := w4.heap.size) (g := w2.heap.size) (by have := HS4.out; omega) (.int .i64 0) (.int .i64 0)
    have hb9 := (HB98.out.far4 (L := w6.heap.size) (g := w4.heap.size) (by have := HY5.out; have := HZ6.out; omega) (.int .i64 n8.kind) (.string ⟨n8.text.toArray⟩) (.int .i64 n8.cols) (.slice A8 n8.kids.length cp8)).far2 (L := w6.heap.size) (g := w2.heap.size) (by have := HS6.out; omega) (.int .i64 0) (.int .i64 0)
    have hc : Mp c.g c.W0.heap.size w2 _ := (HC8.out.put4 (g := w4.heap.size) (.inr (by have := HS4.out; omega)) (.int .i64 n8.kind) (.string ⟨n8.text.toArray⟩) (.int .i64 n8.cols) (.slice A8 n8.kids.length cp8)).put2 (g := w2.heap.size) (.inr (Nat.le_refl _)) (.int .i64 0) (.int .i64 0)
    have hm : Mp c.g c.W0.heap.size w _ := (HM8.out.put4 (g := w4.heap.size) (.inr (by have := HS4.out; have := HS2.out; omega)) (.int .i64 n8.kind) (.string ⟨n8.text.toArray⟩) (.int .i64 n8.cols) (.slice A8 n8.kids.length cp8)).put2 (g := w2.heap.size) (.inr (by have := HS2.out; omega)) (.int .i64 0) (.int .i64 0)
    have hp5 : Ps c k4 op _ := (HP8.out.put4 HB78.out (by decide) (by have := HS4.out; have := HS2.out; omega) (by have := HS4.out; have := HS2.out; have := HW0.out; omega) (.int .i64 n8.kind) (.string ⟨n8.text.toArray⟩) (.int .i64 n8.cols) (.slice A8 n8.kids.length cp8)).put2 hb6' (by decide) (by have := HS2.out; omega) (by have := HS2.out; have := HW0.out; omega) (.int .i64 0) (.int .i64 0)
    have ht5 : ∀ B ks v, w4.heap.size < B → TreT B w8 ks v → TreT B _ ks v := fun B ks v hB h => (h.far (touch4 w8 w4.heap.size (.int .i64 n8.kind) (.string ⟨n8.text.toArray⟩) (.int .i64 n8.cols) (.slice A8 n8.kids.length cp8)) hB).other hb6' (by decide) (touch2 _ w2.heap.size (.int .i64 0) (.int .i64 0))
    simp only [put2, put4] at hb6 hbr hb7 hb9 hc hm hp5 ht5
    generalize World.setCell (World.setCell _ ⟨w2.heap.size, 0, none⟩ _) ⟨w2.heap.size, 1, none⟩ _ = w9 at hb6 hbr hb7 hb9 hc hm hp5 ht5 ⊢
    have HB69 := hid hb6
    have HBR9 := hid hbr
    have HB79 := hid hb7
    have HB99 := hid hb9
    have HC9 := hid hc
    have HM9 := hid hm
    have HP9 := hid hp5
    have HX9 := hid ht5
    clear hb6 hb6' hbr hb7 hb9 hc hm hp5 ht5 q0 q1 z0 z1 hlt3 p0 p1 p2 p3 y0 y1 y2 y3 hlt7
    have HR29 := hid ((HX9.out _ _ _ HY5.out ((HX7.out _ _ _ HR2.out).mp HD8.out HP7.out)).base HM5.out.size)
    obtain ⟨ha, htr3, htx3⟩ := HSO8.out rfl
    cases ha
    have HR3 := hid ((HX9.out _ _ _ (by have := HY5.out; have := HZ6.out; have := HY7.out; omega) htr3).base HM7.out.size)
    have HRX3 := hid htx3
    clear htr3 htx3
    have htb := (HT2.out.mp HC9.out HP2.out).base (Nat.le_trans (Nat.le_trans HF1.out.size HY1.out) (Nat.le_refl _))
    have HTB := hid htb
    clear htb
    have HTI1 := hid (HR3.out)
    have HTX1 := hid (HRX3.out)
    have HTI2 := hid (HR29.out)
    have HTX2 := hid (HRX2.out)
    have r00 := cell_regrown (HB79.out.cell 0 |>.trans rfl)
    have r01 := cell_regrown (HB79.out.cell 1 |>.trans rfl)
    have r02 := cell_regrown (HB79.out.cell 2 |>.trans rfl)
    have r03 := cell_regrown (HB79.out.cell 3 |>.trans rfl)
    have hl0 := HB79.out.lt
    have r10 := cell_regrown (HB99.out.cell 0 |>.trans rfl)
    have r11 := cell_regrown (HB99.out.cell 1 |>.trans rfl)
    have r12 := cell_regrown (HB99.out.cell 2 |>.trans rfl)
    have r13 := cell_regrown (HB99.out.cell 3 |>.trans rfl)
    have hl1 := HB99.out.lt
    refine wp_region_mix [([(0, true), (2, true), (3, true), (7, true), (1, false), (4, false), (5, true), (6, false), (8, true)], 9)] [] (by kernel_rfl) (fun _ _ d _ _ h => by cases d <;> exact h) (by kernel_rfl) ?_
    refine wpMix_seg ?_
    repeat (refine wpSeq_plain rfl (fun K hK => ?_); go_simp; refine hK _ ?_; clear hK K)
    refine wpSeq_lone rfl (fun K hK => ?_)
    go_wp2_with fail
    refine (slot_any_n A items.length cp _).mono ?_
    rintro _ wx ⟨rfl, hf⟩
    have HFX := hid (show Fresh w9 wx from Touch.ofN hf)
    clear hf
    go_wp2_with fail
    refine hK _ _ (growing_fresh HFX.out) ?_
    clear hK K
    refine wpSeq_lone rfl (fun K hK => ?_)
    go_wp2_with fail
    refine hK _ _ (growing_fresh (HFX.out.alloc _)) ?_
    clear hK K
    repeat (refine wpSeq_plain rfl (fun K hK => ?_); go_simp; refine hK _ ?_; clear hK K)
    refine wpSeq_lone rfl (fun K hK => ?_)
    go_wp2_with fail
    refine hK _ _ (growing_fresh ((HFX.out.alloc _).alloc _)) ?_
    clear hK K
    repeat (refine wpSeq_plain rfl (fun K hK => ?_); go_simp; refine hK _ ?_; clear hK K)
    have hB : w.heap.size ≤ wx.heap.size := Nat.le_trans HM9.out.size HFX.out.size
    have ht7 : TreT w.heap.size ((wx.alloc (.cells #[.int .i64 1, .string ⟨#[]⟩, .int .i64 0, .slice A items.length cp, .int .i64 n8.kind, .string ⟨n8.text.toArray⟩, .int .i64 n8.cols, .slice A8 n8.kids.length cp8, .int .i64 n6.kind, .string ⟨n6.text.toArray⟩, .int .i64 n6.cols, .slice A6 n6.kids.length cp6] 26)).alloc (.cells #[.int .i64 9, .string ⟨#[]⟩, .int .i64 0, .slice (some ⟨wx.heap.size, 0, none⟩) 3 3] 26)) [Nd.mk 9 [] 0 [Np.slot items, n8, n6]] (.slice (some ⟨(wx.alloc (.cells #[.int .i64 1, .string ⟨#[]⟩, .int .i64 0, .slice A items.length cp, .int .i64 n8.kind, .string ⟨n8.text.toArray⟩, .int .i64 n8.cols, .slice A8 n8.kids.length cp8, .int .i64 n6.kind, .string ⟨n6.text.toArray⟩, .int .i64 n6.cols, .slice A6 n6.kids.length cp6] 26)).heap.size, 0, none⟩) 1 1) :=
     TreT.lit (n := .mk 9 [] 0 [Np.slot items, n8, n6]) (TreT.lit3 (n1 := Np.slot items) (HTB.out.fresh HFX.out) (HTI1.out.fresh HFX.out) (HTI2.out.fresh HFX.out) hB (Nat.zero_le _) HTX1.out HTX2.out) (by simp; omega) (Nat.zero_le _)
    rw [show (wx.alloc (.cells #[.int .i64 1, .string ⟨#[]⟩, .int .i64 0, .slice A items.length cp, .int .i64 n8.kind, .string ⟨n8.text.toArray⟩, .int .i64 n8.cols, .slice A8 n8.kids.length cp8, .int .i64 n6.kind, .string ⟨n6.text.toArray⟩, .int .i64 n6.cols, .slice A6 n6.kids.length cp6] 26)).heap.size = wx.heap.size + 1 by simp] at ht7
    have hf7 : Fresh w9 ((wx.alloc (.cells #[.int .i64 1, .string ⟨#[]⟩, .int .i64 0, .slice A items.length cp, .int .i64 n8.kind, .string ⟨n8.text.toArray⟩, .int .i64 n8.cols, .slice A8 n8.kids.length cp8, .int .i64 n6.kind, .string ⟨n6.text.toArray⟩, .int .i64 n6.cols, .slice A6 n6.kids.length cp6] 26)).alloc (.cells #[.int .i64 9, .string ⟨#[]⟩, .int .i64 0, .slice (some ⟨wx.heap.size, 0, none⟩) 3 3] 26)) := (HFX.out.alloc (.cells #[.int .i64 1, .string ⟨#[]⟩, .int .i64 0, .slice A items.length cp, .int .i64 n8.kind, .string ⟨n8.text.toArray⟩, .int .i64 n8.cols, .slice A8 n8.kids.length cp8, .int .i64 n6.kind, .string ⟨n6.text.toArray⟩, .int .i64 n6.cols, .slice A6 n6.kids.length cp6] 26)).alloc (.cells #[.int .i64 9, .string ⟨#[]⟩, .int .i64 0, .slice (some ⟨wx.heap.size, 0, none⟩) 3 3] 26)
    generalize ((wx.alloc (.cells #[.int .i64 1, .string ⟨#[]⟩, .int .i64 0, .slice A items.length cp, .int .i64 n8.kind, .string ⟨n8.text.toArray⟩, .int .i64 n8.cols, .slice A8 n8.kids.length cp8, .int .i64 n6.kind, .string ⟨n6.text.toArray⟩, .int .i64 n6.cols, .slice A6 n6.kids.length cp6] 26)).alloc (.cells #[.int .i64 9, .string ⟨#[]⟩, .int .i64 0, .slice (some ⟨wx.heap.size, 0, none⟩) 3 3] 26)) = W7 at ht7 hf7 ⊢
    have HM7' := hid (HM9.out.fr hf7)
    have HB7' := hid (hf7.blk HBR9.out fun h => h)
    have HT7' := hid ht7
    have HP7' := hid (HP9.out.fresh hf7)
    clear ht7 hf7 hB
    clear r00 r01 r02 r03 r10 r11 r12 r13 hl0 hl1
    obtain ⟨p0, p1, y0, y1, hlt⟩ := Blk.two HB7'.out
    refine wpSeq_shut rfl (fun K hK => ?_)
    go_wp2_with fail
    refine wpMix_end ?_
    go_wp2_with fail
    have hb8 := HB7'.out.self2 (.int .i64 0) (.int .i64 0)
    have hm8 : Mp c.g c.W0.heap.size w (put2 W7 w.heap.size (.int .i64 0) (.int .i64 0)) := HM7'.out.put2 (g := w.heap.size) (.inr (Nat.le_refl _)) _ _
    have ht8 := touch2 W7 w.heap.size (.int .i64 0) (.int .i64 0)
    obtain ⟨f0, f1, _⟩ := Blk.two hb8
    have hps := HP7'.out.mv ht8 (fun b hb => by have := HW0.out; subst hb; exact ⟨by omega, by omega, _, _, (by decide), HB7'.out⟩)
    have htr8 := HT7'.out.other HB7'.out (by decide) ht8
    simp only [put2] at f0 f1 hm8 hps htr8
    (try simp only [Exit.inBlock, Exit.then])
    refine bodyPost_ret (v := .tuple #[.slice (some ⟨wx.heap.size + 1, 0, none⟩) 1 1, failV 0 0]) (by simp [failV, results, Tryz.results75, go_sem, f0, f1]) rfl ?_
    exact HQ.out _ _ ⟨_, 1, k4, rfl, htr8, rfl, by have := HK1.out; have := HKk2.out; have := HKk3.out; have := HKk4.out; omega, hps, hm8⟩
 | some a1 =>
  cases so2 with
  | none =>
   have HSO6 := hid hso
   have HKk3 := hid hkk
   have HP6 := hid hp
   clear hso hkk hp
   (try simp only [R.bind_ok] at HNE HQ ⊢); (try simp only [Option.isSome_none] at HNE HQ ⊢); (try simp only [Option.isSome_some] at HNE HQ ⊢); (try simp only [Option.isNone_none] at HNE HQ ⊢); (try simp only [Option.isNone_some] at HNE HQ ⊢); (try simp only [Bool.false_and] at HNE HQ ⊢); (try simp only [Bool.true_and] at HNE HQ ⊢); (try simp only [Bool.and_true] at HNE HQ ⊢); (try simp only [Bool.and_false] at HNE HQ ⊢); (try simp only [if_true] at HNE HQ ⊢); (try simp only [Bool.false_eq_true] at HNE HQ ⊢); (try simp only [if_false] at HNE HQ ⊢)
   unfold failV nodeV
   go_wp2_with fail
   have es : (put2 w6 w2.heap.size (.int .i64 0) (.int .i64 0)).heap.size = w6.heap.size := by simp [put2]
   have hb6 := (HB66.out.self2 (.int .i64 0) (.int .i64 0)).alloc (.cells #[.int .i64 n6.kind, .string ⟨n6.text.toArray⟩, .int .i64 n6.cols, .slice A6 n6.kids.length cp6] 26)
   have hbr := (HBR6.out.far2 (L := w.heap.size) (g := w2.heap.size) (by have := HS2.out; omega) (.int .i64 0) (.int .i64 0)).alloc (.cells #[.int .i64 n6.kind, .string ⟨n6.text.toArray⟩, .int .i64 n6.cols, .slice A6 n6.kids.length cp6] 26)
   have hbn := Blk.new (put2 w6 w2.heap.size (.int .i64 0) (.int .i64 0)) 26 #[.int .i64 n6.kind, .string ⟨n6.text.toArray⟩, .int .i64 n6.cols, .slice A6 n6.kids.length cp6]
   rw [es] at hbn
   have hc : Mp c.g c.W0.heap.size w2 ((put2 w6 w2.heap.size (.int .i64 0) (.int .i64 0)).alloc (.cells #[.int .i64 n6.kind, .string ⟨n6.text.toArray⟩, .int .i64 n6.cols, .slice A6 n6.kids.length cp6] 26)) := (HC6.out.put2 (g := w2.heap.size) (.inr (Nat.le_refl _)) (.int .i64 0) (.int .i64 0)).alloc (.cells #[.int .i64 n6.kind, .string ⟨n6.text.toArray⟩, .int .i64 n6.cols, .slice A6 n6.kids.length cp6] 26)
   have hm : Mp c.g c.W0.heap.size w ((put2 w6 w2.heap.size (.int .i64 0) (.int .i64 0)).alloc (.cells #[.int .i64 n6.kind, .string ⟨n6.text.toArray⟩, .int .i64 n6.cols, .slice A6 n6.kids.length cp6] 26)) := (HM6.out.put2 (g := w2.heap.size) (.inr (by have := HS2.out; omega)) (.int .i64 0) (.int .i64 0)).alloc (.cells #[.int .i64 n6.kind, .string ⟨n6.text.toArray⟩, .int .i64 n6.cols, .slice A6 n6.kids.length cp6] 26)
   have hp5 : Ps c k3 op ((put2 w6 w2.heap.size (.int .i64 0) (.int .i64 0)).alloc (.cells #[.int .i64 n6.kind, .string ⟨n6.text.toArray⟩, .int .i64 n6.cols, .slice A6 n6.kids.length cp6] 26)) := (HP6.out.put2 HB66.out (by decide) (by have := HS2.out; omega) (by have := HS2.out; have := HW0.out; omega) (.int .i64 0) (.int .i64 0)).fresh ((Touch.refl _ _).alloc (.cells #[.int .i64 n6.kind, .string ⟨n6.text.toArray⟩, .int .i64 n6.cols, .slice A6 n6.kids.length cp6] 26))
   have ht5 : ∀ B ks v, TreT B w6 ks v → TreT B ((put2 w6 w2.heap.size (.int .i64 0) (.int .i64 0)).alloc (.cells #[.int .i64 n6.kind, .string ⟨n6.text.toArray⟩, .int .i64 n6.cols, .slice A6 n6.kids.length cp6] 26)) ks v := fun B ks v h => (h.other HB66.out (by decide) (touch2 w6 w2.heap.size (.int .i64 0) (.int .i64 0))).fresh ((Touch.refl _ _).alloc (.cells #[.int .i64 n6.kind, .string ⟨n6.text.toArray⟩, .int .i64 n6.cols, .slice A6 n6.kids.length cp6] 26))
   have hz5 : w6.heap.size < ((put2 w6 w2.heap.size (.int .i64 0) (.int .i64 0)).alloc (.cells #[.int .i64 n6.kind, .string ⟨n6.text.toArray⟩, .int .i64 n6.cols, .slice A6 n6.kids.length cp6] 26)).heap.size := by simp [put2]
   have HB7o := (HB76.out.far2 (L := w4.heap.size) (g := w2.heap.size) (by have := HS4.out; omega) (.int .i64 0) (.int .i64 0)).alloc (.cells #[.int .i64 n6.kind, .string ⟨n6.text.toArray⟩, .int .i64 n6.cols, .slice A6 n6.kids.length cp6] 26)
   simp only [put2] at hb6 hbr hbn hc hm hp5 ht5 hz5 HB7o
   generalize (World.setCell (World.setCell w6 ⟨w2.heap.size, 0, none⟩ _) ⟨w2.heap.size, 1, none⟩ _).alloc _ = w7 at hb6 hbr hbn hc hm hp5 ht5 hz5 HB7o ⊢
   have HB67 := hid hb6
   have HBR7 := hid hbr
   have HB97 := hid hbn
   have HC7 := hid hc
   have HM7 := hid hm
   have HP7 := hid hp5
   have HX7 := hid ht5
   have HY7 := hid hz5
   have HB77 := hid HB7o
   clear hb6 hbr hbn hc hm hp5 ht5 hz5 HB7o es q0 q1 z0 z1 hlt3
   obtain ⟨ha, htr1, htx1⟩ := HSO4.out rfl
   cases ha
   have HR1 := hid htr1
   have HRX1 := hid htx1
   clear htr1 htx1
   have htb := (HT2.out.mp HC7.out HP2.out).base (Nat.le_trans (Nat.le_trans HF1.out.size HY1.out) (Nat.le_refl _))
   have HTB := hid htb
   clear htb
   have HTI1 := hid ((HX7.out _ _ _ ((HX5.out _ _ _ HR1.out).mp HD6.out HP5.out)).base (Nat.le_trans HM3.out.size (Nat.le_refl _)))
   have HTX1 := hid (HRX1.out)
   have r00 := cell_regrown (HB77.out.cell 0 |>.trans rfl)
   have r01 := cell_regrown (HB77.out.cell 1 |>.trans rfl)
   have r02 := cell_regrown (HB77.out.cell 2 |>.trans rfl)
   have r03 := cell_regrown (HB77.out.cell 3 |>.trans rfl)
   have hl0 := HB77.out.lt
   refine wp_region_mix [([(0, true), (2, true), (6, true), (1, false), (3, false), (4, true), (5, false), (7, true)], 8)] [] (by kernel_rfl) (fun _ _ d _ _ h => by cases d <;> exact h) (by kernel_rfl) ?_
   refine wpMix_seg ?_
   repeat (refine wpSeq_plain rfl (fun K hK => ?_); go_simp; refine hK _ ?_; clear hK K)
   refine wpSeq_lone rfl (fun K hK => ?_)
   go_wp2_with fail
   refine (slot_any_n A items.length cp _).mono ?_
   rintro _ wx ⟨rfl, hf⟩
   have HFX := hid (show Fresh w7 wx from Touch.ofN hf)
   clear hf
   go_wp2_with fail
   refine hK _ _ (growing_fresh HFX.out) ?_
   clear hK K
   refine wpSeq_lone rfl (fun K hK => ?_)
   go_wp2_with fail
   refine hK _ _ (growing_fresh (HFX.out.alloc _)) ?_
   clear hK K
   repeat (refine wpSeq_plain rfl (fun K hK => ?_); go_simp; refine hK _ ?_; clear hK K)
   refine wpSeq_lone rfl (fun K hK => ?_)
   go_wp2_with fail
   refine hK _ _ (growing_fresh ((HFX.out.alloc _).alloc _)) ?_
   clear hK K
   repeat (refine wpSeq_plain rfl (fun K hK => ?_); go_simp; refine hK _ ?_; clear hK K)
   have hB : w.heap.size ≤ wx.heap.size := Nat.le_trans HM7.out.size HFX.out.size
   have ht7 : TreT w.heap.size ((wx.alloc (.cells #[.int .i64 1, .string ⟨#[]⟩, .int .i64 0, .slice A items.length cp, .int .i64 n4.kind, .string ⟨n4.text.toArray⟩, .int .i64 n4.cols, .slice A4 n4.kids.length cp4] 26)).alloc (.cells #[.int .i64 7, .string ⟨#[]⟩, .int .i64 0, .slice (some ⟨wx.heap.size, 0, none⟩) 2 2] 26)) [Nd.mk 7 [] 0 [Np.slot items, n4]] (.slice (some ⟨(wx.alloc (.cells #[.int .i64 1, .string ⟨#[]⟩, .int .i64 0, .slice A items.length cp, .int .i64 n4.kind, .string ⟨n4.text.toArray⟩, .int .i64 n4.cols, .slice A4 n4.kids.length cp4] 26)).heap.size, 0, none⟩) 1 1) :=
    TreT.lit (n := .mk 7 [] 0 [Np.slot items, n4]) (TreT.lit2 (n1 := Np.slot items) (HTB.out.fresh HFX.out) (HTI1.out.fresh HFX.out) hB (Nat.zero_le _) HTX1.out) (by simp; omega) (Nat.zero_le _)
   rw [show (wx.alloc (.cells #[.int .i64 1, .string ⟨#[]⟩, .int .i64 0, .slice A items.length cp, .int .i64 n4.kind, .string ⟨n4.text.toArray⟩, .int .i64 n4.cols, .slice A4 n4.kids.length cp4] 26)).heap.size = wx.heap.size + 1 by simp] at ht7
   have hf7 : Fresh w7 ((wx.alloc (.cells #[.int .i64 1, .string ⟨#[]⟩, .int .i64 0, .slice A items.length cp, .int .i64 n4.kind, .string ⟨n4.text.toArray⟩, .int .i64 n4.cols, .slice A4 n4.kids.length cp4] 26)).alloc (.cells #[.int .i64 7, .string ⟨#[]⟩, .int .i64 0, .slice (some ⟨wx.heap.size, 0, none⟩) 2 2] 26)) := (HFX.out.alloc (.cells #[.int .i64 1, .string ⟨#[]⟩, .int .i64 0, .slice A items.length cp, .int .i64 n4.kind, .string ⟨n4.text.toArray⟩, .int .i64 n4.cols, .slice A4 n4.kids.length cp4] 26)).alloc (.cells #[.int .i64 7, .string ⟨#[]⟩, .int .i64 0, .slice (some ⟨wx.heap.size, 0, none⟩) 2 2] 26)
   generalize ((wx.alloc (.cells #[.int .i64 1, .string ⟨#[]⟩, .int .i64 0, .slice A items.length cp, .int .i64 n4.kind, .string ⟨n4.text.toArray⟩, .int .i64 n4.cols, .slice A4 n4.kids.length cp4] 26)).alloc (.cells #[.int .i64 7, .string ⟨#[]⟩, .int .i64 0, .slice (some ⟨wx.heap.size, 0, none⟩) 2 2] 26)) = W7 at ht7 hf7 ⊢
   have HM7' := hid (HM7.out.fr hf7)
   have HB7' := hid (hf7.blk HBR7.out fun h => h)
   have HT7' := hid ht7
   have HP7' := hid (HP7.out.fresh hf7)
   clear ht7 hf7 hB
   clear r00 r01 r02 r03 hl0
   obtain ⟨p0, p1, y0, y1, hlt⟩ := Blk.two HB7'.out
   refine wpSeq_shut rfl (fun K hK => ?_)
   go_wp2_with fail
   refine wpMix_end ?_
   go_wp2_with fail
   have hb8 := HB7'.out.self2 (.int .i64 0) (.int .i64 0)
   have hm8 : Mp c.g c.W0.heap.size w (put2 W7 w.heap.size (.int .i64 0) (.int .i64 0)) := HM7'.out.put2 (g := w.heap.size) (.inr (Nat.le_refl _)) _ _
   have ht8 := touch2 W7 w.heap.size (.int .i64 0) (.int .i64 0)
   obtain ⟨f0, f1, _⟩ := Blk.two hb8
   have hps := HP7'.out.mv ht8 (fun b hb => by have := HW0.out; subst hb; exact ⟨by omega, by omega, _, _, (by decide), HB7'.out⟩)
   have htr8 := HT7'.out.other HB7'.out (by decide) ht8
   simp only [put2] at f0 f1 hm8 hps htr8
   (try simp only [Exit.inBlock, Exit.then])
   refine bodyPost_ret (v := .tuple #[.slice (some ⟨wx.heap.size + 1, 0, none⟩) 1 1, failV 0 0]) (by simp [failV, results, Tryz.results75, go_sem, f0, f1]) rfl ?_
   exact HQ.out _ _ ⟨_, 1, k3, rfl, htr8, rfl, by have := HK1.out; have := HKk2.out; have := HKk3.out; omega, hps, hm8⟩
  | some a2 =>
   have HSO6 := hid hso
   have HKk3 := hid hkk
   have HP6 := hid hp
   clear hso hkk hp
   (try simp only [R.bind_ok] at HNE HQ ⊢); (try simp only [Option.isSome_none] at HNE HQ ⊢); (try simp only [Option.isSome_some] at HNE HQ ⊢); (try simp only [Option.isNone_none] at HNE HQ ⊢); (try simp only [Option.isNone_some] at HNE HQ ⊢); (try simp only [Bool.false_and] at HNE HQ ⊢); (try simp only [Bool.true_and] at HNE HQ ⊢); (try simp only [Bool.and_true] at HNE HQ ⊢); (try simp only [Bool.and_false] at HNE HQ ⊢); (try simp only [if_true] at HNE HQ ⊢); (try simp only [Bool.false_eq_true] at HNE HQ ⊢); (try simp only [if_false] at HNE HQ ⊢)
   unfold failV nodeV
   go_wp2_with fail
   have es : (put2 w6 w2.heap.size (.int .i64 0) (.int .i64 0)).heap.size = w6.heap.size := by simp [put2]
   have hb6 := (HB66.out.self2 (.int .i64 0) (.int .i64 0)).alloc (.cells #[.int .i64 n6.kind, .string ⟨n6.text.toArray⟩, .int .i64 n6.cols, .slice A6 n6.kids.length cp6] 26)
   have hbr := (HBR6.out.far2 (L := w.heap.size) (g := w2.heap.size) (by have := HS2.out; omega) (.int .i64 0) (.int .i64 0)).alloc (.cells #[.int .i64 n6.kind, .string ⟨n6.text.toArray⟩, .int .i64 n6.cols, .slice A6 n6.kids.length cp6] 26)
   have hbn := Blk.new (put2 w6 w2.heap.size (.int .i64 0) (.int .i64 0)) 26 #[.int .i64 n6.kind, .string ⟨n6.text.toArray⟩, .int .i64 n6.cols, .slice A6 n6.kids.length cp6]
   rw [es] at hbn
   have hc : Mp c.g c.W0.heap.size w2 ((put2 w6 w2.heap.size (.int .i64 0) (.int .i64 0)).alloc (.cells #[.int .i64 n6.kind, .string ⟨n6.text.toArray⟩, .int .i64 n6.cols, .slice A6 n6.kids.length cp6] 26)) := (HC6.out.put2 (g := w2.heap.size) (.inr (Nat.le_refl _)) (.int .i64 0) (.int .i64 0)).alloc (.cells #[.int .i64 n6.kind, .string ⟨n6.text.toArray⟩, .int .i64 n6.cols, .slice A6 n6.kids.length cp6] 26)
   have hm : Mp c.g c.W0.heap.size w ((put2 w6 w2.heap.size (.int .i64 0) (.int .i64 0)).alloc (.cells #[.int .i64 n6.kind, .string ⟨n6.text.toArray⟩, .int .i64 n6.cols, .slice A6 n6.kids.length cp6] 26)) := (HM6.out.put2 (g := w2.heap.size) (.inr (by have := HS2.out; omega)) (.int .i64 0) (.int .i64 0)).alloc (.cells #[.int .i64 n6.kind, .string ⟨n6.text.toArray⟩, .int .i64 n6.cols, .slice A6 n6.kids.length cp6] 26)
   have hp5 : Ps c k3 op ((put2 w6 w2.heap.size (.int .i64 0) (.int .i64 0)).alloc (.cells #[.int .i64 n6.kind, .string ⟨n6.text.toArray⟩, .int .i64 n6.cols, .slice A6 n6.kids.length cp6] 26)) := (HP6.out.put2 HB66.out (by decide) (by have := HS2.out; omega) (by have := HS2.out; have := HW0.out; omega) (.int .i64 0) (.int .i64 0)).fresh ((Touch.refl _ _).alloc (.cells #[.int .i64 n6.kind, .string ⟨n6.text.toArray⟩, .int .i64 n6.cols, .slice A6 n6.kids.length cp6] 26))
   have ht5 : ∀ B ks v, TreT B w6 ks v → TreT B ((put2 w6 w2.heap.size (.int .i64 0) (.int .i64 0)).alloc (.cells #[.int .i64 n6.kind, .string ⟨n6.text.toArray⟩, .int .i64 n6.cols, .slice A6 n6.kids.length cp6] 26)) ks v := fun B ks v h => (h.other HB66.out (by decide) (touch2 w6 w2.heap.size (.int .i64 0) (.int .i64 0))).fresh ((Touch.refl _ _).alloc (.cells #[.int .i64 n6.kind, .string ⟨n6.text.toArray⟩, .int .i64 n6.cols, .slice A6 n6.kids.length cp6] 26))
   have hz5 : w6.heap.size < ((put2 w6 w2.heap.size (.int .i64 0) (.int .i64 0)).alloc (.cells #[.int .i64 n6.kind, .string ⟨n6.text.toArray⟩, .int .i64 n6.cols, .slice A6 n6.kids.length cp6] 26)).heap.size := by simp [put2]
   have HB7o := (HB76.out.far2 (L := w4.heap.size) (g := w2.heap.size) (by have := HS4.out; omega) (.int .i64 0) (.int .i64 0)).alloc (.cells #[.int .i64 n6.kind, .string ⟨n6.text.toArray⟩, .int .i64 n6.cols, .slice A6 n6.kids.length cp6] 26)
   simp only [put2] at hb6 hbr hbn hc hm hp5 ht5 hz5 HB7o
   generalize (World.setCell (World.setCell w6 ⟨w2.heap.size, 0, none⟩ _) ⟨w2.heap.size, 1, none⟩ _).alloc _ = w7 at hb6 hbr hbn hc hm hp5 ht5 hz5 HB7o ⊢
   have HB67 := hid hb6
   have HBR7 := hid hbr
   have HB97 := hid hbn
   have HC7 := hid hc
   have HM7 := hid hm
   have HP7 := hid hp5
   have HX7 := hid ht5
   have HY7 := hid hz5
   have HB77 := hid HB7o
   clear hb6 hbr hbn hc hm hp5 ht5 hz5 HB7o es q0 q1 z0 z1 hlt3
   obtain ⟨ha, htr1, htx1⟩ := HSO4.out rfl
   cases ha
   have HR1 := hid htr1
   have HRX1 := hid htx1
   obtain ⟨ha, htr2, htx2⟩ := HSO6.out rfl
   cases ha
   have HR2 := hid htr2
   have HRX2 := hid htx2
   clear htr1 htx1 htr2 htx2
   have htb := (HT2.out.mp HC7.out HP2.out).base (Nat.le_trans (Nat.le_trans HF1.out.size HY1.out) (Nat.le_refl _))
   have HTB := hid htb
   clear htb
   have HTI1 := hid ((HX7.out _ _ _ ((HX5.out _ _ _ HR1.out).mp HD6.out HP5.out)).base (Nat.le_trans HM3.out.size (Nat.le_refl _)))
   have HTX1 := hid (HRX1.out)
   have HTI2 := hid ((HX7.out _ _ _ HR2.out).base HM5.out.size)
   have HTX2 := hid (HRX2.out)
   have r00 := cell_regrown (HB77.out.cell 0 |>.trans rfl)
   have r01 := cell_regrown (HB77.out.cell 1 |>.trans rfl)
   have r02 := cell_regrown (HB77.out.cell 2 |>.trans rfl)
   have r03 := cell_regrown (HB77.out.cell 3 |>.trans rfl)
   have hl0 := HB77.out.lt
   have r10 := cell_regrown (HB97.out.cell 0 |>.trans rfl)
   have r11 := cell_regrown (HB97.out.cell 1 |>.trans rfl)
   have r12 := cell_regrown (HB97.out.cell 2 |>.trans rfl)
   have r13 := cell_regrown (HB97.out.cell 3 |>.trans rfl)
   have hl1 := HB97.out.lt
   refine wp_region_mix [([(0, true), (2, true), (3, true), (7, true), (1, false), (4, false), (5, true), (6, false), (8, true)], 9)] [] (by kernel_rfl) (fun _ _ d _ _ h => by cases d <;> exact h) (by kernel_rfl) ?_
   refine wpMix_seg ?_
   repeat (refine wpSeq_plain rfl (fun K hK => ?_); go_simp; refine hK _ ?_; clear hK K)
   refine wpSeq_lone rfl (fun K hK => ?_)
   go_wp2_with fail
   refine (slot_any_n A items.length cp _).mono ?_
   rintro _ wx ⟨rfl, hf⟩
   have HFX := hid (show Fresh w7 wx from Touch.ofN hf)
   clear hf
   go_wp2_with fail
   refine hK _ _ (growing_fresh HFX.out) ?_
   clear hK K
   refine wpSeq_lone rfl (fun K hK => ?_)
   go_wp2_with fail
   refine hK _ _ (growing_fresh (HFX.out.alloc _)) ?_
   clear hK K
   repeat (refine wpSeq_plain rfl (fun K hK => ?_); go_simp; refine hK _ ?_; clear hK K)
   refine wpSeq_lone rfl (fun K hK => ?_)
   go_wp2_with fail
   refine hK _ _ (growing_fresh ((HFX.out.alloc _).alloc _)) ?_
   clear hK K
   repeat (refine wpSeq_plain rfl (fun K hK => ?_); go_simp; refine hK _ ?_; clear hK K)
   have hB : w.heap.size ≤ wx.heap.size := Nat.le_trans HM7.out.size HFX.out.size
   have ht7 : TreT w.heap.size ((wx.alloc (.cells #[.int .i64 1, .string ⟨#[]⟩, .int .i64 0, .slice A items.length cp, .int .i64 n4.kind, .string ⟨n4.text.toArray⟩, .int .i64 n4.cols, .slice A4 n4.kids.length cp4, .int .i64 n6.kind, .string ⟨n6.text.toArray⟩, .int .i64 n6.cols, .slice A6 n6.kids.length cp6] 26)).alloc (.cells #[.int .i64 9, .string ⟨#[]⟩, .int .i64 0, .slice (some ⟨wx.heap.size, 0, none⟩) 3 3] 26)) [Nd.mk 9 [] 0 [Np.slot items, n4, n6]] (.slice (some ⟨(wx.alloc (.cells #[.int .i64 1, .string ⟨#[]⟩, .int .i64 0, .slice A items.length cp, .int .i64 n4.kind, .string ⟨n4.text.toArray⟩, .int .i64 n4.cols, .slice A4 n4.kids.length cp4, .int .i64 n6.kind, .string ⟨n6.text.toArray⟩, .int .i64 n6.cols, .slice A6 n6.kids.length cp6] 26)).heap.size, 0, none⟩) 1 1) :=
    TreT.lit (n := .mk 9 [] 0 [Np.slot items, n4, n6]) (TreT.lit3 (n1 := Np.slot items) (HTB.out.fresh HFX.out) (HTI1.out.fresh HFX.out) (HTI2.out.fresh HFX.out) hB (Nat.zero_le _) HTX1.out HTX2.out) (by simp; omega) (Nat.zero_le _)
   rw [show (wx.alloc (.cells #[.int .i64 1, .string ⟨#[]⟩, .int .i64 0, .slice A items.length cp, .int .i64 n4.kind, .string ⟨n4.text.toArray⟩, .int .i64 n4.cols, .slice A4 n4.kids.length cp4, .int .i64 n6.kind, .string ⟨n6.text.toArray⟩, .int .i64 n6.cols, .slice A6 n6.kids.length cp6] 26)).heap.size = wx.heap.size + 1 by simp] at ht7
   have hf7 : Fresh w7 ((wx.alloc (.cells #[.int .i64 1, .string ⟨#[]⟩, .int .i64 0, .slice A items.length cp, .int .i64 n4.kind, .string ⟨n4.text.toArray⟩, .int .i64 n4.cols, .slice A4 n4.kids.length cp4, .int .i64 n6.kind, .string ⟨n6.text.toArray⟩, .int .i64 n6.cols, .slice A6 n6.kids.length cp6] 26)).alloc (.cells #[.int .i64 9, .string ⟨#[]⟩, .int .i64 0, .slice (some ⟨wx.heap.size, 0, none⟩) 3 3] 26)) := (HFX.out.alloc (.cells #[.int .i64 1, .string ⟨#[]⟩, .int .i64 0, .slice A items.length cp, .int .i64 n4.kind, .string ⟨n4.text.toArray⟩, .int .i64 n4.cols, .slice A4 n4.kids.length cp4, .int .i64 n6.kind, .string ⟨n6.text.toArray⟩, .int .i64 n6.cols, .slice A6 n6.kids.length cp6] 26)).alloc (.cells #[.int .i64 9, .string ⟨#[]⟩, .int .i64 0, .slice (some ⟨wx.heap.size, 0, none⟩) 3 3] 26)
   generalize ((wx.alloc (.cells #[.int .i64 1, .string ⟨#[]⟩, .int .i64 0, .slice A items.length cp, .int .i64 n4.kind, .string ⟨n4.text.toArray⟩, .int .i64 n4.cols, .slice A4 n4.kids.length cp4, .int .i64 n6.kind, .string ⟨n6.text.toArray⟩, .int .i64 n6.cols, .slice A6 n6.kids.length cp6] 26)).alloc (.cells #[.int .i64 9, .string ⟨#[]⟩, .int .i64 0, .slice (some ⟨wx.heap.size, 0, none⟩) 3 3] 26)) = W7 at ht7 hf7 ⊢
   have HM7' := hid (HM7.out.fr hf7)
   have HB7' := hid (hf7.blk HBR7.out fun h => h)
   have HT7' := hid ht7
   have HP7' := hid (HP7.out.fresh hf7)
   clear ht7 hf7 hB
   clear r00 r01 r02 r03 r10 r11 r12 r13 hl0 hl1
   obtain ⟨p0, p1, y0, y1, hlt⟩ := Blk.two HB7'.out
   refine wpSeq_shut rfl (fun K hK => ?_)
   go_wp2_with fail
   refine wpMix_end ?_
   go_wp2_with fail
   have hb8 := HB7'.out.self2 (.int .i64 0) (.int .i64 0)
   have hm8 : Mp c.g c.W0.heap.size w (put2 W7 w.heap.size (.int .i64 0) (.int .i64 0)) := HM7'.out.put2 (g := w.heap.size) (.inr (Nat.le_refl _)) _ _
   have ht8 := touch2 W7 w.heap.size (.int .i64 0) (.int .i64 0)
   obtain ⟨f0, f1, _⟩ := Blk.two hb8
   have hps := HP7'.out.mv ht8 (fun b hb => by have := HW0.out; subst hb; exact ⟨by omega, by omega, _, _, (by decide), HB7'.out⟩)
   have htr8 := HT7'.out.other HB7'.out (by decide) ht8
   simp only [put2] at f0 f1 hm8 hps htr8
   (try simp only [Exit.inBlock, Exit.then])
   refine bodyPost_ret (v := .tuple #[.slice (some ⟨wx.heap.size + 1, 0, none⟩) 1 1, failV 0 0]) (by simp [failV, results, Tryz.results75, go_sem, f0, f1]) rfl ?_
   exact HQ.out _ _ ⟨_, 1, k3, rfl, htr8, rfl, by have := HK1.out; have := HKk2.out; have := HKk3.out; omega, hps, hm8⟩
end Go.Proofs.YtncnoeoicaglaaaGreat
