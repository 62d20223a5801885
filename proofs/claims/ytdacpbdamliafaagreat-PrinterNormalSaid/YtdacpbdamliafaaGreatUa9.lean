/- Part 9 of 12 of a proof; its texts, joined: NqN, NqO, RegD, RegG. No condition. -/
import Derived.Test.YtdacpbdamliafaaGreatUa8
import Derived.Test.YtdacpbdamliafaaGreatUa6
import Derived.Test.YtdacpbdamliafaaGreatUa7

/- The parser's item. -/
namespace Go.Proofs.YtdacpbdamliafaaGreat
open Go.RowKit
open Tr (Nd)
open Lx (PTok)
open Np (R pRow pIn pScript pItem pPrim pArgs pName pCells pArg)
attribute [local go_sem] stillV stillUpon
def ItemN (c : Cf) (f : Nat) : Prop := ∀ (k : Nat) (op : List Nat) (w : World), Ps c k op w → op.length ≤ k → pItem c.en f op (c.T.drop k) ≠ .out → Calls Tryz.prog 113 #[pp0 c] w (ItemsE c k op (pItem c.en f op (c.T.drop k)) w)
theorem R.bind_ok {α β : Type} (a : α) (l : List PTok) (k : α → List PTok → R β) : (R.ok a l).bind k = k a l := rfl
theorem ScriptE.parts {c : Cf} {k : Nat} {op : List Nat} {X : R (Option Nd)} {w w' : World} {e : Ending} (h : ScriptE c k op X w e w') (hne : X ≠ .out) : ∃ n A cp th i er, e = .returned (.tuple #[nodeV n A cp, .bool th, failV i er]) ∧ Mp c.g c.W0.heap.size w w' ∧
  ((∃ so rest k', X = .ok so rest ∧ th = so.isSome ∧ i = 0 ∧ er = 0 ∧ (so.isSome = true → so = some n ∧ TreT w.heap.size w' n.kids (.slice A n.kids.length cp) ∧ n.text.length ≤ maxLen) ∧ c.T.drop k' = rest ∧ k ≤ k' ∧ Ps c k' op w') ∨ (X = .err i er ∧ er ≠ 0)) := by
 cases X with
 | out => exact absurd rfl hne
 | err i er =>
  obtain ⟨he0, n, A, cp, rfl, hm⟩ := h
  exact ⟨n, A, cp, true, i, er, rfl, hm, .inr ⟨rfl, he0⟩⟩
 | ok so rest =>
  cases so with
  | none =>
   obtain ⟨k', rfl, hdr, hkk, hp, hm⟩ := h
   exact ⟨.mk 0 [] 0 [], none, 0, false, 0, 0, rfl, hm, .inl ⟨none, rest, k', rfl, rfl, rfl, rfl, (fun h => by cases h), hdr, hkk, hp⟩⟩
  | some a =>
   obtain ⟨A, cp, k', rfl, htr, htx, hdr, hkk, hp, hm⟩ := h
   exact ⟨a, A, cp, true, 0, 0, rfl, hm, .inl ⟨some a, rest, k', rfl, rfl, rfl, rfl, (fun _ => ⟨rfl, htr, htx⟩), hdr, hkk, hp⟩⟩
theorem TreT.lit2 {B : Nat} {w : World} {n1 n2 : Nd} {s1 s2 : Value} (h1 : TreT B w n1.kids s1) (h2 : TreT B w n2.kids s2) (hB : B ≤ w.heap.size) (t1 : n1.text.length ≤ maxLen) (t2 : n2.text.length ≤ maxLen) :
  TreT B (w.alloc (.cells #[.int .i64 n1.kind, .string ⟨n1.text.toArray⟩, .int .i64 n1.cols, s1, .int .i64 n2.kind, .string ⟨n2.text.toArray⟩, .int .i64 n2.cols, s2] 24)) [n1, n2] (.slice (some ⟨w.heap.size, 0, none⟩) 2 2) := by
 have hb := Blk.new w 24 #[.int .i64 n1.kind, .string ⟨n1.text.toArray⟩, .int .i64 n1.cols, s1, .int .i64 n2.kind, .string ⟨n2.text.toArray⟩, .int .i64 n2.cols, s2]
 have hf : Fresh w _ := (Touch.refl _ w).alloc (.cells #[.int .i64 n1.kind, .string ⟨n1.text.toArray⟩, .int .i64 n1.cols, s1, .int .i64 n2.kind, .string ⟨n2.text.toArray⟩, .int .i64 n2.cols, s2] 24)
 exact TreT.row w.heap.size 2 [n1, n2] (fun i => if i = 0 then s1 else s2) hB ⟨_, _, hb⟩ (by simp [maxLen]) (fun i hi => match i, hi with | 0, _ => t1 | 1, _ => t2) (fun i hi => match i, hi with | 0, _ => hb.cell 0 | 1, _ => hb.cell 4) (fun i hi => match i, hi with | 0, _ => hb.cell 1 | 1, _ => hb.cell 5)
  (fun i hi => match i, hi with | 0, _ => hb.cell 2 | 1, _ => hb.cell 6) (fun i hi => match i, hi with | 0, _ => hb.cell 3 | 1, _ => hb.cell 7) (fun i hi => match i, hi with | 0, _ => h1.fresh hf | 1, _ => h2.fresh hf)
theorem TreT.lit3 {B : Nat} {w : World} {n1 n2 n3 : Nd} {s1 s2 s3 : Value} (h1 : TreT B w n1.kids s1) (h2 : TreT B w n2.kids s2) (h3 : TreT B w n3.kids s3) (hB : B ≤ w.heap.size) (t1 : n1.text.length ≤ maxLen) (t2 : n2.text.length ≤ maxLen) (t3 : n3.text.length ≤ maxLen) :
  TreT B (w.alloc (.cells #[.int .i64 n1.kind, .string ⟨n1.text.toArray⟩, .int .i64 n1.cols, s1, .int .i64 n2.kind, .string ⟨n2.text.toArray⟩, .int .i64 n2.cols, s2, .int .i64 n3.kind, .string ⟨n3.text.toArray⟩, .int .i64 n3.cols, s3] 24)) [n1, n2, n3] (.slice (some ⟨w.heap.size, 0, none⟩) 3 3) := by
 have hb := Blk.new w 24 #[.int .i64 n1.kind, .string ⟨n1.text.toArray⟩, .int .i64 n1.cols, s1, .int .i64 n2.kind, .string ⟨n2.text.toArray⟩, .int .i64 n2.cols, s2, .int .i64 n3.kind, .string ⟨n3.text.toArray⟩, .int .i64 n3.cols, s3]
 have hf : Fresh w _ := (Touch.refl _ w).alloc (.cells #[.int .i64 n1.kind, .string ⟨n1.text.toArray⟩, .int .i64 n1.cols, s1, .int .i64 n2.kind, .string ⟨n2.text.toArray⟩, .int .i64 n2.cols, s2, .int .i64 n3.kind, .string ⟨n3.text.toArray⟩, .int .i64 n3.cols, s3] 24)
 exact TreT.row w.heap.size 3 [n1, n2, n3] (fun i => if i = 0 then s1 else if i = 1 then s2 else s3) hB ⟨_, _, hb⟩ (by simp [maxLen]) (fun i hi => match i, hi with | 0, _ => t1 | 1, _ => t2 | 2, _ => t3) (fun i hi => match i, hi with | 0, _ => hb.cell 0 | 1, _ => hb.cell 4 | 2, _ => hb.cell 8) (fun i hi => match i, hi with | 0, _ => hb.cell 1 | 1, _ => hb.cell 5 | 2, _ => hb.cell 9)
  (fun i hi => match i, hi with | 0, _ => hb.cell 2 | 1, _ => hb.cell 6 | 2, _ => hb.cell 10) (fun i hi => match i, hi with | 0, _ => hb.cell 3 | 1, _ => hb.cell 7 | 2, _ => hb.cell 11) (fun i hi => match i, hi with | 0, _ => h1.fresh hf | 1, _ => h2.fresh hf | 2, _ => h3.fresh hf)
theorem Mp.fr {g B : Nat} {a b c : World} (h : Mp g B a b) (k : Fresh b c) : Mp g B a c := h.trans (Mp.fresh k)
set_option maxRecDepth 100000 in
set_option maxHeartbeats 3000000 in
theorem item_n (c : Cf) (hc : c.Good) (f : Nat) (hprim : PrimaryN c f) (hscr : ScriptN c f) : ItemN c (f + 1) := by
 intro k op w h hop hne
 have htl := hc.tl
 have HA := hid (fun (w' : World) (hf : Fresh w w') => at_any_n c hc k op 123 w' (h.fresh hf))
 have HR := hid (fun (k' : Nat) (w' : World) (hp : Ps c k' op w') => refuse_any_n c hc k' op w' hp)
 have HPR := hid hprim
 have HSC := hid hscr
 have H := hid h
 have HOP := hid hop
 have HW0 := hid h.low.size
 have hgl : c.g < w.heap.size := h.glt
 rw [pItem] at hne ⊢
 have HNE := hid hne
 refine Calls.via fun Q hQ => ?_
 have HQ := hid hQ
 clear hne h hop hc hQ hprim hscr
 generalize hgp : Np.isM 123 (c.T.drop k) = gp at HA HNE HQ
 clear hgp
 unfold pp0
 go_enter Tryz.func113, Tryz.ntmps113
 go_wp2_with fail
 refine (HA.out _ ((Touch.refl _ _).alloc _)).mono ?_
 rintro _ w1 ⟨rfl, hf⟩
 have HF1 := hid (show Fresh w w1 from Touch.pre hf)
 have HBR1 := hid (hf.blk (Blk.new w 88 #[.int .i64 0, .int .i64 0]) (fun h => h))
 clear hf
 go_wp2_with fail
 refine (HPR.out k op w1 (H.out.fresh HF1.out) HOP.out (fun h => HNE.out (by rw [h] <;> rfl))).mono ?_
 intro e w2 hres
 have hparts := hres.parts (fun h => HNE.out (by rw [h] <;> rfl))
 clear hres
 generalize pPrim c.en f op (c.T.drop k) = X at HNE HQ hparts
 obtain ⟨A, n, cp, i, er, rfl, hm, hend⟩ := hparts
 have HM2 := hid ((Mp.fresh HF1.out).trans hm)
 have HBR2 := hid (hm.blk HBR1.out (by omega) (by decide))
 have HS2 := hid (show w.heap.size < w2.heap.size from HBR2.out.lt)
 clear hm
 rcases hend with ⟨items, rest, k1, rfl, rfl, rfl, rfl, htr, rfl, hkk, hp⟩ | ⟨rfl, he0⟩
 case inr =>
  have HE0 := hid he0
  have e0 := fail_ne he0
  clear he0
  unfold failV
  go_wp2_with fail
  have hbe := Blk.new w2 88 #[.int .i64 (i : Int), .int .i64 (er : Int)]
  have hbr := HBR2.out.alloc (.cells #[.int .i64 (i : Int), .int .i64 (er : Int)] 88)
  have hmr := HM2.out.alloc (.cells #[.int .i64 (i : Int), .int .i64 (er : Int)] 88)
  have r0 := cell_regrown (hbe.cell 0 |>.trans rfl)
  have r1 := cell_regrown (hbe.cell 1 |>.trans rfl)
  have hlt3 := hbe.lt
  have HBR := hid hbr
  have HMR := hid hmr
  clear hbe hbr hmr
  refine wp_region_mix [([(0, true), (1, true)], 2)] [] (by kernel_rfl) (fun _ _ d _ _ h => by cases d <;> exact h) (by kernel_rfl) ?_
  refine wpMix_seg ?_
  repeat (refine wpSeq_plain rfl (fun K hK => ?_); go_simp; refine hK _ ?_; clear hK K)
  obtain ⟨p0, p1, y0, y1, hlt⟩ := Blk.two (HBR.out.drewN 1)
  refine wpSeq_shut rfl (fun K hK => ?_)
  go_wp2_with fail
  refine wpMix_end ?_
  go_wp2_with fail
  have hb5 : Blk _ (w.heap.size) 88 #[.int .i64 (i : Int), .int .i64 (er : Int)] := ((HBR.out.drewN 1).put 0 (.int .i64 (i : Int))).put 1 (.int .i64 (er : Int))
  have hm5 := ((HMR.out.drewN 1).setCell (p := ⟨w.heap.size, 0, none⟩) (.inr (by show w.heap.size ≤ w.heap.size; omega)) (.int .i64 (i : Int))).setCell (p := ⟨w.heap.size, 1, none⟩) (.inr (by show w.heap.size ≤ w.heap.size; omega)) (.int .i64 (er : Int))
  obtain ⟨f0, f1, _⟩ := Blk.two hb5
  (try simp only [Exit.inBlock, Exit.then])
  refine bodyPost_ret (v := .tuple #[.slice none 0 0, failV i er]) (by simp [failV, results, Tryz.results113, go_sem, f0, f1]) rfl ?_
  exact HQ.out _ _ ⟨HE0.out, none, 0, 0, rfl, hm5⟩
 have HP2 := hid hp
 have HT2 := hid htr
 have HK1 := hid hkk
 clear htr hkk hp
 simp only [R.bind_ok] at HNE HQ
 unfold failV
 go_wp2_with fail
 have hf3 : Fresh w2 (w2.alloc (.cells #[.int .i64 0, .int .i64 0] 88)) := (Touch.refl _ _).alloc _
 have hb6 := Blk.new w2 88 #[.int .i64 0, .int .i64 0]
 have hbr3 := HBR2.out.alloc (.cells #[.int .i64 0, .int .i64 0] 88)
 generalize (w2.alloc (.cells #[.int .i64 0, .int .i64 0] 88)) = w3 at hf3 hb6 hbr3 ⊢
 have HF3 := hid hf3
 have HB63 := hid hb6
 have HBR3 := hid hbr3
 have HP3 := hid (HP2.out.fresh hf3)
 have HC3 := hid (show Mp c.g c.W0.heap.size w2 w3 from Mp.fresh hf3)
 have HM3 := hid (HM2.out.fr hf3)
 clear hf3 hb6 hbr3
 refine (HSC.out k1 op 95 w3 HP3.out (by have := HOP.out; have := HK1.out; omega) (fun h => HNE.out (by rw [h] <;> rfl))).mono ?_
 intro e w4 hres
 have hparts := hres.parts (fun h => HNE.out (by rw [h] <;> rfl))
 clear hres
 generalize pScript c.en f 95 op (c.T.drop k1) = X at HNE HQ hparts
 obtain ⟨n4, A4, cp4, th4, i, er, rfl, hm, hend⟩ := hparts
 have HD4 := hid hm
 have HB64 := hid (hm.blk HB63.out (by have := HS2.out; omega) (by decide))
 have HBR4 := hid (hm.blk HBR3.out (by omega) (by decide))
 have HC4 := hid (HC3.out.trans hm)
 have HM4 := hid (HM3.out.trans hm)
 have HS4 := hid (show w2.heap.size < w4.heap.size from HB64.out.lt)
 have HZ4 := hid (show w3.heap.size ≤ w4.heap.size from hm.size)
 clear hm
 obtain ⟨q0, q1, z0, z1, hlt3⟩ := Blk.two HB64.out
 rcases hend with ⟨so1, rest, k2, rfl, rfl, rfl, rfl, hso, rfl, hkk, hp⟩ | ⟨rfl, he0⟩
 case inr =>
  have HE0 := hid he0
  have e0 := fail_ne he0
  clear he0
  unfold failV nodeV
  go_wp2_with fail
  have hbe := (HB64.out.self2 (.int .i64 (i : Int)) (.int .i64 (er : Int))).alloc (.cells #[.int .i64 n4.kind, .string ⟨n4.text.toArray⟩, .int .i64 n4.cols, .slice A4 n4.kids.length cp4] 24)
  have hbr := (HBR4.out.far2 (L := w.heap.size) (g := w2.heap.size) (by have := HS2.out; omega) (.int .i64 (i : Int)) (.int .i64 (er : Int))).alloc (.cells #[.int .i64 n4.kind, .string ⟨n4.text.toArray⟩, .int .i64 n4.cols, .slice A4 n4.kids.length cp4] 24)
  have hmr : Mp c.g c.W0.heap.size w _ := (HM4.out.put2 (g := w2.heap.size) (.inr (by have := HS2.out; omega)) (.int .i64 (i : Int)) (.int .i64 (er : Int))).alloc (.cells #[.int .i64 n4.kind, .string ⟨n4.text.toArray⟩, .int .i64 n4.cols, .slice A4 n4.kids.length cp4] 24)
  simp only [put2] at hbe hbr hmr
  generalize (World.setCell (World.setCell w4 ⟨w2.heap.size, 0, none⟩ _) ⟨w2.heap.size, 1, none⟩ _).alloc _ = W5 at hbe hbr hmr ⊢
  clear q0 q1 z0 z1 hlt3
  have r0 := cell_regrown (hbe.cell 0 |>.trans rfl)
  have r1 := cell_regrown (hbe.cell 1 |>.trans rfl)
  have hlt3 := hbe.lt
  have HBR := hid hbr
  have HMR := hid hmr
  clear hbe hbr hmr
  refine wp_region_mix [([(0, true), (1, true)], 2)] [] (by kernel_rfl) (fun _ _ d _ _ h => by cases d <;> exact h) (by kernel_rfl) ?_
  refine wpMix_seg ?_
  repeat (refine wpSeq_plain rfl (fun K hK => ?_); go_simp; refine hK _ ?_; clear hK K)
  obtain ⟨p0, p1, y0, y1, hlt⟩ := Blk.two (HBR.out.drewN 1)
  refine wpSeq_shut rfl (fun K hK => ?_)
  go_wp2_with fail
  refine wpMix_end ?_
  go_wp2_with fail
  have hb5 : Blk _ (w.heap.size) 88 #[.int .i64 (i : Int), .int .i64 (er : Int)] := ((HBR.out.drewN 1).put 0 (.int .i64 (i : Int))).put 1 (.int .i64 (er : Int))
  have hm5 := ((HMR.out.drewN 1).setCell (p := ⟨w.heap.size, 0, none⟩) (.inr (by show w.heap.size ≤ w.heap.size; omega)) (.int .i64 (i : Int))).setCell (p := ⟨w.heap.size, 1, none⟩) (.inr (by show w.heap.size ≤ w.heap.size; omega)) (.int .i64 (er : Int))
  obtain ⟨f0, f1, _⟩ := Blk.two hb5
  (try simp only [Exit.inBlock, Exit.then])
  refine bodyPost_ret (v := .tuple #[.slice none 0 0, failV i er]) (by simp [failV, results, Tryz.results113, go_sem, f0, f1]) rfl ?_
  exact HQ.out _ _ ⟨HE0.out, none, 0, 0, rfl, hm5⟩
 have HSO4 := hid hso
 have HKk2 := hid hkk
 have HP4 := hid hp
 clear hso hkk hp
 (try simp only [R.bind_ok] at HNE HQ ⊢); (try simp only [Option.isSome_none] at HNE HQ ⊢); (try simp only [Option.isSome_some] at HNE HQ ⊢); (try simp only [Option.isNone_none] at HNE HQ ⊢); (try simp only [Option.isNone_some] at HNE HQ ⊢); (try simp only [Bool.false_and] at HNE HQ ⊢); (try simp only [Bool.true_and] at HNE HQ ⊢); (try simp only [Bool.and_true] at HNE HQ ⊢); (try simp only [Bool.and_false] at HNE HQ ⊢); (try simp only [if_true] at HNE HQ ⊢); (try simp only [Bool.false_eq_true] at HNE HQ ⊢); (try simp only [if_false] at HNE HQ ⊢)
 unfold failV nodeV
 go_wp2_with fail
 have es : (put2 w4 w2.heap.size (.int .i64 0) (.int .i64 0)).heap.size = w4.heap.size := by simp [put2]
 have hb6 := (HB64.out.self2 (.int .i64 0) (.int .i64 0)).alloc (.cells #[.int .i64 n4.kind, .string ⟨n4.text.toArray⟩, .int .i64 n4.cols, .slice A4 n4.kids.length cp4] 24)
 have hbr := (HBR4.out.far2 (L := w.heap.size) (g := w2.heap.size) (by have := HS2.out; omega) (.int .i64 0) (.int .i64 0)).alloc (.cells #[.int .i64 n4.kind, .string ⟨n4.text.toArray⟩, .int .i64 n4.cols, .slice A4 n4.kids.length cp4] 24)
 have hbn := Blk.new (put2 w4 w2.heap.size (.int .i64 0) (.int .i64 0)) 24 #[.int .i64 n4.kind, .string ⟨n4.text.toArray⟩, .int .i64 n4.cols, .slice A4 n4.kids.length cp4]
 rw [es] at hbn
 have hc : Mp c.g c.W0.heap.size w2 ((put2 w4 w2.heap.size (.int .i64 0) (.int .i64 0)).alloc (.cells #[.int .i64 n4.kind, .string ⟨n4.text.toArray⟩, .int .i64 n4.cols, .slice A4 n4.kids.length cp4] 24)) := (HC4.out.put2 (g := w2.heap.size) (.inr (Nat.le_refl _)) (.int .i64 0) (.int .i64 0)).alloc (.cells #[.int .i64 n4.kind, .string ⟨n4.text.toArray⟩, .int .i64 n4.cols, .slice A4 n4.kids.length cp4] 24)
 have hm : Mp c.g c.W0.heap.size w ((put2 w4 w2.heap.size (.int .i64 0) (.int .i64 0)).alloc (.cells #[.int .i64 n4.kind, .string ⟨n4.text.toArray⟩, .int .i64 n4.cols, .slice A4 n4.kids.length cp4] 24)) := (HM4.out.put2 (g := w2.heap.size) (.inr (by have := HS2.out; omega)) (.int .i64 0) (.int .i64 0)).alloc (.cells #[.int .i64 n4.kind, .string ⟨n4.text.toArray⟩, .int .i64 n4.cols, .slice A4 n4.kids.length cp4] 24)
 have hp5 : Ps c k2 op ((put2 w4 w2.heap.size (.int .i64 0) (.int .i64 0)).alloc (.cells #[.int .i64 n4.kind, .string ⟨n4.text.toArray⟩, .int .i64 n4.cols, .slice A4 n4.kids.length cp4] 24)) := (HP4.out.put2 HB64.out (by decide) (by have := HS2.out; omega) (by have := HS2.out; have := HW0.out; omega) (.int .i64 0) (.int .i64 0)).fresh ((Touch.refl _ _).alloc (.cells #[.int .i64 n4.kind, .string ⟨n4.text.toArray⟩, .int .i64 n4.cols, .slice A4 n4.kids.length cp4] 24))
 have ht5 : ∀ B ks v, TreT B w4 ks v → TreT B ((put2 w4 w2.heap.size (.int .i64 0) (.int .i64 0)).alloc (.cells #[.int .i64 n4.kind, .string ⟨n4.text.toArray⟩, .int .i64 n4.cols, .slice A4 n4.kids.length cp4] 24)) ks v := fun B ks v h => (h.other HB64.out (by decide) (touch2 w4 w2.heap.size (.int .i64 0) (.int .i64 0))).fresh ((Touch.refl _ _).alloc (.cells #[.int .i64 n4.kind, .string ⟨n4.text.toArray⟩, .int .i64 n4.cols, .slice A4 n4.kids.length cp4] 24))
 have hz5 : w4.heap.size < ((put2 w4 w2.heap.size (.int .i64 0) (.int .i64 0)).alloc (.cells #[.int .i64 n4.kind, .string ⟨n4.text.toArray⟩, .int .i64 n4.cols, .slice A4 n4.kids.length cp4] 24)).heap.size := by simp [put2]
 simp only [put2] at hb6 hbr hbn hc hm hp5 ht5 hz5 
 generalize (World.setCell (World.setCell w4 ⟨w2.heap.size, 0, none⟩ _) ⟨w2.heap.size, 1, none⟩ _).alloc _ = w5 at hb6 hbr hbn hc hm hp5 ht5 hz5  ⊢
 have HB65 := hid hb6
 have HBR5 := hid hbr
 have HB75 := hid hbn
 have HC5 := hid hc
 have HM5 := hid hm
 have HP5 := hid hp5
 have HX5 := hid ht5
 have HY5 := hid hz5
 clear hb6 hbr hbn hc hm hp5 ht5 hz5  es q0 q1 z0 z1 hlt3
 refine (HSC.out k2 op 94 w5 HP5.out (by have := HOP.out; have := HK1.out; have := HKk2.out; omega) (fun h => HNE.out (by rw [h] <;> rfl))).mono ?_
 intro e w6 hres
 have hparts := hres.parts (fun h => HNE.out (by rw [h] <;> rfl))
 clear hres
 generalize pScript c.en f 94 op (c.T.drop k2) = X at HNE HQ hparts
 obtain ⟨n6, A6, cp6, th6, i, er, rfl, hm, hend⟩ := hparts
 have HD6 := hid hm
 have HB66 := hid (hm.blk HB65.out (by have := HS2.out; omega) (by decide))
 have HBR6 := hid (hm.blk HBR5.out (by omega) (by decide))
 have HC6 := hid (HC5.out.trans hm)
 have HM6 := hid (HM5.out.trans hm)
 have HS6 := hid (show w2.heap.size < w6.heap.size from HB66.out.lt)
 have HZ6 := hid (show w5.heap.size ≤ w6.heap.size from hm.size)
 have HB76 := hid (show Blk w6 w4.heap.size 24 #[.int .i64 n4.kind, .string ⟨n4.text.toArray⟩, .int .i64 n4.cols, .slice A4 n4.kids.length cp4] from hm.blk HB75.out (by have := HS4.out; have := HS2.out; omega) (by decide))
 clear hm
 obtain ⟨q0, q1, z0, z1, hlt3⟩ := Blk.two HB66.out
 rcases hend with ⟨so2, rest, k3, rfl, rfl, rfl, rfl, hso, rfl, hkk, hp⟩ | ⟨rfl, he0⟩
 case inr =>
  have HE0 := hid he0
  have e0 := fail_ne he0
  clear he0
  unfold failV nodeV
  go_wp2_with fail
  have hbe := (HB66.out.self2 (.int .i64 (i : Int)) (.int .i64 (er : Int))).alloc (.cells #[.int .i64 n6.kind, .string ⟨n6.text.toArray⟩, .int .i64 n6.cols, .slice A6 n6.kids.length cp6] 24)
  have hbr := (HBR6.out.far2 (L := w.heap.size) (g := w2.heap.size) (by have := HS2.out; omega) (.int .i64 (i : Int)) (.int .i64 (er : Int))).alloc (.cells #[.int .i64 n6.kind, .string ⟨n6.text.toArray⟩, .int .i64 n6.cols, .slice A6 n6.kids.length cp6] 24)
  have hmr : Mp c.g c.W0.heap.size w _ := (HM6.out.put2 (g := w2.heap.size) (.inr (by have := HS2.out; omega)) (.int .i64 (i : Int)) (.int .i64 (er : Int))).alloc (.cells #[.int .i64 n6.kind, .string ⟨n6.text.toArray⟩, .int .i64 n6.cols, .slice A6 n6.kids.length cp6] 24)
  simp only [put2] at hbe hbr hmr
  generalize (World.setCell (World.setCell w6 ⟨w2.heap.size, 0, none⟩ _) ⟨w2.heap.size, 1, none⟩ _).alloc _ = W5 at hbe hbr hmr ⊢
  clear q0 q1 z0 z1 hlt3
  have r0 := cell_regrown (hbe.cell 0 |>.trans rfl)
  have r1 := cell_regrown (hbe.cell 1 |>.trans rfl)
  have hlt3 := hbe.lt
  have HBR := hid hbr
  have HMR := hid hmr
  clear hbe hbr hmr
  refine wp_region_mix [([(0, true), (1, true)], 2)] [] (by kernel_rfl) (fun _ _ d _ _ h => by cases d <;> exact h) (by kernel_rfl) ?_
  refine wpMix_seg ?_
  repeat (refine wpSeq_plain rfl (fun K hK => ?_); go_simp; refine hK _ ?_; clear hK K)
  obtain ⟨p0, p1, y0, y1, hlt⟩ := Blk.two (HBR.out.drewN 1)
  refine wpSeq_shut rfl (fun K hK => ?_)
  go_wp2_with fail
  refine wpMix_end ?_
  go_wp2_with fail
  have hb5 : Blk _ (w.heap.size) 88 #[.int .i64 (i : Int), .int .i64 (er : Int)] := ((HBR.out.drewN 1).put 0 (.int .i64 (i : Int))).put 1 (.int .i64 (er : Int))
  have hm5 := ((HMR.out.drewN 1).setCell (p := ⟨w.heap.size, 0, none⟩) (.inr (by show w.heap.size ≤ w.heap.size; omega)) (.int .i64 (i : Int))).setCell (p := ⟨w.heap.size, 1, none⟩) (.inr (by show w.heap.size ≤ w.heap.size; omega)) (.int .i64 (er : Int))
  obtain ⟨f0, f1, _⟩ := Blk.two hb5
  (try simp only [Exit.inBlock, Exit.then])
  refine bodyPost_ret (v := .tuple #[.slice none 0 0, failV i er]) (by simp [failV, results, Tryz.results113, go_sem, f0, f1]) rfl ?_
  exact HQ.out _ _ ⟨HE0.out, none, 0, 0, rfl, hm5⟩
 have HY1 := hid (show w1.heap.size ≤ w1.heap.size from Nat.le_refl _)
 cases so1 with
 | none =>
  cases so2 with
  | none =>
   simp only [Np.scripts] at HQ
   cases gp with
   | true =>
    have HSO6 := hid hso
    have HKk3 := hid hkk
    have HP6 := hid hp
    clear hso hkk hp
    (try simp only [R.bind_ok] at HNE HQ ⊢); (try simp only [Option.isSome_none] at HNE HQ ⊢); (try simp only [Option.isSome_some] at HNE HQ ⊢); (try simp only [Option.isNone_none] at HNE HQ ⊢); (try simp only [Option.isNone_some] at HNE HQ ⊢); (try simp only [Bool.false_and] at HNE HQ ⊢); (try simp only [Bool.true_and] at HNE HQ ⊢); (try simp only [Bool.and_true] at HNE HQ ⊢); (try simp only [Bool.and_false] at HNE HQ ⊢); (try simp only [if_true] at HNE HQ ⊢); (try simp only [Bool.false_eq_true] at HNE HQ ⊢); (try simp only [if_false] at HNE HQ ⊢)
    unfold failV nodeV
    go_wp2_with fail
    have es : (put2 w6 w2.heap.size (.int .i64 0) (.int .i64 0)).heap.size = w6.heap.size := by simp [put2]
    have hb6 := (HB66.out.self2 (.int .i64 0) (.int .i64 0)).alloc (.cells #[.int .i64 n6.kind, .string ⟨n6.text.toArray⟩, .int .i64 n6.cols, .slice A6 n6.kids.length cp6] 24)
    have hbr := (HBR6.out.far2 (L := w.heap.size) (g := w2.heap.size) (by have := HS2.out; omega) (.int .i64 0) (.int .i64 0)).alloc (.cells #[.int .i64 n6.kind, .string ⟨n6.text.toArray⟩, .int .i64 n6.cols, .slice A6 n6.kids.length cp6] 24)
    have hbn := Blk.new (put2 w6 w2.heap.size (.int .i64 0) (.int .i64 0)) 24 #[.int .i64 n6.kind, .string ⟨n6.text.toArray⟩, .int .i64 n6.cols, .slice A6 n6.kids.length cp6]
    rw [es] at hbn
    have hc : Mp c.g c.W0.heap.size w2 ((put2 w6 w2.heap.size (.int .i64 0) (.int .i64 0)).alloc (.cells #[.int .i64 n6.kind, .string ⟨n6.text.toArray⟩, .int .i64 n6.cols, .slice A6 n6.kids.length cp6] 24)) := (HC6.out.put2 (g := w2.heap.size) (.inr (Nat.le_refl _)) (.int .i64 0) (.int .i64 0)).alloc (.cells #[.int .i64 n6.kind, .string ⟨n6.text.toArray⟩, .int .i64 n6.cols, .slice A6 n6.kids.length cp6] 24)
    have hm : Mp c.g c.W0.heap.size w ((put2 w6 w2.heap.size (.int .i64 0) (.int .i64 0)).alloc (.cells #[.int .i64 n6.kind, .string ⟨n6.text.toArray⟩, .int .i64 n6.cols, .slice A6 n6.kids.length cp6] 24)) := (HM6.out.put2 (g := w2.heap.size) (.inr (by have := HS2.out; omega)) (.int .i64 0) (.int .i64 0)).alloc (.cells #[.int .i64 n6.kind, .string ⟨n6.text.toArray⟩, .int .i64 n6.cols, .slice A6 n6.kids.length cp6] 24)
    have hp5 : Ps c k3 op ((put2 w6 w2.heap.size (.int .i64 0) (.int .i64 0)).alloc (.cells #[.int .i64 n6.kind, .string ⟨n6.text.toArray⟩, .int .i64 n6.cols, .slice A6 n6.kids.length cp6] 24)) := (HP6.out.put2 HB66.out (by decide) (by have := HS2.out; omega) (by have := HS2.out; have := HW0.out; omega) (.int .i64 0) (.int .i64 0)).fresh ((Touch.refl _ _).alloc (.cells #[.int .i64 n6.kind, .string ⟨n6.text.toArray⟩, .int .i64 n6.cols, .slice A6 n6.kids.length cp6] 24))
    have ht5 : ∀ B ks v, TreT B w6 ks v → TreT B ((put2 w6 w2.heap.size (.int .i64 0) (.int .i64 0)).alloc (.cells #[.int .i64 n6.kind, .string ⟨n6.text.toArray⟩, .int .i64 n6.cols, .slice A6 n6.kids.length cp6] 24)) ks v := fun B ks v h => (h.other HB66.out (by decide) (touch2 w6 w2.heap.size (.int .i64 0) (.int .i64 0))).fresh ((Touch.refl _ _).alloc (.cells #[.int .i64 n6.kind, .string ⟨n6.text.toArray⟩, .int .i64 n6.cols, .slice A6 n6.kids.length cp6] 24))
    have hz5 : w6.heap.size < ((put2 w6 w2.heap.size (.int .i64 0) (.int .i64 0)).alloc (.cells #[.int .i64 n6.kind, .string ⟨n6.text.toArray⟩, .int .i64 n6.cols, .slice A6 n6.kids.length cp6] 24)).heap.size := by simp [put2]
    have HB7o := (HB76.out.far2 (L := w4.heap.size) (g := w2.heap.size) (by have := HS4.out; omega) (.int .i64 0) (.int .i64 0)).alloc (.cells #[.int .i64 n6.kind, .string ⟨n6.text.toArray⟩, .int .i64 n6.cols, .slice A6 n6.kids.length cp6] 24)
    simp only [put2] at hb6 hbr hbn hc hm hp5 ht5 hz5 HB7o
    generalize (World.setCell (World.setCell w6 ⟨w2.heap.size, 0, none⟩ _) ⟨w2.heap.size, 1, none⟩ _).alloc _ = w7 at hb6 hbr hbn hc hm hp5 ht5 hz5 HB7o ⊢
    have HB67 := hid hb6
    have HBR7 := hid hbr
    have HB97 := hid hbn
    have HC7 := hid hc
    have HM7 := hid hm
    have HP7 := hid hp5
    have HX7 := hid ht5
    have HY7 := hid hz5
    have HB77 := hid HB7o
    clear hb6 hbr hbn hc hm hp5 ht5 hz5 HB7o es q0 q1 z0 z1 hlt3
    refine (HR.out k3 w7 HP7.out).mono ?_
    rintro _ w9 ⟨rfl, hf⟩
    have HM3' := hid (HM7.out.fr hf)
    have HBF3 := hid (hf.blk HBR7.out fun h => h)
    (try simp only [Np.refuse] at HQ)
    clear hf
    clear HM3
    have HM3 := HM3'
    generalize Np.place c.en (c.T.drop k3) = pl at HQ ⊢
    obtain ⟨q0, q1, z0, z1, hlt3⟩ := Blk.two HBF3.out
    (try unfold failV)
    go_wp2_with fail
    have n1 := HBF3.out.self2 (.int .i64 (pl : Int)) (.int .i64 3)
    have hm4 : Mp c.g c.W0.heap.size w (put2 w9 (w.heap.size) (.int .i64 (pl : Int)) (.int .i64 3)) := HM3.out.put2 (g := w.heap.size) (.inr (by omega)) (.int .i64 (pl : Int)) (.int .i64 3)
    have ht4 := touch2 w9 (w.heap.size) (.int .i64 (pl : Int)) (.int .i64 3)
    simp only [put2] at n1 hm4 ht4
    generalize (World.setCell (World.setCell w9 ⟨w.heap.size, 0, none⟩ _) ⟨w.heap.size, 1, none⟩ _) = W4 at n1 hm4 ht4 ⊢
    obtain ⟨f0, f1, _⟩ := Blk.two n1
    (try simp only [Exit.inBlock, Exit.then])
    refine bodyPost_ret (v := .tuple #[.slice none 0 0, failV pl 3]) (by simp [failV, results, Tryz.results113, go_sem, f0, f1]) rfl ?_
    exact HQ.out _ _ ⟨by decide, none, 0, 0, rfl, hm4⟩
   | false =>
    have HKk3 := hid hkk
    have HP6 := hid hp
    clear hso hkk hp
    (try simp only [R.bind_ok] at HNE HQ ⊢); (try simp only [Option.isSome_none] at HNE HQ ⊢); (try simp only [Option.isSome_some] at HNE HQ ⊢); (try simp only [Option.isNone_none] at HNE HQ ⊢); (try simp only [Option.isNone_some] at HNE HQ ⊢); (try simp only [Bool.false_and] at HNE HQ ⊢); (try simp only [Bool.true_and] at HNE HQ ⊢); (try simp only [Bool.and_true] at HNE HQ ⊢); (try simp only [Bool.and_false] at HNE HQ ⊢); (try simp only [if_true] at HNE HQ ⊢); (try simp only [Bool.false_eq_true] at HNE HQ ⊢); (try simp only [if_false] at HNE HQ ⊢)
    obtain ⟨p0, p1, y0, y1, hlt0⟩ := Blk.two HBR6.out
    have hs2 := HS2.out
    unfold failV nodeV
    go_wp2_with fail
    have n6' := HB66.out.self2 (.int .i64 0) (.int .i64 0)
    have nr := HBR6.out.far2 (L := w.heap.size) (g := w2.heap.size) (by have := HS2.out; omega) (.int .i64 0) (.int .i64 0)
    have hps := ((HP6.out.put2 HB66.out (by decide) (by have := HS2.out; omega) (by have := HS2.out; have := HW0.out; omega) (.int .i64 0) (.int .i64 0)).put2 nr (by decide) (by omega) HW0.out (.int .i64 0) (.int .i64 0)).fresh ((Touch.refl _ _).alloc (.cells #[.int .i64 n6.kind, .string ⟨n6.text.toArray⟩, .int .i64 n6.cols, .slice A6 n6.kids.length cp6] 24))
    have ht := (((HT2.out.mp HC6.out HP2.out).other HB66.out (by decide) (touch2 w6 w2.heap.size (.int .i64 0) (.int .i64 0))).other nr (by decide) (touch2 _ w.heap.size (.int .i64 0) (.int .i64 0))).fresh ((Touch.refl _ _).alloc (.cells #[.int .i64 n6.kind, .string ⟨n6.text.toArray⟩, .int .i64 n6.cols, .slice A6 n6.kids.length cp6] 24))
    have hm8 : Mp c.g c.W0.heap.size w _ := ((HM6.out.put2 (g := w2.heap.size) (.inr (by have := HS2.out; omega)) (.int .i64 0) (.int .i64 0)).put2 (g := w.heap.size) (.inr (Nat.le_refl _)) (.int .i64 0) (.int .i64 0)).alloc (.cells #[.int .i64 n6.kind, .string ⟨n6.text.toArray⟩, .int .i64 n6.cols, .slice A6 n6.kids.length cp6] 24)
    have nr2 := (nr.self2 (.int .i64 0) (.int .i64 0)).alloc (.cells #[.int .i64 n6.kind, .string ⟨n6.text.toArray⟩, .int .i64 n6.cols, .slice A6 n6.kids.length cp6] 24)
    simp only [put2] at hps ht hm8 nr2
    obtain ⟨f0, f1, _⟩ := Blk.two nr2
    (try simp only [Exit.inBlock, Exit.then])
    refine bodyPost_ret (v := .tuple #[.slice A items.length cp, failV 0 0]) (by simp [failV, results, Tryz.results113, go_sem, f0, f1]) rfl ?_
    exact HQ.out _ _ ⟨A, cp, k3, rfl, ht.base HF1.out.size, rfl, by have := HK1.out; have := HKk2.out; have := HKk3.out; omega, hps, hm8⟩
  | some a2 =>
   have HSO6 := hid hso
   have HKk3 := hid hkk
   have HP6 := hid hp
   clear hso hkk hp
   (try simp only [R.bind_ok] at HNE HQ ⊢); (try simp only [Option.isSome_none] at HNE HQ ⊢); (try simp only [Option.isSome_some] at HNE HQ ⊢); (try simp only [Option.isNone_none] at HNE HQ ⊢); (try simp only [Option.isNone_some] at HNE HQ ⊢); (try simp only [Bool.false_and] at HNE HQ ⊢); (try simp only [Bool.true_and] at HNE HQ ⊢); (try simp only [Bool.and_true] at HNE HQ ⊢); (try simp only [Bool.and_false] at HNE HQ ⊢); (try simp only [if_true] at HNE HQ ⊢); (try simp only [Bool.false_eq_true] at HNE HQ ⊢); (try simp only [if_false] at HNE HQ ⊢)
   unfold failV nodeV
   go_wp2_with fail
   have es : (put2 w6 w2.heap.size (.int .i64 0) (.int .i64 0)).heap.size = w6.heap.size := by simp [put2]
   have hb6 := (HB66.out.self2 (.int .i64 0) (.int .i64 0)).alloc (.cells #[.int .i64 n6.kind, .string ⟨n6.text.toArray⟩, .int .i64 n6.cols, .slice A6 n6.kids.length cp6] 24)
   have hbr := (HBR6.out.far2 (L := w.heap.size) (g := w2.heap.size) (by have := HS2.out; omega) (.int .i64 0) (.int .i64 0)).alloc (.cells #[.int .i64 n6.kind, .string ⟨n6.text.toArray⟩, .int .i64 n6.cols, .slice A6 n6.kids.length cp6] 24)
   have hbn := Blk.new (put2 w6 w2.heap.size (.int .i64 0) (.int .i64 0)) 24 #[.int .i64 n6.kind, .string ⟨n6.text.toArray⟩, .int .i64 n6.cols, .slice A6 n6.kids.length cp6]
   rw [es] at hbn
   have hc : Mp c.g c.W0.heap.size w2 ((put2 w6 w2.heap.size (.int .i64 0) (.int .i64 0)).alloc (.cells #[.int .i64 n6.kind, .string ⟨n6.text.toArray⟩, .int .i64 n6.cols, .slice A6 n6.kids.length cp6] 24)) := (HC6.out.put2 (g := w2.heap.size) (.inr (Nat.le_refl _)) (.int .i64 0) (.int .i64 0)).alloc (.cells #[.int .i64 n6.kind, .string ⟨n6.text.toArray⟩, .int .i64 n6.cols, .slice A6 n6.kids.length cp6] 24)
   have hm : Mp c.g c.W0.heap.size w ((put2 w6 w2.heap.size (.int .i64 0) (.int .i64 0)).alloc (.cells #[.int .i64 n6.kind, .string ⟨n6.text.toArray⟩, .int .i64 n6.cols, .slice A6 n6.kids.length cp6] 24)) := (HM6.out.put2 (g := w2.heap.size) (.inr (by have := HS2.out; omega)) (.int .i64 0) (.int .i64 0)).alloc (.cells #[.int .i64 n6.kind, .string ⟨n6.text.toArray⟩, .int .i64 n6.cols, .slice A6 n6.kids.length cp6] 24)
   have hp5 : Ps c k3 op ((put2 w6 w2.heap.size (.int .i64 0) (.int .i64 0)).alloc (.cells #[.int .i64 n6.kind, .string ⟨n6.text.toArray⟩, .int .i64 n6.cols, .slice A6 n6.kids.length cp6] 24)) := (HP6.out.put2 HB66.out (by decide) (by have := HS2.out; omega) (by have := HS2.out; have := HW0.out; omega) (.int .i64 0) (.int .i64 0)).fresh ((Touch.refl _ _).alloc (.cells #[.int .i64 n6.kind, .string ⟨n6.text.toArray⟩, .int .i64 n6.cols, .slice A6 n6.kids.length cp6] 24))
   have ht5 : ∀ B ks v, TreT B w6 ks v → TreT B ((put2 w6 w2.heap.size (.int .i64 0) (.int .i64 0)).alloc (.cells #[.int .i64 n6.kind, .string ⟨n6.text.toArray⟩, .int .i64 n6.cols, .slice A6 n6.kids.length cp6] 24)) ks v := fun B ks v h => (h.other HB66.out (by decide) (touch2 w6 w2.heap.size (.int .i64 0) (.int .i64 0))).fresh ((Touch.refl _ _).alloc (.cells #[.int .i64 n6.kind, .string ⟨n6.text.toArray⟩, .int .i64 n6.cols, .slice A6 n6.kids.length cp6] 24))
   have hz5 : w6.heap.size < ((put2 w6 w2.heap.size (.int .i64 0) (.int .i64 0)).alloc (.cells #[.int .i64 n6.kind, .string ⟨n6.text.toArray⟩, .int .i64 n6.cols, .slice A6 n6.kids.length cp6] 24)).heap.size := by simp [put2]
   have HB7o := (HB76.out.far2 (L := w4.heap.size) (g := w2.heap.size) (by have := HS4.out; omega) (.int .i64 0) (.int .i64 0)).alloc (.cells #[.int .i64 n6.kind, .string ⟨n6.text.toArray⟩, .int .i64 n6.cols, .slice A6 n6.kids.length cp6] 24)
   simp only [put2] at hb6 hbr hbn hc hm hp5 ht5 hz5 HB7o
   generalize (World.setCell (World.setCell w6 ⟨w2.heap.size, 0, none⟩ _) ⟨w2.heap.size, 1, none⟩ _).alloc _ = w7 at hb6 hbr hbn hc hm hp5 ht5 hz5 HB7o ⊢
   have HB67 := hid hb6
   have HBR7 := hid hbr
   have HB97 := hid hbn
   have HC7 := hid hc
   have HM7 := hid hm
   have HP7 := hid hp5
   have HX7 := hid ht5
   have HY7 := hid hz5
   have HB77 := hid HB7o
   clear hb6 hbr hbn hc hm hp5 ht5 hz5 HB7o es q0 q1 z0 z1 hlt3
   obtain ⟨ha, htr2, htx2⟩ := HSO6.out rfl
   cases ha
   have HR2 := hid htr2
   have HRX2 := hid htx2
   clear htr2 htx2
   refine (HSC.out k3 op 95 w7 HP7.out (by have := HOP.out; have := HK1.out; have := HKk2.out; have := HKk3.out; omega) (fun h => HNE.out (by rw [h] <;> rfl))).mono ?_
   intro e w8 hres
   have hparts := hres.parts (fun h => HNE.out (by rw [h] <;> rfl))
   clear hres
   generalize pScript c.en f 95 op (c.T.drop k3) = X at HNE HQ hparts
   obtain ⟨n8, A8, cp8, th8, i, er, rfl, hm, hend⟩ := hparts
   have HD8 := hid hm
   have HB68 := hid (hm.blk HB67.out (by have := HS2.out; omega) (by decide))
   have HBR8 := hid (hm.blk HBR7.out (by omega) (by decide))
   have HC8 := hid (HC7.out.trans hm)
   have HM8 := hid (HM7.out.trans hm)
   have HS8 := hid (show w2.heap.size < w8.heap.size from HB68.out.lt)
   have HZ8 := hid (show w7.heap.size ≤ w8.heap.size from hm.size)
   have HB78 := hid (show Blk w8 w4.heap.size 24 #[.int .i64 n4.kind, .string ⟨n4.text.toArray⟩, .int .i64 n4.cols, .slice A4 n4.kids.length cp4] from hm.blk HB77.out (by have := HS4.out; have := HS2.out; omega) (by decide))
   have HB98 := hid (show Blk w8 w6.heap.size 24 #[.int .i64 n6.kind, .string ⟨n6.text.toArray⟩, .int .i64 n6.cols, .slice A6 n6.kids.length cp6] from hm.blk HB97.out (by have := HS6.out; have := HS2.out; omega) (by decide))
   clear hm
   obtain ⟨q0, q1, z0, z1, hlt3⟩ := Blk.two HB68.out
   have hs4 := HS4.out
   obtain ⟨p0, p1, p2, p3, y0, y1, y2, y3, hlt7⟩ := Blk.four HB78.out
   rcases hend with ⟨so3, rest, k4, rfl, rfl, rfl, rfl, hso, rfl, hkk, hp⟩ | ⟨rfl, he0⟩
   case inr =>
    have HE0 := hid he0
    have e0 := fail_ne he0
    clear he0
    unfold failV nodeV
    go_wp2_with fail
    have hbe := (HB68.out.far4 (L := w2.heap.size) (g := w4.heap.size) (by have := HS4.out; omega) (.int .i64 n8.kind) (.string ⟨n8.text.toArray⟩) (.int .i64 n8.cols) (.slice A8 n8.kids.length cp8)).self2 (.int .i64 (i : Int)) (.int .i64 (er : Int))
    have hbr := (HBR8.out.far4 (L := w.heap.size) (g := w4.heap.size) (by have := HS4.out; have := HS2.out; omega) (.int .i64 n8.kind) (.string ⟨n8.text.toArray⟩) (.int .i64 n8.cols) (.slice A8 n8.kids.length cp8)).far2 (L := w.heap.size) (g := w2.heap.size) (by have := HS2.out; omega) (.int .i64 (i : Int)) (.int .i64 (er : Int))
    have hmr : Mp c.g c.W0.heap.size w _ := (HM8.out.put4 (g := w4.heap.size) (.inr (by have := HS4.out; have := HS2.out; omega)) (.int .i64 n8.kind) (.string ⟨n8.text.toArray⟩) (.int .i64 n8.cols) (.slice A8 n8.kids.length cp8)).put2 (g := w2.heap.size) (.inr (by have := HS2.out; omega)) (.int .i64 (i : Int)) (.int .i64 (er : Int))
    simp only [put2, put4] at hbe hbr hmr
    generalize World.setCell (World.setCell _ ⟨w2.heap.size, 0, none⟩ _) ⟨w2.heap.size, 1, none⟩ _ = W5 at hbe hbr hmr ⊢
    clear q0 q1 z0 z1 hlt3 p0 p1 p2 p3 y0 y1 y2 y3 hlt7
    have r0 := cell_regrown (hbe.cell 0 |>.trans rfl)
    have r1 := cell_regrown (hbe.cell 1 |>.trans rfl)
    have hlt3 := hbe.lt
    have HBR := hid hbr
    have HMR := hid hmr
    clear hbe hbr hmr
    refine wp_region_mix [([(0, true), (1, true)], 2)] [] (by kernel_rfl) (fun _ _ d _ _ h => by cases d <;> exact h) (by kernel_rfl) ?_
    refine wpMix_seg ?_
    repeat (refine wpSeq_plain rfl (fun K hK => ?_); go_simp; refine hK _ ?_; clear hK K)
    obtain ⟨p0, p1, y0, y1, hlt⟩ := Blk.two (HBR.out.drewN 1)
    refine wpSeq_shut rfl (fun K hK => ?_)
    go_wp2_with fail
    refine wpMix_end ?_
    go_wp2_with fail
    have hb5 : Blk _ (w.heap.size) 88 #[.int .i64 (i : Int), .int .i64 (er : Int)] := ((HBR.out.drewN 1).put 0 (.int .i64 (i : Int))).put 1 (.int .i64 (er : Int))
    have hm5 := ((HMR.out.drewN 1).setCell (p := ⟨w.heap.size, 0, none⟩) (.inr (by show w.heap.size ≤ w.heap.size; omega)) (.int .i64 (i : Int))).setCell (p := ⟨w.heap.size, 1, none⟩) (.inr (by show w.heap.size ≤ w.heap.size; omega)) (.int .i64 (er : Int))
    obtain ⟨f0, f1, _⟩ := Blk.two hb5
    (try simp only [Exit.inBlock, Exit.then])
    refine bodyPost_ret (v := .tuple #[.slice none 0 0, failV i er]) (by simp [failV, results, Tryz.results113, go_sem, f0, f1]) rfl ?_
    exact HQ.out _ _ ⟨HE0.out, none, 0, 0, rfl, hm5⟩
   cases so3 with
   | none =>
    have HSO8 := hid hso
    have HKk4 := hid hkk
    have HP8 := hid hp
    clear hso hkk hp
    (try simp only [R.bind_ok] at HNE HQ ⊢); (try simp only [Option.isSome_none] at HNE HQ ⊢); (try simp only [Option.isSome_some] at HNE HQ ⊢); (try simp only [Option.isNone_none] at HNE HQ ⊢); (try simp only [Option.isNone_some] at HNE HQ ⊢); (try simp only [Bool.false_and] at HNE HQ ⊢); (try simp only [Bool.true_and] at HNE HQ ⊢); (try simp only [Bool.and_true] at HNE HQ ⊢); (try simp only [Bool.and_false] at HNE HQ ⊢); (try simp only [if_true] at HNE HQ ⊢); (try simp only [Bool.false_eq_true] at HNE HQ ⊢); (try simp only [if_false] at HNE HQ ⊢)
    simp only [Np.scripts] at HQ
    unfold failV nodeV
    go_wp2_with fail
    have hb6' := HB68.out.far4 (L := w2.heap.size) (g := w4.heap.size) (by have := HS4.out; omega) (.int .i64 n8.kind) (.string ⟨n8.text.toArray⟩) (.int .i64 n8.cols) (.slice A8 n8.kids.length cp8)
    have hb6 := hb6'.self2 (.int .i64 0) (.int .i64 0)
    have hbr := (HBR8.out.far4 (L := w.heap.size) (g := w4.heap.size) (by have := HS4.out; have := HS2.out; omega) (.int .i64 n8.kind) (.string ⟨n8.text.toArray⟩) (.int .i64 n8.cols) (.slice A8 n8.kids.length cp8)).far2 (L := w.heap.size) (g := w2.heap.size) (by have := HS2.out; omega) (.int .i64 0) (.int .i64 0)
    have hb7 := (HB78.out.self4 (.int .i64 n8.kind) (.string ⟨n8.text.toArray⟩) (.int .i64 n8.cols) (.slice A8 n8.kids.length cp8)).far2 (L := w4.heap.size) (g := w2.heap.size) (by have := HS4.out; omega) (.int .i64 0) (.int .i64 0)
    have hb9 := (HB98.out.far4 (L := w6.heap.size) (g := w4.heap.size) (by have := HY5.out; have := HZ6.out; omega) (.int .i64 n8.kind) (.string ⟨n8.text.toArray⟩) (.int .i64 n8.cols) (.slice A8 n8.kids.length cp8)).far2 (L := w6.heap.size) (g := w2.heap.size) (by have := HS6.out; omega) (.int .i64 0) (.int .i64 0)
    have hc : Mp c.g c.W0.heap.size w2 _ := (HC8.out.put4 (g := w4.heap.size) (.inr (by have := HS4.out; omega)) (.int .i64 n8.kind) (.string ⟨n8.text.toArray⟩) (.int .i64 n8.cols) (.slice A8 n8.kids.length cp8)).put2 (g := w2.heap.size) (.inr (Nat.le_refl _)) (.int .i64 0) (.int .i64 0)
    have hm : Mp c.g c.W0.heap.size w _ := (HM8.out.put4 (g := w4.heap.size) (.inr (by have := HS4.out; have := HS2.out; omega)) (.int .i64 n8.kind) (.string ⟨n8.text.toArray⟩) (.int .i64 n8.cols) (.slice A8 n8.kids.length cp8)).put2 (g := w2.heap.size) (.inr (by have := HS2.out; omega)) (.int .i64 0) (.int .i64 0)
    have hp5 : Ps c k4 op _ := (HP8.out.put4 HB78.out (by decide) (by have := HS4.out; have := HS2.out; omega) (by have := HS4.out; have := HS2.out; have := HW0.out; omega) (.int .i64 n8.kind) (.string ⟨n8.text.toArray⟩) (.int .i64 n8.cols) (.slice A8 n8.kids.length cp8)).put2 hb6' (by decide) (by have := HS2.out; omega) (by have := HS2.out; have := HW0.out; omega) (.int .i64 0) (.int .i64 0)
    have ht5 : ∀ B ks v, w4.heap.size < B → TreT B w8 ks v → TreT B _ ks v := fun B ks v hB h => (h.far (touch4 w8 w4.heap.size (.int .i64 n8.kind) (.string ⟨n8.text.toArray⟩) (.int .i64 n8.cols) (.slice A8 n8.kids.length cp8)) hB).other hb6' (by decide) (touch2 _ w2.heap.size (.int .i64 0) (.int .i64 0))
    simp only [put2, put4] at hb6 hbr hb7 hb9 hc hm hp5 ht5
    generalize World.setCell (World.setCell _ ⟨w2.heap.size, 0, none⟩ _) ⟨w2.heap.size, 1, none⟩ _ = w9 at hb6 hbr hb7 hb9 hc hm hp5 ht5 ⊢
    have HB69 := hid hb6
    have HBR9 := hid hbr
    have HB79 := hid hb7
    have HB99 := hid hb9
    have HC9 := hid hc
    have HM9 := hid hm
    have HP9 := hid hp5
    have HX9 := hid ht5
    clear hb6 hb6' hbr hb7 hb9 hc hm hp5 ht5 q0 q1 z0 z1 hlt3 p0 p1 p2 p3 y0 y1 y2 y3 hlt7
    have HR29 := hid ((HX9.out _ _ _ HY5.out ((HX7.out _ _ _ HR2.out).mp HD8.out HP7.out)).base HM5.out.size)
    have htb := (HT2.out.mp HC9.out HP2.out).base (Nat.le_trans (Nat.le_trans HF1.out.size HY1.out) (Nat.le_refl _))
    have HTB := hid htb
    clear htb
    have HTI1 := hid (HR29.out)
    have HTX1 := hid (HRX2.out)
    have r00 := cell_regrown (HB99.out.cell 0 |>.trans rfl)
    have r01 := cell_regrown (HB99.out.cell 1 |>.trans rfl)
    have r02 := cell_regrown (HB99.out.cell 2 |>.trans rfl)
    have r03 := cell_regrown (HB99.out.cell 3 |>.trans rfl)
    have hl0 := HB99.out.lt
    refine wp_region_mix [([(0, true), (2, true), (6, true), (1, false), (3, false), (4, true), (5, false), (7, true)], 8)] [] (by kernel_rfl) (fun _ _ d _ _ h => by cases d <;> exact h) (by kernel_rfl) ?_
    refine wpMix_seg ?_
    repeat (refine wpSeq_plain rfl (fun K hK => ?_); go_simp; refine hK _ ?_; clear hK K)
    refine wpSeq_lone rfl (fun K hK => ?_)
    go_wp2_with fail
    refine (slot_any_n A items.length cp _).mono ?_
    rintro _ wx ⟨rfl, hf⟩
    have HFX := hid (show Fresh w9 wx from Touch.ofN hf)
    clear hf
    go_wp2_with fail
    refine hK _ _ (growing_fresh HFX.out) ?_
    clear hK K
    refine wpSeq_lone rfl (fun K hK => ?_)
    go_wp2_with fail
    refine hK _ _ (growing_fresh (HFX.out.alloc _)) ?_
    clear hK K
    repeat (refine wpSeq_plain rfl (fun K hK => ?_); go_simp; refine hK _ ?_; clear hK K)
    refine wpSeq_lone rfl (fun K hK => ?_)
    go_wp2_with fail
    refine hK _ _ (growing_fresh ((HFX.out.alloc _).alloc _)) ?_
    clear hK K
    repeat (refine wpSeq_plain rfl (fun K hK => ?_); go_simp; refine hK _ ?_; clear hK K)
    have hB : w.heap.size ≤ wx.heap.size := Nat.le_trans HM9.out.size HFX.out.size
    have ht7 : TreT w.heap.size ((wx.alloc (.cells #[.int .i64 1, .string ⟨#[]⟩, .int .i64 0, .slice A items.length cp, .int .i64 n6.kind, .string ⟨n6.text.toArray⟩, .int .i64 n6.cols, .slice A6 n6.kids.length cp6] 24)).alloc (.cells #[.int .i64 8, .string ⟨#[]⟩, .int .i64 0, .slice (some ⟨wx.heap.size, 0, none⟩) 2 2] 24)) [Nd.mk 8 [] 0 [Np.slot items, n6]] (.slice (some ⟨(wx.alloc (.cells #[.int .i64 1, .string ⟨#[]⟩, .int .i64 0, .slice A items.length cp, .int .i64 n6.kind, .string ⟨n6.text.toArray⟩, .int .i64 n6.cols, .slice A6 n6.kids.length cp6] 24)).heap.size, 0, none⟩) 1 1) :=
     TreT.lit (n := .mk 8 [] 0 [Np.slot items, n6]) (TreT.lit2 (n1 := Np.slot items) (HTB.out.fresh HFX.out) (HTI1.out.fresh HFX.out) hB (Nat.zero_le _) HTX1.out) (by simp; omega) (Nat.zero_le _)
    rw [show (wx.alloc (.cells #[.int .i64 1, .string ⟨#[]⟩, .int .i64 0, .slice A items.length cp, .int .i64 n6.kind, .string ⟨n6.text.toArray⟩, .int .i64 n6.cols, .slice A6 n6.kids.length cp6] 24)).heap.size = wx.heap.size + 1 by simp] at ht7
    have hf7 : Fresh w9 ((wx.alloc (.cells #[.int .i64 1, .string ⟨#[]⟩, .int .i64 0, .slice A items.length cp, .int .i64 n6.kind, .string ⟨n6.text.toArray⟩, .int .i64 n6.cols, .slice A6 n6.kids.length cp6] 24)).alloc (.cells #[.int .i64 8, .string ⟨#[]⟩, .int .i64 0, .slice (some ⟨wx.heap.size, 0, none⟩) 2 2] 24)) := (HFX.out.alloc (.cells #[.int .i64 1, .string ⟨#[]⟩, .int .i64 0, .slice A items.length cp, .int .i64 n6.kind, .string ⟨n6.text.toArray⟩, .int .i64 n6.cols, .slice A6 n6.kids.length cp6] 24)).alloc (.cells #[.int .i64 8, .string ⟨#[]⟩, .int .i64 0, .slice (some ⟨wx.heap.size, 0, none⟩) 2 2] 24)
    generalize ((wx.alloc (.cells #[.int .i64 1, .string ⟨#[]⟩, .int .i64 0, .slice A items.length cp, .int .i64 n6.kind, .string ⟨n6.text.toArray⟩, .int .i64 n6.cols, .slice A6 n6.kids.length cp6] 24)).alloc (.cells #[.int .i64 8, .string ⟨#[]⟩, .int .i64 0, .slice (some ⟨wx.heap.size, 0, none⟩) 2 2] 24)) = W7 at ht7 hf7 ⊢
    have HM7' := hid (HM9.out.fr hf7)
    have HB7' := hid (hf7.blk HBR9.out fun h => h)
    have HT7' := hid ht7
    have HP7' := hid (HP9.out.fresh hf7)
    clear ht7 hf7 hB
    clear r00 r01 r02 r03 hl0
    obtain ⟨p0, p1, y0, y1, hlt⟩ := Blk.two HB7'.out
    refine wpSeq_shut rfl (fun K hK => ?_)
    go_wp2_with fail
    refine wpMix_end ?_
    go_wp2_with fail
    have hb8 := HB7'.out.self2 (.int .i64 0) (.int .i64 0)
    have hm8 : Mp c.g c.W0.heap.size w (put2 W7 w.heap.size (.int .i64 0) (.int .i64 0)) := HM7'.out.put2 (g := w.heap.size) (.inr (Nat.le_refl _)) _ _
    have ht8 := touch2 W7 w.heap.size (.int .i64 0) (.int .i64 0)
    obtain ⟨f0, f1, _⟩ := Blk.two hb8
    have hps := HP7'.out.mv ht8 (fun b hb => by have := HW0.out; subst hb; exact ⟨by omega, by omega, _, _, (by decide), HB7'.out⟩)
    have htr8 := HT7'.out.other HB7'.out (by decide) ht8
    simp only [put2] at f0 f1 hm8 hps htr8
    (try simp only [Exit.inBlock, Exit.then])
    refine bodyPost_ret (v := .tuple #[.slice (some ⟨wx.heap.size + 1, 0, none⟩) 1 1, failV 0 0]) (by simp [failV, results, Tryz.results113, go_sem, f0, f1]) rfl ?_
    exact HQ.out _ _ ⟨_, 1, k4, rfl, htr8, rfl, by have := HK1.out; have := HKk2.out; have := HKk3.out; have := HKk4.out; omega, hps, hm8⟩
   | some a3 =>
    have HSO8 := hid hso
    have HKk4 := hid hkk
    have HP8 := hid hp
    clear hso hkk hp
    (try simp only [R.bind_ok] at HNE HQ ⊢); (try simp only [Option.isSome_none] at HNE HQ ⊢); (try simp only [Option.isSome_some] at HNE HQ ⊢); (try simp only [Option.isNone_none] at HNE HQ ⊢); (try simp only [Option.isNone_some] at HNE HQ ⊢); (try simp only [Bool.false_and] at HNE HQ ⊢); (try simp only [Bool.true_and] at HNE HQ ⊢); (try simp only [Bool.and_true] at HNE HQ ⊢); (try simp only [Bool.and_false] at HNE HQ ⊢); (try simp only [if_true] at HNE HQ ⊢); (try simp only [Bool.false_eq_true] at HNE HQ ⊢); (try simp only [if_false] at HNE HQ ⊢)
    simp only [Np.scripts] at HQ
    unfold failV nodeV
    go_wp2_with fail
    have hb6' := HB68.out.far4 (L := w2.heap.size) (g := w4.heap.size) (by have := HS4.out; omega) (.int .i64 n8.kind) (.string ⟨n8.text.toArray⟩) (.int .i64 n8.cols) (.slice A8 n8.kids.length cp8)
    have hb6 := hb6'.self2 (.int .i64 0) (.int .i64 0)
    have hbr := (HBR8.out.far4 (L := w.heap.size) (g := w4.heap.size) (by have := HS4.out; have := HS2.out; omega) (.int .i64 n8.kind) (.string ⟨n8.text.toArray⟩) (.int .i64 n8.cols) (.slice A8 n8.kids.length cp8)).far2 (L := w.heap.size) (g := w2.heap.size) (by have := HS2.out; omega) (.int .i64 0) (.int .i64 0)
    have hb7 := (HB78.out.self4 (.int .i64 n8.kind) (.string ⟨n8.text.toArray⟩) (.int .i64 n8.cols) (.slice A8 n8.kids.length cp8)).far2 (L := w4.heap.size) (g := w2.heap.size) (by have := HS4.out; omega) (.int .i64 0) (.int .i64 0)
    have hb9 := (HB98.out.far4 (L := w6.heap.size) (g := w4.heap.size) (by have := HY5.out; have := HZ6.out; omega) (.int .i64 n8.kind) (.string ⟨n8.text.toArray⟩) (.int .i64 n8.cols) (.slice A8 n8.kids.length cp8)).far2 (L := w6.heap.size) (g := w2.heap.size) (by have := HS6.out; omega) (.int .i64 0) (.int .i64 0)
    have hc : Mp c.g c.W0.heap.size w2 _ := (HC8.out.put4 (g := w4.heap.size) (.inr (by have := HS4.out; omega)) (.int .i64 n8.kind) (.string ⟨n8.text.toArray⟩) (.int .i64 n8.cols) (.slice A8 n8.kids.length cp8)).put2 (g := w2.heap.size) (.inr (Nat.le_refl _)) (.int .i64 0) (.int .i64 0)
    have hm : Mp c.g c.W0.heap.size w _ := (HM8.out.put4 (g := w4.heap.size) (.inr (by have := HS4.out; have := HS2.out; omega)) (.int .i64 n8.kind) (.string ⟨n8.text.toArray⟩) (.int .i64 n8.cols) (.slice A8 n8.kids.length cp8)).put2 (g := w2.heap.size) (.inr (by have := HS2.out; omega)) (.int .i64 0) (.int .i64 0)
    have hp5 : Ps c k4 op _ := (HP8.out.put4 HB78.out (by decide) (by have := HS4.out; have := HS2.out; omega) (by have := HS4.out; have := HS2.out; have := HW0.out; omega) (.int .i64 n8.kind) (.string ⟨n8.text.toArray⟩) (.int .i64 n8.cols) (.slice A8 n8.kids.length cp8)).put2 hb6' (by decide) (by have := HS2.out; omega) (by have := HS2.out; have := HW0.out; omega) (.int .i64 0) (.int .i64 0)
    have ht5 : ∀ B ks v, w4.heap.size < B → TreT B w8 ks v → TreT B _ ks v := fun B ks v hB h => (h.far (touch4 w8 w4.heap.size (.int .i64 n8.kind) (.string ⟨n8.text.toArray⟩) (.int .i64 n8.cols) (.slice A8 n8.kids.length cp8)) hB).other hb6' (by decide) (touch2 _ w2.heap.size (.int .i64 0) (.int .i64 0))
    simp only [put2, put4] at hb6 hbr hb7 hb9 hc hm hp5 ht5
    generalize World.setCell (World.setCell _ ⟨w2.heap.size, 0, none⟩ _) ⟨w2.heap.size, 1, none⟩ _ = w9 at hb6 hbr hb7 hb9 hc hm hp5 ht5 ⊢
    have HB69 := hid hb6
    have HBR9 := hid hbr
    have HB79 := hid hb7
    have HB99 := hid hb9
    have HC9 := hid hc
    have HM9 := hid hm
    have HP9 := hid hp5
    have HX9 := hid ht5
    clear hb6 hb6' hbr hb7 hb9 hc hm hp5 ht5 q0 q1 z0 z1 hlt3 p0 p1 p2 p3 y0 y1 y2 y3 hlt7
    have HR29 := hid ((HX9.out _ _ _ HY5.out ((HX7.out _ _ _ HR2.out).mp HD8.out HP7.out)).base HM5.out.size)
    obtain ⟨ha, htr3, htx3⟩ := HSO8.out rfl
    cases ha
    have HR3 := hid ((HX9.out _ _ _ (by have := HY5.out; have := HZ6.out; have := HY7.out; omega) htr3).base HM7.out.size)
    have HRX3 := hid htx3
    clear htr3 htx3
    have htb := (HT2.out.mp HC9.out HP2.out).base (Nat.le_trans (Nat.le_trans HF1.out.size HY1.out) (Nat.le_refl _))
    have HTB := hid htb
    clear htb
    have HTI1 := hid (HR3.out)
    have HTX1 := hid (HRX3.out)
    have HTI2 := hid (HR29.out)
    have HTX2 := hid (HRX2.out)
    have r00 := cell_regrown (HB79.out.cell 0 |>.trans rfl)
    have r01 := cell_regrown (HB79.out.cell 1 |>.trans rfl)
    have r02 := cell_regrown (HB79.out.cell 2 |>.trans rfl)
    have r03 := cell_regrown (HB79.out.cell 3 |>.trans rfl)
    have hl0 := HB79.out.lt
    have r10 := cell_regrown (HB99.out.cell 0 |>.trans rfl)
    have r11 := cell_regrown (HB99.out.cell 1 |>.trans rfl)
    have r12 := cell_regrown (HB99.out.cell 2 |>.trans rfl)
    have r13 := cell_regrown (HB99.out.cell 3 |>.trans rfl)
    have hl1 := HB99.out.lt
    refine wp_region_mix [([(0, true), (2, true), (3, true), (7, true), (1, false), (4, false), (5, true), (6, false), (8, true)], 9)] [] (by kernel_rfl) (fun _ _ d _ _ h => by cases d <;> exact h) (by kernel_rfl) ?_
    refine wpMix_seg ?_
    repeat (refine wpSeq_plain rfl (fun K hK => ?_); go_simp; refine hK _ ?_; clear hK K)
    refine wpSeq_lone rfl (fun K hK => ?_)
    go_wp2_with fail
    refine (slot_any_n A items.length cp _).mono ?_
    rintro _ wx ⟨rfl, hf⟩
    have HFX := hid (show Fresh w9 wx from Touch.ofN hf)
    clear hf
    go_wp2_with fail
    refine hK _ _ (growing_fresh HFX.out) ?_
    clear hK K
    refine wpSeq_lone rfl (fun K hK => ?_)
    go_wp2_with fail
    refine hK _ _ (growing_fresh (HFX.out.alloc _)) ?_
    clear hK K
    repeat (refine wpSeq_plain rfl (fun K hK => ?_); go_simp; refine hK _ ?_; clear hK K)
    refine wpSeq_lone rfl (fun K hK => ?_)
    go_wp2_with fail
    refine hK _ _ (growing_fresh ((HFX.out.alloc _).alloc _)) ?_
    clear hK K
    repeat (refine wpSeq_plain rfl (fun K hK => ?_); go_simp; refine hK _ ?_; clear hK K)
    have hB : w.heap.size ≤ wx.heap.size := Nat.le_trans HM9.out.size HFX.out.size
    have ht7 : TreT w.heap.size ((wx.alloc (.cells #[.int .i64 1, .string ⟨#[]⟩, .int .i64 0, .slice A items.length cp, .int .i64 n8.kind, .string ⟨n8.text.toArray⟩, .int .i64 n8.cols, .slice A8 n8.kids.length cp8, .int .i64 n6.kind, .string ⟨n6.text.toArray⟩, .int .i64 n6.cols, .slice A6 n6.kids.length cp6] 24)).alloc (.cells #[.int .i64 9, .string ⟨#[]⟩, .int .i64 0, .slice (some ⟨wx.heap.size, 0, none⟩) 3 3] 24)) [Nd.mk 9 [] 0 [Np.slot items, n8, n6]] (.slice (some ⟨(wx.alloc (.cells #[.int .i64 1, .string ⟨#[]⟩, .int .i64 0, .slice A items.length cp, .int .i64 n8.kind, .string ⟨n8.text.toArray⟩, .int .i64 n8.cols, .slice A8 n8.kids.length cp8, .int .i64 n6.kind, .string ⟨n6.text.toArray⟩, .int .i64 n6.cols, .slice A6 n6.kids.length cp6] 24)).heap.size, 0, none⟩) 1 1) :=
     TreT.lit (n := .mk 9 [] 0 [Np.slot items, n8, n6]) (TreT.lit3 (n1 := Np.slot items) (HTB.out.fresh HFX.out) (HTI1.out.fresh HFX.out) (HTI2.out.fresh HFX.out) hB (Nat.zero_le _) HTX1.out HTX2.out) (by simp; omega) (Nat.zero_le _)
    rw [show (wx.alloc (.cells #[.int .i64 1, .string ⟨#[]⟩, .int .i64 0, .slice A items.length cp, .int .i64 n8.kind, .string ⟨n8.text.toArray⟩, .int .i64 n8.cols, .slice A8 n8.kids.length cp8, .int .i64 n6.kind, .string ⟨n6.text.toArray⟩, .int .i64 n6.cols, .slice A6 n6.kids.length cp6] 24)).heap.size = wx.heap.size + 1 by simp] at ht7
    have hf7 : Fresh w9 ((wx.alloc (.cells #[.int .i64 1, .string ⟨#[]⟩, .int .i64 0, .slice A items.length cp, .int .i64 n8.kind, .string ⟨n8.text.toArray⟩, .int .i64 n8.cols, .slice A8 n8.kids.length cp8, .int .i64 n6.kind, .string ⟨n6.text.toArray⟩, .int .i64 n6.cols, .slice A6 n6.kids.length cp6] 24)).alloc (.cells #[.int .i64 9, .string ⟨#[]⟩, .int .i64 0, .slice (some ⟨wx.heap.size, 0, none⟩) 3 3] 24)) := (HFX.out.alloc (.cells #[.int .i64 1, .string ⟨#[]⟩, .int .i64 0, .slice A items.length cp, .int .i64 n8.kind, .string ⟨n8.text.toArray⟩, .int .i64 n8.cols, .slice A8 n8.kids.length cp8, .int .i64 n6.kind, .string ⟨n6.text.toArray⟩, .int .i64 n6.cols, .slice A6 n6.kids.length cp6] 24)).alloc (.cells #[.int .i64 9, .string ⟨#[]⟩, .int .i64 0, .slice (some ⟨wx.heap.size, 0, none⟩) 3 3] 24)
    generalize ((wx.alloc (.cells #[.int .i64 1, .string ⟨#[]⟩, .int .i64 0, .slice A items.length cp, .int .i64 n8.kind, .string ⟨n8.text.toArray⟩, .int .i64 n8.cols, .slice A8 n8.kids.length cp8, .int .i64 n6.kind, .string ⟨n6.text.toArray⟩, .int .i64 n6.cols, .slice A6 n6.kids.length cp6] 24)).alloc (.cells #[.int .i64 9, .string ⟨#[]⟩, .int .i64 0, .slice (some ⟨wx.heap.size, 0, none⟩) 3 3] 24)) = W7 at ht7 hf7 ⊢
    have HM7' := hid (HM9.out.fr hf7)
    have HB7' := hid (hf7.blk HBR9.out fun h => h)
    have HT7' := hid ht7
    have HP7' := hid (HP9.out.fresh hf7)
    clear ht7 hf7 hB
    clear r00 r01 r02 r03 r10 r11 r12 r13 hl0 hl1
    obtain ⟨p0, p1, y0, y1, hlt⟩ := Blk.two HB7'.out
    refine wpSeq_shut rfl (fun K hK => ?_)
    go_wp2_with fail
    refine wpMix_end ?_
    go_wp2_with fail
    have hb8 := HB7'.out.self2 (.int .i64 0) (.int .i64 0)
    have hm8 : Mp c.g c.W0.heap.size w (put2 W7 w.heap.size (.int .i64 0) (.int .i64 0)) := HM7'.out.put2 (g := w.heap.size) (.inr (Nat.le_refl _)) _ _
    have ht8 := touch2 W7 w.heap.size (.int .i64 0) (.int .i64 0)
    obtain ⟨f0, f1, _⟩ := Blk.two hb8
    have hps := HP7'.out.mv ht8 (fun b hb => by have := HW0.out; subst hb; exact ⟨by omega, by omega, _, _, (by decide), HB7'.out⟩)
    have htr8 := HT7'.out.other HB7'.out (by decide) ht8
    simp only [put2] at f0 f1 hm8 hps htr8
    (try simp only [Exit.inBlock, Exit.then])
    refine bodyPost_ret (v := .tuple #[.slice (some ⟨wx.heap.size + 1, 0, none⟩) 1 1, failV 0 0]) (by simp [failV, results, Tryz.results113, go_sem, f0, f1]) rfl ?_
    exact HQ.out _ _ ⟨_, 1, k4, rfl, htr8, rfl, by have := HK1.out; have := HKk2.out; have := HKk3.out; have := HKk4.out; omega, hps, hm8⟩
 | some a1 =>
  cases so2 with
  | none =>
   have HSO6 := hid hso
   have HKk3 := hid hkk
   have HP6 := hid hp
   clear hso hkk hp
   (try simp only [R.bind_ok] at HNE HQ ⊢); (try simp only [Option.isSome_none] at HNE HQ ⊢); (try simp only [Option.isSome_some] at HNE HQ ⊢); (try simp only [Option.isNone_none] at HNE HQ ⊢); (try simp only [Option.isNone_some] at HNE HQ ⊢); (try simp only [Bool.false_and] at HNE HQ ⊢); (try simp only [Bool.true_and] at HNE HQ ⊢); (try simp only [Bool.and_true] at HNE HQ ⊢); (try simp only [Bool.and_false] at HNE HQ ⊢); (try simp only [if_true] at HNE HQ ⊢); (try simp only [Bool.false_eq_true] at HNE HQ ⊢); (try simp only [if_false] at HNE HQ ⊢)
   unfold failV nodeV
   go_wp2_with fail
   have es : (put2 w6 w2.heap.size (.int .i64 0) (.int .i64 0)).heap.size = w6.heap.size := by simp [put2]
   have hb6 := (HB66.out.self2 (.int .i64 0) (.int .i64 0)).alloc (.cells #[.int .i64 n6.kind, .string ⟨n6.text.toArray⟩, .int .i64 n6.cols, .slice A6 n6.kids.length cp6] 24)
   have hbr := (HBR6.out.far2 (L := w.heap.size) (g := w2.heap.size) (by have := HS2.out; omega) (.int .i64 0) (.int .i64 0)).alloc (.cells #[.int .i64 n6.kind, .string ⟨n6.text.toArray⟩, .int .i64 n6.cols, .slice A6 n6.kids.length cp6] 24)
   have hbn := Blk.new (put2 w6 w2.heap.size (.int .i64 0) (.int .i64 0)) 24 #[.int .i64 n6.kind, .string ⟨n6.text.toArray⟩, .int .i64 n6.cols, .slice A6 n6.kids.length cp6]
   rw [es] at hbn
   have hc : Mp c.g c.W0.heap.size w2 ((put2 w6 w2.heap.size (.int .i64 0) (.int .i64 0)).alloc (.cells #[.int .i64 n6.kind, .string ⟨n6.text.toArray⟩, .int .i64 n6.cols, .slice A6 n6.kids.length cp6] 24)) := (HC6.out.put2 (g := w2.heap.size) (.inr (Nat.le_refl _)) (.int .i64 0) (.int .i64 0)).alloc (.cells #[.int .i64 n6.kind, .string ⟨n6.text.toArray⟩, .int .i64 n6.cols, .slice A6 n6.kids.length cp6] 24)
   have hm : Mp c.g c.W0.heap.size w ((put2 w6 w2.heap.size (.int .i64 0) (.int .i64 0)).alloc (.cells #[.int .i64 n6.kind, .string ⟨n6.text.toArray⟩, .int .i64 n6.cols, .slice A6 n6.kids.length cp6] 24)) := (HM6.out.put2 (g := w2.heap.size) (.inr (by have := HS2.out; omega)) (.int .i64 0) (.int .i64 0)).alloc (.cells #[.int .i64 n6.kind, .string ⟨n6.text.toArray⟩, .int .i64 n6.cols, .slice A6 n6.kids.length cp6] 24)
   have hp5 : Ps c k3 op ((put2 w6 w2.heap.size (.int .i64 0) (.int .i64 0)).alloc (.cells #[.int .i64 n6.kind, .string ⟨n6.text.toArray⟩, .int .i64 n6.cols, .slice A6 n6.kids.length cp6] 24)) := (HP6.out.put2 HB66.out (by decide) (by have := HS2.out; omega) (by have := HS2.out; have := HW0.out; omega) (.int .i64 0) (.int .i64 0)).fresh ((Touch.refl _ _).alloc (.cells #[.int .i64 n6.kind, .string ⟨n6.text.toArray⟩, .int .i64 n6.cols, .slice A6 n6.kids.length cp6] 24))
   have ht5 : ∀ B ks v, TreT B w6 ks v → TreT B ((put2 w6 w2.heap.size (.int .i64 0) (.int .i64 0)).alloc (.cells #[.int .i64 n6.kind, .string ⟨n6.text.toArray⟩, .int .i64 n6.cols, .slice A6 n6.kids.length cp6] 24)) ks v := fun B ks v h => (h.other HB66.out (by decide) (touch2 w6 w2.heap.size (.int .i64 0) (.int .i64 0))).fresh ((Touch.refl _ _).alloc (.cells #[.int .i64 n6.kind, .string ⟨n6.text.toArray⟩, .int .i64 n6.cols, .slice A6 n6.kids.length cp6] 24))
   have hz5 : w6.heap.size < ((put2 w6 w2.heap.size (.int .i64 0) (.int .i64 0)).alloc (.cells #[.int .i64 n6.kind, .string ⟨n6.text.toArray⟩, .int .i64 n6.cols, .slice A6 n6.kids.length cp6] 24)).heap.size := by simp [put2]
   have HB7o := (HB76.out.far2 (L := w4.heap.size) (g := w2.heap.size) (by have := HS4.out; omega) (.int .i64 0) (.int .i64 0)).alloc (.cells #[.int .i64 n6.kind, .string ⟨n6.text.toArray⟩, .int .i64 n6.cols, .slice A6 n6.kids.length cp6] 24)
   simp only [put2] at hb6 hbr hbn hc hm hp5 ht5 hz5 HB7o
   generalize (World.setCell (World.setCell w6 ⟨w2.heap.size, 0, none⟩ _) ⟨w2.heap.size, 1, none⟩ _).alloc _ = w7 at hb6 hbr hbn hc hm hp5 ht5 hz5 HB7o ⊢
   have HB67 := hid hb6
   have HBR7 := hid hbr
   have HB97 := hid hbn
   have HC7 := hid hc
   have HM7 := hid hm
   have HP7 := hid hp5
   have HX7 := hid ht5
   have HY7 := hid hz5
   have HB77 := hid HB7o
   clear hb6 hbr hbn hc hm hp5 ht5 hz5 HB7o es q0 q1 z0 z1 hlt3
   obtain ⟨ha, htr1, htx1⟩ := HSO4.out rfl
   cases ha
   have HR1 := hid htr1
   have HRX1 := hid htx1
   clear htr1 htx1
   have htb := (HT2.out.mp HC7.out HP2.out).base (Nat.le_trans (Nat.le_trans HF1.out.size HY1.out) (Nat.le_refl _))
   have HTB := hid htb
   clear htb
   have HTI1 := hid ((HX7.out _ _ _ ((HX5.out _ _ _ HR1.out).mp HD6.out HP5.out)).base (Nat.le_trans HM3.out.size (Nat.le_refl _)))
   have HTX1 := hid (HRX1.out)
   have r00 := cell_regrown (HB77.out.cell 0 |>.trans rfl)
   have r01 := cell_regrown (HB77.out.cell 1 |>.trans rfl)
   have r02 := cell_regrown (HB77.out.cell 2 |>.trans rfl)
   have r03 := cell_regrown (HB77.out.cell 3 |>.trans rfl)
   have hl0 := HB77.out.lt
   refine wp_region_mix [([(0, true), (2, true), (6, true), (1, false), (3, false), (4, true), (5, false), (7, true)], 8)] [] (by kernel_rfl) (fun _ _ d _ _ h => by cases d <;> exact h) (by kernel_rfl) ?_
   refine wpMix_seg ?_
   repeat (refine wpSeq_plain rfl (fun K hK => ?_); go_simp; refine hK _ ?_; clear hK K)
   refine wpSeq_lone rfl (fun K hK => ?_)
   go_wp2_with fail
   refine (slot_any_n A items.length cp _).mono ?_
   rintro _ wx ⟨rfl, hf⟩
   have HFX := hid (show Fresh w7 wx from Touch.ofN hf)
   clear hf
   go_wp2_with fail
   refine hK _ _ (growing_fresh HFX.out) ?_
   clear hK K
   refine wpSeq_lone rfl (fun K hK => ?_)
   go_wp2_with fail
   refine hK _ _ (growing_fresh (HFX.out.alloc _)) ?_
   clear hK K
   repeat (refine wpSeq_plain rfl (fun K hK => ?_); go_simp; refine hK _ ?_; clear hK K)
   refine wpSeq_lone rfl (fun K hK => ?_)
   go_wp2_with fail
   refine hK _ _ (growing_fresh ((HFX.out.alloc _).alloc _)) ?_
   clear hK K
   repeat (refine wpSeq_plain rfl (fun K hK => ?_); go_simp; refine hK _ ?_; clear hK K)
   have hB : w.heap.size ≤ wx.heap.size := Nat.le_trans HM7.out.size HFX.out.size
   have ht7 : TreT w.heap.size ((wx.alloc (.cells #[.int .i64 1, .string ⟨#[]⟩, .int .i64 0, .slice A items.length cp, .int .i64 n4.kind, .string ⟨n4.text.toArray⟩, .int .i64 n4.cols, .slice A4 n4.kids.length cp4] 24)).alloc (.cells #[.int .i64 7, .string ⟨#[]⟩, .int .i64 0, .slice (some ⟨wx.heap.size, 0, none⟩) 2 2] 24)) [Nd.mk 7 [] 0 [Np.slot items, n4]] (.slice (some ⟨(wx.alloc (.cells #[.int .i64 1, .string ⟨#[]⟩, .int .i64 0, .slice A items.length cp, .int .i64 n4.kind, .string ⟨n4.text.toArray⟩, .int .i64 n4.cols, .slice A4 n4.kids.length cp4] 24)).heap.size, 0, none⟩) 1 1) :=
    TreT.lit (n := .mk 7 [] 0 [Np.slot items, n4]) (TreT.lit2 (n1 := Np.slot items) (HTB.out.fresh HFX.out) (HTI1.out.fresh HFX.out) hB (Nat.zero_le _) HTX1.out) (by simp; omega) (Nat.zero_le _)
   rw [show (wx.alloc (.cells #[.int .i64 1, .string ⟨#[]⟩, .int .i64 0, .slice A items.length cp, .int .i64 n4.kind, .string ⟨n4.text.toArray⟩, .int .i64 n4.cols, .slice A4 n4.kids.length cp4] 24)).heap.size = wx.heap.size + 1 by simp] at ht7
   have hf7 : Fresh w7 ((wx.alloc (.cells #[.int .i64 1, .string ⟨#[]⟩, .int .i64 0, .slice A items.length cp, .int .i64 n4.kind, .string ⟨n4.text.toArray⟩, .int .i64 n4.cols, .slice A4 n4.kids.length cp4] 24)).alloc (.cells #[.int .i64 7, .string ⟨#[]⟩, .int .i64 0, .slice (some ⟨wx.heap.size, 0, none⟩) 2 2] 24)) := (HFX.out.alloc (.cells #[.int .i64 1, .string ⟨#[]⟩, .int .i64 0, .slice A items.length cp, .int .i64 n4.kind, .string ⟨n4.text.toArray⟩, .int .i64 n4.cols, .slice A4 n4.kids.length cp4] 24)).alloc (.cells #[.int .i64 7, .string ⟨#[]⟩, .int .i64 0, .slice (some ⟨wx.heap.size, 0, none⟩) 2 2] 24)
   generalize ((wx.alloc (.cells #[.int .i64 1, .string ⟨#[]⟩, .int .i64 0, .slice A items.length cp, .int .i64 n4.kind, .string ⟨n4.text.toArray⟩, .int .i64 n4.cols, .slice A4 n4.kids.length cp4] 24)).alloc (.cells #[.int .i64 7, .string ⟨#[]⟩, .int .i64 0, .slice (some ⟨wx.heap.size, 0, none⟩) 2 2] 24)) = W7 at ht7 hf7 ⊢
   have HM7' := hid (HM7.out.fr hf7)
   have HB7' := hid (hf7.blk HBR7.out fun h => h)
   have HT7' := hid ht7
   have HP7' := hid (HP7.out.fresh hf7)
   clear ht7 hf7 hB
   clear r00 r01 r02 r03 hl0
   obtain ⟨p0, p1, y0, y1, hlt⟩ := Blk.two HB7'.out
   refine wpSeq_shut rfl (fun K hK => ?_)
   go_wp2_with fail
   refine wpMix_end ?_
   go_wp2_with fail
   have hb8 := HB7'.out.self2 (.int .i64 0) (.int .i64 0)
   have hm8 : Mp c.g c.W0.heap.size w (put2 W7 w.heap.size (.int .i64 0) (.int .i64 0)) := HM7'.out.put2 (g := w.heap.size) (.inr (Nat.le_refl _)) _ _
   have ht8 := touch2 W7 w.heap.size (.int .i64 0) (.int .i64 0)
   obtain ⟨f0, f1, _⟩ := Blk.two hb8
   have hps := HP7'.out.mv ht8 (fun b hb => by have := HW0.out; subst hb; exact ⟨by omega, by omega, _, _, (by decide), HB7'.out⟩)
   have htr8 := HT7'.out.other HB7'.out (by decide) ht8
   simp only [put2] at f0 f1 hm8 hps htr8
   (try simp only [Exit.inBlock, Exit.then])
   refine bodyPost_ret (v := .tuple #[.slice (some ⟨wx.heap.size + 1, 0, none⟩) 1 1, failV 0 0]) (by simp [failV, results, Tryz.results113, go_sem, f0, f1]) rfl ?_
   exact HQ.out _ _ ⟨_, 1, k3, rfl, htr8, rfl, by have := HK1.out; have := HKk2.out; have := HKk3.out; omega, hps, hm8⟩
  | some a2 =>
   have HSO6 := hid hso
   have HKk3 := hid hkk
   have HP6 := hid hp
   clear hso hkk hp
   (try simp only [R.bind_ok] at HNE HQ ⊢); (try simp only [Option.isSome_none] at HNE HQ ⊢); (try simp only [Option.isSome_some] at HNE HQ ⊢); (try simp only [Option.isNone_none] at HNE HQ ⊢); (try simp only [Option.isNone_some] at HNE HQ ⊢); (try simp only [Bool.false_and] at HNE HQ ⊢); (try simp only [Bool.true_and] at HNE HQ ⊢); (try simp only [Bool.and_true] at HNE HQ ⊢); (try simp only [Bool.and_false] at HNE HQ ⊢); (try simp only [if_true] at HNE HQ ⊢); (try simp only [Bool.false_eq_true] at HNE HQ ⊢); (try simp only [if_false] at HNE HQ ⊢)
   unfold failV nodeV
   go_wp2_with fail
   have es : (put2 w6 w2.heap.size (.int .i64 0) (.int .i64 0)).heap.size = w6.heap.size := by simp [put2]
   have hb6 := (HB66.out.self2 (.int .i64 0) (.int .i64 0)).alloc (.cells #[.int .i64 n6.kind, .string ⟨n6.text.toArray⟩, .int .i64 n6.cols, .slice A6 n6.kids.length cp6] 24)
   have hbr := (HBR6.out.far2 (L := w.heap.size) (g := w2.heap.size) (by have := HS2.out; omega) (.int .i64 0) (.int .i64 0)).alloc (.cells #[.int .i64 n6.kind, .string ⟨n6.text.toArray⟩, .int .i64 n6.cols, .slice A6 n6.kids.length cp6] 24)
   have hbn := Blk.new (put2 w6 w2.heap.size (.int .i64 0) (.int .i64 0)) 24 #[.int .i64 n6.kind, .string ⟨n6.text.toArray⟩, .int .i64 n6.cols, .slice A6 n6.kids.length cp6]
   rw [es] at hbn
   have hc : Mp c.g c.W0.heap.size w2 ((put2 w6 w2.heap.size (.int .i64 0) (.int .i64 0)).alloc (.cells #[.int .i64 n6.kind, .string ⟨n6.text.toArray⟩, .int .i64 n6.cols, .slice A6 n6.kids.length cp6] 24)) := (HC6.out.put2 (g := w2.heap.size) (.inr (Nat.le_refl _)) (.int .i64 0) (.int .i64 0)).alloc (.cells #[.int .i64 n6.kind, .string ⟨n6.text.toArray⟩, .int .i64 n6.cols, .slice A6 n6.kids.length cp6] 24)
   have hm : Mp c.g c.W0.heap.size w ((put2 w6 w2.heap.size (.int .i64 0) (.int .i64 0)).alloc (.cells #[.int .i64 n6.kind, .string ⟨n6.text.toArray⟩, .int .i64 n6.cols, .slice A6 n6.kids.length cp6] 24)) := (HM6.out.put2 (g := w2.heap.size) (.inr (by have := HS2.out; omega)) (.int .i64 0) (.int .i64 0)).alloc (.cells #[.int .i64 n6.kind, .string ⟨n6.text.toArray⟩, .int .i64 n6.cols, .slice A6 n6.kids.length cp6] 24)
   have hp5 : Ps c k3 op ((put2 w6 w2.heap.size (.int .i64 0) (.int .i64 0)).alloc (.cells #[.int .i64 n6.kind, .string ⟨n6.text.toArray⟩, .int .i64 n6.cols, .slice A6 n6.kids.length cp6] 24)) := (HP6.out.put2 HB66.out (by decide) (by have := HS2.out; omega) (by have := HS2.out; have := HW0.out; omega) (.int .i64 0) (.int .i64 0)).fresh ((Touch.refl _ _).alloc (.cells #[.int .i64 n6.kind, .string ⟨n6.text.toArray⟩, .int .i64 n6.cols, .slice A6 n6.kids.length cp6] 24))
   have ht5 : ∀ B ks v, TreT B w6 ks v → TreT B ((put2 w6 w2.heap.size (.int .i64 0) (.int .i64 0)).alloc (.cells #[.int .i64 n6.kind, .string ⟨n6.text.toArray⟩, .int .i64 n6.cols, .slice A6 n6.kids.length cp6] 24)) ks v := fun B ks v h => (h.other HB66.out (by decide) (touch2 w6 w2.heap.size (.int .i64 0) (.int .i64 0))).fresh ((Touch.refl _ _).alloc (.cells #[.int .i64 n6.kind, .string ⟨n6.text.toArray⟩, .int .i64 n6.cols, .slice A6 n6.kids.length cp6] 24))
   have hz5 : w6.heap.size < ((put2 w6 w2.heap.size (.int .i64 0) (.int .i64 0)).alloc (.cells #[.int .i64 n6.kind, .string ⟨n6.text.toArray⟩, .int .i64 n6.cols, .slice A6 n6.kids.length cp6] 24)).heap.size := by simp [put2]
   have HB7o := (HB76.out.far2 (L := w4.heap.size) (g := w2.heap.size) (by have := HS4.out; omega) (.int .i64 0) (.int .i64 0)).alloc (.cells #[.int .i64 n6.kind, .string ⟨n6.text.toArray⟩, .int .i64 n6.cols, .slice A6 n6.kids.length cp6] 24)
   simp only [put2] at hb6 hbr hbn hc hm hp5 ht5 hz5 HB7o
   generalize (World.setCell (World.setCell w6 ⟨w2.heap.size, 0, none⟩ _) ⟨w2.heap.size, 1, none⟩ _).alloc _ = w7 at hb6 hbr hbn hc hm hp5 ht5 hz5 HB7o ⊢
   have HB67 := hid hb6
   have HBR7 := hid hbr
   have HB97 := hid hbn
   have HC7 := hid hc
   have HM7 := hid hm
   have HP7 := hid hp5
   have HX7 := hid ht5
   have HY7 := hid hz5
   have HB77 := hid HB7o
   clear hb6 hbr hbn hc hm hp5 ht5 hz5 HB7o es q0 q1 z0 z1 hlt3
   obtain ⟨ha, htr1, htx1⟩ := HSO4.out rfl
   cases ha
   have HR1 := hid htr1
   have HRX1 := hid htx1
   obtain ⟨ha, htr2, htx2⟩ := HSO6.out rfl
   cases ha
   have HR2 := hid htr2
   have HRX2 := hid htx2
   clear htr1 htx1 htr2 htx2
   have htb := (HT2.out.mp HC7.out HP2.out).base (Nat.le_trans (Nat.le_trans HF1.out.size HY1.out) (Nat.le_refl _))
   have HTB := hid htb
   clear htb
   have HTI1 := hid ((HX7.out _ _ _ ((HX5.out _ _ _ HR1.out).mp HD6.out HP5.out)).base (Nat.le_trans HM3.out.size (Nat.le_refl _)))
   have HTX1 := hid (HRX1.out)
   have HTI2 := hid ((HX7.out _ _ _ HR2.out).base HM5.out.size)
   have HTX2 := hid (HRX2.out)
   have r00 := cell_regrown (HB77.out.cell 0 |>.trans rfl)
   have r01 := cell_regrown (HB77.out.cell 1 |>.trans rfl)
   have r02 := cell_regrown (HB77.out.cell 2 |>.trans rfl)
   have r03 := cell_regrown (HB77.out.cell 3 |>.trans rfl)
   have hl0 := HB77.out.lt
   have r10 := cell_regrown (HB97.out.cell 0 |>.trans rfl)
   have r11 := cell_regrown (HB97.out.cell 1 |>.trans rfl)
   have r12 := cell_regrown (HB97.out.cell 2 |>.trans rfl)
   have r13 := cell_regrown (HB97.out.cell 3 |>.trans rfl)
   have hl1 := HB97.out.lt
   refine wp_region_mix [([(0, true), (2, true), (3, true), (7, true), (1, false), (4, false), (5, true), (6, false), (8, true)], 9)] [] (by kernel_rfl) (fun _ _ d _ _ h => by cases d <;> exact h) (by kernel_rfl) ?_
   refine wpMix_seg ?_
   repeat (refine wpSeq_plain rfl (fun K hK => ?_); go_simp; refine hK _ ?_; clear hK K)
   refine wpSeq_lone rfl (fun K hK => ?_)
   go_wp2_with fail
   refine (slot_any_n A items.length cp _).mono ?_
   rintro _ wx ⟨rfl, hf⟩
   have HFX := hid (show Fresh w7 wx from Touch.ofN hf)
   clear hf
   go_wp2_with fail
   refine hK _ _ (growing_fresh HFX.out) ?_
   clear hK K
   refine wpSeq_lone rfl (fun K hK => ?_)
   go_wp2_with fail
   refine hK _ _ (growing_fresh (HFX.out.alloc _)) ?_
   clear hK K
   repeat (refine wpSeq_plain rfl (fun K hK => ?_); go_simp; refine hK _ ?_; clear hK K)
   refine wpSeq_lone rfl (fun K hK => ?_)
   go_wp2_with fail
   refine hK _ _ (growing_fresh ((HFX.out.alloc _).alloc _)) ?_
   clear hK K
   repeat (refine wpSeq_plain rfl (fun K hK => ?_); go_simp; refine hK _ ?_; clear hK K)
   have hB : w.heap.size ≤ wx.heap.size := Nat.le_trans HM7.out.size HFX.out.size
   have ht7 : TreT w.heap.size ((wx.alloc (.cells #[.int .i64 1, .string ⟨#[]⟩, .int .i64 0, .slice A items.length cp, .int .i64 n4.kind, .string ⟨n4.text.toArray⟩, .int .i64 n4.cols, .slice A4 n4.kids.length cp4, .int .i64 n6.kind, .string ⟨n6.text.toArray⟩, .int .i64 n6.cols, .slice A6 n6.kids.length cp6] 24)).alloc (.cells #[.int .i64 9, .string ⟨#[]⟩, .int .i64 0, .slice (some ⟨wx.heap.size, 0, none⟩) 3 3] 24)) [Nd.mk 9 [] 0 [Np.slot items, n4, n6]] (.slice (some ⟨(wx.alloc (.cells #[.int .i64 1, .string ⟨#[]⟩, .int .i64 0, .slice A items.length cp, .int .i64 n4.kind, .string ⟨n4.text.toArray⟩, .int .i64 n4.cols, .slice A4 n4.kids.length cp4, .int .i64 n6.kind, .string ⟨n6.text.toArray⟩, .int .i64 n6.cols, .slice A6 n6.kids.length cp6] 24)).heap.size, 0, none⟩) 1 1) :=
    TreT.lit (n := .mk 9 [] 0 [Np.slot items, n4, n6]) (TreT.lit3 (n1 := Np.slot items) (HTB.out.fresh HFX.out) (HTI1.out.fresh HFX.out) (HTI2.out.fresh HFX.out) hB (Nat.zero_le _) HTX1.out HTX2.out) (by simp; omega) (Nat.zero_le _)
   rw [show (wx.alloc (.cells #[.int .i64 1, .string ⟨#[]⟩, .int .i64 0, .slice A items.length cp, .int .i64 n4.kind, .string ⟨n4.text.toArray⟩, .int .i64 n4.cols, .slice A4 n4.kids.length cp4, .int .i64 n6.kind, .string ⟨n6.text.toArray⟩, .int .i64 n6.cols, .slice A6 n6.kids.length cp6] 24)).heap.size = wx.heap.size + 1 by simp] at ht7
   have hf7 : Fresh w7 ((wx.alloc (.cells #[.int .i64 1, .string ⟨#[]⟩, .int .i64 0, .slice A items.length cp, .int .i64 n4.kind, .string ⟨n4.text.toArray⟩, .int .i64 n4.cols, .slice A4 n4.kids.length cp4, .int .i64 n6.kind, .string ⟨n6.text.toArray⟩, .int .i64 n6.cols, .slice A6 n6.kids.length cp6] 24)).alloc (.cells #[.int .i64 9, .string ⟨#[]⟩, .int .i64 0, .slice (some ⟨wx.heap.size, 0, none⟩) 3 3] 24)) := (HFX.out.alloc (.cells #[.int .i64 1, .string ⟨#[]⟩, .int .i64 0, .slice A items.length cp, .int .i64 n4.kind, .string ⟨n4.text.toArray⟩, .int .i64 n4.cols, .slice A4 n4.kids.length cp4, .int .i64 n6.kind, .string ⟨n6.text.toArray⟩, .int .i64 n6.cols, .slice A6 n6.kids.length cp6] 24)).alloc (.cells #[.int .i64 9, .string ⟨#[]⟩, .int .i64 0, .slice (some ⟨wx.heap.size, 0, none⟩) 3 3] 24)
   generalize ((wx.alloc (.cells #[.int .i64 1, .string ⟨#[]⟩, .int .i64 0, .slice A items.length cp, .int .i64 n4.kind, .string ⟨n4.text.toArray⟩, .int .i64 n4.cols, .slice A4 n4.kids.length cp4, .int .i64 n6.kind, .string ⟨n6.text.toArray⟩, .int .i64 n6.cols, .slice A6 n6.kids.length cp6] 24)).alloc (.cells #[.int .i64 9, .string ⟨#[]⟩, .int .i64 0, .slice (some ⟨wx.heap.size, 0, none⟩) 3 3] 24)) = W7 at ht7 hf7 ⊢
   have HM7' := hid (HM7.out.fr hf7)
   have HB7' := hid (hf7.blk HBR7.out fun h => h)
   have HT7' := hid ht7
   have HP7' := hid (HP7.out.fresh hf7)
   clear ht7 hf7 hB
   clear r00 r01 r02 r03 r10 r11 r12 r13 hl0 hl1
   obtain ⟨p0, p1, y0, y1, hlt⟩ := Blk.two HB7'.out
   refine wpSeq_shut rfl (fun K hK => ?_)
   go_wp2_with fail
   refine wpMix_end ?_
   go_wp2_with fail
   have hb8 := HB7'.out.self2 (.int .i64 0) (.int .i64 0)
   have hm8 : Mp c.g c.W0.heap.size w (put2 W7 w.heap.size (.int .i64 0) (.int .i64 0)) := HM7'.out.put2 (g := w.heap.size) (.inr (Nat.le_refl _)) _ _
   have ht8 := touch2 W7 w.heap.size (.int .i64 0) (.int .i64 0)
   obtain ⟨f0, f1, _⟩ := Blk.two hb8
   have hps := HP7'.out.mv ht8 (fun b hb => by have := HW0.out; subst hb; exact ⟨by omega, by omega, _, _, (by decide), HB7'.out⟩)
   have htr8 := HT7'.out.other HB7'.out (by decide) ht8
   simp only [put2] at f0 f1 hm8 hps htr8
   (try simp only [Exit.inBlock, Exit.then])
   refine bodyPost_ret (v := .tuple #[.slice (some ⟨wx.heap.size + 1, 0, none⟩) 1 1, failV 0 0]) (by simp [failV, results, Tryz.results113, go_sem, f0, f1]) rfl ?_
   exact HQ.out _ _ ⟨_, 1, k3, rfl, htr8, rfl, by have := HK1.out; have := HKk2.out; have := HKk3.out; omega, hps, hm8⟩
end Go.Proofs.YtdacpbdamliafaaGreat

/- The parser's row. -/
namespace Go.Proofs.YtdacpbdamliafaaGreat
open Go.RowKit
open Tr (Nd)
open Lx (PTok)
open Np (R pRow pIn pScript pItem pPrim pArgs pName pCells pArg)
attribute [local go_sem] stillV stillUpon
theorem Np.plainName_one {t : PTok} {r l : List PTok} {ks : List Nd} (h : Np.plainName t r = .ok ks l) : ks.length = 1 := by
 unfold Np.plainName at h
 split at h <;> cases h
 rfl
theorem map_len1 {α : Type} {x : R α} {g : α → List Nd} {ks : List Nd} {r : List PTok} (hg : ∀ a, (g a).length = 1) (h : x.map g = .ok ks r) : ks.length = 1 := by
 cases x <;> simp [Np.R.map, Np.R.bind] at h
 rw [← h.1]
 exact hg _
theorem bind_len1 {α : Type} {x : R α} {g : α → List PTok → R (List Nd)} {ks : List Nd} {r : List PTok} (hg : ∀ a l, g a l = .ok ks r → ks.length = 1) (h : x.bind g = .ok ks r) : ks.length = 1 := by
 cases x with
 | ok a l => exact hg a l h
 | err i e => cases h
 | out => cases h
theorem pName_one {en f : Nat} {op : List Nat} {t : PTok} {r l : List PTok} {ks : List Nd} (h : pName en f op t r = .ok ks l) : ks.length = 1 := by
 cases f with
 | zero => rw [pName] at h; cases h
 | succ f =>
  rw [pName] at h
  split at h
  ·exact map_len1 (fun _ => rfl) h
  ·split at h
   ·split at h
    ·exact bind_len1 (fun a l h => map_len1 (fun _ => rfl) h) h
    ·exact map_len1 (fun _ => rfl) h
   ·split at h
    ·split at h
     ·exact map_len1 (fun _ => rfl) h
     ·cases h
    ·split at h
     ·exact map_len1 (fun _ => rfl) h
     ·exact Np.plainName_one h
theorem pPrim_one {en f : Nat} {op : List Nat} {l r : List PTok} {ks : List Nd} (hg : Np.isM 123 l = false) (h : pPrim en f op l = .ok ks r) : ks.length = 1 := by
 cases f with
 | zero => rw [pPrim] at h; cases h
 | succ f =>
  cases l with
  | nil => rw [pPrim] at h; cases h
  | cons t l =>
   rw [pPrim] at h
   split at h
   ·cases h; rfl
   ·split at h
    ·exact pName_one h
    ·split at h
     ·exact map_len1 (fun _ => rfl) h
     ·split at h
      ·exact map_len1 (fun _ => rfl) h
      ·split at h
       ·exact map_len1 (fun _ => rfl) h
       ·rw [hg] at h
        cases h
theorem scripts_one {g : Bool} {en : Nat} {base : List Nd} {x y : Option Nd} {l r : List PTok} {ks : List Nd} (hb : g = false → base.length = 1) (h : Np.scripts g en base x y l = .ok ks r) : ks.length = 1 := by
 unfold Np.scripts at h
 split at h
 ·cases h; rfl
 ·cases h; rfl
 ·cases h; rfl
 ·cases g with
  | true => cases h
  | false => cases h; exact hb rfl
theorem pItem_one {en f : Nat} {op : List Nat} {l r : List PTok} {ks : List Nd} (h : pItem en f op l = .ok ks r) : ks.length = 1 := by
 cases f with
 | zero => rw [pItem] at h; cases h
 | succ f =>
  rw [pItem] at h
  cases hp : pPrim en f op l with
  | err i e => rw [hp] at h; cases h
  | out => rw [hp] at h; cases h
  | ok base r1 =>
   rw [hp] at h
   have hb : Np.isM 123 l = false → base.length = 1 := fun hg => pPrim_one hg hp
   refine bind_len1 (fun sub r h => bind_len1 (fun sup r h => ?_) h) (show (pScript en f 95 op r1).bind _ = _ from h)
   split at h
   ·exact bind_len1 (fun sub r h => scripts_one hb h) h
   ·exact scripts_one hb h
theorem TreT.single {B : Nat} {W : World} {x : Nd} {v : Value} (h : TreT B W [x] v) : ∃ sl, Src W 4 v 1 [.int .i64 x.kind, .string ⟨x.text.toArray⟩, .int .i64 x.cols, sl] ∧ TreT B W x.kids sl ∧ x.text.length ≤ maxLen := by
 obtain ⟨cs, ⟨sl, ds, h1, h2, h3⟩, h4⟩ := h.src
 rw [show ds = [] from h3] at h1
 subst h1
 exact ⟨sl, h4, h2⟩
def slLen : Value → Nat
 | .slice _ n _ => n
 | _ => 0
set_option maxRecDepth 100000 in
set_option maxHeartbeats 2000000 in
theorem row_n (c : Cf) (hc : c.Good) (F : Nat) (hF : F ≤ 1000000) (hitem : ∀ f', f' < F → ItemN c f') : RowN c F := by
 intro k op w h hop hne
 obtain ⟨i, hi, hz0, hz1, hz2⟩ := info_parts infoNodeN
 have HIT := hid hitem
 have HT := hid (fun (k' : Nat) (w' : World) (hp : Ps c k' op w') => tok_any_n c hc k' op w' hp)
 have HA := hid (fun (b : UInt8) (k' : Nat) (w' : World) (hp : Ps c k' op w') => at_any_n c hc k' op b w' hp)
 have HKNZ := hid hc.knz
 have htl := hc.tl
 have H := hid h
 have HOP := hid hop
 have HFF := hid hF
 have hgl : c.g < w.heap.size := h.glt
 have HW0 := hid h.low.size
 have HNE := hid hne
 refine Calls.via fun Q hQ => ?_
 have HQ := hid hQ
 clear hne hitem h hop hc hQ hF
 generalize hX : pRow c.en F op (c.T.drop k) = X at HNE HQ
 have HX := hid hX
 clear hX
 unfold pp0
 go_enter Tryz.func81, Tryz.ntmps81
 go_wp2_with fail
 have hf1 : Fresh w (w.alloc (.cells #[.int .i64 0, .int .i64 0] 88)) := (Touch.refl _ _).alloc _
 have hbf : Blk (w.alloc (.cells #[.int .i64 0, .int .i64 0] 88)) w.heap.size 88 #[.int .i64 0, .int .i64 0] := Blk.new _ _ _
 have hsw1 : (w.alloc (.cells #[.int .i64 0, .int .i64 0] 88)).heap.size = w.heap.size + 1 := by simp
 generalize (w.alloc (.cells #[.int .i64 0, .int .i64 0] 88)) = W1 at hf1 hbf hsw1 ⊢
 have HF1 := hid hf1
 have HBF1 := hid hbf
 have HSZ1 := hid hsw1
 clear hf1 hbf hsw1
 go_loopw [4] (fun j wr => ∃ (k1 : Nat) (ks : List Nd) (A : Option Addr) (cp : Nat), j = .slice A ks.length cp ∧ Hid (Blk wr w.heap.size 88 #[.int .i64 0, .int .i64 0]) ∧ Hid (Grow (fun _ => False) wr w.heap.size W1.heap.size ks (.slice A ks.length cp)) ∧ Hid (Ps c k1 op wr) ∧ k ≤ k1 ∧ Hid (Mp c.g c.W0.heap.size w wr) ∧ W1.heap.size ≤ wr.heap.size ∧ ks.length ≤ F ∧ Hid (X = (pRow c.en (F - ks.length) op (c.T.drop k1)).map fun l => ks ++ l)) (fun j _ => F - slLen j)
 case atStart =>
  refine ⟨k, [], none, 0, rfl, HBF1, Grow.nil _ _ _ _, H.out.fresh HF1.out, Nat.le_refl _, Mp.fresh HF1.out, Nat.le_refl _, Nat.zero_le _, ?_⟩
  unfold Hid
  rw [← HX.out, List.length_nil, Nat.sub_zero]
  cases pRow c.en F op (c.T.drop k) <;> rfl
 case round =>
  obtain ⟨k1, ks, A, cp, rfl, HBF, HG, HP, hkk, HM, hsz, hle, HXX⟩ := hrel
  obtain ⟨f', hf'⟩ : ∃ f', F - ks.length = f' + 1 := by
   rcases Nat.eq_zero_or_pos (F - ks.length) with h0 | h0
   ·exfalso
    have h1 := HXX.out
    rw [h0, pRow] at h1
    exact HNE.out h1
   ·exact ⟨F - ks.length - 1, by omega⟩
  have HXS := hid (show X = (pRow c.en (f' + 1) op (c.T.drop k1)).map fun l => ks ++ l from by rw [HXX.out, hf'])
  have HF' := hid hf'
  have HLE := hid hle
  have HKK := hid hkk
  have HSZ := hid hsz
  have hlr : w.heap.size < wr.heap.size := HBF.out.lt
  have HGL := hid (show c.g < wr.heap.size from Nat.lt_trans hgl hlr)
  clear HXX hf' hle hkk hsz
  have HT1 := hid (HT.out k1 wr HP.out)
  have HA1 := hid (fun (b : UInt8) (w' : World) (hf : Fresh wr w') => HA.out b k1 w' (HP.out.fresh hf))
  cases hl : c.T.drop k1 with
  | nil =>
   rw [hl] at HT1
   unfold tokV at HT1
   dsimp only at HT1
   have HL := hid hl
   clear hl
   rcases List.eq_nil_or_concat op with hop0 | ⟨op', x, hop0⟩
   ·have HXO := hid (show X = .ok ks (c.T.drop k1) from by
     rw [HXS.out, HL.out, pRow, hop0]
     simp [Np.R.map, Np.R.bind])
    obtain ⟨ov, hb, ho⟩ := HP.out.box
    obtain ⟨Ao, co, rfl⟩ := own_slc ho
    rw [hop0, List.length_nil] at hb
    have HB := hid hb
    clear hb ho hop0
    go_wp2_with fail
    refine HT1.out.mono ?_
    rintro _ w1 ⟨rfl, hf⟩
    have HFA := hid hf
    have HBA := hid (HFA.out.blk HBF.out fun h => h)
    have hb1 := hf.blk HB.out fun h => h
    have q3 := hb1.cell 3
    have hg1 := hb1.lt
    obtain ⟨p0, p1, y0, y1, hlt⟩ := Blk.two HBA.out
    clear hf hb1
    go_wp2_with fail
    have htr := (((HG.out.tree (by have := HSZ1.out; omega)).fresh HFA.out).other HBA.out (by decide) (touch2 w1 w.heap.size (.int .i64 0) (.int .i64 0))).fresh ((Touch.refl _ _).alloc (.cells #[.int .i64 0, .string ⟨#[]⟩, .int .i64 (c.en : Int), .int .i64 (c.en : Int)] 150))
    have hps := ((HP.out.fresh HFA.out).put2 HBA.out (by decide) (by omega) HW0.out (.int .i64 0) (.int .i64 0)).fresh ((Touch.refl _ _).alloc (.cells #[.int .i64 0, .string ⟨#[]⟩, .int .i64 (c.en : Int), .int .i64 (c.en : Int)] 150))
    have hm9 : Mp c.g c.W0.heap.size w _ := ((HM.out.fr HFA.out).put2 (g := w.heap.size) (.inr (Nat.le_refl _)) (.int .i64 0) (.int .i64 0)).alloc (.cells #[.int .i64 0, .string ⟨#[]⟩, .int .i64 (c.en : Int), .int .i64 (c.en : Int)] 150)
    have hb9 := ((HBA.out).self2 (.int .i64 0) (.int .i64 0)).alloc (.cells #[.int .i64 0, .string ⟨#[]⟩, .int .i64 (c.en : Int), .int .i64 (c.en : Int)] 150)
    obtain ⟨f0, f1, _⟩ := Blk.two hb9
    simp only [put2] at htr hps hm9 f0 f1
    (try simp only [Exit.inBlock, Exit.then])
    refine bodyPost_ret (v := .tuple #[.slice A ks.length cp, failV 0 0]) (by simp [failV, results, Tryz.results81, go_sem, f0, f1]) rfl ?_
    rw [HXO.out] at HQ
    exact HQ.out _ _ ⟨A, cp, k1, rfl, htr, rfl, HKK.out, hps, hm9⟩
   ·rw [List.concat_eq_append] at hop0
    obtain ⟨ov, hb, ho⟩ := HP.out.box
    have HXE := hid (show X = .err x 12 from by
     rw [HXS.out, HL.out, pRow, if_pos ⟨rfl, by rw [hop0]; simp⟩, hop0]
     simp [Np.R.map, Np.R.bind])
    obtain ⟨go, co, rfl, hco⟩ : ∃ go cp, ov = .slice (some ⟨go, 0, none⟩) (op'.length + 1) cp ∧ op'.length + 1 ≤ cp := by
     rcases ho.2 with ⟨_, h2⟩ | ⟨g, cap, cur, h1, _, _, h2, _⟩
     ·rw [hop0] at h2; simp at h2
     ·rw [hop0, List.length_append, List.length_singleton] at h1 h2
      exact ⟨_, _, h1, h2⟩
    have hmax : op'.length + 1 ≤ 100000 := by
     have h1 := HOP.out
     have h2 := HP.out.le
     rw [hop0, List.length_append, List.length_singleton] at h1
     have := HKK.out
     omega
    have HCX := hid (show wr.cell? ⟨go, op'.length, none⟩ = some (.int .i64 (x : Int)) from by
     have := ho.cells (g := go) rfl op'.length (.int .i64 (x : Int)) (by rw [hop0]; simp)
     rwa [Addr.add_mid, Nat.zero_add] at this)
    have HGO := hid (show go < wr.heap.size from block_lt_of_cell HCX.out)
    have HB := hid hb
    have HCO := hid hco
    clear hb ho hop0 hco
    go_wp2_with fail
    refine HT1.out.mono ?_
    rintro _ w1 ⟨rfl, hf⟩
    have HFA := hid hf
    have hb1 := hf.blk HB.out fun h => h
    have q3 := hb1.cell 3
    have hg1 := hb1.lt
    have d1 : decide ((op'.length : Int) + 1 > 0) = true := decide_eq_true (by omega)
    have d2 : (0 : Int) < (op'.length : Int) + 1 := by omega
    clear hf hb1
    go_wp2_with fail
    have hfb := HFA.out.alloc (.cells #[.int .i64 0, .string ⟨#[]⟩, .int .i64 (c.en : Int), .int .i64 (c.en : Int)] 150)
    generalize (w1.alloc (.cells #[.int .i64 0, .string ⟨#[]⟩, .int .i64 (c.en : Int), .int .i64 (c.en : Int)] 150)) = w2 at hfb ⊢
    clear q3 hg1 d1 d2
    have r3 := cell_regrown (((hfb.blk HB.out fun h => h).cell 3).trans rfl)
    have rx := cell_regrown (hfb.cell HCX.out fun h => h)
    have hg2 : c.g < w2.heap.size := Nat.lt_of_lt_of_le HGL.out hfb.size
    have hgo : go < w2.heap.size := Nat.lt_of_lt_of_le HGO.out hfb.size
    have e1 : ((op'.length : Int) + 1) - 1 = (op'.length : Int) := by omega
    have e2 : IntKind.i64.wrap ((op'.length : Int)) = (op'.length : Int) := IntWalk.i64_in _ (by omega)
    have e3 : (op'.length : Int) < (op'.length : Int) + 1 := by omega
    have e4 : (0 : Int) ≤ (op'.length : Int) := by omega
    have HBA := hid (hfb.blk HBF.out fun h => h)
    have HMA := hid (HM.out.fr hfb)
    clear hfb
    refine wp_region_mix [([(0, true), (1, true), (2, true), (3, true), (4, true), (5, true), (6, true), (7, true), (8, true), (9, true), (10, true), (11, true), (12, true), (13, true)], 14)] [] (by kernel_rfl) (fun _ _ d _ _ h => by cases d <;> exact h) (by kernel_rfl) ?_
    refine wpMix_seg ?_
    repeat (refine wpSeq_plain rfl (fun K hK => ?_); go_simp; refine hK _ ?_; clear hK K)
    clear r3 rx e1 e2 e3 e4 hgo hg2
    obtain ⟨p0, p1, y0, y1, hlt⟩ := Blk.two (HBA.out.drewN 1)
    refine wpSeq_shut rfl (fun K hK => ?_)
    go_wp2_with fail
    refine wpMix_end ?_
    go_wp2_with fail
    have hb5 := ((HBA.out.drewN 1).self2 (.int .i64 (x : Int)) (.int .i64 12))
    have hm5 : Mp c.g c.W0.heap.size w _ := (HMA.out.drewN 1).put2 (g := w.heap.size) (.inr (Nat.le_refl _)) (.int .i64 (x : Int)) (.int .i64 12)
    obtain ⟨f0, f1, _⟩ := Blk.two hb5
    simp only [put2] at f0 f1 hm5
    (try simp only [Exit.inBlock, Exit.then])
    refine bodyPost_ret (v := .tuple #[.slice none 0 0, failV x 12]) (by simp [failV, results, Tryz.results81, go_sem, f0, f1]) rfl ?_
    rw [HXE.out] at HQ
    exact HQ.out _ _ ⟨by decide, none, 0, 0, rfl, hm5⟩
  | cons t r =>
   rw [hl] at HT1
   unfold tokV at HT1
   dsimp only at HT1
   have HL := hid hl
   have hmem : t ∈ c.T := List.mem_of_mem_drop (i := k1) (by rw [hl]; simp)
   have hk0 := HKNZ.out t hmem
   have e0 : ((t.kind : Int) == 0) = false := by rw [beq_eq_false_iff_ne]; omega
   have e0p : ¬ ((t.kind : Int) = 0) := by omega
   have HXC := hid (show Np.stops (t :: r) = true → X = .ok ks (c.T.drop k1) from fun hs => by
    rw [HXS.out, HL.out, pRow, if_neg (by simp), if_pos (.inr hs)]
    simp [Np.R.map, Np.R.bind])
   clear hl hmem hk0
   by_cases h8 : t.kind = 8
   ·have HXO := hid (HXC.out (by simp [Np.stops, Np.isBreak, h8]))
    rw [show ((t.kind : Nat) : Int) = 8 from by omega] at HT1
    clear h8 e0 e0p
    go_wp2_with fail
    refine HT1.out.mono ?_
    rintro _ w1 ⟨rfl, hf⟩
    have HFA := hid hf
    have HBA := hid (HFA.out.blk HBF.out fun h => h)
    clear hf
    obtain ⟨p0, p1, y0, y1, hlt⟩ := Blk.two HBA.out
    go_wp2_with fail
    have htr := (((HG.out.tree (by have := HSZ1.out; omega)).fresh HFA.out).other HBA.out (by decide) (touch2 w1 w.heap.size (.int .i64 0) (.int .i64 0))).fresh ((Touch.refl _ _).alloc (.cells #[.int .i64 8, .string ⟨t.text.toArray⟩, .int .i64 (t.from_ : Int), .int .i64 (t.to_ : Int)] 150))
    have hps := ((HP.out.fresh HFA.out).put2 HBA.out (by decide) (by omega) HW0.out (.int .i64 0) (.int .i64 0)).fresh ((Touch.refl _ _).alloc (.cells #[.int .i64 8, .string ⟨t.text.toArray⟩, .int .i64 (t.from_ : Int), .int .i64 (t.to_ : Int)] 150))
    have hm9 : Mp c.g c.W0.heap.size w _ := ((HM.out.fr HFA.out).put2 (g := w.heap.size) (.inr (Nat.le_refl _)) (.int .i64 0) (.int .i64 0)).alloc (.cells #[.int .i64 8, .string ⟨t.text.toArray⟩, .int .i64 (t.from_ : Int), .int .i64 (t.to_ : Int)] 150)
    have hb9 := ((HBA.out).self2 (.int .i64 0) (.int .i64 0)).alloc (.cells #[.int .i64 8, .string ⟨t.text.toArray⟩, .int .i64 (t.from_ : Int), .int .i64 (t.to_ : Int)] 150)
    obtain ⟨f0, f1, _⟩ := Blk.two hb9
    simp only [put2] at htr hps hm9 f0 f1
    (try simp only [Exit.inBlock, Exit.then])
    refine bodyPost_ret (v := .tuple #[.slice A ks.length cp, failV 0 0]) (by simp [failV, results, Tryz.results81, go_sem, f0, f1]) rfl ?_
    rw [HXO.out] at HQ
    exact HQ.out _ _ ⟨A, cp, k1, rfl, htr, rfl, HKK.out, hps, hm9⟩
   ·have e8 := kind_no _ 8 h8
    have e8p : ¬ ((t.kind : Int) = 8) := by omega
    have H8 := hid (show Np.isBreak (t :: r) = false from by simp [Np.isBreak, h8])
    clear h8
    go_wp2_with fail
    refine HT1.out.mono ?_
    rintro _ w1 ⟨rfl, hf⟩
    have HFA := hid hf
    have HBA := hid (HFA.out.blk HBF.out fun h => h)
    clear hf
    go_wp2_with fail
    refine (HA1.out 41 _ (HFA.out.alloc (.cells #[.int .i64 (t.kind : Int), .string ⟨t.text.toArray⟩, .int .i64 (t.from_ : Int), .int .i64 (t.to_ : Int)] 150))).mono ?_
    rw [HL.out]
    rintro _ w2 ⟨rfl, hf⟩
    have HF2 := hid ((HFA.out.alloc (.cells #[.int .i64 (t.kind : Int), .string ⟨t.text.toArray⟩, .int .i64 (t.from_ : Int), .int .i64 (t.to_ : Int)] 150)).trans hf)
    have HB2 := hid (hf.blk (HBA.out.alloc (.cells #[.int .i64 (t.kind : Int), .string ⟨t.text.toArray⟩, .int .i64 (t.from_ : Int), .int .i64 (t.to_ : Int)] 150)) fun h => h)
    clear hf
    cases m41 : Np.isM 41 (t :: r) with
    | true =>
     have HXO := hid (HXC.out (by simp [Np.stops, m41]))
     obtain ⟨p0, p1, y0, y1, hlt⟩ := Blk.two HB2.out
     go_wp2_with fail
     have htr := (((HG.out.tree (by have := HSZ1.out; omega)).fresh HF2.out).other HB2.out (by decide) (touch2 w2 w.heap.size (.int .i64 0) (.int .i64 0)))
     have hps := ((HP.out.fresh HF2.out).put2 HB2.out (by decide) (by omega) HW0.out (.int .i64 0) (.int .i64 0))
     have hm9 : Mp c.g c.W0.heap.size w _ := ((HM.out.fr HF2.out).put2 (g := w.heap.size) (.inr (Nat.le_refl _)) (.int .i64 0) (.int .i64 0))
     have hb9 := ((HB2.out).self2 (.int .i64 0) (.int .i64 0))
     obtain ⟨f0, f1, _⟩ := Blk.two hb9
     simp only [put2] at htr hps hm9 f0 f1
     (try simp only [Exit.inBlock, Exit.then])
     refine bodyPost_ret (v := .tuple #[.slice A ks.length cp, failV 0 0]) (by simp [failV, results, Tryz.results81, go_sem, f0, f1]) rfl ?_
     rw [HXO.out] at HQ
     exact HQ.out _ _ ⟨A, cp, k1, rfl, htr, rfl, HKK.out, hps, hm9⟩
    | false =>
     go_wp2_with fail
     refine (HA1.out 93 _ HF2.out).mono ?_
     rw [HL.out]
     rintro _ w3 ⟨rfl, hf⟩
     have HF3 := hid (HF2.out.trans hf)
     have HB3 := hid (hf.blk HB2.out fun h => h)
     clear hf
     cases m93 : Np.isM 93 (t :: r) with
     | true =>
      have HXO := hid (HXC.out (by simp [Np.stops, m93]))
      obtain ⟨p0, p1, y0, y1, hlt⟩ := Blk.two HB3.out
      go_wp2_with fail
      have htr := (((HG.out.tree (by have := HSZ1.out; omega)).fresh HF3.out).other HB3.out (by decide) (touch2 w3 w.heap.size (.int .i64 0) (.int .i64 0)))
      have hps := ((HP.out.fresh HF3.out).put2 HB3.out (by decide) (by omega) HW0.out (.int .i64 0) (.int .i64 0))
      have hm9 : Mp c.g c.W0.heap.size w _ := ((HM.out.fr HF3.out).put2 (g := w.heap.size) (.inr (Nat.le_refl _)) (.int .i64 0) (.int .i64 0))
      have hb9 := ((HB3.out).self2 (.int .i64 0) (.int .i64 0))
      obtain ⟨f0, f1, _⟩ := Blk.two hb9
      simp only [put2] at htr hps hm9 f0 f1
      (try simp only [Exit.inBlock, Exit.then])
      refine bodyPost_ret (v := .tuple #[.slice A ks.length cp, failV 0 0]) (by simp [failV, results, Tryz.results81, go_sem, f0, f1]) rfl ?_
      rw [HXO.out] at HQ
      exact HQ.out _ _ ⟨A, cp, k1, rfl, htr, rfl, HKK.out, hps, hm9⟩
     | false =>
      go_wp2_with fail
      refine (HA1.out 125 _ HF3.out).mono ?_
      rw [HL.out]
      rintro _ w4 ⟨rfl, hf⟩
      have HF4 := hid (HF3.out.trans hf)
      have HB4 := hid (hf.blk HB3.out fun h => h)
      clear hf
      cases m125 : Np.isM 125 (t :: r) with
      | true =>
       have HXO := hid (HXC.out (by simp [Np.stops, m125]))
       obtain ⟨p0, p1, y0, y1, hlt⟩ := Blk.two HB4.out
       go_wp2_with fail
       have htr := (((HG.out.tree (by have := HSZ1.out; omega)).fresh HF4.out).other HB4.out (by decide) (touch2 w4 w.heap.size (.int .i64 0) (.int .i64 0)))
       have hps := ((HP.out.fresh HF4.out).put2 HB4.out (by decide) (by omega) HW0.out (.int .i64 0) (.int .i64 0))
       have hm9 : Mp c.g c.W0.heap.size w _ := ((HM.out.fr HF4.out).put2 (g := w.heap.size) (.inr (Nat.le_refl _)) (.int .i64 0) (.int .i64 0))
       have hb9 := ((HB4.out).self2 (.int .i64 0) (.int .i64 0))
       obtain ⟨f0, f1, _⟩ := Blk.two hb9
       simp only [put2] at htr hps hm9 f0 f1
       (try simp only [Exit.inBlock, Exit.then])
       refine bodyPost_ret (v := .tuple #[.slice A ks.length cp, failV 0 0]) (by simp [failV, results, Tryz.results81, go_sem, f0, f1]) rfl ?_
       rw [HXO.out] at HQ
       exact HQ.out _ _ ⟨A, cp, k1, rfl, htr, rfl, HKK.out, hps, hm9⟩
      | false =>
       go_wp2_with fail
       refine (HA1.out 38 _ HF4.out).mono ?_
       rw [HL.out]
       rintro _ w5 ⟨rfl, hf⟩
       have HF5 := hid (HF4.out.trans hf)
       have HB5 := hid (hf.blk HB4.out fun h => h)
       clear hf
       cases m38 : Np.isM 38 (t :: r) with
       | true =>
        have HXO := hid (HXC.out (by simp [Np.stops, m38]))
        obtain ⟨p0, p1, y0, y1, hlt⟩ := Blk.two HB5.out
        go_wp2_with fail
        have htr := (((HG.out.tree (by have := HSZ1.out; omega)).fresh HF5.out).other HB5.out (by decide) (touch2 w5 w.heap.size (.int .i64 0) (.int .i64 0)))
        have hps := ((HP.out.fresh HF5.out).put2 HB5.out (by decide) (by omega) HW0.out (.int .i64 0) (.int .i64 0))
        have hm9 : Mp c.g c.W0.heap.size w _ := ((HM.out.fr HF5.out).put2 (g := w.heap.size) (.inr (Nat.le_refl _)) (.int .i64 0) (.int .i64 0))
        have hb9 := ((HB5.out).self2 (.int .i64 0) (.int .i64 0))
        obtain ⟨f0, f1, _⟩ := Blk.two hb9
        simp only [put2] at htr hps hm9 f0 f1
        (try simp only [Exit.inBlock, Exit.then])
        refine bodyPost_ret (v := .tuple #[.slice A ks.length cp, failV 0 0]) (by simp [failV, results, Tryz.results81, go_sem, f0, f1]) rfl ?_
        rw [HXO.out] at HQ
        exact HQ.out _ _ ⟨A, cp, k1, rfl, htr, rfl, HKK.out, hps, hm9⟩
       | false =>
        go_wp2_with fail
        have HNS := hid (show Np.stops (t :: r) = false from by simp [Np.stops, H8.out, m41, m93, m125, m38])
        have HXI := hid (show X = ((pItem c.en f' op (c.T.drop k1)).bind fun more r => (pRow c.en f' op r).map fun items => more ++ items).map fun l => ks ++ l from by
         rw [HXS.out, HL.out, pRow, if_neg (by simp), if_neg (by simp [HNS.out])])
        refine (HIT.out f' (by have := HF'.out; omega) k1 op w5 (HP.out.fresh HF5.out) (by have := HOP.out; have := HKK.out; omega) (fun h => HNE.out (by rw [HXI.out, h]; rfl))).mono ?_
        intro e w6 hres
        have hone : ∀ items rest, pItem c.en f' op (c.T.drop k1) = .ok items rest → items.length = 1 := fun items rest h => pItem_one h
        have hparts := hres.parts (fun h => HNE.out (by rw [HXI.out, h]; rfl))
        clear hres
        generalize pItem c.en f' op (c.T.drop k1) = Y at HXI hparts hone
        obtain ⟨A1, n1, cp1, i1, er1, rfl, hm, hend⟩ := hparts
        have HM6 := hid ((HM.out.fr HF5.out).trans hm)
        have HB6 := hid (hm.blk HB5.out (by omega) (by decide))
        have HS6 := hid (show w.heap.size < w6.heap.size from HB6.out.lt)
        have HMM := hid hm
        have HD5 := hid HF5.out
        clear hm
        rcases hend with ⟨items, rest, k', rfl, rfl, rfl, rfl, htr, hdr, hkk2, hp⟩ | ⟨rfl, he0⟩
        case inr =>
         have HE0 := hid he0
         have e0 := fail_ne he0
         clear he0 hone
         have HXE := hid (show X = .err i1 er1 from by rw [HXI.out]; rfl)
         unfold failV
         go_wp2_with fail
         have hbe := Blk.new w6 88 #[.int .i64 (i1 : Int), .int .i64 (er1 : Int)]
         have hbr := HB6.out.alloc (.cells #[.int .i64 (i1 : Int), .int .i64 (er1 : Int)] 88)
         have hmr := HM6.out.alloc (.cells #[.int .i64 (i1 : Int), .int .i64 (er1 : Int)] 88)
         generalize (w6.alloc (.cells #[.int .i64 (i1 : Int), .int .i64 (er1 : Int)] 88)) = W5 at hbe hbr hmr ⊢
         have r0 := cell_regrown (hbe.cell 0 |>.trans rfl)
         have r1 := cell_regrown (hbe.cell 1 |>.trans rfl)
         have hlt3 := hbe.lt
         have HBR := hid hbr
         have HMR := hid hmr
         clear hbe hbr hmr
         refine wp_region_mix [([(0, true), (1, true)], 2)] [] (by kernel_rfl) (fun _ _ d _ _ h => by cases d <;> exact h) (by kernel_rfl) ?_
         refine wpMix_seg ?_
         repeat (refine wpSeq_plain rfl (fun K hK => ?_); go_simp; refine hK _ ?_; clear hK K)
         obtain ⟨p0, p1, y0, y1, hlt⟩ := Blk.two (HBR.out.drewN 1)
         refine wpSeq_shut rfl (fun K hK => ?_)
         go_wp2_with fail
         refine wpMix_end ?_
         go_wp2_with fail
         have hb5 : Blk _ (w.heap.size) 88 #[.int .i64 (i1 : Int), .int .i64 (er1 : Int)] := ((HBR.out.drewN 1).put 0 (.int .i64 (i1 : Int))).put 1 (.int .i64 (er1 : Int))
         have hm5 := ((HMR.out.drewN 1).setCell (p := ⟨w.heap.size, 0, none⟩) (.inr (by show w.heap.size ≤ w.heap.size; omega)) (.int .i64 (i1 : Int))).setCell (p := ⟨w.heap.size, 1, none⟩) (.inr (by show w.heap.size ≤ w.heap.size; omega)) (.int .i64 (er1 : Int))
         obtain ⟨f0, f1, _⟩ := Blk.two hb5
         (try simp only [Exit.inBlock, Exit.then])
         refine bodyPost_ret (v := .tuple #[.slice none 0 0, failV i1 er1]) (by simp [failV, results, Tryz.results81, go_sem, f0, f1]) rfl ?_
         rw [HXE.out] at HQ
         exact HQ.out _ _ ⟨HE0.out, none, 0, 0, rfl, hm5⟩
        have hl1 := hone items rest rfl
        clear hone
        obtain ⟨x, rfl⟩ : ∃ x, items = [x] := by
         cases items with
         | nil => simp at hl1
         | cons x l =>
          cases l with
          | nil => exact ⟨x, rfl⟩
          | cons y l => simp at hl1
        clear hl1
        have HXN := hid (show X = (pRow c.en f' op (c.T.drop k')).map fun l => (ks ++ [x]) ++ l from by
         rw [HXI.out, hdr]
         show R.map (R.map (pRow c.en f' op rest) (fun items => [x] ++ items)) (fun l => ks ++ l) = R.map (pRow c.en f' op rest) _
         cases pRow c.en f' op rest <;> simp [Np.R.map, Np.R.bind])
        obtain ⟨sl, hsrc, htrk, htx⟩ := htr.single
        have HSRC := hid hsrc
        have HTRK := hid htrk
        have HTX := hid htx
        have HP6 := hid hp
        have HK2 := hid hkk2
        have HG6 := hid (show Grow (fun _ => False) w6 w.heap.size W1.heap.size ks (.slice A ks.length cp) from (HG.out.fresh HF5.out).mv HMM.out (by have := HSZ1.out; omega) (fun _ h => h.elim) (fun b hb => .inr (.inr (PT.nty (HP.out.fresh HF5.out) hb))))
        have HOB := hid (show ∀ b, (Value.slice A ks.length cp).ownBlock = some b → b < w5.heap.size from fun b hb => by
         obtain ⟨cs, h1, _⟩ := HG.out
         obtain ⟨_, cur, h4⟩ := owns_type h1 hb
         exact Nat.lt_of_lt_of_le (Array.getElem?_eq_some_iff.1 h4).1 HF5.out.size)
        clear hdr htr hsrc htrk htx hp hkk2
        unfold failV
        go_wp2_with (at_builtin; refine wpList_append_grow rfl (.tmp 71) (.tmp 72) rfl i _ hi hz0 hz1 hz2 rfl (B0 := w.heap.size) (B := W1.heap.size) (B1 := w5.heap.size) (ks := ks) (v := .slice A ks.length cp) (y := .slice A1 1 cp1) (HG6.out.fresh ((Touch.refl _ _).alloc _)) (by simp [Act.eval]) x sl (by simp [Act.eval]) (HSRC.out.fresh ((Touch.refl _ _).alloc _)) (HTRK.out.fresh ((Touch.refl _ _).alloc _)) (by have := HD5.out.size; omega) (fun _ h => h.elim) HOB.out HTX.out (by have := HFF.out; have := HLE.out; omega) (by have := HSZ.out; have := HD5.out.size; have := HMM.out.size; simp; omega) ?_; intro A8 cp8 W8 hg8 ht8; refine Stay.mk ?_)
        have hlen : (ks ++ [x]).length = ks.length + 1 := by simp
        have hp8 := ht8.ps (HP6.out.fresh ((Touch.refl _ _).alloc (.cells #[.int .i64 0, .int .i64 0] 88))) (by have := HSZ1.out; have := HW0.out; omega) (by have := HSZ1.out; omega)
        have hm8 := ht8.mp (HM6.out.fr ((Touch.refl _ _).alloc (.cells #[.int .i64 0, .int .i64 0] 88))) (by have := HSZ1.out; omega)
        have hb8 := ht8.blk1 (HB6.out.alloc (.cells #[.int .i64 0, .int .i64 0] 88)) (by have := HSZ1.out; omega)
        have hs8 : W1.heap.size ≤ W8.heap.size := by have := ht8.size; have := HSZ.out; have := HD5.out.size; have := HMM.out.size; simp at *; omega
        refine Stay.go ?_
        go_wp2_with fail
        refine ⟨⟨k', ks ++ [x], A8, cp8, by rw [hlen], hb8, by rw [hlen]; exact hg8, hp8, Nat.le_trans HKK.out HK2.out, hm8, hs8, by have := HF'.out; omega, ?_⟩, by simp [slLen]; have := HF'.out; omega⟩
        unfold Hid
        rw [hlen, show F - (ks.length + 1) = f' from by have := HF'.out; omega]
        exact HXN.out
end Go.Proofs.YtdacpbdamliafaaGreat

/- A law on regions that draw their order: where two lone operations may come first, both ways are walked. -/
namespace Go.Proofs.YtdacpbdamliafaaGreat
open Go.RowKit
section
variable {P : Program} {ops : Array Oper} {md : Region.Mode} {C : World → Prop} {Q : Exit → Act → World → Prop}
inductive Plan where
 | nil
 | plain (i : Nat) (r : Plan)
 | lone (i : Nat) (r : Plan)
 | fork (i : Nat) (p : Plan) (j : Nat) (q : Plan)
def Plan.of : List (Nat × Bool) → Plan → Plan
 | [], r => r
 | (i, true) :: l, r => .plain i (Plan.of l r)
 | (i, false) :: l, r => .lone i (Plan.of l r)
def Plan.len : Plan → Nat
 | .nil => 0
 | .plain _ r => r.len + 1
 | .lone _ r => r.len + 1
 | .fork _ p _ _ => p.len + 1
def Plan.within (ns : List Nat) : Plan → Bool
 | .nil => true
 | .plain i r => ns.contains i && r.within ns
 | .lone i r => ns.contains i && r.within ns
 | .fork i p j q => ns.contains i && p.within ns && ns.contains j && q.within ns
def planB (md : Region.Mode) (ops : Array Oper) (fin : Array Bool) : Plan → Array Bool → Bool
 | .nil, listed => decide (listed = fin)
 | .plain k r, listed => (Region.ready md ops listed).contains k && Region.free md ops listed k && planB md ops fin r (listed.setIfInBounds k true)
 | .lone k r, listed => decide (Region.ready md ops listed = [k]) && planB md ops fin r (listed.setIfInBounds k true)
 | .fork i p j q, listed => decide (Region.ready md ops listed = [i, j]) && decide (p.len = q.len) && planB md ops fin p (listed.setIfInBounds i true) && planB md ops fin q (listed.setIfInBounds j true)
def wpPlan (P : Program) (l : List Oper) (Q : Exit → Act → World → Prop) (C : World → Prop) (L : Act → World → Prop) : Plan → Act → World → Prop
 | .nil, a, w => L a w
 | .plain i r, a, w => match l[i]? with
  | some o => if Region.wanted o (yielded l.toArray a.tmps) then stillV P o a C (fun a' => wpPlan P l Q C L r a' w) else wpPlan P l Q C L r (a.put o.dst undef) w
  | none => wpPlan P l Q C L r a w
 | .lone i r, a, w => wpList P l.toArray (Exit.then (fun a' w' => C w' ∧ wpPlan P l Q C L r a' w') Q) (pick l [i]) a w
 | .fork i p j q, a, w => wpList P l.toArray (Exit.then (fun a' w' => C w' ∧ wpPlan P l Q C L p a' w') Q) (pick l [i]) a w ∧ wpList P l.toArray (Exit.then (fun a' w' => C w' ∧ wpPlan P l Q C L q a' w') Q) (pick l [j]) a w
theorem wpPlan_plain {l : List Oper} {L : Act → World → Prop} {i : Nat} {o : Oper} {r : Plan} {a : Act} {w : World} (ho : l[i]? = some o)
  (h : ∀ K : Act → Prop, (∀ a, wpPlan P l Q C L r a w → K a) → if Region.wanted o (yielded l.toArray a.tmps) then stillV P o a C K else K (a.put o.dst undef)) : wpPlan P l Q C L (.plain i r) a w := by
 unfold wpPlan
 rw [ho]
 exact h _ (fun _ h => h)
theorem wpPlan_lone {l : List Oper} {L : Act → World → Prop} {i : Nat} {o : Oper} {r : Plan} {a : Act} {w : World} (ho : l[i]? = some o)
  (h : ∀ K : Act → World → Prop, (∀ a w, C w → wpPlan P l Q C L r a w → K a w) → wpList P l.toArray (Exit.then K Q) [o] a w) : wpPlan P l Q C L (.lone i r) a w := by
 unfold wpPlan
 have hp : pick l [i] = [o] := by simp [pick, ho]
 rw [hp]
 exact h _ (fun _ _ h1 h2 => ⟨h1, h2⟩)
theorem wpPlan_fork {l : List Oper} {L : Act → World → Prop} {i j : Nat} {p q : Plan} {a : Act} {w : World} (h1 : wpPlan P l Q C L (.lone i p) a w) (h2 : wpPlan P l Q C L (.lone j q) a w) : wpPlan P l Q C L (.fork i p j q) a w := ⟨h1, h2⟩
theorem wpPlan_nil {l : List Oper} {L : Act → World → Prop} {a : Act} {w : World} (h : L a w) : wpPlan P l Q C L .nil a w := h
theorem wpPlan_shut {l : List Oper} {Cl : World → World → Prop} {t : Nat} {o : Oper} {segs : List (List (Nat × Bool) × Nat)} {last : List (Nat × Bool)} {a : Act} {w : World} (ho : l[t]? = some o)
  (h : ∀ K : Act → World → Prop, (∀ a w, wpMix Cl P l Q segs last a w w → K a w) → wpList P l.toArray (Exit.then K Q) [o] a w) : wpPlan P l Q C (fun a' w' => wpList P l.toArray (Exit.then (fun a'' w'' => wpMix Cl P l Q segs last a'' w'' w'') Q) (pick l [t]) a' w') .nil a w := by
 unfold wpPlan
 have hp : pick l [t] = [o] := by simp [pick, ho]
 rw [hp]
 exact h _ (fun _ _ h1 => h1)
theorem plan_inv {ns : List Nat} {listed0 fin : Array Bool} : ∀ (p : Plan) (listed : Array Bool), p.within ns = true → ZInv md ops ns listed0 listed → planB md ops fin p listed = true → ZInv md ops ns listed0 fin
 | .nil, listed, _, inv, hB => by
  simp only [planB, decide_eq_true_eq] at hB
  rw [← hB]
  exact inv
 | .plain k r, listed, hn, inv, hB => by
  simp only [planB, Bool.and_eq_true] at hB
  simp only [Plan.within, Bool.and_eq_true] at hn
  exact plan_inv r _ hn.2 (inv.put (by simpa using hB.1.1) (by simpa using hn.1)) hB.2
 | .lone k r, listed, hn, inv, hB => by
  simp only [planB, Bool.and_eq_true, decide_eq_true_eq] at hB
  simp only [Plan.within, Bool.and_eq_true] at hn
  exact plan_inv r _ hn.2 (inv.put (by rw [hB.1]; simp) (by simpa using hn.1)) hB.2
 | .fork i p j q, listed, hn, inv, hB => by
  simp only [planB, Bool.and_eq_true, decide_eq_true_eq] at hB
  simp only [Plan.within, Bool.and_eq_true] at hn
  exact plan_inv p _ hn.1.1.2 (inv.put (by rw [hB.1.1.1]; simp) (by simpa using hn.1.1.1)) hB.1.2
theorem wpAnyU_plan {l0 : List Oper} {ns : List Nat} {t : Option Nat} {listed0 : Array Bool} {Lq : Act → World → Prop} {fin : Array Bool} (hsel : Region.noSelect l0.toArray = true) (hQ : ∀ c a d v w, Q (.panic c) (Act.put a d v) w → Q (.panic c) a w)
  (hs : shutB md l0.toArray ns t listed0 = true) (hfin : ∀ j ∈ Region.ready md l0.toArray fin, j ∉ ns) :
  ∀ (p : Plan) (listed : Array Bool) (a : Act) (w : World), p.within ns = true → ZInv md l0.toArray ns listed0 listed → planB md l0.toArray fin p listed = true → C w →
  wpPlan P l0 Q C Lq p a w → wpAnyU P md l0.toArray Q C ns (fun listed' a' w' => listed' = fin ∧ Lq a' w') p.len listed a w
 | .nil, listed, a, w, _, _, hB, _, h => by
  simp only [planB, decide_eq_true_eq] at hB
  exact ⟨hB, h⟩
 | .plain k r, listed, a, w, hn, inv, hB, hC, h => by
  simp only [planB, Bool.and_eq_true] at hB
  simp only [Plan.within, Bool.and_eq_true] at hn
  obtain ⟨⟨hr, hfr⟩, hB'⟩ := hB
  have hr' : k ∈ Region.ready md l0.toArray listed := by simpa using hr
  obtain ⟨_, o, ho, _⟩ := mem_ready.1 hr'
  have ho' : l0[k]? = some o := by simpa using ho
  unfold wpPlan at h
  rw [ho'] at h
  have hkq : k ∈ ns := by simpa using hn.1
  obtain ⟨v, hy, hK⟩ : ∃ v, YieldsIf P l0.toArray C o v a ∧ wpPlan P l0 Q C Lq r (a.put o.dst v) w := by
   by_cases hw : Region.wanted o (yielded l0.toArray a.tmps) = true
   ·simp only [hw, if_true] at h
    obtain ⟨v, h1, h2⟩ := h
    exact ⟨v, .inl ⟨hw, fun w hw => stillUpon_ok (h1 w hw)⟩, h2⟩
   ·simp only [hw] at h
    exact ⟨undef, .inr ⟨by simpa using hw, rfl⟩, h⟩
  exact wpAnyU_first ho (Region.noSelect_spec hsel) (fun c a w => hQ c a o.dst v w) hs hkq (fun listed' a' w' hL => by rw [hL.1]; exact hfin) r.len listed a w inv (Region.free_spec ho hfr) hr' hy hC
   (wpAnyU_plan hsel hQ hs hfin r _ _ w hn.2 (inv.put hr' hkq) hB' hC hK)
 | .lone k r, listed, a, w, hn, inv, hB, hC, h => by
  simp only [planB, Bool.and_eq_true, decide_eq_true_eq] at hB
  simp only [Plan.within, Bool.and_eq_true] at hn
  obtain ⟨hr, hB'⟩ := hB
  have hr' : k ∈ Region.ready md l0.toArray listed := by rw [hr]; simp
  obtain ⟨_, o, ho, _⟩ := mem_ready.1 hr'
  have hkq : k ∈ ns := by simpa using hn.1
  refine ⟨by rw [hr]; simp, fun i hi => ?_⟩
  rw [hr] at hi
  rw [List.mem_singleton.1 hi]
  unfold wpPlan at h
  exact ⟨hkq, wpOp_mono (fun a' w' h' => ⟨h'.1, wpAnyU_plan hsel hQ hs hfin r _ a' w' hn.2 (inv.put hr' hkq) hB' h'.1 h'.2⟩) (wpOp_of_single ho h)⟩
 | .fork i p j q, listed, a, w, hn, inv, hB, hC, h => by
  simp only [planB, Bool.and_eq_true, decide_eq_true_eq] at hB
  simp only [Plan.within, Bool.and_eq_true] at hn
  obtain ⟨⟨⟨hr, hlen⟩, hBp⟩, hBq⟩ := hB
  have hri : i ∈ Region.ready md l0.toArray listed := by rw [hr]; simp
  have hrj : j ∈ Region.ready md l0.toArray listed := by rw [hr]; simp
  obtain ⟨_, oi, hoi, _⟩ := mem_ready.1 hri
  obtain ⟨_, oj, hoj, _⟩ := mem_ready.1 hrj
  have hki : i ∈ ns := by simpa using hn.1.1.1
  have hkj : j ∈ ns := by simpa using hn.1.2
  unfold wpPlan at h
  refine ⟨by rw [hr]; simp, fun k hk => ?_⟩
  rw [hr] at hk
  rcases List.mem_cons.1 hk with rfl | hk
  ·exact ⟨hki, wpOp_mono (fun a' w' h' => ⟨h'.1, wpAnyU_plan hsel hQ hs hfin p _ a' w' hn.1.1.2 (inv.put hri hki) hBp h'.1 h'.2⟩) (wpOp_of_single hoi h.1)⟩
  ·rw [List.mem_singleton.1 hk]
   exact ⟨hkj, wpOp_mono (fun a' w' h' => ⟨h'.1, by rw [hlen]; exact wpAnyU_plan hsel hQ hs hfin q _ a' w' hn.2 (inv.put hrj hkj) hBq h'.1 h'.2⟩) (wpOp_of_single hoj h.2)⟩
theorem wp_region_plan {id : Nat} {a : Act} {w : World} {l : List Oper} (p : Plan) (ns : List Nat) (t : Nat) (fin : Array Bool) (segs : List (List (Nat × Bool) × Nat)) (last : List (Nat × Bool)) (hm : P.follows .mixedOrders = true) (hQ : ∀ c a d v w, Q (.panic c) (Act.put a d v) w → Q (.panic c) a w)
  (hB : (Region.noSelect l.toArray && decide (p.len + (mixN segs last + 1) = l.toArray.size) && p.within ns && planB .any l.toArray fin p (Array.replicate l.toArray.size false) && shutB .any l.toArray ns (some t) (Array.replicate l.toArray.size false) &&
   decide (Region.ready .any l.toArray fin = [t]) && !ns.contains t && mixB .any l.toArray segs last (fin.setIfInBounds t true)) = true)
  (h : wpPlan P l Q (fun w' => ∃ p : Regrown, w' = Go.Sort.grow (redrawn w p.d) p.os) (fun a' w' => wpList P l.toArray (Exit.then (fun a'' w'' => wpMix (fun w w' => ∃ p : Regrown, w' = Go.Sort.grow (redrawn w p.d) p.os) P l Q segs last a'' w'' w'') Q) (pick l [t]) a' w') p a (w.drewN 1)) : (Code.region id l.toArray true).wp P Q a w := by
 simp only [Bool.and_eq_true, decide_eq_true_eq, Bool.not_eq_true'] at hB
 obtain ⟨⟨⟨⟨⟨⟨⟨hsel, hn⟩, hin⟩, hp⟩, hs⟩, hr⟩, ht⟩, hB'⟩ := hB
 refine wp_region_any hm ?_
 rw [← hn]
 rw [← hn] at hp hs
 have hz : ZInv .any l.toArray ns (Array.replicate (p.len + (mixN segs last + 1)) false) (Array.replicate (p.len + (mixN segs last + 1)) false) :=
  ⟨⟨by simp [hn], fun j oj _ hl => by rw [getD_repl] at hl; cases hl⟩, fun _ h => h, fun _ h => .inl h⟩
 have hz' := plan_inv p _ hin hz hp
 have htr : t ∈ Region.ready .any l.toArray fin := by rw [hr]; simp
 have htn : t ∉ ns := by
  intro hx
  rw [List.contains_iff_mem.2 hx] at ht
  cases ht
 obtain ⟨_, ot, hot, _⟩ := mem_ready.1 htr
 have := wpAnyU_plan (P := P) (Q := Q) (fin := fin) hsel hQ hs (by rw [hr]; intro j hj; rw [List.mem_singleton.1 hj]; exact htn) p _ a (w.drewN 1) hin hz hp (Growing.drew w) h
 refine wpAny_of_U (g := mixN segs last + 1) (fun listed' a' w' _ hL => ?_) p.len _ a _ (Growing.drew w) this
 refine wpAny_all (rs := [t]) (by rw [hL.1]; exact hr) (by simp) (fun i hi => ?_)
 rw [List.mem_singleton.1 hi, hL.1]
 exact wpOp_mono (fun a'' w'' h'' => wpAny_of_mix Growing.refl hsel hQ segs last _ a'' w'' w'' (hz'.closed.put htr) hB' (Growing.refl w'') h'') (wpOp_of_single hot hL.2)
end
end Go.Proofs.YtdacpbdamliafaaGreat

/- A law on regions that draw their order: a plan of all operations, within a class of worlds. -/
namespace Go.Proofs.YtdacpbdamliafaaGreat
open Go.RowKit
theorem wp_region_plan_in {P : Program} {Q : Exit → Act → World → Prop} {id : Nat} {a : Act} {w : World} {l : List Oper} (C : World → Prop) (p : Plan) (ns : List Nat) (fin : Array Bool) (hm : P.follows .mixedOrders = true) (hQ : ∀ c a d v w, Q (.panic c) (Act.put a d v) w → Q (.panic c) a w)
  (hB : (Region.noSelect l.toArray && decide (p.len = l.toArray.size) && p.within ns && planB .any l.toArray fin p (Array.replicate l.toArray.size false) && shutB .any l.toArray ns none (Array.replicate l.toArray.size false) && (Region.ready .any l.toArray fin).isEmpty) = true)
  (hC : C (w.drewN 1)) (h : wpPlan P l Q C (fun a' w' => Q .normal a' w') p a (w.drewN 1)) : (Code.region id l.toArray true).wp P Q a w := by
 simp only [Bool.and_eq_true, decide_eq_true_eq, List.isEmpty_iff] at hB
 obtain ⟨⟨⟨⟨⟨hsel, hn⟩, hin⟩, hp⟩, hs⟩, hr⟩ := hB
 refine wp_region_any hm ?_
 rw [← hn]
 rw [← hn] at hp hs
 have hz : ZInv .any l.toArray ns (Array.replicate p.len false) (Array.replicate p.len false) :=
  ⟨⟨by simp [hn], fun j oj _ hl => by rw [getD_repl] at hl; cases hl⟩, fun _ h => h, fun _ h => .inl h⟩
 have := wpAnyU_plan (P := P) (Q := Q) (fin := fin) hsel hQ hs (by rw [hr]; simp) p _ a (w.drewN 1) hin hz hp hC h
 exact wpAny_of_U (g := 0) (fun listed' a' w' _ hL => wpAny_done (by rw [hL.1]; exact hr) hL.2 0) p.len _ a _ hC this
end Go.Proofs.YtdacpbdamliafaaGreat
