/- Part 28 of 42 of a proof; its texts, joined: NyM. No condition. -/
import Derived.Test.YtomibmenojdieaaGreatXx27
set_option maxRecDepth 100000
set_option maxHeartbeats 2000000
namespace Go.Proofs.YtomibmenojdieaaGreat
open Go.RowKit
open Tr (Nd)
open Lx (PTok)
open Mcr (R pRow pIn pScript pItem pPrim pArgs pName pCells pArg pMac)
attribute [local go_sem] stillV stillUpon
theorem eql_func_nil (F : Fn) (a b : Array Value) (w : World) : (binOp .eql 74 (.func F a b) .nilFunc).run Tryz.prog w = .ok (.bool false) w := by
 have h : ∀ d, (Op.equalIn (d + 1) 74 (.func F a b) .nilFunc).run Tryz.prog w = .ok false w := fun d => by simp [Op.equalIn, run_underlying Tryz.underlying74]
 simp only [binOp];simp [Op.equal, Op.maxDepth, h 9999]
theorem eql_nil_nil (w : World) : (binOp .eql 74 .nilFunc .nilFunc).run Tryz.prog w = .ok (.bool true) w := by
 have h : ∀ d, (Op.equalIn (d + 1) 74 .nilFunc .nilFunc).run Tryz.prog w = .ok true w := fun d => by simp [Op.equalIn, run_underlying Tryz.underlying74]
 simp only [binOp];simp [Op.equal, Op.maxDepth, h 9999]
theorem arg_eq {c : Cf} {k : Kp} {t : PTok} {r : List PTok} (f : Nat) (op : List Nat) (hl : (c.at k).l = t :: r) : pArg c.E (f + 1) op (c.at k) = match Mcr.leafP c.P t with
  | some x => .ok (Np.slot [x]) (c.at k.up)
  | none => if Np.isM 123 (t :: r) then (pIn c.E f 125 op (c.at k)).map Np.slot
   else if t.kind = 4 ∧ Np.special t.text = false then
    match Mcr.getF c.tb t.text with
    | some m => if 0 < m.params then .err (Np.place c.en (t :: r)) 3 else (pMac c.E f 0 op t (c.at k.up)).map Np.slot
    | none => (Mcr.plainName t (c.at k.up)).map Np.slot
   else .err (Np.place c.en (t :: r)) 3 := by
 rw [← Cf.at_up];generalize c.at k = s at *;obtain ⟨l, n, b⟩ := s;simp only at hl;subst hl;rw [pArg];rfl
theorem arg_nil {c : Cf} {k : Kp} (f : Nat) (op : List Nat) (hl : (c.at k).l = []) : pArg c.E (f + 1) op (c.at k) = .err (Np.place c.en []) 3 := by
 generalize c.at k = s at *;obtain ⟨l, n, b⟩ := s;simp only at hl;subst hl;rw [pArg];rfl
theorem arg_ways {c : Cf} {k : Kp} {t : PTok} {r : List PTok} (f : Nat) (op : List Nat) (hl : (c.at k).l = t :: r) (hx : Mcr.leafP c.P t = none) (hm : Np.isM 123 (t :: r) = false) (h4 : t.kind = 4) (hnf : namedF t.text = none) :
  (∃ (X : R (List Nd)) (z : Bool), getV c.tb t.text = (0, z) ∧ pArg c.E (f + 1) op (c.at k) = X.map Np.slot ∧ pName c.E (f + 1) op t (c.at k.up) = X) ∨
  (∃ p, getV c.tb t.text = (p, true) ∧ 0 < p ∧ pArg c.E (f + 1) op (c.at k) = .err (Np.place c.en (t :: r)) 3) := by
 rw [arg_eq f op hl, hx, named_none c f op t _ hnf];unfold getV;simp only
 rw [if_neg (by simp [hm]), if_pos ⟨h4, (namedF_special t.text).1 hnf⟩];cases Mcr.getF c.tb t.text with
 | none => exact .inl ⟨_, false, rfl, rfl, rfl⟩
 | some m =>
  simp only
  by_cases hp : 0 < m.params
  ·exact .inr ⟨_, rfl, hp, by rw [if_pos hp]⟩
  ·have h0 : m.params = 0 := by omega
   exact .inl ⟨_, true, by rw [h0], by rw [if_neg hp], by rw [h0]⟩
theorem argument_n (c : Cf) (hc : c.Good) (bm : Nat) (hnm : c.Named bm) (f : Nat) (henc : EnclosedN c f) (hname : NameN c (f + 1)) : ArgumentN c (f + 1) := by
 intro k op w h hop hne;have htl := hc.tl;have HSIM := hid (fun (w' : World) (hf : Fresh w w') => simple_any_n c hc k op w' (h.fresh hf));have HT := hid (fun (w' : World) (hf : Fresh w w') => tok_any_n c hc k op w' (h.fresh hf));have HA := hid (fun (b : UInt8) (w' : World) (hf : Fresh w w') => at_any_n c hc k op b w' (h.fresh hf));have HR := hid (fun (w' : World) (hf : Fresh w w') => refuse_any_n c hc k op w' (h.fresh hf));have HMAC := hid (fun (s : List UInt8) (w' : World) (hf : Fresh w w') => macro_any_n c hc k op s w' (h.fresh hf));have HNA := hid hname;have HEN := hid henc;have HTXT := hid hc.txt;have H := hid h;have HOP := hid hop;have HW0 := hid h.low.size;have hgl : c.g < w.heap.size := h.glt;have HNE := hid hne;have HNM := hid hnm;have HMAP := hid (hnm.at h);refine Calls.via fun Q hQ => ?_
 have HQ := hid hQ;clear hne h hop hc hQ hname henc hnm;unfold SimpleE at HSIM;generalize hl : (c.at k).l = l at HSIM HT HA HR;have HL := hid hl;clear hl;unfold pp0;go_enter Tryz.func88, Tryz.ntmps88;go_wp2_with fail
 refine (HSIM.out _ (((Touch.refl _ _).alloc _).alloc _)).mono ?_;rintro e w1 (⟨x, b, hx, rfl, htr, hp, hm⟩ | ⟨hx, rfl, hf⟩)
 ·have HM1 := hid ((Mp.fresh (((Touch.refl _ w).alloc _).alloc _)).trans hm)
  have HBN1 := hid (hm.blk ((Blk.new w 35 zeroN).alloc (.cells #[.int .i64 0, .int .i64 0] 48)) (by omega) (by decide));have HBF1 := hid (hm.blk (Blk.new2 w (.cells zeroN 35) 48 #[.int .i64 0, .int .i64 0]) (by omega) (by decide));have htr' : TreT (w.heap.size + 1 + 1) w1 [x] (.slice (some ⟨b, 0, none⟩) 1 1) := htr.base (by simp);have HTR := hid htr';have HP3 := hid hp
  have HX := hid (show pArg c.E (f + 1) op (c.at k) = .ok (Np.slot [x]) (c.at k.up) from by
   cases l with
   | nil => cases hx
   | cons t r =>
    rw [arg_eq f op HL.out];simp only [show Mcr.leafP c.P t = some x from hx])
  rw [HX.out] at HQ;clear hm htr htr' hp hx;go_wp2_with fail
  refine (slot_any_n (some ⟨b, 0, none⟩) 1 1 _).mono ?_;rintro _ w7 ⟨rfl, hf⟩;have HBN := hid (hf.blk HBN1.out fun h => h);have HBF := hid (hf.blk HBF1.out fun h => h);have HM := hid (HM1.out.trans (Mp.fresh hf));have HP := hid (HP3.out.fresh hf);have HTR7 := hid (HTR.out.fresh hf);clear hf;obtain ⟨p0, p1, p2, p3, y0, y1, y2, y3, hlt0⟩ := Blk.four HBN.out;obtain ⟨q0, q1, z0, z1, hlt1⟩ := Blk.two HBF.out;go_wp2_with fail
  have hne : w.heap.size ≠ w.heap.size + 1 := by omega
  have n1 := (HBN.out.self4 (.int .i64 1) (.string ⟨#[]⟩) (.int .i64 0) (.slice (some ⟨b, 0, none⟩) 1 1)).far2 hne (.int .i64 0) (.int .i64 0);have n2' := HBF.out.far4 (Ne.symm hne) (.int .i64 1) (.string ⟨#[]⟩) (.int .i64 0) (.slice (some ⟨b, 0, none⟩) 1 1);have n2 := n2'.self2 (.int .i64 0) (.int .i64 0);have hps := (HP.out.put4 HBN.out (by decide) (by omega) HW0.out (.int .i64 1) (.string ⟨#[]⟩) (.int .i64 0) (.slice (some ⟨b, 0, none⟩) 1 1)).put2 n2' (by decide) (by omega) (by have := HW0.out; omega) (.int .i64 0) (.int .i64 0);have htr9 := (HTR7.out.far (touch4 w7 w.heap.size (.int .i64 1) (.string ⟨#[]⟩) (.int .i64 0) (.slice (some ⟨b, 0, none⟩) 1 1)) (by omega)).other n2' (by decide) (touch2 _ (w.heap.size + 1) (.int .i64 0) (.int .i64 0));have hm9 : Mp c.g c.W0.heap.size w _ := (HM.out.put4 (g := w.heap.size) (.inr (Nat.le_refl _)) (.int .i64 1) (.string ⟨#[]⟩) (.int .i64 0) (.slice (some ⟨b, 0, none⟩) 1 1)).put2 (g := w.heap.size + 1) (.inr (by omega)) (.int .i64 0) (.int .i64 0);obtain ⟨g0, g1, g2, g3, _⟩ := Blk.four n1;obtain ⟨f0, f1, _⟩ := Blk.two n2;simp only [put2, put4] at g0 g1 g2 g3 f0 f1 hps htr9 hm9
  (try simp only [Exit.inBlock, Exit.then])
  refine bodyPost_ret (v := .tuple #[.agg #[.int .i64 1, .string ⟨#[]⟩, .int .i64 0, .slice (some ⟨b, 0, none⟩) 1 1], failV 0 0]) (by simp [failV, results, Tryz.results88, go_sem, f0, f1, g0, g1, g2, g3]) rfl ?_;exact HQ.out _ _ ⟨some ⟨b, 0, none⟩, 1, k.up, rfl, htr9.base (by omega), Nat.zero_le _, rfl, Nat.le_succ _, hps, hm9⟩
 ·have HF1 := hid (show Fresh w w1 from Touch.pre (Touch.pre hf))
  have HBN1 := hid (hf.blk ((Blk.new w 35 zeroN).alloc (.cells #[.int .i64 0, .int .i64 0] 48)) (fun h => h));have HBF1 := hid (hf.blk (Blk.new2 w (.cells zeroN 35) 48 #[.int .i64 0, .int .i64 0]) (fun h => h));clear hf;cases l with
  | nil =>
   have m123 : Np.isM 123 ([] : List PTok) = false := rfl;have HXX := hid (show pArg c.E (f + 1) op (c.at k) = .err (Np.place c.en []) 3 from arg_nil f op HL.out);rw [HXX.out] at HQ;unfold tokV at HT;go_wp2_with fail
   refine (HT.out _ HF1.out).mono ?_;rintro _ w2 ⟨rfl, hf⟩;have hf3 := (HF1.out.trans hf).alloc (.cells #[.int .i64 0, .string ⟨#[]⟩, .int .i64 (c.en : Int), .int .i64 (c.en : Int)] 107) |>.alloc (.cells #[.int .i64 0, .int .i64 0] 48)
   have hn3 := (hf.blk HBN1.out fun h => h).alloc (.cells #[.int .i64 0, .string ⟨#[]⟩, .int .i64 (c.en : Int), .int .i64 (c.en : Int)] 107) |>.alloc (.cells #[.int .i64 0, .int .i64 0] 48)
   have hb3 := (hf.blk HBF1.out fun h => h).alloc (.cells #[.int .i64 0, .string ⟨#[]⟩, .int .i64 (c.en : Int), .int .i64 (c.en : Int)] 107) |>.alloc (.cells #[.int .i64 0, .int .i64 0] 48)
   have ht3 : Blk _ w2.heap.size 107 #[.int .i64 0, .string ⟨#[]⟩, .int .i64 (c.en : Int), .int .i64 (c.en : Int)] := (Blk.new w2 107 #[.int .i64 0, .string ⟨#[]⟩, .int .i64 (c.en : Int), .int .i64 (c.en : Int)]).alloc (.cells #[.int .i64 0, .int .i64 0] 48);have h83 : Blk _ (w2.heap.size + 1) 48 #[.int .i64 0, .int .i64 0] := Blk.new2 w2 (.cells #[.int .i64 0, .string ⟨#[]⟩, .int .i64 (c.en : Int), .int .i64 (c.en : Int)] 107) 48 #[.int .i64 0, .int .i64 0];have HS2 := hid (show w.heap.size + 1 < w2.heap.size from (hf.blk HBF1.out fun h => h).lt);clear hf;go_wp2_with fail
   generalize ((w2.alloc (.cells #[.int .i64 0, .string ⟨#[]⟩, .int .i64 (c.en : Int), .int .i64 (c.en : Int)] 107)).alloc (.cells #[.int .i64 0, .int .i64 0] 48)) = w3 at hf3 hn3 hb3 ht3 h83 ⊢;have HF3 := hid hf3;have HBN3 := hid hn3;have HBF3 := hid hb3;have HBT3 := hid ht3;have HB83 := hid h83;clear hf3 hn3 hb3 ht3 h83;refine (HA.out 123 _ HF3.out).mono ?_;rintro _ w4 ⟨rfl, hf⟩;have HF4 := hid (HF3.out.trans hf);have HBN4 := hid (hf.blk HBN3.out fun h => h);have HBF4 := hid (hf.blk HBF3.out fun h => h);have HBT4 := hid (hf.blk HBT3.out fun h => h);have HB84 := hid (hf.blk HB83.out fun h => h);have HM4 := hid (Mp.fresh (g := c.g) (B := c.W0.heap.size) HF4.out);clear hf;rw [m123];go_wp2_with fail
   obtain ⟨t0, t1, t2, t3, _, _, _, _, hltt⟩ := Blk.four HBT4.out;have r0 := cR t0
   go_quiet (fail)
   have HF5 := hid (HF4.out.drewN nq);have HBN5' := hid (HBN4.out.drewN nq);have HBF5' := hid (HBF4.out.drewN nq);have HBT5 := hid (HBT4.out.drewN nq);have HB85' := hid (HB84.out.drewN nq);clear t0 t1 t2 t3 hltt r0;generalize w4.drewN nq = w6 at HF5 HBN5' HBF5' HBT5 HB85' ⊢;go_wp2_with fail
   refine (HR.out _ HF5.out).mono ?_;rintro _ w5 ⟨rfl, hf⟩;have HM5 := hid (Mp.fresh (g := c.g) (B := c.W0.heap.size) (HF5.out.trans hf));have HBN5 := hid (hf.blk HBN5'.out fun h => h);have HBF5 := hid (hf.blk HBF5'.out fun h => h);have HB85 := hid (hf.blk HB85'.out fun h => h);clear hf;generalize Np.place c.en ([]) = pl at HQ ⊢;obtain ⟨q0, q1, z0, z1, hlt3⟩ := Blk.two HB85.out
   (try unfold failV)
   go_wp2_with fail
   have b8 := HB85.out.self2 (.int .i64 (pl : Int)) (.int .i64 3);have bn := HBN5.out.far2 (L := w.heap.size) (g := w2.heap.size + 1) (by have := HS2.out; omega) (.int .i64 (pl : Int)) (.int .i64 3);have bf := HBF5.out.far2 (L := w.heap.size + 1) (g := w2.heap.size + 1) (by have := HS2.out; omega) (.int .i64 (pl : Int)) (.int .i64 3);have hm6 : Mp c.g c.W0.heap.size w _ := HM5.out.put2 (g := w2.heap.size + 1) (.inr (by have := HS2.out; omega)) (.int .i64 (pl : Int)) (.int .i64 3);simp only [put2] at b8 bn bf hm6;generalize (World.setCell (World.setCell w5 ⟨w2.heap.size + 1, 0, none⟩ _) ⟨w2.heap.size + 1, 1, none⟩ _) = W6 at b8 bn bf hm6 ⊢;clear q0 q1 z0 z1 hlt3;have HB86 := hid b8;have HBN6 := hid bn;have HBF6 := hid bf;have HM6 := hid hm6;clear bn bf hm6 b8;refine wp_region_in (fun W => Blk W (w2.heap.size + 1) 48 #[.int .i64 (pl : Int), .int .i64 3] ∧ Blk W w.heap.size 35 zeroN) [(0, true), (1, true), (2, false), (3, false)] (by kernel_rfl) (fun _ _ d _ _ h => by cases d <;> exact h) (by kernel_rfl) ⟨HB86.out.drewN 1, HBN6.out.drewN 1⟩ ?_;refine wpSeq_plain rfl (fun K hK => ?_);rw [if_pos (by rfl)];refine ⟨.agg zeroN, fun W hW => ?_, hK _ ?_⟩
   ·go_simp
   clear hK K;refine wpSeq_plain rfl (fun K hK => ?_);rw [if_pos (by rfl)];refine ⟨.agg #[.int .i64 (pl : Int), .int .i64 3], fun W hW => ?_, hK _ ?_⟩
   ·obtain ⟨h1, _⟩ := hW
    obtain ⟨p0, p1, _⟩ := Blk.two h1;go_simp
   clear hK K;obtain ⟨p0, p1, p2, p3, y0, y1, y2, y3, hlt0⟩ := Blk.four (HBN6.out.drewN 1);refine wpSeq_lone rfl (fun K hK => ?_);go_wp2_with fail
   have hne : w.heap.size ≠ w.heap.size + 1 := by omega
   have n1 := (HBN6.out.drewN 1).self4 (.int .i64 0) (.string ⟨#[]⟩) (.int .i64 0) (.slice none 0 0);have n2 := (HBF6.out.drewN 1).far4 (Ne.symm hne) (.int .i64 0) (.string ⟨#[]⟩) (.int .i64 0) (.slice none 0 0);have n8 := (HB86.out.drewN 1).far4 (L := w2.heap.size + 1) (g := w.heap.size) (by have := HS2.out; omega) (.int .i64 0) (.string ⟨#[]⟩) (.int .i64 0) (.slice none 0 0);have hm7 : Mp c.g c.W0.heap.size w _ := (HM6.out.drewN 1).put4 (g := w.heap.size) (.inr (Nat.le_refl _)) (.int .i64 0) (.string ⟨#[]⟩) (.int .i64 0) (.slice none 0 0);simp only [put4] at n1 n2 n8 hm7;generalize (World.setCell (World.setCell (World.setCell (World.setCell (W6.drewN 1) ⟨w.heap.size, 0, none⟩ _) ⟨w.heap.size, 1, none⟩ _) ⟨w.heap.size, 2, none⟩ _) ⟨w.heap.size, 3, none⟩ _) = W7 at n1 n2 n8 hm7 ⊢;refine hK _ _ ⟨n8, n1⟩ ?_;clear hK K p0 p1 p2 p3 y0 y1 y2 y3 hlt0;have HN1 := hid n1;have HN2 := hid n2;have HN8 := hid n8;have HM7 := hid hm7;clear n1 n2 n8 hm7;obtain ⟨q0, q1, z0, z1, hlt1⟩ := Blk.two HN2.out;refine wpSeq_lone rfl (fun K hK => ?_);go_wp2_with fail
   have m1 := HN1.out.far2 hne (.int .i64 (pl : Int)) (.int .i64 3);have m2 := HN2.out.self2 (.int .i64 (pl : Int)) (.int .i64 3);have m8 := HN8.out.far2 (L := w2.heap.size + 1) (g := w.heap.size + 1) (by have := HS2.out; omega) (.int .i64 (pl : Int)) (.int .i64 3);have hm8 : Mp c.g c.W0.heap.size w _ := HM7.out.put2 (g := w.heap.size + 1) (.inr (by omega)) (.int .i64 (pl : Int)) (.int .i64 3);simp only [put2] at m1 m2 m8 hm8;generalize (World.setCell (World.setCell W7 ⟨w.heap.size + 1, 0, none⟩ _) ⟨w.heap.size + 1, 1, none⟩ _) = W8 at m1 m2 m8 hm8 ⊢;refine hK _ _ ⟨m8, m1⟩ ?_;clear hK K q0 q1 z0 z1 hlt1;refine wpSeq_end ?_;go_wp2_with fail
   obtain ⟨g0, g1, g2, g3, _⟩ := Blk.four m1;obtain ⟨f0, f1, _⟩ := Blk.two m2
   (try simp only [Exit.inBlock, Exit.then])
   refine bodyPost_ret (v := .tuple #[.agg zeroN, failV pl 3]) (by simp [failV, results, Tryz.results88, go_sem, f0, f1, g0, g1, g2, g3]) rfl ?_;exact HQ.out _ _ ⟨by decide, .mk 0 [] 0 [], none, 0, rfl, hm8⟩
  | cons t r =>
   have HK := hid (show k.p < c.T.length from drop_lt (by rw [HL.out]; exact List.cons_ne_nil _ _));have HX := hid (show Mcr.leafP c.P t = none from hx);clear hx;unfold tokV at HT;go_wp2_with fail
   refine (HT.out _ HF1.out).mono ?_;rintro _ w2 ⟨rfl, hf⟩;have hf3 := (HF1.out.trans hf).alloc (.cells #[.int .i64 (t.kind : Int), .string ⟨t.text.toArray⟩, .int .i64 (t.from_ : Int), .int .i64 (t.to_ : Int)] 107) |>.alloc (.cells #[.int .i64 0, .int .i64 0] 48)
   have hn3 := (hf.blk HBN1.out fun h => h).alloc (.cells #[.int .i64 (t.kind : Int), .string ⟨t.text.toArray⟩, .int .i64 (t.from_ : Int), .int .i64 (t.to_ : Int)] 107) |>.alloc (.cells #[.int .i64 0, .int .i64 0] 48)
   have hb3 := (hf.blk HBF1.out fun h => h).alloc (.cells #[.int .i64 (t.kind : Int), .string ⟨t.text.toArray⟩, .int .i64 (t.from_ : Int), .int .i64 (t.to_ : Int)] 107) |>.alloc (.cells #[.int .i64 0, .int .i64 0] 48)
   have ht3 : Blk _ w2.heap.size 107 #[.int .i64 (t.kind : Int), .string ⟨t.text.toArray⟩, .int .i64 (t.from_ : Int), .int .i64 (t.to_ : Int)] := (Blk.new w2 107 #[.int .i64 (t.kind : Int), .string ⟨t.text.toArray⟩, .int .i64 (t.from_ : Int), .int .i64 (t.to_ : Int)]).alloc (.cells #[.int .i64 0, .int .i64 0] 48);have h83 : Blk _ (w2.heap.size + 1) 48 #[.int .i64 0, .int .i64 0] := Blk.new2 w2 (.cells #[.int .i64 (t.kind : Int), .string ⟨t.text.toArray⟩, .int .i64 (t.from_ : Int), .int .i64 (t.to_ : Int)] 107) 48 #[.int .i64 0, .int .i64 0];have HS2 := hid (show w.heap.size + 1 < w2.heap.size from (hf.blk HBF1.out fun h => h).lt);clear hf;go_wp2_with fail
   generalize ((w2.alloc (.cells #[.int .i64 (t.kind : Int), .string ⟨t.text.toArray⟩, .int .i64 (t.from_ : Int), .int .i64 (t.to_ : Int)] 107)).alloc (.cells #[.int .i64 0, .int .i64 0] 48)) = w3 at hf3 hn3 hb3 ht3 h83 ⊢;have HF3 := hid hf3;have HBN3 := hid hn3;have HBF3 := hid hb3;have HBT3 := hid ht3;have HB83 := hid h83;clear hf3 hn3 hb3 ht3 h83
   have HIN := hid (fun (w' : World) (hp : Ps c k op w') (hne : pIn c.E f 125 op (c.at k) ≠ .out) => show Calls _ _ _ _ (ItemsE c k op (pIn c.E f 125 op (c.at k)) w') from by
    exact HEN.out k op 125 w' hp HOP.out HK.out hne)
   cases m123 : Np.isM 123 (t :: r) with
   | true =>
    have HXX := hid (show pArg c.E (f + 1) op (c.at k) = (pIn c.E f 125 op (c.at k)).map Np.slot from by
     rw [arg_eq f op HL.out];simp only [HX.out];rw [if_pos m123])
    rw [HXX.out] at HQ HNE;refine (HA.out 123 _ HF3.out).mono ?_;rintro _ w4 ⟨rfl, hf⟩;have HF4 := hid (HF3.out.trans hf);have HBN4 := hid (hf.blk HBN3.out fun h => h);have HBF4 := hid (hf.blk HBF3.out fun h => h);have HBT4 := hid (hf.blk HBT3.out fun h => h);have HB84 := hid (hf.blk HB83.out fun h => h);have HM4 := hid (Mp.fresh (g := c.g) (B := c.W0.heap.size) HF4.out);clear hf;rw [m123];go_wp2_with fail
    refine (HIN.out w4 (H.out.fresh HF4.out) (R.map_out HNE.out)).mono ?_;intro e w5 hres;have hparts := hres.parts (R.map_out HNE.out);clear hres;generalize pIn c.E f 125 op (c.at k) = X at HNE HQ hparts;obtain ⟨A, n, cp, i, er, rfl, hm, hend⟩ := hparts;have HM5 := hid (HM4.out.trans hm);have HBN5 := hid (hm.blk HBN4.out (by omega) (by decide));have HBF5 := hid (hm.blk HBF4.out (by omega) (by decide));have HB85 := hid (hm.blk HB84.out (by have := HS2.out; omega) (by decide));have hs4 : w.heap.size + 1 < w4.heap.size := HBF4.out.lt;clear hm
    rcases hend with ⟨items, rest, k', hX, rfl, rfl, rfl, htr, hdr, hkk, hp⟩ | ⟨hX, he0⟩
    ·have HTR := hid htr
     have HDR := hid hdr;have HKK := hid hkk;have HP5 := hid hp;clear htr hdr hkk hp;rw [hX] at HQ;clear hX;obtain ⟨q0, q1, z0, z1, hlt3⟩ := Blk.two HB85.out
     (try unfold failV)
     go_wp2_with fail
     have b8 := HB85.out.self2 (.int .i64 0) (.int .i64 0);have bn := HBN5.out.far2 (L := w.heap.size) (g := w2.heap.size + 1) (by have := HS2.out; omega) (.int .i64 0) (.int .i64 0);have bf := HBF5.out.far2 (L := w.heap.size + 1) (g := w2.heap.size + 1) (by have := HS2.out; omega) (.int .i64 0) (.int .i64 0);have hm6 : Mp c.g c.W0.heap.size w _ := HM5.out.put2 (g := w2.heap.size + 1) (.inr (by have := HS2.out; omega)) (.int .i64 0) (.int .i64 0);have hp6 := HP5.out.put2 HB85.out (by decide) (by have := HS2.out; omega) (by have := HS2.out; have := HW0.out; omega) (.int .i64 0) (.int .i64 0);have htr6 := HTR.out.other HB85.out (by decide) (touch2 w5 (w2.heap.size + 1) (.int .i64 0) (.int .i64 0));simp only [put2] at b8 bn bf hm6 hp6 htr6;generalize (World.setCell (World.setCell w5 ⟨w2.heap.size + 1, 0, none⟩ _) ⟨w2.heap.size + 1, 1, none⟩ _) = W6 at b8 bn bf hm6 hp6 htr6 ⊢;clear q0 q1 z0 z1 hlt3;have HBN6 := hid bn;have HBF6 := hid bf;have HM6 := hid hm6;have HP6 := hid hp6;have HTR6 := hid htr6;clear b8 bn bf hm6 hp6 htr6;refine (slot_any_n A items.length cp _).mono ?_;rintro _ w7 ⟨rfl, hf⟩;have HBN := hid (hf.blk HBN6.out fun h => h);have HBF := hid (hf.blk HBF6.out fun h => h);have HM := hid (HM6.out.trans (Mp.fresh hf));have HP := hid (HP6.out.fresh hf);have HTR7 := hid (HTR6.out.fresh hf);clear hf;obtain ⟨p0, p1, p2, p3, y0, y1, y2, y3, hlt0⟩ := Blk.four HBN.out;obtain ⟨q0, q1, z0, z1, hlt1⟩ := Blk.two HBF.out;go_wp2_with fail
     have hne : w.heap.size ≠ w.heap.size + 1 := by omega
     have n1 := (HBN.out.self4 (.int .i64 1) (.string ⟨#[]⟩) (.int .i64 0) (.slice A items.length cp)).far2 hne (.int .i64 0) (.int .i64 0);have n2' := HBF.out.far4 (Ne.symm hne) (.int .i64 1) (.string ⟨#[]⟩) (.int .i64 0) (.slice A items.length cp);have n2 := n2'.self2 (.int .i64 0) (.int .i64 0);have hps := (HP.out.put4 HBN.out (by decide) (by omega) HW0.out (.int .i64 1) (.string ⟨#[]⟩) (.int .i64 0) (.slice A items.length cp)).put2 n2' (by decide) (by omega) (by have := HW0.out; omega) (.int .i64 0) (.int .i64 0);have htr9 := (HTR7.out.far (touch4 w7 w.heap.size (.int .i64 1) (.string ⟨#[]⟩) (.int .i64 0) (.slice A items.length cp)) (by omega)).other n2' (by decide) (touch2 _ (w.heap.size + 1) (.int .i64 0) (.int .i64 0));have hm9 : Mp c.g c.W0.heap.size w _ := (HM.out.put4 (g := w.heap.size) (.inr (Nat.le_refl _)) (.int .i64 1) (.string ⟨#[]⟩) (.int .i64 0) (.slice A items.length cp)).put2 (g := w.heap.size + 1) (.inr (by omega)) (.int .i64 0) (.int .i64 0);obtain ⟨g0, g1, g2, g3, _⟩ := Blk.four n1;obtain ⟨f0, f1, _⟩ := Blk.two n2;simp only [put2, put4] at g0 g1 g2 g3 f0 f1 hps htr9 hm9
     (try simp only [Exit.inBlock, Exit.then])
     refine bodyPost_ret (v := .tuple #[.agg #[.int .i64 1, .string ⟨#[]⟩, .int .i64 0, .slice A items.length cp], failV 0 0]) (by simp [failV, results, Tryz.results88, go_sem, f0, f1, g0, g1, g2, g3]) rfl ?_;exact HQ.out _ _ ⟨A, cp, k', rfl, htr9.base HM4.out.size, Nat.zero_le _, HDR.out, HKK.out, hps, hm9⟩
    ·have HE0 := hid he0
     have e0 := fail_ne he0;rw [hX] at HQ;clear he0 hX;obtain ⟨q0, q1, z0, z1, hlt3⟩ := Blk.two HB85.out
     (try unfold failV)
     go_wp2_with fail
     have b8 := HB85.out.self2 (.int .i64 (i : Int)) (.int .i64 (er : Int));have bn := HBN5.out.far2 (L := w.heap.size) (g := w2.heap.size + 1) (by have := HS2.out; omega) (.int .i64 (i : Int)) (.int .i64 (er : Int));have bf := HBF5.out.far2 (L := w.heap.size + 1) (g := w2.heap.size + 1) (by have := HS2.out; omega) (.int .i64 (i : Int)) (.int .i64 (er : Int));have hm6 : Mp c.g c.W0.heap.size w _ := HM5.out.put2 (g := w2.heap.size + 1) (.inr (by have := HS2.out; omega)) (.int .i64 (i : Int)) (.int .i64 (er : Int));simp only [put2] at b8 bn bf hm6;generalize (World.setCell (World.setCell w5 ⟨w2.heap.size + 1, 0, none⟩ _) ⟨w2.heap.size + 1, 1, none⟩ _) = W6 at b8 bn bf hm6 ⊢;clear q0 q1 z0 z1 hlt3;have HB86 := hid b8;have HBN6 := hid bn;have HBF6 := hid bf;have HM6 := hid hm6;clear bn bf hm6 b8;refine wp_region_in (fun W => Blk W (w2.heap.size + 1) 48 #[.int .i64 (i : Int), .int .i64 (er : Int)] ∧ Blk W w.heap.size 35 zeroN) [(0, true), (1, true), (2, false), (3, false)] (by kernel_rfl) (fun _ _ d _ _ h => by cases d <;> exact h) (by kernel_rfl) ⟨HB86.out.drewN 1, HBN6.out.drewN 1⟩ ?_;refine wpSeq_plain rfl (fun K hK => ?_);rw [if_pos (by rfl)];refine ⟨.agg zeroN, fun W hW => ?_, hK _ ?_⟩
     ·go_simp
     clear hK K;refine wpSeq_plain rfl (fun K hK => ?_);rw [if_pos (by rfl)];refine ⟨.agg #[.int .i64 (i : Int), .int .i64 (er : Int)], fun W hW => ?_, hK _ ?_⟩
     ·obtain ⟨h1, _⟩ := hW
      obtain ⟨p0, p1, _⟩ := Blk.two h1;go_simp
     clear hK K;obtain ⟨p0, p1, p2, p3, y0, y1, y2, y3, hlt0⟩ := Blk.four (HBN6.out.drewN 1);refine wpSeq_lone rfl (fun K hK => ?_);go_wp2_with fail
     have hne : w.heap.size ≠ w.heap.size + 1 := by omega
     have n1 := (HBN6.out.drewN 1).self4 (.int .i64 0) (.string ⟨#[]⟩) (.int .i64 0) (.slice none 0 0);have n2 := (HBF6.out.drewN 1).far4 (Ne.symm hne) (.int .i64 0) (.string ⟨#[]⟩) (.int .i64 0) (.slice none 0 0);have n8 := (HB86.out.drewN 1).far4 (L := w2.heap.size + 1) (g := w.heap.size) (by have := HS2.out; omega) (.int .i64 0) (.string ⟨#[]⟩) (.int .i64 0) (.slice none 0 0);have hm7 : Mp c.g c.W0.heap.size w _ := (HM6.out.drewN 1).put4 (g := w.heap.size) (.inr (Nat.le_refl _)) (.int .i64 0) (.string ⟨#[]⟩) (.int .i64 0) (.slice none 0 0);simp only [put4] at n1 n2 n8 hm7;generalize (World.setCell (World.setCell (World.setCell (World.setCell (W6.drewN 1) ⟨w.heap.size, 0, none⟩ _) ⟨w.heap.size, 1, none⟩ _) ⟨w.heap.size, 2, none⟩ _) ⟨w.heap.size, 3, none⟩ _) = W7 at n1 n2 n8 hm7 ⊢;refine hK _ _ ⟨n8, n1⟩ ?_;clear hK K p0 p1 p2 p3 y0 y1 y2 y3 hlt0;have HN1 := hid n1;have HN2 := hid n2;have HN8 := hid n8;have HM7 := hid hm7;clear n1 n2 n8 hm7;obtain ⟨q0, q1, z0, z1, hlt1⟩ := Blk.two HN2.out;refine wpSeq_lone rfl (fun K hK => ?_);go_wp2_with fail
     have m1 := HN1.out.far2 hne (.int .i64 (i : Int)) (.int .i64 (er : Int));have m2 := HN2.out.self2 (.int .i64 (i : Int)) (.int .i64 (er : Int));have m8 := HN8.out.far2 (L := w2.heap.size + 1) (g := w.heap.size + 1) (by have := HS2.out; omega) (.int .i64 (i : Int)) (.int .i64 (er : Int));have hm8 : Mp c.g c.W0.heap.size w _ := HM7.out.put2 (g := w.heap.size + 1) (.inr (by omega)) (.int .i64 (i : Int)) (.int .i64 (er : Int));simp only [put2] at m1 m2 m8 hm8;generalize (World.setCell (World.setCell W7 ⟨w.heap.size + 1, 0, none⟩ _) ⟨w.heap.size + 1, 1, none⟩ _) = W8 at m1 m2 m8 hm8 ⊢;refine hK _ _ ⟨m8, m1⟩ ?_;clear hK K q0 q1 z0 z1 hlt1;refine wpSeq_end ?_;go_wp2_with fail
     obtain ⟨g0, g1, g2, g3, _⟩ := Blk.four m1;obtain ⟨f0, f1, _⟩ := Blk.two m2
     (try simp only [Exit.inBlock, Exit.then])
     refine bodyPost_ret (v := .tuple #[.agg zeroN, failV i er]) (by simp [failV, results, Tryz.results88, go_sem, f0, f1, g0, g1, g2, g3]) rfl ?_;exact HQ.out _ _ ⟨HE0.out, .mk 0 [] 0 [], none, 0, rfl, hm8⟩
   | false =>
    refine (HA.out 123 _ HF3.out).mono ?_;rintro _ w4 ⟨rfl, hf⟩;have HF4 := hid (HF3.out.trans hf);have HBN4 := hid (hf.blk HBN3.out fun h => h);have HBF4 := hid (hf.blk HBF3.out fun h => h);have HBT4 := hid (hf.blk HBT3.out fun h => h);have HB84 := hid (hf.blk HB83.out fun h => h);have HM4 := hid (Mp.fresh (g := c.g) (B := c.W0.heap.size) HF4.out);clear hf;rw [m123];go_wp2_with fail
    by_cases h4 : t.kind = 4
    ·have e4 := kind_is _ 4 h4
     have H4 := hid h4;cases hnf : namedF t.text with
     | some F =>
      have HXX := hid (show pArg c.E (f + 1) op (c.at k) = .err (Np.place c.en (t :: r)) 3 from by
       rw [arg_eq f op HL.out];simp only [HX.out];rw [if_neg (by simp [m123]), if_neg (fun h => by rw [(namedF_special t.text).2 h.2] at hnf; cases hnf)])
      rw [HXX.out] at HQ;clear h4;obtain ⟨t0, t1, t2, t3, _, _, _, _, hltt⟩ := Blk.four (HBT4.out.drewN 1);obtain ⟨ov, hb, _⟩ := ((H.out.fresh HF4.out).fresh ((Touch.refl _ _).drewN 1)).box;have q6 := (hb.cell 6).trans (congrArg some HNM.out.1);have hg6 := hb.lt;have hm1 := ((HF4.out.drewN 1).block bm (Array.getElem?_eq_some_iff.1 HMAP.out).1 (fun h => h)).trans HMAP.out;have hlk := run_named (w := w4.drewN 1) (bm := bm) (g := c.g) (clock := 9) hm1 t.text false;rw [hnf] at hlk;simp only [if_false, Bool.false_eq_true] at hlk
      (try unfold methodV at hlk)
      have hef := eql_func_nil;have hen := eql_nil_nil;clear hb hm1;refine wp_region_in (fun W => W = w4.drewN 1) [(0, true), (1, true), (2, true), (3, true), (4, true), (5, true), (6, true), (7, true), (8, true), (9, true), (10, true), (11, true), (12, true), (13, true)] (by kernel_rfl) (fun _ _ d _ _ h => by cases d <;> exact h) (by kernel_rfl) rfl ?_;refine wpSeq_plain rfl (fun K hK => ?_);rw [if_pos (by rfl)];refine ⟨(.pointer (some ⟨w2.heap.size, 0, none⟩)), fun W hW => ?_, ?_⟩
      ·subst hW
       go_simp
      go_simp;refine hK _ ?_;clear hK K;refine wpSeq_plain rfl (fun K hK => ?_);rw [if_pos (by rfl)];refine ⟨(.int .i64 (t.kind : Int)), fun W hW => ?_, ?_⟩
      ·subst hW
       go_simp
      go_simp;refine hK _ ?_;clear hK K;refine wpSeq_plain rfl (fun K hK => ?_);rw [if_pos (by rfl)];refine ⟨(.bool true), fun W hW => ?_, ?_⟩
      ·subst hW
       go_simp;have := H4.out; omega
      go_simp;refine hK _ ?_;clear hK K;refine wpSeq_plain rfl (fun K hK => ?_);rw [if_pos (by rfl)];refine ⟨(.bool true), fun W hW => ?_, ?_⟩
      ·subst hW
       go_simp
      go_simp;refine hK _ ?_;clear hK K;refine wpSeq_plain rfl (fun K hK => ?_);rw [if_pos (by rfl)];refine ⟨(.pointer (some ⟨c.g, 0, none⟩)), fun W hW => ?_, ?_⟩
      ·subst hW
       go_simp
      go_simp;refine hK _ ?_;clear hK K;refine wpSeq_plain rfl (fun K hK => ?_);rw [if_pos (by rfl)];refine ⟨(.pointer (some ⟨c.g, 0, none⟩)), fun W hW => ?_, ?_⟩
      ·subst hW
       go_simp
      go_simp;refine hK _ ?_;clear hK K;refine wpSeq_plain rfl (fun K hK => ?_);rw [if_pos (by rfl)];refine ⟨(.pointer (some ⟨c.g, 6, none⟩)), fun W hW => ?_, ?_⟩
      ·subst hW
       go_simp
      go_simp;refine hK _ ?_;clear hK K;refine wpSeq_plain rfl (fun K hK => ?_);rw [if_pos (by rfl)];refine ⟨(.map (some bm)), fun W hW => ?_, ?_⟩
      ·subst hW
       go_simp
      go_simp;refine hK _ ?_;clear hK K;refine wpSeq_plain rfl (fun K hK => ?_);rw [if_pos (by rfl)];refine ⟨(.pointer (some ⟨w2.heap.size, 1, none⟩)), fun W hW => ?_, ?_⟩
      ·subst hW
       go_simp
      go_simp;refine hK _ ?_;clear hK K;refine wpSeq_plain rfl (fun K hK => ?_);rw [if_pos (by rfl)];refine ⟨(.string ⟨t.text.toArray⟩), fun W hW => ?_, ?_⟩
      ·subst hW
       go_simp
      go_simp;refine hK _ ?_;clear hK K;refine wpSeq_plain rfl (fun K hK => ?_);rw [if_pos (by rfl)];refine ⟨(.func (.func F) #[.pointer (some ⟨c.g, 0, none⟩)] #[]), fun W hW => ?_, ?_⟩
      ·subst hW
       go_simp
      go_simp;refine hK _ ?_;clear hK K;refine wpSeq_plain rfl (fun K hK => ?_);rw [if_pos (by rfl)];refine ⟨(.bool false), fun W hW => ?_, ?_⟩
      ·subst hW
       go_simp
      go_simp;refine hK _ ?_;clear hK K;refine wpSeq_plain rfl (fun K hK => ?_);rw [if_pos (by rfl)];refine ⟨(.bool false), fun W hW => ?_, ?_⟩
      ·subst hW
       go_simp
      go_simp;refine hK _ ?_;clear hK K;refine wpSeq_plain rfl (fun K hK => ?_);rw [if_pos (by rfl)];refine ⟨(.bool false), fun W hW => ?_, ?_⟩
      ·subst hW
       go_simp
      go_simp;refine hK _ ?_;clear hK K;refine wpSeq_end ?_;have HF5 := hid (HF4.out.drewN 1);have HBN5' := hid (HBN4.out.drewN 1);have HBF5' := hid (HBF4.out.drewN 1);have HBT5 := hid (HBT4.out.drewN 1);have HB85' := hid (HB84.out.drewN 1);clear t0 t1 t2 t3 hltt q6 hg6 hlk hef hen;generalize w4.drewN 1 = w6 at HF5 HBN5' HBF5' HBT5 HB85' ⊢;go_wp2_with fail
      refine (HR.out _ HF5.out).mono ?_;rintro _ w5 ⟨rfl, hf⟩;have HM5 := hid (Mp.fresh (g := c.g) (B := c.W0.heap.size) (HF5.out.trans hf));have HBN5 := hid (hf.blk HBN5'.out fun h => h);have HBF5 := hid (hf.blk HBF5'.out fun h => h);have HB85 := hid (hf.blk HB85'.out fun h => h);clear hf;generalize Np.place c.en (t :: r) = pl at HQ ⊢;obtain ⟨q0, q1, z0, z1, hlt3⟩ := Blk.two HB85.out
      (try unfold failV)
      go_wp2_with fail
      have b8 := HB85.out.self2 (.int .i64 (pl : Int)) (.int .i64 3);have bn := HBN5.out.far2 (L := w.heap.size) (g := w2.heap.size + 1) (by have := HS2.out; omega) (.int .i64 (pl : Int)) (.int .i64 3);have bf := HBF5.out.far2 (L := w.heap.size + 1) (g := w2.heap.size + 1) (by have := HS2.out; omega) (.int .i64 (pl : Int)) (.int .i64 3);have hm6 : Mp c.g c.W0.heap.size w _ := HM5.out.put2 (g := w2.heap.size + 1) (.inr (by have := HS2.out; omega)) (.int .i64 (pl : Int)) (.int .i64 3);simp only [put2] at b8 bn bf hm6;generalize (World.setCell (World.setCell w5 ⟨w2.heap.size + 1, 0, none⟩ _) ⟨w2.heap.size + 1, 1, none⟩ _) = W6 at b8 bn bf hm6 ⊢;clear q0 q1 z0 z1 hlt3;have HB86 := hid b8;have HBN6 := hid bn;have HBF6 := hid bf;have HM6 := hid hm6;clear bn bf hm6 b8;refine wp_region_in (fun W => Blk W (w2.heap.size + 1) 48 #[.int .i64 (pl : Int), .int .i64 3] ∧ Blk W w.heap.size 35 zeroN) [(0, true), (1, true), (2, false), (3, false)] (by kernel_rfl) (fun _ _ d _ _ h => by cases d <;> exact h) (by kernel_rfl) ⟨HB86.out.drewN 1, HBN6.out.drewN 1⟩ ?_;refine wpSeq_plain rfl (fun K hK => ?_);rw [if_pos (by rfl)];refine ⟨.agg zeroN, fun W hW => ?_, hK _ ?_⟩
      ·go_simp
      clear hK K;refine wpSeq_plain rfl (fun K hK => ?_);rw [if_pos (by rfl)];refine ⟨.agg #[.int .i64 (pl : Int), .int .i64 3], fun W hW => ?_, hK _ ?_⟩
      ·obtain ⟨h1, _⟩ := hW
       obtain ⟨p0, p1, _⟩ := Blk.two h1;go_simp
      clear hK K;obtain ⟨p0, p1, p2, p3, y0, y1, y2, y3, hlt0⟩ := Blk.four (HBN6.out.drewN 1);refine wpSeq_lone rfl (fun K hK => ?_);go_wp2_with fail
      have hne : w.heap.size ≠ w.heap.size + 1 := by omega
      have n1 := (HBN6.out.drewN 1).self4 (.int .i64 0) (.string ⟨#[]⟩) (.int .i64 0) (.slice none 0 0);have n2 := (HBF6.out.drewN 1).far4 (Ne.symm hne) (.int .i64 0) (.string ⟨#[]⟩) (.int .i64 0) (.slice none 0 0);have n8 := (HB86.out.drewN 1).far4 (L := w2.heap.size + 1) (g := w.heap.size) (by have := HS2.out; omega) (.int .i64 0) (.string ⟨#[]⟩) (.int .i64 0) (.slice none 0 0);have hm7 : Mp c.g c.W0.heap.size w _ := (HM6.out.drewN 1).put4 (g := w.heap.size) (.inr (Nat.le_refl _)) (.int .i64 0) (.string ⟨#[]⟩) (.int .i64 0) (.slice none 0 0);simp only [put4] at n1 n2 n8 hm7;generalize (World.setCell (World.setCell (World.setCell (World.setCell (W6.drewN 1) ⟨w.heap.size, 0, none⟩ _) ⟨w.heap.size, 1, none⟩ _) ⟨w.heap.size, 2, none⟩ _) ⟨w.heap.size, 3, none⟩ _) = W7 at n1 n2 n8 hm7 ⊢;refine hK _ _ ⟨n8, n1⟩ ?_;clear hK K p0 p1 p2 p3 y0 y1 y2 y3 hlt0;have HN1 := hid n1;have HN2 := hid n2;have HN8 := hid n8;have HM7 := hid hm7;clear n1 n2 n8 hm7;obtain ⟨q0, q1, z0, z1, hlt1⟩ := Blk.two HN2.out;refine wpSeq_lone rfl (fun K hK => ?_);go_wp2_with fail
      have m1 := HN1.out.far2 hne (.int .i64 (pl : Int)) (.int .i64 3);have m2 := HN2.out.self2 (.int .i64 (pl : Int)) (.int .i64 3);have m8 := HN8.out.far2 (L := w2.heap.size + 1) (g := w.heap.size + 1) (by have := HS2.out; omega) (.int .i64 (pl : Int)) (.int .i64 3);have hm8 : Mp c.g c.W0.heap.size w _ := HM7.out.put2 (g := w.heap.size + 1) (.inr (by omega)) (.int .i64 (pl : Int)) (.int .i64 3);simp only [put2] at m1 m2 m8 hm8;generalize (World.setCell (World.setCell W7 ⟨w.heap.size + 1, 0, none⟩ _) ⟨w.heap.size + 1, 1, none⟩ _) = W8 at m1 m2 m8 hm8 ⊢;refine hK _ _ ⟨m8, m1⟩ ?_;clear hK K q0 q1 z0 z1 hlt1;refine wpSeq_end ?_;go_wp2_with fail
      obtain ⟨g0, g1, g2, g3, _⟩ := Blk.four m1;obtain ⟨f0, f1, _⟩ := Blk.two m2
      (try simp only [Exit.inBlock, Exit.then])
      refine bodyPost_ret (v := .tuple #[.agg zeroN, failV pl 3]) (by simp [failV, results, Tryz.results88, go_sem, f0, f1, g0, g1, g2, g3]) rfl ?_;exact HQ.out _ _ ⟨by decide, .mk 0 [] 0 [], none, 0, rfl, hm8⟩
     | none =>
      have HWY := hid (arg_ways f op HL.out HX.out m123 h4 hnf);clear h4;obtain ⟨t0, t1, t2, t3, _, _, _, _, hltt⟩ := Blk.four (HBT4.out.drewN 1);obtain ⟨ov, hb, _⟩ := ((H.out.fresh HF4.out).fresh ((Touch.refl _ _).drewN 1)).box;have q6 := (hb.cell 6).trans (congrArg some HNM.out.1);have hg6 := hb.lt;have hm1 := ((HF4.out.drewN 1).block bm (Array.getElem?_eq_some_iff.1 HMAP.out).1 (fun h => h)).trans HMAP.out;have hlk := run_named (w := w4.drewN 1) (bm := bm) (g := c.g) (clock := 9) hm1 t.text false;rw [hnf] at hlk;simp only [if_false, Bool.false_eq_true] at hlk
      (try unfold methodV at hlk)
      have hef := eql_func_nil;have hen := eql_nil_nil;clear hb hm1;refine wp_region_in (fun W => W = w4.drewN 1) [(0, true), (1, true), (2, true), (3, true), (4, true), (5, true), (6, true), (7, true), (8, true), (9, true), (10, true), (11, true), (12, true), (13, true)] (by kernel_rfl) (fun _ _ d _ _ h => by cases d <;> exact h) (by kernel_rfl) rfl ?_;refine wpSeq_plain rfl (fun K hK => ?_);rw [if_pos (by rfl)];refine ⟨(.pointer (some ⟨w2.heap.size, 0, none⟩)), fun W hW => ?_, ?_⟩
      ·subst hW
       go_simp
      go_simp;refine hK _ ?_;clear hK K;refine wpSeq_plain rfl (fun K hK => ?_);rw [if_pos (by rfl)];refine ⟨(.int .i64 (t.kind : Int)), fun W hW => ?_, ?_⟩
      ·subst hW
       go_simp
      go_simp;refine hK _ ?_;clear hK K;refine wpSeq_plain rfl (fun K hK => ?_);rw [if_pos (by rfl)];refine ⟨(.bool true), fun W hW => ?_, ?_⟩
      ·subst hW
       go_simp;have := H4.out; omega
      go_simp;refine hK _ ?_;clear hK K;refine wpSeq_plain rfl (fun K hK => ?_);rw [if_pos (by rfl)];refine ⟨(.bool true), fun W hW => ?_, ?_⟩
      ·subst hW
       go_simp
      go_simp;refine hK _ ?_;clear hK K;refine wpSeq_plain rfl (fun K hK => ?_);rw [if_pos (by rfl)];refine ⟨(.pointer (some ⟨c.g, 0, none⟩)), fun W hW => ?_, ?_⟩
      ·subst hW
       go_simp
      go_simp;refine hK _ ?_;clear hK K;refine wpSeq_plain rfl (fun K hK => ?_);rw [if_pos (by rfl)];refine ⟨(.pointer (some ⟨c.g, 0, none⟩)), fun W hW => ?_, ?_⟩
      ·subst hW
       go_simp
      go_simp;refine hK _ ?_;clear hK K;refine wpSeq_plain rfl (fun K hK => ?_);rw [if_pos (by rfl)];refine ⟨(.pointer (some ⟨c.g, 6, none⟩)), fun W hW => ?_, ?_⟩
      ·subst hW
       go_simp
      go_simp;refine hK _ ?_;clear hK K;refine wpSeq_plain rfl (fun K hK => ?_);rw [if_pos (by rfl)];refine ⟨(.map (some bm)), fun W hW => ?_, ?_⟩
      ·subst hW
       go_simp
      go_simp;refine hK _ ?_;clear hK K;refine wpSeq_plain rfl (fun K hK => ?_);rw [if_pos (by rfl)];refine ⟨(.pointer (some ⟨w2.heap.size, 1, none⟩)), fun W hW => ?_, ?_⟩
      ·subst hW
       go_simp
      go_simp;refine hK _ ?_;clear hK K;refine wpSeq_plain rfl (fun K hK => ?_);rw [if_pos (by rfl)];refine ⟨(.string ⟨t.text.toArray⟩), fun W hW => ?_, ?_⟩
      ·subst hW
       go_simp
      go_simp;refine hK _ ?_;clear hK K;refine wpSeq_plain rfl (fun K hK => ?_);rw [if_pos (by rfl)];refine ⟨.nilFunc, fun W hW => ?_, ?_⟩
      ·subst hW
       go_simp
      go_simp;refine hK _ ?_;clear hK K;refine wpSeq_plain rfl (fun K hK => ?_);rw [if_pos (by rfl)];refine ⟨(.bool true), fun W hW => ?_, ?_⟩
      ·subst hW
       go_simp
      go_simp;refine hK _ ?_;clear hK K;refine wpSeq_plain rfl (fun K hK => ?_);rw [if_pos (by rfl)];refine ⟨(.bool true), fun W hW => ?_, ?_⟩
      ·subst hW
       go_simp
      go_simp;refine hK _ ?_;clear hK K;refine wpSeq_plain rfl (fun K hK => ?_);rw [if_pos (by rfl)];refine ⟨(.bool true), fun W hW => ?_, ?_⟩
      ·subst hW
       go_simp
      go_simp;refine hK _ ?_;clear hK K;refine wpSeq_end ?_;have HF5 := hid (HF4.out.drewN 1);have HBN5' := hid (HBN4.out.drewN 1);have HBF5' := hid (HBF4.out.drewN 1);have HBT5 := hid (HBT4.out.drewN 1);have HB85' := hid (HB84.out.drewN 1);clear t0 t1 t2 t3 hltt q6 hg6 hlk hef hen;generalize w4.drewN 1 = w6 at HF5 HBN5' HBF5' HBT5 HB85' ⊢;obtain ⟨t0, t1, t2, t3, _, _, _, _, hltt⟩ := Blk.four HBT5.out;go_wp2_with fail
      clear t0 t1 t2 t3 hltt;refine (HMAC.out t.text _ HF5.out).mono ?_;rintro _ w7 ⟨rfl, hf⟩;have HF7 := hid (HF5.out.trans hf);have HBN7 := hid (hf.blk HBN5'.out fun h => h);have HBF7 := hid (hf.blk HBF5'.out fun h => h);have HBT7 := hid (hf.blk HBT5.out fun h => h);have HB87 := hid (hf.blk HB85'.out fun h => h);have HM7 := hid (Mp.fresh (g := c.g) (B := c.W0.heap.size) HF7.out);clear hf
      rcases HWY.out with ⟨X, z, hgv, hXX, hPN⟩ | ⟨p, hgv, hp0, hXX⟩
      rotate_left
      focus
       rw [hgv];rw [hXX] at HQ;have d1 : decide ((0 : Int) < (p : Int)) = true := dT (by omega);have d1n : decide (0 < p) = true := dT hp0;have d1' : (0 : Int) < (p : Int) := by omega
       clear hgv hXX hp0 HWY;go_wp2_with fail
       refine (HR.out _ HF7.out).mono ?_;rintro _ w5 ⟨rfl, hf⟩;have HM5 := hid (Mp.fresh (g := c.g) (B := c.W0.heap.size) (HF7.out.trans hf));have HBN5 := hid (hf.blk HBN7.out fun h => h);have HBF5 := hid (hf.blk HBF7.out fun h => h);clear hf;generalize Np.place c.en (t :: r) = pl at HQ ⊢;obtain ⟨p0, p1, p2, p3, y0, y1, y2, y3, hlt0⟩ := Blk.four HBN5.out;obtain ⟨q0, q1, z0, z1, hlt1⟩ := Blk.two HBF5.out;unfold failV;go_wp2_with fail
       have hne : w.heap.size ≠ w.heap.size + 1 := by omega
       have n1 := (HBN5.out.self4 (.int .i64 0) (.string ⟨#[]⟩) (.int .i64 0) (.slice none 0 0)).far2 hne (.int .i64 (pl : Int)) (.int .i64 3);have n2 := (HBF5.out.far4 (Ne.symm hne) (.int .i64 0) (.string ⟨#[]⟩) (.int .i64 0) (.slice none 0 0)).self2 (.int .i64 (pl : Int)) (.int .i64 3);have hm9 : Mp c.g c.W0.heap.size w _ := (HM5.out.put4 (g := w.heap.size) (.inr (Nat.le_refl _)) (.int .i64 0) (.string ⟨#[]⟩) (.int .i64 0) (.slice none 0 0)).put2 (g := w.heap.size + 1) (.inr (by omega)) (.int .i64 (pl : Int)) (.int .i64 3);obtain ⟨g0, g1, g2, g3, _⟩ := Blk.four n1;obtain ⟨f0, f1, _⟩ := Blk.two n2;simp only [put2, put4] at g0 g1 g2 g3 f0 f1 hm9
       (try simp only [Exit.inBlock, Exit.then])
       refine bodyPost_ret (v := .tuple #[.agg zeroN, failV pl 3]) (by simp [failV, results, Tryz.results88, go_sem, f0, f1, g0, g1, g2, g3]) rfl ?_;exact HQ.out _ _ ⟨by decide, .mk 0 [] 0 [], none, 0, rfl, hm9⟩
      rw [hgv];rw [hXX] at HQ HNE;have HPN := hid hPN;clear hgv hXX hPN HWY;cases z
      all_goals
       obtain ⟨t0, t1, t2, t3, _, _, _, _, hltt⟩ := Blk.four HBT7.out;go_wp2_with fail
       clear t0 t1 t2 t3 hltt;refine (HNA.out k op t r w7 (H.out.fresh HF7.out) HOP.out HL.out (by rw [HPN.out]; exact R.map_out HNE.out)).mono ?_;intro e w5 hres;have hparts := hres.parts (by rw [HPN.out]; exact R.map_out HNE.out);rw [HPN.out] at hparts;clear hres;obtain ⟨A, n, cp, i, er, rfl, hm, hend⟩ := hparts;have HM5 := hid (HM7.out.trans hm);have HBN5 := hid (hm.blk HBN7.out (by omega) (by decide));have HBF5 := hid (hm.blk HBF7.out (by omega) (by decide));have HB85 := hid (hm.blk HB87.out (by have := HS2.out; omega) (by decide));have hs4 : w.heap.size + 1 < w7.heap.size := HBF7.out.lt;clear hm
       rcases hend with ⟨items, rest, k', hX, rfl, rfl, rfl, htr, hdr, hkk, hp⟩ | ⟨hX, he0⟩
       ·have HTR := hid htr
        have HDR := hid hdr;have HKK := hid hkk;have HP5 := hid hp;clear htr hdr hkk hp;rw [hX] at HQ;clear hX;obtain ⟨q0, q1, z0, z1, hlt3⟩ := Blk.two HB85.out
        (try unfold failV)
        go_wp2_with fail
        have b8 := HB85.out.self2 (.int .i64 0) (.int .i64 0);have bn := HBN5.out.far2 (L := w.heap.size) (g := w2.heap.size + 1) (by have := HS2.out; omega) (.int .i64 0) (.int .i64 0);have bf := HBF5.out.far2 (L := w.heap.size + 1) (g := w2.heap.size + 1) (by have := HS2.out; omega) (.int .i64 0) (.int .i64 0);have hm6 : Mp c.g c.W0.heap.size w _ := HM5.out.put2 (g := w2.heap.size + 1) (.inr (by have := HS2.out; omega)) (.int .i64 0) (.int .i64 0);have hp6 := HP5.out.put2 HB85.out (by decide) (by have := HS2.out; omega) (by have := HS2.out; have := HW0.out; omega) (.int .i64 0) (.int .i64 0);have htr6 := HTR.out.other HB85.out (by decide) (touch2 w5 (w2.heap.size + 1) (.int .i64 0) (.int .i64 0));simp only [put2] at b8 bn bf hm6 hp6 htr6;generalize (World.setCell (World.setCell w5 ⟨w2.heap.size + 1, 0, none⟩ _) ⟨w2.heap.size + 1, 1, none⟩ _) = W6 at b8 bn bf hm6 hp6 htr6 ⊢;clear q0 q1 z0 z1 hlt3;have HBN6 := hid bn;have HBF6 := hid bf;have HM6 := hid hm6;have HP6 := hid hp6;have HTR6 := hid htr6;clear b8 bn bf hm6 hp6 htr6;refine (slot_any_n A items.length cp _).mono ?_;rintro _ w7 ⟨rfl, hf⟩;have HBN := hid (hf.blk HBN6.out fun h => h);have HBF := hid (hf.blk HBF6.out fun h => h);have HM := hid (HM6.out.trans (Mp.fresh hf));have HP := hid (HP6.out.fresh hf);have HTR7 := hid (HTR6.out.fresh hf);clear hf;obtain ⟨p0, p1, p2, p3, y0, y1, y2, y3, hlt0⟩ := Blk.four HBN.out;obtain ⟨q0, q1, z0, z1, hlt1⟩ := Blk.two HBF.out;go_wp2_with fail
        have hne : w.heap.size ≠ w.heap.size + 1 := by omega
        have n1 := (HBN.out.self4 (.int .i64 1) (.string ⟨#[]⟩) (.int .i64 0) (.slice A items.length cp)).far2 hne (.int .i64 0) (.int .i64 0);have n2' := HBF.out.far4 (Ne.symm hne) (.int .i64 1) (.string ⟨#[]⟩) (.int .i64 0) (.slice A items.length cp);have n2 := n2'.self2 (.int .i64 0) (.int .i64 0);have hps := (HP.out.put4 HBN.out (by decide) (by omega) HW0.out (.int .i64 1) (.string ⟨#[]⟩) (.int .i64 0) (.slice A items.length cp)).put2 n2' (by decide) (by omega) (by have := HW0.out; omega) (.int .i64 0) (.int .i64 0);have htr9 := (HTR7.out.far (touch4 w7 w.heap.size (.int .i64 1) (.string ⟨#[]⟩) (.int .i64 0) (.slice A items.length cp)) (by omega)).other n2' (by decide) (touch2 _ (w.heap.size + 1) (.int .i64 0) (.int .i64 0));have hm9 : Mp c.g c.W0.heap.size w _ := (HM.out.put4 (g := w.heap.size) (.inr (Nat.le_refl _)) (.int .i64 1) (.string ⟨#[]⟩) (.int .i64 0) (.slice A items.length cp)).put2 (g := w.heap.size + 1) (.inr (by omega)) (.int .i64 0) (.int .i64 0);obtain ⟨g0, g1, g2, g3, _⟩ := Blk.four n1;obtain ⟨f0, f1, _⟩ := Blk.two n2;simp only [put2, put4] at g0 g1 g2 g3 f0 f1 hps htr9 hm9
        (try simp only [Exit.inBlock, Exit.then])
        refine bodyPost_ret (v := .tuple #[.agg #[.int .i64 1, .string ⟨#[]⟩, .int .i64 0, .slice A items.length cp], failV 0 0]) (by simp [failV, results, Tryz.results88, go_sem, f0, f1, g0, g1, g2, g3]) rfl ?_;exact HQ.out _ _ ⟨A, cp, k', rfl, htr9.base HM7.out.size, Nat.zero_le _, HDR.out, HKK.out, hps, hm9⟩
       ·have HE0 := hid he0
        have e0 := fail_ne he0;rw [hX] at HQ;clear he0 hX;obtain ⟨q0, q1, z0, z1, hlt3⟩ := Blk.two HB85.out
        (try unfold failV)
        go_wp2_with fail
        have b8 := HB85.out.self2 (.int .i64 (i : Int)) (.int .i64 (er : Int));have bn := HBN5.out.far2 (L := w.heap.size) (g := w2.heap.size + 1) (by have := HS2.out; omega) (.int .i64 (i : Int)) (.int .i64 (er : Int));have bf := HBF5.out.far2 (L := w.heap.size + 1) (g := w2.heap.size + 1) (by have := HS2.out; omega) (.int .i64 (i : Int)) (.int .i64 (er : Int));have hm6 : Mp c.g c.W0.heap.size w _ := HM5.out.put2 (g := w2.heap.size + 1) (.inr (by have := HS2.out; omega)) (.int .i64 (i : Int)) (.int .i64 (er : Int));simp only [put2] at b8 bn bf hm6;generalize (World.setCell (World.setCell w5 ⟨w2.heap.size + 1, 0, none⟩ _) ⟨w2.heap.size + 1, 1, none⟩ _) = W6 at b8 bn bf hm6 ⊢;clear q0 q1 z0 z1 hlt3;have HB86 := hid b8;have HBN6 := hid bn;have HBF6 := hid bf;have HM6 := hid hm6;clear bn bf hm6 b8;refine wp_region_in (fun W => Blk W (w2.heap.size + 1) 48 #[.int .i64 (i : Int), .int .i64 (er : Int)] ∧ Blk W w.heap.size 35 zeroN) [(0, true), (1, true), (2, false), (3, false)] (by kernel_rfl) (fun _ _ d _ _ h => by cases d <;> exact h) (by kernel_rfl) ⟨HB86.out.drewN 1, HBN6.out.drewN 1⟩ ?_;refine wpSeq_plain rfl (fun K hK => ?_);rw [if_pos (by rfl)];refine ⟨.agg zeroN, fun W hW => ?_, hK _ ?_⟩
        ·go_simp
        clear hK K;refine wpSeq_plain rfl (fun K hK => ?_);rw [if_pos (by rfl)];refine ⟨.agg #[.int .i64 (i : Int), .int .i64 (er : Int)], fun W hW => ?_, hK _ ?_⟩
        ·obtain ⟨h1, _⟩ := hW
         obtain ⟨p0, p1, _⟩ := Blk.two h1;go_simp
        clear hK K;obtain ⟨p0, p1, p2, p3, y0, y1, y2, y3, hlt0⟩ := Blk.four (HBN6.out.drewN 1);refine wpSeq_lone rfl (fun K hK => ?_);go_wp2_with fail
        have hne : w.heap.size ≠ w.heap.size + 1 := by omega
        have n1 := (HBN6.out.drewN 1).self4 (.int .i64 0) (.string ⟨#[]⟩) (.int .i64 0) (.slice none 0 0);have n2 := (HBF6.out.drewN 1).far4 (Ne.symm hne) (.int .i64 0) (.string ⟨#[]⟩) (.int .i64 0) (.slice none 0 0);have n8 := (HB86.out.drewN 1).far4 (L := w2.heap.size + 1) (g := w.heap.size) (by have := HS2.out; omega) (.int .i64 0) (.string ⟨#[]⟩) (.int .i64 0) (.slice none 0 0);have hm7 : Mp c.g c.W0.heap.size w _ := (HM6.out.drewN 1).put4 (g := w.heap.size) (.inr (Nat.le_refl _)) (.int .i64 0) (.string ⟨#[]⟩) (.int .i64 0) (.slice none 0 0);simp only [put4] at n1 n2 n8 hm7;generalize (World.setCell (World.setCell (World.setCell (World.setCell (W6.drewN 1) ⟨w.heap.size, 0, none⟩ _) ⟨w.heap.size, 1, none⟩ _) ⟨w.heap.size, 2, none⟩ _) ⟨w.heap.size, 3, none⟩ _) = W7 at n1 n2 n8 hm7 ⊢;refine hK _ _ ⟨n8, n1⟩ ?_;clear hK K p0 p1 p2 p3 y0 y1 y2 y3 hlt0;have HN1 := hid n1;have HN2 := hid n2;have HN8 := hid n8;have HM7 := hid hm7;clear n1 n2 n8 hm7;obtain ⟨q0, q1, z0, z1, hlt1⟩ := Blk.two HN2.out;refine wpSeq_lone rfl (fun K hK => ?_);go_wp2_with fail
        have m1 := HN1.out.far2 hne (.int .i64 (i : Int)) (.int .i64 (er : Int));have m2 := HN2.out.self2 (.int .i64 (i : Int)) (.int .i64 (er : Int));have m8 := HN8.out.far2 (L := w2.heap.size + 1) (g := w.heap.size + 1) (by have := HS2.out; omega) (.int .i64 (i : Int)) (.int .i64 (er : Int));have hm8 : Mp c.g c.W0.heap.size w _ := HM7.out.put2 (g := w.heap.size + 1) (.inr (by omega)) (.int .i64 (i : Int)) (.int .i64 (er : Int));simp only [put2] at m1 m2 m8 hm8;generalize (World.setCell (World.setCell W7 ⟨w.heap.size + 1, 0, none⟩ _) ⟨w.heap.size + 1, 1, none⟩ _) = W8 at m1 m2 m8 hm8 ⊢;refine hK _ _ ⟨m8, m1⟩ ?_;clear hK K q0 q1 z0 z1 hlt1;refine wpSeq_end ?_;go_wp2_with fail
        obtain ⟨g0, g1, g2, g3, _⟩ := Blk.four m1;obtain ⟨f0, f1, _⟩ := Blk.two m2
        (try simp only [Exit.inBlock, Exit.then])
        refine bodyPost_ret (v := .tuple #[.agg zeroN, failV i er]) (by simp [failV, results, Tryz.results88, go_sem, f0, f1, g0, g1, g2, g3]) rfl ?_;exact HQ.out _ _ ⟨HE0.out, .mk 0 [] 0 [], none, 0, rfl, hm8⟩
    ·have e4 := kind_no _ 4 h4
     have e4p : ¬ ((t.kind : Int) = 4) := by omega
     have HXX := hid (show pArg c.E (f + 1) op (c.at k) = .err (Np.place c.en (t :: r)) 3 from by
      rw [arg_eq f op HL.out];simp only [HX.out];rw [if_neg (by simp [m123]), if_neg (fun h => h4 h.1)])
     rw [HXX.out] at HQ;clear h4;obtain ⟨t0, t1, t2, t3, _, _, _, _, hltt⟩ := Blk.four HBT4.out;have r0 := cR t0
     go_quiet (fail)
     have HF5 := hid (HF4.out.drewN nq);have HBN5' := hid (HBN4.out.drewN nq);have HBF5' := hid (HBF4.out.drewN nq);have HBT5 := hid (HBT4.out.drewN nq);have HB85' := hid (HB84.out.drewN nq);clear t0 t1 t2 t3 hltt r0;generalize w4.drewN nq = w6 at HF5 HBN5' HBF5' HBT5 HB85' ⊢;go_wp2_with fail
     refine (HR.out _ HF5.out).mono ?_;rintro _ w5 ⟨rfl, hf⟩;have HM5 := hid (Mp.fresh (g := c.g) (B := c.W0.heap.size) (HF5.out.trans hf));have HBN5 := hid (hf.blk HBN5'.out fun h => h);have HBF5 := hid (hf.blk HBF5'.out fun h => h);have HB85 := hid (hf.blk HB85'.out fun h => h);clear hf;generalize Np.place c.en (t :: r) = pl at HQ ⊢;obtain ⟨q0, q1, z0, z1, hlt3⟩ := Blk.two HB85.out
     (try unfold failV)
     go_wp2_with fail
     have b8 := HB85.out.self2 (.int .i64 (pl : Int)) (.int .i64 3);have bn := HBN5.out.far2 (L := w.heap.size) (g := w2.heap.size + 1) (by have := HS2.out; omega) (.int .i64 (pl : Int)) (.int .i64 3);have bf := HBF5.out.far2 (L := w.heap.size + 1) (g := w2.heap.size + 1) (by have := HS2.out; omega) (.int .i64 (pl : Int)) (.int .i64 3);have hm6 : Mp c.g c.W0.heap.size w _ := HM5.out.put2 (g := w2.heap.size + 1) (.inr (by have := HS2.out; omega)) (.int .i64 (pl : Int)) (.int .i64 3);simp only [put2] at b8 bn bf hm6;generalize (World.setCell (World.setCell w5 ⟨w2.heap.size + 1, 0, none⟩ _) ⟨w2.heap.size + 1, 1, none⟩ _) = W6 at b8 bn bf hm6 ⊢;clear q0 q1 z0 z1 hlt3;have HB86 := hid b8;have HBN6 := hid bn;have HBF6 := hid bf;have HM6 := hid hm6;clear bn bf hm6 b8;refine wp_region_in (fun W => Blk W (w2.heap.size + 1) 48 #[.int .i64 (pl : Int), .int .i64 3] ∧ Blk W w.heap.size 35 zeroN) [(0, true), (1, true), (2, false), (3, false)] (by kernel_rfl) (fun _ _ d _ _ h => by cases d <;> exact h) (by kernel_rfl) ⟨HB86.out.drewN 1, HBN6.out.drewN 1⟩ ?_;refine wpSeq_plain rfl (fun K hK => ?_);rw [if_pos (by rfl)];refine ⟨.agg zeroN, fun W hW => ?_, hK _ ?_⟩
     ·go_simp
     clear hK K;refine wpSeq_plain rfl (fun K hK => ?_);rw [if_pos (by rfl)];refine ⟨.agg #[.int .i64 (pl : Int), .int .i64 3], fun W hW => ?_, hK _ ?_⟩
     ·obtain ⟨h1, _⟩ := hW
      obtain ⟨p0, p1, _⟩ := Blk.two h1;go_simp
     clear hK K;obtain ⟨p0, p1, p2, p3, y0, y1, y2, y3, hlt0⟩ := Blk.four (HBN6.out.drewN 1);refine wpSeq_lone rfl (fun K hK => ?_);go_wp2_with fail
     have hne : w.heap.size ≠ w.heap.size + 1 := by omega
     have n1 := (HBN6.out.drewN 1).self4 (.int .i64 0) (.string ⟨#[]⟩) (.int .i64 0) (.slice none 0 0);have n2 := (HBF6.out.drewN 1).far4 (Ne.symm hne) (.int .i64 0) (.string ⟨#[]⟩) (.int .i64 0) (.slice none 0 0);have n8 := (HB86.out.drewN 1).far4 (L := w2.heap.size + 1) (g := w.heap.size) (by have := HS2.out; omega) (.int .i64 0) (.string ⟨#[]⟩) (.int .i64 0) (.slice none 0 0);have hm7 : Mp c.g c.W0.heap.size w _ := (HM6.out.drewN 1).put4 (g := w.heap.size) (.inr (Nat.le_refl _)) (.int .i64 0) (.string ⟨#[]⟩) (.int .i64 0) (.slice none 0 0);simp only [put4] at n1 n2 n8 hm7;generalize (World.setCell (World.setCell (World.setCell (World.setCell (W6.drewN 1) ⟨w.heap.size, 0, none⟩ _) ⟨w.heap.size, 1, none⟩ _) ⟨w.heap.size, 2, none⟩ _) ⟨w.heap.size, 3, none⟩ _) = W7 at n1 n2 n8 hm7 ⊢;refine hK _ _ ⟨n8, n1⟩ ?_;clear hK K p0 p1 p2 p3 y0 y1 y2 y3 hlt0;have HN1 := hid n1;have HN2 := hid n2;have HN8 := hid n8;have HM7 := hid hm7;clear n1 n2 n8 hm7;obtain ⟨q0, q1, z0, z1, hlt1⟩ := Blk.two HN2.out;refine wpSeq_lone rfl (fun K hK => ?_);go_wp2_with fail
     have m1 := HN1.out.far2 hne (.int .i64 (pl : Int)) (.int .i64 3);have m2 := HN2.out.self2 (.int .i64 (pl : Int)) (.int .i64 3);have m8 := HN8.out.far2 (L := w2.heap.size + 1) (g := w.heap.size + 1) (by have := HS2.out; omega) (.int .i64 (pl : Int)) (.int .i64 3);have hm8 : Mp c.g c.W0.heap.size w _ := HM7.out.put2 (g := w.heap.size + 1) (.inr (by omega)) (.int .i64 (pl : Int)) (.int .i64 3);simp only [put2] at m1 m2 m8 hm8;generalize (World.setCell (World.setCell W7 ⟨w.heap.size + 1, 0, none⟩ _) ⟨w.heap.size + 1, 1, none⟩ _) = W8 at m1 m2 m8 hm8 ⊢;refine hK _ _ ⟨m8, m1⟩ ?_;clear hK K q0 q1 z0 z1 hlt1;refine wpSeq_end ?_;go_wp2_with fail
     obtain ⟨g0, g1, g2, g3, _⟩ := Blk.four m1;obtain ⟨f0, f1, _⟩ := Blk.two m2
     (try simp only [Exit.inBlock, Exit.then])
     refine bodyPost_ret (v := .tuple #[.agg zeroN, failV pl 3]) (by simp [failV, results, Tryz.results88, go_sem, f0, f1, g0, g1, g2, g3]) rfl ?_;exact HQ.out _ _ ⟨by decide, .mk 0 [] 0 [], none, 0, rfl, hm8⟩
end Go.Proofs.YtomibmenojdieaaGreat
