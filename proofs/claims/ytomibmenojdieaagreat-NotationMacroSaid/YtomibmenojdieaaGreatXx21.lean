/- Part 21 of 42 of a proof; its texts, joined: NyG, NyK, NzI. No condition. -/
import Derived.Test.YtomibmenojdieaaGreatXx20
import Derived.Test.YtomibmenojdieaaGreatXx5
import Derived.ArgAppend
import Derived.Test.YtomibmenojdieaaGreatXx12
import Derived.Test.YtomibmenojdieaaGreatXx9
import Derived.Test.YtomibmenojdieaaGreatXx4
import Derived.Test.YtomibmenojdieaaGreatXx7
set_option maxRecDepth 100000
set_option maxHeartbeats 400000
namespace Go.Proofs.YtomibmenojdieaaGreat
open Go.RowKit
open Tr (Nd)
open Lx (PTok)
open Mcr (R pRow pIn pScript pItem pPrim pArgs pName pCells pArg)
attribute [local go_sem] stillV stillUpon
theorem Ps.mv {c : Cf} {k : Kp} {op : List Nat} {w w' : World} {S : Nat → Prop} (h : Ps c k op w) (ht : Touch S w w') (hS : ∀ b, S b → b ≠ c.g ∧ c.W0.heap.size ≤ b ∧ ∃ t cs, t ≠ 3 ∧ Blk w b t cs) : Ps c k op w' := by
 obtain ⟨ov, hb, ho⟩ := h.box;refine ⟨h.low.trans' ht fun i hi => .inr (hS i hi).2.1, ⟨ov, ht.blk hb fun hs => (hS _ hs).1 rfl, ownsRow_touch ho ht fun b hb' hs => ?_⟩, h.le, h.nl⟩;obtain ⟨_, cur, h2⟩ := owns_type ho hb';obtain ⟨t, cs, h3, h4⟩ := (hS b hs).2.2;unfold Blk at h4;rw [h4] at h2;cases h2;exact h3 rfl
abbrev zeroN : Array Value := #[.int .i64 0, .string ⟨#[]⟩, .int .i64 0, .slice none 0 0]
abbrev nodeC (n : Nd) (A : Option Addr) (cp : Nat) : Array Value := #[.int .i64 n.kind, .string ⟨n.text.toArray⟩, .int .i64 n.cols, .slice A n.kids.length cp]
theorem script_n (c : Cf) (hc : c.Good) (f : Nat) (harg : ArgumentN c f) : ScriptN c (f + 1) := by
 intro k op b w h hop hne;have HA := hid (fun (w' : World) (hf : Fresh w w') => at_any_n c hc k op b w' (h.fresh hf));have HARG := hid harg;have htl := hc.tl;have H := hid h;have HOP := hid hop;have hgl : c.g < w.heap.size := h.glt;have HW0 := hid h.low.size;have hr : pScript c.E (f + 1) b op (c.at k) = if Np.isM b (c.at k).l then (pArg c.E f op (c.at k.up)).map some else .ok none (c.at k) := by rw [pScript, Cf.at_up]
 rw [hr] at hne ⊢;have HNE := hid hne;refine Calls.via fun Q hQ => ?_
 have HQ := hid hQ;have hlt := @isM_lt c k b;clear hne hr harg h hop hc hQ;cases hm : Np.isM b (c.at k).l with
 | false =>
  rw [hm] at HQ HA;rw [if_neg (by simp)] at HQ;clear hm hlt HNE;go_enter Tryz.func71, Tryz.ntmps71;go_wp2_with fail
  refine (HA.out _ (((Touch.refl _ _).alloc _).alloc _)).mono ?_;rintro _ w1 ⟨rfl, hf⟩;have HF := hid (show Fresh w w1 from Touch.pre (Touch.pre hf));have HBN := hid (hf.blk ((Blk.new w 35 zeroN).alloc (.cells #[.int .i64 0, .int .i64 0] 48)) (fun h => h));have HBF := hid (hf.blk (Blk.new2 w (.cells zeroN 35) 48 #[.int .i64 0, .int .i64 0]) (fun h => h));obtain ⟨p0, p1, p2, p3, y0, y1, y2, y3, hlt0⟩ := Blk.four HBN.out;obtain ⟨q0, q1, z0, z1, hlt1⟩ := Blk.two HBF.out;clear hf;go_wp2_with fail
  have n1 := HBN.out.self4 (.int .i64 0) (.string ⟨#[]⟩) (.int .i64 0) (.slice none 0 0);have hne : w.heap.size ≠ w.heap.size + 1 := by omega
  have n2 := HBF.out.far4 (Ne.symm hne) (.int .i64 0) (.string ⟨#[]⟩) (.int .i64 0) (.slice none 0 0);have n3 := n1.far2 hne (.int .i64 0) (.int .i64 0);have n4 := n2.self2 (.int .i64 0) (.int .i64 0);have hps := ((H.out.fresh HF.out).put4 HBN.out (by decide) (by omega) HW0.out (.int .i64 0) (.string ⟨#[]⟩) (.int .i64 0) (.slice none 0 0)).put2 n2 (by decide) (by omega) (by have := HW0.out; omega) (.int .i64 0) (.int .i64 0);have hm5 : Mp c.g c.W0.heap.size w _ := ((Mp.fresh HF.out).put4 (g := w.heap.size) (.inr (Nat.le_refl _)) (.int .i64 0) (.string ⟨#[]⟩) (.int .i64 0) (.slice none 0 0)).put2 (g := w.heap.size + 1) (.inr (by omega)) (.int .i64 0) (.int .i64 0);obtain ⟨g0, g1, g2, g3, _⟩ := Blk.four n3;obtain ⟨f0, f1, _⟩ := Blk.two n4;simp only [put2, put4] at g0 g1 g2 g3 f0 f1
  (try simp only [Exit.inBlock, Exit.then])
  refine bodyPost_ret (v := .tuple #[.agg zeroN, .bool false, failV 0 0]) (by simp [failV, results, Tryz.results71, go_sem, f0, f1, g0, g1, g2, g3]) rfl ?_;exact HQ.out _ _ ⟨k, rfl, rfl, Nat.le_refl _, hps, hm5⟩
 | true =>
  have HK := hid (hlt hm);rw [hm] at HQ HA HNE;rw [if_pos rfl] at HQ HNE;clear hm hlt;have e3 : ((k.p : Int) + 1) = ((k.p + 1 : Nat) : Int) := by simp
  have hk4 : k.p ≤ 100000 := by have := HK.out; omega
  have HE := hid e3;clear e3;unfold pp0 at HA;go_enter Tryz.func71, Tryz.ntmps71;unfold pp0;go_wp2_with fail
  refine (HA.out _ (((Touch.refl _ _).alloc _).alloc _)).mono ?_;rintro _ w1 ⟨rfl, hf⟩;have HF := hid (show Fresh w w1 from Touch.pre (Touch.pre hf));have HBN := hid (hf.blk ((Blk.new w 35 zeroN).alloc (.cells #[.int .i64 0, .int .i64 0] 48)) (fun h => h));have HBF := hid (hf.blk (Blk.new2 w (.cells zeroN 35) 48 #[.int .i64 0, .int .i64 0]) (fun h => h));have HP1 := hid (H.out.fresh HF.out);obtain ⟨ov, hb, _⟩ := HP1.out.box;have q1 := hb.cell 1;have z1 := hb.frozen 1;have hg1 := hb.lt;clear hf hb;go_wp2_with fail
  obtain ⟨n1, n2⟩ := HP1.out.next HK.out _ HE.out;have HP2 := hid n1;have HM2 := hid ((Mp.fresh HF.out).trans n2);have HBN2 := hid (HBN.out.far (p := ⟨c.g, 1, none⟩) (fun e => by have e' : w.heap.size = c.g := e; omega) (.int .i64 ((k.p : Int) + 1)));have HBF2 := hid (HBF.out.far (p := ⟨c.g, 1, none⟩) (fun e => by have e' : w.heap.size + 1 = c.g := e; omega) (.int .i64 ((k.p : Int) + 1)));have HL2 := hid (show w.heap.size + 1 < (w1.setCell ⟨c.g, 1, none⟩ (.int .i64 ((k.p : Int) + 1))).heap.size from HBF2.out.lt);generalize (w1.setCell ⟨c.g, 1, none⟩ (.int .i64 ((k.p : Int) + 1))) = w2 at HP2 HM2 HBN2 HBF2 HL2 ⊢;clear n1 n2 q1 z1 hg1;refine (HARG.out k.up op _ HP2.out (by have := HOP.out; (try simp only [Kp.up_p] at this ⊢); omega) (fun h => HNE.out (by rw [h]; rfl))).mono ?_;intro e w3 hres;generalize pArg c.E f op (c.at k.up) = r at HQ HNE hres;cases r with
  | out => exact absurd rfl HNE.out
  | err i er =>
   obtain ⟨he0, n, A, cp, rfl, hm⟩ := hres;have HE0 := hid he0;have HM3 := hid (HM2.out.trans hm);have HBN3 := hid (hm.blk HBN2.out (by omega) (by decide));have HBF3 := hid (hm.blk HBF2.out (by omega) (by decide));obtain ⟨p0, p1, p2, p3, y0, y1, y2, y3, hlt0⟩ := Blk.four HBN3.out;obtain ⟨q0, q1, z0, z1, hlt1⟩ := Blk.two HBF3.out;clear hm he0;unfold failV nodeV;go_wp2_with fail
   have hne : w.heap.size ≠ w.heap.size + 1 := by omega
   have n1 := (HBN3.out.self4 (.int .i64 n.kind) (.string ⟨n.text.toArray⟩) (.int .i64 n.cols) (.slice A n.kids.length cp)).far2 hne (.int .i64 (i : Int)) (.int .i64 (er : Int));have n2 := (HBF3.out.far4 (Ne.symm hne) (.int .i64 n.kind) (.string ⟨n.text.toArray⟩) (.int .i64 n.cols) (.slice A n.kids.length cp)).self2 (.int .i64 (i : Int)) (.int .i64 (er : Int));have hm4 : Mp c.g c.W0.heap.size w (put2 (put4 w3 w.heap.size (.int .i64 n.kind) (.string ⟨n.text.toArray⟩) (.int .i64 n.cols) (.slice A n.kids.length cp)) (w.heap.size + 1) (.int .i64 (i : Int)) (.int .i64 (er : Int))) := (HM3.out.put4 (g := w.heap.size) (.inr (Nat.le_refl _)) (.int .i64 n.kind) (.string ⟨n.text.toArray⟩) (.int .i64 n.cols) (.slice A n.kids.length cp)).put2 (g := w.heap.size + 1) (.inr (by omega)) (.int .i64 (i : Int)) (.int .i64 (er : Int));have ht4 : Touch (fun k => k = w.heap.size ∨ k = w.heap.size + 1) w3 (put2 (put4 w3 w.heap.size (.int .i64 n.kind) (.string ⟨n.text.toArray⟩) (.int .i64 n.cols) (.slice A n.kids.length cp)) (w.heap.size + 1) (.int .i64 (i : Int)) (.int .i64 (er : Int))) := ((touch4 _ _ (.int .i64 n.kind) (.string ⟨n.text.toArray⟩) (.int .i64 n.cols) (.slice A n.kids.length cp)).mono fun _ h => .inl h).trans ((touch2 _ _ (.int .i64 (i : Int)) (.int .i64 (er : Int))).mono fun _ h => .inr h);simp only [put2, put4] at n1 n2 hm4 ht4;generalize (World.setCell (World.setCell (World.setCell (World.setCell (World.setCell (World.setCell w3 ⟨w.heap.size, 0, none⟩ _) ⟨w.heap.size, 1, none⟩ _) ⟨w.heap.size, 2, none⟩ _) ⟨w.heap.size, 3, none⟩ _) ⟨w.heap.size + 1, 0, none⟩ _) ⟨w.heap.size + 1, 1, none⟩ _) = W4 at n1 n2 hm4 ht4 ⊢;have HN1 := hid n1;have HN2 := hid n2;have HM4 := hid hm4;have HT4 := hid ht4;clear n1 n2 hm4 ht4 p0 p1 p2 p3 y0 y1 y2 y3 q0 q1 z0 z1;refine wp_region_in (fun W => Blk W w.heap.size 35 (nodeC n A cp) ∧ Blk W (w.heap.size + 1) 48 #[.int .i64 (i : Int), .int .i64 (er : Int)] ∧ Touch (fun k => k = w.heap.size ∨ k = w.heap.size + 1) W4 W) [(0, true), (1, true), (2, false), (3, true), (4, false)] (by kernel_rfl) (fun _ _ d _ _ h => by cases d <;> exact h) (by kernel_rfl) ⟨HN1.out.drewN 1, HN2.out.drewN 1, (Touch.refl _ _).drewN 1⟩ ?_;refine wpSeq_plain rfl (fun K hK => ?_);rw [if_pos (by rfl)];refine ⟨.agg (nodeC n A cp), fun W hW => ?_, hK _ ?_⟩
   ·obtain ⟨h1, _, _⟩ := hW
    obtain ⟨p0, p1, p2, p3, _⟩ := Blk.four h1;go_simp
   clear hK K;refine wpSeq_plain rfl (fun K hK => ?_);rw [if_pos (by rfl)];refine ⟨.agg #[.int .i64 (i : Int), .int .i64 (er : Int)], fun W hW => ?_, hK _ ?_⟩
   ·obtain ⟨_, h1, _⟩ := hW
    obtain ⟨p0, p1, _⟩ := Blk.two h1;go_simp
   clear hK K;obtain ⟨p0, p1, p2, p3, y0, y1, y2, y3, hlt0⟩ := Blk.four (HN1.out.drewN 1);obtain ⟨q0, q1, z0, z1, hlt1⟩ := Blk.two (HN2.out.drewN 1);refine wpSeq_lone rfl (fun K hK => ?_);go_wp2_with fail
   have hx := HM4.out.size;have m1 := (HN1.out.drewN 1).self4 (.int .i64 n.kind) (.string ⟨n.text.toArray⟩) (.int .i64 n.cols) (.slice A n.kids.length cp);have m2 := (HN2.out.drewN 1).far4 (Ne.symm hne) (.int .i64 n.kind) (.string ⟨n.text.toArray⟩) (.int .i64 n.cols) (.slice A n.kids.length cp);have mt : Touch (fun k => k = w.heap.size ∨ k = w.heap.size + 1) W4 (put4 (W4.drewN 1) w.heap.size (.int .i64 n.kind) (.string ⟨n.text.toArray⟩) (.int .i64 n.cols) (.slice A n.kids.length cp)) := ((Touch.refl _ _).drewN 1).trans ((touch4 _ _ (.int .i64 n.kind) (.string ⟨n.text.toArray⟩) (.int .i64 n.cols) (.slice A n.kids.length cp)).mono fun _ h => .inl h);have mm : Mp c.g c.W0.heap.size w (put4 (W4.drewN 1) w.heap.size (.int .i64 n.kind) (.string ⟨n.text.toArray⟩) (.int .i64 n.cols) (.slice A n.kids.length cp)) := (HM4.out.drewN 1).put4 (g := w.heap.size) (.inr (Nat.le_refl _)) (.int .i64 n.kind) (.string ⟨n.text.toArray⟩) (.int .i64 n.cols) (.slice A n.kids.length cp);simp only [put4] at m1 m2 mt mm;generalize (World.setCell (World.setCell (World.setCell (World.setCell (W4.drewN 1) ⟨w.heap.size, 0, none⟩ _) ⟨w.heap.size, 1, none⟩ _) ⟨w.heap.size, 2, none⟩ _) ⟨w.heap.size, 3, none⟩ _) = W5 at m1 m2 mt mm ⊢;refine hK _ _ ⟨m1, m2, mt⟩ ?_;have HN5 := hid m1;have HF5 := hid m2;have HT5 := hid mt;have HM5 := hid mm;clear hK K p0 p1 p2 p3 y0 y1 y2 y3 q0 q1 z0 z1 m1 m2 mt mm;refine wpSeq_plain rfl (fun K hK => ?_);rw [if_pos (by rfl)];refine ⟨.bool true, fun W hW => ?_, hK _ ?_⟩
   ·go_simp
   clear hK K;obtain ⟨q0, q1, z0, z1, hlt1⟩ := Blk.two HF5.out;refine wpSeq_lone rfl (fun K hK => ?_);go_wp2_with fail
   have m1 := HN5.out.far2 hne (.int .i64 (i : Int)) (.int .i64 (er : Int));have m2 := HF5.out.self2 (.int .i64 (i : Int)) (.int .i64 (er : Int));have mt : Touch (fun k => k = w.heap.size ∨ k = w.heap.size + 1) W4 (put2 W5 (w.heap.size + 1) (.int .i64 (i : Int)) (.int .i64 (er : Int))) := HT5.out.trans ((touch2 _ _ (.int .i64 (i : Int)) (.int .i64 (er : Int))).mono fun _ h => .inr h);have mm : Mp c.g c.W0.heap.size w (put2 W5 (w.heap.size + 1) (.int .i64 (i : Int)) (.int .i64 (er : Int))) := HM5.out.put2 (g := w.heap.size + 1) (.inr (by omega)) (.int .i64 (i : Int)) (.int .i64 (er : Int));simp only [put2] at m1 m2 mt mm;generalize (World.setCell (World.setCell W5 ⟨w.heap.size + 1, 0, none⟩ _) ⟨w.heap.size + 1, 1, none⟩ _) = W6 at m1 m2 mt mm ⊢;refine hK _ _ ⟨m1, m2, mt⟩ ?_;clear hK K q0 q1 z0 z1;refine wpSeq_end ?_;go_wp2_with fail
   obtain ⟨g0, g1, g2, g3, _⟩ := Blk.four m1;obtain ⟨f0, f1, _⟩ := Blk.two m2
   (try simp only [Exit.inBlock, Exit.then])
   refine bodyPost_ret (v := .tuple #[nodeV n A cp, .bool true, failV i er]) (by simp [failV, nodeV, results, Tryz.results71, go_sem, f0, f1, g0, g1, g2, g3]) rfl ?_;exact HQ.out _ _ ⟨HE0.out, n, A, cp, rfl, mm⟩
  | ok a rest =>
   obtain ⟨A, cp, k', rfl, htr, htx, hdr, hkk, hp, hm⟩ := hres;have HTR := hid htr;have HTX := hid htx;have HDR := hid hdr;have HKK := hid hkk;have HP3 := hid hp;have HM3 := hid (HM2.out.trans hm);have HBN3 := hid (hm.blk HBN2.out (by omega) (by decide));have HBF3 := hid (hm.blk HBF2.out (by omega) (by decide));obtain ⟨p0, p1, p2, p3, y0, y1, y2, y3, hlt0⟩ := Blk.four HBN3.out;obtain ⟨q0, q1, z0, z1, hlt1⟩ := Blk.two HBF3.out;clear hm htr htx hdr hkk hp;unfold failV nodeV;go_wp2_with fail
   have hne : w.heap.size ≠ w.heap.size + 1 := by omega
   have n1 := (HBN3.out.self4 (.int .i64 a.kind) (.string ⟨a.text.toArray⟩) (.int .i64 a.cols) (.slice A a.kids.length cp)).far2 hne (.int .i64 0) (.int .i64 0);have n2 := (HBF3.out.far4 (Ne.symm hne) (.int .i64 a.kind) (.string ⟨a.text.toArray⟩) (.int .i64 a.cols) (.slice A a.kids.length cp)).self2 (.int .i64 0) (.int .i64 0);have hm4 : Mp c.g c.W0.heap.size w (put2 (put4 w3 w.heap.size (.int .i64 a.kind) (.string ⟨a.text.toArray⟩) (.int .i64 a.cols) (.slice A a.kids.length cp)) (w.heap.size + 1) (.int .i64 0) (.int .i64 0)) := (HM3.out.put4 (g := w.heap.size) (.inr (Nat.le_refl _)) (.int .i64 a.kind) (.string ⟨a.text.toArray⟩) (.int .i64 a.cols) (.slice A a.kids.length cp)).put2 (g := w.heap.size + 1) (.inr (by omega)) (.int .i64 0) (.int .i64 0);have ht4 : Touch (fun k => k = w.heap.size ∨ k = w.heap.size + 1) w3 (put2 (put4 w3 w.heap.size (.int .i64 a.kind) (.string ⟨a.text.toArray⟩) (.int .i64 a.cols) (.slice A a.kids.length cp)) (w.heap.size + 1) (.int .i64 0) (.int .i64 0)) := ((touch4 _ _ (.int .i64 a.kind) (.string ⟨a.text.toArray⟩) (.int .i64 a.cols) (.slice A a.kids.length cp)).mono fun _ h => .inl h).trans ((touch2 _ _ (.int .i64 0) (.int .i64 0)).mono fun _ h => .inr h);simp only [put2, put4] at n1 n2 hm4 ht4;generalize (World.setCell (World.setCell (World.setCell (World.setCell (World.setCell (World.setCell w3 ⟨w.heap.size, 0, none⟩ _) ⟨w.heap.size, 1, none⟩ _) ⟨w.heap.size, 2, none⟩ _) ⟨w.heap.size, 3, none⟩ _) ⟨w.heap.size + 1, 0, none⟩ _) ⟨w.heap.size + 1, 1, none⟩ _) = W4 at n1 n2 hm4 ht4 ⊢;have HN1 := hid n1;have HN2 := hid n2;have HM4 := hid hm4;have HT4 := hid ht4;clear n1 n2 hm4 ht4 p0 p1 p2 p3 y0 y1 y2 y3 q0 q1 z0 z1;refine wp_region_in (fun W => Blk W w.heap.size 35 (nodeC a A cp) ∧ Blk W (w.heap.size + 1) 48 #[.int .i64 0, .int .i64 0] ∧ Touch (fun k => k = w.heap.size ∨ k = w.heap.size + 1) W4 W) [(0, true), (1, true), (2, false), (3, true), (4, false)] (by kernel_rfl) (fun _ _ d _ _ h => by cases d <;> exact h) (by kernel_rfl) ⟨HN1.out.drewN 1, HN2.out.drewN 1, (Touch.refl _ _).drewN 1⟩ ?_;refine wpSeq_plain rfl (fun K hK => ?_);rw [if_pos (by rfl)];refine ⟨.agg (nodeC a A cp), fun W hW => ?_, hK _ ?_⟩
   ·obtain ⟨h1, _, _⟩ := hW
    obtain ⟨p0, p1, p2, p3, _⟩ := Blk.four h1;go_simp
   clear hK K;refine wpSeq_plain rfl (fun K hK => ?_);rw [if_pos (by rfl)];refine ⟨.agg #[.int .i64 0, .int .i64 0], fun W hW => ?_, hK _ ?_⟩
   ·obtain ⟨_, h1, _⟩ := hW
    obtain ⟨p0, p1, _⟩ := Blk.two h1;go_simp
   clear hK K;obtain ⟨p0, p1, p2, p3, y0, y1, y2, y3, hlt0⟩ := Blk.four (HN1.out.drewN 1);obtain ⟨q0, q1, z0, z1, hlt1⟩ := Blk.two (HN2.out.drewN 1);refine wpSeq_lone rfl (fun K hK => ?_);go_wp2_with fail
   have hx := HM4.out.size;have m1 := (HN1.out.drewN 1).self4 (.int .i64 a.kind) (.string ⟨a.text.toArray⟩) (.int .i64 a.cols) (.slice A a.kids.length cp);have m2 := (HN2.out.drewN 1).far4 (Ne.symm hne) (.int .i64 a.kind) (.string ⟨a.text.toArray⟩) (.int .i64 a.cols) (.slice A a.kids.length cp);have mt : Touch (fun k => k = w.heap.size ∨ k = w.heap.size + 1) W4 (put4 (W4.drewN 1) w.heap.size (.int .i64 a.kind) (.string ⟨a.text.toArray⟩) (.int .i64 a.cols) (.slice A a.kids.length cp)) := ((Touch.refl _ _).drewN 1).trans ((touch4 _ _ (.int .i64 a.kind) (.string ⟨a.text.toArray⟩) (.int .i64 a.cols) (.slice A a.kids.length cp)).mono fun _ h => .inl h);have mm : Mp c.g c.W0.heap.size w (put4 (W4.drewN 1) w.heap.size (.int .i64 a.kind) (.string ⟨a.text.toArray⟩) (.int .i64 a.cols) (.slice A a.kids.length cp)) := (HM4.out.drewN 1).put4 (g := w.heap.size) (.inr (Nat.le_refl _)) (.int .i64 a.kind) (.string ⟨a.text.toArray⟩) (.int .i64 a.cols) (.slice A a.kids.length cp);simp only [put4] at m1 m2 mt mm;generalize (World.setCell (World.setCell (World.setCell (World.setCell (W4.drewN 1) ⟨w.heap.size, 0, none⟩ _) ⟨w.heap.size, 1, none⟩ _) ⟨w.heap.size, 2, none⟩ _) ⟨w.heap.size, 3, none⟩ _) = W5 at m1 m2 mt mm ⊢;refine hK _ _ ⟨m1, m2, mt⟩ ?_;have HN5 := hid m1;have HF5 := hid m2;have HT5 := hid mt;have HM5 := hid mm;clear hK K p0 p1 p2 p3 y0 y1 y2 y3 q0 q1 z0 z1 m1 m2 mt mm;refine wpSeq_plain rfl (fun K hK => ?_);rw [if_pos (by rfl)];refine ⟨.bool true, fun W hW => ?_, hK _ ?_⟩
   ·go_simp
   clear hK K;obtain ⟨q0, q1, z0, z1, hlt1⟩ := Blk.two HF5.out;refine wpSeq_lone rfl (fun K hK => ?_);go_wp2_with fail
   have m1 := HN5.out.far2 hne (.int .i64 0) (.int .i64 0);have m2 := HF5.out.self2 (.int .i64 0) (.int .i64 0);have mt : Touch (fun k => k = w.heap.size ∨ k = w.heap.size + 1) W4 (put2 W5 (w.heap.size + 1) (.int .i64 0) (.int .i64 0)) := HT5.out.trans ((touch2 _ _ (.int .i64 0) (.int .i64 0)).mono fun _ h => .inr h);have mm : Mp c.g c.W0.heap.size w (put2 W5 (w.heap.size + 1) (.int .i64 0) (.int .i64 0)) := HM5.out.put2 (g := w.heap.size + 1) (.inr (by omega)) (.int .i64 0) (.int .i64 0);simp only [put2] at m1 m2 mt mm;generalize (World.setCell (World.setCell W5 ⟨w.heap.size + 1, 0, none⟩ _) ⟨w.heap.size + 1, 1, none⟩ _) = W6 at m1 m2 mt mm ⊢;refine hK _ _ ⟨m1, m2, mt⟩ ?_;clear hK K q0 q1 z0 z1;refine wpSeq_end ?_;go_wp2_with fail
   obtain ⟨g0, g1, g2, g3, _⟩ := Blk.four m1;obtain ⟨f0, f1, _⟩ := Blk.two m2
   (try simp only [Exit.inBlock, Exit.then])
   refine bodyPost_ret (v := .tuple #[nodeV a A cp, .bool true, failV 0 0]) (by simp [failV, nodeV, results, Tryz.results71, go_sem, f0, f1, g0, g1, g2, g3]) rfl ?_;have ht6 := HT4.out.trans mt
   have hps := HP3.out.mv ht6 (fun b hb => by
    rcases hb with rfl | rfl
    ·exact ⟨by omega, HW0.out, _, _, (by decide), HBN3.out⟩
    ·exact ⟨by omega, by have := HW0.out; omega, _, _, (by decide), HBF3.out⟩)
   have htr := HTR.out.mv ht6 (fun b _ _ hb hB => by have := HL2.out; rcases hb with rfl | rfl <;> omega);exact HQ.out _ _ ⟨A, cp, k', rfl, htr.base HM2.out.size, HTX.out, HDR.out, by have := HKK.out; (try simp only [Kp.up_p] at this ⊢); omega, hps, mm⟩
end Go.Proofs.YtomibmenojdieaaGreat
namespace Go.Proofs.YtomibmenojdieaaGreat
open Go.RowKit
open Tr (Nd)
def Nty (w : World) (k : Nat) : Prop := ∃ cs fr, w.heap[k]? = some (.cells cs 35 fr)
theorem Nty.lt {w : World} {k : Nat} (h : Nty w k) : k < w.heap.size := by
 obtain ⟨_, _, h⟩ := h;exact (Array.getElem?_eq_some_iff.1 h).1
def GS (D : Nat → Prop) (B0 : Nat) (o : Option Nat) (w : World) (k : Nat) : Prop := o = some k ∨ D k ∨ k < B0 ∨ ¬ Nty w k
def Saf (D : Nat → Prop) (B0 : Nat) (o : Option Nat) (w : World) (ks : List Nd) (cs : List Value) : Prop := ∀ W', Touch (GS D B0 o w) w W' → NodesT B0 W' ks cs
theorem GS.pre {D : Nat → Prop} {B0 : Nat} {o o' : Option Nat} {w w1 W' : World} {S : Nat → Prop} (ht : Touch S w w1) (hS : ∀ k, S k → GS D B0 o w k) (ho : ∀ k, o' = some k → o = some k ∨ w.heap.size ≤ k) (hW : Touch (GS D B0 o' w1) w1 W') : Touch (GS D B0 o w) w W' := by
 refine ⟨hW.os.trans ht.os, hW.tape.trans ht.tape, hW.output.trans ht.output, Nat.le_trans ht.size hW.size, fun i hi hn => ?_⟩;have e := ht.block i hi fun hs => hn (hS i hs)
 refine (hW.block i (Nat.lt_of_lt_of_le hi ht.size) fun hs => hn ?_).trans e
 rcases hs with hs | hs | hs | hs
 ·rcases ho i hs with h1 | h1
  ·exact .inl h1
  ·omega
 ·exact .inr (.inl hs)
 ·exact .inr (.inr (.inl hs))
 ·exact .inr (.inr (.inr fun ⟨cs, fr, e2⟩ => hs ⟨cs, fr, by rw [e]; exact e2⟩))
theorem Saf.mv {D : Nat → Prop} {B0 : Nat} {o : Option Nat} {w w1 : World} {ks : List Nd} {cs : List Value} {S : Nat → Prop} (h : Saf D B0 o w ks cs) (ht : Touch S w w1) (hS : ∀ k, S k → GS D B0 o w k) : Saf D B0 o w1 ks cs :=
 fun W' hW => h W' (GS.pre ht hS (fun _ h => .inl h) hW)
theorem Saf.push {D : Nat → Prop} {B0 B1 : Nat} {o o' : Option Nat} {w w' : World} {ks : List Nd} {cs : List Value} {a : Nd} {sl : Value} (h : Saf D B0 o w ks cs) (hgr : w.grownBy w' o) (hv : ∀ k, o' = some k → o = some k ∨ w.heap.size ≤ k) (htr : TreT B1 w a.kids sl) (hB1 : B0 ≤ B1) (hown : ∀ k, o = some k → k < B1) (hD : ∀ k, D k → k < B1) (htx : a.text.length ≤ maxLen) :
  Saf D B0 o' w' (ks ++ [a]) (cs ++ [.int .i64 a.kind, .string ⟨a.text.toArray⟩, .int .i64 a.cols, sl]) := fun W' hW => by
 have hT := GS.pre (o := o) (Touch.grown (S := fun k => o = some k) (Touch.refl _ w) hgr fun k hk => .inl hk) (fun k hk => .inl hk) hv hW;refine (h W' hT).append ⟨sl, [], rfl, ⟨(htr.mv hT fun k cs fr hk hB he => ?_).base hB1, htx⟩, rfl⟩
 rcases hk with hk | hk | hk | hk
 ·have := hown k hk; omega
 ·have := hD k hk; omega
 ·omega
 ·exact hk ⟨_, _, he⟩
theorem Saf.pushL {D : Nat → Prop} {B0 B1 : Nat} {o o' : Option Nat} {w w' : World} {ks ms : List Nd} {cs ds : List Value} (h : Saf D B0 o w ks cs) (hgr : w.grownBy w' o) (hv : ∀ k, o' = some k → o = some k ∨ w.heap.size ≤ k) (htr : NodesT B1 w ms ds) (hB1 : B0 ≤ B1) (hown : ∀ k, o = some k → k < B1) (hD : ∀ k, D k → k < B1) :
  Saf D B0 o' w' (ks ++ ms) (cs ++ ds) := fun W' hW => by
 have hT := GS.pre (o := o) (Touch.grown (S := fun k => o = some k) (Touch.refl _ w) hgr fun k hk => .inl hk) (fun k hk => .inl hk) hv hW;refine (h W' hT).append ((htr.mv hT fun k cs fr hk hB he => ?_).base hB1)
 rcases hk with hk | hk | hk | hk
 ·have := hown k hk; omega
 ·have := hD k hk; omega
 ·omega
 ·exact hk ⟨_, _, he⟩
def Grow (D : Nat → Prop) (w : World) (B0 B : Nat) (ks : List Nd) (v : Value) : Prop := ∃ cs, w.ownsRow B 35 4 v ks.length cs ∧ Saf D B0 v.ownBlock w ks cs
def Full (D : Nat → Prop) (w : World) (B0 : Nat) (ks : List Nd) (v : Value) : Prop := ∃ cs, ∀ W', Touch (GS D B0 none w) w W' → Src W' 4 v ks.length cs ∧ NodesT B0 W' ks cs ∧ TreT B0 W' ks v
theorem TreT.full {B0 : Nat} {w w1 : World} {ks : List Nd} {v : Value} {D : Nat → Prop} (h : TreT B0 w ks v) (hf : Fresh w w1) (hD : ∀ k, D k → w.heap.size ≤ k) : Full D w1 B0 ks v := by
 obtain ⟨cs, h1, h2⟩ := h.src;refine ⟨cs, fun W' hW => ?_⟩
 have hT : Touch (fun k => k < B0 ∨ ¬ Nty w k) w W' := by
  refine ⟨hW.os.trans hf.os, hW.tape.trans hf.tape, hW.output.trans hf.output, Nat.le_trans hf.size hW.size, fun i hi hn => ?_⟩;have e := hf.block i hi fun hs => hs
  refine (hW.block i (Nat.lt_of_lt_of_le hi hf.size) fun hs => hn ?_).trans e
  rcases hs with hs | hs | hs | hs
  ·cases hs
  ·have := hD i hs; omega
  ·exact .inl hs
  ·exact .inr fun ⟨cs, fr, e2⟩ => hs ⟨cs, fr, by rw [e]; exact e2⟩
 have hno : ∀ k cs fr, (k < B0 ∨ ¬ Nty w k) → B0 ≤ k → w.heap[k]? ≠ some (.cells cs 35 fr) := fun k cs fr hk hB he => by
  rcases hk with hk | hk
  ·omega
  ·exact hk ⟨_, _, he⟩
 refine ⟨?_, h1.mv hT hno, h.mv hT hno⟩;obtain ⟨A, c, e1, e2, e3⟩ := h2;refine ⟨A, c, e1, e2, ?_⟩;cases h with
 | nil A' cap =>
  cases e1;rw [List.length_nil, Nat.zero_mul, List.length_eq_zero_iff] at e2;subst e2;cases A with
  | none => exact .inl ⟨rfl, rfl, rfl⟩
  | some a => exact .inr ⟨a, rfl, fun j u hu => by simp at hu⟩
 | row g cap _ sl hB hg hl =>
  cases e1
  rcases e3 with ⟨e4, _⟩ | ⟨ad, e4, e5⟩
  ·cases e4
  ·cases e4
   obtain ⟨ds, fr, hg⟩ := hg;refine .inr ⟨_, rfl, fun j u hu => ?_⟩;have e6 := e5 j u hu;rw [Addr.add_mid, Nat.zero_add] at e6 ⊢;exact hT.cell e6 fun hs => hno g ds fr hs hB hg
theorem Full.mv {D : Nat → Prop} {B0 : Nat} {w w1 : World} {ks : List Nd} {v : Value} {S : Nat → Prop} (h : Full D w B0 ks v) (ht : Touch S w w1) (hS : ∀ k, S k → GS D B0 none w k) : Full D w1 B0 ks v := by
 obtain ⟨cs, h⟩ := h;exact ⟨cs, fun W' hW => h W' (GS.pre ht hS (fun _ h => .inl h) hW)⟩
theorem Full.tree {D : Nat → Prop} {B0 : Nat} {w : World} {ks : List Nd} {v : Value} (h : Full D w B0 ks v) : TreT B0 w ks v := by
 obtain ⟨cs, h⟩ := h;exact (h w (Touch.refl _ _)).2.2
theorem Full.fresh {D : Nat → Prop} {B0 : Nat} {w w1 : World} {ks : List Nd} {v : Value} (h : Full D w B0 ks v) (ht : Fresh w w1) : Full D w1 B0 ks v := h.mv ht fun _ h => h.elim
theorem Grow.tree {D : Nat → Prop} {w : World} {B0 B : Nat} {ks : List Nd} {v : Value} (h : Grow D w B0 B ks v) (hB : B0 ≤ B) : TreT B0 w ks v := by
 obtain ⟨cs, h1, h2⟩ := h;exact (h2 w (Touch.refl _ _)).own hB h1
theorem Grow.nil (D : Nat → Prop) (w : World) (B0 B : Nat) : Grow D w B0 B [] (.slice none 0 0) := ⟨[], World.ownsRow_nil _ _ _ _, fun _ _ => rfl⟩
theorem Grow.mv {D : Nat → Prop} {w w1 : World} {B0 B : Nat} {ks : List Nd} {v : Value} {S : Nat → Prop} (h : Grow D w B0 B ks v) (ht : Touch S w w1) (hB : B0 ≤ B) (hD : ∀ k, D k → k < B) (hS : ∀ k, S k → D k ∨ k < B0 ∨ ¬ Nty w k) : Grow D w1 B0 B ks v := by
 obtain ⟨cs, h1, h2⟩ := h;refine ⟨cs, ownsRow_touch h1 ht fun k hk hs => ?_, h2.mv ht fun k hk => .inr (hS k hk)⟩;obtain ⟨h3, cur, h4⟩ := owns_type h1 hk
 rcases hS k hs with h5 | h5 | h5
 ·have := hD k h5; omega
 ·omega
 ·exact h5 ⟨_, _, h4⟩
theorem Grow.fresh {D : Nat → Prop} {w w1 : World} {B0 B : Nat} {ks : List Nd} {v : Value} (h : Grow D w B0 B ks v) (ht : Fresh w w1) : Grow D w1 B0 B ks v := by
 obtain ⟨cs, h1, h2⟩ := h;exact ⟨cs, ownsRow_touch h1 ht fun k hk hs => hs, h2.mv ht fun k hk => hk.elim⟩
theorem Grow.slice {D : Nat → Prop} {w : World} {B0 B : Nat} {ks : List Nd} {v : Value} (h : Grow D w B0 B ks v) : ∃ A cap, v = .slice A ks.length cap := by
 obtain ⟨cs, h1, _⟩ := h;exact own_slc h1
theorem PT.nty {c : Cf} {k : Kp} {op : List Nat} {w : World} {b : Nat} (hp : Ps c k op w) (hk : PT c.g c.W0.heap.size w b) : ¬ Nty w b := by
 rintro ⟨cs, fr, e⟩;obtain ⟨ov, hb, _⟩ := hp.box
 rcases hk with rfl | ⟨_, cs', fr', h3⟩
 ·unfold Blk at hb
  rw [hb] at e;cases e
 ·rw [h3] at e
  cases e
theorem Src.cells1 {w : World} {size m c g : Nat} {news : List Value} (h : Src w size (.slice (some ⟨g, 0, none⟩) m c) m news) : ∀ j u, news[j]? = some u → w.cell? ((⟨g, 0, none⟩ : Addr).add j) = some u := by
 obtain ⟨A, c', h1, h2, h3⟩ := h;cases h1
 rcases h3 with ⟨h4, _⟩ | ⟨ad, h4, h5⟩
 ·cases h4
 ·cases h4; exact h5
theorem TreT.lit {B : Nat} {w : World} {n : Nd} {sl : Value} (h : TreT B w n.kids sl) (hB : B ≤ w.heap.size) (ht : n.text.length ≤ maxLen) : TreT B (w.alloc (.cells #[.int .i64 n.kind, .string ⟨n.text.toArray⟩, .int .i64 n.cols, sl] 35)) [n] (.slice (some ⟨w.heap.size, 0, none⟩) 1 1) := by
 have hb := Blk.new w 35 #[.int .i64 n.kind, .string ⟨n.text.toArray⟩, .int .i64 n.cols, sl];obtain ⟨p0, p1, p2, p3, _⟩ := Blk.four hb;exact TreT.one hB ⟨_, _, hb⟩ p0 p1 p2 p3 (h.fresh ((Touch.refl _ _).alloc _)) ht
def Grew (B : Nat) (w w' : World) : Prop := Touch (fun k => B ≤ k ∧ ∃ cs, Blk w k 35 cs) w w'
theorem Grew.size {B : Nat} {w w' : World} (h : Grew B w w') : w.heap.size ≤ w'.heap.size := Touch.size h
theorem Grew.blk1 {B : Nat} {w w' : World} {k : Nat} {t : TypeId} {cs : Array Value} (h : Grew B w w') (hb : Blk w k t cs) (hk : k < B) : Blk w' k t cs := Touch.blk h hb fun ⟨h1, _⟩ => by omega
theorem Grew.mp {g B B' : Nat} {w W W' : World} (h : Grew B' W W') (hm : Mp g B w W) (hB : w.heap.size ≤ B') : Mp g B w W' := Touch.trans' hm h fun _ hi => .inr (Nat.le_trans hB hi.1)
theorem Grew.ps {c : Cf} {k : Kp} {B' : Nat} {op : List Nat} {W W' : World} (h : Grew B' W W') (hp : Ps c k op W) (hB : c.W0.heap.size ≤ B') (hg : c.g < B') : Ps c k op W' := hp.mv h fun b hb => ⟨by have := hb.1; omega, Nat.le_trans hB hb.1, 35, hb.2.elim fun cs h => ⟨cs, by decide, h⟩⟩
section
variable {w : World} {ops : Array Oper} {rest : List Oper} {o : Oper} {a : Act} {Q : Exit → Act → World → Prop}
theorem wpList_append_grow (hgd : o.guard = none) (s x : Operand)
  (ho : o.op = .call { callee := .builtin .append, args := #[s, x], argTypes := #[33, 33] })
  (i : TypeInfo) (z : Value) (hi : Tryz.prog.info? 35 = some i) (hz : i.zero = some z) (hsize : i.size = 4) (hby : i.bytes = 56) (hzs : z.cells.size = 4)
  {D : Nat → Prop} {B0 B B1 : Nat} {ks : List Nd} {v y : Value} (h : Grow D w B0 B ks v) (hs : a.eval s = v) (n : Nd) (sl : Value) (hx : a.eval x = y) (hsrc : Src w 4 y 1 [.int .i64 n.kind, .string ⟨n.text.toArray⟩, .int .i64 n.cols, sl])
  (htr : TreT B1 w n.kids sl) (hB1 : B0 ≤ B1) (hD : ∀ k, D k → k < B1) (hown : ∀ k, v.ownBlock = some k → k < B1) (htx : n.text.length ≤ maxLen) (hlen : ks.length < 2 ^ 40) (hB : B ≤ w.heap.size)
  (hK : ∀ A cp w', Grow D w' B0 B (ks ++ [n]) (.slice A (ks.length + 1) cp) → Grew B w w' → wpList Tryz.prog ops Q rest (a.put o.dst (.slice A (ks.length + 1) cp)) w') : wpList Tryz.prog ops Q (o :: rest) a w := by
 obtain ⟨cs, h1, h2⟩ := h
 have h3 : ∀ u ∈ [Value.int .i64 n.kind, .string ⟨n.text.toArray⟩, .int .i64 n.cols, sl], u.oneCell' = true := by
  obtain ⟨_, _, rfl⟩ := htr.slice;simp [Value.oneCell']
 refine wpList_append_src _ hgd s x 33 ho B 35 i z 4 56 rfl hi hz hsize hby hzs (by decide) v ks.length cs hs h1 y 1 _ hx hsrc h3 (by simp only [maxLen]; omega) (by omega) hB fun v' w' ho' hgr hv => ?_
 obtain ⟨A, cp, rfl⟩ := own_slc ho'
 exact hK A cp w' ⟨_, by rw [List.length_append]; exact ho', h2.push hgr (fun k hk => by rcases hv with h6 | h6 <;> rw [h6] at hk <;> first | exact .inl hk | (cases hk; exact .inr (Nat.le_refl _))) htr hB1 hown hD htx⟩ (Touch.grown (Touch.refl _ _) hgr fun k hk => .inl (by
  obtain ⟨h4, cur, h5⟩ := owns_type h1 hk;exact ⟨h4, _, h5⟩))
theorem wpList_append_growL (hgd : o.guard = none) (s x : Operand)
  (ho : o.op = .call { callee := .builtin .append, args := #[s, x], argTypes := #[33, 33] })
  (i : TypeInfo) (z : Value) (hi : Tryz.prog.info? 35 = some i) (hz : i.zero = some z) (hsize : i.size = 4) (hby : i.bytes = 56) (hzs : z.cells.size = 4)
  {D : Nat → Prop} {B0 B B1 : Nat} {ks ms : List Nd} {v y : Value} (h : Grow D w B0 B ks v) (hs : a.eval s = v) (hx : a.eval x = y) (htr : TreT B1 w ms y) (hB1 : B0 ≤ B1) (hD : ∀ k, D k → k < B1) (hown : ∀ k, v.ownBlock = some k → k < B1) (hlen : ks.length + ms.length < 2 ^ 40) (hB : B ≤ w.heap.size)
  (hK : ∀ A cp w', Grow D w' B0 B (ks ++ ms) (.slice A (ks.length + ms.length) cp) → Grew B w w' → wpList Tryz.prog ops Q rest (a.put o.dst (.slice A (ks.length + ms.length) cp)) w') : wpList Tryz.prog ops Q (o :: rest) a w := by
 obtain ⟨cs, h1, h2⟩ := h;obtain ⟨ds, h3, hsrc⟩ := htr.src;refine wpList_append_src _ hgd s x 33 ho B 35 i z 4 56 rfl hi hz hsize hby hzs (by decide) v ks.length cs hs h1 y ms.length _ hx hsrc h3.oneCell (by simp only [maxLen]; omega) (by omega) hB fun v' w' ho' hgr hv => ?_
 obtain ⟨A, cp, rfl⟩ := own_slc ho'
 exact hK A cp w' ⟨_, by rw [List.length_append]; exact ho', h2.pushL hgr (fun k hk => by rcases hv with h6 | h6 <;> rw [h6] at hk <;> first | exact .inl hk | (cases hk; exact .inr (Nat.le_refl _))) h3 hB1 hown hD⟩ (Touch.grown (Touch.refl _ _) hgr fun k hk => .inl (by
  obtain ⟨h4, cur, h5⟩ := owns_type h1 hk;exact ⟨h4, _, h5⟩))
theorem wpList_append_first (hgd : o.guard = none) (s x : Operand)
  (ho : o.op = .call { callee := .builtin .append, args := #[s, x], argTypes := #[33, 33] })
  (i : TypeInfo) (z : Value) (hi : Tryz.prog.info? 35 = some i) (hz : i.zero = some z) (hsize : i.size = 4) (hby : i.bytes = 56) (hzs : z.cells.size = 4)
  {D : Nat → Prop} {B0 B B1 : Nat} {ks : List Nd} {A0 : Option Addr} (h : Full D w B0 ks (.slice A0 ks.length ks.length)) (hs : a.eval s = .slice A0 ks.length ks.length) (n : Nd) (sl : Value) (ad : Addr) (hx : a.eval x = .slice (some ad) 1 1) (hsrc : ∀ j u, [Value.int .i64 n.kind, .string ⟨n.text.toArray⟩, .int .i64 n.cols, sl][j]? = some u → w.cell? (ad.add j) = some u)
  (htr : TreT B1 w n.kids sl) (hB1 : B0 ≤ B1) (hD : ∀ k, D k → k < B1) (htx : n.text.length ≤ maxLen) (hlen : ks.length < 2 ^ 40) (hB : B ≤ w.heap.size)
  (hK : ∀ A cp w', Grow D w' B0 B (ks ++ [n]) (.slice A (ks.length + 1) cp) → Grew B w w' → wpList Tryz.prog ops Q rest (a.put o.dst (.slice A (ks.length + 1) cp)) w') : wpList Tryz.prog ops Q (o :: rest) a w := by
 obtain ⟨cs, hf⟩ := h;obtain ⟨⟨A', c', h2, h4, h5⟩, _⟩ := hf w (Touch.refl _ _);cases h2
 have h3 : ∀ u ∈ [Value.int .i64 n.kind, .string ⟨n.text.toArray⟩, .int .i64 n.cols, sl], u.oneCell' = true := by
  obtain ⟨_, _, rfl⟩ := htr.slice;simp [Value.oneCell']
 refine wpList_append_grows w hgd s x 33 ho 35 i z 4 56 rfl hi hz hsize hby hzs (by decide) A0 ks.length ks.length cs hs (fun e => ?_) h4 (fun b e j u hu => ?_) ad 1 1 _ hx rfl hsrc h3 (by omega) (by simp only [maxLen]; omega) (by omega) fun v' w' ho' hgr => ?_
 ·rcases h5 with ⟨_, h6, _⟩ | ⟨_, h6, _⟩
  ·exact ⟨h6, h6⟩
  ·rw [e] at h6; cases h6
 ·rcases h5 with ⟨h6, _⟩ | ⟨ad', h6, h7⟩
  ·rw [e] at h6; cases h6
  ·rw [e] at h6; cases h6; exact h7 j u hu
 ·obtain ⟨A, cp, rfl⟩ := own_slc ho'
  have hs : Saf D B0 none w ks cs := fun W' hW => (hf W' hW).2.1
  refine hK A cp w' ⟨_, by rw [List.length_append]; exact ownsRow_base ho' hB, hs.push hgr (fun k hk => .inr (owns_type ho' hk).1) htr hB1 (fun k hk => by cases hk) hD htx⟩ (Touch.grown (Touch.refl _ _) hgr fun k hk => by cases hk)
end
end Go.Proofs.YtomibmenojdieaaGreat
namespace Go.Proofs.YtomibmenojdieaaGreat
open Go.RowKit
open Tr (Nd)
open Np (R)
theorem infoNode20 : (Tryz.prog.info? 35).map (fun i => (i.zero, i.size, i.bytes)) = some (some (.agg #[.int .i64 0, .string ⟨#[]⟩, .int .i64 0, .slice none 0 0]), 4, 56) := by kernel_rfl
theorem toRow20_any (A : Option Addr) (n cap : Nat) (w : World) : Calls Tryz.prog 19 #[.slice A n cap] w fun e w' => e = .returned (.agg #[.int .i64 1, .string ⟨#[]⟩, .int .i64 0, .slice A n cap]) ∧ Fresh w w' := by
 go_enter Tryz.func19, Tryz.ntmps19;go_wp2_with fail
 exact bodyPost_ret (v := .agg #[.int .i64 1, .string ⟨#[]⟩, .int .i64 0, .slice A n cap]) (by simp [results, Tryz.results19, go_sem]) rfl ⟨rfl, (Touch.refl _ _).alloc _⟩
theorem validItems_any (ks : List Nd) (A : Option Addr) (cap : Nat) (w : World) (hr : RepL w ks (.slice A ks.length cap)) (hc : Tr.countL ks ≤ 100000) :
  Calls Tryz.prog 17 #[.slice A ks.length cap] w fun e w' => e = .returned (.bool (Tr.valid (Np.slot ks))) ∧ Fresh w w' := by
 have HR := hid hr;have HC := hid (show Tr.count (Np.slot ks) ≤ 1000000 by unfold Np.slot; rw [Tr.count]; omega);clear hr hc;go_enter Tryz.func17, Tryz.ntmps17;go_wp2_with fail
 refine (toRow20_any _ _ _ _).mono ?_;rintro _ w1 ⟨rfl, hf1⟩;have HF1 := hid hf1;clear hf1;go_wp2_with fail
 refine (rValid_any (Np.slot ks) _ _ (HR.out.fresh HF1.out) (Nat.zero_le _) HC.out).mono ?_;rintro _ w2 ⟨rfl, hf2⟩;have HF2 := hid (HF1.out.trans hf2);clear hf2;go_wp2_with fail
 go_ret;exact ⟨rfl, HF2.out⟩
theorem sameItems_any (ks ls : List Nd) (v1 v2 : Value) (w : World) (h1 : RepL w ks v1) (h2 : RepL w ls v2) :
  Calls Tryz.prog 18 #[v1, v2] w fun e w' => e = .returned (.bool (Tr.eqL ks ls)) ∧ Fresh w w' :=
 same_step ks ls v1 v2 w h1 h2 fun x _ y sx sy w' hx hy => equal_any _ x y sx sy w' (Nat.le_refl _) hx hy
def Sq (w3 W : World) (e : TypeId) (size : Nat) (v : Value) (n : Nat) (cs : List Value) : Prop := Fresh w3 W ∧ W.ownsRow w3.heap.size e size v n cs
section
variable {w3 W W' : World} {e : TypeId} {size n m : Nat} {v v' : Value} {cs ds : List Value}
theorem sq_empty {g : Nat} (h : Blk W g e #[]) (hB : w3.heap.size ≤ g) : W.ownsRow w3.heap.size e size (.slice (some ⟨g, 0, none⟩) 0 0) 0 [] :=
 ⟨by simp, .inr ⟨g, 0, #[], rfl, hB, h, Nat.le_refl _, by unfold maxLen; omega, by simp, by simp⟩⟩
theorem Sq.e1 (w3 : World) (e : TypeId) (size : Nat) : Sq w3 ((w3.alloc (.cells #[] e)).drew) e size (.slice (some ⟨w3.heap.size, 0, none⟩) 0 0) 0 [] := ⟨((Touch.refl _ _).alloc _).drew, sq_empty (W := (w3.alloc (.cells #[] e)).drew) (Blk.new w3 e #[]) (Nat.le_refl _)⟩
theorem sq_e0 (w3 : World) (n : Nat) (e : TypeId) (size : Nat) : Sq w3 ((w3.drewN n).alloc (.cells #[] e)) e size (.slice (some ⟨w3.heap.size, 0, none⟩) 0 0) 0 [] := ⟨((Touch.refl _ _).drewN n).alloc _, sq_empty (W := (w3.drewN n).alloc (.cells #[] e)) (Blk.new (w3.drewN n) e #[]) (Nat.le_refl _)⟩
theorem Sq.append (h : Sq w3 W e size v n cs) (ho : W'.ownsRow w3.heap.size e size v' m ds) (hg : W.grownBy W' v.ownBlock) : Sq w3 W' e size v' m ds := ⟨h.1.grown hg fun g hg => .inr (h.2.lt g hg).1, ho⟩
theorem Sq.cell (h : Sq w3 W e size v n cs) {p : Addr} {u : Value} (hc : w3.cell? p = some u) : W.cell? p = some u := h.1.cell hc (fun h => h)
theorem Sq.slice (h : Sq w3 W e size v n cs) : ∃ A c, v = .slice A n c := by
 rcases h.2.2 with ⟨h1, h2⟩ | ⟨g, cap, cur, h1, _⟩
 ·exact ⟨none, 0, by rw [h1, h2]⟩
 ·exact ⟨_, _, h1⟩
end
theorem RepL.src20 {W : World} {ks : List Nd} {v : Value} (h : RepL W ks v) : ∃ cs, NodesAt W ks cs ∧ Src W 4 v ks.length cs := by
 obtain ⟨A, cap, rfl⟩ := h.slice;obtain ⟨_, cs, hc, hA⟩ := h.cells;refine ⟨cs, hc, A, cap, rfl, hc.length, ?_⟩
 rcases hA with rfl | ⟨g, o, rfl, _, hx⟩
 ·have h0 : cs = [] := hc
  cases A with
  | none => exact .inl ⟨rfl, rfl, h0⟩
  | some ad => exact .inr ⟨ad, rfl, fun j u hu => by rw [h0] at hu; simp at hu⟩
 ·exact .inr ⟨_, rfl, fun j u hu => by rw [Addr.add_mid]; exact hx j u hu⟩
theorem join_rep {w3 W : World} {ks ms : List Nd} {v : Value} {csa csb : List Value} (h : Sq w3 W 35 4 v (ks.length + ms.length) (csa ++ csb)) (na : NodesAt w3 ks csa) (nb : NodesAt w3 ms csb) : RepL W (ks ++ ms) v := by
 have ho := h.2;rw [← List.length_append] at ho;exact ((na.append nb).fresh h.1).own ho
theorem countL_app20 (l m : List Nd) : Tr.countL (l ++ m) = Tr.countL l + Tr.countL m := by
 induction l with
 | nil => simp [Tr.countL]
 | cons x l ih => rw [List.cons_append, Tr.countL, Tr.countL, ih]; omega
theorem eqL_self (l : List Nd) : Tr.eqL l l = true := by
 have h := (Tr.eqN_iff (Np.slot l) (Np.slot l)).2 rfl;unfold Np.slot at h;rw [Tr.eqN, Bool.and_eq_true] at h;exact h.2
end Go.Proofs.YtomibmenojdieaaGreat
