/- Part 24 of 42 of a proof; its texts, joined: NyI, NmD. No condition. -/
import Derived.Test.YtomibmenojdieaaGreatXx23
import Derived.Test.YtomibmenojdieaaGreatXx18
import Derived.Test.YtomibmenojdieaaGreatXx7
set_option maxRecDepth 100000
set_option maxHeartbeats 400000
namespace Go.Proofs.YtomibmenojdieaaGreat
open Go.RowKit
open Tr (Nd)
open Lx (PTok)
open Mcr (R pRow pIn pScript pItem pPrim pArgs pName pCells pArg)
attribute [local go_sem] stillV stillUpon
theorem R.map_out {α β : Type} {f : α → β} {r : R α} (h : r.map f ≠ .out) : r ≠ .out := fun e => h (by rw [e]; rfl)
def FractionN (c : Cf) (f : Nat) : Prop := ∀ (k : Kp) (op : List Nat) (w : World), Ps c k op w → op.length ≤ k.p → k.p < c.T.length → pArgs c.E f 2 op (c.at k.up) ≠ .out →
 Calls Tryz.prog 42 #[pp0 c] w (ItemsE c k op ((pArgs c.E f 2 op (c.at k.up)).map fun ks => [.mk 5 [] 0 ks]) w)
theorem fraction_n (c : Cf) (hc : c.Good) (f : Nat) (hwith : WithN c f 2) : FractionN c f := by
 intro k op w h hop hk hne;have htl := hc.tl;have hk4 : k.p ≤ 100000 := by omega
 have HW := hid hwith;have H := hid h;have HOP := hid hop;have HNE := hid hne;have HW0 := hid h.low.size;have HK := hid hk;have hgl : c.g < w.heap.size := h.glt;obtain ⟨ov, hb, _⟩ := h.box;have q1 := hb.cell 1;have z1 := hb.frozen 1;clear hb h hne hwith hc hop;refine Calls.via fun Q hQ => ?_
 have HQ := hid hQ;clear hQ;unfold pp0;have e1 : ((k.p : Int) + 1) = ((k.p + 1 : Nat) : Int) := by simp
 have HE := hid e1;clear e1;go_enter Tryz.func42, Tryz.ntmps42;go_wp2_with fail
 have hn := H.out.next hk ((k.p : Int) + 1) HE.out;have hs : (w.setCell ⟨c.g, 1, none⟩ (.int .i64 ((k.p : Int) + 1))).heap.size = w.heap.size := by simp
 generalize (w.setCell ⟨c.g, 1, none⟩ (.int .i64 ((k.p : Int) + 1))) = W1 at hn hs ⊢;have hbf : Blk (W1.alloc (.cells #[.int .i64 0, .int .i64 0] 48)) W1.heap.size 48 #[.int .i64 0, .int .i64 0] := Blk.new _ _ _;have hp2 := hn.1.fresh ((Touch.refl _ _).alloc (.cells #[.int .i64 0, .int .i64 0] 48));have hm2 := hn.2.trans (Mp.fresh ((Touch.refl _ W1).alloc (.cells #[.int .i64 0, .int .i64 0] 48)));have hs2 : (W1.alloc (.cells #[.int .i64 0, .int .i64 0] 48)).heap.size = w.heap.size + 1 := by simp [hs]
 rw [hs] at hbf;generalize (W1.alloc (.cells #[.int .i64 0, .int .i64 0] 48)) = W2 at hbf hp2 hm2 hs2 ⊢
 (try rw [hs])
 have HP2 := hid hp2;have HM2 := hid hm2;have HS2 := hid hs2;have HBF := hid hbf;clear hn hs hbf hp2 hm2 q1 z1 hs2;refine (HW.out k.up op 5 [] [] none w.heap.size W2 HP2.out (by have := HOP.out; (try simp only [Kp.up_p] at this ⊢); omega) (by simp [maxLen]) (by simp) (by have := HS2.out; omega) (.nil _ _) HNE.out).mono ?_;intro e w3 hres;generalize pArgs c.E f 2 op (c.at k.up) = r at HNE HQ hres;cases r with
 | out => exact absurd rfl HNE.out
 | err i er =>
  obtain ⟨he0, A, n, cp, rfl, hm⟩ := hres;have HM3 := hid (HM2.out.trans hm);have HBF3 := hid (hm.blk HBF.out (by omega) (by decide));have HE0 := hid he0;clear hm he0;obtain ⟨q0, q1, z0, z1, hlt3⟩ := Blk.two HBF3.out;unfold failV;go_wp2_with fail
  have n1 := HBF3.out.self2 (.int .i64 (i : Int)) (.int .i64 (er : Int));have hm4 : Mp c.g c.W0.heap.size w (put2 w3 w.heap.size (.int .i64 (i : Int)) (.int .i64 (er : Int))) := HM3.out.put2 (g := w.heap.size) (.inr (Nat.le_refl _)) (.int .i64 (i : Int)) (.int .i64 (er : Int));have ht4 := touch2 w3 w.heap.size (.int .i64 (i : Int)) (.int .i64 (er : Int));simp only [put2] at n1 hm4 ht4;generalize (World.setCell (World.setCell w3 ⟨w.heap.size, 0, none⟩ _) ⟨w.heap.size, 1, none⟩ _) = W4 at n1 hm4 ht4 ⊢;obtain ⟨f0, f1, _⟩ := Blk.two n1
  (try simp only [Exit.inBlock, Exit.then])
  refine bodyPost_ret (v := .tuple #[.slice A n cp, failV i er]) (by simp [failV, results, Tryz.results42, go_sem, f0, f1]) rfl ?_;exact HQ.out _ _ ⟨HE0.out, A, n, cp, rfl, hm4⟩
 | ok ks rest =>
  obtain ⟨b, k', rfl, htr, hdr, hkk, hp, hm⟩ := hres;have HM3 := hid (HM2.out.trans hm);have HBF3 := hid (hm.blk HBF.out (by omega) (by decide));have HTR := hid htr;have HDR := hid hdr;have HKK := hid hkk;have HP3 := hid hp;clear hm htr hdr hkk hp;obtain ⟨q0, q1, z0, z1, hlt3⟩ := Blk.two HBF3.out;unfold failV;go_wp2_with fail
  have n1 := HBF3.out.self2 (.int .i64 0) (.int .i64 0);have hm4 : Mp c.g c.W0.heap.size w (put2 w3 w.heap.size (.int .i64 0) (.int .i64 0)) := HM3.out.put2 (g := w.heap.size) (.inr (Nat.le_refl _)) (.int .i64 0) (.int .i64 0);have ht4 := touch2 w3 w.heap.size (.int .i64 0) (.int .i64 0);simp only [put2] at n1 hm4 ht4;generalize (World.setCell (World.setCell w3 ⟨w.heap.size, 0, none⟩ _) ⟨w.heap.size, 1, none⟩ _) = W4 at n1 hm4 ht4 ⊢;obtain ⟨f0, f1, _⟩ := Blk.two n1
  (try simp only [Exit.inBlock, Exit.then])
  refine bodyPost_ret (v := .tuple #[.slice (some ⟨b, 0, none⟩) 1 1, failV 0 0]) (by simp [failV, results, Tryz.results42, go_sem, f0, f1]) rfl ?_;have hps := HP3.out.mv ht4 (fun b hb => by have := HW0.out; subst hb; exact ⟨by omega, by omega, _, _, (by decide), HBF3.out⟩);exact HQ.out _ _ ⟨_, 1, k', rfl, HTR.out.other HBF3.out (by decide) ht4, HDR.out, by have := HKK.out; (try simp only [Kp.up_p] at this ⊢); omega, hps, hm4⟩
def AccentN (c : Cf) (f : Nat) : Prop := ∀ (k : Kp) (op : List Nat) (t : PTok) (r : List PTok) (w : World), Ps c k op w → op.length ≤ k.p → (c.at k).l = t :: r → pArgs c.E f 1 op (c.at k.up) ≠ .out →
 Calls Tryz.prog 45 #[pp0 c] w (ItemsE c k op ((pArgs c.E f 1 op (c.at k.up)).map fun ks => [.mk 10 t.text 0 ks]) w)
theorem accent_n (c : Cf) (hc : c.Good) (f : Nat) (hwith : WithN c f 1) : AccentN c f := by
 intro k op t r w h hop hl hne;have htl := hc.tl;have hk := drop_lt (c := c) (k := k) (by rw [hl]; exact List.cons_ne_nil _ _);have hk4 : k.p ≤ 100000 := by omega
 have HT := hid (fun (w' : World) (hf : Fresh w w') => tok_any_n c hc k op w' (h.fresh hf));have htx := hc.txt t (List.mem_of_mem_drop (i := k.p) (by rw [← Cf.at_l, hl]; simp));have HTX := hid htx;rw [hl] at HT;unfold tokV at HT;clear hl htx;have HW := hid hwith;have H := hid h;have HOP := hid hop;have HNE := hid hne;have HW0 := hid h.low.size;have HK := hid hk;have hgl : c.g < w.heap.size := h.glt;obtain ⟨ov, hb, _⟩ := h.box;have HB := hid hb;have q1 := hb.cell 1;have z1 := hb.frozen 1;clear hb h hne hwith hc hop;refine Calls.via fun Q hQ => ?_
 have HQ := hid hQ;clear hQ;unfold pp0;have e1 : ((k.p : Int) + 1) = ((k.p + 1 : Nat) : Int) := by simp
 have HE := hid e1;clear e1;go_enter Tryz.func45, Tryz.ntmps45;go_wp2_with fail
 refine (HT.out _ ((Touch.refl _ _).alloc _)).mono ?_;rintro _ w1 ⟨rfl, hf⟩;have hf1 : Fresh w w1 := (((Touch.refl _ _).alloc _).trans hf);have hb1 := hf1.blk HB.out (fun h => h);have hbf1 : Blk w1 w.heap.size 48 #[.int .i64 0, .int .i64 0] := hf.blk (Blk.new _ _ _) (fun h => h);clear hf q1 z1;have q1 := hb1.cell 1;have z1 := hb1.frozen 1;have hg1 := hb1.lt;have HF1 := hid hf1;have HBF1 := hid hbf1;clear hf1 hb1 hbf1;have r1 := field_tok1 (.int .i64 (t.kind : Int)) (.string ⟨t.text.toArray⟩) (.int .i64 (t.from_ : Int)) (.int .i64 (t.to_ : Int)) w1;go_wp2_with fail
 clear r1;have hp1 := H.out.fresh HF1.out;have hn := hp1.next hk ((k.p : Int) + 1) HE.out;have hs2 : (w1.setCell ⟨c.g, 1, none⟩ (.int .i64 ((k.p : Int) + 1))).heap.size = w1.heap.size := by simp
 have hbf := HBF1.out.far (p := ⟨c.g, 1, none⟩) (by simp; omega) (.int .i64 ((k.p : Int) + 1));generalize (w1.setCell ⟨c.g, 1, none⟩ (.int .i64 ((k.p : Int) + 1))) = W2 at hn hbf hs2 ⊢;have HP2 := hid hn.1;have HM2 := hid ((Mp.fresh HF1.out).trans hn.2);have HS2 := hid (show w.heap.size < W2.heap.size from hbf.lt);have HBF := hid hbf;clear hn hbf hp1 q1 z1 hs2 hg1;refine (HW.out k.up op 10 t.text [] none w.heap.size W2 HP2.out (by have := HOP.out; (try simp only [Kp.up_p] at this ⊢); omega) HTX.out (by simp) (by have := HS2.out; omega) (.nil _ _) HNE.out).mono ?_;intro e w3 hres;generalize pArgs c.E f 1 op (c.at k.up) = r at HNE HQ hres;cases r with
 | out => exact absurd rfl HNE.out
 | err i er =>
  obtain ⟨he0, A, n, cp, rfl, hm⟩ := hres;have HM3 := hid (HM2.out.trans hm);have HBF3 := hid (hm.blk HBF.out (by omega) (by decide));have HE0 := hid he0;clear hm he0;obtain ⟨q0, q1, z0, z1, hlt3⟩ := Blk.two HBF3.out;unfold failV;go_wp2_with fail
  have n1 := HBF3.out.self2 (.int .i64 (i : Int)) (.int .i64 (er : Int));have hm4 : Mp c.g c.W0.heap.size w (put2 w3 w.heap.size (.int .i64 (i : Int)) (.int .i64 (er : Int))) := HM3.out.put2 (g := w.heap.size) (.inr (Nat.le_refl _)) (.int .i64 (i : Int)) (.int .i64 (er : Int));have ht4 := touch2 w3 w.heap.size (.int .i64 (i : Int)) (.int .i64 (er : Int));simp only [put2] at n1 hm4 ht4;generalize (World.setCell (World.setCell w3 ⟨w.heap.size, 0, none⟩ _) ⟨w.heap.size, 1, none⟩ _) = W4 at n1 hm4 ht4 ⊢;obtain ⟨f0, f1, _⟩ := Blk.two n1
  (try simp only [Exit.inBlock, Exit.then])
  refine bodyPost_ret (v := .tuple #[.slice A n cp, failV i er]) (by simp [failV, results, Tryz.results45, go_sem, f0, f1]) rfl ?_;exact HQ.out _ _ ⟨HE0.out, A, n, cp, rfl, hm4⟩
 | ok ks rest =>
  obtain ⟨b, k', rfl, htr, hdr, hkk, hp, hm⟩ := hres;have HM3 := hid (HM2.out.trans hm);have HBF3 := hid (hm.blk HBF.out (by omega) (by decide));have HTR := hid htr;have HDR := hid hdr;have HKK := hid hkk;have HP3 := hid hp;clear hm htr hdr hkk hp;obtain ⟨q0, q1, z0, z1, hlt3⟩ := Blk.two HBF3.out;unfold failV;go_wp2_with fail
  have n1 := HBF3.out.self2 (.int .i64 0) (.int .i64 0);have hm4 : Mp c.g c.W0.heap.size w (put2 w3 w.heap.size (.int .i64 0) (.int .i64 0)) := HM3.out.put2 (g := w.heap.size) (.inr (Nat.le_refl _)) (.int .i64 0) (.int .i64 0);have ht4 := touch2 w3 w.heap.size (.int .i64 0) (.int .i64 0);simp only [put2] at n1 hm4 ht4;generalize (World.setCell (World.setCell w3 ⟨w.heap.size, 0, none⟩ _) ⟨w.heap.size, 1, none⟩ _) = W4 at n1 hm4 ht4 ⊢;obtain ⟨f0, f1, _⟩ := Blk.two n1
  (try simp only [Exit.inBlock, Exit.then])
  refine bodyPost_ret (v := .tuple #[.slice (some ⟨b, 0, none⟩) 1 1, failV 0 0]) (by simp [failV, results, Tryz.results45, go_sem, f0, f1]) rfl ?_;have hps := HP3.out.mv ht4 (fun b hb => by have := HW0.out; subst hb; exact ⟨by omega, by omega, _, _, (by decide), HBF3.out⟩);exact HQ.out _ _ ⟨_, 1, k', rfl, HTR.out.other HBF3.out (by decide) ht4, HDR.out, by have := HKK.out; (try simp only [Kp.up_p] at this ⊢); omega, hps, hm4⟩
def rootR (c : Cf) (f : Nat) (op : List Nat) (r : Mcr.St) : R (List Nd) :=
 if Np.isM 91 r.l then (pIn c.E f 93 op r).bind fun d r' => (pArgs c.E f 1 op r').map fun ks => [.mk 6 [] 0 (Np.slot d :: ks)] else (pArgs c.E f 1 op r).map fun ks => [.mk 6 [] 0 (Np.slot [] :: ks)]
def RootN (c : Cf) (f : Nat) : Prop := ∀ (k : Kp) (op : List Nat) (w : World), Ps c k op w → op.length ≤ k.p → k.p < c.T.length → rootR c f op (c.at k.up) ≠ .out →
 Calls Tryz.prog 43 #[pp0 c] w (ItemsE c k op (rootR c f op (c.at k.up)) w)
theorem root_n (c : Cf) (hc : c.Good) (f : Nat) (hwith : WithN c f 1) (henc : EnclosedN c f) : RootN c f := by
 intro k op w h hop hk hne;have htl := hc.tl;have hk4 : k.p ≤ 100000 := by omega
 have HAT := hid (fun (w' : World) (hp : Ps c k.up op w') => at_any_n c hc k.up op 91 w' hp);have HENC := hid henc;have HW := hid hwith;have H := hid h;have HOP := hid hop;have HNE := hid hne;have HW0 := hid h.low.size;have HK := hid hk;have hgl : c.g < w.heap.size := h.glt;obtain ⟨ov, hb, _⟩ := h.box;have q1 := hb.cell 1;have z1 := hb.frozen 1;clear hb h hne hwith hc hop;refine Calls.via fun Q hQ => ?_
 have HQ := hid hQ;clear hQ;unfold pp0;have e1 : ((k.p : Int) + 1) = ((k.p + 1 : Nat) : Int) := by simp
 have HE := hid e1;clear e1;go_enter Tryz.func43, Tryz.ntmps43;go_wp2_with fail
 have hn := H.out.next hk ((k.p : Int) + 1) HE.out;have hs : (w.setCell ⟨c.g, 1, none⟩ (.int .i64 ((k.p : Int) + 1))).heap.size = w.heap.size := by simp
 generalize (w.setCell ⟨c.g, 1, none⟩ (.int .i64 ((k.p : Int) + 1))) = W1 at hn hs ⊢;have hbf : Blk (W1.alloc (.cells #[.int .i64 0, .int .i64 0] 48)) W1.heap.size 48 #[.int .i64 0, .int .i64 0] := Blk.new _ _ _;have hp2 := hn.1.fresh ((Touch.refl _ _).alloc (.cells #[.int .i64 0, .int .i64 0] 48));have hm2 := hn.2.trans (Mp.fresh ((Touch.refl _ W1).alloc (.cells #[.int .i64 0, .int .i64 0] 48)));have hs2 : (W1.alloc (.cells #[.int .i64 0, .int .i64 0] 48)).heap.size = w.heap.size + 1 := by simp [hs]
 rw [hs] at hbf;generalize (W1.alloc (.cells #[.int .i64 0, .int .i64 0] 48)) = W2 at hbf hp2 hm2 hs2 ⊢
 (try rw [hs])
 have HP2 := hid hp2;have HM2 := hid hm2;have HS2 := hid hs2;have HBF := hid hbf;clear hn hs hbf hp2 hm2 q1 z1 hs2;refine (HAT.out _ HP2.out).mono ?_;rintro _ w1 ⟨rfl, hf⟩;have HF1 := hid hf;clear hf;unfold rootR at HNE HQ;cases hat : Np.isM 91 (c.at k.up).l with
 | false =>
  rw [hat, if_neg Bool.false_ne_true] at HNE HQ;clear hat;have HNE := hid (R.map_out HNE.out);go_wp2_with fail
  refine (slot_any_n none (0) 0 _).mono ?_;rintro _ w4 ⟨rfl, hf4⟩;have hff := (HF1.out.trans hf4).alloc (.cells #[.int .i64 1, .string ⟨#[]⟩, .int .i64 0, .slice none 0 0] 35);have hlit : TreT w.heap.size (w4.alloc (.cells #[.int .i64 1, .string ⟨#[]⟩, .int .i64 0, .slice none 0 0] 35)) [Np.slot []] (.slice (some ⟨w4.heap.size, 0, none⟩) 1 1) := TreT.lit (n := Np.slot []) (TreT.nil _ _) (by have := (HF1.out.trans hf4).size; have := HS2.out; omega) (by simp [Np.slot, maxLen, Nd.text]);go_wp2_with fail
  generalize (w4.alloc (.cells #[.int .i64 1, .string ⟨#[]⟩, .int .i64 0, .slice none 0 0] 35)) = W5 at hff hlit ⊢;generalize w4.heap.size = b4 at hlit ⊢;have HP2' := hid (HP2.out.fresh hff);have HM2' := hid (HM2.out.trans (Mp.fresh hff));have hbf5 := hff.blk HBF.out (fun h => h);have HBF' := hid hbf5;have HS2' := hid (show w.heap.size < W5.heap.size from hbf5.lt);have HLIT := hid hlit;clear hff hlit hbf5 HP2 HM2 HBF HS2 hf4;have HP2 := HP2';have HM2 := HM2';have HBF := HBF';have HS2 := HS2';clear HP2' HM2' HBF' HS2';refine (HW.out k.up op 6 [] [Np.slot []] (some ⟨b4, 0, none⟩) w.heap.size W5 HP2.out (by have := HOP.out; (try simp only [Kp.up_p] at this ⊢); omega) (by simp [maxLen]) (by simp) (by have := HS2.out; omega) HLIT.out HNE.out).mono ?_;intro e w3 hres;generalize pArgs c.E f 1 op (c.at k.up) = r at HNE HQ hres;cases r with
  | out => exact absurd rfl HNE.out
  | err i er =>
   obtain ⟨he0, A, n, cp, rfl, hm⟩ := hres;have HM3 := hid (HM2.out.trans hm);have HBF3 := hid (hm.blk HBF.out (by omega) (by decide));have HE0 := hid he0;clear hm he0;obtain ⟨q0, q1, z0, z1, hlt3⟩ := Blk.two HBF3.out;unfold failV;go_wp2_with fail
   have n1 := HBF3.out.self2 (.int .i64 (i : Int)) (.int .i64 (er : Int));have hm4 : Mp c.g c.W0.heap.size w (put2 w3 w.heap.size (.int .i64 (i : Int)) (.int .i64 (er : Int))) := HM3.out.put2 (g := w.heap.size) (.inr (Nat.le_refl _)) (.int .i64 (i : Int)) (.int .i64 (er : Int));have ht4 := touch2 w3 w.heap.size (.int .i64 (i : Int)) (.int .i64 (er : Int));simp only [put2] at n1 hm4 ht4;generalize (World.setCell (World.setCell w3 ⟨w.heap.size, 0, none⟩ _) ⟨w.heap.size, 1, none⟩ _) = W4 at n1 hm4 ht4 ⊢;obtain ⟨f0, f1, _⟩ := Blk.two n1
   (try simp only [Exit.inBlock, Exit.then])
   refine bodyPost_ret (v := .tuple #[.slice A n cp, failV i er]) (by simp [failV, results, Tryz.results43, go_sem, f0, f1]) rfl ?_;exact HQ.out _ _ ⟨HE0.out, A, n, cp, rfl, hm4⟩
  | ok ks rest =>
   obtain ⟨b, k', rfl, htr, hdr, hkk, hp, hm⟩ := hres;have HM3 := hid (HM2.out.trans hm);have HBF3 := hid (hm.blk HBF.out (by omega) (by decide));have HTR := hid htr;have HDR := hid hdr;have HKK := hid hkk;have HP3 := hid hp;clear hm htr hdr hkk hp;obtain ⟨q0, q1, z0, z1, hlt3⟩ := Blk.two HBF3.out;unfold failV;go_wp2_with fail
   have n1 := HBF3.out.self2 (.int .i64 0) (.int .i64 0);have hm4 : Mp c.g c.W0.heap.size w (put2 w3 w.heap.size (.int .i64 0) (.int .i64 0)) := HM3.out.put2 (g := w.heap.size) (.inr (Nat.le_refl _)) (.int .i64 0) (.int .i64 0);have ht4 := touch2 w3 w.heap.size (.int .i64 0) (.int .i64 0);simp only [put2] at n1 hm4 ht4;generalize (World.setCell (World.setCell w3 ⟨w.heap.size, 0, none⟩ _) ⟨w.heap.size, 1, none⟩ _) = W4 at n1 hm4 ht4 ⊢;obtain ⟨f0, f1, _⟩ := Blk.two n1
   (try simp only [Exit.inBlock, Exit.then])
   refine bodyPost_ret (v := .tuple #[.slice (some ⟨b, 0, none⟩) 1 1, failV 0 0]) (by simp [failV, results, Tryz.results43, go_sem, f0, f1]) rfl ?_;have hps := HP3.out.mv ht4 (fun b hb => by have := HW0.out; subst hb; exact ⟨by omega, by omega, _, _, (by decide), HBF3.out⟩);exact HQ.out _ _ ⟨_, 1, k', rfl, HTR.out.other HBF3.out (by decide) ht4, HDR.out, by have := HKK.out; (try simp only [Kp.up_p] at this ⊢); omega, hps, hm4⟩
 | true =>
  have HLT := hid (isM_lt hat);rw [hat, if_pos rfl] at HNE HQ;clear hat;go_wp2_with fail
  have hf5 := HF1.out.alloc (.cells #[.int .i64 0, .int .i64 0] 48);have hb5 := hf5.blk HBF.out (fun h => h);have hx5 := Blk.new w1 48 #[.int .i64 0, .int .i64 0];have hz5 : (w1.alloc (.cells #[.int .i64 0, .int .i64 0] 48)).heap.size = w1.heap.size + 1 := by simp
  generalize (w1.alloc (.cells #[.int .i64 0, .int .i64 0] 48)) = W5 at hf5 hb5 hx5 hz5 ⊢;have HSX := hid (show w.heap.size < w1.heap.size from by have := HF1.out.size; have := HS2.out; omega);have HP5 := hid (HP2.out.fresh hf5);have HM5 := hid (HM2.out.trans (Mp.fresh hf5));have HB5 := hid hb5;have HX5 := hid hx5;clear hf5 hb5 hx5;refine (HENC.out k.up op 93 W5 HP5.out (by have := HOP.out; (try simp only [Kp.up_p] at this ⊢); omega) HLT.out (fun h => HNE.out (by rw [h]; rfl))).mono ?_;intro e w3 hres;generalize pIn c.E f 93 op (c.at k.up) = X at HNE HQ hres;cases X with
  | out => exact absurd rfl HNE.out
  | err i er =>
   obtain ⟨he0, A, n, cp, rfl, hm⟩ := hres;have HE0 := hid he0;have e0 := fail_ne he0;have HM6 := hid (HM5.out.trans hm);have HB6 := hid (hm.blk HB5.out (by omega) (by decide));have HX6 := hid (hm.blk HX5.out (by have := HSX.out; omega) (by decide));obtain ⟨q0, q1, z0, z1, hlt3⟩ := Blk.two HX6.out;clear hm he0;unfold failV;go_wp2_with fail
   have hne : w.heap.size ≠ w1.heap.size := by have := HSX.out; omega
   have hbe := HX6.out.self2 (.int .i64 (i : Int)) (.int .i64 (er : Int));have hbr := HB6.out.far2 hne (.int .i64 (i : Int)) (.int .i64 (er : Int));have hmr : Mp c.g c.W0.heap.size w (put2 w3 w1.heap.size (.int .i64 (i : Int)) (.int .i64 (er : Int))) := HM6.out.put2 (g := w1.heap.size) (.inr (by have := HSX.out; omega)) (.int .i64 (i : Int)) (.int .i64 (er : Int));clear q0 q1 z0 z1 hlt3;simp only [put2] at hbe hbr hmr;generalize (World.setCell (World.setCell w3 ⟨w1.heap.size, 0, none⟩ _) ⟨w1.heap.size, 1, none⟩ _) = W3 at hbe hbr hmr ⊢;have r0 := cR (hbe.cell 0 |>.trans rfl);have r1 := cR (hbe.cell 1 |>.trans rfl);have hlt3 := hbe.lt;have HBR := hid hbr;have HMR := hid hmr;clear hbe hbr hmr;refine wp_region_mix [([(0, true), (1, true)], 2)] [] (by kernel_rfl) (fun _ _ d _ _ h => by cases d <;> exact h) (by kernel_rfl) ?_;refine wpMix_seg ?_
   repeat (refine wpSeq_plain rfl (fun K hK => ?_); go_simp; refine hK _ ?_; clear hK K)
   obtain ⟨p0, p1, y0, y1, hlt⟩ := Blk.two (HBR.out.drewN 1);refine wpSeq_shut rfl (fun K hK => ?_);go_wp2_with fail
   refine wpMix_end ?_;go_wp2_with fail
   have hb5 : Blk _ (w.heap.size) 48 #[.int .i64 (i : Int), .int .i64 (er : Int)] := ((HBR.out.drewN 1).put 0 (.int .i64 (i : Int))).put 1 (.int .i64 (er : Int));have hm5 := ((HMR.out.drewN 1).setCell (p := ⟨w.heap.size, 0, none⟩) (.inr (by show w.heap.size ≤ w.heap.size; omega)) (.int .i64 (i : Int))).setCell (p := ⟨w.heap.size, 1, none⟩) (.inr (by show w.heap.size ≤ w.heap.size; omega)) (.int .i64 (er : Int));obtain ⟨f0, f1, _⟩ := Blk.two hb5
   (try simp only [Exit.inBlock, Exit.then])
   refine bodyPost_ret (v := .tuple #[.slice none 0 0, failV i er]) (by simp [failV, results, Tryz.results43, go_sem, f0, f1]) rfl ?_;exact HQ.out _ _ ⟨HE0.out, none, 0, 0, rfl, hm5⟩
  | ok d rest =>
   obtain ⟨A, cp, k2, rfl, htr, rfl, hkk, hp, hm⟩ := hres;have HTR6 := hid htr;have HKK6 := hid hkk;have HP6 := hid hp;have HM6 := hid (HM5.out.trans hm);have HB6 := hid (hm.blk HB5.out (by omega) (by decide));have HX6 := hid (hm.blk HX5.out (by have := HSX.out; omega) (by decide));obtain ⟨q0, q1, z0, z1, hlt3⟩ := Blk.two HX6.out;have HZ6 := hid (show w.heap.size < W5.heap.size from by have := HSX.out; omega);clear hm htr hkk hp;unfold failV;go_wp2_with fail
   have hne : w.heap.size ≠ w1.heap.size := by have := HSX.out; omega
   have hw6 := touch2 w3 w1.heap.size (.int .i64 0) (.int .i64 0);have hb7 := HB6.out.far2 hne (.int .i64 0) (.int .i64 0);have hp7 := HP6.out.mv hw6 (fun b hb => by have := HSX.out; have := HW0.out; subst hb; exact ⟨by omega, by omega, _, _, (by decide), HX6.out⟩);have hm7 : Mp c.g c.W0.heap.size w (put2 w3 w1.heap.size (.int .i64 0) (.int .i64 0)) := HM6.out.put2 (g := w1.heap.size) (.inr (by have := HSX.out; omega)) (.int .i64 0) (.int .i64 0);have ht7 := (HTR6.out.base (Nat.le_of_lt HZ6.out)).other HX6.out (by decide) hw6;clear q0 q1 z0 z1 hlt3;simp only [put2] at hw6 hb7 hp7 hm7 ht7;generalize (World.setCell (World.setCell w3 ⟨w1.heap.size, 0, none⟩ _) ⟨w1.heap.size, 1, none⟩ _) = W2' at hw6 hb7 hp7 hm7 ht7 ⊢;clear HP2 HM2 HBF HS2;have HP2 := hid hp7;have HM2 := hid hm7;have HBF := hid hb7;have HS2 := hid (show W2'.heap.size ≥ w.heap.size + 1 from by have := hb7.lt; omega);have HT7 := hid ht7;clear hw6 hb7 hp7 hm7 ht7;have HNE := hid (show pArgs c.E f 1 op (c.at k2) ≠ .out from R.map_out HNE.out);have HQ := hid (show ∀ e w', ItemsE c k op ((pArgs c.E f 1 op (c.at k2)).map fun ks => [.mk 6 [] 0 (Np.slot d :: ks)]) w e w' → Q e w' from HQ.out);refine (slot_any_n A (d.length) cp _).mono ?_;rintro _ w4 ⟨rfl, hf4⟩;have hff := ((Touch.refl _ _ : Fresh W2' W2').trans hf4).alloc (.cells #[.int .i64 1, .string ⟨#[]⟩, .int .i64 0, .slice A d.length cp] 35);have hlit : TreT w.heap.size (w4.alloc (.cells #[.int .i64 1, .string ⟨#[]⟩, .int .i64 0, .slice A d.length cp] 35)) [Np.slot d] (.slice (some ⟨w4.heap.size, 0, none⟩) 1 1) := TreT.lit (n := Np.slot d) (HT7.out.fresh ((Touch.refl _ _ : Fresh W2' W2').trans hf4)) (by have := ((Touch.refl _ _ : Fresh W2' W2').trans hf4).size; have := HS2.out; omega) (by simp [Np.slot, maxLen, Nd.text]);go_wp2_with fail
   generalize (w4.alloc (.cells #[.int .i64 1, .string ⟨#[]⟩, .int .i64 0, .slice A d.length cp] 35)) = W5 at hff hlit ⊢;generalize w4.heap.size = b4 at hlit ⊢;have HP2' := hid (HP2.out.fresh hff);have HM2' := hid (HM2.out.trans (Mp.fresh hff));have hbf5 := hff.blk HBF.out (fun h => h);have HBF' := hid hbf5;have HS2' := hid (show w.heap.size < W5.heap.size from hbf5.lt);have HLIT := hid hlit;clear hff hlit hbf5 HP2 HM2 HBF HS2 hf4;have HP2 := HP2';have HM2 := HM2';have HBF := HBF';have HS2 := HS2';clear HP2' HM2' HBF' HS2';refine (HW.out (k2) op 6 [] [Np.slot d] (some ⟨b4, 0, none⟩) w.heap.size W5 HP2.out (by have := HOP.out; have := HKK6.out; (try simp only [Kp.up_p] at *); omega) (by simp [maxLen]) (by simp) (by have := HS2.out; omega) HLIT.out HNE.out).mono ?_;intro e w3 hres;generalize pArgs c.E f 1 op (c.at k2) = r at HNE HQ hres;cases r with
   | out => exact absurd rfl HNE.out
   | err i er =>
    obtain ⟨he0, A, n, cp, rfl, hm⟩ := hres;have HM3 := hid (HM2.out.trans hm);have HBF3 := hid (hm.blk HBF.out (by omega) (by decide));have HE0 := hid he0;clear hm he0;obtain ⟨q0, q1, z0, z1, hlt3⟩ := Blk.two HBF3.out;unfold failV;go_wp2_with fail
    have n1 := HBF3.out.self2 (.int .i64 (i : Int)) (.int .i64 (er : Int));have hm4 : Mp c.g c.W0.heap.size w (put2 w3 w.heap.size (.int .i64 (i : Int)) (.int .i64 (er : Int))) := HM3.out.put2 (g := w.heap.size) (.inr (Nat.le_refl _)) (.int .i64 (i : Int)) (.int .i64 (er : Int));have ht4 := touch2 w3 w.heap.size (.int .i64 (i : Int)) (.int .i64 (er : Int));simp only [put2] at n1 hm4 ht4;generalize (World.setCell (World.setCell w3 ⟨w.heap.size, 0, none⟩ _) ⟨w.heap.size, 1, none⟩ _) = W4 at n1 hm4 ht4 ⊢;obtain ⟨f0, f1, _⟩ := Blk.two n1
    (try simp only [Exit.inBlock, Exit.then])
    refine bodyPost_ret (v := .tuple #[.slice A n cp, failV i er]) (by simp [failV, results, Tryz.results43, go_sem, f0, f1]) rfl ?_;exact HQ.out _ _ ⟨HE0.out, A, n, cp, rfl, hm4⟩
   | ok ks rest =>
    obtain ⟨b, k', rfl, htr, hdr, hkk, hp, hm⟩ := hres;have HM3 := hid (HM2.out.trans hm);have HBF3 := hid (hm.blk HBF.out (by omega) (by decide));have HTR := hid htr;have HDR := hid hdr;have HKK := hid hkk;have HP3 := hid hp;clear hm htr hdr hkk hp;obtain ⟨q0, q1, z0, z1, hlt3⟩ := Blk.two HBF3.out;unfold failV;go_wp2_with fail
    have n1 := HBF3.out.self2 (.int .i64 0) (.int .i64 0);have hm4 : Mp c.g c.W0.heap.size w (put2 w3 w.heap.size (.int .i64 0) (.int .i64 0)) := HM3.out.put2 (g := w.heap.size) (.inr (Nat.le_refl _)) (.int .i64 0) (.int .i64 0);have ht4 := touch2 w3 w.heap.size (.int .i64 0) (.int .i64 0);simp only [put2] at n1 hm4 ht4;generalize (World.setCell (World.setCell w3 ⟨w.heap.size, 0, none⟩ _) ⟨w.heap.size, 1, none⟩ _) = W4 at n1 hm4 ht4 ⊢;obtain ⟨f0, f1, _⟩ := Blk.two n1
    (try simp only [Exit.inBlock, Exit.then])
    refine bodyPost_ret (v := .tuple #[.slice (some ⟨b, 0, none⟩) 1 1, failV 0 0]) (by simp [failV, results, Tryz.results43, go_sem, f0, f1]) rfl ?_;have hps := HP3.out.mv ht4 (fun b hb => by have := HW0.out; subst hb; exact ⟨by omega, by omega, _, _, (by decide), HBF3.out⟩);exact HQ.out _ _ ⟨_, 1, k', rfl, HTR.out.other HBF3.out (by decide) ht4, HDR.out, by have := HKK.out; have := HKK6.out; (try simp only [Kp.up_p] at *); omega, hps, hm4⟩
end Go.Proofs.YtomibmenojdieaaGreat
namespace Go.Proofs.YtomibmenojdieaaGreat
open Go.RowKit
open Tr (Nd)
theorem Blk.inj {w : World} {g : Nat} {t u : TypeId} {cs ds : Array Value} (h : Blk w g t cs) (k : Blk w g u ds) : t = u ∧ cs = ds := by
 unfold Blk at h k;rw [h] at k;cases k;exact ⟨rfl, rfl⟩
def ItAt (w0 w : World) (x : Nd) (p : Addr) : Prop := p.spot = none ∧ w0.heap.size ≤ p.block ∧ p.block ≠ w0.heap.size + 1 ∧ ∃ cs A c, Blk w p.block 35 cs ∧ cs[p.off + 3]? = some (.slice A x.kids.length c) ∧ RepL w0 x.kids (.slice A x.kids.length c)
structure Cpy (w0 : World) (n : Nd) (w : World) (L : List (Nd × Addr)) : Prop where
 fr : Fresh w0 w
 box : ∃ A c, Blk w w0.heap.size 35 #[.int .i64 n.kind, .string ⟨n.text.toArray⟩, .int .i64 n.cols, .slice A n.kids.length c] ∧ TreX w0 (L.map Prod.snd) w ⟨w0.heap.size, 0, none⟩ n.kids (.slice A n.kids.length c)
 res : Blk w (w0.heap.size + 1) 35 #[.int .i64 0, .string ⟨#[]⟩, .int .i64 0, .slice none 0 0]
 it : ∀ x ∈ L, ItAt w0 w x.1 x.2
 ne : L.Pairwise fun x y => x.2 ≠ y.2
theorem ItAt.mv {w0 w w' : World} {x : Nd} {p : Addr} {S : Nat → Prop} (h : ItAt w0 w x p) (ht : Touch S w w') (hS : ∀ k, S k → ∀ cs fr, w.heap[k]? ≠ some (.cells cs 35 fr)) : ItAt w0 w' x p := by
 obtain ⟨h1, h2, hr, cs, A, c, h3, h4, h5⟩ := h;exact ⟨h1, h2, hr, cs, A, c, ht.blk h3 fun hs => hS _ hs _ _ h3, h4, h5⟩
theorem Cpy.mv {w0 w w' : World} {n : Nd} {L : List (Nd × Addr)} {S : Nat → Prop} (h : Cpy w0 n w L) (ht : Touch S w w') (hS : ∀ k, S k → w0.heap.size ≤ k ∧ ∀ cs fr, w.heap[k]? ≠ some (.cells cs 35 fr)) : Cpy w0 n w' L := by
 obtain ⟨A, c, h1, h2⟩ := h.box;exact ⟨h.fr.trans' ht fun k hk => .inr (hS k hk).1, ⟨A, c, ht.blk h1 fun hs => (hS _ hs).2 _ _ h1, h2.mv ht fun k hk => .inr (hS k hk).2⟩, ht.blk h.res fun hs => (hS _ hs).2 _ _ h.res, fun x hx => (h.it x hx).mv ht fun k hk => (hS k hk).2, h.ne⟩
theorem Cpy.fresh {w0 w w' : World} {n : Nd} {L : List (Nd × Addr)} (h : Cpy w0 n w L) (ht : Fresh w w') : Cpy w0 n w' L := h.mv ht fun _ h => h.elim
def kidsP (g : Nat) (ks : List Nd) : List (Nd × Addr) := ks.zipIdx.map fun x => (x.1, ⟨g, x.2 * 4, none⟩)
theorem kidsP_fst (g : Nat) (ks : List Nd) : (kidsP g ks).map Prod.fst = ks := by
 unfold kidsP;rw [List.map_map];have : (Prod.fst ∘ fun x : Nd × Nat => (x.1, (⟨g, x.2 * 4, none⟩ : Addr))) = Prod.fst := rfl;rw [this, List.zipIdx_map_fst]
theorem kidsP_len (g : Nat) (ks : List Nd) : (kidsP g ks).length = ks.length := by unfold kidsP; simp
theorem kidsP_get (g : Nat) (ks : List Nd) (i : Nat) (hi : i < ks.length) : (kidsP g ks)[i]? = some (ks[i], ⟨g, i * 4, none⟩) := by
 unfold kidsP;rw [List.getElem?_map, List.getElem?_zipIdx, List.getElem?_eq_getElem hi];simp
theorem kidsP_mem {g : Nat} {ks : List Nd} {x : Nd × Addr} (h : x ∈ kidsP g ks) : ∃ i, ∃ hi : i < ks.length, x = (ks[i], ⟨g, i * 4, none⟩) := by
 obtain ⟨i, hi, e⟩ := List.getElem_of_mem h;rw [kidsP_len] at hi;refine ⟨i, hi, ?_⟩;have := kidsP_get g ks i hi;rw [List.getElem?_eq_getElem (by rw [kidsP_len]; exact hi), e] at this;exact Option.some.inj this
theorem kidsP_ne (g : Nat) (ks : List Nd) : (kidsP g ks).Pairwise fun x y => x.2 ≠ y.2 := by
 rw [List.pairwise_iff_getElem];intro i j hi hj hij e;rw [kidsP_len] at hi hj;have h1 := kidsP_get g ks i hi;have h2 := kidsP_get g ks j hj;rw [List.getElem?_eq_getElem (by rw [kidsP_len]; assumption)] at h1 h2;rw [Option.some.inj h1, Option.some.inj h2] at e;simp only [Addr.mk.injEq] at e;omega
theorem Cpy.step {w0 w W : World} {n x : Nd} {p : Addr} {M : List (Nd × Addr)} (h : Cpy w0 n w (M ++ [(x, p)])) {cs : Array Value} {A : Option Addr} {c : Nat} (hb : Blk w p.block 35 cs) (hc : cs[p.off + 3]? = some (.slice A x.kids.length c)) (ho : RepL w0 x.kids (.slice A x.kids.length c))
  {s' : Value} (hb' : Blk W p.block 35 (cs.setIfInBounds (p.off + 3) s')) (ht : Touch (fun k => k = p.block) w W) {g : Nat} {ds : Array Value} {cap : Nat} {sl : Nat → Value}
  (hnew : (x.kids = [] ∧ s' = .slice none 0 0) ∨ (s' = .slice (some ⟨g, 0, none⟩) x.kids.length cap ∧ w.heap.size ≤ g ∧ Blk W g 35 ds ∧ x.kids.length ≤ maxLen ∧ ∀ i (hi : i < x.kids.length), x.kids[i].text.length ≤ maxLen ∧ ds[i * 4]? = some (.int .i64 x.kids[i].kind) ∧ ds[i * 4 + 1]? = some (.string ⟨x.kids[i].text.toArray⟩) ∧ ds[i * 4 + 2]? = some (.int .i64 x.kids[i].cols) ∧ ds[i * 4 + 3]? = some (sl i) ∧ RepL w0 x.kids[i].kids (sl i))) :
  Cpy w0 n W (M ++ kidsP g x.kids) := by
 obtain ⟨hsp, hpb, hpr, _⟩ := h.it (x, p) (by simp);obtain ⟨pb, po, sp⟩ := p;simp only at hsp hpb hpr hb hc hb' ht;subst hsp;have hfr : Fresh w0 W := h.fr.trans' ht fun k hk => .inr (by rw [hk]; exact hpb)
 have hres := h.res.lt
 have hs' : ∃ A' c', s' = .slice A' x.kids.length c' := by
  rcases hnew with ⟨e, h⟩ | ⟨h, _⟩
  ·exact ⟨none, 0, by rw [h, e]; rfl⟩
  ·exact ⟨_, _, h⟩
 have hx : TreX w0 ((M ++ kidsP g x.kids).map Prod.snd) W ⟨pb, po, none⟩ x.kids s' := by
  rcases hnew with ⟨e, h⟩ | ⟨hs, hg, hbg, hl, hi⟩
  ·rw [e, h]; exact .nil _ _ _
  ·rw [hs]
   refine .row _ g cap x.kids sl (by omega) ⟨_, _, hbg⟩ hl (fun i k => (hi i k).1) (fun i k => ?_) (fun i k => ?_) (fun i k => ?_) (fun i k => ?_) fun i k => .wait _ _ _ ?_ (hi i k).2.2.2.2.2
   ·rw [hbg.cell]; exact (hi i k).2.1
   ·rw [hbg.cell]; exact (hi i k).2.2.1
   ·rw [hbg.cell]; exact (hi i k).2.2.2.1
   ·rw [hbg.cell]; exact (hi i k).2.2.2.2.1
   ·rw [List.map_append]
    exact List.mem_append_right _ (List.mem_map.2 ⟨_, List.mem_of_getElem? (kidsP_get g x.kids i k), rfl⟩)
 obtain ⟨Ab, cb, hbb, htb⟩ := h.box;refine ⟨hfr, ?_, ht.blk h.res (fun e => hpr e.symm), fun y hy => ?_, ?_⟩
 ·by_cases e : pb = w0.heap.size
  ·subst e
   obtain ⟨_, hcs⟩ := hb.inj hbb;subst hcs
   have ho3 : po = 0 := by
    have := (Array.getElem?_eq_some_iff.1 hc).1;simp at this
    omega
   subst ho3;have hc' : (Value.slice Ab n.kids.length cb) = .slice A x.kids.length c := by simpa using hc
   rw [hc'] at htb;have hsame : n.kids = x.kids := htb.kids ho;obtain ⟨A', c', hs'⟩ := hs';refine ⟨A', c', ?_, by rw [hsame, ← hs']; exact hx⟩;rw [hs'] at hb';rw [hsame];exact hb'
  ·refine ⟨Ab, cb, ht.blk hbb (fun h => e h.symm), TreX.swap hb hc hb' ht ho (fun a ha hne => ?_) hx (fun e2 => e (by cases e2; rfl)) htb⟩
   rw [List.map_append] at ha ⊢
   rcases List.mem_append.1 ha with ha | ha
   ·exact List.mem_append_left _ ha
   ·simp at ha
    exact absurd ha hne
 ·rcases List.mem_append.1 hy with hy | hy
  ·obtain ⟨h1, h2, h3, ys, Ay, cy, h4, h5, h6⟩ := h.it y (by simp [hy])
   have hne : y.2 ≠ ⟨pb, po, none⟩ := (List.pairwise_append.1 h.ne).2.2 y hy (x, ⟨pb, po, none⟩) (by simp)
   by_cases e : y.2.block = pb
   ·rw [e] at h4
    obtain ⟨_, hcs⟩ := h4.inj hb;subst hcs;refine ⟨h1, h2, h3, _, Ay, cy, by rw [e]; exact hb', ?_, h6⟩
    have hoff : po + 3 ≠ y.2.off + 3 := fun e2 => hne (by
     obtain ⟨y1, b2, o2, s2⟩ := y;simp only at e e2 h1;have e3 : o2 = po := by omega
     rw [e, h1, e3])
    rw [Array.getElem?_setIfInBounds_ne hoff];exact h5
   ·exact ⟨h1, h2, h3, ys, Ay, cy, ht.blk h4 e, h5, h6⟩
  ·obtain ⟨i, hi, rfl⟩ := kidsP_mem hy
   rcases hnew with ⟨e, _⟩ | ⟨hs, hg, hbg, hl, hii⟩
   ·rw [e] at hi; cases hi
   ·have hsz := h.fr.size
    have h6 := (hii i hi).2.2.2.2;obtain ⟨A', c', e'⟩ : ∃ A' c', sl i = .slice A' x.kids[i].kids.length c' := h6.2.slice;exact ⟨rfl, (by show w0.heap.size ≤ g; omega), (by show g ≠ _; omega), ds, A', c', hbg, by rw [← e']; exact h6.1, by rw [← e']; exact h6.2⟩
 ·rw [List.pairwise_append]
  refine ⟨(List.pairwise_append.1 h.ne).1, kidsP_ne _ _, fun y hy z hz e => ?_⟩;obtain ⟨i, hi, rfl⟩ := kidsP_mem hz
  rcases hnew with ⟨e', _⟩ | ⟨hs, hg, hbg, hl, hii⟩
  ·rw [e'] at hi; cases hi
  ·obtain ⟨_, _, _, ys, _, _, h4, _⟩ := h.it y (by simp [hy])
   have := h4.lt;rw [e] at this;simp only at this;omega
def PRow (w0 w : World) (L : List (Nd × Addr)) (v : Value) : Prop := w.ownsRow w0.heap.size 89 1 v L.length (L.map fun x => .pointer (some x.2))
end Go.Proofs.YtomibmenojdieaaGreat
