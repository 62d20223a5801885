/- Part 33 of 42 of a proof; its texts, joined: NqI, NqJ. No condition. -/
import Derived.Test.YtncnoeoicaglaaaGreatVs32
set_option maxRecDepth 100000
set_option maxHeartbeats 400000
namespace Go.Proofs.YtncnoeoicaglaaaGreat
open Go.RowKit
open Tr (Nd)
open Lx (PTok)
open Np (R pRow pIn pScript pItem pPrim pArgs pName pCells pArg)
attribute [local go_sem] stillV stillUpon
theorem R.map_out {α β : Type} {f : α → β} {r : R α} (h : r.map f ≠ .out) : r ≠ .out := fun e => h (by rw [e]; rfl)
def FractionN (c : Cf) (f : Nat) : Prop := ∀ (k : Nat) (op : List Nat) (w : World), Ps c k op w → op.length ≤ k → k < c.T.length → pArgs c.en f 2 op (c.T.drop (k + 1)) ≠ .out →
 Calls Tryz.prog 69 #[pp0 c] w (ItemsE c k op ((pArgs c.en f 2 op (c.T.drop (k + 1))).map fun ks => [.mk 5 [] 0 ks]) w)
theorem fraction_n (c : Cf) (hc : c.Good) (f : Nat) (hwith : WithN c f 2) : FractionN c f := by
 intro k op w h hop hk hne;have htl := hc.tl;have hk4 : k ≤ 100000 := by omega
 have HW := hid hwith;have H := hid h;have HOP := hid hop;have HNE := hid hne;have HW0 := hid h.low.size;have HK := hid hk;have hgl : c.g < w.heap.size := h.glt;obtain ⟨ov, hb, _⟩ := h.box;have q1 := hb.cell 1;have z1 := hb.frozen 1;clear hb h hne hwith hc hop;refine Calls.via fun Q hQ => ?_
 have HQ := hid hQ;clear hQ;unfold pp0;have e1 : ((k : Int) + 1) = ((k + 1 : Nat) : Int) := by simp
 have HE := hid e1;clear e1;go_enter Tryz.func69, Tryz.ntmps69;go_wp2_with fail
 have hn := H.out.next hk ((k : Int) + 1) HE.out;have hs : (w.setCell ⟨c.g, 1, none⟩ (.int .i64 ((k : Int) + 1))).heap.size = w.heap.size := by simp
 generalize (w.setCell ⟨c.g, 1, none⟩ (.int .i64 ((k : Int) + 1))) = W1 at hn hs ⊢;have hbf : Blk (W1.alloc (.cells #[.int .i64 0, .int .i64 0] 56)) W1.heap.size 56 #[.int .i64 0, .int .i64 0] := Blk.new _ _ _;have hp2 := hn.1.fresh ((Touch.refl _ _).alloc (.cells #[.int .i64 0, .int .i64 0] 56));have hm2 := hn.2.trans (Mp.fresh ((Touch.refl _ W1).alloc (.cells #[.int .i64 0, .int .i64 0] 56)));have hs2 : (W1.alloc (.cells #[.int .i64 0, .int .i64 0] 56)).heap.size = w.heap.size + 1 := by simp [hs]
 rw [hs] at hbf;generalize (W1.alloc (.cells #[.int .i64 0, .int .i64 0] 56)) = W2 at hbf hp2 hm2 hs2 ⊢
 (try rw [hs])
 have HP2 := hid hp2;have HM2 := hid hm2;have HS2 := hid hs2;have HBF := hid hbf;clear hn hs hbf hp2 hm2 q1 z1 hs2;refine (HW.out (k + 1) op 5 [] [] none w.heap.size W2 HP2.out (by have := HOP.out; omega) (by simp [maxLen]) (by simp) (by have := HS2.out; omega) (.nil _ _) HNE.out).mono ?_;intro e w3 hres;generalize pArgs c.en f 2 op (c.T.drop (k + 1)) = r at HNE HQ hres;cases r with
 | out => exact absurd rfl HNE.out
 | err i er =>
  obtain ⟨he0, A, n, cp, rfl, hm⟩ := hres;have HM3 := hid (HM2.out.trans hm);have HBF3 := hid (hm.blk HBF.out (by omega) (by decide));have HE0 := hid he0;clear hm he0;obtain ⟨q0, q1, z0, z1, hlt3⟩ := Blk.two HBF3.out;unfold failV;go_wp2_with fail
  have n1 := HBF3.out.self2 (.int .i64 (i : Int)) (.int .i64 (er : Int));have hm4 : Mp c.g c.W0.heap.size w (put2 w3 w.heap.size (.int .i64 (i : Int)) (.int .i64 (er : Int))) := HM3.out.put2 (g := w.heap.size) (.inr (Nat.le_refl _)) (.int .i64 (i : Int)) (.int .i64 (er : Int));have ht4 := touch2 w3 w.heap.size (.int .i64 (i : Int)) (.int .i64 (er : Int));simp only [put2] at n1 hm4 ht4;generalize (World.setCell (World.setCell w3 ⟨w.heap.size, 0, none⟩ _) ⟨w.heap.size, 1, none⟩ _) = W4 at n1 hm4 ht4 ⊢;obtain ⟨f0, f1, _⟩ := Blk.two n1
  (try simp only [Exit.inBlock, Exit.then])
  refine bodyPost_ret (v := .tuple #[.slice A n cp, failV i er]) (by simp [failV, results, Tryz.results69, go_sem, f0, f1]) rfl ?_;exact HQ.out _ _ ⟨HE0.out, A, n, cp, rfl, hm4⟩
 | ok ks rest =>
  obtain ⟨b, k', rfl, htr, hdr, hkk, hp, hm⟩ := hres;have HM3 := hid (HM2.out.trans hm);have HBF3 := hid (hm.blk HBF.out (by omega) (by decide));have HTR := hid htr;have HDR := hid hdr;have HKK := hid hkk;have HP3 := hid hp;clear hm htr hdr hkk hp;obtain ⟨q0, q1, z0, z1, hlt3⟩ := Blk.two HBF3.out;unfold failV;go_wp2_with fail
  have n1 := HBF3.out.self2 (.int .i64 0) (.int .i64 0);have hm4 : Mp c.g c.W0.heap.size w (put2 w3 w.heap.size (.int .i64 0) (.int .i64 0)) := HM3.out.put2 (g := w.heap.size) (.inr (Nat.le_refl _)) (.int .i64 0) (.int .i64 0);have ht4 := touch2 w3 w.heap.size (.int .i64 0) (.int .i64 0);simp only [put2] at n1 hm4 ht4;generalize (World.setCell (World.setCell w3 ⟨w.heap.size, 0, none⟩ _) ⟨w.heap.size, 1, none⟩ _) = W4 at n1 hm4 ht4 ⊢;obtain ⟨f0, f1, _⟩ := Blk.two n1
  (try simp only [Exit.inBlock, Exit.then])
  refine bodyPost_ret (v := .tuple #[.slice (some ⟨b, 0, none⟩) 1 1, failV 0 0]) (by simp [failV, results, Tryz.results69, go_sem, f0, f1]) rfl ?_;have hps := HP3.out.mv ht4 (fun b hb => by have := HW0.out; subst hb; exact ⟨by omega, by omega, _, _, (by decide), HBF3.out⟩);exact HQ.out _ _ ⟨_, 1, k', rfl, HTR.out.other HBF3.out (by decide) ht4, HDR.out, by have := HKK.out; omega, hps, hm4⟩
def AccentN (c : Cf) (f : Nat) : Prop := ∀ (k : Nat) (op : List Nat) (t : PTok) (r : List PTok) (w : World), Ps c k op w → op.length ≤ k → c.T.drop k = t :: r → pArgs c.en f 1 op (c.T.drop (k + 1)) ≠ .out →
 Calls Tryz.prog 72 #[pp0 c] w (ItemsE c k op ((pArgs c.en f 1 op (c.T.drop (k + 1))).map fun ks => [.mk 10 t.text 0 ks]) w)
theorem accent_n (c : Cf) (hc : c.Good) (f : Nat) (hwith : WithN c f 1) : AccentN c f := by
 intro k op t r w h hop hl hne;have htl := hc.tl;have hk := drop_lt (c := c) (k := k) (by rw [hl]; exact List.cons_ne_nil _ _);have hk4 : k ≤ 100000 := by omega
 have HT := hid (fun (w' : World) (hf : Fresh w w') => tok_any_n c hc k op w' (h.fresh hf));have htx := hc.txt t (List.mem_of_mem_drop (i := k) (by rw [hl]; simp));have HTX := hid htx;rw [hl] at HT;unfold tokV at HT;clear hl htx;have HW := hid hwith;have H := hid h;have HOP := hid hop;have HNE := hid hne;have HW0 := hid h.low.size;have HK := hid hk;have hgl : c.g < w.heap.size := h.glt;obtain ⟨ov, hb, _⟩ := h.box;have HB := hid hb;have q1 := hb.cell 1;have z1 := hb.frozen 1;clear hb h hne hwith hc hop;refine Calls.via fun Q hQ => ?_
 have HQ := hid hQ;clear hQ;unfold pp0;have e1 : ((k : Int) + 1) = ((k + 1 : Nat) : Int) := by simp
 have HE := hid e1;clear e1;go_enter Tryz.func72, Tryz.ntmps72;go_wp2_with fail
 refine (HT.out _ ((Touch.refl _ _).alloc _)).mono ?_;rintro _ w1 ⟨rfl, hf⟩;have hf1 : Fresh w w1 := (((Touch.refl _ _).alloc _).trans hf);have hb1 := hf1.blk HB.out (fun h => h);have hbf1 : Blk w1 w.heap.size 56 #[.int .i64 0, .int .i64 0] := hf.blk (Blk.new _ _ _) (fun h => h);clear hf q1 z1;have q1 := hb1.cell 1;have z1 := hb1.frozen 1;have hg1 := hb1.lt;have HF1 := hid hf1;have HBF1 := hid hbf1;clear hf1 hb1 hbf1;have r1 := field_tok1 (.int .i64 (t.kind : Int)) (.string ⟨t.text.toArray⟩) (.int .i64 (t.from_ : Int)) (.int .i64 (t.to_ : Int)) w1;go_wp2_with fail
 clear r1;have hp1 := H.out.fresh HF1.out;have hn := hp1.next hk ((k : Int) + 1) HE.out;have hs2 : (w1.setCell ⟨c.g, 1, none⟩ (.int .i64 ((k : Int) + 1))).heap.size = w1.heap.size := by simp
 have hbf := HBF1.out.far (p := ⟨c.g, 1, none⟩) (by simp; omega) (.int .i64 ((k : Int) + 1));generalize (w1.setCell ⟨c.g, 1, none⟩ (.int .i64 ((k : Int) + 1))) = W2 at hn hbf hs2 ⊢;have HP2 := hid hn.1;have HM2 := hid ((Mp.fresh HF1.out).trans hn.2);have HS2 := hid (show w.heap.size < W2.heap.size from hbf.lt);have HBF := hid hbf;clear hn hbf hp1 q1 z1 hs2 hg1;refine (HW.out (k + 1) op 10 t.text [] none w.heap.size W2 HP2.out (by have := HOP.out; omega) HTX.out (by simp) (by have := HS2.out; omega) (.nil _ _) HNE.out).mono ?_;intro e w3 hres;generalize pArgs c.en f 1 op (c.T.drop (k + 1)) = r at HNE HQ hres;cases r with
 | out => exact absurd rfl HNE.out
 | err i er =>
  obtain ⟨he0, A, n, cp, rfl, hm⟩ := hres;have HM3 := hid (HM2.out.trans hm);have HBF3 := hid (hm.blk HBF.out (by omega) (by decide));have HE0 := hid he0;clear hm he0;obtain ⟨q0, q1, z0, z1, hlt3⟩ := Blk.two HBF3.out;unfold failV;go_wp2_with fail
  have n1 := HBF3.out.self2 (.int .i64 (i : Int)) (.int .i64 (er : Int));have hm4 : Mp c.g c.W0.heap.size w (put2 w3 w.heap.size (.int .i64 (i : Int)) (.int .i64 (er : Int))) := HM3.out.put2 (g := w.heap.size) (.inr (Nat.le_refl _)) (.int .i64 (i : Int)) (.int .i64 (er : Int));have ht4 := touch2 w3 w.heap.size (.int .i64 (i : Int)) (.int .i64 (er : Int));simp only [put2] at n1 hm4 ht4;generalize (World.setCell (World.setCell w3 ⟨w.heap.size, 0, none⟩ _) ⟨w.heap.size, 1, none⟩ _) = W4 at n1 hm4 ht4 ⊢;obtain ⟨f0, f1, _⟩ := Blk.two n1
  (try simp only [Exit.inBlock, Exit.then])
  refine bodyPost_ret (v := .tuple #[.slice A n cp, failV i er]) (by simp [failV, results, Tryz.results72, go_sem, f0, f1]) rfl ?_;exact HQ.out _ _ ⟨HE0.out, A, n, cp, rfl, hm4⟩
 | ok ks rest =>
  obtain ⟨b, k', rfl, htr, hdr, hkk, hp, hm⟩ := hres;have HM3 := hid (HM2.out.trans hm);have HBF3 := hid (hm.blk HBF.out (by omega) (by decide));have HTR := hid htr;have HDR := hid hdr;have HKK := hid hkk;have HP3 := hid hp;clear hm htr hdr hkk hp;obtain ⟨q0, q1, z0, z1, hlt3⟩ := Blk.two HBF3.out;unfold failV;go_wp2_with fail
  have n1 := HBF3.out.self2 (.int .i64 0) (.int .i64 0);have hm4 : Mp c.g c.W0.heap.size w (put2 w3 w.heap.size (.int .i64 0) (.int .i64 0)) := HM3.out.put2 (g := w.heap.size) (.inr (Nat.le_refl _)) (.int .i64 0) (.int .i64 0);have ht4 := touch2 w3 w.heap.size (.int .i64 0) (.int .i64 0);simp only [put2] at n1 hm4 ht4;generalize (World.setCell (World.setCell w3 ⟨w.heap.size, 0, none⟩ _) ⟨w.heap.size, 1, none⟩ _) = W4 at n1 hm4 ht4 ⊢;obtain ⟨f0, f1, _⟩ := Blk.two n1
  (try simp only [Exit.inBlock, Exit.then])
  refine bodyPost_ret (v := .tuple #[.slice (some ⟨b, 0, none⟩) 1 1, failV 0 0]) (by simp [failV, results, Tryz.results72, go_sem, f0, f1]) rfl ?_;have hps := HP3.out.mv ht4 (fun b hb => by have := HW0.out; subst hb; exact ⟨by omega, by omega, _, _, (by decide), HBF3.out⟩);exact HQ.out _ _ ⟨_, 1, k', rfl, HTR.out.other HBF3.out (by decide) ht4, HDR.out, by have := HKK.out; omega, hps, hm4⟩
def rootR (c : Cf) (f : Nat) (op : List Nat) (r : List PTok) : R (List Nd) :=
 if Np.isM 91 r then (pIn c.en f 93 op r).bind fun d r' => (pArgs c.en f 1 op r').map fun ks => [.mk 6 [] 0 (Np.slot d :: ks)] else (pArgs c.en f 1 op r).map fun ks => [.mk 6 [] 0 (Np.slot [] :: ks)]
def RootN (c : Cf) (f : Nat) : Prop := ∀ (k : Nat) (op : List Nat) (w : World), Ps c k op w → op.length ≤ k → k < c.T.length → rootR c f op (c.T.drop (k + 1)) ≠ .out →
 Calls Tryz.prog 70 #[pp0 c] w (ItemsE c k op (rootR c f op (c.T.drop (k + 1))) w)
theorem root_n (c : Cf) (hc : c.Good) (f : Nat) (hwith : WithN c f 1) (henc : EnclosedN c f) : RootN c f := by
 intro k op w h hop hk hne;have htl := hc.tl;have hk4 : k ≤ 100000 := by omega
 have HAT := hid (fun (w' : World) (hp : Ps c (k + 1) op w') => at_any_n c hc (k + 1) op 91 w' hp);have HENC := hid henc;have HW := hid hwith;have H := hid h;have HOP := hid hop;have HNE := hid hne;have HW0 := hid h.low.size;have HK := hid hk;have hgl : c.g < w.heap.size := h.glt;obtain ⟨ov, hb, _⟩ := h.box;have q1 := hb.cell 1;have z1 := hb.frozen 1;clear hb h hne hwith hc hop;refine Calls.via fun Q hQ => ?_
 have HQ := hid hQ;clear hQ;unfold pp0;have e1 : ((k : Int) + 1) = ((k + 1 : Nat) : Int) := by simp
 have HE := hid e1;clear e1;go_enter Tryz.func70, Tryz.ntmps70;go_wp2_with fail
 have hn := H.out.next hk ((k : Int) + 1) HE.out;have hs : (w.setCell ⟨c.g, 1, none⟩ (.int .i64 ((k : Int) + 1))).heap.size = w.heap.size := by simp
 generalize (w.setCell ⟨c.g, 1, none⟩ (.int .i64 ((k : Int) + 1))) = W1 at hn hs ⊢;have hbf : Blk (W1.alloc (.cells #[.int .i64 0, .int .i64 0] 56)) W1.heap.size 56 #[.int .i64 0, .int .i64 0] := Blk.new _ _ _;have hp2 := hn.1.fresh ((Touch.refl _ _).alloc (.cells #[.int .i64 0, .int .i64 0] 56));have hm2 := hn.2.trans (Mp.fresh ((Touch.refl _ W1).alloc (.cells #[.int .i64 0, .int .i64 0] 56)));have hs2 : (W1.alloc (.cells #[.int .i64 0, .int .i64 0] 56)).heap.size = w.heap.size + 1 := by simp [hs]
 rw [hs] at hbf;generalize (W1.alloc (.cells #[.int .i64 0, .int .i64 0] 56)) = W2 at hbf hp2 hm2 hs2 ⊢
 (try rw [hs])
 have HP2 := hid hp2;have HM2 := hid hm2;have HS2 := hid hs2;have HBF := hid hbf;clear hn hs hbf hp2 hm2 q1 z1 hs2;refine (HAT.out _ HP2.out).mono ?_;rintro _ w1 ⟨rfl, hf⟩;have HF1 := hid hf;clear hf;unfold rootR at HNE HQ;cases hat : Np.isM 91 (c.T.drop (k + 1)) with
 | false =>
  rw [hat, if_neg Bool.false_ne_true] at HNE HQ;clear hat;have HNE := hid (R.map_out HNE.out);go_wp2_with fail
  refine (slot_any_n none (0) 0 _).mono ?_;rintro _ w4 ⟨rfl, hf4⟩;have hff := (HF1.out.trans hf4).alloc (.cells #[.int .i64 1, .string ⟨#[]⟩, .int .i64 0, .slice none 0 0] 26);have hlit : TreT w.heap.size (w4.alloc (.cells #[.int .i64 1, .string ⟨#[]⟩, .int .i64 0, .slice none 0 0] 26)) [Np.slot []] (.slice (some ⟨w4.heap.size, 0, none⟩) 1 1) := TreT.lit (n := Np.slot []) (TreT.nil _ _) (by have := (HF1.out.trans hf4).size; have := HS2.out; omega) (by simp [Np.slot, maxLen, Nd.text]);go_wp2_with fail
  generalize (w4.alloc (.cells #[.int .i64 1, .string ⟨#[]⟩, .int .i64 0, .slice none 0 0] 26)) = W5 at hff hlit ⊢;generalize w4.heap.size = b4 at hlit ⊢;have HP2' := hid (HP2.out.fresh hff);have HM2' := hid (HM2.out.trans (Mp.fresh hff));have hbf5 := hff.blk HBF.out (fun h => h);have HBF' := hid hbf5;have HS2' := hid (show w.heap.size < W5.heap.size from hbf5.lt);have HLIT := hid hlit;clear hff hlit hbf5 HP2 HM2 HBF HS2 hf4;have HP2 := HP2';have HM2 := HM2';have HBF := HBF';have HS2 := HS2';clear HP2' HM2' HBF' HS2';refine (HW.out (k + 1) op 6 [] [Np.slot []] (some ⟨b4, 0, none⟩) w.heap.size W5 HP2.out (by have := HOP.out; omega) (by simp [maxLen]) (by simp) (by have := HS2.out; omega) HLIT.out HNE.out).mono ?_;intro e w3 hres;generalize pArgs c.en f 1 op (c.T.drop (k + 1)) = r at HNE HQ hres;cases r with
  | out => exact absurd rfl HNE.out
  | err i er =>
   obtain ⟨he0, A, n, cp, rfl, hm⟩ := hres;have HM3 := hid (HM2.out.trans hm);have HBF3 := hid (hm.blk HBF.out (by omega) (by decide));have HE0 := hid he0;clear hm he0;obtain ⟨q0, q1, z0, z1, hlt3⟩ := Blk.two HBF3.out;unfold failV;go_wp2_with fail
   have n1 := HBF3.out.self2 (.int .i64 (i : Int)) (.int .i64 (er : Int));have hm4 : Mp c.g c.W0.heap.size w (put2 w3 w.heap.size (.int .i64 (i : Int)) (.int .i64 (er : Int))) := HM3.out.put2 (g := w.heap.size) (.inr (Nat.le_refl _)) (.int .i64 (i : Int)) (.int .i64 (er : Int));have ht4 := touch2 w3 w.heap.size (.int .i64 (i : Int)) (.int .i64 (er : Int));simp only [put2] at n1 hm4 ht4;generalize (World.setCell (World.setCell w3 ⟨w.heap.size, 0, none⟩ _) ⟨w.heap.size, 1, none⟩ _) = W4 at n1 hm4 ht4 ⊢;obtain ⟨f0, f1, _⟩ := Blk.two n1
   (try simp only [Exit.inBlock, Exit.then])
   refine bodyPost_ret (v := .tuple #[.slice A n cp, failV i er]) (by simp [failV, results, Tryz.results70, go_sem, f0, f1]) rfl ?_;exact HQ.out _ _ ⟨HE0.out, A, n, cp, rfl, hm4⟩
  | ok ks rest =>
   obtain ⟨b, k', rfl, htr, hdr, hkk, hp, hm⟩ := hres;have HM3 := hid (HM2.out.trans hm);have HBF3 := hid (hm.blk HBF.out (by omega) (by decide));have HTR := hid htr;have HDR := hid hdr;have HKK := hid hkk;have HP3 := hid hp;clear hm htr hdr hkk hp;obtain ⟨q0, q1, z0, z1, hlt3⟩ := Blk.two HBF3.out;unfold failV;go_wp2_with fail
   have n1 := HBF3.out.self2 (.int .i64 0) (.int .i64 0);have hm4 : Mp c.g c.W0.heap.size w (put2 w3 w.heap.size (.int .i64 0) (.int .i64 0)) := HM3.out.put2 (g := w.heap.size) (.inr (Nat.le_refl _)) (.int .i64 0) (.int .i64 0);have ht4 := touch2 w3 w.heap.size (.int .i64 0) (.int .i64 0);simp only [put2] at n1 hm4 ht4;generalize (World.setCell (World.setCell w3 ⟨w.heap.size, 0, none⟩ _) ⟨w.heap.size, 1, none⟩ _) = W4 at n1 hm4 ht4 ⊢;obtain ⟨f0, f1, _⟩ := Blk.two n1
   (try simp only [Exit.inBlock, Exit.then])
   refine bodyPost_ret (v := .tuple #[.slice (some ⟨b, 0, none⟩) 1 1, failV 0 0]) (by simp [failV, results, Tryz.results70, go_sem, f0, f1]) rfl ?_;have hps := HP3.out.mv ht4 (fun b hb => by have := HW0.out; subst hb; exact ⟨by omega, by omega, _, _, (by decide), HBF3.out⟩);exact HQ.out _ _ ⟨_, 1, k', rfl, HTR.out.other HBF3.out (by decide) ht4, HDR.out, by have := HKK.out; omega, hps, hm4⟩
 | true =>
  have HLT := hid (isM_lt hat);rw [hat, if_pos rfl] at HNE HQ;clear hat;go_wp2_with fail
  have hf5 := HF1.out.alloc (.cells #[.int .i64 0, .int .i64 0] 56);have hb5 := hf5.blk HBF.out (fun h => h);have hx5 := Blk.new w1 56 #[.int .i64 0, .int .i64 0];have hz5 : (w1.alloc (.cells #[.int .i64 0, .int .i64 0] 56)).heap.size = w1.heap.size + 1 := by simp
  generalize (w1.alloc (.cells #[.int .i64 0, .int .i64 0] 56)) = W5 at hf5 hb5 hx5 hz5 ⊢;have HSX := hid (show w.heap.size < w1.heap.size from by have := HF1.out.size; have := HS2.out; omega);have HP5 := hid (HP2.out.fresh hf5);have HM5 := hid (HM2.out.trans (Mp.fresh hf5));have HB5 := hid hb5;have HX5 := hid hx5;clear hf5 hb5 hx5;refine (HENC.out (k + 1) op 93 W5 HP5.out (by have := HOP.out; omega) HLT.out (fun h => HNE.out (by rw [h]; rfl))).mono ?_;intro e w3 hres;generalize pIn c.en f 93 op (c.T.drop (k + 1)) = X at HNE HQ hres;cases X with
  | out => exact absurd rfl HNE.out
  | err i er =>
   obtain ⟨he0, A, n, cp, rfl, hm⟩ := hres;have HE0 := hid he0;have e0 := fail_ne he0;have HM6 := hid (HM5.out.trans hm);have HB6 := hid (hm.blk HB5.out (by omega) (by decide));have HX6 := hid (hm.blk HX5.out (by have := HSX.out; omega) (by decide));obtain ⟨q0, q1, z0, z1, hlt3⟩ := Blk.two HX6.out;clear hm he0;unfold failV;go_wp2_with fail
   have hne : w.heap.size ≠ w1.heap.size := by have := HSX.out; omega
   have hbe := HX6.out.self2 (.int .i64 (i : Int)) (.int .i64 (er : Int));have hbr := HB6.out.far2 hne (.int .i64 (i : Int)) (.int .i64 (er : Int));have hmr : Mp c.g c.W0.heap.size w (put2 w3 w1.heap.size (.int .i64 (i : Int)) (.int .i64 (er : Int))) := HM6.out.put2 (g := w1.heap.size) (.inr (by have := HSX.out; omega)) (.int .i64 (i : Int)) (.int .i64 (er : Int));clear q0 q1 z0 z1 hlt3;simp only [put2] at hbe hbr hmr;generalize (World.setCell (World.setCell w3 ⟨w1.heap.size, 0, none⟩ _) ⟨w1.heap.size, 1, none⟩ _) = W3 at hbe hbr hmr ⊢;have r0 := cR (hbe.cell 0 |>.trans rfl);have r1 := cR (hbe.cell 1 |>.trans rfl);have hlt3 := hbe.lt;have HBR := hid hbr;have HMR := hid hmr;clear hbe hbr hmr;refine wp_region_mix [([(0, true), (1, true)], 2)] [] (by kernel_rfl) (fun _ _ d _ _ h => by cases d <;> exact h) (by kernel_rfl) ?_;refine wpMix_seg ?_
   repeat (refine wpSeq_plain rfl (fun K hK => ?_); go_simp; refine hK _ ?_; clear hK K)
   obtain ⟨p0, p1, y0, y1, hlt⟩ := Blk.two (HBR.out.drewN 1);refine wpSeq_shut rfl (fun K hK => ?_);go_wp2_with fail
   refine wpMix_end ?_;go_wp2_with fail
   have hb5 : Blk _ (w.heap.size) 56 #[.int .i64 (i : Int), .int .i64 (er : Int)] := ((HBR.out.drewN 1).put 0 (.int .i64 (i : Int))).put 1 (.int .i64 (er : Int));have hm5 := ((HMR.out.drewN 1).setCell (p := ⟨w.heap.size, 0, none⟩) (.inr (by show w.heap.size ≤ w.heap.size; omega)) (.int .i64 (i : Int))).setCell (p := ⟨w.heap.size, 1, none⟩) (.inr (by show w.heap.size ≤ w.heap.size; omega)) (.int .i64 (er : Int));obtain ⟨f0, f1, _⟩ := Blk.two hb5
   (try simp only [Exit.inBlock, Exit.then])
   refine bodyPost_ret (v := .tuple #[.slice none 0 0, failV i er]) (by simp [failV, results, Tryz.results70, go_sem, f0, f1]) rfl ?_;exact HQ.out _ _ ⟨HE0.out, none, 0, 0, rfl, hm5⟩
  | ok d rest =>
   obtain ⟨A, cp, k2, rfl, htr, rfl, hkk, hp, hm⟩ := hres;have HTR6 := hid htr;have HKK6 := hid hkk;have HP6 := hid hp;have HM6 := hid (HM5.out.trans hm);have HB6 := hid (hm.blk HB5.out (by omega) (by decide));have HX6 := hid (hm.blk HX5.out (by have := HSX.out; omega) (by decide));obtain ⟨q0, q1, z0, z1, hlt3⟩ := Blk.two HX6.out;have HZ6 := hid (show w.heap.size < W5.heap.size from by have := HSX.out; omega);clear hm htr hkk hp;unfold failV;go_wp2_with fail
   have hne : w.heap.size ≠ w1.heap.size := by have := HSX.out; omega
   have hw6 := touch2 w3 w1.heap.size (.int .i64 0) (.int .i64 0);have hb7 := HB6.out.far2 hne (.int .i64 0) (.int .i64 0);have hp7 := HP6.out.mv hw6 (fun b hb => by have := HSX.out; have := HW0.out; subst hb; exact ⟨by omega, by omega, _, _, (by decide), HX6.out⟩);have hm7 : Mp c.g c.W0.heap.size w (put2 w3 w1.heap.size (.int .i64 0) (.int .i64 0)) := HM6.out.put2 (g := w1.heap.size) (.inr (by have := HSX.out; omega)) (.int .i64 0) (.int .i64 0);have ht7 := (HTR6.out.base (Nat.le_of_lt HZ6.out)).other HX6.out (by decide) hw6;clear q0 q1 z0 z1 hlt3;simp only [put2] at hw6 hb7 hp7 hm7 ht7;generalize (World.setCell (World.setCell w3 ⟨w1.heap.size, 0, none⟩ _) ⟨w1.heap.size, 1, none⟩ _) = W2' at hw6 hb7 hp7 hm7 ht7 ⊢;clear HP2 HM2 HBF HS2;have HP2 := hid hp7;have HM2 := hid hm7;have HBF := hid hb7;have HS2 := hid (show W2'.heap.size ≥ w.heap.size + 1 from by have := hb7.lt; omega);have HT7 := hid ht7;clear hw6 hb7 hp7 hm7 ht7;have HNE := hid (show pArgs c.en f 1 op (c.T.drop k2) ≠ .out from R.map_out HNE.out);have HQ := hid (show ∀ e w', ItemsE c k op ((pArgs c.en f 1 op (c.T.drop k2)).map fun ks => [.mk 6 [] 0 (Np.slot d :: ks)]) w e w' → Q e w' from HQ.out);refine (slot_any_n A (d.length) cp _).mono ?_;rintro _ w4 ⟨rfl, hf4⟩;have hff := ((Touch.refl _ _ : Fresh W2' W2').trans hf4).alloc (.cells #[.int .i64 1, .string ⟨#[]⟩, .int .i64 0, .slice A d.length cp] 26);have hlit : TreT w.heap.size (w4.alloc (.cells #[.int .i64 1, .string ⟨#[]⟩, .int .i64 0, .slice A d.length cp] 26)) [Np.slot d] (.slice (some ⟨w4.heap.size, 0, none⟩) 1 1) := TreT.lit (n := Np.slot d) (HT7.out.fresh ((Touch.refl _ _ : Fresh W2' W2').trans hf4)) (by have := ((Touch.refl _ _ : Fresh W2' W2').trans hf4).size; have := HS2.out; omega) (by simp [Np.slot, maxLen, Nd.text]);go_wp2_with fail
   generalize (w4.alloc (.cells #[.int .i64 1, .string ⟨#[]⟩, .int .i64 0, .slice A d.length cp] 26)) = W5 at hff hlit ⊢;generalize w4.heap.size = b4 at hlit ⊢;have HP2' := hid (HP2.out.fresh hff);have HM2' := hid (HM2.out.trans (Mp.fresh hff));have hbf5 := hff.blk HBF.out (fun h => h);have HBF' := hid hbf5;have HS2' := hid (show w.heap.size < W5.heap.size from hbf5.lt);have HLIT := hid hlit;clear hff hlit hbf5 HP2 HM2 HBF HS2 hf4;have HP2 := HP2';have HM2 := HM2';have HBF := HBF';have HS2 := HS2';clear HP2' HM2' HBF' HS2';refine (HW.out (k2) op 6 [] [Np.slot d] (some ⟨b4, 0, none⟩) w.heap.size W5 HP2.out (by have := HOP.out; have := HKK6.out; omega) (by simp [maxLen]) (by simp) (by have := HS2.out; omega) HLIT.out HNE.out).mono ?_;intro e w3 hres;generalize pArgs c.en f 1 op (c.T.drop (k2)) = r at HNE HQ hres;cases r with
   | out => exact absurd rfl HNE.out
   | err i er =>
    obtain ⟨he0, A, n, cp, rfl, hm⟩ := hres;have HM3 := hid (HM2.out.trans hm);have HBF3 := hid (hm.blk HBF.out (by omega) (by decide));have HE0 := hid he0;clear hm he0;obtain ⟨q0, q1, z0, z1, hlt3⟩ := Blk.two HBF3.out;unfold failV;go_wp2_with fail
    have n1 := HBF3.out.self2 (.int .i64 (i : Int)) (.int .i64 (er : Int));have hm4 : Mp c.g c.W0.heap.size w (put2 w3 w.heap.size (.int .i64 (i : Int)) (.int .i64 (er : Int))) := HM3.out.put2 (g := w.heap.size) (.inr (Nat.le_refl _)) (.int .i64 (i : Int)) (.int .i64 (er : Int));have ht4 := touch2 w3 w.heap.size (.int .i64 (i : Int)) (.int .i64 (er : Int));simp only [put2] at n1 hm4 ht4;generalize (World.setCell (World.setCell w3 ⟨w.heap.size, 0, none⟩ _) ⟨w.heap.size, 1, none⟩ _) = W4 at n1 hm4 ht4 ⊢;obtain ⟨f0, f1, _⟩ := Blk.two n1
    (try simp only [Exit.inBlock, Exit.then])
    refine bodyPost_ret (v := .tuple #[.slice A n cp, failV i er]) (by simp [failV, results, Tryz.results70, go_sem, f0, f1]) rfl ?_;exact HQ.out _ _ ⟨HE0.out, A, n, cp, rfl, hm4⟩
   | ok ks rest =>
    obtain ⟨b, k', rfl, htr, hdr, hkk, hp, hm⟩ := hres;have HM3 := hid (HM2.out.trans hm);have HBF3 := hid (hm.blk HBF.out (by omega) (by decide));have HTR := hid htr;have HDR := hid hdr;have HKK := hid hkk;have HP3 := hid hp;clear hm htr hdr hkk hp;obtain ⟨q0, q1, z0, z1, hlt3⟩ := Blk.two HBF3.out;unfold failV;go_wp2_with fail
    have n1 := HBF3.out.self2 (.int .i64 0) (.int .i64 0);have hm4 : Mp c.g c.W0.heap.size w (put2 w3 w.heap.size (.int .i64 0) (.int .i64 0)) := HM3.out.put2 (g := w.heap.size) (.inr (Nat.le_refl _)) (.int .i64 0) (.int .i64 0);have ht4 := touch2 w3 w.heap.size (.int .i64 0) (.int .i64 0);simp only [put2] at n1 hm4 ht4;generalize (World.setCell (World.setCell w3 ⟨w.heap.size, 0, none⟩ _) ⟨w.heap.size, 1, none⟩ _) = W4 at n1 hm4 ht4 ⊢;obtain ⟨f0, f1, _⟩ := Blk.two n1
    (try simp only [Exit.inBlock, Exit.then])
    refine bodyPost_ret (v := .tuple #[.slice (some ⟨b, 0, none⟩) 1 1, failV 0 0]) (by simp [failV, results, Tryz.results70, go_sem, f0, f1]) rfl ?_;have hps := HP3.out.mv ht4 (fun b hb => by have := HW0.out; subst hb; exact ⟨by omega, by omega, _, _, (by decide), HBF3.out⟩);exact HQ.out _ _ ⟨_, 1, k', rfl, HTR.out.other HBF3.out (by decide) ht4, HDR.out, by have := HKK.out; have := HKK6.out; omega, hps, hm4⟩
def tokA (t : PTok) : Value := .agg #[.int .i64 (t.kind : Int), .string ⟨t.text.toArray⟩, .int .i64 (t.from_ : Int), .int .i64 (t.to_ : Int)]
def matrixR (c : Cf) (f : Nat) (op : List Nat) (r : List PTok) : R (List Nd) :=
 if Np.isM 123 r then (pCells c.en f (op ++ [Np.place c.en r]) [] 0 0 r.tail).map fun p => [.mk 12 [] p.2 p.1] else Np.refuse c.en r
def MatrixN (c : Cf) (f : Nat) : Prop := ∀ (k : Nat) (op : List Nat) (w : World), Ps c k op w → op.length ≤ k → k < c.T.length → matrixR c f op (c.T.drop (k + 1)) ≠ .out →
 Calls Tryz.prog 71 #[pp0 c] w (ItemsE c k op (matrixR c f op (c.T.drop (k + 1))) w)
def NameN (c : Cf) (f : Nat) : Prop := ∀ (k : Nat) (op : List Nat) (t : PTok) (r : List PTok) (w : World), Ps c k op w → op.length ≤ k → c.T.drop k = t :: r → pName c.en f op t r ≠ .out →
 Calls Tryz.prog 138 #[pp0 c, tokA t] w (ItemsE c k op (pName c.en f op t r) w)
theorem named_enter (s : List UInt8) (F : FuncId) (hF : namedF s = some F) (a : Array Value) (w : World) : (callFunc F a).run Tryz.prog w = .ok (.enter F a) w := by
 rw [namedF_eq] at hF
 repeat' split at hF
 all_goals first | (cases hF; kernel_rfl) | cases hF
theorem named_none (c : Cf) (f : Nat) (op : List Nat) (t : PTok) (r : List PTok) (h : namedF t.text = none) : pName c.en (f + 1) op t r = Np.plainName t r := by
 have hs := (namedF_special t.text).1 h;unfold Np.special at hs;simp only [Bool.or_eq_false_iff, beq_eq_false_iff_ne, ne_eq] at hs;obtain ⟨⟨⟨h1, h2⟩, h3⟩, h4⟩ := hs;rw [pName, if_neg h1, if_neg h2, if_neg h3, if_neg (by rw [h4]; decide)]
theorem named_call (c : Cf) (f k : Nat) (op : List Nat) (t : PTok) (r : List PTok) (w : World) (F : FuncId) (hF : namedF t.text = some F) (h1 : FractionN c f) (h2 : RootN c f) (h3 : MatrixN c f) (h4 : AccentN c f) (h : Ps c k op w) (hop : op.length ≤ k) (hl : c.T.drop k = t :: r)
  (hne : pName c.en (f + 1) op t r ≠ .out) : Calls Tryz.prog F #[pp0 c] w (ItemsE c k op (pName c.en (f + 1) op t r) w) := by
 have hr : r = c.T.drop (k + 1) := by rw [← List.tail_drop, hl]; rfl
 have hk := drop_lt (c := c) (k := k) (by rw [hl]; exact List.cons_ne_nil _ _);rw [namedF_eq] at hF;rw [pName] at hne ⊢;rw [hr] at hne ⊢
 by_cases e1 : t.text = Tr.sFrac
 ·rw [if_pos e1] at hF hne ⊢
  cases hF;exact h1 k op w h hop hk (R.map_out hne)
 ·rw [if_neg e1] at hF hne ⊢
  by_cases e2 : t.text = Tr.sRoot
  ·rw [if_pos e2] at hF hne ⊢
   cases hF;exact h2 k op w h hop hk hne
  ·rw [if_neg e2] at hF hne ⊢
   by_cases e3 : t.text = Tr.sMatrix
   ·rw [if_pos e3] at hF hne ⊢
    cases hF;exact h3 k op w h hop hk hne
   ·rw [if_neg e3] at hF hne ⊢
    by_cases e4 : Np.accented t.text = true
    ·rw [if_pos e4] at hF hne ⊢
     cases hF;exact h4 k op t r w h hop hl (R.map_out hne)
    ·rw [if_neg e4] at hF
     cases hF
theorem name_n (c : Cf) (hc : c.Good) (bm : Nat) (hnm : c.Named bm) (f : Nat) (hF1 : FractionN c f) (hF2 : RootN c f) (hF3 : MatrixN c f) (hF4 : AccentN c f) : NameN c (f + 1) := by
 intro k op t r w h hop hl hne;have htl := hc.tl;have hk := drop_lt (c := c) (k := k) (by rw [hl]; exact List.cons_ne_nil _ _);have hk4 : k ≤ 100000 := by omega
 have HCALL := hid (fun (F : FuncId) (hF : namedF t.text = some F) (w' : World) (hf : Fresh w w') => named_call c f k op t r w' F hF hF1 hF2 hF3 hF4 (h.fresh hf) hop hl hne);have HMAC := hid (fun (w' : World) (hf : Fresh w w') => macro_any_n c k op ⟨t.text.toArray⟩ w' (h.fresh hf));have htx := hc.txt t (List.mem_of_mem_drop (i := k) (by rw [hl]; simp));have HTX := hid htx;have HSI := hid (fun (w' : World) (hf : Fresh w w') => single_any_n c hc k op 2 t.text w' (h.fresh hf) hk htx);have HL := hid hl;have H := hid h;have HOP := hid hop;have HNE := hid hne;have HW0 := hid h.low.size;have HK := hid hk;have hgl : c.g < w.heap.size := h.glt;have HNM := hid hnm;have hmv := hnm.1;obtain ⟨ov, hb, _⟩ := h.box;have HB := hid hb;have hmap := hnm.at h;have HMAP := hid hmap;rw [hmv] at hb;have HB := hid hb;clear h hl hop hne hnm hmap hmv hb hF1 hF2 hF3 hF4 hc htx;refine Calls.via fun Q hQ => ?_
 have HQ := hid hQ;clear hQ;unfold pp0 tokA;go_enter Tryz.func138, Tryz.ntmps138;go_wp2_with fail
 have hf1 : Fresh w ((w.alloc (.cells #[.int .i64 (t.kind : Int), .string ⟨t.text.toArray⟩, .int .i64 (t.from_ : Int), .int .i64 (t.to_ : Int)] 134)).alloc (.cells #[.int .i64 0, .int .i64 0] 56)) := ((Touch.refl _ _).alloc _).alloc _;have hbt1 : Blk ((w.alloc (.cells #[.int .i64 (t.kind : Int), .string ⟨t.text.toArray⟩, .int .i64 (t.from_ : Int), .int .i64 (t.to_ : Int)] 134)).alloc (.cells #[.int .i64 0, .int .i64 0] 56)) w.heap.size 134 #[.int .i64 (t.kind : Int), .string ⟨t.text.toArray⟩, .int .i64 (t.from_ : Int), .int .i64 (t.to_ : Int)] := (Blk.new _ _ _).alloc _;have hbf1 : Blk ((w.alloc (.cells #[.int .i64 (t.kind : Int), .string ⟨t.text.toArray⟩, .int .i64 (t.from_ : Int), .int .i64 (t.to_ : Int)] 134)).alloc (.cells #[.int .i64 0, .int .i64 0] 56)) (w.heap.size + 1) 56 #[.int .i64 0, .int .i64 0] := Blk.new2 _ _ _ _;generalize ((w.alloc (.cells #[.int .i64 (t.kind : Int), .string ⟨t.text.toArray⟩, .int .i64 (t.from_ : Int), .int .i64 (t.to_ : Int)] 134)).alloc (.cells #[.int .i64 0, .int .i64 0] 56)) = W1 at hf1 hbt1 hbf1 ⊢;have HF1 := hid hf1;have HBT1 := hid hbt1;have HBF1 := hid hbf1;have hm1 := (hf1.block bm (Array.getElem?_eq_some_iff.1 HMAP.out).1 (fun h => h)).trans HMAP.out;have hlk := run_named (w := W1.drewN 1) (bm := bm) (g := c.g) (clock := 9) hm1 t.text true;have hb1 := hf1.blk HB.out (fun h => h);have q6 := hb1.cell 6;have z6 := hb1.frozen 6;have hlt0 := hb1.lt;obtain ⟨t0, t1, t2, t3, _, _, _, _, hlt1⟩ := Blk.four hbt1;clear hf1 hbt1 hbf1 hm1 hb1;cases hnf : namedF t.text with
 | some F =>
  rw [hnf] at hlk;simp only [if_true] at hlk;refine wp_region_in (fun W => W = W1.drewN 1) [(0, true), (1, true), (2, true), (3, true), (4, true), (5, true), (6, true), (7, true), (8, true), (9, true), (10, true), (11, true)] (by kernel_rfl) (fun _ _ d _ _ h => by cases d <;> exact h) (by kernel_rfl) rfl ?_;refine wpSeq_plain rfl (fun K hK => ?_);rw [if_pos (by rfl)];refine ⟨(.pointer (some ⟨c.g, 0, none⟩)), fun W hW => ?_, hK _ ?_⟩
  ·subst hW
   go_simp
  clear hK K;refine wpSeq_plain rfl (fun K hK => ?_);rw [if_pos (by rfl)];refine ⟨(.pointer (some ⟨c.g, 0, none⟩)), fun W hW => ?_, hK _ ?_⟩
  ·subst hW
   go_simp
  clear hK K;refine wpSeq_plain rfl (fun K hK => ?_);rw [if_pos (by rfl)];refine ⟨(.pointer (some ⟨c.g, 6, none⟩)), fun W hW => ?_, hK _ ?_⟩
  ·subst hW
   go_simp
  clear hK K;refine wpSeq_plain rfl (fun K hK => ?_);rw [if_pos (by rfl)];refine ⟨(.map (some bm)), fun W hW => ?_, hK _ ?_⟩
  ·subst hW
   go_simp
  clear hK K;refine wpSeq_plain rfl (fun K hK => ?_);rw [if_pos (by rfl)];refine ⟨(.pointer (some ⟨w.heap.size, 1, none⟩)), fun W hW => ?_, hK _ ?_⟩
  ·subst hW
   go_simp
  clear hK K;refine wpSeq_plain rfl (fun K hK => ?_);rw [if_pos (by rfl)];refine ⟨(.string ⟨t.text.toArray⟩), fun W hW => ?_, hK _ ?_⟩
  ·subst hW
   go_simp
  clear hK K;refine wpSeq_plain rfl (fun K hK => ?_);rw [if_pos (by rfl)];refine ⟨(.tuple #[methodV c.g F, .bool true]), fun W hW => ?_, hK _ ?_⟩
  ·subst hW
   go_simp
  clear hK K;refine wpSeq_plain rfl (fun K hK => ?_);rw [if_pos (by rfl)];refine ⟨(.tuple #[methodV c.g F, .bool true]), fun W hW => ?_, hK _ ?_⟩
  ·subst hW
   go_simp
  clear hK K;refine wpSeq_plain rfl (fun K hK => ?_);rw [if_pos (by rfl)];refine ⟨methodV c.g F, fun W hW => ?_, hK _ ?_⟩
  ·subst hW
   go_simp
  clear hK K;refine wpSeq_plain rfl (fun K hK => ?_);rw [if_pos (by rfl)];refine ⟨(.bool true), fun W hW => ?_, hK _ ?_⟩
  ·subst hW
   go_simp
  clear hK K;refine wpSeq_plain rfl (fun K hK => ?_);rw [if_pos (by rfl)];refine ⟨methodV c.g F, fun W hW => ?_, hK _ ?_⟩
  ·subst hW
   go_simp
  clear hK K;refine wpSeq_plain rfl (fun K hK => ?_);rw [if_pos (by rfl)];refine ⟨(.bool true), fun W hW => ?_, hK _ ?_⟩
  ·subst hW
   go_simp
  clear hK K;refine wpSeq_end ?_;have HD1 := hid (show Fresh w (W1.drewN 1) from HF1.out.drewN 1);have HBT2 := hid (HBT1.out.drewN 1);have HBF2 := hid (HBF1.out.drewN 1);clear q6 z6 hlt0 hlk t0 t1 t2 t3 hlt1;generalize W1.drewN 1 = W2 at HD1 HBT2 HBF2 ⊢;unfold methodV;have hcf := named_enter t.text F hnf #[.pointer (some ⟨c.g, 0, none⟩)] W2;go_wp2_with fail
  refine (HCALL.out F hnf W2 HD1.out).mono ?_;intro e w3 hres;have HM2 := hid (Mp.fresh (g := c.g) (B := c.W0.heap.size) HD1.out);generalize pName c.en (f + 1) op t r = X at HNE HQ hres;cases X with
  | out => exact absurd rfl HNE.out
  | err i er =>
   obtain ⟨he0, A, n, cp, rfl, hm⟩ := hres;have HM3 := hid (HM2.out.trans hm);have HBF3 := hid (hm.blk HBF2.out (by omega) (by decide));have HE0 := hid he0;clear hm he0;obtain ⟨q0, q1, z0, z1, hlt3⟩ := Blk.two HBF3.out;unfold failV;go_wp2_with fail
   have n1 := HBF3.out.self2 (.int .i64 (i : Int)) (.int .i64 (er : Int));have hm4 : Mp c.g c.W0.heap.size w (put2 w3 (w.heap.size + 1) (.int .i64 (i : Int)) (.int .i64 (er : Int))) := HM3.out.put2 (g := w.heap.size + 1) (.inr (by omega)) (.int .i64 (i : Int)) (.int .i64 (er : Int));have ht4 := touch2 w3 (w.heap.size + 1) (.int .i64 (i : Int)) (.int .i64 (er : Int));simp only [put2] at n1 hm4 ht4;generalize (World.setCell (World.setCell w3 ⟨w.heap.size + 1, 0, none⟩ _) ⟨w.heap.size + 1, 1, none⟩ _) = W4 at n1 hm4 ht4 ⊢;obtain ⟨f0, f1, _⟩ := Blk.two n1
   (try simp only [Exit.inBlock, Exit.then])
   refine bodyPost_ret (v := .tuple #[.slice A n cp, failV i er]) (by simp [failV, results, Tryz.results138, go_sem, f0, f1]) rfl ?_;exact HQ.out _ _ ⟨HE0.out, A, n, cp, rfl, hm4⟩
  | ok items rest =>
   obtain ⟨A, cp, k', rfl, htr, hdr, hkk, hp, hm⟩ := hres;have HM3 := hid (HM2.out.trans hm);have HBF3 := hid (hm.blk HBF2.out (by omega) (by decide));have HTR := hid htr;have HDR := hid hdr;have HKK := hid hkk;have HP3 := hid hp;clear hm htr hdr hkk hp;obtain ⟨q0, q1, z0, z1, hlt3⟩ := Blk.two HBF3.out;unfold failV;go_wp2_with fail
   have n1 := HBF3.out.self2 (.int .i64 0) (.int .i64 0);have hm4 : Mp c.g c.W0.heap.size w (put2 w3 (w.heap.size + 1) (.int .i64 0) (.int .i64 0)) := HM3.out.put2 (g := w.heap.size + 1) (.inr (by omega)) (.int .i64 0) (.int .i64 0);have ht4 := touch2 w3 (w.heap.size + 1) (.int .i64 0) (.int .i64 0);simp only [put2] at n1 hm4 ht4;generalize (World.setCell (World.setCell w3 ⟨w.heap.size + 1, 0, none⟩ _) ⟨w.heap.size + 1, 1, none⟩ _) = W4 at n1 hm4 ht4 ⊢;obtain ⟨f0, f1, _⟩ := Blk.two n1
   (try simp only [Exit.inBlock, Exit.then])
   refine bodyPost_ret (v := .tuple #[.slice A items.length cp, failV 0 0]) (by simp [failV, results, Tryz.results138, go_sem, f0, f1]) rfl ?_;have hps := HP3.out.mv ht4 (fun b hb => by have := HW0.out; subst hb; exact ⟨by omega, by omega, _, _, (by decide), HBF3.out⟩);exact HQ.out _ _ ⟨A, cp, k', rfl, (HTR.out.base HM2.out.size).other HBF3.out (by decide) ht4, HDR.out, by have := HKK.out; omega, hps, hm4⟩
 | none =>
  rw [hnf] at hlk;simp only [if_true] at hlk;refine wp_region_in (fun W => W = W1.drewN 1) [(0, true), (1, true), (2, true), (3, true), (4, true), (5, true), (6, true), (7, true), (8, true), (9, true), (10, true), (11, true)] (by kernel_rfl) (fun _ _ d _ _ h => by cases d <;> exact h) (by kernel_rfl) rfl ?_;refine wpSeq_plain rfl (fun K hK => ?_);rw [if_pos (by rfl)];refine ⟨(.pointer (some ⟨c.g, 0, none⟩)), fun W hW => ?_, hK _ ?_⟩
  ·subst hW
   go_simp
  clear hK K;refine wpSeq_plain rfl (fun K hK => ?_);rw [if_pos (by rfl)];refine ⟨(.pointer (some ⟨c.g, 0, none⟩)), fun W hW => ?_, hK _ ?_⟩
  ·subst hW
   go_simp
  clear hK K;refine wpSeq_plain rfl (fun K hK => ?_);rw [if_pos (by rfl)];refine ⟨(.pointer (some ⟨c.g, 6, none⟩)), fun W hW => ?_, hK _ ?_⟩
  ·subst hW
   go_simp
  clear hK K;refine wpSeq_plain rfl (fun K hK => ?_);rw [if_pos (by rfl)];refine ⟨(.map (some bm)), fun W hW => ?_, hK _ ?_⟩
  ·subst hW
   go_simp
  clear hK K;refine wpSeq_plain rfl (fun K hK => ?_);rw [if_pos (by rfl)];refine ⟨(.pointer (some ⟨w.heap.size, 1, none⟩)), fun W hW => ?_, hK _ ?_⟩
  ·subst hW
   go_simp
  clear hK K;refine wpSeq_plain rfl (fun K hK => ?_);rw [if_pos (by rfl)];refine ⟨(.string ⟨t.text.toArray⟩), fun W hW => ?_, hK _ ?_⟩
  ·subst hW
   go_simp
  clear hK K;refine wpSeq_plain rfl (fun K hK => ?_);rw [if_pos (by rfl)];refine ⟨(.tuple #[.nilFunc, .bool false]), fun W hW => ?_, hK _ ?_⟩
  ·subst hW
   go_simp
  clear hK K;refine wpSeq_plain rfl (fun K hK => ?_);rw [if_pos (by rfl)];refine ⟨(.tuple #[.nilFunc, .bool false]), fun W hW => ?_, hK _ ?_⟩
  ·subst hW
   go_simp
  clear hK K;refine wpSeq_plain rfl (fun K hK => ?_);rw [if_pos (by rfl)];refine ⟨.nilFunc, fun W hW => ?_, hK _ ?_⟩
  ·subst hW
   go_simp
  clear hK K;refine wpSeq_plain rfl (fun K hK => ?_);rw [if_pos (by rfl)];refine ⟨(.bool false), fun W hW => ?_, hK _ ?_⟩
  ·subst hW
   go_simp
  clear hK K;refine wpSeq_plain rfl (fun K hK => ?_);rw [if_pos (by rfl)];refine ⟨.nilFunc, fun W hW => ?_, hK _ ?_⟩
  ·subst hW
   go_simp
  clear hK K;refine wpSeq_plain rfl (fun K hK => ?_);rw [if_pos (by rfl)];refine ⟨(.bool false), fun W hW => ?_, hK _ ?_⟩
  ·subst hW
   go_simp
  clear hK K;refine wpSeq_end ?_;have HD1 := hid (show Fresh w (W1.drewN 1) from HF1.out.drewN 1);have HBT2 := hid (HBT1.out.drewN 1);have HBF2 := hid (HBF1.out.drewN 1);clear q6 z6 hlt0 hlk t0 t1 t2 t3 hlt1;generalize W1.drewN 1 = W2 at HD1 HBT2 HBF2 ⊢;obtain ⟨t0, t1, t2, t3, _, _, _, _, hlt1⟩ := Blk.four HBT2.out;go_wp2_with fail
  clear t0 t1 t2 t3 hlt1;refine (HMAC.out W2 HD1.out).mono ?_;rintro _ w3 ⟨rfl, hf⟩;have HD3 := hid (HD1.out.trans hf);have HBT3 := hid (hf.blk HBT2.out fun h => h);have HBF3 := hid (hf.blk HBF2.out fun h => h);clear hf;obtain ⟨t0, t1, t2, t3, _, _, _, _, hlt1⟩ := Blk.four HBT3.out
  by_cases h1 : t.text.length = 1
  ·have c1 : (t.text.length : Int) = 1 := by omega
   have c2 : ((t.text.length : Int) == 1) = true := by simp [c1]
   have HPN := hid (show pName c.en (f + 1) op t r = .err t.from_ 11 from by
    rw [named_none c f op t r hnf, Np.plainName, if_pos h1])
   go_wp2_with fail
   have r2 := cR (HBT3.out.cell 2 |>.trans rfl);have hlt3 := HBT3.out.lt;have HBR := HBF3;have HMR := hid (Mp.fresh (g := c.g) (B := c.W0.heap.size) HD3.out);clear t0 t1 t2 t3 hlt1;refine wp_region_mix [([(0, true), (1, true), (2, true), (3, true)], 4)] [] (by kernel_rfl) (fun _ _ d _ _ h => by cases d <;> exact h) (by kernel_rfl) ?_;refine wpMix_seg ?_
   repeat (refine wpSeq_plain rfl (fun K hK => ?_); go_simp; refine hK _ ?_; clear hK K)
   obtain ⟨p0, p1, y0, y1, hlt⟩ := Blk.two (HBR.out.drewN 1);refine wpSeq_shut rfl (fun K hK => ?_);go_wp2_with fail
   refine wpMix_end ?_;go_wp2_with fail
   have hb5 : Blk _ (w.heap.size + 1) 56 #[.int .i64 (t.from_ : Int), .int .i64 11] := ((HBR.out.drewN 1).put 0 (.int .i64 (t.from_ : Int))).put 1 (.int .i64 11);have hm5 := ((HMR.out.drewN 1).setCell (p := ⟨w.heap.size + 1, 0, none⟩) (.inr (by show w.heap.size ≤ w.heap.size + 1; omega)) (.int .i64 (t.from_ : Int))).setCell (p := ⟨w.heap.size + 1, 1, none⟩) (.inr (by show w.heap.size ≤ w.heap.size + 1; omega)) (.int .i64 11);obtain ⟨f0, f1, _⟩ := Blk.two hb5
   (try simp only [Exit.inBlock, Exit.then])
   refine bodyPost_ret (v := .tuple #[.slice none 0 0, failV t.from_ 11]) (by simp [failV, results, Tryz.results138, go_sem, f0, f1]) rfl ?_;rw [HPN.out] at HQ;exact HQ.out _ _ ⟨by decide, none, 0, 0, rfl, hm5⟩
  ·have c1 : ¬ (t.text.length : Int) = 1 := by omega
   have c2 : ((t.text.length : Int) == 1) = false := by simp [c1]
   have HPN := hid (show pName c.en (f + 1) op t r = .ok [.mk 2 t.text 0 []] r from by
    rw [named_none c f op t r hnf, Np.plainName, if_neg h1])
   go_wp2_with fail
   refine (HSI.out w3 HD3.out).mono ?_;rintro _ w4 ⟨b, rfl, htr, hp, hm⟩;have HTR := hid htr;have HP4 := hid hp;have HM3 := hid ((Mp.fresh HD3.out).trans hm);have HZ := hid (show w.heap.size + 1 < w3.heap.size from HBF3.out.lt);have hbf4 := hm.blk HBF3.out (by omega) (by decide);clear HBF3 htr hp hm t0 t1 t2 t3 hlt1;have HBF3 := hid hbf4;clear hbf4;obtain ⟨q0, q1, z0, z1, hlt3⟩ := Blk.two HBF3.out;unfold failV;go_wp2_with fail
   have n1 := HBF3.out.self2 (.int .i64 0) (.int .i64 0);have hm4 : Mp c.g c.W0.heap.size w (put2 w4 (w.heap.size + 1) (.int .i64 0) (.int .i64 0)) := HM3.out.put2 (g := w.heap.size + 1) (.inr (by omega)) (.int .i64 0) (.int .i64 0);have ht4 := touch2 w4 (w.heap.size + 1) (.int .i64 0) (.int .i64 0);simp only [put2] at n1 hm4 ht4;generalize (World.setCell (World.setCell w4 ⟨w.heap.size + 1, 0, none⟩ _) ⟨w.heap.size + 1, 1, none⟩ _) = W4 at n1 hm4 ht4 ⊢;obtain ⟨f0, f1, _⟩ := Blk.two n1
   (try simp only [Exit.inBlock, Exit.then])
   refine bodyPost_ret (v := .tuple #[.slice (some ⟨b, 0, none⟩) 1 1, failV 0 0]) (by simp [failV, results, Tryz.results138, go_sem, f0, f1]) rfl ?_;have hps := HP4.out.mv ht4 (fun b hb => by have := HW0.out; subst hb; exact ⟨by omega, by omega, _, _, (by decide), HBF3.out⟩);rw [HPN.out] at HQ;have hr : c.T.drop (k + 1) = r := by rw [← List.tail_drop, HL.out]; rfl
   exact HQ.out _ _ ⟨_, 1, k + 1, rfl, (HTR.out.base (Nat.le_of_lt (Nat.lt_of_succ_lt HZ.out))).other HBF3.out (by decide) ht4, hr, by omega, hps, hm4⟩
end Go.Proofs.YtncnoeoicaglaaaGreat
