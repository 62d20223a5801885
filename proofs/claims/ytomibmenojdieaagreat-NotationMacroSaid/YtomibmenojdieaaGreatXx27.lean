/- Part 27 of 42 of a proof; its texts, joined: NyL. No condition. -/
import Derived.Test.YtomibmenojdieaaGreatXx26
set_option maxRecDepth 100000
set_option maxHeartbeats 400000
namespace Go.Proofs.YtomibmenojdieaaGreat
open Go.RowKit
open Tr (Nd)
open Lx (PTok)
open Mcr (R pRow pIn pScript pItem pPrim pArgs pName pCells pArg pMac)
attribute [local go_sem] stillV stillUpon
def PrimaryN (c : Cf) (f : Nat) : Prop := ∀ (k : Kp) (op : List Nat) (w : World), Ps c k op w → op.length ≤ k.p → pPrim c.E f op (c.at k) ≠ .out → Calls Tryz.prog 70 #[pp0 c] w (ItemsE c k op (pPrim c.E f op (c.at k)) w)
theorem isM_parts {b : UInt8} {t : PTok} {r : List PTok} (h : Np.isM b (t :: r) = true) : t.kind = 7 ∧ t.text = [b] := by
 simpa [Np.isM] using h
theorem ItemsE.parts {c : Cf} {k : Kp} {op : List Nat} {X : R (List Nd)} {w w' : World} {e : Ending} (h : ItemsE c k op X w e w') (hne : X ≠ .out) : ∃ A n cp i er, e = .returned (.tuple #[.slice A n cp, failV i er]) ∧ Mp c.g c.W0.heap.size w w' ∧
  ((∃ items rest k', X = .ok items rest ∧ n = items.length ∧ i = 0 ∧ er = 0 ∧ TreT w.heap.size w' items (.slice A n cp) ∧ c.at k' = rest ∧ k.p ≤ k'.p ∧ Ps c k' op w') ∨ (X = .err i er ∧ er ≠ 0)) := by
 cases X with
 | out => exact absurd rfl hne
 | err i er =>
  obtain ⟨he0, A, n, cp, rfl, hm⟩ := h;exact ⟨A, n, cp, i, er, rfl, hm, .inr ⟨rfl, he0⟩⟩
 | ok items rest =>
  obtain ⟨A, cp, k', rfl, htr, hdr, hkk, hp, hm⟩ := h;exact ⟨A, items.length, cp, 0, 0, rfl, hm, .inl ⟨items, rest, k', rfl, rfl, rfl, rfl, htr, hdr, hkk, hp⟩⟩
theorem prim_eq {c : Cf} {k : Kp} {t : PTok} {r : List PTok} (f : Nat) (op : List Nat) (hl : (c.at k).l = t :: r) : pPrim c.E (f + 1) op (c.at k) = match Mcr.leafP c.P t with
  | some x => .ok [x] (c.at k.up)
  | none => if t.kind = 4 then pName c.E f op t (c.at k.up)
   else if t.kind = 5 then (pArgs c.E f 1 op (c.at k.up)).map fun ks => [.mk 11 t.text 0 ks]
   else if Np.isM 40 (t :: r) then (pIn c.E f 41 op (c.at k)).map fun items => [.mk 11 [40, 41] 0 [Np.slot items]]
   else if Np.isM 91 (t :: r) then (pIn c.E f 93 op (c.at k)).map fun items => [.mk 11 [91, 93] 0 [Np.slot items]]
   else if Np.isM 123 (t :: r) then pIn c.E f 125 op (c.at k)
   else .err (Np.place c.en (t :: r)) 3 := by
 rw [← Cf.at_up];generalize c.at k = s at *;obtain ⟨l, n, b⟩ := s;simp only at hl;subst hl;rw [pPrim];rfl
theorem prim_nil {c : Cf} {k : Kp} (f : Nat) (op : List Nat) (hl : (c.at k).l = []) : pPrim c.E (f + 1) op (c.at k) = .err (Np.place c.en []) 3 := by
 generalize c.at k = s at *;obtain ⟨l, n, b⟩ := s;simp only at hl;subst hl;rw [pPrim];rfl
theorem primary_n (c : Cf) (hc : c.Good) (f : Nat) (hname : NameN c f) (hwith : WithN c f 1) (henc : EnclosedN c f) : PrimaryN c (f + 1) := by
 intro k op w h hop hne;have htl := hc.tl;have HSIM := hid (fun (w' : World) (hf : Fresh w w') => simple_any_n c hc k op w' (h.fresh hf));have HT := hid (fun (w' : World) (hf : Fresh w w') => tok_any_n c hc k op w' (h.fresh hf));have HA := hid (fun (b : UInt8) (w' : World) (hf : Fresh w w') => at_any_n c hc k op b w' (h.fresh hf));have HR := hid (fun (w' : World) (hf : Fresh w w') => refuse_any_n c hc k op w' (h.fresh hf));have HNA := hid hname;have HW := hid hwith;have HEN := hid henc;have HTXT := hid hc.txt;have H := hid h;have HOP := hid hop;have HW0 := hid h.low.size;have hgl : c.g < w.heap.size := h.glt;have HNE := hid hne;refine Calls.via fun Q hQ => ?_
 have HQ := hid hQ;clear hne h hop hc hQ hname hwith henc;unfold SimpleE at HSIM;generalize hl : (c.at k).l = l at HSIM HT HA HR;have HL := hid hl;clear hl;unfold pp0;go_enter Tryz.func70, Tryz.ntmps70;go_wp2_with fail
 refine (HSIM.out _ ((Touch.refl _ _).alloc _)).mono ?_;rintro e w1 (⟨x, b, hx, rfl, htr, hp, hm⟩ | ⟨hx, rfl, hf⟩)
 ·have HM3 := hid ((Mp.fresh ((Touch.refl _ w).alloc _)).trans hm)
  have HBF3 := hid (hm.blk (Blk.new w 48 #[.int .i64 0, .int .i64 0]) (by omega) (by decide));have HTR := hid htr;have HP3 := hid hp
  have HX := hid (show pPrim c.E (f + 1) op (c.at k) = .ok [x] (c.at k.up) from by
   cases l with
   | nil => cases hx
   | cons t r =>
    rw [prim_eq f op HL.out];simp only [show Mcr.leafP c.P t = some x from hx])
  clear hm htr hp hx;obtain ⟨q0, q1, z0, z1, hlt3⟩ := Blk.two HBF3.out
  (try unfold failV)
  go_wp2_with fail
  have n1 := HBF3.out.self2 (.int .i64 0) (.int .i64 0);have hm4 : Mp c.g c.W0.heap.size w (put2 w1 (w.heap.size) (.int .i64 0) (.int .i64 0)) := HM3.out.put2 (g := w.heap.size) (.inr (by omega)) (.int .i64 0) (.int .i64 0);have ht4 := touch2 w1 (w.heap.size) (.int .i64 0) (.int .i64 0);simp only [put2] at n1 hm4 ht4;generalize (World.setCell (World.setCell w1 ⟨w.heap.size, 0, none⟩ _) ⟨w.heap.size, 1, none⟩ _) = W4 at n1 hm4 ht4 ⊢;obtain ⟨f0, f1, _⟩ := Blk.two n1
  (try simp only [Exit.inBlock, Exit.then])
  refine bodyPost_ret (v := .tuple #[.slice (some ⟨b, 0, none⟩) 1 1, failV 0 0]) (by simp [failV, results, Tryz.results70, go_sem, f0, f1]) rfl ?_;have hps := HP3.out.mv ht4 (fun b hb => by have := HW0.out; subst hb; exact ⟨by omega, by omega, _, _, (by decide), HBF3.out⟩);rw [HX.out] at HQ;exact HQ.out _ _ ⟨_, 1, k.up, rfl, (HTR.out.base (by simp)).other HBF3.out (by decide) ht4, rfl, Nat.le_succ _, hps, hm4⟩
 ·have HF1 := hid (show Fresh w w1 from Touch.pre hf)
  have HBF1 := hid (hf.blk (Blk.new w 48 #[.int .i64 0, .int .i64 0]) (fun h => h));have HS1 := hid (show w.heap.size < w1.heap.size from HBF1.out.lt);clear hf;cases l with
  | nil =>
   have m40 : Np.isM 40 ([] : List PTok) = false := rfl;have m91 : Np.isM 91 ([] : List PTok) = false := rfl;have m123 : Np.isM 123 ([] : List PTok) = false := rfl;have HXX := hid (show pPrim c.E (f + 1) op (c.at k) = .err (Np.place c.en []) 3 from prim_nil f op HL.out);rw [HXX.out] at HQ;unfold tokV at HT;go_wp2_with fail
   refine (HT.out _ HF1.out).mono ?_;rintro _ w2 ⟨rfl, hf⟩;have HF2 := hid (HF1.out.trans hf);have HBF2' := hid (hf.blk HBF1.out fun h => h);clear hf;go_wp2_with fail
   refine (HA.out 40 _ (HF2.out.alloc (.cells #[.int .i64 0, .string ⟨#[]⟩, .int .i64 (c.en : Int), .int .i64 (c.en : Int)] 107))).mono ?_;rintro _ w3 ⟨rfl, hf⟩;have HF3 := hid ((HF2.out.alloc (.cells #[.int .i64 0, .string ⟨#[]⟩, .int .i64 (c.en : Int), .int .i64 (c.en : Int)] 107)).trans hf);have HB3 := hid (hf.blk (HBF2'.out.alloc (.cells #[.int .i64 0, .string ⟨#[]⟩, .int .i64 (c.en : Int), .int .i64 (c.en : Int)] 107)) fun h => h);have HT3 := hid (hf.blk (Blk.new w2 107 #[.int .i64 0, .string ⟨#[]⟩, .int .i64 (c.en : Int), .int .i64 (c.en : Int)]) fun h => h);clear hf;rw [m40];go_wp2_with fail
   refine (HA.out 91 _ HF3.out).mono ?_;rintro _ w4 ⟨rfl, hf⟩;have HF4 := hid (HF3.out.trans hf);have HB4 := hid (hf.blk HB3.out fun h => h);have HT4 := hid (hf.blk HT3.out fun h => h);clear hf;rw [m91];go_wp2_with fail
   refine (HA.out 123 _ HF4.out).mono ?_;rintro _ w5 ⟨rfl, hf⟩;have HF5 := hid (HF4.out.trans hf);have HB5 := hid (hf.blk HB4.out fun h => h);have HT5 := hid (hf.blk HT4.out fun h => h);clear hf;rw [m123];go_wp2_with fail
   refine (HR.out _ HF5.out).mono ?_;rintro _ w9 ⟨rfl, hf⟩;have HM3 := hid (Mp.fresh (g := c.g) (B := c.W0.heap.size) (HF5.out.trans hf));have HBF3 := hid (hf.blk HB5.out fun h => h);clear hf;obtain ⟨q0, q1, z0, z1, hlt3⟩ := Blk.two HBF3.out
   (try unfold failV)
   go_wp2_with fail
   have n1 := HBF3.out.self2 (.int .i64 (Np.place c.en [] : Int)) (.int .i64 3);have hm4 : Mp c.g c.W0.heap.size w (put2 w9 (w.heap.size) (.int .i64 (Np.place c.en [] : Int)) (.int .i64 3)) := HM3.out.put2 (g := w.heap.size) (.inr (by omega)) (.int .i64 (Np.place c.en [] : Int)) (.int .i64 3);have ht4 := touch2 w9 (w.heap.size) (.int .i64 (Np.place c.en [] : Int)) (.int .i64 3);simp only [put2] at n1 hm4 ht4;generalize (World.setCell (World.setCell w9 ⟨w.heap.size, 0, none⟩ _) ⟨w.heap.size, 1, none⟩ _) = W4 at n1 hm4 ht4 ⊢;obtain ⟨f0, f1, _⟩ := Blk.two n1
   (try simp only [Exit.inBlock, Exit.then])
   refine bodyPost_ret (v := .tuple #[.slice none 0 0, failV (Np.place c.en []) 3]) (by simp [failV, results, Tryz.results70, go_sem, f0, f1]) rfl ?_;exact HQ.out _ _ ⟨by decide, none, 0, 0, rfl, hm4⟩
  | cons t r =>
   have HK := hid (show k.p < c.T.length from drop_lt (by rw [HL.out]; exact List.cons_ne_nil _ _));have HX := hid (show Mcr.leafP c.P t = none from hx);have HTX := hid (HTXT.out t (List.mem_of_mem_drop (i := k.p) (by rw [← Cf.at_l, HL.out]; simp)));clear hx;unfold tokV at HT;go_wp2_with fail
   refine (HT.out _ HF1.out).mono ?_;rintro _ w2 ⟨rfl, hf⟩;have HF2 := hid (HF1.out.trans hf);have HBF2' := hid (hf.blk HBF1.out fun h => h);clear hf
   by_cases h4 : t.kind = 4
   ·have e4 := kind_is _ 4 h4
    have HXX := hid (show pPrim c.E (f + 1) op (c.at k) = pName c.E f op t (c.at k.up) from by
     rw [prim_eq f op HL.out];simp only [HX.out];rw [if_pos h4])
    rw [HXX.out] at HQ HNE;clear h4;go_wp2_with fail
    have hf3 := HF2.out.alloc (.cells #[.int .i64 (t.kind : Int), .string ⟨t.text.toArray⟩, .int .i64 (t.from_ : Int), .int .i64 (t.to_ : Int)] 107);have hbf3 := HBF2'.out.alloc (.cells #[.int .i64 (t.kind : Int), .string ⟨t.text.toArray⟩, .int .i64 (t.from_ : Int), .int .i64 (t.to_ : Int)] 107);generalize (w2.alloc (.cells #[.int .i64 (t.kind : Int), .string ⟨t.text.toArray⟩, .int .i64 (t.from_ : Int), .int .i64 (t.to_ : Int)] 107)) = W2 at hf3 hbf3 ⊢;have HM2 := hid (Mp.fresh (g := c.g) (B := c.W0.heap.size) hf3);have HBF2 := hid hbf3;refine (HNA.out k op t r W2 (H.out.fresh hf3) HOP.out HL.out HNE.out).mono ?_;intro e w3 hres;clear hf3 hbf3;generalize pName c.E f op t (c.at k.up) = X at HNE HQ hres;cases X with
    | out => exact absurd rfl HNE.out
    | err i er =>
     obtain ⟨he0, A, n, cp, rfl, hm⟩ := hres;have HM3 := hid (HM2.out.trans hm);have HBF3 := hid (hm.blk HBF2.out (by omega) (by decide));have HE0 := hid he0;clear hm he0;obtain ⟨q0, q1, z0, z1, hlt3⟩ := Blk.two HBF3.out
     (try unfold failV)
     go_wp2_with fail
     have n1 := HBF3.out.self2 (.int .i64 (i : Int)) (.int .i64 (er : Int));have hm4 : Mp c.g c.W0.heap.size w (put2 w3 (w.heap.size) (.int .i64 (i : Int)) (.int .i64 (er : Int))) := HM3.out.put2 (g := w.heap.size) (.inr (by omega)) (.int .i64 (i : Int)) (.int .i64 (er : Int));have ht4 := touch2 w3 (w.heap.size) (.int .i64 (i : Int)) (.int .i64 (er : Int));simp only [put2] at n1 hm4 ht4;generalize (World.setCell (World.setCell w3 ⟨w.heap.size, 0, none⟩ _) ⟨w.heap.size, 1, none⟩ _) = W4 at n1 hm4 ht4 ⊢;obtain ⟨f0, f1, _⟩ := Blk.two n1
     (try simp only [Exit.inBlock, Exit.then])
     refine bodyPost_ret (v := .tuple #[.slice A n cp, failV i er]) (by simp [failV, results, Tryz.results70, go_sem, f0, f1]) rfl ?_;exact HQ.out _ _ ⟨HE0.out, A, n, cp, rfl, hm4⟩
    | ok items rest =>
     obtain ⟨A, cp, k', rfl, htr, hdr, hkk, hp, hm⟩ := hres;have HM3 := hid (HM2.out.trans hm);have HBF3 := hid (hm.blk HBF2.out (by omega) (by decide));have HTR := hid htr;have HDR := hid hdr;have HKK := hid hkk;have HP3 := hid hp;clear hm htr hdr hkk hp;obtain ⟨q0, q1, z0, z1, hlt3⟩ := Blk.two HBF3.out
     (try unfold failV)
     go_wp2_with fail
     have n1 := HBF3.out.self2 (.int .i64 0) (.int .i64 0);have hm4 : Mp c.g c.W0.heap.size w (put2 w3 (w.heap.size) (.int .i64 0) (.int .i64 0)) := HM3.out.put2 (g := w.heap.size) (.inr (by omega)) (.int .i64 0) (.int .i64 0);have ht4 := touch2 w3 (w.heap.size) (.int .i64 0) (.int .i64 0);simp only [put2] at n1 hm4 ht4;generalize (World.setCell (World.setCell w3 ⟨w.heap.size, 0, none⟩ _) ⟨w.heap.size, 1, none⟩ _) = W4 at n1 hm4 ht4 ⊢;obtain ⟨f0, f1, _⟩ := Blk.two n1
     (try simp only [Exit.inBlock, Exit.then])
     refine bodyPost_ret (v := .tuple #[.slice A items.length cp, failV 0 0]) (by simp [failV, results, Tryz.results70, go_sem, f0, f1]) rfl ?_;have hps := HP3.out.mv ht4 (fun b hb => by have := HW0.out; subst hb; exact ⟨by omega, by omega, _, _, (by decide), HBF3.out⟩);exact HQ.out _ _ ⟨A, cp, k', rfl, (HTR.out.base HM2.out.size).other HBF3.out (by decide) ht4, HDR.out, by have := HKK.out; (try simp only [Kp.up_p] at this ⊢); omega, hps, hm4⟩
   ·have e4 := kind_no _ 4 h4
    by_cases h5 : t.kind = 5
    ·have e5 := kind_is _ 5 h5
     have HXX := hid (show pPrim c.E (f + 1) op (c.at k) = (pArgs c.E f 1 op (c.at k.up)).map fun ks => [.mk 11 t.text 0 ks] from by
      rw [prim_eq f op HL.out];simp only [HX.out];rw [if_neg h4, if_pos h5])
     rw [HXX.out] at HQ HNE;clear h4 h5;have hk4 : k.p ≤ 100000 := by have := HK.out; omega
     have HE := hid (show ((k.p : Int) + 1) = ((k.p + 1 : Nat) : Int) by simp);obtain ⟨ov, hb2, _⟩ := (H.out.fresh HF2.out).box;have q1 := hb2.cell 1;have z1 := hb2.frozen 1;have hg2 := hb2.lt;clear hb2;go_wp2_with fail
     have hn := (H.out.fresh HF2.out).next HK.out ((k.p : Int) + 1) HE.out;have hbf3 := HBF2'.out.far (p := ⟨c.g, 1, none⟩) (fun e => by have e' : w.heap.size = c.g := e; omega) (.int .i64 ((k.p : Int) + 1));generalize (w2.setCell ⟨c.g, 1, none⟩ (.int .i64 ((k.p : Int) + 1))) = W1 at hn hbf3 ⊢;have hp3 := hn.1.fresh ((Touch.refl _ W1).alloc (.cells #[.int .i64 (t.kind : Int), .string ⟨t.text.toArray⟩, .int .i64 (t.from_ : Int), .int .i64 (t.to_ : Int)] 107));have hm3 := (Mp.fresh HF2.out).trans (hn.2.trans (Mp.fresh ((Touch.refl _ W1).alloc (.cells #[.int .i64 (t.kind : Int), .string ⟨t.text.toArray⟩, .int .i64 (t.from_ : Int), .int .i64 (t.to_ : Int)] 107))));have hbf4 := hbf3.alloc (.cells #[.int .i64 (t.kind : Int), .string ⟨t.text.toArray⟩, .int .i64 (t.from_ : Int), .int .i64 (t.to_ : Int)] 107);generalize (W1.alloc (.cells #[.int .i64 (t.kind : Int), .string ⟨t.text.toArray⟩, .int .i64 (t.from_ : Int), .int .i64 (t.to_ : Int)] 107)) = W2 at hp3 hm3 hbf4 ⊢;have HP2 := hid hp3;have HM2 := hid hm3;have HBF2 := hid hbf4;clear hn hbf3 hbf4 hp3 hm3 q1 z1 hg2;refine (HW.out k.up op 11 t.text [] none w.heap.size W2 HP2.out (by have := HOP.out; (try simp only [Kp.up_p] at this ⊢); omega) HTX.out (by simp) HM2.out.size (.nil _ _) (R.map_out HNE.out)).mono ?_;intro e w3 hres;generalize pArgs c.E f 1 op (c.at k.up) = r at HNE HQ hres;cases r with
     | out => exact absurd rfl HNE.out
     | err i er =>
      obtain ⟨he0, A, n, cp, rfl, hm⟩ := hres;have HM3 := hid (HM2.out.trans hm);have HBF3 := hid (hm.blk HBF2.out (by omega) (by decide));have HE0 := hid he0;clear hm he0;obtain ⟨q0, q1, z0, z1, hlt3⟩ := Blk.two HBF3.out
      (try unfold failV)
      go_wp2_with fail
      have n1 := HBF3.out.self2 (.int .i64 (i : Int)) (.int .i64 (er : Int));have hm4 : Mp c.g c.W0.heap.size w (put2 w3 (w.heap.size) (.int .i64 (i : Int)) (.int .i64 (er : Int))) := HM3.out.put2 (g := w.heap.size) (.inr (by omega)) (.int .i64 (i : Int)) (.int .i64 (er : Int));have ht4 := touch2 w3 (w.heap.size) (.int .i64 (i : Int)) (.int .i64 (er : Int));simp only [put2] at n1 hm4 ht4;generalize (World.setCell (World.setCell w3 ⟨w.heap.size, 0, none⟩ _) ⟨w.heap.size, 1, none⟩ _) = W4 at n1 hm4 ht4 ⊢;obtain ⟨f0, f1, _⟩ := Blk.two n1
      (try simp only [Exit.inBlock, Exit.then])
      refine bodyPost_ret (v := .tuple #[.slice A n cp, failV i er]) (by simp [failV, results, Tryz.results70, go_sem, f0, f1]) rfl ?_;exact HQ.out _ _ ⟨HE0.out, A, n, cp, rfl, hm4⟩
     | ok ks rest =>
      obtain ⟨b, k', rfl, htr, hdr, hkk, hp, hm⟩ := hres;have HM3 := hid (HM2.out.trans hm);have HBF3 := hid (hm.blk HBF2.out (by omega) (by decide));have HTR := hid htr;have HDR := hid hdr;have HKK := hid hkk;have HP3 := hid hp;clear hm htr hdr hkk hp;obtain ⟨q0, q1, z0, z1, hlt3⟩ := Blk.two HBF3.out
      (try unfold failV)
      go_wp2_with fail
      have n1 := HBF3.out.self2 (.int .i64 0) (.int .i64 0);have hm4 : Mp c.g c.W0.heap.size w (put2 w3 (w.heap.size) (.int .i64 0) (.int .i64 0)) := HM3.out.put2 (g := w.heap.size) (.inr (by omega)) (.int .i64 0) (.int .i64 0);have ht4 := touch2 w3 (w.heap.size) (.int .i64 0) (.int .i64 0);simp only [put2] at n1 hm4 ht4;generalize (World.setCell (World.setCell w3 ⟨w.heap.size, 0, none⟩ _) ⟨w.heap.size, 1, none⟩ _) = W4 at n1 hm4 ht4 ⊢;obtain ⟨f0, f1, _⟩ := Blk.two n1
      (try simp only [Exit.inBlock, Exit.then])
      refine bodyPost_ret (v := .tuple #[.slice (some ⟨b, 0, none⟩) 1 1, failV 0 0]) (by simp [failV, results, Tryz.results70, go_sem, f0, f1]) rfl ?_;have hps := HP3.out.mv ht4 (fun b hb => by have := HW0.out; subst hb; exact ⟨by omega, by omega, _, _, (by decide), HBF3.out⟩);exact HQ.out _ _ ⟨_, 1, k', rfl, HTR.out.other HBF3.out (by decide) ht4, HDR.out, by have := HKK.out; (try simp only [Kp.up_p] at this ⊢); omega, hps, hm4⟩
    ·have e5 := kind_no _ 5 h5
     have HIN := hid (fun (cl : UInt8) (w' : World) (hp : Ps c k op w') (hne : pIn c.E f cl op (c.at k) ≠ .out) => show Calls _ _ _ _ (ItemsE c k op (pIn c.E f cl op (c.at k)) w') from by
      exact HEN.out k op cl w' hp HOP.out HK.out hne)
     cases m40 : Np.isM 40 (t :: r) with
     | true =>
      have htx := (isM_parts m40).2;have hs91 : (t.text == [91]) = false := by rw [htx]; rfl
      have HXX := hid (show pPrim c.E (f + 1) op (c.at k) = (pIn c.E f 41 op (c.at k)).map fun items => [.mk 11 [40, 41] 0 [Np.slot items]] from by
       rw [prim_eq f op HL.out];simp only [HX.out];rw [if_neg h4, if_neg h5, if_pos m40])
      rw [HXX.out] at HQ HNE;clear h4 h5 htx;go_wp2_with fail
      refine (HA.out 40 _ (HF2.out.alloc (.cells #[.int .i64 (t.kind : Int), .string ⟨t.text.toArray⟩, .int .i64 (t.from_ : Int), .int .i64 (t.to_ : Int)] 107))).mono ?_;rintro _ w3 ⟨rfl, hf⟩;have HF3 := hid ((HF2.out.alloc (.cells #[.int .i64 (t.kind : Int), .string ⟨t.text.toArray⟩, .int .i64 (t.from_ : Int), .int .i64 (t.to_ : Int)] 107)).trans hf);have HB3 := hid (hf.blk (HBF2'.out.alloc (.cells #[.int .i64 (t.kind : Int), .string ⟨t.text.toArray⟩, .int .i64 (t.from_ : Int), .int .i64 (t.to_ : Int)] 107)) fun h => h);have HT3 := hid (hf.blk (Blk.new w2 107 #[.int .i64 (t.kind : Int), .string ⟨t.text.toArray⟩, .int .i64 (t.from_ : Int), .int .i64 (t.to_ : Int)]) fun h => h);clear hf;rw [m40];have t1 := HT3.out.cell 1;have hltt := HT3.out.lt;go_wp2_with fail
      clear t1 hltt;refine (HIN.out 41 w3 (H.out.fresh HF3.out) (R.map_out HNE.out)).mono ?_;intro e wa hres;have hparts := hres.parts (R.map_out HNE.out);clear hres;generalize pIn c.E f 41 op (c.at k) = X at HNE HQ hparts;obtain ⟨A, n, cp, i, er, rfl, hm, hend⟩ := hparts;have HMa := hid ((Mp.fresh HF3.out).trans hm);have HBa := hid (hm.blk HB3.out (by omega) (by decide));have HSa := hid (Nat.le_trans HF3.out.size hm.size);have HSb := hid (HF3.out.size);have HEND := hid hend;clear hm hend;unfold failV;go_wp2_with fail
      have hbe : Blk (wa.alloc (.cells #[.int .i64 (i : Int), .int .i64 (er : Int)] 48)) wa.heap.size 48 #[.int .i64 (i : Int), .int .i64 (er : Int)] := Blk.new _ _ _;have HFa := hid ((Touch.refl (fun _ => False) wa).alloc (.cells #[.int .i64 (i : Int), .int .i64 (er : Int)] 48));have hbr := HBa.out.alloc (.cells #[.int .i64 (i : Int), .int .i64 (er : Int)] 48);generalize (wa.alloc (.cells #[.int .i64 (i : Int), .int .i64 (er : Int)] 48)) = W5 at hbe HFa hbr ⊢;have r0 := cR (hbe.cell 0 |>.trans rfl);have r1 := cR (hbe.cell 1 |>.trans rfl);have hlt5 := hbe.lt;have HBR := hid hbr;clear hbe hbr;refine wp_region_mix [([(0, true), (1, true), (6, true), (2, false), (3, false), (4, true), (5, false), (7, true)], 8)] [] (by kernel_rfl) (fun _ _ d _ _ h => by cases d <;> exact h) (by kernel_rfl) ?_;refine wpMix_seg ?_
      repeat (refine wpSeq_plain rfl (fun K hK => ?_); go_simp; refine hK _ ?_; clear hK K)
      refine wpSeq_lone rfl (fun K hK => ?_);go_wp2_with fail
      refine (slot_any_n A n cp _).mono ?_;rintro _ w6 ⟨rfl, hf⟩;have HF6 := hid (show Fresh W5 w6 from Touch.ofN hf);clear hf;go_wp2_with fail
      refine hK _ _ (growing_fresh HF6.out) ?_;clear hK K;refine wpSeq_lone rfl (fun K hK => ?_);go_wp2_with fail
      refine hK _ _ (growing_fresh (HF6.out.alloc _)) ?_;clear hK K
      repeat (refine wpSeq_plain rfl (fun K hK => ?_); go_simp; refine hK _ ?_; clear hK K)
      refine wpSeq_lone rfl (fun K hK => ?_);go_wp2_with fail
      refine hK _ _ (growing_fresh ((HF6.out.alloc _).alloc _)) ?_;clear hK K
      repeat (refine wpSeq_plain rfl (fun K hK => ?_); go_simp; refine hK _ ?_; clear hK K)
      have HT7 := hid (fun (items : List Nd) (htr : TreT w.heap.size wa items (.slice A n cp)) => show TreT w.heap.size _ [Nd.mk 11 [40, 41] 0 [Np.slot items]] _ from
       TreT.lit (n := .mk 11 [40, 41] 0 [Np.slot items]) (TreT.lit (n := Np.slot items) ((htr.fresh HFa.out).fresh HF6.out) (Nat.le_trans HSa.out (Nat.le_trans HFa.out.size HF6.out.size)) (Nat.zero_le _)) (by
        have := Nat.le_trans HSa.out (Nat.le_trans HFa.out.size HF6.out.size);simp; omega) (by show 2 ≤ maxLen; simp [maxLen]))
      have hf7 := HFa.out.trans ((HF6.out.alloc (.cells #[.int .i64 1, .string ⟨#[]⟩, .int .i64 0, .slice A n cp] 35)).alloc (.cells #[.int .i64 11, .string ⟨#[40, 41]⟩, .int .i64 0, .slice (some ⟨w6.heap.size, 0, none⟩) 1 1] 35));have hb7 := hf7.blk HBa.out fun h => h
      change Hid (∀ items, TreT w.heap.size wa items (.slice A n cp) → TreT w.heap.size ((w6.alloc (.cells #[.int .i64 1, .string ⟨#[]⟩, .int .i64 0, .slice A n cp] 35)).alloc (.cells #[.int .i64 11, .string ⟨#[40, 41]⟩, .int .i64 0, .slice (some ⟨w6.heap.size, 0, none⟩) 1 1] 35)) [Nd.mk 11 [40, 41] 0 [Np.slot items]] (.slice (some ⟨(w6.alloc (.cells #[.int .i64 1, .string ⟨#[]⟩, .int .i64 0, .slice A n cp] 35)).heap.size, 0, none⟩) 1 1)) at HT7
      have e7 : (w6.alloc (.cells #[.int .i64 1, .string ⟨#[]⟩, .int .i64 0, .slice A n cp] 35)).heap.size = w6.heap.size + 1 := by simp
      rw [e7] at HT7;clear e7;generalize ((w6.alloc (.cells #[.int .i64 1, .string ⟨#[]⟩, .int .i64 0, .slice A n cp] 35)).alloc (.cells #[.int .i64 11, .string ⟨#[40, 41]⟩, .int .i64 0, .slice (some ⟨w6.heap.size, 0, none⟩) 1 1] 35)) = W7 at hf7 hb7 HT7 ⊢;have HM7 := hid (HMa.out.trans (Mp.fresh hf7));have HF7 := hid hf7;have HB7 := hid hb7;clear hf7 hb7 r0 r1 hlt5;obtain ⟨p0, p1, y0, y1, hlt⟩ := Blk.two HB7.out;refine wpSeq_shut rfl (fun K hK => ?_);go_wp2_with fail
      refine wpMix_end ?_;go_wp2_with fail
      have hb8 : Blk _ w.heap.size 48 #[.int .i64 (i : Int), .int .i64 (er : Int)] := (HB7.out.put 0 (.int .i64 (i : Int))).put 1 (.int .i64 (er : Int));have hm8 : Mp c.g c.W0.heap.size w (put2 W7 w.heap.size (.int .i64 (i : Int)) (.int .i64 (er : Int))) := HM7.out.put2 (g := w.heap.size) (.inr (Nat.le_refl _)) _ _;have ht8 := touch2 W7 w.heap.size (.int .i64 (i : Int)) (.int .i64 (er : Int));obtain ⟨f0, f1, _⟩ := Blk.two hb8
      (try simp only [Exit.inBlock, Exit.then])
      refine bodyPost_ret (v := .tuple #[.slice (some ⟨w6.heap.size + 1, 0, none⟩) 1 1, failV i er]) (by simp [failV, results, Tryz.results70, go_sem, f0, f1]) rfl ?_
      rcases HEND.out with ⟨items, rest, k', rfl, rfl, rfl, rfl, htr, hdr, hkk, hp⟩ | ⟨rfl, he0⟩
      ·have hps := (hp.fresh HF7.out).mv ht8 (fun b hb => by have := HW0.out; subst hb; exact ⟨by omega, by omega, _, _, (by decide), HB7.out⟩)
       exact HQ.out _ _ ⟨_, 1, k', rfl, (HT7.out items (htr.base HSb.out)).other HB7.out (by decide) ht8, hdr, hkk, hps, hm8⟩
      ·exact HQ.out _ _ ⟨he0, _, _, _, rfl, hm8⟩
     | false =>
      cases m91 : Np.isM 91 (t :: r) with
      | true =>
       have htx := (isM_parts m91).2;have hs91 : (t.text == [91]) = true := by rw [htx]; rfl
       have HXX := hid (show pPrim c.E (f + 1) op (c.at k) = (pIn c.E f 93 op (c.at k)).map fun items => [.mk 11 [91, 93] 0 [Np.slot items]] from by
        rw [prim_eq f op HL.out];simp only [HX.out];rw [if_neg h4, if_neg h5, if_neg (by simp [m40]), if_pos m91])
       rw [HXX.out] at HQ HNE;clear h4 h5 htx;go_wp2_with fail
       refine (HA.out 40 _ (HF2.out.alloc (.cells #[.int .i64 (t.kind : Int), .string ⟨t.text.toArray⟩, .int .i64 (t.from_ : Int), .int .i64 (t.to_ : Int)] 107))).mono ?_;rintro _ w3 ⟨rfl, hf⟩;have HF3 := hid ((HF2.out.alloc (.cells #[.int .i64 (t.kind : Int), .string ⟨t.text.toArray⟩, .int .i64 (t.from_ : Int), .int .i64 (t.to_ : Int)] 107)).trans hf);have HB3 := hid (hf.blk (HBF2'.out.alloc (.cells #[.int .i64 (t.kind : Int), .string ⟨t.text.toArray⟩, .int .i64 (t.from_ : Int), .int .i64 (t.to_ : Int)] 107)) fun h => h);have HT3 := hid (hf.blk (Blk.new w2 107 #[.int .i64 (t.kind : Int), .string ⟨t.text.toArray⟩, .int .i64 (t.from_ : Int), .int .i64 (t.to_ : Int)]) fun h => h);clear hf;rw [m40];go_wp2_with fail
       refine (HA.out 91 _ HF3.out).mono ?_;rintro _ w4 ⟨rfl, hf⟩;have HF4 := hid (HF3.out.trans hf);have HB4 := hid (hf.blk HB3.out fun h => h);have HT4 := hid (hf.blk HT3.out fun h => h);clear hf;rw [m91];have t1 := HT4.out.cell 1;have hltt := HT4.out.lt;go_wp2_with fail
       clear t1 hltt;refine (HIN.out 93 w4 (H.out.fresh HF4.out) (R.map_out HNE.out)).mono ?_;intro e wa hres;have hparts := hres.parts (R.map_out HNE.out);clear hres;generalize pIn c.E f 93 op (c.at k) = X at HNE HQ hparts;obtain ⟨A, n, cp, i, er, rfl, hm, hend⟩ := hparts;have HMa := hid ((Mp.fresh HF4.out).trans hm);have HBa := hid (hm.blk HB4.out (by omega) (by decide));have HSa := hid (Nat.le_trans HF4.out.size hm.size);have HSb := hid (HF4.out.size);have HEND := hid hend;clear hm hend;unfold failV;go_wp2_with fail
       have hbe : Blk (wa.alloc (.cells #[.int .i64 (i : Int), .int .i64 (er : Int)] 48)) wa.heap.size 48 #[.int .i64 (i : Int), .int .i64 (er : Int)] := Blk.new _ _ _;have HFa := hid ((Touch.refl (fun _ => False) wa).alloc (.cells #[.int .i64 (i : Int), .int .i64 (er : Int)] 48));have hbr := HBa.out.alloc (.cells #[.int .i64 (i : Int), .int .i64 (er : Int)] 48);generalize (wa.alloc (.cells #[.int .i64 (i : Int), .int .i64 (er : Int)] 48)) = W5 at hbe HFa hbr ⊢;have r0 := cR (hbe.cell 0 |>.trans rfl);have r1 := cR (hbe.cell 1 |>.trans rfl);have hlt5 := hbe.lt;have HBR := hid hbr;clear hbe hbr;refine wp_region_mix [([(0, true), (1, true), (6, true), (2, false), (3, false), (4, true), (5, false), (7, true)], 8)] [] (by kernel_rfl) (fun _ _ d _ _ h => by cases d <;> exact h) (by kernel_rfl) ?_;refine wpMix_seg ?_
       repeat (refine wpSeq_plain rfl (fun K hK => ?_); go_simp; refine hK _ ?_; clear hK K)
       refine wpSeq_lone rfl (fun K hK => ?_);go_wp2_with fail
       refine (slot_any_n A n cp _).mono ?_;rintro _ w6 ⟨rfl, hf⟩;have HF6 := hid (show Fresh W5 w6 from Touch.ofN hf);clear hf;go_wp2_with fail
       refine hK _ _ (growing_fresh HF6.out) ?_;clear hK K;refine wpSeq_lone rfl (fun K hK => ?_);go_wp2_with fail
       refine hK _ _ (growing_fresh (HF6.out.alloc _)) ?_;clear hK K
       repeat (refine wpSeq_plain rfl (fun K hK => ?_); go_simp; refine hK _ ?_; clear hK K)
       refine wpSeq_lone rfl (fun K hK => ?_);go_wp2_with fail
       refine hK _ _ (growing_fresh ((HF6.out.alloc _).alloc _)) ?_;clear hK K
       repeat (refine wpSeq_plain rfl (fun K hK => ?_); go_simp; refine hK _ ?_; clear hK K)
       have HT7 := hid (fun (items : List Nd) (htr : TreT w.heap.size wa items (.slice A n cp)) => show TreT w.heap.size _ [Nd.mk 11 [91, 93] 0 [Np.slot items]] _ from
        TreT.lit (n := .mk 11 [91, 93] 0 [Np.slot items]) (TreT.lit (n := Np.slot items) ((htr.fresh HFa.out).fresh HF6.out) (Nat.le_trans HSa.out (Nat.le_trans HFa.out.size HF6.out.size)) (Nat.zero_le _)) (by
         have := Nat.le_trans HSa.out (Nat.le_trans HFa.out.size HF6.out.size);simp; omega) (by show 2 ≤ maxLen; simp [maxLen]))
       have hf7 := HFa.out.trans ((HF6.out.alloc (.cells #[.int .i64 1, .string ⟨#[]⟩, .int .i64 0, .slice A n cp] 35)).alloc (.cells #[.int .i64 11, .string ⟨#[91, 93]⟩, .int .i64 0, .slice (some ⟨w6.heap.size, 0, none⟩) 1 1] 35));have hb7 := hf7.blk HBa.out fun h => h
       change Hid (∀ items, TreT w.heap.size wa items (.slice A n cp) → TreT w.heap.size ((w6.alloc (.cells #[.int .i64 1, .string ⟨#[]⟩, .int .i64 0, .slice A n cp] 35)).alloc (.cells #[.int .i64 11, .string ⟨#[91, 93]⟩, .int .i64 0, .slice (some ⟨w6.heap.size, 0, none⟩) 1 1] 35)) [Nd.mk 11 [91, 93] 0 [Np.slot items]] (.slice (some ⟨(w6.alloc (.cells #[.int .i64 1, .string ⟨#[]⟩, .int .i64 0, .slice A n cp] 35)).heap.size, 0, none⟩) 1 1)) at HT7
       have e7 : (w6.alloc (.cells #[.int .i64 1, .string ⟨#[]⟩, .int .i64 0, .slice A n cp] 35)).heap.size = w6.heap.size + 1 := by simp
       rw [e7] at HT7;clear e7;generalize ((w6.alloc (.cells #[.int .i64 1, .string ⟨#[]⟩, .int .i64 0, .slice A n cp] 35)).alloc (.cells #[.int .i64 11, .string ⟨#[91, 93]⟩, .int .i64 0, .slice (some ⟨w6.heap.size, 0, none⟩) 1 1] 35)) = W7 at hf7 hb7 HT7 ⊢;have HM7 := hid (HMa.out.trans (Mp.fresh hf7));have HF7 := hid hf7;have HB7 := hid hb7;clear hf7 hb7 r0 r1 hlt5;obtain ⟨p0, p1, y0, y1, hlt⟩ := Blk.two HB7.out;refine wpSeq_shut rfl (fun K hK => ?_);go_wp2_with fail
       refine wpMix_end ?_;go_wp2_with fail
       have hb8 : Blk _ w.heap.size 48 #[.int .i64 (i : Int), .int .i64 (er : Int)] := (HB7.out.put 0 (.int .i64 (i : Int))).put 1 (.int .i64 (er : Int));have hm8 : Mp c.g c.W0.heap.size w (put2 W7 w.heap.size (.int .i64 (i : Int)) (.int .i64 (er : Int))) := HM7.out.put2 (g := w.heap.size) (.inr (Nat.le_refl _)) _ _;have ht8 := touch2 W7 w.heap.size (.int .i64 (i : Int)) (.int .i64 (er : Int));obtain ⟨f0, f1, _⟩ := Blk.two hb8
       (try simp only [Exit.inBlock, Exit.then])
       refine bodyPost_ret (v := .tuple #[.slice (some ⟨w6.heap.size + 1, 0, none⟩) 1 1, failV i er]) (by simp [failV, results, Tryz.results70, go_sem, f0, f1]) rfl ?_
       rcases HEND.out with ⟨items, rest, k', rfl, rfl, rfl, rfl, htr, hdr, hkk, hp⟩ | ⟨rfl, he0⟩
       ·have hps := (hp.fresh HF7.out).mv ht8 (fun b hb => by have := HW0.out; subst hb; exact ⟨by omega, by omega, _, _, (by decide), HB7.out⟩)
        exact HQ.out _ _ ⟨_, 1, k', rfl, (HT7.out items (htr.base HSb.out)).other HB7.out (by decide) ht8, hdr, hkk, hps, hm8⟩
       ·exact HQ.out _ _ ⟨he0, _, _, _, rfl, hm8⟩
      | false =>
       cases m123 : Np.isM 123 (t :: r) with
       | true =>
        have HXX := hid (show pPrim c.E (f + 1) op (c.at k) = pIn c.E f 125 op (c.at k) from by
         rw [prim_eq f op HL.out];simp only [HX.out];rw [if_neg h4, if_neg h5, if_neg (by simp [m40]), if_neg (by simp [m91]), if_pos m123])
        rw [HXX.out] at HQ HNE;clear h4 h5;go_wp2_with fail
        refine (HA.out 40 _ (HF2.out.alloc (.cells #[.int .i64 (t.kind : Int), .string ⟨t.text.toArray⟩, .int .i64 (t.from_ : Int), .int .i64 (t.to_ : Int)] 107))).mono ?_;rintro _ w3 ⟨rfl, hf⟩;have HF3 := hid ((HF2.out.alloc (.cells #[.int .i64 (t.kind : Int), .string ⟨t.text.toArray⟩, .int .i64 (t.from_ : Int), .int .i64 (t.to_ : Int)] 107)).trans hf);have HB3 := hid (hf.blk (HBF2'.out.alloc (.cells #[.int .i64 (t.kind : Int), .string ⟨t.text.toArray⟩, .int .i64 (t.from_ : Int), .int .i64 (t.to_ : Int)] 107)) fun h => h);have HT3 := hid (hf.blk (Blk.new w2 107 #[.int .i64 (t.kind : Int), .string ⟨t.text.toArray⟩, .int .i64 (t.from_ : Int), .int .i64 (t.to_ : Int)]) fun h => h);clear hf;rw [m40];go_wp2_with fail
        refine (HA.out 91 _ HF3.out).mono ?_;rintro _ w4 ⟨rfl, hf⟩;have HF4 := hid (HF3.out.trans hf);have HB4 := hid (hf.blk HB3.out fun h => h);have HT4 := hid (hf.blk HT3.out fun h => h);clear hf;rw [m91];go_wp2_with fail
        refine (HA.out 123 _ HF4.out).mono ?_;rintro _ w5 ⟨rfl, hf⟩;have HF5 := hid (HF4.out.trans hf);have HB5 := hid (hf.blk HB4.out fun h => h);have HT5 := hid (hf.blk HT4.out fun h => h);clear hf;rw [m123];go_wp2_with fail
        have HM2 := hid (Mp.fresh (g := c.g) (B := c.W0.heap.size) HF5.out);have HBF2 := HB5;generalize w5 = W2 at HM2 HBF2 HF5 ⊢;refine (HIN.out 125 W2 (H.out.fresh HF5.out) HNE.out).mono ?_;intro e w3 hres;generalize pIn c.E f 125 op (c.at k) = X at HNE HQ hres;cases X with
        | out => exact absurd rfl HNE.out
        | err i er =>
         obtain ⟨he0, A, n, cp, rfl, hm⟩ := hres;have HM3 := hid (HM2.out.trans hm);have HBF3 := hid (hm.blk HBF2.out (by omega) (by decide));have HE0 := hid he0;clear hm he0;obtain ⟨q0, q1, z0, z1, hlt3⟩ := Blk.two HBF3.out
         (try unfold failV)
         go_wp2_with fail
         have n1 := HBF3.out.self2 (.int .i64 (i : Int)) (.int .i64 (er : Int));have hm4 : Mp c.g c.W0.heap.size w (put2 w3 (w.heap.size) (.int .i64 (i : Int)) (.int .i64 (er : Int))) := HM3.out.put2 (g := w.heap.size) (.inr (by omega)) (.int .i64 (i : Int)) (.int .i64 (er : Int));have ht4 := touch2 w3 (w.heap.size) (.int .i64 (i : Int)) (.int .i64 (er : Int));simp only [put2] at n1 hm4 ht4;generalize (World.setCell (World.setCell w3 ⟨w.heap.size, 0, none⟩ _) ⟨w.heap.size, 1, none⟩ _) = W4 at n1 hm4 ht4 ⊢;obtain ⟨f0, f1, _⟩ := Blk.two n1
         (try simp only [Exit.inBlock, Exit.then])
         refine bodyPost_ret (v := .tuple #[.slice A n cp, failV i er]) (by simp [failV, results, Tryz.results70, go_sem, f0, f1]) rfl ?_;exact HQ.out _ _ ⟨HE0.out, A, n, cp, rfl, hm4⟩
        | ok items rest =>
         obtain ⟨A, cp, k', rfl, htr, hdr, hkk, hp, hm⟩ := hres;have HM3 := hid (HM2.out.trans hm);have HBF3 := hid (hm.blk HBF2.out (by omega) (by decide));have HTR := hid htr;have HDR := hid hdr;have HKK := hid hkk;have HP3 := hid hp;clear hm htr hdr hkk hp;obtain ⟨q0, q1, z0, z1, hlt3⟩ := Blk.two HBF3.out
         (try unfold failV)
         go_wp2_with fail
         have n1 := HBF3.out.self2 (.int .i64 0) (.int .i64 0);have hm4 : Mp c.g c.W0.heap.size w (put2 w3 (w.heap.size) (.int .i64 0) (.int .i64 0)) := HM3.out.put2 (g := w.heap.size) (.inr (by omega)) (.int .i64 0) (.int .i64 0);have ht4 := touch2 w3 (w.heap.size) (.int .i64 0) (.int .i64 0);simp only [put2] at n1 hm4 ht4;generalize (World.setCell (World.setCell w3 ⟨w.heap.size, 0, none⟩ _) ⟨w.heap.size, 1, none⟩ _) = W4 at n1 hm4 ht4 ⊢;obtain ⟨f0, f1, _⟩ := Blk.two n1
         (try simp only [Exit.inBlock, Exit.then])
         refine bodyPost_ret (v := .tuple #[.slice A items.length cp, failV 0 0]) (by simp [failV, results, Tryz.results70, go_sem, f0, f1]) rfl ?_;have hps := HP3.out.mv ht4 (fun b hb => by have := HW0.out; subst hb; exact ⟨by omega, by omega, _, _, (by decide), HBF3.out⟩);exact HQ.out _ _ ⟨A, cp, k', rfl, (HTR.out.base HM2.out.size).other HBF3.out (by decide) ht4, HDR.out, by have := HKK.out; (try simp only [Kp.up_p] at this ⊢); omega, hps, hm4⟩
       | false =>
        have HXX := hid (show pPrim c.E (f + 1) op (c.at k) = .err (Np.place c.en (t :: r)) 3 from by
         rw [prim_eq f op HL.out];simp only [HX.out];rw [if_neg h4, if_neg h5, if_neg (by simp [m40]), if_neg (by simp [m91]), if_neg (by simp [m123])])
        rw [HXX.out] at HQ;clear h4 h5;go_wp2_with fail
        refine (HA.out 40 _ (HF2.out.alloc (.cells #[.int .i64 (t.kind : Int), .string ⟨t.text.toArray⟩, .int .i64 (t.from_ : Int), .int .i64 (t.to_ : Int)] 107))).mono ?_;rintro _ w3 ⟨rfl, hf⟩;have HF3 := hid ((HF2.out.alloc (.cells #[.int .i64 (t.kind : Int), .string ⟨t.text.toArray⟩, .int .i64 (t.from_ : Int), .int .i64 (t.to_ : Int)] 107)).trans hf);have HB3 := hid (hf.blk (HBF2'.out.alloc (.cells #[.int .i64 (t.kind : Int), .string ⟨t.text.toArray⟩, .int .i64 (t.from_ : Int), .int .i64 (t.to_ : Int)] 107)) fun h => h);have HT3 := hid (hf.blk (Blk.new w2 107 #[.int .i64 (t.kind : Int), .string ⟨t.text.toArray⟩, .int .i64 (t.from_ : Int), .int .i64 (t.to_ : Int)]) fun h => h);clear hf;rw [m40];go_wp2_with fail
        refine (HA.out 91 _ HF3.out).mono ?_;rintro _ w4 ⟨rfl, hf⟩;have HF4 := hid (HF3.out.trans hf);have HB4 := hid (hf.blk HB3.out fun h => h);have HT4 := hid (hf.blk HT3.out fun h => h);clear hf;rw [m91];go_wp2_with fail
        refine (HA.out 123 _ HF4.out).mono ?_;rintro _ w5 ⟨rfl, hf⟩;have HF5 := hid (HF4.out.trans hf);have HB5 := hid (hf.blk HB4.out fun h => h);have HT5 := hid (hf.blk HT4.out fun h => h);clear hf;rw [m123];go_wp2_with fail
        refine (HR.out _ HF5.out).mono ?_;rintro _ w9 ⟨rfl, hf⟩;have HM3 := hid (Mp.fresh (g := c.g) (B := c.W0.heap.size) (HF5.out.trans hf));have HBF3 := hid (hf.blk HB5.out fun h => h);clear hf;obtain ⟨q0, q1, z0, z1, hlt3⟩ := Blk.two HBF3.out
        (try unfold failV)
        go_wp2_with fail
        have n1 := HBF3.out.self2 (.int .i64 (Np.place c.en (t :: r) : Int)) (.int .i64 3);have hm4 : Mp c.g c.W0.heap.size w (put2 w9 (w.heap.size) (.int .i64 (Np.place c.en (t :: r) : Int)) (.int .i64 3)) := HM3.out.put2 (g := w.heap.size) (.inr (by omega)) (.int .i64 (Np.place c.en (t :: r) : Int)) (.int .i64 3);have ht4 := touch2 w9 (w.heap.size) (.int .i64 (Np.place c.en (t :: r) : Int)) (.int .i64 3);simp only [put2] at n1 hm4 ht4;generalize (World.setCell (World.setCell w9 ⟨w.heap.size, 0, none⟩ _) ⟨w.heap.size, 1, none⟩ _) = W4 at n1 hm4 ht4 ⊢;obtain ⟨f0, f1, _⟩ := Blk.two n1
        (try simp only [Exit.inBlock, Exit.then])
        refine bodyPost_ret (v := .tuple #[.slice none 0 0, failV (Np.place c.en (t :: r)) 3]) (by simp [failV, results, Tryz.results70, go_sem, f0, f1]) rfl ?_;exact HQ.out _ _ ⟨by decide, none, 0, 0, rfl, hm4⟩
end Go.Proofs.YtomibmenojdieaaGreat
