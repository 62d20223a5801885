/- Part 15 of 31 of a proof; its texts, joined: NyF, NyG. No condition. -/
import Derived.Test.YtnamnmpnoiodnaaYa14
import Derived.Test.YtnamnmpnoiodnaaYa4
set_option maxRecDepth 100000
set_option maxHeartbeats 400000
namespace Go.Proofs.Ytnamnmpnoiodnaa
open Go.RowKit
open Tr (Nd)
open Lx (PTok)
open Mcr (R pRow pIn pScript pItem pPrim pArgs pName pCells pArg)
attribute [local go_sem] stillV stillUpon
def ItemsE (c : Cf) (k : Kp) (op : List Nat) (r : R (List Nd)) (w : World) (e : Ending) (w' : World) : Prop :=
 match r with
 | .ok items rest => ∃ A cp k', e = .returned (.tuple #[.slice A items.length cp, failV 0 0]) ∧ TreT w.heap.size w' items (.slice A items.length cp) ∧ c.at k' = rest ∧ k.p ≤ k'.p ∧ Ps c k' op w' ∧ Mp c.g c.W0.heap.size w w'
 | .err i er => er ≠ 0 ∧ ∃ A n cp, e = .returned (.tuple #[.slice A n cp, failV i er]) ∧ Mp c.g c.W0.heap.size w w'
 | .out => True
def nodeV (n : Nd) (A : Option Addr) (cp : Nat) : Value := .agg #[.int .i64 n.kind, .string ⟨n.text.toArray⟩, .int .i64 n.cols, .slice A n.kids.length cp]
def NodeE (c : Cf) (k : Kp) (op : List Nat) (r : R Nd) (w : World) (e : Ending) (w' : World) : Prop :=
 match r with
 | .ok a rest => ∃ A cp k', e = .returned (.tuple #[nodeV a A cp, failV 0 0]) ∧ TreT w.heap.size w' a.kids (.slice A a.kids.length cp) ∧ a.text.length ≤ maxLen ∧ c.at k' = rest ∧ k.p ≤ k'.p ∧ Ps c k' op w' ∧ Mp c.g c.W0.heap.size w w'
 | .err i er => er ≠ 0 ∧ ∃ n A cp, e = .returned (.tuple #[nodeV n A cp, failV i er]) ∧ Mp c.g c.W0.heap.size w w'
 | .out => True
def ScriptE (c : Cf) (k : Kp) (op : List Nat) (r : R (Option Nd)) (w : World) (e : Ending) (w' : World) : Prop :=
 match r with
 | .ok none rest => ∃ k', e = .returned (.tuple #[.agg #[.int .i64 0, .string ⟨#[]⟩, .int .i64 0, .slice none 0 0], .bool false, failV 0 0]) ∧ c.at k' = rest ∧ k.p ≤ k'.p ∧ Ps c k' op w' ∧ Mp c.g c.W0.heap.size w w'
 | .ok (some a) rest => ∃ A cp k', e = .returned (.tuple #[nodeV a A cp, .bool true, failV 0 0]) ∧ TreT w.heap.size w' a.kids (.slice A a.kids.length cp) ∧ a.text.length ≤ maxLen ∧ c.at k' = rest ∧ k.p ≤ k'.p ∧ Ps c k' op w' ∧ Mp c.g c.W0.heap.size w w'
 | .err i er => er ≠ 0 ∧ ∃ n A cp, e = .returned (.tuple #[nodeV n A cp, .bool true, failV i er]) ∧ Mp c.g c.W0.heap.size w w'
 | .out => True
theorem isM_lt {c : Cf} {k : Kp} {b : UInt8} (h : Np.isM b (c.at k).l = true) : k.p < c.T.length := by
 rcases Nat.lt_or_ge k.p c.T.length with h1 | h1
 ·exact h1
 ·rw [Cf.at_l, List.drop_eq_nil_of_le h1] at h; cases h
theorem drop_lt {c : Cf} {k : Kp} (h : (c.at k).l ≠ []) : k.p < c.T.length := by
 rcases Nat.lt_or_ge k.p c.T.length with h1 | h1
 ·exact h1
 ·rw [Cf.at_l, List.drop_eq_nil_of_le h1] at h; exact absurd rfl h
def RowN (c : Cf) (f : Nat) : Prop := ∀ (k : Kp) (op : List Nat) (w : World), Ps c k op w → op.length ≤ k.p → pRow c.E f op (c.at k) ≠ .out → Calls Try.prog 27 #[pp0 c] w (ItemsE c k op (pRow c.E f op (c.at k)) w)
def EnclosedN (c : Cf) (f : Nat) : Prop := ∀ (k : Kp) (op : List Nat) (b : UInt8) (w : World), Ps c k op w → op.length ≤ k.p → k.p < c.T.length → pIn c.E f b op (c.at k) ≠ .out → Calls Try.prog 60 #[pp0 c, .string ⟨#[b]⟩] w (ItemsE c k op (pIn c.E f b op (c.at k)) w)
def ArgumentN (c : Cf) (f : Nat) : Prop := ∀ (k : Kp) (op : List Nat) (w : World), Ps c k op w → op.length ≤ k.p → pArg c.E f op (c.at k) ≠ .out → Calls Try.prog 75 #[pp0 c] w (NodeE c k op (pArg c.E f op (c.at k)) w)
def ScriptN (c : Cf) (f : Nat) : Prop := ∀ (k : Kp) (op : List Nat) (b : UInt8) (w : World), Ps c k op w → op.length ≤ k.p → pScript c.E f b op (c.at k) ≠ .out → Calls Try.prog 64 #[pp0 c, .string ⟨#[b]⟩] w (ScriptE c k op (pScript c.E f b op (c.at k)) w)
theorem Mp.two {g B : Nat} {a b : World} {k : Nat} {t : TypeId} {x y : Value} (h : Mp g B a b) (hb : Blk a k t #[x, y]) (hk : k ≠ g) (ht : t ≠ 3) : Blk b k t #[x, y] := h.blk hb hk ht
theorem TreT.mp {B : Nat} {c : Cf} {k : Kp} {op : List Nat} {w w' : World} {ks : List Nd} {v : Value} (h : TreT B w ks v) (hm : Mp c.g c.W0.heap.size w w') (hp : Ps c k op w) : TreT B w' ks v := by
 obtain ⟨ov, hb, _⟩ := hp.box;refine h.mv hm fun b cs fr hs _ e => ?_
 rcases hs with rfl | ⟨_, cs', fr', h3⟩
 ·unfold Blk at hb
  rw [hb] at e;cases e
 ·rw [h3] at e
  cases e
def put2 (w : World) (g : Nat) (x0 x1 : Value) : World := (w.setCell ⟨g, 0, none⟩ x0).setCell ⟨g, 1, none⟩ x1
theorem Blk.self2 {w : World} {g : Nat} {t : TypeId} {a b : Value} (h : Blk w g t #[a, b]) (x0 x1 : Value) : Blk (put2 w g x0 x1) g t #[x0, x1] := (h.put 0 x0).put 1 x1
theorem Blk.far2 {w : World} {L g : Nat} {t : TypeId} {cs : Array Value} (h : Blk w L t cs) (hne : L ≠ g) (x0 x1 : Value) : Blk (put2 w g x0 x1) L t cs := (h.far (p := ⟨g, 0, none⟩) hne _).far (p := ⟨g, 1, none⟩) hne _
theorem Touch.put2 {S : Nat → Prop} {w w' : World} {g : Nat} (h : Touch S w w') (hg : S g ∨ w.heap.size ≤ g) (x0 x1 : Value) : Touch S w (put2 w' g x0 x1) := (h.setCell (p := ⟨g, 0, none⟩) hg _).setCell (p := ⟨g, 1, none⟩) hg _
theorem Ps.put2 {c : Cf} {k : Kp} {op : List Nat} {w : World} (h : Ps c k op w) {b : Nat} {t : TypeId} {y0 y1 : Value} (hb : Blk w b t #[y0, y1]) (ht : t ≠ 3) (hne : b ≠ c.g) (hB : c.W0.heap.size ≤ b) (x0 x1 : Value) : Ps c k op (put2 w b x0 x1) :=
 (h.put hb ht hne hB 0 x0).put (hb.put 0 x0) ht hne hB 1 x1
theorem Ps.put4 {c : Cf} {k : Kp} {op : List Nat} {w : World} (h : Ps c k op w) {b : Nat} {t : TypeId} {y0 y1 y2 y3 : Value} (hb : Blk w b t #[y0, y1, y2, y3]) (ht : t ≠ 3) (hne : b ≠ c.g) (hB : c.W0.heap.size ≤ b) (x0 x1 x2 x3 : Value) : Ps c k op (put4 w b x0 x1 x2 x3) :=
 (((h.put hb ht hne hB 0 x0).put (hb.put 0 x0) ht hne hB 1 x1).put ((hb.put 0 x0).put 1 x1) ht hne hB 2 x2).put (((hb.put 0 x0).put 1 x1).put 2 x2) ht hne hB 3 x3
theorem touch2 (w : World) (b : Nat) (x0 x1 : Value) : Touch (fun k => k = b) w (put2 w b x0 x1) := (Touch.refl (fun k => k = b) w).put2 (.inl rfl) x0 x1
theorem touch4 (w : World) (b : Nat) (x0 x1 x2 x3 : Value) : Touch (fun k => k = b) w (put4 w b x0 x1 x2 x3) := (Touch.refl (fun k => k = b) w).put4 (.inl rfl) x0 x1 x2 x3
theorem TreT.far {B : Nat} {w w' : World} {b : Nat} {ks : List Nd} {v : Value} (h : TreT B w ks v) (ht : Touch (fun k => k = b) w w') (hb : b < B) : TreT B w' ks v := h.mv ht fun k _ _ hk hB => by omega
theorem TreT.other {B : Nat} {w w' : World} {b : Nat} {t : TypeId} {cs : Array Value} {ks : List Nd} {v : Value} (h : TreT B w ks v) (hb : Blk w b t cs) (ht : t ≠ 32) (hw : Touch (fun k => k = b) w w') : TreT B w' ks v :=
 h.mv hw fun k cs' fr hk _ e => by
  subst hk;unfold Blk at hb;rw [hb] at e;cases e;exact ht rfl
theorem Calls.via {P : Program} {f : FuncId} {args : Array Value} {w : World} {R : Ending → World → Prop} (h : ∀ Q : Ending → World → Prop, (∀ e w', R e w' → Q e w') → Calls P f args w Q) : Calls P f args w R := h R fun _ _ h => h
theorem fail_ne {e : Nat} (h : e ≠ 0) : ((e : Int) == (0 : Int)) = false := by rw [beq_eq_false_iff_ne]; omega
theorem enclosed_n (c : Cf) (hc : c.Good) (f : Nat) (hrow : RowN c f) : EnclosedN c (f + 1) := by
 intro k op b w h hop hk hne;have htl := hc.tl;have HBE := hid (fun (w' : World) (hf : Fresh w w') => begin_any_n c hc k op w' (h.fresh hf) hk (by omega));have HR := hid hrow;have HF := hid (fun (k' : Kp) (w' : World) (h : Ps c k' (op ++ [Np.place c.en (c.at k).l]) w') (hk : k'.p < c.T.length ∨ Np.isM b (c.at k').l = false) => finish_any_n c hc k' op _ b w' h hk);have H := hid h;have HOP := hid hop;have hgl : c.g < w.heap.size := h.glt;have HW0 := hid h.low.size
 have hr : pIn c.E (f + 1) b op (c.at k) = (pRow c.E f (op ++ [Np.place c.en (c.at k).l]) (c.at k.up)).bind fun items r => if Np.isM b r.l then .ok items r.up else Mcr.refuse c.E r := by
  rw [pIn, Cf.at_up]
 rw [hr] at hne ⊢;generalize Np.place c.en (c.at k).l = pl at *;have HNE := hid hne;refine Calls.via fun Q hQ => ?_
 have HQ := hid hQ;clear hne hr hrow h hop hc hQ;go_enter Try.func60, Try.ntmps60;go_wp2_with fail
 refine (HBE.out _ ((Touch.refl _ _).alloc _)).mono ?_;rintro _ w1 ⟨rfl, hp1, hm1⟩;have HP1 := hid hp1;have HM1 := hid ((Mp.fresh ((Touch.refl _ w).alloc _)).trans hm1);have HB1 := hid (hm1.blk (Blk.new w 56 #[.int .i64 0, .int .i64 0]) (by omega) (by decide));clear hp1 hm1;go_wp2_with fail
 refine (HR.out k.up (op ++ [pl]) _ HP1.out (by have := HOP.out; simp; omega) (fun h => HNE.out (by rw [h]; rfl))).mono ?_;intro e w2 hres;generalize pRow c.E f (op ++ [pl]) (c.at k.up) = r at *;cases r with
 | out => exact absurd rfl HNE.out
 | err i er =>
  obtain ⟨he0, A, n, cp, rfl, hm⟩ := hres;have HE0 := hid he0;have e0 := fail_ne he0;have HM2 := hid (HM1.out.trans hm);have HB2 := hid (hm.blk HB1.out (by omega) (by decide));clear hm he0;unfold failV;go_wp2_with fail
  have hbe : Blk (w2.alloc (.cells #[.int .i64 (i : Int), .int .i64 (er : Int)] 56)) w2.heap.size 56 #[.int .i64 (i : Int), .int .i64 (er : Int)] := Blk.new _ _ _;have hbr : Blk (w2.alloc (.cells #[.int .i64 (i : Int), .int .i64 (er : Int)] 56)) w.heap.size 56 #[.int .i64 0, .int .i64 0] := HB2.out.alloc _;have hmr := HM2.out.alloc (.cells #[.int .i64 (i : Int), .int .i64 (er : Int)] 56);generalize (w2.alloc (.cells #[.int .i64 (i : Int), .int .i64 (er : Int)] 56)) = W3 at hbe hbr hmr ⊢;have r0 := cR (hbe.cell 0 |>.trans rfl);have r1 := cR (hbe.cell 1 |>.trans rfl);have hlt3 := hbe.lt;have HBR := hid hbr;have HMR := hid hmr;clear hbe hbr hmr;refine wp_region_mix [([(0, true), (1, true)], 2)] [] (by kernel_rfl) (fun _ _ d _ _ h => by cases d <;> exact h) (by kernel_rfl) ?_;refine wpMix_seg ?_
  repeat (refine wpSeq_plain rfl (fun K hK => ?_); go_simp; refine hK _ ?_; clear hK K)
  obtain ⟨p0, p1, y0, y1, hlt⟩ := Blk.two (HBR.out.drewN 1);refine wpSeq_shut rfl (fun K hK => ?_);go_wp2_with fail
  refine wpMix_end ?_;go_wp2_with fail
  have hb5 : Blk _ (w.heap.size) 56 #[.int .i64 (i : Int), .int .i64 (er : Int)] := ((HBR.out.drewN 1).put 0 (.int .i64 (i : Int))).put 1 (.int .i64 (er : Int));have hm5 := ((HMR.out.drewN 1).setCell (p := ⟨w.heap.size, 0, none⟩) (.inr (by show w.heap.size ≤ w.heap.size; omega)) (.int .i64 (i : Int))).setCell (p := ⟨w.heap.size, 1, none⟩) (.inr (by show w.heap.size ≤ w.heap.size; omega)) (.int .i64 (er : Int));obtain ⟨f0, f1, _⟩ := Blk.two hb5
  (try simp only [Exit.inBlock, Exit.then])
  refine bodyPost_ret (v := .tuple #[.slice none 0 0, failV i er]) (by simp [failV, results, Try.results60, go_sem, f0, f1]) rfl ?_;exact HQ.out _ _ ⟨HE0.out, none, 0, 0, rfl, hm5⟩
 | ok items rest => 
  obtain ⟨A, cp, k', rfl, htr, hdr, hkk, hp, hm⟩ := hres;have HTR := hid htr;have HP2 := hid hp;have HKK := hid hkk;have HM2 := hid (HM1.out.trans hm);have HB2 := hid (hm.blk HB1.out (by omega) (by decide));clear hm hp htr hkk;unfold failV;go_wp2_with fail
  have hmb := HM2.out.alloc (.cells #[.int .i64 0, .int .i64 0] 56);have hfb : Fresh w2 (w2.alloc (.cells #[.int .i64 0, .int .i64 0] 56)) := (Touch.refl _ _).alloc _;have hbb : Blk (w2.alloc (.cells #[.int .i64 0, .int .i64 0] 56)) w2.heap.size 56 #[.int .i64 0, .int .i64 0] := Blk.new _ _ _;generalize (w2.alloc (.cells #[.int .i64 0, .int .i64 0] 56)) = W3 at hmb hfb hbb ⊢;have HM3 := hid (show Mp c.g c.W0.heap.size w W3 from hmb);have HB3 := hid (hfb.blk HB2.out (fun h => h));have HE3 := hid hbb;have HTR3 := hid (HTR.out.fresh hfb);have HP3 := hid (HP2.out.fresh hfb);have hlt22 := HB2.out.lt;have hgl2 : c.g < w2.heap.size := HP2.out.glt
  have hnm : k'.p < c.T.length ∨ Np.isM b (c.at k').l = false := by
   cases hm : Np.isM b (c.at k').l with
   | true => exact .inl (isM_lt hm)
   | false => exact .inr rfl
  have HNM := hid hnm;subst hdr
  have HBND := hid (show (Mcr.R.ok items (c.at k')).bind (fun items r => if Np.isM b r.l = true then Mcr.R.ok items r.up else Mcr.refuse c.E r) = if Np.isM b (c.at k').l = true then .ok items (c.at k'.up) else .err (Np.place c.en (c.at k').l) 3 from by
   rw [← Cf.at_up]; rfl)
  rw [HBND.out] at HQ;clear hmb hfb hbb HNE HTR HB2 HP2 HBND hnm HBE HR;refine (HF.out k' _ HP3.out HNM.out).mono ?_;rintro _ w4 (⟨hm, rfl, hp, hmv⟩ | ⟨hm, rfl, hmv⟩)
  ·rw [hm, if_pos rfl] at HQ
   have HP4 := hid hp;have HM4 := hid (HM3.out.trans hmv);have HB4 := hid (hmv.blk HB3.out (by omega) (by decide));have hbe := hmv.blk HE3.out (by omega) (by decide);have HTR4 := hid (TreT.mp HTR3.out hmv HP3.out);have HBE4 := hid hbe;obtain ⟨p0, p1, y0, y1, hlt⟩ := Blk.two hbe;obtain ⟨s0, s1, x0, x1, hlt2⟩ := Blk.two HB4.out;clear hp hmv hbe hm HF;unfold failV;go_wp2_with fail
   have z5 := HB4.out.far2 (Nat.ne_of_lt hlt22) (.int .i64 0) (.int .i64 0);have hb5 := z5.self2 (.int .i64 0) (.int .i64 0);have hps := (HP4.out.put2 HBE4.out (by decide) (by omega) (by have := HW0.out; omega) (.int .i64 0) (.int .i64 0)).put2 z5 (by decide) (by omega) HW0.out (.int .i64 0) (.int .i64 0);have hm5 := (HM4.out.put2 (g := w2.heap.size) (.inr (by omega)) (.int .i64 0) (.int .i64 0)).put2 (.inr (Nat.le_refl w.heap.size)) (.int .i64 0) (.int .i64 0);have htr5 := (HTR4.out.other HBE4.out (by decide) (touch2 _ _ (.int .i64 0) (.int .i64 0))).other z5 (by decide) (touch2 _ _ (.int .i64 0) (.int .i64 0));obtain ⟨f0, f1, _⟩ := Blk.two hb5;simp only [put2] at f0 f1
   (try simp only [Exit.inBlock, Exit.then])
   refine bodyPost_ret (v := .tuple #[.slice A items.length cp, failV 0 0]) (by simp [failV, results, Try.results60, go_sem, f0, f1]) rfl ?_;exact HQ.out _ _ ⟨A, cp, k'.up, rfl, htr5.base (by have := HM1.out.size; omega), rfl, by have := HKK.out; (try simp only [Kp.up_p] at this ⊢); omega, hps, hm5⟩
  ·rw [hm, if_neg (by simp)] at HQ
   generalize Np.place c.en (c.at k').l = pq at *;have HM4 := hid (HM3.out.trans hmv);have HB4 := hid (hmv.blk HB3.out (by omega) (by decide));have hbe := hmv.blk HE3.out (by omega) (by decide);have HBE4 := hid hbe;obtain ⟨p0, p1, y0, y1, hlt⟩ := Blk.two hbe;clear hmv hbe hm HF HNM;unfold failV;go_wp2_with fail
   have hbe : Blk _ w2.heap.size 56 #[.int .i64 (pq : Int),   .int .i64 3] := (HBE4.out.put 0 (.int .i64 (pq : Int))).put 1 (.int .i64 3);have hbr : Blk _ w.heap.size 56 #[.int .i64 0, .int .i64 0] := ((HB4.out.far (p := ⟨w2.heap.size, 0, none⟩) (Nat.ne_of_lt hlt22) (.int .i64 (pq : Int))).far (p := ⟨w2.heap.size, 1, none⟩) (Nat.ne_of_lt hlt22) (.int .i64 3));have hmr := ((HM4.out.setCell (p := ⟨w2.heap.size, 0, none⟩) (.inr (by show w.heap.size ≤ w2.heap.size; omega)) (.int .i64 (pq : Int))).setCell (p := ⟨w2.heap.size, 1, none⟩) (.inr (by show w.heap.size ≤ w2.heap.size; omega)) (.int .i64 3));generalize ((w4.setCell ⟨w2.heap.size, 0, none⟩ (.int .i64 (pq : Int))).setCell ⟨w2.heap.size, 1, none⟩ (.int .i64 3)) = W3 at hbe hbr hmr ⊢;have r0 := cR (hbe.cell 0 |>.trans rfl);have r1 := cR (hbe.cell 1 |>.trans rfl);have hlt3 := hbe.lt;have HBR := hid hbr;have HMR := hid hmr;clear hbe hbr hmr;refine wp_region_mix [([(0, true), (1, true)], 2)] [] (by kernel_rfl) (fun _ _ d _ _ h => by cases d <;> exact h) (by kernel_rfl) ?_;refine wpMix_seg ?_
   repeat (refine wpSeq_plain rfl (fun K hK => ?_); go_simp; refine hK _ ?_; clear hK K)
   obtain ⟨p0, p1, y0, y1, hlt⟩ := Blk.two (HBR.out.drewN 1);refine wpSeq_shut rfl (fun K hK => ?_);go_wp2_with fail
   refine wpMix_end ?_;go_wp2_with fail
   have hb5 : Blk _ (w.heap.size) 56 #[.int .i64 (pq : Int), .int .i64 3] := ((HBR.out.drewN 1).put 0 (.int .i64 (pq : Int))).put 1 (.int .i64 3);have hm5 := ((HMR.out.drewN 1).setCell (p := ⟨w.heap.size, 0, none⟩) (.inr (by show w.heap.size ≤ w.heap.size; omega)) (.int .i64 (pq : Int))).setCell (p := ⟨w.heap.size, 1, none⟩) (.inr (by show w.heap.size ≤ w.heap.size; omega)) (.int .i64 3);obtain ⟨f0, f1, _⟩ := Blk.two hb5
   (try simp only [Exit.inBlock, Exit.then])
   refine bodyPost_ret (v := .tuple #[.slice none 0 0, failV pq 3]) (by simp [failV, results, Try.results60, go_sem, f0, f1]) rfl ?_;exact HQ.out _ _ ⟨by decide, none, 0, 0, rfl, hm5⟩
theorem Ps.mv {c : Cf} {k : Kp} {op : List Nat} {w w' : World} {S : Nat → Prop} (h : Ps c k op w) (ht : Touch S w w') (hS : ∀ b, S b → b ≠ c.g ∧ c.W0.heap.size ≤ b ∧ ∃ t cs, t ≠ 3 ∧ Blk w b t cs) : Ps c k op w' := by
 obtain ⟨ov, hb, ho⟩ := h.box;refine ⟨h.low.trans' ht fun i hi => .inr (hS i hi).2.1, ⟨ov, ht.blk hb fun hs => (hS _ hs).1 rfl, ownsRow_touch ho ht fun b hb' hs => ?_⟩, h.le, h.nl⟩;obtain ⟨_, cur, h2⟩ := owns_type ho hb';obtain ⟨t, cs, h3, h4⟩ := (hS b hs).2.2;unfold Blk at h4;rw [h4] at h2;cases h2;exact h3 rfl
abbrev zeroN : Array Value := #[.int .i64 0, .string ⟨#[]⟩, .int .i64 0, .slice none 0 0]
abbrev nodeC (n : Nd) (A : Option Addr) (cp : Nat) : Array Value := #[.int .i64 n.kind, .string ⟨n.text.toArray⟩, .int .i64 n.cols, .slice A n.kids.length cp]
theorem script_n (c : Cf) (hc : c.Good) (f : Nat) (harg : ArgumentN c f) : ScriptN c (f + 1) := by
 intro k op b w h hop hne;have HA := hid (fun (w' : World) (hf : Fresh w w') => at_any_n c hc k op b w' (h.fresh hf));have HARG := hid harg;have htl := hc.tl;have H := hid h;have HOP := hid hop;have hgl : c.g < w.heap.size := h.glt;have HW0 := hid h.low.size;have hr : pScript c.E (f + 1) b op (c.at k) = if Np.isM b (c.at k).l then (pArg c.E f op (c.at k.up)).map some else .ok none (c.at k) := by rw [pScript, Cf.at_up]
 rw [hr] at hne ⊢;have HNE := hid hne;refine Calls.via fun Q hQ => ?_
 have HQ := hid hQ;have hlt := @isM_lt c k b;clear hne hr harg h hop hc hQ;cases hm : Np.isM b (c.at k).l with
 | false =>
  rw [hm] at HQ HA;rw [if_neg (by simp)] at HQ;clear hm hlt HNE;go_enter Try.func64, Try.ntmps64;go_wp2_with fail
  refine (HA.out _ (((Touch.refl _ _).alloc _).alloc _)).mono ?_;rintro _ w1 ⟨rfl, hf⟩;have HF := hid (show Fresh w w1 from Touch.pre (Touch.pre hf));have HBN := hid (hf.blk ((Blk.new w 32 zeroN).alloc (.cells #[.int .i64 0, .int .i64 0] 56)) (fun h => h));have HBF := hid (hf.blk (Blk.new2 w (.cells zeroN 32) 56 #[.int .i64 0, .int .i64 0]) (fun h => h));obtain ⟨p0, p1, p2, p3, y0, y1, y2, y3, hlt0⟩ := Blk.four HBN.out;obtain ⟨q0, q1, z0, z1, hlt1⟩ := Blk.two HBF.out;clear hf;go_wp2_with fail
  have n1 := HBN.out.self4 (.int .i64 0) (.string ⟨#[]⟩) (.int .i64 0) (.slice none 0 0);have hne : w.heap.size ≠ w.heap.size + 1 := by omega
  have n2 := HBF.out.far4 (Ne.symm hne) (.int .i64 0) (.string ⟨#[]⟩) (.int .i64 0) (.slice none 0 0);have n3 := n1.far2 hne (.int .i64 0) (.int .i64 0);have n4 := n2.self2 (.int .i64 0) (.int .i64 0);have hps := ((H.out.fresh HF.out).put4 HBN.out (by decide) (by omega) HW0.out (.int .i64 0) (.string ⟨#[]⟩) (.int .i64 0) (.slice none 0 0)).put2 n2 (by decide) (by omega) (by have := HW0.out; omega) (.int .i64 0) (.int .i64 0);have hm5 : Mp c.g c.W0.heap.size w _ := ((Mp.fresh HF.out).put4 (g := w.heap.size) (.inr (Nat.le_refl _)) (.int .i64 0) (.string ⟨#[]⟩) (.int .i64 0) (.slice none 0 0)).put2 (g := w.heap.size + 1) (.inr (by omega)) (.int .i64 0) (.int .i64 0);obtain ⟨g0, g1, g2, g3, _⟩ := Blk.four n3;obtain ⟨f0, f1, _⟩ := Blk.two n4;simp only [put2, put4] at g0 g1 g2 g3 f0 f1
  (try simp only [Exit.inBlock, Exit.then])
  refine bodyPost_ret (v := .tuple #[.agg zeroN, .bool false, failV 0 0]) (by simp [failV, results, Try.results64, go_sem, f0, f1, g0, g1, g2, g3]) rfl ?_;exact HQ.out _ _ ⟨k, rfl, rfl, Nat.le_refl _, hps, hm5⟩
 | true =>
  have HK := hid (hlt hm);rw [hm] at HQ HA HNE;rw [if_pos rfl] at HQ HNE;clear hm hlt;have e3 : ((k.p : Int) + 1) = ((k.p + 1 : Nat) : Int) := by simp
  have hk4 : k.p ≤ 100000 := by have := HK.out; omega
  have HE := hid e3;clear e3;unfold pp0 at HA;go_enter Try.func64, Try.ntmps64;unfold pp0;go_wp2_with fail
  refine (HA.out _ (((Touch.refl _ _).alloc _).alloc _)).mono ?_;rintro _ w1 ⟨rfl, hf⟩;have HF := hid (show Fresh w w1 from Touch.pre (Touch.pre hf));have HBN := hid (hf.blk ((Blk.new w 32 zeroN).alloc (.cells #[.int .i64 0, .int .i64 0] 56)) (fun h => h));have HBF := hid (hf.blk (Blk.new2 w (.cells zeroN 32) 56 #[.int .i64 0, .int .i64 0]) (fun h => h));have HP1 := hid (H.out.fresh HF.out);obtain ⟨ov, hb, _⟩ := HP1.out.box;have q1 := hb.cell 1;have z1 := hb.frozen 1;have hg1 := hb.lt;clear hf hb;go_wp2_with fail
  obtain ⟨n1, n2⟩ := HP1.out.next HK.out _ HE.out;have HP2 := hid n1;have HM2 := hid ((Mp.fresh HF.out).trans n2);have HBN2 := hid (HBN.out.far (p := ⟨c.g, 1, none⟩) (fun e => by have e' : w.heap.size = c.g := e; omega) (.int .i64 ((k.p : Int) + 1)));have HBF2 := hid (HBF.out.far (p := ⟨c.g, 1, none⟩) (fun e => by have e' : w.heap.size + 1 = c.g := e; omega) (.int .i64 ((k.p : Int) + 1)));have HL2 := hid (show w.heap.size + 1 < (w1.setCell ⟨c.g, 1, none⟩ (.int .i64 ((k.p : Int) + 1))).heap.size from HBF2.out.lt);generalize (w1.setCell ⟨c.g, 1, none⟩ (.int .i64 ((k.p : Int) + 1))) = w2 at HP2 HM2 HBN2 HBF2 HL2 ⊢;clear n1 n2 q1 z1 hg1;refine (HARG.out k.up op _ HP2.out (by have := HOP.out; (try simp only [Kp.up_p] at this ⊢); omega) (fun h => HNE.out (by rw [h]; rfl))).mono ?_;intro e w3 hres;generalize pArg c.E f op (c.at k.up) = r at HQ HNE hres;cases r with
  | out => exact absurd rfl HNE.out
  | err i er =>
   obtain ⟨he0, n, A, cp, rfl, hm⟩ := hres;have HE0 := hid he0;have HM3 := hid (HM2.out.trans hm);have HBN3 := hid (hm.blk HBN2.out (by omega) (by decide));have HBF3 := hid (hm.blk HBF2.out (by omega) (by decide));obtain ⟨p0, p1, p2, p3, y0, y1, y2, y3, hlt0⟩ := Blk.four HBN3.out;obtain ⟨q0, q1, z0, z1, hlt1⟩ := Blk.two HBF3.out;clear hm he0;unfold failV nodeV;go_wp2_with fail
   have hne : w.heap.size ≠ w.heap.size + 1 := by omega
   have n1 := (HBN3.out.self4 (.int .i64 n.kind) (.string ⟨n.text.toArray⟩) (.int .i64 n.cols) (.slice A n.kids.length cp)).far2 hne (.int .i64 (i : Int)) (.int .i64 (er : Int));have n2 := (HBF3.out.far4 (Ne.symm hne) (.int .i64 n.kind) (.string ⟨n.text.toArray⟩) (.int .i64 n.cols) (.slice A n.kids.length cp)).self2 (.int .i64 (i : Int)) (.int .i64 (er : Int));have hm4 : Mp c.g c.W0.heap.size w (put2 (put4 w3 w.heap.size (.int .i64 n.kind) (.string ⟨n.text.toArray⟩) (.int .i64 n.cols) (.slice A n.kids.length cp)) (w.heap.size + 1) (.int .i64 (i : Int)) (.int .i64 (er : Int))) := (HM3.out.put4 (g := w.heap.size) (.inr (Nat.le_refl _)) (.int .i64 n.kind) (.string ⟨n.text.toArray⟩) (.int .i64 n.cols) (.slice A n.kids.length cp)).put2 (g := w.heap.size + 1) (.inr (by omega)) (.int .i64 (i : Int)) (.int .i64 (er : Int));have ht4 : Touch (fun k => k = w.heap.size ∨ k = w.heap.size + 1) w3 (put2 (put4 w3 w.heap.size (.int .i64 n.kind) (.string ⟨n.text.toArray⟩) (.int .i64 n.cols) (.slice A n.kids.length cp)) (w.heap.size + 1) (.int .i64 (i : Int)) (.int .i64 (er : Int))) := ((touch4 _ _ (.int .i64 n.kind) (.string ⟨n.text.toArray⟩) (.int .i64 n.cols) (.slice A n.kids.length cp)).mono fun _ h => .inl h).trans ((touch2 _ _ (.int .i64 (i : Int)) (.int .i64 (er : Int))).mono fun _ h => .inr h);simp only [put2, put4] at n1 n2 hm4 ht4;generalize (World.setCell (World.setCell (World.setCell (World.setCell (World.setCell (World.setCell w3 ⟨w.heap.size, 0, none⟩ _) ⟨w.heap.size, 1, none⟩ _) ⟨w.heap.size, 2, none⟩ _) ⟨w.heap.size, 3, none⟩ _) ⟨w.heap.size + 1, 0, none⟩ _) ⟨w.heap.size + 1, 1, none⟩ _) = W4 at n1 n2 hm4 ht4 ⊢;have HN1 := hid n1;have HN2 := hid n2;have HM4 := hid hm4;have HT4 := hid ht4;clear n1 n2 hm4 ht4 p0 p1 p2 p3 y0 y1 y2 y3 q0 q1 z0 z1;refine wp_region_in (fun W => Blk W w.heap.size 32 (nodeC n A cp) ∧ Blk W (w.heap.size + 1) 56 #[.int .i64 (i : Int), .int .i64 (er : Int)] ∧ Touch (fun k => k = w.heap.size ∨ k = w.heap.size + 1) W4 W) [(0, true), (1, true), (2, false), (3, true), (4, false)] (by kernel_rfl) (fun _ _ d _ _ h => by cases d <;> exact h) (by kernel_rfl) ⟨HN1.out.drewN 1, HN2.out.drewN 1, (Touch.refl _ _).drewN 1⟩ ?_;refine wpSeq_plain rfl (fun K hK => ?_);rw [if_pos (by rfl)];refine ⟨.agg (nodeC n A cp), fun W hW => ?_, hK _ ?_⟩
   ·obtain ⟨h1, _, _⟩ := hW
    obtain ⟨p0, p1, p2, p3, _⟩ := Blk.four h1;go_simp
   clear hK K;refine wpSeq_plain rfl (fun K hK => ?_);rw [if_pos (by rfl)];refine ⟨.agg #[.int .i64 (i : Int), .int .i64 (er : Int)], fun W hW => ?_, hK _ ?_⟩
   ·obtain ⟨_, h1, _⟩ := hW
    obtain ⟨p0, p1, _⟩ := Blk.two h1;go_simp
   clear hK K;obtain ⟨p0, p1, p2, p3, y0, y1, y2, y3, hlt0⟩ := Blk.four (HN1.out.drewN 1);obtain ⟨q0, q1, z0, z1, hlt1⟩ := Blk.two (HN2.out.drewN 1);refine wpSeq_lone rfl (fun K hK => ?_);go_wp2_with fail
   have hx := HM4.out.size;have m1 := (HN1.out.drewN 1).self4 (.int .i64 n.kind) (.string ⟨n.text.toArray⟩) (.int .i64 n.cols) (.slice A n.kids.length cp);have m2 := (HN2.out.drewN 1).far4 (Ne.symm hne) (.int .i64 n.kind) (.string ⟨n.text.toArray⟩) (.int .i64 n.cols) (.slice A n.kids.length cp);have mt : Touch (fun k => k = w.heap.size ∨ k = w.heap.size + 1) W4 (put4 (W4.drewN 1) w.heap.size (.int .i64 n.kind) (.string ⟨n.text.toArray⟩) (.int .i64 n.cols) (.slice A n.kids.length cp)) := ((Touch.refl _ _).drewN 1).trans ((touch4 _ _ (.int .i64 n.kind) (.string ⟨n.text.toArray⟩) (.int .i64 n.cols) (.slice A n.kids.length cp)).mono fun _ h => .inl h);have mm : Mp c.g c.W0.heap.size w (put4 (W4.drewN 1) w.heap.size (.int .i64 n.kind) (.string ⟨n.text.toArray⟩) (.int .i64 n.cols) (.slice A n.kids.length cp)) := (HM4.out.drewN 1).put4 (g := w.heap.size) (.inr (Nat.le_refl _)) (.int .i64 n.kind) (.string ⟨n.text.toArray⟩) (.int .i64 n.cols) (.slice A n.kids.length cp);simp only [put4] at m1 m2 mt mm;generalize (World.setCell (World.setCell (World.setCell (World.setCell (W4.drewN 1) ⟨w.heap.size, 0, none⟩ _) ⟨w.heap.size, 1, none⟩ _) ⟨w.heap.size, 2, none⟩ _) ⟨w.heap.size, 3, none⟩ _) = W5 at m1 m2 mt mm ⊢;refine hK _ _ ⟨m1, m2, mt⟩ ?_;have HN5 := hid m1;have HF5 := hid m2;have HT5 := hid mt;have HM5 := hid mm;clear hK K p0 p1 p2 p3 y0 y1 y2 y3 q0 q1 z0 z1 m1 m2 mt mm;refine wpSeq_plain rfl (fun K hK => ?_);rw [if_pos (by rfl)];refine ⟨.bool true, fun W hW => ?_, hK _ ?_⟩
   ·go_simp
   clear hK K;obtain ⟨q0, q1, z0, z1, hlt1⟩ := Blk.two HF5.out;refine wpSeq_lone rfl (fun K hK => ?_);go_wp2_with fail
   have m1 := HN5.out.far2 hne (.int .i64 (i : Int)) (.int .i64 (er : Int));have m2 := HF5.out.self2 (.int .i64 (i : Int)) (.int .i64 (er : Int));have mt : Touch (fun k => k = w.heap.size ∨ k = w.heap.size + 1) W4 (put2 W5 (w.heap.size + 1) (.int .i64 (i : Int)) (.int .i64 (er : Int))) := HT5.out.trans ((touch2 _ _ (.int .i64 (i : Int)) (.int .i64 (er : Int))).mono fun _ h => .inr h);have mm : Mp c.g c.W0.heap.size w (put2 W5 (w.heap.size + 1) (.int .i64 (i : Int)) (.int .i64 (er : Int))) := HM5.out.put2 (g := w.heap.size + 1) (.inr (by omega)) (.int .i64 (i : Int)) (.int .i64 (er : Int));simp only [put2] at m1 m2 mt mm;generalize (World.setCell (World.setCell W5 ⟨w.heap.size + 1, 0, none⟩ _) ⟨w.heap.size + 1, 1, none⟩ _) = W6 at m1 m2 mt mm ⊢;refine hK _ _ ⟨m1, m2, mt⟩ ?_;clear hK K q0 q1 z0 z1;refine wpSeq_end ?_;go_wp2_with fail
   obtain ⟨g0, g1, g2, g3, _⟩ := Blk.four m1;obtain ⟨f0, f1, _⟩ := Blk.two m2
   (try simp only [Exit.inBlock, Exit.then])
   refine bodyPost_ret (v := .tuple #[nodeV n A cp, .bool true, failV i er]) (by simp [failV, nodeV, results, Try.results64, go_sem, f0, f1, g0, g1, g2, g3]) rfl ?_;exact HQ.out _ _ ⟨HE0.out, n, A, cp, rfl, mm⟩
  | ok a rest =>
   obtain ⟨A, cp, k', rfl, htr, htx, hdr, hkk, hp, hm⟩ := hres;have HTR := hid htr;have HTX := hid htx;have HDR := hid hdr;have HKK := hid hkk;have HP3 := hid hp;have HM3 := hid (HM2.out.trans hm);have HBN3 := hid (hm.blk HBN2.out (by omega) (by decide));have HBF3 := hid (hm.blk HBF2.out (by omega) (by decide));obtain ⟨p0, p1, p2, p3, y0, y1, y2, y3, hlt0⟩ := Blk.four HBN3.out;obtain ⟨q0, q1, z0, z1, hlt1⟩ := Blk.two HBF3.out;clear hm htr htx hdr hkk hp;unfold failV nodeV;go_wp2_with fail
   have hne : w.heap.size ≠ w.heap.size + 1 := by omega
   have n1 := (HBN3.out.self4 (.int .i64 a.kind) (.string ⟨a.text.toArray⟩) (.int .i64 a.cols) (.slice A a.kids.length cp)).far2 hne (.int .i64 0) (.int .i64 0);have n2 := (HBF3.out.far4 (Ne.symm hne) (.int .i64 a.kind) (.string ⟨a.text.toArray⟩) (.int .i64 a.cols) (.slice A a.kids.length cp)).self2 (.int .i64 0) (.int .i64 0);have hm4 : Mp c.g c.W0.heap.size w (put2 (put4 w3 w.heap.size (.int .i64 a.kind) (.string ⟨a.text.toArray⟩) (.int .i64 a.cols) (.slice A a.kids.length cp)) (w.heap.size + 1) (.int .i64 0) (.int .i64 0)) := (HM3.out.put4 (g := w.heap.size) (.inr (Nat.le_refl _)) (.int .i64 a.kind) (.string ⟨a.text.toArray⟩) (.int .i64 a.cols) (.slice A a.kids.length cp)).put2 (g := w.heap.size + 1) (.inr (by omega)) (.int .i64 0) (.int .i64 0);have ht4 : Touch (fun k => k = w.heap.size ∨ k = w.heap.size + 1) w3 (put2 (put4 w3 w.heap.size (.int .i64 a.kind) (.string ⟨a.text.toArray⟩) (.int .i64 a.cols) (.slice A a.kids.length cp)) (w.heap.size + 1) (.int .i64 0) (.int .i64 0)) := ((touch4 _ _ (.int .i64 a.kind) (.string ⟨a.text.toArray⟩) (.int .i64 a.cols) (.slice A a.kids.length cp)).mono fun _ h => .inl h).trans ((touch2 _ _ (.int .i64 0) (.int .i64 0)).mono fun _ h => .inr h);simp only [put2, put4] at n1 n2 hm4 ht4;generalize (World.setCell (World.setCell (World.setCell (World.setCell (World.setCell (World.setCell w3 ⟨w.heap.size, 0, none⟩ _) ⟨w.heap.size, 1, none⟩ _) ⟨w.heap.size, 2, none⟩ _) ⟨w.heap.size, 3, none⟩ _) ⟨w.heap.size + 1, 0, none⟩ _) ⟨w.heap.size + 1, 1, none⟩ _) = W4 at n1 n2 hm4 ht4 ⊢;have HN1 := hid n1;have HN2 := hid n2;have HM4 := hid hm4;have HT4 := hid ht4;clear n1 n2 hm4 ht4 p0 p1 p2 p3 y0 y1 y2 y3 q0 q1 z0 z1;refine wp_region_in (fun W => Blk W w.heap.size 32 (nodeC a A cp) ∧ Blk W (w.heap.size + 1) 56 #[.int .i64 0, .int .i64 0] ∧ Touch (fun k => k = w.heap.size ∨ k = w.heap.size + 1) W4 W) [(0, true), (1, true), (2, false), (3, true), (4, false)] (by kernel_rfl) (fun _ _ d _ _ h => by cases d <;> exact h) (by kernel_rfl) ⟨HN1.out.drewN 1, HN2.out.drewN 1, (Touch.refl _ _).drewN 1⟩ ?_;refine wpSeq_plain rfl (fun K hK => ?_);rw [if_pos (by rfl)];refine ⟨.agg (nodeC a A cp), fun W hW => ?_, hK _ ?_⟩
   ·obtain ⟨h1, _, _⟩ := hW
    obtain ⟨p0, p1, p2, p3, _⟩ := Blk.four h1;go_simp
   clear hK K;refine wpSeq_plain rfl (fun K hK => ?_);rw [if_pos (by rfl)];refine ⟨.agg #[.int .i64 0, .int .i64 0], fun W hW => ?_, hK _ ?_⟩
   ·obtain ⟨_, h1, _⟩ := hW
    obtain ⟨p0, p1, _⟩ := Blk.two h1;go_simp
   clear hK K;obtain ⟨p0, p1, p2, p3, y0, y1, y2, y3, hlt0⟩ := Blk.four (HN1.out.drewN 1);obtain ⟨q0, q1, z0, z1, hlt1⟩ := Blk.two (HN2.out.drewN 1);refine wpSeq_lone rfl (fun K hK => ?_);go_wp2_with fail
   have hx := HM4.out.size;have m1 := (HN1.out.drewN 1).self4 (.int .i64 a.kind) (.string ⟨a.text.toArray⟩) (.int .i64 a.cols) (.slice A a.kids.length cp);have m2 := (HN2.out.drewN 1).far4 (Ne.symm hne) (.int .i64 a.kind) (.string ⟨a.text.toArray⟩) (.int .i64 a.cols) (.slice A a.kids.length cp);have mt : Touch (fun k => k = w.heap.size ∨ k = w.heap.size + 1) W4 (put4 (W4.drewN 1) w.heap.size (.int .i64 a.kind) (.string ⟨a.text.toArray⟩) (.int .i64 a.cols) (.slice A a.kids.length cp)) := ((Touch.refl _ _).drewN 1).trans ((touch4 _ _ (.int .i64 a.kind) (.string ⟨a.text.toArray⟩) (.int .i64 a.cols) (.slice A a.kids.length cp)).mono fun _ h => .inl h);have mm : Mp c.g c.W0.heap.size w (put4 (W4.drewN 1) w.heap.size (.int .i64 a.kind) (.string ⟨a.text.toArray⟩) (.int .i64 a.cols) (.slice A a.kids.length cp)) := (HM4.out.drewN 1).put4 (g := w.heap.size) (.inr (Nat.le_refl _)) (.int .i64 a.kind) (.string ⟨a.text.toArray⟩) (.int .i64 a.cols) (.slice A a.kids.length cp);simp only [put4] at m1 m2 mt mm;generalize (World.setCell (World.setCell (World.setCell (World.setCell (W4.drewN 1) ⟨w.heap.size, 0, none⟩ _) ⟨w.heap.size, 1, none⟩ _) ⟨w.heap.size, 2, none⟩ _) ⟨w.heap.size, 3, none⟩ _) = W5 at m1 m2 mt mm ⊢;refine hK _ _ ⟨m1, m2, mt⟩ ?_;have HN5 := hid m1;have HF5 := hid m2;have HT5 := hid mt;have HM5 := hid mm;clear hK K p0 p1 p2 p3 y0 y1 y2 y3 q0 q1 z0 z1 m1 m2 mt mm;refine wpSeq_plain rfl (fun K hK => ?_);rw [if_pos (by rfl)];refine ⟨.bool true, fun W hW => ?_, hK _ ?_⟩
   ·go_simp
   clear hK K;obtain ⟨q0, q1, z0, z1, hlt1⟩ := Blk.two HF5.out;refine wpSeq_lone rfl (fun K hK => ?_);go_wp2_with fail
   have m1 := HN5.out.far2 hne (.int .i64 0) (.int .i64 0);have m2 := HF5.out.self2 (.int .i64 0) (.int .i64 0);have mt : Touch (fun k => k = w.heap.size ∨ k = w.heap.size + 1) W4 (put2 W5 (w.heap.size + 1) (.int .i64 0) (.int .i64 0)) := HT5.out.trans ((touch2 _ _ (.int .i64 0) (.int .i64 0)).mono fun _ h => .inr h);have mm : Mp c.g c.W0.heap.size w (put2 W5 (w.heap.size + 1) (.int .i64 0) (.int .i64 0)) := HM5.out.put2 (g := w.heap.size + 1) (.inr (by omega)) (.int .i64 0) (.int .i64 0);simp only [put2] at m1 m2 mt mm;generalize (World.setCell (World.setCell W5 ⟨w.heap.size + 1, 0, none⟩ _) ⟨w.heap.size + 1, 1, none⟩ _) = W6 at m1 m2 mt mm ⊢;refine hK _ _ ⟨m1, m2, mt⟩ ?_;clear hK K q0 q1 z0 z1;refine wpSeq_end ?_;go_wp2_with fail
   obtain ⟨g0, g1, g2, g3, _⟩ := Blk.four m1;obtain ⟨f0, f1, _⟩ := Blk.two m2
   (try simp only [Exit.inBlock, Exit.then])
   refine bodyPost_ret (v := .tuple #[nodeV a A cp, .bool true, failV 0 0]) (by simp [failV, nodeV, results, Try.results64, go_sem, f0, f1, g0, g1, g2, g3]) rfl ?_;have ht6 := HT4.out.trans mt
   have hps := HP3.out.mv ht6 (fun b hb => by
    rcases hb with rfl | rfl
    ·exact ⟨by omega, HW0.out, _, _, (by decide), HBN3.out⟩
    ·exact ⟨by omega, by have := HW0.out; omega, _, _, (by decide), HBF3.out⟩)
   have htr := HTR.out.mv ht6 (fun b _ _ hb hB => by have := HL2.out; rcases hb with rfl | rfl <;> omega);exact HQ.out _ _ ⟨A, cp, k', rfl, htr.base HM2.out.size, HTX.out, HDR.out, by have := HKK.out; (try simp only [Kp.up_p] at this ⊢); omega, hps, mm⟩
end Go.Proofs.Ytnamnmpnoiodnaa
