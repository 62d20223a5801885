/- Part 20 of 42 of a proof; its texts, joined: NyE, NyF. No condition. -/
import Derived.Test.YtomibmenojdieaaGreatXx19
set_option maxRecDepth 100000
set_option maxHeartbeats 400000
namespace Go.Proofs.YtomibmenojdieaaGreat
open Go.RowKit
open Tr (Nd)
open Lx (PTok)
attribute [local go_sem] stillV stillUpon
def leafO (P : Nat) : List PTok → Option Nd
 | [] => none
 | t :: _ => Mcr.leafP P t
theorem leafP_some {P : Nat} {t : PTok} {x : Nd} (h : Np.leafOf t = some x) : Mcr.leafP P t = some x := by unfold Mcr.leafP; rw [h]
theorem leafP_no {P : Nat} {t : PTok} (h : Np.leafOf t = none) (h6 : t.kind ≠ 6) : Mcr.leafP P t = none := by
 unfold Mcr.leafP;rw [h];exact if_neg fun e => h6 e.1
theorem leafP_par {P : Nat} {t : PTok} {b : UInt8} (h : Np.leafOf t = none) (h6 : t.kind = 6) (ht : t.text = [b]) : Mcr.leafP P t = if b.toNat ≤ P + 48 then some (.mk 2 [35, b] 0 []) else none := by
 unfold Mcr.leafP;rw [h, ht]
 by_cases hb : b.toNat ≤ P + 48
 ·rw [if_pos hb]
  exact if_pos ⟨h6, hb⟩
 ·rw [if_neg hb]
  exact if_neg fun e => hb e.2
def SimpleE (c : Cf) (k : Kp) (op : List Nat) (w : World) (e : Ending) (w' : World) : Prop :=
 (∃ x b, leafO c.P (c.at k).l = some x ∧ e = .returned (.tuple #[.slice (some ⟨b, 0, none⟩) 1 1, .bool true]) ∧ TreT w.heap.size w' [x] (.slice (some ⟨b, 0, none⟩) 1 1) ∧ Ps c k.up op w' ∧ Mp c.g c.W0.heap.size w w') ∨
 (leafO c.P (c.at k).l = none ∧ e = .returned (.tuple #[.slice none 0 0, .bool false]) ∧ Fresh w w')
theorem kind_is (n m : Nat) (h : n = m) : ((n : Int) == (m : Int)) = true := by rw [h]; simp
theorem kind_no (n m : Nat) (h : n ≠ m) : ((n : Int) == (m : Int)) = false := by rw [beq_eq_false_iff_ne]; omega
theorem simple_any_n (c : Cf) (hc : c.Good) (k : Kp) (op : List Nat) (w : World) (h : Ps c k op w) :
  Calls Tryz.prog 89 #[pp0 c] w (SimpleE c k op w) := by
 have HT := hid (fun (w' : World) (hf : Fresh w w') => tok_any_n c hc k op w' (h.fresh hf));have HS := hid (fun (w' : World) (hf : Fresh w w') (kd : Int) (tx : List UInt8) (hk : k.p < c.T.length) (htx : tx.length ≤ maxLen) => single_any_n c hc k op kd tx w' (h.fresh hf) hk htx);have HTX := hid hc.txt;have HPA := hid hc.par;obtain ⟨ov, hb, _⟩ := h.box;have HB := hid hb;unfold SimpleE;have H := hid h;clear h hb hc;cases hl : (c.at k).l with
 | nil =>
  rw [hl] at HT;unfold tokV at HT;clear hl;go_enter Tryz.func89, Tryz.ntmps89;go_wp2_with fail
  refine (HT.out _ (Touch.refl _ _)).mono ?_;rintro _ w1 ⟨rfl, hf⟩;have HF := hid hf;clear hf;go_wp2_with fail
  go_quiet (fail)
  go_wp2_with fail
  go_ret2;exact .inr ⟨rfl, rfl, HF.out.alloc _ |>.drewN _⟩
 | cons t r =>
  rw [hl] at HT;unfold tokV at HT
  have hk : k.p < c.T.length := by
   rcases Nat.lt_or_ge k.p c.T.length with h | h
   ·exact h
   ·rw [Cf.at_l, List.drop_eq_nil_of_le h] at hl; cases hl
  have hmem : t ∈ c.T := List.mem_of_mem_drop (i := k.p) (by rw [← Cf.at_l, hl]; simp);have HK := hid hk;have HX := hid (HTX.out t hmem);have HP := hid (HPA.out t hmem);clear hmem HTX HPA hl hk;go_enter Tryz.func89, Tryz.ntmps89;go_wp2_with fail
  refine (HT.out _ (Touch.refl _ _)).mono ?_;rintro _ w1 ⟨rfl, hf⟩;have HF := hid hf;have HSZ := hid (show w.heap.size ≤ (w1.alloc (.cells #[.int .i64 t.kind, .string ⟨t.text.toArray⟩, .int .i64 (t.from_ : Int), .int .i64 (t.to_ : Int)] 107)).heap.size from (hf.alloc _).size);clear hf
  by_cases h1 : t.kind = 1
  ·have e1 := kind_is _ 1 h1
   have HL := hid (show leafO c.P (t :: r) = some (.mk 2 t.text 0 []) from leafP_some (by unfold Np.leafOf; rw [if_pos h1]));clear  h1;go_wp2_with fail
   refine (HS.out _ (HF.out.alloc _) 2 t.text HK.out HX.out).mono ?_;rintro _ w2 ⟨b, rfl, htr, hp, hm⟩;have HTR := hid htr;have HP2 := hid hp;have HM2 := hid ((Mp.fresh (HF.out.alloc _)).trans hm);clear htr hp hm;unfold failV;go_wp2_with fail
   go_ret2;exact .inl ⟨_, b, HL.out, rfl, HTR.out.base HSZ.out, HP2.out, HM2.out⟩
  ·by_cases h2 : t.kind = 2
   ·have e1 := kind_no _ 1 h1
    have e2 := kind_is _ 2 h2;have HL := hid (show leafO c.P (t :: r) = some (.mk 3 t.text 0 []) from leafP_some (by unfold Np.leafOf; rw [if_neg h1, if_pos h2]));clear h1 h2;go_wp2_with fail
    refine (HS.out _ (HF.out.alloc _) 3 t.text HK.out HX.out).mono ?_;rintro _ w2 ⟨b, rfl, htr, hp, hm⟩;have HTR := hid htr;have HP2 := hid hp;have HM2 := hid ((Mp.fresh (HF.out.alloc _)).trans hm);clear htr hp hm;unfold failV;go_wp2_with fail
    go_ret2;exact .inl ⟨_, b, HL.out, rfl, HTR.out.base HSZ.out, HP2.out, HM2.out⟩
   ·by_cases h3 : t.kind = 3
    ·have e1 := kind_no _ 1 h1
     have e2 := kind_no _ 2 h2;have e3 := kind_is _ 3 h3;have HL := hid (show leafO c.P (t :: r) = some (.mk 4 t.text 0 []) from leafP_some (by unfold Np.leafOf; rw [if_neg h1, if_neg h2, if_pos h3]));clear h1 h2 h3;go_wp2_with fail
     refine (HS.out _ (HF.out.alloc _) 4 t.text HK.out HX.out).mono ?_;rintro _ w2 ⟨b, rfl, htr, hp, hm⟩;have HTR := hid htr;have HP2 := hid hp;have HM2 := hid ((Mp.fresh (HF.out.alloc _)).trans hm);clear htr hp hm;unfold failV;go_wp2_with fail
     go_ret2;exact .inl ⟨_, b, HL.out, rfl, HTR.out.base HSZ.out, HP2.out, HM2.out⟩
    ·have HL0 := hid (show Np.leafOf t = none from by unfold Np.leafOf; rw [if_neg h1, if_neg h2, if_neg h3])
     have e1 := kind_no _ 1 h1;have e2 := kind_no _ 2 h2;have e3 := kind_no _ 3 h3;clear h1 h2 h3;have HPS := hid (H.out.fresh (HF.out.alloc (.cells #[.int .i64 t.kind, .string ⟨t.text.toArray⟩, .int .i64 (t.from_ : Int), .int .i64 (t.to_ : Int)] 107)));go_wp2_with fail
     have hf2 := HF.out.alloc (.cells #[.int .i64 t.kind, .string ⟨t.text.toArray⟩, .int .i64 (t.from_ : Int), .int .i64 (t.to_ : Int)] 107);have hb2 : Blk (w1.alloc (.cells #[.int .i64 t.kind, .string ⟨t.text.toArray⟩, .int .i64 (t.from_ : Int), .int .i64 (t.to_ : Int)] 107)) w1.heap.size 107 #[.int .i64 t.kind, .string ⟨t.text.toArray⟩, .int .i64 (t.from_ : Int), .int .i64 (t.to_ : Int)] := Blk.new _ _ _;generalize (w1.alloc (.cells #[.int .i64 t.kind, .string ⟨t.text.toArray⟩, .int .i64 (t.from_ : Int), .int .i64 (t.to_ : Int)] 107)) = W2 at HPS hf2 hb2 ⊢;have HF2 := hid hf2;have HBK := hid hb2;obtain ⟨p0, p1, p2, p3, _, _, _, _, hlt⟩ := Blk.four hb2;have r0 := cR p0;have r1 := cR p1;obtain ⟨ov2, hbx, _⟩ := HPS.out.box;have r5 := cR ((hbx.cell 5).trans rfl);have hgx := hbx.lt;clear hf2 hb2 p0 p1 p2 p3 hbx
     by_cases h6 : t.kind = 6
     ·obtain ⟨b, hb, hb1, hb2⟩ := HP.out h6
      have H6 := hid (show (t.kind : Int) = 6 by omega);have HLP := hid (leafP_par (P := c.P) HL0.out h6 hb);rw [h6, show ((6 : Nat) : Int) = 6 from rfl] at r0;clear h6;rw [hb] at r1;unfold pp0;have hbr : 49 ≤ b.toNat ∧ b.toNat ≤ 57 := ⟨UInt8.le_iff_toNat_le.1 hb1, UInt8.le_iff_toNat_le.1 hb2⟩;obtain ⟨m, hm, hm2⟩ : ∃ m, b.toNat = m + 48 ∧ 1 ≤ m ∧ m ≤ 9 := ⟨b.toNat - 48, by omega, by omega, by omega⟩;have e1' : ((b.toNat : Nat) : Int) - 48 = (m : Int) := by omega
      have w1' : IntKind.u8.wrap (m : Int) = (m : Int) := by
       exact IntWalk.u8_in _ (by omega)
      have wr : IntKind.i64.wrap (IntKind.u8.wrap ((b.toNat : Int) - 48)) = (m : Int) := by rw [e1', w1', IntWalk.i64_in _ (by omega)]
      have HWR := hid wr;clear e1' w1' hbr wr
      by_cases hle : b.toNat ≤ c.P + 48
      ·rw [if_pos hle] at HLP
       have hwr : decide (IntKind.i64.wrap (IntKind.u8.wrap ((b.toNat : Int) - 48)) ≤ (c.P : Int)) = true := by rw [HWR.out]; exact decide_eq_true (by omega)
       have hwr' : IntKind.i64.wrap (IntKind.u8.wrap ((b.toNat : Int) - 48)) ≤ (c.P : Int) := of_decide_eq_true hwr;have hadd := fun W : World => run_string_add_lists (P := Tryz.prog) W [35] [b] (by simp) (by simp)
       rw [show ([35] : List UInt8).toArray = #[35] from rfl, show ([b] : List UInt8).toArray = #[b] from rfl, show ([35] ++ [b] : List UInt8).toArray = #[35, b] from rfl] at hadd
       have HT2 := hid (show Blk W2 w1.heap.size 107 #[.int .i64 6, .string ⟨#[b]⟩, .int .i64 (t.from_ : Int), .int .i64 (t.to_ : Int)] from by
        have h := HBK.out;rw [H6.out, hb] at h;exact h)
       clear hm hm2 hle;refine wp_region_mix [] [(0, true), (1, true), (2, true), (3, true), (4, true), (5, true), (6, true), (7, true), (8, true), (9, true), (10, true), (11, true), (12, true), (13, true), (14, true), (15, true)] (by kernel_rfl) (fun _ _ d _ _ h => by cases d <;> exact h) (by kernel_rfl) ?_;refine wpMix_last ?_
       repeat (refine wpSeq_plain rfl (fun K hK => ?_); go_simp; refine hK _ ?_; clear hK K)
       refine wpSeq_end ?_;simp only [show ∀ h : 0 < (⟨#[b]⟩ : ByteArray).size, (⟨#[b]⟩ : ByteArray)[0]'h = b from fun _ => rfl, hwr', decide_true];clear r0 r1 r5;obtain ⟨p0, p1, p2, p3, _, _, _, _, hlt2⟩ := Blk.four (HT2.out.drewN 1);go_wp2_with fail
       refine (HS.out _ (HF2.out.drewN 1) 2 [35, b] HK.out (by simp [maxLen])).mono ?_;rintro _ w2 ⟨b', rfl, htr, hp, hm⟩;have HTR := hid htr;have HP2 := hid hp;have HM2 := hid ((Mp.fresh (HF2.out.drewN 1)).trans hm);clear htr hp hm;unfold failV;go_wp2_with fail
       go_ret2;exact .inl ⟨_, b', HLP.out, rfl, HTR.out.base (HF2.out.drewN 1).size, HP2.out, HM2.out⟩
      ·rw [if_neg hle] at HLP
       have hwr : decide (IntKind.i64.wrap (IntKind.u8.wrap ((b.toNat : Int) - 48)) ≤ (c.P : Int)) = false := by rw [HWR.out]; exact decide_eq_false (by omega)
       have hwr' : ¬ (IntKind.i64.wrap (IntKind.u8.wrap ((b.toNat : Int) - 48)) ≤ (c.P : Int)) := of_decide_eq_false hwr;clear hm hm2 hle;refine wp_region_mix [] [(0, true), (1, true), (2, true), (3, true), (4, true), (5, true), (6, true), (7, true), (8, true), (9, true), (10, true), (11, true), (12, true), (13, true), (14, true), (15, true)] (by kernel_rfl) (fun _ _ d _ _ h => by cases d <;> exact h) (by kernel_rfl) ?_;refine wpMix_last ?_
       repeat (refine wpSeq_plain rfl (fun K hK => ?_); go_simp; refine hK _ ?_; clear hK K)
       refine wpSeq_end ?_;go_wp2_with fail
       go_ret2;exact .inr ⟨HLP.out, rfl, HF2.out.drewN _⟩
     ·have HLN := hid (show leafO c.P (t :: r) = none from leafP_no HL0.out h6)
      have e6 : ¬ ((t.kind : Int) = 6) := by omega
      clear h6;refine wp_region_mix [] [(0, true), (1, true), (2, true), (3, true), (4, true), (5, true), (6, true), (7, true), (8, true), (9, true), (10, true), (11, true), (12, true), (13, true), (14, true), (15, true)] (by kernel_rfl) (fun _ _ d _ _ h => by cases d <;> exact h) (by kernel_rfl) ?_;refine wpMix_last ?_
      repeat (refine wpSeq_plain rfl (fun K hK => ?_); go_simp; refine hK _ ?_; clear hK K)
      refine wpSeq_end ?_;go_wp2_with fail
      go_ret2;exact .inr ⟨HLN.out, rfl, HF2.out.drewN _⟩
end Go.Proofs.YtomibmenojdieaaGreat
namespace Go.Proofs.YtomibmenojdieaaGreat
open Go.RowKit
open Tr (Nd)
open Lx (PTok)
open Mcr (R pRow pIn pScript pItem pPrim pArgs pName pCells pArg)
attribute [local go_sem] stillV stillUpon
def ItemsE (c : Cf) (k : Kp) (op : List Nat) (r : R (List Nd)) (w : World) (e : Ending) (w' : World) : Prop :=
 match r with
 | .ok items rest => ∃ A cp k', e = .returned (.tuple #[.slice A items.length cp, failV 0 0]) ∧ TreT w.heap.size w' items (.slice A items.length cp) ∧ c.at k' = rest ∧ k.p ≤ k'.p ∧ Ps c k' op w' ∧ Mp c.g c.W0.heap.size w w'
 | .err i er => er ≠ 0 ∧ ∃ A n cp, e = .returned (.tuple #[.slice A n cp, failV i er]) ∧ Mp c.g c.W0.heap.size w w'
 | .out => True
def nodeV (n : Nd) (A : Option Addr) (cp : Nat) : Value := .agg #[.int .i64 n.kind, .string ⟨n.text.toArray⟩, .int .i64 n.cols, .slice A n.kids.length cp]
def NodeE (c : Cf) (k : Kp) (op : List Nat) (r : R Nd) (w : World) (e : Ending) (w' : World) : Prop :=
 match r with
 | .ok a rest => ∃ A cp k', e = .returned (.tuple #[nodeV a A cp, failV 0 0]) ∧ TreT w.heap.size w' a.kids (.slice A a.kids.length cp) ∧ a.text.length ≤ maxLen ∧ c.at k' = rest ∧ k.p ≤ k'.p ∧ Ps c k' op w' ∧ Mp c.g c.W0.heap.size w w'
 | .err i er => er ≠ 0 ∧ ∃ n A cp, e = .returned (.tuple #[nodeV n A cp, failV i er]) ∧ Mp c.g c.W0.heap.size w w'
 | .out => True
def ScriptE (c : Cf) (k : Kp) (op : List Nat) (r : R (Option Nd)) (w : World) (e : Ending) (w' : World) : Prop :=
 match r with
 | .ok none rest => ∃ k', e = .returned (.tuple #[.agg #[.int .i64 0, .string ⟨#[]⟩, .int .i64 0, .slice none 0 0], .bool false, failV 0 0]) ∧ c.at k' = rest ∧ k.p ≤ k'.p ∧ Ps c k' op w' ∧ Mp c.g c.W0.heap.size w w'
 | .ok (some a) rest => ∃ A cp k', e = .returned (.tuple #[nodeV a A cp, .bool true, failV 0 0]) ∧ TreT w.heap.size w' a.kids (.slice A a.kids.length cp) ∧ a.text.length ≤ maxLen ∧ c.at k' = rest ∧ k.p ≤ k'.p ∧ Ps c k' op w' ∧ Mp c.g c.W0.heap.size w w'
 | .err i er => er ≠ 0 ∧ ∃ n A cp, e = .returned (.tuple #[nodeV n A cp, .bool true, failV i er]) ∧ Mp c.g c.W0.heap.size w w'
 | .out => True
theorem isM_lt {c : Cf} {k : Kp} {b : UInt8} (h : Np.isM b (c.at k).l = true) : k.p < c.T.length := by
 rcases Nat.lt_or_ge k.p c.T.length with h1 | h1
 ·exact h1
 ·rw [Cf.at_l, List.drop_eq_nil_of_le h1] at h; cases h
theorem drop_lt {c : Cf} {k : Kp} (h : (c.at k).l ≠ []) : k.p < c.T.length := by
 rcases Nat.lt_or_ge k.p c.T.length with h1 | h1
 ·exact h1
 ·rw [Cf.at_l, List.drop_eq_nil_of_le h1] at h; exact absurd rfl h
def RowN (c : Cf) (f : Nat) : Prop := ∀ (k : Kp) (op : List Nat) (w : World), Ps c k op w → op.length ≤ k.p → pRow c.E f op (c.at k) ≠ .out → Calls Tryz.prog 28 #[pp0 c] w (ItemsE c k op (pRow c.E f op (c.at k)) w)
def EnclosedN (c : Cf) (f : Nat) : Prop := ∀ (k : Kp) (op : List Nat) (b : UInt8) (w : World), Ps c k op w → op.length ≤ k.p → k.p < c.T.length → pIn c.E f b op (c.at k) ≠ .out → Calls Tryz.prog 67 #[pp0 c, .string ⟨#[b]⟩] w (ItemsE c k op (pIn c.E f b op (c.at k)) w)
def ArgumentN (c : Cf) (f : Nat) : Prop := ∀ (k : Kp) (op : List Nat) (w : World), Ps c k op w → op.length ≤ k.p → pArg c.E f op (c.at k) ≠ .out → Calls Tryz.prog 88 #[pp0 c] w (NodeE c k op (pArg c.E f op (c.at k)) w)
def ScriptN (c : Cf) (f : Nat) : Prop := ∀ (k : Kp) (op : List Nat) (b : UInt8) (w : World), Ps c k op w → op.length ≤ k.p → pScript c.E f b op (c.at k) ≠ .out → Calls Tryz.prog 71 #[pp0 c, .string ⟨#[b]⟩] w (ScriptE c k op (pScript c.E f b op (c.at k)) w)
theorem Mp.two {g B : Nat} {a b : World} {k : Nat} {t : TypeId} {x y : Value} (h : Mp g B a b) (hb : Blk a k t #[x, y]) (hk : k ≠ g) (ht : t ≠ 3) : Blk b k t #[x, y] := h.blk hb hk ht
theorem TreT.mp {B : Nat} {c : Cf} {k : Kp} {op : List Nat} {w w' : World} {ks : List Nd} {v : Value} (h : TreT B w ks v) (hm : Mp c.g c.W0.heap.size w w') (hp : Ps c k op w) : TreT B w' ks v := by
 obtain ⟨ov, hb, _⟩ := hp.box;refine h.mv hm fun b cs fr hs _ e => ?_
 rcases hs with rfl | ⟨_, cs', fr', h3⟩
 ·unfold Blk at hb
  rw [hb] at e;cases e
 ·rw [h3] at e
  cases e
def put2 (w : World) (g : Nat) (x0 x1 : Value) : World := (w.setCell ⟨g, 0, none⟩ x0).setCell ⟨g, 1, none⟩ x1
theorem Blk.self2 {w : World} {g : Nat} {t : TypeId} {a b : Value} (h : Blk w g t #[a, b]) (x0 x1 : Value) : Blk (put2 w g x0 x1) g t #[x0, x1] := (h.put 0 x0).put 1 x1
theorem Blk.far2 {w : World} {L g : Nat} {t : TypeId} {cs : Array Value} (h : Blk w L t cs) (hne : L ≠ g) (x0 x1 : Value) : Blk (put2 w g x0 x1) L t cs := (h.far (p := ⟨g, 0, none⟩) hne _).far (p := ⟨g, 1, none⟩) hne _
theorem Touch.put2 {S : Nat → Prop} {w w' : World} {g : Nat} (h : Touch S w w') (hg : S g ∨ w.heap.size ≤ g) (x0 x1 : Value) : Touch S w (put2 w' g x0 x1) := (h.setCell (p := ⟨g, 0, none⟩) hg _).setCell (p := ⟨g, 1, none⟩) hg _
theorem Ps.put2 {c : Cf} {k : Kp} {op : List Nat} {w : World} (h : Ps c k op w) {b : Nat} {t : TypeId} {y0 y1 : Value} (hb : Blk w b t #[y0, y1]) (ht : t ≠ 3) (hne : b ≠ c.g) (hB : c.W0.heap.size ≤ b) (x0 x1 : Value) : Ps c k op (put2 w b x0 x1) :=
 (h.put hb ht hne hB 0 x0).put (hb.put 0 x0) ht hne hB 1 x1
theorem Ps.put4 {c : Cf} {k : Kp} {op : List Nat} {w : World} (h : Ps c k op w) {b : Nat} {t : TypeId} {y0 y1 y2 y3 : Value} (hb : Blk w b t #[y0, y1, y2, y3]) (ht : t ≠ 3) (hne : b ≠ c.g) (hB : c.W0.heap.size ≤ b) (x0 x1 x2 x3 : Value) : Ps c k op (put4 w b x0 x1 x2 x3) :=
 (((h.put hb ht hne hB 0 x0).put (hb.put 0 x0) ht hne hB 1 x1).put ((hb.put 0 x0).put 1 x1) ht hne hB 2 x2).put (((hb.put 0 x0).put 1 x1).put 2 x2) ht hne hB 3 x3
theorem touch2 (w : World) (b : Nat) (x0 x1 : Value) : Touch (fun k => k = b) w (put2 w b x0 x1) := (Touch.refl (fun k => k = b) w).put2 (.inl rfl) x0 x1
theorem touch4 (w : World) (b : Nat) (x0 x1 x2 x3 : Value) : Touch (fun k => k = b) w (put4 w b x0 x1 x2 x3) := (Touch.refl (fun k => k = b) w).put4 (.inl rfl) x0 x1 x2 x3
theorem TreT.far {B : Nat} {w w' : World} {b : Nat} {ks : List Nd} {v : Value} (h : TreT B w ks v) (ht : Touch (fun k => k = b) w w') (hb : b < B) : TreT B w' ks v := h.mv ht fun k _ _ hk hB => by omega
theorem TreT.other {B : Nat} {w w' : World} {b : Nat} {t : TypeId} {cs : Array Value} {ks : List Nd} {v : Value} (h : TreT B w ks v) (hb : Blk w b t cs) (ht : t ≠ 35) (hw : Touch (fun k => k = b) w w') : TreT B w' ks v :=
 h.mv hw fun k cs' fr hk _ e => by
  subst hk;unfold Blk at hb;rw [hb] at e;cases e;exact ht rfl
theorem Calls.via {P : Program} {f : FuncId} {args : Array Value} {w : World} {R : Ending → World → Prop} (h : ∀ Q : Ending → World → Prop, (∀ e w', R e w' → Q e w') → Calls P f args w Q) : Calls P f args w R := h R fun _ _ h => h
theorem fail_ne {e : Nat} (h : e ≠ 0) : ((e : Int) == (0 : Int)) = false := by rw [beq_eq_false_iff_ne]; omega
theorem enclosed_n (c : Cf) (hc : c.Good) (f : Nat) (hrow : RowN c f) : EnclosedN c (f + 1) := by
 intro k op b w h hop hk hne;have htl := hc.tl;have HBE := hid (fun (w' : World) (hf : Fresh w w') => begin_any_n c hc k op w' (h.fresh hf) hk (by omega));have HR := hid hrow;have HF := hid (fun (k' : Kp) (w' : World) (h : Ps c k' (op ++ [Np.place c.en (c.at k).l]) w') (hk : k'.p < c.T.length ∨ Np.isM b (c.at k').l = false) => finish_any_n c hc k' op _ b w' h hk);have H := hid h;have HOP := hid hop;have hgl : c.g < w.heap.size := h.glt;have HW0 := hid h.low.size
 have hr : pIn c.E (f + 1) b op (c.at k) = (pRow c.E f (op ++ [Np.place c.en (c.at k).l]) (c.at k.up)).bind fun items r => if Np.isM b r.l then .ok items r.up else Mcr.refuse c.E r := by
  rw [pIn, Cf.at_up]
 rw [hr] at hne ⊢;generalize Np.place c.en (c.at k).l = pl at *;have HNE := hid hne;refine Calls.via fun Q hQ => ?_
 have HQ := hid hQ;clear hne hr hrow h hop hc hQ;go_enter Tryz.func67, Tryz.ntmps67;go_wp2_with fail
 refine (HBE.out _ ((Touch.refl _ _).alloc _)).mono ?_;rintro _ w1 ⟨rfl, hp1, hm1⟩;have HP1 := hid hp1;have HM1 := hid ((Mp.fresh ((Touch.refl _ w).alloc _)).trans hm1);have HB1 := hid (hm1.blk (Blk.new w 48 #[.int .i64 0, .int .i64 0]) (by omega) (by decide));clear hp1 hm1;go_wp2_with fail
 refine (HR.out k.up (op ++ [pl]) _ HP1.out (by have := HOP.out; simp; omega) (fun h => HNE.out (by rw [h]; rfl))).mono ?_;intro e w2 hres;generalize pRow c.E f (op ++ [pl]) (c.at k.up) = r at *;cases r with
 | out => exact absurd rfl HNE.out
 | err i er =>
  obtain ⟨he0, A, n, cp, rfl, hm⟩ := hres;have HE0 := hid he0;have e0 := fail_ne he0;have HM2 := hid (HM1.out.trans hm);have HB2 := hid (hm.blk HB1.out (by omega) (by decide));clear hm he0;unfold failV;go_wp2_with fail
  have hbe : Blk (w2.alloc (.cells #[.int .i64 (i : Int), .int .i64 (er : Int)] 48)) w2.heap.size 48 #[.int .i64 (i : Int), .int .i64 (er : Int)] := Blk.new _ _ _;have hbr : Blk (w2.alloc (.cells #[.int .i64 (i : Int), .int .i64 (er : Int)] 48)) w.heap.size 48 #[.int .i64 0, .int .i64 0] := HB2.out.alloc _;have hmr := HM2.out.alloc (.cells #[.int .i64 (i : Int), .int .i64 (er : Int)] 48);generalize (w2.alloc (.cells #[.int .i64 (i : Int), .int .i64 (er : Int)] 48)) = W3 at hbe hbr hmr ⊢;have r0 := cR (hbe.cell 0 |>.trans rfl);have r1 := cR (hbe.cell 1 |>.trans rfl);have hlt3 := hbe.lt;have HBR := hid hbr;have HMR := hid hmr;clear hbe hbr hmr;refine wp_region_mix [([(0, true), (1, true)], 2)] [] (by kernel_rfl) (fun _ _ d _ _ h => by cases d <;> exact h) (by kernel_rfl) ?_;refine wpMix_seg ?_
  repeat (refine wpSeq_plain rfl (fun K hK => ?_); go_simp; refine hK _ ?_; clear hK K)
  obtain ⟨p0, p1, y0, y1, hlt⟩ := Blk.two (HBR.out.drewN 1);refine wpSeq_shut rfl (fun K hK => ?_);go_wp2_with fail
  refine wpMix_end ?_;go_wp2_with fail
  have hb5 : Blk _ (w.heap.size) 48 #[.int .i64 (i : Int), .int .i64 (er : Int)] := ((HBR.out.drewN 1).put 0 (.int .i64 (i : Int))).put 1 (.int .i64 (er : Int));have hm5 := ((HMR.out.drewN 1).setCell (p := ⟨w.heap.size, 0, none⟩) (.inr (by show w.heap.size ≤ w.heap.size; omega)) (.int .i64 (i : Int))).setCell (p := ⟨w.heap.size, 1, none⟩) (.inr (by show w.heap.size ≤ w.heap.size; omega)) (.int .i64 (er : Int));obtain ⟨f0, f1, _⟩ := Blk.two hb5
  (try simp only [Exit.inBlock, Exit.then])
  refine bodyPost_ret (v := .tuple #[.slice none 0 0, failV i er]) (by simp [failV, results, Tryz.results67, go_sem, f0, f1]) rfl ?_;exact HQ.out _ _ ⟨HE0.out, none, 0, 0, rfl, hm5⟩
 | ok items rest => 
  obtain ⟨A, cp, k', rfl, htr, hdr, hkk, hp, hm⟩ := hres;have HTR := hid htr;have HP2 := hid hp;have HKK := hid hkk;have HM2 := hid (HM1.out.trans hm);have HB2 := hid (hm.blk HB1.out (by omega) (by decide));clear hm hp htr hkk;unfold failV;go_wp2_with fail
  have hmb := HM2.out.alloc (.cells #[.int .i64 0, .int .i64 0] 48);have hfb : Fresh w2 (w2.alloc (.cells #[.int .i64 0, .int .i64 0] 48)) := (Touch.refl _ _).alloc _;have hbb : Blk (w2.alloc (.cells #[.int .i64 0, .int .i64 0] 48)) w2.heap.size 48 #[.int .i64 0, .int .i64 0] := Blk.new _ _ _;generalize (w2.alloc (.cells #[.int .i64 0, .int .i64 0] 48)) = W3 at hmb hfb hbb ⊢;have HM3 := hid (show Mp c.g c.W0.heap.size w W3 from hmb);have HB3 := hid (hfb.blk HB2.out (fun h => h));have HE3 := hid hbb;have HTR3 := hid (HTR.out.fresh hfb);have HP3 := hid (HP2.out.fresh hfb);have hlt22 := HB2.out.lt;have hgl2 : c.g < w2.heap.size := HP2.out.glt
  have hnm : k'.p < c.T.length ∨ Np.isM b (c.at k').l = false := by
   cases hm : Np.isM b (c.at k').l with
   | true => exact .inl (isM_lt hm)
   | false => exact .inr rfl
  have HNM := hid hnm;subst hdr
  have HBND := hid (show (Mcr.R.ok items (c.at k')).bind (fun items r => if Np.isM b r.l = true then Mcr.R.ok items r.up else Mcr.refuse c.E r) = if Np.isM b (c.at k').l = true then .ok items (c.at k'.up) else .err (Np.place c.en (c.at k').l) 3 from by
   rw [← Cf.at_up]; rfl)
  rw [HBND.out] at HQ;clear hmb hfb hbb HNE HTR HB2 HP2 HBND hnm HBE HR;refine (HF.out k' _ HP3.out HNM.out).mono ?_;rintro _ w4 (⟨hm, rfl, hp, hmv⟩ | ⟨hm, rfl, hmv⟩)
  ·rw [hm, if_pos rfl] at HQ
   have HP4 := hid hp;have HM4 := hid (HM3.out.trans hmv);have HB4 := hid (hmv.blk HB3.out (by omega) (by decide));have hbe := hmv.blk HE3.out (by omega) (by decide);have HTR4 := hid (TreT.mp HTR3.out hmv HP3.out);have HBE4 := hid hbe;obtain ⟨p0, p1, y0, y1, hlt⟩ := Blk.two hbe;obtain ⟨s0, s1, x0, x1, hlt2⟩ := Blk.two HB4.out;clear hp hmv hbe hm HF;unfold failV;go_wp2_with fail
   have z5 := HB4.out.far2 (Nat.ne_of_lt hlt22) (.int .i64 0) (.int .i64 0);have hb5 := z5.self2 (.int .i64 0) (.int .i64 0);have hps := (HP4.out.put2 HBE4.out (by decide) (by omega) (by have := HW0.out; omega) (.int .i64 0) (.int .i64 0)).put2 z5 (by decide) (by omega) HW0.out (.int .i64 0) (.int .i64 0);have hm5 := (HM4.out.put2 (g := w2.heap.size) (.inr (by omega)) (.int .i64 0) (.int .i64 0)).put2 (.inr (Nat.le_refl w.heap.size)) (.int .i64 0) (.int .i64 0);have htr5 := (HTR4.out.other HBE4.out (by decide) (touch2 _ _ (.int .i64 0) (.int .i64 0))).other z5 (by decide) (touch2 _ _ (.int .i64 0) (.int .i64 0));obtain ⟨f0, f1, _⟩ := Blk.two hb5;simp only [put2] at f0 f1
   (try simp only [Exit.inBlock, Exit.then])
   refine bodyPost_ret (v := .tuple #[.slice A items.length cp, failV 0 0]) (by simp [failV, results, Tryz.results67, go_sem, f0, f1]) rfl ?_;exact HQ.out _ _ ⟨A, cp, k'.up, rfl, htr5.base (by have := HM1.out.size; omega), rfl, by have := HKK.out; (try simp only [Kp.up_p] at this ⊢); omega, hps, hm5⟩
  ·rw [hm, if_neg (by simp)] at HQ
   generalize Np.place c.en (c.at k').l = pq at *;have HM4 := hid (HM3.out.trans hmv);have HB4 := hid (hmv.blk HB3.out (by omega) (by decide));have hbe := hmv.blk HE3.out (by omega) (by decide);have HBE4 := hid hbe;obtain ⟨p0, p1, y0, y1, hlt⟩ := Blk.two hbe;clear hmv hbe hm HF HNM;unfold failV;go_wp2_with fail
   have hbe : Blk _ w2.heap.size 48 #[.int .i64 (pq : Int),   .int .i64 3] := (HBE4.out.put 0 (.int .i64 (pq : Int))).put 1 (.int .i64 3);have hbr : Blk _ w.heap.size 48 #[.int .i64 0, .int .i64 0] := ((HB4.out.far (p := ⟨w2.heap.size, 0, none⟩) (Nat.ne_of_lt hlt22) (.int .i64 (pq : Int))).far (p := ⟨w2.heap.size, 1, none⟩) (Nat.ne_of_lt hlt22) (.int .i64 3));have hmr := ((HM4.out.setCell (p := ⟨w2.heap.size, 0, none⟩) (.inr (by show w.heap.size ≤ w2.heap.size; omega)) (.int .i64 (pq : Int))).setCell (p := ⟨w2.heap.size, 1, none⟩) (.inr (by show w.heap.size ≤ w2.heap.size; omega)) (.int .i64 3));generalize ((w4.setCell ⟨w2.heap.size, 0, none⟩ (.int .i64 (pq : Int))).setCell ⟨w2.heap.size, 1, none⟩ (.int .i64 3)) = W3 at hbe hbr hmr ⊢;have r0 := cR (hbe.cell 0 |>.trans rfl);have r1 := cR (hbe.cell 1 |>.trans rfl);have hlt3 := hbe.lt;have HBR := hid hbr;have HMR := hid hmr;clear hbe hbr hmr;refine wp_region_mix [([(0, true), (1, true)], 2)] [] (by kernel_rfl) (fun _ _ d _ _ h => by cases d <;> exact h) (by kernel_rfl) ?_;refine wpMix_seg ?_
   repeat (refine wpSeq_plain rfl (fun K hK => ?_); go_simp; refine hK _ ?_; clear hK K)
   obtain ⟨p0, p1, y0, y1, hlt⟩ := Blk.two (HBR.out.drewN 1);refine wpSeq_shut rfl (fun K hK => ?_);go_wp2_with fail
   refine wpMix_end ?_;go_wp2_with fail
   have hb5 : Blk _ (w.heap.size) 48 #[.int .i64 (pq : Int), .int .i64 3] := ((HBR.out.drewN 1).put 0 (.int .i64 (pq : Int))).put 1 (.int .i64 3);have hm5 := ((HMR.out.drewN 1).setCell (p := ⟨w.heap.size, 0, none⟩) (.inr (by show w.heap.size ≤ w.heap.size; omega)) (.int .i64 (pq : Int))).setCell (p := ⟨w.heap.size, 1, none⟩) (.inr (by show w.heap.size ≤ w.heap.size; omega)) (.int .i64 3);obtain ⟨f0, f1, _⟩ := Blk.two hb5
   (try simp only [Exit.inBlock, Exit.then])
   refine bodyPost_ret (v := .tuple #[.slice none 0 0, failV pq 3]) (by simp [failV, results, Tryz.results67, go_sem, f0, f1]) rfl ?_;exact HQ.out _ _ ⟨by decide, none, 0, 0, rfl, hm5⟩
end Go.Proofs.YtomibmenojdieaaGreat
