/- Part 37 of 42 of a proof; its texts, joined: NqO. No condition. -/
import Derived.Test.YtncnoeoicaglaaaGreatVs36
set_option maxRecDepth 100000
set_option maxHeartbeats 2000000
namespace Go.Proofs.YtncnoeoicaglaaaGreat
open Go.RowKit
open Tr (Nd)
open Lx (PTok)
open Np (R pRow pIn pScript pItem pPrim pArgs pName pCells pArg)
attribute [local go_sem] stillV stillUpon
theorem Np.plainName_one {t : PTok} {r l : List PTok} {ks : List Nd} (h : Np.plainName t r = .ok ks l) : ks.length = 1 := by
 unfold Np.plainName at h;split at h <;> cases h
 rfl
theorem map_len1 {α : Type} {x : R α} {g : α → List Nd} {ks : List Nd} {r : List PTok} (hg : ∀ a, (g a).length = 1) (h : x.map g = .ok ks r) : ks.length = 1 := by
 cases x <;> simp [Np.R.map, Np.R.bind] at h
 rw [← h.1];exact hg _
theorem bind_len1 {α : Type} {x : R α} {g : α → List PTok → R (List Nd)} {ks : List Nd} {r : List PTok} (hg : ∀ a l, g a l = .ok ks r → ks.length = 1) (h : x.bind g = .ok ks r) : ks.length = 1 := by
 cases x with
 | ok a l => exact hg a l h
 | err i e => cases h
 | out => cases h
theorem pName_one {en f : Nat} {op : List Nat} {t : PTok} {r l : List PTok} {ks : List Nd} (h : pName en f op t r = .ok ks l) : ks.length = 1 := by
 cases f with
 | zero => rw [pName] at h; cases h
 | succ f =>
  rw [pName] at h;split at h
  ·exact map_len1 (fun _ => rfl) h
  ·split at h
   ·split at h
    ·exact bind_len1 (fun a l h => map_len1 (fun _ => rfl) h) h
    ·exact map_len1 (fun _ => rfl) h
   ·split at h
    ·split at h
     ·exact map_len1 (fun _ => rfl) h
     ·cases h
    ·split at h
     ·exact map_len1 (fun _ => rfl) h
     ·exact Np.plainName_one h
theorem pPrim_one {en f : Nat} {op : List Nat} {l r : List PTok} {ks : List Nd} (hg : Np.isM 123 l = false) (h : pPrim en f op l = .ok ks r) : ks.length = 1 := by
 cases f with
 | zero => rw [pPrim] at h; cases h
 | succ f =>
  cases l with
  | nil => rw [pPrim] at h; cases h
  | cons t l =>
   rw [pPrim] at h;split at h
   ·cases h; rfl
   ·split at h
    ·exact pName_one h
    ·split at h
     ·exact map_len1 (fun _ => rfl) h
     ·split at h
      ·exact map_len1 (fun _ => rfl) h
      ·split at h
       ·exact map_len1 (fun _ => rfl) h
       ·rw [hg] at h
        cases h
theorem scripts_one {g : Bool} {en : Nat} {base : List Nd} {x y : Option Nd} {l r : List PTok} {ks : List Nd} (hb : g = false → base.length = 1) (h : Np.scripts g en base x y l = .ok ks r) : ks.length = 1 := by
 unfold Np.scripts at h;split at h
 ·cases h; rfl
 ·cases h; rfl
 ·cases h; rfl
 ·cases g with
  | true => cases h
  | false => cases h; exact hb rfl
theorem pItem_one {en f : Nat} {op : List Nat} {l r : List PTok} {ks : List Nd} (h : pItem en f op l = .ok ks r) : ks.length = 1 := by
 cases f with
 | zero => rw [pItem] at h; cases h
 | succ f =>
  rw [pItem] at h;cases hp : pPrim en f op l with
  | err i e => rw [hp] at h; cases h
  | out => rw [hp] at h; cases h
  | ok base r1 =>
   rw [hp] at h;have hb : Np.isM 123 l = false → base.length = 1 := fun hg => pPrim_one hg hp
   refine bind_len1 (fun sub r h => bind_len1 (fun sup r h => ?_) h) (show (pScript en f 95 op r1).bind _ = _ from h);split at h
   ·exact bind_len1 (fun sub r h => scripts_one hb h) h
   ·exact scripts_one hb h
theorem TreT.single {B : Nat} {W : World} {x : Nd} {v : Value} (h : TreT B W [x] v) : ∃ sl, Src W 4 v 1 [.int .i64 x.kind, .string ⟨x.text.toArray⟩, .int .i64 x.cols, sl] ∧ TreT B W x.kids sl ∧ x.text.length ≤ maxLen := by
 obtain ⟨cs, ⟨sl, ds, h1, h2, h3⟩, h4⟩ := h.src;rw [show ds = [] from h3] at h1;subst h1;exact ⟨sl, h4, h2⟩
def slLen : Value → Nat
 | .slice _ n _ => n
 | _ => 0
theorem row_n (c : Cf) (hc : c.Good) (F : Nat) (hF : F ≤ 1000000) (hitem : ∀ f', f' < F → ItemN c f') : RowN c F := by
 intro k op w h hop hne;obtain ⟨i, hi, hz0, hz1, hz2⟩ := info_parts infoNodeN;have HIT := hid hitem;have HT := hid (fun (k' : Nat) (w' : World) (hp : Ps c k' op w') => tok_any_n c hc k' op w' hp);have HA := hid (fun (b : UInt8) (k' : Nat) (w' : World) (hp : Ps c k' op w') => at_any_n c hc k' op b w' hp);have HKNZ := hid hc.knz;have htl := hc.tl;have H := hid h;have HOP := hid hop;have HFF := hid hF;have hgl : c.g < w.heap.size := h.glt;have HW0 := hid h.low.size;have HNE := hid hne;refine Calls.via fun Q hQ => ?_
 have HQ := hid hQ;clear hne hitem h hop hc hQ hF;generalize hX : pRow c.en F op (c.T.drop k) = X at HNE HQ;have HX := hid hX;clear hX;unfold pp0;go_enter Tryz.func42, Tryz.ntmps42;go_wp2_with fail
 have hf1 : Fresh w (w.alloc (.cells #[.int .i64 0, .int .i64 0] 56)) := (Touch.refl _ _).alloc _;have hbf : Blk (w.alloc (.cells #[.int .i64 0, .int .i64 0] 56)) w.heap.size 56 #[.int .i64 0, .int .i64 0] := Blk.new _ _ _;have hsw1 : (w.alloc (.cells #[.int .i64 0, .int .i64 0] 56)).heap.size = w.heap.size + 1 := by simp
 generalize (w.alloc (.cells #[.int .i64 0, .int .i64 0] 56)) = W1 at hf1 hbf hsw1 ⊢;have HF1 := hid hf1;have HBF1 := hid hbf;have HSZ1 := hid hsw1;clear hf1 hbf hsw1
 go_loopw [4] (fun j wr => ∃ (k1 : Nat) (ks : List Nd) (A : Option Addr) (cp : Nat), j = .slice A ks.length cp ∧ Hid (Blk wr w.heap.size 56 #[.int .i64 0, .int .i64 0]) ∧ Hid (Grow (fun _ => False) wr w.heap.size W1.heap.size ks (.slice A ks.length cp)) ∧ Hid (Ps c k1 op wr) ∧ k ≤ k1 ∧ Hid (Mp c.g c.W0.heap.size w wr) ∧ W1.heap.size ≤ wr.heap.size ∧ ks.length ≤ F ∧ Hid (X = (pRow c.en (F - ks.length) op (c.T.drop k1)).map fun l => ks ++ l)) (fun j _ => F - slLen j)
 case atStart =>
  refine ⟨k, [], none, 0, rfl, HBF1, Grow.nil _ _ _ _, H.out.fresh HF1.out, Nat.le_refl _, Mp.fresh HF1.out, Nat.le_refl _, Nat.zero_le _, ?_⟩;unfold Hid;rw [← HX.out, List.length_nil, Nat.sub_zero];cases pRow c.en F op (c.T.drop k) <;> rfl
 case round =>
  obtain ⟨k1, ks, A, cp, rfl, HBF, HG, HP, hkk, HM, hsz, hle, HXX⟩ := hrel
  obtain ⟨f', hf'⟩ : ∃ f', F - ks.length = f' + 1 := by
   rcases Nat.eq_zero_or_pos (F - ks.length) with h0 | h0
   ·exfalso
    have h1 := HXX.out;rw [h0, pRow] at h1;exact HNE.out h1
   ·exact ⟨F - ks.length - 1, by omega⟩
  have HXS := hid (show X = (pRow c.en (f' + 1) op (c.T.drop k1)).map fun l => ks ++ l from by rw [HXX.out, hf']);have HF' := hid hf';have HLE := hid hle;have HKK := hid hkk;have HSZ := hid hsz;have hlr : w.heap.size < wr.heap.size := HBF.out.lt;have HGL := hid (show c.g < wr.heap.size from Nat.lt_trans hgl hlr);clear HXX hf' hle hkk hsz;have HT1 := hid (HT.out k1 wr HP.out);have HA1 := hid (fun (b : UInt8) (w' : World) (hf : Fresh wr w') => HA.out b k1 w' (HP.out.fresh hf));cases hl : c.T.drop k1 with
  | nil =>
   rw [hl] at HT1;unfold tokV at HT1
   dsimp only at HT1
   have HL := hid hl;clear hl
   rcases List.eq_nil_or_concat op with hop0 | ⟨op', x, hop0⟩
   ·have HXO := hid (show X = .ok ks (c.T.drop k1) from by
     rw [HXS.out, HL.out, pRow, hop0];simp [Np.R.map, Np.R.bind])
    obtain ⟨ov, hb, ho⟩ := HP.out.box;obtain ⟨Ao, co, rfl⟩ := own_slc ho;rw [hop0, List.length_nil] at hb;have HB := hid hb;clear hb ho hop0;go_wp2_with fail
    refine HT1.out.mono ?_;rintro _ w1 ⟨rfl, hf⟩;have HFA := hid hf;have HBA := hid (HFA.out.blk HBF.out fun h => h);have hb1 := hf.blk HB.out fun h => h
    have q3 := hb1.cell 3;have hg1 := hb1.lt;obtain ⟨p0, p1, y0, y1, hlt⟩ := Blk.two HBA.out;clear hf hb1;go_wp2_with fail
    have htr := (((HG.out.tree (by have := HSZ1.out; omega)).fresh HFA.out).other HBA.out (by decide) (touch2 w1 w.heap.size (.int .i64 0) (.int .i64 0))).fresh ((Touch.refl _ _).alloc (.cells #[.int .i64 0, .string ⟨#[]⟩, .int .i64 (c.en : Int), .int .i64 (c.en : Int)] 134));have hps := ((HP.out.fresh HFA.out).put2 HBA.out (by decide) (by omega) HW0.out (.int .i64 0) (.int .i64 0)).fresh ((Touch.refl _ _).alloc (.cells #[.int .i64 0, .string ⟨#[]⟩, .int .i64 (c.en : Int), .int .i64 (c.en : Int)] 134));have hm9 : Mp c.g c.W0.heap.size w _ := ((HM.out.fr HFA.out).put2 (g := w.heap.size) (.inr (Nat.le_refl _)) (.int .i64 0) (.int .i64 0)).alloc (.cells #[.int .i64 0, .string ⟨#[]⟩, .int .i64 (c.en : Int), .int .i64 (c.en : Int)] 134);have hb9 := ((HBA.out).self2 (.int .i64 0) (.int .i64 0)).alloc (.cells #[.int .i64 0, .string ⟨#[]⟩, .int .i64 (c.en : Int), .int .i64 (c.en : Int)] 134);obtain ⟨f0, f1, _⟩ := Blk.two hb9;simp only [put2] at htr hps hm9 f0 f1
    (try simp only [Exit.inBlock, Exit.then])
    refine bodyPost_ret (v := .tuple #[.slice A ks.length cp, failV 0 0]) (by simp [failV, results, Tryz.results42, go_sem, f0, f1]) rfl ?_;rw [HXO.out] at HQ;exact HQ.out _ _ ⟨A, cp, k1, rfl, htr, rfl, HKK.out, hps, hm9⟩
   ·rw [List.concat_eq_append] at hop0
    obtain ⟨ov, hb, ho⟩ := HP.out.box
    have HXE := hid (show X = .err x 12 from by
     rw [HXS.out, HL.out, pRow, if_pos ⟨rfl, by rw [hop0]; simp⟩, hop0];simp [Np.R.map, Np.R.bind])
    obtain ⟨go, co, rfl, hco⟩ : ∃ go cp, ov = .slice (some ⟨go, 0, none⟩) (op'.length + 1) cp ∧ op'.length + 1 ≤ cp := by
     rcases ho.2 with ⟨_, h2⟩ | ⟨g, cap, cur, h1, _, _, h2, _⟩
     ·rw [hop0] at h2; simp at h2
     ·rw [hop0, List.length_append, List.length_singleton] at h1 h2
      exact ⟨_, _, h1, h2⟩
    have hmax : op'.length + 1 ≤ 100000 := by
     have h1 := HOP.out;have h2 := HP.out.le;rw [hop0, List.length_append, List.length_singleton] at h1;have := HKK.out;omega
    have HCX := hid (show wr.cell? ⟨go, op'.length, none⟩ = some (.int .i64 (x : Int)) from by
     have := ho.cells (g := go) rfl op'.length (.int .i64 (x : Int)) (by rw [hop0]; simp)
     rwa [Addr.add_mid, Nat.zero_add] at this)
    have HGO := hid (show go < wr.heap.size from bL HCX.out);have HB := hid hb;have HCO := hid hco;clear hb ho hop0 hco;go_wp2_with fail
    refine HT1.out.mono ?_;rintro _ w1 ⟨rfl, hf⟩;have HFA := hid hf;have hb1 := hf.blk HB.out fun h => h
    have q3 := hb1.cell 3;have hg1 := hb1.lt;have d1 : decide ((op'.length : Int) + 1 > 0) = true := decide_eq_true (by omega);have d2 : (0 : Int) < (op'.length : Int) + 1 := by omega
    clear hf hb1;go_wp2_with fail
    have hfb := HFA.out.alloc (.cells #[.int .i64 0, .string ⟨#[]⟩, .int .i64 (c.en : Int), .int .i64 (c.en : Int)] 134);generalize (w1.alloc (.cells #[.int .i64 0, .string ⟨#[]⟩, .int .i64 (c.en : Int), .int .i64 (c.en : Int)] 134)) = w2 at hfb ⊢;clear q3 hg1 d1 d2;have r3 := cR (((hfb.blk HB.out fun h => h).cell 3).trans rfl);have rx := cR (hfb.cell HCX.out fun h => h);have hg2 : c.g < w2.heap.size := Nat.lt_of_lt_of_le HGL.out hfb.size;have hgo : go < w2.heap.size := Nat.lt_of_lt_of_le HGO.out hfb.size;have e1 : ((op'.length : Int) + 1) - 1 = (op'.length : Int) := by omega
    have e2 : IntKind.i64.wrap ((op'.length : Int)) = (op'.length : Int) := IntWalk.i64_in _ (by omega);have e3 : (op'.length : Int) < (op'.length : Int) + 1 := by omega
    have e4 : (0 : Int) ≤ (op'.length : Int) := by omega
    have HBA := hid (hfb.blk HBF.out fun h => h);have HMA := hid (HM.out.fr hfb);clear hfb;refine wp_region_mix [([(0, true), (1, true), (2, true), (3, true), (4, true), (5, true), (6, true), (7, true), (8, true), (9, true), (10, true), (11, true), (12, true), (13, true)], 14)] [] (by kernel_rfl) (fun _ _ d _ _ h => by cases d <;> exact h) (by kernel_rfl) ?_;refine wpMix_seg ?_
    repeat (refine wpSeq_plain rfl (fun K hK => ?_); go_simp; refine hK _ ?_; clear hK K)
    clear r3 rx e1 e2 e3 e4 hgo hg2;obtain ⟨p0, p1, y0, y1, hlt⟩ := Blk.two (HBA.out.drewN 1);refine wpSeq_shut rfl (fun K hK => ?_);go_wp2_with fail
    refine wpMix_end ?_;go_wp2_with fail
    have hb5 := ((HBA.out.drewN 1).self2 (.int .i64 (x : Int)) (.int .i64 12));have hm5 : Mp c.g c.W0.heap.size w _ := (HMA.out.drewN 1).put2 (g := w.heap.size) (.inr (Nat.le_refl _)) (.int .i64 (x : Int)) (.int .i64 12);obtain ⟨f0, f1, _⟩ := Blk.two hb5;simp only [put2] at f0 f1 hm5
    (try simp only [Exit.inBlock, Exit.then])
    refine bodyPost_ret (v := .tuple #[.slice none 0 0, failV x 12]) (by simp [failV, results, Tryz.results42, go_sem, f0, f1]) rfl ?_;rw [HXE.out] at HQ;exact HQ.out _ _ ⟨by decide, none, 0, 0, rfl, hm5⟩
  | cons t r =>
   rw [hl] at HT1;unfold tokV at HT1
   dsimp only at HT1
   have HL := hid hl;have hmem : t ∈ c.T := List.mem_of_mem_drop (i := k1) (by rw [hl]; simp);have hk0 := HKNZ.out t hmem;have e0 : ((t.kind : Int) == 0) = false := by rw [beq_eq_false_iff_ne]; omega
   have e0p : ¬ ((t.kind : Int) = 0) := by omega
   have HXC := hid (show Np.stops (t :: r) = true → X = .ok ks (c.T.drop k1) from fun hs => by
    rw [HXS.out, HL.out, pRow, if_neg (by simp), if_pos (.inr hs)];simp [Np.R.map, Np.R.bind])
   clear hl hmem hk0
   by_cases h8 : t.kind = 8
   ·have HXO := hid (HXC.out (by simp [Np.stops, Np.isBreak, h8]))
    rw [show ((t.kind : Nat) : Int) = 8 from by omega] at HT1;clear h8 e0 e0p;go_wp2_with fail
    refine HT1.out.mono ?_;rintro _ w1 ⟨rfl, hf⟩;have HFA := hid hf;have HBA := hid (HFA.out.blk HBF.out fun h => h);clear hf;obtain ⟨p0, p1, y0, y1, hlt⟩ := Blk.two HBA.out;go_wp2_with fail
    have htr := (((HG.out.tree (by have := HSZ1.out; omega)).fresh HFA.out).other HBA.out (by decide) (touch2 w1 w.heap.size (.int .i64 0) (.int .i64 0))).fresh ((Touch.refl _ _).alloc (.cells #[.int .i64 8, .string ⟨t.text.toArray⟩, .int .i64 (t.from_ : Int), .int .i64 (t.to_ : Int)] 134));have hps := ((HP.out.fresh HFA.out).put2 HBA.out (by decide) (by omega) HW0.out (.int .i64 0) (.int .i64 0)).fresh ((Touch.refl _ _).alloc (.cells #[.int .i64 8, .string ⟨t.text.toArray⟩, .int .i64 (t.from_ : Int), .int .i64 (t.to_ : Int)] 134));have hm9 : Mp c.g c.W0.heap.size w _ := ((HM.out.fr HFA.out).put2 (g := w.heap.size) (.inr (Nat.le_refl _)) (.int .i64 0) (.int .i64 0)).alloc (.cells #[.int .i64 8, .string ⟨t.text.toArray⟩, .int .i64 (t.from_ : Int), .int .i64 (t.to_ : Int)] 134);have hb9 := ((HBA.out).self2 (.int .i64 0) (.int .i64 0)).alloc (.cells #[.int .i64 8, .string ⟨t.text.toArray⟩, .int .i64 (t.from_ : Int), .int .i64 (t.to_ : Int)] 134);obtain ⟨f0, f1, _⟩ := Blk.two hb9;simp only [put2] at htr hps hm9 f0 f1
    (try simp only [Exit.inBlock, Exit.then])
    refine bodyPost_ret (v := .tuple #[.slice A ks.length cp, failV 0 0]) (by simp [failV, results, Tryz.results42, go_sem, f0, f1]) rfl ?_;rw [HXO.out] at HQ;exact HQ.out _ _ ⟨A, cp, k1, rfl, htr, rfl, HKK.out, hps, hm9⟩
   ·have e8 := kind_no _ 8 h8
    have e8p : ¬ ((t.kind : Int) = 8) := by omega
    have H8 := hid (show Np.isBreak (t :: r) = false from by simp [Np.isBreak, h8]);clear h8;go_wp2_with fail
    refine HT1.out.mono ?_;rintro _ w1 ⟨rfl, hf⟩;have HFA := hid hf;have HBA := hid (HFA.out.blk HBF.out fun h => h);clear hf;go_wp2_with fail
    refine (HA1.out 41 _ (HFA.out.alloc (.cells #[.int .i64 (t.kind : Int), .string ⟨t.text.toArray⟩, .int .i64 (t.from_ : Int), .int .i64 (t.to_ : Int)] 134))).mono ?_;rw [HL.out];rintro _ w2 ⟨rfl, hf⟩;have HF2 := hid ((HFA.out.alloc (.cells #[.int .i64 (t.kind : Int), .string ⟨t.text.toArray⟩, .int .i64 (t.from_ : Int), .int .i64 (t.to_ : Int)] 134)).trans hf);have HB2 := hid (hf.blk (HBA.out.alloc (.cells #[.int .i64 (t.kind : Int), .string ⟨t.text.toArray⟩, .int .i64 (t.from_ : Int), .int .i64 (t.to_ : Int)] 134)) fun h => h);clear hf;cases m41 : Np.isM 41 (t :: r) with
    | true =>
     have HXO := hid (HXC.out (by simp [Np.stops, m41]));obtain ⟨p0, p1, y0, y1, hlt⟩ := Blk.two HB2.out;go_wp2_with fail
     have htr := (((HG.out.tree (by have := HSZ1.out; omega)).fresh HF2.out).other HB2.out (by decide) (touch2 w2 w.heap.size (.int .i64 0) (.int .i64 0)));have hps := ((HP.out.fresh HF2.out).put2 HB2.out (by decide) (by omega) HW0.out (.int .i64 0) (.int .i64 0));have hm9 : Mp c.g c.W0.heap.size w _ := ((HM.out.fr HF2.out).put2 (g := w.heap.size) (.inr (Nat.le_refl _)) (.int .i64 0) (.int .i64 0));have hb9 := ((HB2.out).self2 (.int .i64 0) (.int .i64 0));obtain ⟨f0, f1, _⟩ := Blk.two hb9;simp only [put2] at htr hps hm9 f0 f1
     (try simp only [Exit.inBlock, Exit.then])
     refine bodyPost_ret (v := .tuple #[.slice A ks.length cp, failV 0 0]) (by simp [failV, results, Tryz.results42, go_sem, f0, f1]) rfl ?_;rw [HXO.out] at HQ;exact HQ.out _ _ ⟨A, cp, k1, rfl, htr, rfl, HKK.out, hps, hm9⟩
    | false =>
     go_wp2_with fail
     refine (HA1.out 93 _ HF2.out).mono ?_;rw [HL.out];rintro _ w3 ⟨rfl, hf⟩;have HF3 := hid (HF2.out.trans hf);have HB3 := hid (hf.blk HB2.out fun h => h);clear hf;cases m93 : Np.isM 93 (t :: r) with
     | true =>
      have HXO := hid (HXC.out (by simp [Np.stops, m93]));obtain ⟨p0, p1, y0, y1, hlt⟩ := Blk.two HB3.out;go_wp2_with fail
      have htr := (((HG.out.tree (by have := HSZ1.out; omega)).fresh HF3.out).other HB3.out (by decide) (touch2 w3 w.heap.size (.int .i64 0) (.int .i64 0)));have hps := ((HP.out.fresh HF3.out).put2 HB3.out (by decide) (by omega) HW0.out (.int .i64 0) (.int .i64 0));have hm9 : Mp c.g c.W0.heap.size w _ := ((HM.out.fr HF3.out).put2 (g := w.heap.size) (.inr (Nat.le_refl _)) (.int .i64 0) (.int .i64 0));have hb9 := ((HB3.out).self2 (.int .i64 0) (.int .i64 0));obtain ⟨f0, f1, _⟩ := Blk.two hb9;simp only [put2] at htr hps hm9 f0 f1
      (try simp only [Exit.inBlock, Exit.then])
      refine bodyPost_ret (v := .tuple #[.slice A ks.length cp, failV 0 0]) (by simp [failV, results, Tryz.results42, go_sem, f0, f1]) rfl ?_;rw [HXO.out] at HQ;exact HQ.out _ _ ⟨A, cp, k1, rfl, htr, rfl, HKK.out, hps, hm9⟩
     | false =>
      go_wp2_with fail
      refine (HA1.out 125 _ HF3.out).mono ?_;rw [HL.out];rintro _ w4 ⟨rfl, hf⟩;have HF4 := hid (HF3.out.trans hf);have HB4 := hid (hf.blk HB3.out fun h => h);clear hf;cases m125 : Np.isM 125 (t :: r) with
      | true =>
       have HXO := hid (HXC.out (by simp [Np.stops, m125]));obtain ⟨p0, p1, y0, y1, hlt⟩ := Blk.two HB4.out;go_wp2_with fail
       have htr := (((HG.out.tree (by have := HSZ1.out; omega)).fresh HF4.out).other HB4.out (by decide) (touch2 w4 w.heap.size (.int .i64 0) (.int .i64 0)));have hps := ((HP.out.fresh HF4.out).put2 HB4.out (by decide) (by omega) HW0.out (.int .i64 0) (.int .i64 0));have hm9 : Mp c.g c.W0.heap.size w _ := ((HM.out.fr HF4.out).put2 (g := w.heap.size) (.inr (Nat.le_refl _)) (.int .i64 0) (.int .i64 0));have hb9 := ((HB4.out).self2 (.int .i64 0) (.int .i64 0));obtain ⟨f0, f1, _⟩ := Blk.two hb9;simp only [put2] at htr hps hm9 f0 f1
       (try simp only [Exit.inBlock, Exit.then])
       refine bodyPost_ret (v := .tuple #[.slice A ks.length cp, failV 0 0]) (by simp [failV, results, Tryz.results42, go_sem, f0, f1]) rfl ?_;rw [HXO.out] at HQ;exact HQ.out _ _ ⟨A, cp, k1, rfl, htr, rfl, HKK.out, hps, hm9⟩
      | false =>
       go_wp2_with fail
       refine (HA1.out 38 _ HF4.out).mono ?_;rw [HL.out];rintro _ w5 ⟨rfl, hf⟩;have HF5 := hid (HF4.out.trans hf);have HB5 := hid (hf.blk HB4.out fun h => h);clear hf;cases m38 : Np.isM 38 (t :: r) with
       | true =>
        have HXO := hid (HXC.out (by simp [Np.stops, m38]));obtain ⟨p0, p1, y0, y1, hlt⟩ := Blk.two HB5.out;go_wp2_with fail
        have htr := (((HG.out.tree (by have := HSZ1.out; omega)).fresh HF5.out).other HB5.out (by decide) (touch2 w5 w.heap.size (.int .i64 0) (.int .i64 0)));have hps := ((HP.out.fresh HF5.out).put2 HB5.out (by decide) (by omega) HW0.out (.int .i64 0) (.int .i64 0));have hm9 : Mp c.g c.W0.heap.size w _ := ((HM.out.fr HF5.out).put2 (g := w.heap.size) (.inr (Nat.le_refl _)) (.int .i64 0) (.int .i64 0));have hb9 := ((HB5.out).self2 (.int .i64 0) (.int .i64 0));obtain ⟨f0, f1, _⟩ := Blk.two hb9;simp only [put2] at htr hps hm9 f0 f1
        (try simp only [Exit.inBlock, Exit.then])
        refine bodyPost_ret (v := .tuple #[.slice A ks.length cp, failV 0 0]) (by simp [failV, results, Tryz.results42, go_sem, f0, f1]) rfl ?_;rw [HXO.out] at HQ;exact HQ.out _ _ ⟨A, cp, k1, rfl, htr, rfl, HKK.out, hps, hm9⟩
       | false =>
        go_wp2_with fail
        have HNS := hid (show Np.stops (t :: r) = false from by simp [Np.stops, H8.out, m41, m93, m125, m38])
        have HXI := hid (show X = ((pItem c.en f' op (c.T.drop k1)).bind fun more r => (pRow c.en f' op r).map fun items => more ++ items).map fun l => ks ++ l from by
         rw [HXS.out, HL.out, pRow, if_neg (by simp), if_neg (by simp [HNS.out])])
        refine (HIT.out f' (by have := HF'.out; omega) k1 op w5 (HP.out.fresh HF5.out) (by have := HOP.out; have := HKK.out; omega) (fun h => HNE.out (by rw [HXI.out, h]; rfl))).mono ?_;intro e w6 hres;have hone : ∀ items rest, pItem c.en f' op (c.T.drop k1) = .ok items rest → items.length = 1 := fun items rest h => pItem_one h
        have hparts := hres.parts (fun h => HNE.out (by rw [HXI.out, h]; rfl));clear hres;generalize pItem c.en f' op (c.T.drop k1) = Y at HXI hparts hone;obtain ⟨A1, n1, cp1, i1, er1, rfl, hm, hend⟩ := hparts;have HM6 := hid ((HM.out.fr HF5.out).trans hm);have HB6 := hid (hm.blk HB5.out (by omega) (by decide));have HS6 := hid (show w.heap.size < w6.heap.size from HB6.out.lt);have HMM := hid hm;have HD5 := hid HF5.out;clear hm
        rcases hend with ⟨items, rest, k', rfl, rfl, rfl, rfl, htr, hdr, hkk2, hp⟩ | ⟨rfl, he0⟩
        case inr =>
         have HE0 := hid he0;have e0 := fail_ne he0;clear he0 hone;have HXE := hid (show X = .err i1 er1 from by rw [HXI.out]; rfl);unfold failV;go_wp2_with fail
         have hbe := Blk.new w6 56 #[.int .i64 (i1 : Int), .int .i64 (er1 : Int)];have hbr := HB6.out.alloc (.cells #[.int .i64 (i1 : Int), .int .i64 (er1 : Int)] 56);have hmr := HM6.out.alloc (.cells #[.int .i64 (i1 : Int), .int .i64 (er1 : Int)] 56);generalize (w6.alloc (.cells #[.int .i64 (i1 : Int), .int .i64 (er1 : Int)] 56)) = W5 at hbe hbr hmr ⊢;have r0 := cR (hbe.cell 0 |>.trans rfl);have r1 := cR (hbe.cell 1 |>.trans rfl);have hlt3 := hbe.lt;have HBR := hid hbr;have HMR := hid hmr;clear hbe hbr hmr;refine wp_region_mix [([(0, true), (1, true)], 2)] [] (by kernel_rfl) (fun _ _ d _ _ h => by cases d <;> exact h) (by kernel_rfl) ?_;refine wpMix_seg ?_
         repeat (refine wpSeq_plain rfl (fun K hK => ?_); go_simp; refine hK _ ?_; clear hK K)
         obtain ⟨p0, p1, y0, y1, hlt⟩ := Blk.two (HBR.out.drewN 1);refine wpSeq_shut rfl (fun K hK => ?_);go_wp2_with fail
         refine wpMix_end ?_;go_wp2_with fail
         have hb5 : Blk _ (w.heap.size) 56 #[.int .i64 (i1 : Int), .int .i64 (er1 : Int)] := ((HBR.out.drewN 1).put 0 (.int .i64 (i1 : Int))).put 1 (.int .i64 (er1 : Int));have hm5 := ((HMR.out.drewN 1).setCell (p := ⟨w.heap.size, 0, none⟩) (.inr (by show w.heap.size ≤ w.heap.size; omega)) (.int .i64 (i1 : Int))).setCell (p := ⟨w.heap.size, 1, none⟩) (.inr (by show w.heap.size ≤ w.heap.size; omega)) (.int .i64 (er1 : Int));obtain ⟨f0, f1, _⟩ := Blk.two hb5
         (try simp only [Exit.inBlock, Exit.then])
         refine bodyPost_ret (v := .tuple #[.slice none 0 0, failV i1 er1]) (by simp [failV, results, Tryz.results42, go_sem, f0, f1]) rfl ?_;rw [HXE.out] at HQ;exact HQ.out _ _ ⟨HE0.out, none, 0, 0, rfl, hm5⟩
        have hl1 := hone items rest rfl;clear hone
        obtain ⟨x, rfl⟩ : ∃ x, items = [x] := by
         cases items with
         | nil => simp at hl1
         | cons x l =>
          cases l with
          | nil => exact ⟨x, rfl⟩
          | cons y l => simp at hl1
        clear hl1
        have HXN := hid (show X = (pRow c.en f' op (c.T.drop k')).map fun l => (ks ++ [x]) ++ l from by
         rw [HXI.out, hdr];show R.map (R.map (pRow c.en f' op rest) (fun items => [x] ++ items)) (fun l => ks ++ l) = R.map (pRow c.en f' op rest) _;cases pRow c.en f' op rest <;> simp [Np.R.map, Np.R.bind])
        obtain ⟨sl, hsrc, htrk, htx⟩ := htr.single;have HSRC := hid hsrc;have HTRK := hid htrk;have HTX := hid htx;have HP6 := hid hp;have HK2 := hid hkk2;have HG6 := hid (show Grow (fun _ => False) w6 w.heap.size W1.heap.size ks (.slice A ks.length cp) from (HG.out.fresh HF5.out).mv HMM.out (by have := HSZ1.out; omega) (fun _ h => h.elim) (fun b hb => .inr (.inr (PT.nty (HP.out.fresh HF5.out) hb))))
        have HOB := hid (show ∀ b, (Value.slice A ks.length cp).ownBlock = some b → b < w5.heap.size from fun b hb => by
         obtain ⟨cs, h1, _⟩ := HG.out;obtain ⟨_, cur, h4⟩ := owns_type h1 hb;exact Nat.lt_of_lt_of_le (Array.getElem?_eq_some_iff.1 h4).1 HF5.out.size)
        clear hdr htr hsrc htrk htx hp hkk2;unfold failV
        go_wp2_with (at_builtin; refine wpList_append_grow rfl (.tmp 71) (.tmp 72) rfl i _ hi hz0 hz1 hz2 rfl (B0 := w.heap.size) (B := W1.heap.size) (B1 := w5.heap.size) (ks := ks) (v := .slice A ks.length cp) (y := .slice A1 1 cp1) (HG6.out.fresh ((Touch.refl _ _).alloc _)) (by simp [Act.eval]) x sl (by simp [Act.eval]) (HSRC.out.fresh ((Touch.refl _ _).alloc _)) (HTRK.out.fresh ((Touch.refl _ _).alloc _)) (by have := HD5.out.size; omega) (fun _ h => h.elim) HOB.out HTX.out (by have := HFF.out; have := HLE.out; omega) (by have := HSZ.out; have := HD5.out.size; have := HMM.out.size; simp; omega) ?_; intro A8 cp8 W8 hg8 ht8; refine Stay.mk ?_)
        have hlen : (ks ++ [x]).length = ks.length + 1 := by simp
        have hp8 := ht8.ps (HP6.out.fresh ((Touch.refl _ _).alloc (.cells #[.int .i64 0, .int .i64 0] 56))) (by have := HSZ1.out; have := HW0.out; omega) (by have := HSZ1.out; omega);have hm8 := ht8.mp (HM6.out.fr ((Touch.refl _ _).alloc (.cells #[.int .i64 0, .int .i64 0] 56))) (by have := HSZ1.out; omega);have hb8 := ht8.blk1 (HB6.out.alloc (.cells #[.int .i64 0, .int .i64 0] 56)) (by have := HSZ1.out; omega);have hs8 : W1.heap.size ≤ W8.heap.size := by have := ht8.size; have := HSZ.out; have := HD5.out.size; have := HMM.out.size; simp at *; omega
        refine Stay.go ?_;go_wp2_with fail
        refine ⟨⟨k', ks ++ [x], A8, cp8, by rw [hlen], hb8, by rw [hlen]; exact hg8, hp8, Nat.le_trans HKK.out HK2.out, hm8, hs8, by have := HF'.out; omega, ?_⟩, by simp [slLen]; have := HF'.out; omega⟩;unfold Hid;rw [hlen, show F - (ks.length + 1) = f' from by have := HF'.out; omega];exact HXN.out
end Go.Proofs.YtncnoeoicaglaaaGreat
