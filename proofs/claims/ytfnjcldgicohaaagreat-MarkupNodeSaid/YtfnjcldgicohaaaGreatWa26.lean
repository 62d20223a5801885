/- Part 26 of 33 of a proof; its texts, joined: MoK. No condition. -/
import Derived.Test.YtfnjcldgicohaaaGreatWa25
set_option maxRecDepth 100000
set_option maxHeartbeats 8000000
namespace Go.Proofs.YtfnjcldgicohaaaGreat
open Go.RowKit
open Tr (Nd)
open El (E Rd Attrs ent rRow rItem rItems rRows rLines rowNil nMtd nMtr nMrow colsN)
attribute [local go_sem] stillV stillUpon
theorem lines_next (c : Int) (x : E) (s : Rd) : (rRows nMtd x.kids (ent (El.okLine c x) s)).2.1 ≤ s.1 + El.count x := by
 have h := El.next_rows nMtd x.kids (fun y _ nm s => El.next_row nm y s) (ent (El.okLine c x) s);have h3 : (ent (El.okLine c x) s).1 = s.1 + 1 := rfl;rw [El.count_kids];omega
theorem lines_cons (c : Int) (x : E) (xs : List E) (s : Rd) (hs : s.2 < 0) : rLines c (x :: xs) s = ((rRows nMtd x.kids (ent (El.okLine c x) s)).1 ++ (rLines c xs (rRows nMtd x.kids (ent (El.okLine c x) s)).2).1, (rLines c xs (rRows nMtd x.kids (ent (El.okLine c x) s)).2).2) := by
 cases x; rw [rLines, if_pos hs]; rfl
theorem ritem_table (W0 : World) (g : Nat) (e : E) (hK : El.kindR e.name = 12) (ih : ∀ x ∈ e.kids, RLineC W0 g x) : RItemC W0 g e := by
 intro s va vk w hs0 hcnt hpr hr hrd;have HK := hid hK;have HIH := hid ih;have HRD := hid hrd;have HPK := hid (El.proper_kids e hpr);have hg0 := hrd.lt;have hW0 := hrd.le;have HR0 := hid hr;have HKE := hid (show RepE W0 e.kids vk from hr.2.1);have HCN := hid (show (s.1 + 1) + El.countL e.kids ≤ 100000 by rw [El.count_kids] at hcnt; omega);have hl2 : e.kids.length ≤ 100000 := by have := El.countL_len e.kids; have := HCN.out; omega
 have hsb : s.1 ≤ 1000000 := by omega
 have HTL := hid (textR_len e (El.kindR e.name) hr.2.2.2 (El.values_le e hpr));have HKD := hid (fun w : World => rkind_any e.name w);have HTX := hid (fun (w : World) (h : RepV w e va vk) => rtext_any e va vk w h (El.values_le e hpr));have HSL := hid (fun (w : World) (h : RepV w e va vk) => rslots_any e (El.kindR e.name) va vk w h);have HOK := hid (show El.okItem e = (decide (0 < El.kindR e.name) && (El.textR e (El.kindR e.name)).2 && El.slotsK e.name e.kids.length (El.kindR e.name)) from rfl)
 have HRI := hid (show rItem e s = (.mk 12 (El.textR e (El.kindR e.name)).1 (colsN e.kids : Int) (rLines (colsN e.kids) e.kids (ent (El.okItem e) s)).1, (rLines (colsN e.kids) e.kids (ent (El.okItem e) s)).2) by
  rw [El.rItem_eq];simp only [if_pos hK]
  congr 1
  show (if El.kindR e.name = 6 ∧ _ then _ else _) = _;rw [hK, if_neg (fun h => absurd h.1 (by decide)), if_pos rfl])
 obtain ⟨A, ca, hva⟩ := hr.1.slice;obtain ⟨Bk, cb, hvk⟩ := hr.2.1.slice;clear ih hrd hpr hcnt hr hs0 hK;generalize El.okItem e = ok at *;generalize El.textR e (El.kindR e.name) = TR at *;generalize El.slotsK e.name e.kids.length (El.kindR e.name) = SB at *;generalize El.kindR e.name = K at *;obtain ⟨tx, tb⟩ := TR;obtain ⟨s1, hs1⟩ : ∃ s1, ent ok s = s1 := ⟨_, rfl⟩;rw [hs1] at HRI;have HS1 := hid hs1;have HCN2 := hid (show s1.1 + El.countL e.kids ≤ 100000 by rw [← hs1]; exact HCN.out)
 have HBD := hid (show s1.2 < 0 → ok = true by
  intro h;cases ok with
  | true => rfl
  | false =>
   rw [← hs1] at h;obtain ⟨a, b⟩ := s;have h : (if b < 0 then (a : Int) else b) < 0 := by simpa [ent] using h
   split at h <;> omega)
 clear hs1 HCN;obtain ⟨n, ats, ks, t⟩ := e;replace hva : va = .slice A ats.length ca := hva;replace hvk : vk = .slice Bk ks.length cb := hvk;subst hva hvk;unfold ev at *;simp only [E.name, E.text, E.kids] at *;go_enter Tryz.func32, Tryz.ntmps32;go_wp2_with fail
 have HF0 := hid (((Touch.refl (fun _ => False) w).alloc (.cells #[.string ⟨n.toArray⟩, .slice A ats.length ca, .slice Bk ks.length cb, .string ⟨t.toArray⟩] 25)).alloc (.cells #[.int .i64 0, .string ⟨#[]⟩, .int .i64 0, .slice none 0 0] 30));have HBE0 := hid ((Blk.new w 25 #[.string ⟨n.toArray⟩, .slice A ats.length ca, .slice Bk ks.length cb, .string ⟨t.toArray⟩]).alloc (.cells #[.int .i64 0, .string ⟨#[]⟩, .int .i64 0, .slice none 0 0] 30));have HBR0 := hid (Blk.new2 w (.cells #[.string ⟨n.toArray⟩, .slice A ats.length ca, .slice Bk ks.length cb, .string ⟨t.toArray⟩] 25) 30 #[.int .i64 0, .string ⟨#[]⟩, .int .i64 0, .slice none 0 0]);refine (HKD.out _).mono ?_;rintro _ w1 ⟨rfl, hf1⟩;have HF1 := hid (HF0.out.trans hf1);have HBE1 := hid (hf1.blk HBE0.out fun h => h);have HBR1 := hid (hf1.blk HBR0.out fun h => h);clear hf1 HF0 HBE0 HBR0;obtain ⟨q0, q1, q2, q3, _, _, _, _, hlt1⟩ := Blk.four HBE1.out;go_wp2_with fail
 refine (HTX.out _ (HR0.out.fresh (HRD.out.fr.trans HF1.out))).mono ?_;rintro _ w2 ⟨rfl, hf2⟩;have HF2 := hid (HF1.out.trans hf2);have HBE2 := hid (hf2.blk HBE1.out fun h => h);have HBR2 := hid (hf2.blk HBR1.out fun h => h);clear hf2 HF1 HBE1 HBR1 q0 q1 q2 q3 hlt1;obtain ⟨q0, q1, q2, q3, _, _, _, _, hlt2⟩ := Blk.four HBE2.out
 have hways : (decide ((0 : Int) < K) = false ∧ ok = false) ∨ (decide ((0 : Int) < K) = true ∧ tb = false ∧ ok = false) ∨ (decide ((0 : Int) < K) = true ∧ tb = true ∧ ok = SB) := by
  have h := HOK.out;cases hd : decide ((0 : Int) < K) with
  | false => exact .inl ⟨rfl, by rw [h, hd]; rfl⟩
  | true =>
   cases tb with
   | false => exact .inr (.inl ⟨rfl, rfl, by rw [h, hd]; rfl⟩)
   | true => exact .inr (.inr ⟨rfl, rfl, by rw [h, hd]; rfl⟩)
 have HEN := hid (show ∀ (W : World) (hf : Fresh w W) (b : Bool) (hb : ok = b), Blk W w.heap.size 25 #[.string ⟨n.toArray⟩, .slice A ats.length ca, .slice Bk ks.length cb, .string ⟨t.toArray⟩] → Blk W (w.heap.size + 1) 30 #[.int .i64 0, .string ⟨#[]⟩, .int .i64 0, .slice none 0 0] → Calls Tryz.prog 31 #[.pointer (some ⟨g, 0, none⟩), .bool b] W fun x w' => x = .returned (.tuple #[]) ∧ Touch (fun k => k = g) w w' ∧ Rdr W0 g s1 w' ∧ Blk w' w.heap.size 25 #[.string ⟨n.toArray⟩, .slice A ats.length ca, .slice Bk ks.length cb, .string ⟨t.toArray⟩] ∧ Blk w' (w.heap.size + 1) 30 #[.int .i64 0, .string ⟨#[]⟩, .int .i64 0, .slice none 0 0] from fun W hf b hb h1 h2 => by
  subst hb;refine (enter_any s ok g _ (HRD.out.fresh hf).blk hsb).mono ?_;rintro x w' ⟨hx, ht, hb⟩;rw [HS1.out] at hb;exact ⟨hx, (hf.mono fun _ h => h.elim).trans ht, (HRD.out.fresh hf).turn ht hb, ht.blk h1 fun h => by omega, ht.blk h2 fun h => by omega⟩)
 clear HOK HKD HTX hsb HS1
 rcases hways with ⟨d1, e1⟩ | ⟨d1, rfl, e1⟩ | ⟨d1, rfl, e1⟩
 focus
  go_wp2_with fail
  refine (HEN.out _ HF2.out _ e1 HBE2.out HBR2.out).mono ?_
 rotate_left
 focus
  go_wp2_with fail
  refine (HEN.out _ HF2.out _ e1 HBE2.out HBR2.out).mono ?_
 rotate_left
 focus
  go_wp2_with fail
  refine (HSL.out _ (HR0.out.fresh (HRD.out.fr.trans HF2.out))).mono ?_;rintro _ w4 ⟨rfl, hf4⟩;have HF4 := hid (HF2.out.trans hf4);have HBE4 := hid (hf4.blk HBE2.out fun h => h);have HBR4 := hid (hf4.blk HBR2.out fun h => h);clear hf4 HF2 HBE2 HBR2 q0 q1 q2 q3 hlt2;go_wp2_with fail
  refine (HEN.out _ HF4.out _ e1 HBE4.out HBR4.out).mono ?_
 all_goals
  rintro _ w3 ⟨rfl, ht3, hrd3, hbe3, hbr3⟩;have HT3 := hid ht3;have HRD3 := hid hrd3;have HBE3 := hid hbe3;have HBR3 := hid hbr3;clear ht3 hrd3 hbe3 hbr3 HEN HRD HSL e1 d1;obtain ⟨bO, hbO⟩ : ∃ b, b = w3.heap.size := ⟨_, rfl⟩;have HO := hid hbO;have hO1 : w.heap.size + 2 ≤ bO := by have := HBR3.out.lt; omega
  clear hbO;have hk12 : K = 12 := HK.out;subst hk12;have HEQ1 := hid (show (rLines (colsN ks : Int) ks s1) = ([] ++ (rLines (colsN ks : Int) (ks.drop 0) s1).1, (rLines (colsN ks : Int) (ks.drop 0) s1).2) by rw [List.drop_zero, List.nil_append])
  have HCK : ∀ (y : E) (ys : List E), ks = y :: ys → colsN ks = y.kids.length := by
   intro y ys h; subst h; cases y; rfl
  have hcn0 : ks = [] → colsN ks = 0 := by intro h; subst h; rfl
  generalize rLines (colsN ks : Int) ks s1 = RF at HEQ1 HRI;generalize colsN ks = cn at *;clear HBD HK
  have hcells : Hid (∀ W : World, Fresh W0 W → ks ≠ [] → ∃ gx o b2 c2, Bk = some ⟨gx, o, none⟩ ∧ gx < W0.heap.size ∧ W.cell? ⟨gx, o + 2, none⟩ = some (.slice b2 cn c2) ∧ 0 < ks.length) := hid fun W hW hk => by
   cases hks : ks with
   | nil => exact absurd hks hk
   | cons y ys =>
    obtain ⟨gx, o, xa, xk, hb, hek⟩ := HKE.out.elAt 0 (by rw [hks]; exact Nat.succ_pos _);obtain ⟨b2, c2, hx⟩ := hek.2.2.2.2.2.2.1.slice;have h2 := (hek.fresh hW).2.2.2.1;rw [Nat.zero_mul, Nat.add_zero, hx] at h2;rw [HCK y ys hks];have hy : ks[0]'(by rw [hks]; exact Nat.succ_pos _) = y := by simp [hks]
    rw [hy] at h2;exact ⟨gx, o, b2, c2, hb, hek.1, h2, Nat.succ_pos _⟩
  have hways3 : (ks.length = 0 ∧ cn = 0) ∨ ks ≠ [] := by
   cases hks : ks with
   | nil => exact .inl ⟨rfl, hcn0 hks⟩
   | cons y ys => exact .inr (List.cons_ne_nil _ _)
  clear HCK hcn0;have hlen3 : (ks.length = 0 → decide ((0 : Int) < (ks.length : Int)) = false) ∧ (0 < ks.length → decide ((0 : Int) < (ks.length : Int)) = true) := ⟨fun h => dF (by omega), fun h => dT (by omega)⟩;have hf30 : Fresh W0 (w3.alloc (.cells #[.int .i64 12, .string ⟨tx.toArray⟩, .int .i64 0, .slice none 0 0] 30)) := HRD3.out.fr.alloc _;have hbe30 := HBE3.out.alloc (.cells #[.int .i64 12, .string ⟨tx.toArray⟩, .int .i64 0, .slice none 0 0] 30);have hbo30 := Blk.new w3 30 #[.int .i64 12, .string ⟨tx.toArray⟩, .int .i64 0, .slice none 0 0];have hsuff : ∃ W1 : World, Touch (fun k => k = g) w W1 ∧ Rdr W0 g s1 W1 ∧ True := ⟨w3, HT3.out, HRD3.out, trivial⟩;clear hsuff
  rcases hways3 with ⟨hz, hcz⟩ | hnz
  focus
   have d0 := hlen3.1 hz;have d0n : decide (0 < ks.length) = false := dF (by omega);have HCZ := hid hcz;clear hlen3 hcz;obtain ⟨_, _, q2', _, _⟩ := Blk.four hbe30
   try clear q0 q1 q2 q3 hlt2
   go_wp2_with fail
   rw [← HO.out];clear d0 d0n hz q2' hbe30 hbo30 hf30 hcells
   refine forget_world (fun W => Touch (fun k => k = g) w W ∧ Rdr W0 g s1 W ∧ Blk W w.heap.size 25 #[.string ⟨n.toArray⟩, .slice A ats.length ca, .slice Bk ks.length cb, .string ⟨t.toArray⟩] ∧ Blk W (w.heap.size + 1) 30 #[.int .i64 0, .string ⟨#[]⟩, .int .i64 0, .slice none 0 0] ∧
    Blk W bO 30 #[.int .i64 12, .string ⟨tx.toArray⟩, .int .i64 (cn : Int), .slice none 0 0] ∧ bO + 1 ≤ W.heap.size) ⟨HT3.out.alloc _, HRD3.out.fresh ((Touch.refl _ _).alloc _), HBE3.out.alloc _, HBR3.out.alloc _, by rw [HO.out, HCZ.out]; exact Blk.new _ _ _, by rw [HO.out]; simp⟩ ?_
  rotate_left
  focus
   obtain ⟨gx, o, b2, c2, hB, hgx, hcell, hpos⟩ := hcells.out _ hf30 hnz;have d0 := hlen3.2 hpos;have d0n : decide (0 < ks.length) = true := dT hpos;have d0p : (0 : Int) < (ks.length : Int) := by omega
   subst hB;clear hlen3;obtain ⟨_, _, q2', _, _⟩ := Blk.four hbe30;obtain ⟨_, _, z2', _, _, _, zf2, _, hzl⟩ := Blk.four hbo30
   try clear q0 q1 q2 q3 hlt2
   go_wp2_with fail
   rw [← HO.out];clear d0 d0n d0p q2' z2' zf2 hzl hbo30 hcell hpos;generalize hBk : (some ⟨gx, o, none⟩ : Option Addr) = Bk at HKE HBE3 hbe30 ⊢;clear hBk
   refine forget_world (fun W => Touch (fun k => k = g) w W ∧ Rdr W0 g s1 W ∧ Blk W w.heap.size 25 #[.string ⟨n.toArray⟩, .slice A ats.length ca, .slice Bk ks.length cb, .string ⟨t.toArray⟩] ∧ Blk W (w.heap.size + 1) 30 #[.int .i64 0, .string ⟨#[]⟩, .int .i64 0, .slice none 0 0] ∧
    Blk W bO 30 #[.int .i64 12, .string ⟨tx.toArray⟩, .int .i64 (cn : Int), .slice none 0 0] ∧ bO + 1 ≤ W.heap.size) ⟨HT3.out.alloc _, HRD3.out.fresh ((Touch.refl _ _).alloc _), HBE3.out.alloc _, HBR3.out.alloc _, by rw [HO.out]; exact Blk.new _ _ _, by rw [HO.out]; simp⟩ ?_
   clear hbe30 hf30 hcells
  all_goals
   rintro W1 ⟨ht1, hrd1, hbe1, hbr1, hbo1, hs1⟩;have HT1 := hid ht1;have HRD1 := hid hrd1;have HBE1 := hid hbe1;have HBR1 := hid hbr1;have HBO1 := hid hbo1;have HG1 := hid (show GrowN (bO + 1) W1 [] (.slice none 0 0) from GrowN.nil hs1);have HZ1 := hid (show 0 + El.countL (ks.drop 0) ≤ El.countL ks by rw [List.drop_zero]; omega);clear ht1 hrd1 hbe1 hbr1 hbo1 hs1 HT3 HRD3 HBE3 HBR3 HO
   try clear q0 q1 q2 q3 hlt2
   go_loopw [9] (fun i wr => ∃ (j : Nat) (Ae : Option Addr) (ce ne : Nat) (ns : List Nd) (sj : Rd), i = .int .i64 j ∧ j ≤ ks.length ∧ Hid ((ns : List Nd).length = ne) ∧ Hid (ne + El.countL (ks.drop j) ≤ El.countL ks) ∧ Hid (Blk wr w.heap.size 25 #[.string ⟨n.toArray⟩, .slice A ats.length ca, .slice Bk ks.length cb, .string ⟨t.toArray⟩]) ∧ Hid (Blk wr (w.heap.size + 1) 30 #[.int .i64 0, .string ⟨#[]⟩, .int .i64 0, .slice none 0 0]) ∧
   Hid (Blk wr bO 30 #[.int .i64 12, .string ⟨tx.toArray⟩, .int .i64 (cn : Int), .slice Ae ne ce]) ∧ Hid (GrowN (bO + 1) wr ns (.slice Ae ne ce)) ∧ Hid (Touch (fun k => k = g) w wr) ∧ Hid (Rdr W0 g sj wr) ∧ Hid (sj.1 + El.countL (ks.drop j) ≤ 100000) ∧
   Hid (RF = (ns ++ (rLines (cn : Int) (ks.drop j) sj).1, (rLines (cn : Int) (ks.drop j) sj).2))) (fun i _ => ks.length - (intOf i).toNat)
   case atStart => exact ⟨0, none, 0, 0, [], s1, rfl, Nat.zero_le _, hid rfl, HZ1, HBE1, HBR1, HBO1, HG1, HT1, HRD1, HCN2, HEQ1⟩
   case round =>
    obtain ⟨j, Ae, ce, ne, ns, ⟨sa, sc⟩, rfl, hj, HNL, HNE, HBE, HBR, HBO, HG, HT, HRD, HCS, HEQ⟩ := hrel;rename_i wr _;have hsz := HT.out.size;have hgs := HRD.out.lt;obtain ⟨c0, _, e2, _, _, _, _, _, hle⟩ := Blk.four HBE.out;obtain ⟨_, r1, _, _, _⟩ := Blk.two (x0 := .int .i64 (sa : Int)) (x1 := .int .i64 sc) HRD.out.blk
    by_cases c1 : j < ks.length ∧ sc < 0
    ·have d1 : decide ((j : Int) < (ks.length : Int)) = true := dT (by omega)
     have d1n : decide (j < ks.length) = true := dT c1.1;have d1' : (j : Int) < (ks.length : Int) := by omega
     have d2 : decide (sc < (0 : Int)) = true := dT c1.2;have HC2 := hid c1.2;obtain ⟨hjl, _⟩ := c1;obtain ⟨gx, o, xa, xk, hBk, hek⟩ := HKE.out.elAt j hjl;cases hBk;have HEK := hid hek;have HMEM := hid (List.getElem_mem hjl);have HC := hid (HIH.out _ HMEM.out);have HPX := hid (HPK.out _ HMEM.out);have HDC := hid (El.countL_drop ks j hjl);have HDR := hid (List.drop_eq_getElem_cons hjl);have HNX := hid (lines_next (cn : Int) ks[j] (sa, sc));have HRL := hid (rows_len nMtd ks[j].kids (ent (El.okLine (cn : Int) ks[j]) (sa, sc)));have HKL := hid (show ks[j].kids.length + 1 ≤ El.count ks[j] by rw [El.count_kids]; have := El.countL_len ks[j].kids; omega);obtain ⟨hgx, x0, x1, x2, x3, hxr⟩ := hek.fresh HRD.out.fr;have HXE := hid (HNE.out);clear hek HMEM hxr hgx c0;generalize ks[j] = x at *;go_wp2_with fail
     have HCNT := hid (show ne + x.kids.length ≤ 200000 by have := HNE.out; have := HDC.out; have := HKL.out; have := HCN2.out; omega);refine (HC.out (sa, sc) xa xk wr bO (bO + 1) 12 (cn : Int) tx ns Ae ne ce HC2.out (by have := HCS.out; have := HDC.out; omega) HPX.out HEK.out.2.2.2.2.2 HRD.out HBO.out HNL.out HG.out (Nat.lt_succ_self bO) (by omega) (by omega) (by omega) HCNT.out).mono ?_;rintro _ w6 ⟨rfl, A6, n6, c6, hbo6, hnl6, hg6, hrd6, ht6⟩;have HBO6 := hid hbo6;have HNL6 := hid hnl6;have HG6 := hid hg6;have HRD6 := hid hrd6;have HBE6 := hid (ht6.blk HBE.out fun h => by rcases h with h | h | h <;> omega);have HBR6 := hid (ht6.blk HBR.out fun h => by rcases h with h | h | h <;> omega);have HT6 := hid (show Touch (fun k => k = g) w w6 from HT.out.trans' ht6 fun i hi => hi.elim .inl fun h => .inr (by omega))
     have HEQ2 := hid (show RF = ((ns ++ (rRows nMtd x.kids (ent (El.okLine (cn : Int) x) (sa, sc))).1) ++ (rLines (cn : Int) (ks.drop (j + 1)) (rRows nMtd x.kids (ent (El.okLine (cn : Int) x) (sa, sc))).2).1, (rLines (cn : Int) (ks.drop (j + 1)) (rRows nMtd x.kids (ent (El.okLine (cn : Int) x) (sa, sc))).2).2) by
      rw [HEQ.out, HDR.out, lines_cons _ _ _ _ HC2.out, List.append_assoc])
     have HCS2 := hid (show (rRows nMtd x.kids (ent (El.okLine (cn : Int) x) (sa, sc))).2.1 + El.countL (ks.drop (j + 1)) ≤ 100000 by have := HCS.out; have := HDC.out; have := HNX.out; omega);have HNE6 := hid (show n6 + El.countL (ks.drop (j + 1)) ≤ El.countL ks by have h1 := HNL6.out; have h2 := HRL.out; have h3 := HNL.out; rw [List.length_append] at h1; have := HNE.out; have := HDC.out; have := HKL.out; omega);clear hbo6 hnl6 hg6 hrd6 ht6 HEQ HC HDR HNX HCS HDC HRL HXE HNE HKL HCNT;generalize rRows nMtd x.kids (ent (El.okLine (cn : Int) x) (sa, sc)) = R at *;obtain ⟨ms, sb⟩ := R;simp only at *;clear e2 r1 x0 x1 x2 x3 d1 d1n d1' d2 hle;go_wp2_with fail
     go_roundw
     case rel => exact ⟨j + 1, A6, c6, n6, ns ++ ms, sb, by go_num, by omega, HNL6, HNE6, HBE6, HBR6, HBO6, HG6, HT6, HRD6, HCS2, HEQ2⟩
     case measure => simp [intOf]; omega
    ·have hend : rLines (cn : Int) (ks.drop j) (sa, sc) = ([], (sa, sc)) := by
      by_cases c2 : j < ks.length
      ·exact El.rLines_stop _ _ _ fun h => c1 ⟨c2, h⟩
      ·rw [List.drop_of_length_le (by omega), rLines]
     have HFIN := hid (show RF = (ns, (sa, sc)) by rw [HEQ.out, hend, List.append_nil]);clear hend HEQ;clear hl2
     have hways2 : (decide ((j : Int) < (ks.length : Int)) = false ∧ decide (j < ks.length) = false) ∨ ((decide ((j : Int) < (ks.length : Int)) = true ∧ decide (j < ks.length) = true) ∧ decide (sc < (0 : Int)) = false) := by
      by_cases c2 : j < ks.length
      ·exact .inr ⟨⟨dT (by omega), dT c2⟩, dF fun h => c1 ⟨c2, h⟩⟩
      ·exact .inl ⟨dF (by omega), dF c2⟩
     rcases hways2 with ⟨d1, d1n⟩ | ⟨⟨d1, d1n⟩, d2⟩
     all_goals
      obtain ⟨u0, u1, u2, u3, _, _, _, _, hlo⟩ := Blk.four HBO.out;obtain ⟨p0, p1, p2, p3, y0, y1, y2, y3, hlp⟩ := Blk.four HBR.out;have HG9 := hid (HG.out.mv ((Touch.refl (fun k => k = w.heap.size + 1) wr).put4 (.inl rfl) (.int .i64 12) (.string ⟨tx.toArray⟩) (.int .i64 (cn : Int)) (.slice Ae ne ce)) (fun k hk _ => by omega));obtain ⟨t0, t1, t2, t3, _, _, _, _, _⟩ := Blk.four (HBR.out.self4 (.int .i64 12) (.string ⟨tx.toArray⟩) (.int .i64 (cn : Int)) (.slice Ae ne ce));simp only [put4] at t0 t1 t2 t3;have HT9 := hid (Touch.put4 (g := w.heap.size + 1) HT.out (.inr (by omega)) (.int .i64 12) (.string ⟨tx.toArray⟩) (.int .i64 (cn : Int)) (.slice Ae ne ce));have HRD9 := hid (HRD.out.move ((Touch.refl (fun k => k = w.heap.size + 1) wr).put4 (.inl rfl) (.int .i64 12) (.string ⟨tx.toArray⟩) (.int .i64 (cn : Int)) (.slice Ae ne ce)) (by omega) fun k hk => by omega);go_wp2_with fail
      refine bodyPost_ret (v := .agg #[.int .i64 12, .string ⟨tx.toArray⟩, .int .i64 (cn : Int), (.slice Ae ne ce)]) (by simp [results, Tryz.results32, go_sem, t0, t1, t2, t3]) rfl ?_;refine ⟨_, rfl, ?_, ?_⟩
      ·rw [HRI.out, HFIN.out]
       refine ⟨.slice Ae ne ce, rfl, HT9.out, HTL.out, ?_⟩;exact (HG9.out.done.mono fun i _ hi => by omega)
      ·rw [HRI.out, HFIN.out]
       exact HRD9.out
end Go.Proofs.YtfnjcldgicohaaaGreat
