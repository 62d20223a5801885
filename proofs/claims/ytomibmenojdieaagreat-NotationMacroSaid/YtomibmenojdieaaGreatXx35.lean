/- Part 35 of 42 of a proof; its texts, joined: NyX, NyQ. No condition. -/
import Derived.Test.YtomibmenojdieaaGreatXx31
import Derived.Test.YtomibmenojdieaaGreatXx34
import Derived.WideMake
set_option maxRecDepth 100000
set_option maxHeartbeats 4000000
namespace Go.Proofs.YtomibmenojdieaaGreat
open Go.RowKit
open Tr (Nd)
open Lx (PTok)
open Mcr (R pMac pFill pArg expandS)
attribute [local go_sem] stillV stillUpon
theorem Ps.own_ne {c : Cf} {op : List Nat} {w : World} {ov : Value} {cs : Array Value} (hb : Blk w c.g 78 cs) (ho : w.ownsRow c.W0.heap.size 3 1 ov op.length (intVs (up op))) : ∀ b, ov.ownBlock = some b → b ≠ c.g := fun b hb' => by
 obtain ⟨h1, cur, h2⟩ := owns_type ho hb';intro e;subst e;unfold Blk at hb;rw [hb] at h2;cases h2
theorem Ps.set7 {c : Cf} {k : Kp} {op : List Nat} {w : World} (h : Ps c k op w) (n : Nat) (hn : n ≤ 1000 * k.p) : Ps c ⟨k.p, n, k.b⟩ op (w.setCell ⟨c.g, 7, none⟩ (.int .i64 (n : Int))) ∧ Mp c.g c.W0.heap.size w (w.setCell ⟨c.g, 7, none⟩ (.int .i64 (n : Int))) := by
 obtain ⟨ov, hb, ho⟩ := h.box;have hne := Ps.own_ne hb ho;exact ⟨⟨h.low.setCell (p := ⟨c.g, 7, none⟩) (.inl rfl) _, ⟨ov, hb.put 7 (.int .i64 (n : Int)), ownsRow_touch ho ((Touch.refl (fun b => b = c.g) w).setCell (p := ⟨c.g, 7, none⟩) (.inl rfl) _) hne⟩, h.le, hn⟩, Mp.put w 7 _⟩
theorem Ps.set8 {c : Cf} {k : Kp} {op : List Nat} {w : World} (h : Ps c k op w) (b : Bool) : Ps c ⟨k.p, k.n, b⟩ op (w.setCell ⟨c.g, 8, none⟩ (.bool b)) ∧ Mp c.g c.W0.heap.size w (w.setCell ⟨c.g, 8, none⟩ (.bool b)) := by
 obtain ⟨ov, hb, ho⟩ := h.box;have hne := Ps.own_ne hb ho;exact ⟨⟨h.low.setCell (p := ⟨c.g, 8, none⟩) (.inl rfl) _, ⟨ov, hb.put 8 (.bool b), ownsRow_touch ho ((Touch.refl (fun b => b = c.g) w).setCell (p := ⟨c.g, 8, none⟩) (.inl rfl) _) hne⟩, h.le, h.nl⟩, Mp.put w 8 _⟩
theorem Ps.cells {c : Cf} {k : Kp} {op : List Nat} {w : World} (h : Ps c k op w) : w.cell? ⟨c.g, 4, none⟩ = some c.tp ∧ w.cell? ⟨c.g, 7, none⟩ = some (.int .i64 (k.n : Int)) ∧ w.cell? ⟨c.g, 8, none⟩ = some (.bool k.b) ∧ w.frozen? ⟨c.g, 7, none⟩ = false ∧ w.frozen? ⟨c.g, 8, none⟩ = false ∧ c.g < w.heap.size := by
 obtain ⟨ov, hb, _⟩ := h.box;exact ⟨hb.cell 4, hb.cell 7, hb.cell 8, hb.frozen 7, hb.frozen 8, hb.lt⟩
theorem expand_n (c : Cf) (hc : c.Good) (F : Nat) (harg : ∀ f', f' < F → ArgumentN c f') : ExpandN c (F + 1) := by
 intro k op t m w h hop hnl htx hgm hne;have HARG := hid harg;have htl := hc.tl
 have HPAR := hid (show m.params ≤ 4 from by
  have hm : m ∈ c.tb := List.mem_of_find?_eq_some hgm
  rcases hc.tab with ⟨_, h⟩ | ⟨gt, bm, nv, sls, _, h⟩
  ·rw [h] at hm; cases hm
  ·exact (h.txt m hm).2.1)
 have HTAB := hid (fun (k' : Kp) (w' : World) (hp : Ps c k' op w') => TabV.at hc hp);have H := hid h;have HOP := hid hop;have HNL := hid hnl;have HTX := hid htx;have hgl : c.g < w.heap.size := h.glt;have HW0 := hid h.low.size;obtain ⟨X, hX⟩ : ∃ X, X = pFill c.E F m.params op true [] (c.at k) := ⟨_, rfl⟩;have hXX : pMac c.E (F + 1) m.params op t (c.at k) = X.bind fun p r => expandS c.E t k.n k.b p.1 p.2 r := by rw [pMac, hX]; rfl
 rw [hXX] at hne ⊢;have HNE := hid hne;have HX := hid hX;obtain ⟨n, hn⟩ : ∃ n, n = m.params := ⟨_, rfl⟩;have HN := hid hn;rw [← hn] at HX HPAR ⊢;refine Calls.via fun Q hQ => ?_
 have HQ := hid hQ;obtain ⟨a4, a7, a8, z7, z8, _⟩ := h.cells;clear hne harg h hop hc hQ hX hXX hnl htx hgm hn;unfold pp0 tokA;go_enter Tryz.func102, Tryz.ntmps102;go_wp2_with fail
 have HF1 := hid (show Fresh w ((w.alloc (.cells #[.int .i64 (t.kind : Int), .string ⟨t.text.toArray⟩, .int .i64 (t.from_ : Int), .int .i64 (t.to_ : Int)] 107)).alloc (.cells #[.int .i64 0, .int .i64 0] 48)) from ((Touch.refl _ w).alloc _).alloc _);have HBT := hid ((Blk.new w 107 #[.int .i64 (t.kind : Int), .string ⟨t.text.toArray⟩, .int .i64 (t.from_ : Int), .int .i64 (t.to_ : Int)]).alloc (.cells #[.int .i64 0, .int .i64 0] 48));have HBF := hid (Blk.new2 w (.cells #[.int .i64 (t.kind : Int), .string ⟨t.text.toArray⟩, .int .i64 (t.from_ : Int), .int .i64 (t.to_ : Int)] 107) 48 #[.int .i64 0, .int .i64 0]);have HS1 := hid (show ((w.alloc (.cells #[.int .i64 (t.kind : Int), .string ⟨t.text.toArray⟩, .int .i64 (t.from_ : Int), .int .i64 (t.to_ : Int)] 107)).alloc (.cells #[.int .i64 0, .int .i64 0] 48)).heap.size = w.heap.size + 2 by simp);generalize ((w.alloc (.cells #[.int .i64 (t.kind : Int), .string ⟨t.text.toArray⟩, .int .i64 (t.from_ : Int), .int .i64 (t.to_ : Int)] 107)).alloc (.cells #[.int .i64 0, .int .i64 0] 48)) = W1 at HF1 HBT HBF HS1 ⊢;have HP1 := hid (H.out.fresh HF1.out);obtain ⟨b4, b7, b8, _, _, hg1⟩ := HP1.out.cells;have r7 := cR (b7.trans rfl);have r8 := cR (b8.trans rfl);refine wp_region_mix [] [(0, true), (1, true), (2, true), (3, true), (4, true), (5, true), (6, true), (7, true), (8, true), (9, true)] (by kernel_rfl) (fun _ _ d _ _ h => by cases d <;> exact h) (by kernel_rfl) ?_;refine wpMix_last ?_
 repeat (refine wpSeq_plain rfl (fun K hK => ?_); go_simp; refine hK _ ?_; clear hK K)
 refine wpSeq_end ?_;have HFD := hid (show Fresh w (W1.drewN 1) from HF1.out.drewN 1);have HBTD := hid (HBT.out.drewN 1);have HBFD := hid (HBF.out.drewN 1);have HPD := hid (HP1.out.fresh ((Touch.refl _ W1).drewN 1));have HSD := hid (show (W1.drewN 1).heap.size = w.heap.size + 2 from HS1.out);clear r7 r8 b4 b7 b8 hg1 HF1 HBT HBF HP1 HS1 a4 a7 a8 z7 z8;generalize W1.drewN 1 = W2 at HFD HBTD HBFD HPD HSD ⊢;go_wp2_with fail
 go_loopw [10, 11, 25] (fun a z i wr0 => ∃ (wr : World) (q : Nat) (k1 : Kp) (ats : List Nd) (zz : Bool) (A : Option Addr) (cp : Nat), wr = wr0 ∧ a = .slice A ats.length cp ∧ z = .bool zz ∧ i = .int .i64 q ∧ q ≤ n ∧ Hid (ats.length = q) ∧ Hid (Blk wr w.heap.size 107 #[.int .i64 (t.kind : Int), .string ⟨t.text.toArray⟩, .int .i64 (t.from_ : Int), .int .i64 (t.to_ : Int)]) ∧ Hid (Blk wr (w.heap.size + 1) 48 #[.int .i64 0, .int .i64 0]) ∧ Hid (Grow (fun _ => False) wr w.heap.size W2.heap.size ats (.slice A ats.length cp)) ∧ Hid (Ps c k1 op wr) ∧ Hid (k.p ≤ k1.p) ∧ Hid (Mp c.g c.W0.heap.size w wr) ∧ Hid (W2.heap.size ≤ wr.heap.size) ∧ Hid (X = pFill c.E (F - q) (n - q) op zz ats (c.at k1))) (fun _ _ i _ => n - (intOf i).toNat)
 case atStart => exact ⟨_, 0, k, [], true, none, 0, rfl, rfl, rfl, rfl, Nat.zero_le _, hid rfl, HBTD, HBFD, hid (Grow.nil _ _ _ _), HPD, hid (Nat.le_refl _), hid (Mp.fresh HFD.out), hid (Nat.le_refl _), HX⟩
 case round =>
  clear HBTD HBFD HPD HX;obtain ⟨wr, q, k1, ats, zz, A, cp, rfl, rfl, rfl, rfl, hq, HAL, HBT, HBF, HG, HP, HKK, HM, HSZ, HXX⟩ := hrel;have hn4 := HPAR.out
  by_cases c1 : q < n
  ·have d1 : decide ((q : Int) < (n : Int)) = true := dT (by omega)
   have d1n : decide (q < n) = true := dT c1;have d1' : (q : Int) < (n : Int) := by omega
   obtain ⟨f', hf'⟩ : ∃ f', F - q = f' + 1 := by
    rcases Nat.eq_zero_or_pos (F - q) with h0 | h0
    ·exfalso
     have h1 := HXX.out;rw [h0] at h1;exact HNE.out (by rw [h1]; cases n - q <;> (rw [pFill]; rfl))
    ·exact ⟨F - q - 1, by omega⟩
   obtain ⟨n', hn'⟩ : ∃ n', n - q = n' + 1 := ⟨n - q - 1, by omega⟩;have HXS := hid (show X = (pArg c.E f' op (c.at ⟨k1.p, 0, false⟩)).bind fun a r => pFill c.E f' n' op (zz && !r.b) (ats ++ [a]) r by rw [HXX.out, hf', hn', pFill]; rfl);have HFF := hid (show f' < F ∧ f' = F - (q + 1) ∧ n' = n - (q + 1) from by omega);have HQN := hid (And.intro c1 hn4);clear hf' hn' HXX;obtain ⟨b4, b7, b8, z7, z8, hg1⟩ := HP.out.cells;have HPA := hid (HP.out.set7 0 (Nat.zero_le _));have HPB := hid (HPA.out.1.set8 false);have HMB := hid ((HM.out.trans HPA.out.2).trans HPB.out.2);have HTS := hid (show Touch (fun b => b = c.g) wr ((wr.setCell ⟨c.g, 7, none⟩ (.int .i64 ((0 : Nat) : Int))).setCell ⟨c.g, 8, none⟩ (.bool false)) from ((Touch.refl (fun b => b = c.g) wr).setCell (p := ⟨c.g, 7, none⟩) (.inl rfl) _).setCell (p := ⟨c.g, 8, none⟩) (.inl rfl) _);rw [show ((0 : Nat) : Int) = 0 from rfl] at HPB HMB HTS;go_wp2_with fail
   have HW3 := hid HPB.out.1;clear b4 b7 b8 z7 z8 hg1 HPA HPB d1 d1n d1';generalize ((wr.setCell ⟨c.g, 7, none⟩ (.int .i64 0)).setCell ⟨c.g, 8, none⟩ (.bool false)) = w3 at HMB HTS HW3 ⊢;have HBT3 := hid (HTS.out.blk HBT.out (by omega));have HBF3 := hid (HTS.out.blk HBF.out (by omega));have HG3 := hid (HG.out.mv HTS.out (by have := HSD.out; omega) (fun _ h => h.elim) (fun b hb => .inr (.inr (by rw [hb]; exact PT.nty HP.out (.inl rfl)))));have HSZ3 := hid (show wr.heap.size ≤ w3.heap.size from HTS.out.size);have HOW := hid HG3.out.own_lt;refine (HARG.out f' HFF.out.1 ⟨k1.p, 0, false⟩ op w3 HW3.out (Nat.le_trans HOP.out HKK.out) (fun h => HNE.out (by rw [HXS.out, h]; rfl))).mono ?_;intro e w4 hres;generalize pArg c.E f' op (c.at ⟨k1.p, 0, false⟩) = Y at HXS hres;cases Y with
   | out => exact absurd (by rw [HXS.out]; rfl) HNE.out
   | err ei er =>
    obtain ⟨he0, nn, An, cn, rfl, hmv⟩ := hres;have HE0 := hid he0;have e0 := fail_ne he0;have HM4 := hid (HMB.out.trans hmv);have HBF4 := hid (hmv.blk HBF3.out (by omega) (by decide));have HXE := hid (show X = .err ei er from HXS.out);clear hmv he0;unfold failV nodeV;go_wp2_with fail
    have hbe := Blk.new2 w4 (.cells #[.int .i64 nn.kind, .string ⟨nn.text.toArray⟩, .int .i64 nn.cols, .slice An nn.kids.length cn] 35) 48 #[.int .i64 (ei : Int), .int .i64 (er : Int)];have hbr := (HBF4.out.alloc (.cells #[.int .i64 nn.kind, .string ⟨nn.text.toArray⟩, .int .i64 nn.cols, .slice An nn.kids.length cn] 35)).alloc (.cells #[.int .i64 (ei : Int), .int .i64 (er : Int)] 48);have hmr := (HM4.out.alloc (.cells #[.int .i64 nn.kind, .string ⟨nn.text.toArray⟩, .int .i64 nn.cols, .slice An nn.kids.length cn] 35)).alloc (.cells #[.int .i64 (ei : Int), .int .i64 (er : Int)] 48);generalize ((w4.alloc (.cells #[.int .i64 nn.kind, .string ⟨nn.text.toArray⟩, .int .i64 nn.cols, .slice An nn.kids.length cn] 35)).alloc (.cells #[.int .i64 (ei : Int), .int .i64 (er : Int)] 48)) = W3 at hbe hbr hmr ⊢;have r0 := cR (hbe.cell 0 |>.trans rfl);have r1 := cR (hbe.cell 1 |>.trans rfl);have hlt3 := hbe.lt;have HBR := hid hbr;have HMR := hid hmr;clear hbe hbr hmr;refine wp_region_mix [([(0, true), (1, true)], 2)] [] (by kernel_rfl) (fun _ _ d _ _ h => by cases d <;> exact h) (by kernel_rfl) ?_;refine wpMix_seg ?_
    repeat (refine wpSeq_plain rfl (fun K hK => ?_); go_simp; refine hK _ ?_; clear hK K)
    obtain ⟨p0, p1, y0, y1, hlt⟩ := Blk.two (HBR.out.drewN 1);refine wpSeq_shut rfl (fun K hK => ?_);go_wp2_with fail
    refine wpMix_end ?_;go_wp2_with fail
    have hb5 : Blk _ (w.heap.size + 1) 48 #[.int .i64 (ei : Int), .int .i64 (er : Int)] := ((HBR.out.drewN 1).put 0 (.int .i64 (ei : Int))).put 1 (.int .i64 (er : Int));have hm5 := ((HMR.out.drewN 1).setCell (p := ⟨w.heap.size + 1, 0, none⟩) (.inr (by show w.heap.size ≤ w.heap.size + 1; omega)) (.int .i64 (ei : Int))).setCell (p := ⟨w.heap.size + 1, 1, none⟩) (.inr (by show w.heap.size ≤ w.heap.size + 1; omega)) (.int .i64 (er : Int));obtain ⟨f0, f1, _⟩ := Blk.two hb5
    (try simp only [Exit.inBlock, Exit.then])
    refine bodyPost_ret (v := .tuple #[.slice none 0 0, failV ei er]) (by simp [failV, results, Tryz.results102, go_sem, f0, f1]) rfl ?_;rw [HXE.out] at HQ;exact HQ.out _ _ ⟨HE0.out, none, 0, 0, rfl, hm5⟩
   | ok x rest =>
    obtain ⟨A1, cp1, k2, rfl, htr, htxa, hdr, hkk2, hp, hm⟩ := hres;have HTR := hid htr;have HTXA := hid htxa;have HP4 := hid hp;have HK2 := hid (show k1.p ≤ k2.p from hkk2);have HM4 := hid (HMB.out.trans hm);have HBT4 := hid (hm.blk HBT3.out (by omega) (by decide));have HBF4 := hid (hm.blk HBF3.out (by omega) (by decide));have HXN := hid (show X = pFill c.E f' n' op (zz && !k2.b) (ats ++ [x]) (c.at k2) by rw [HXS.out, ← hdr]; rfl);have HG4 := hid (HG3.out.mv hm (by have := HSD.out; omega) (fun _ h => h.elim) (fun b hb => .inr (.inr (PT.nty HW3.out hb))));have HSZ4 := hid (show w3.heap.size ≤ w4.heap.size from hm.size);clear htr htxa hdr hkk2 hp hm HXS;have HFA := hid (show Fresh w4 ((w4.alloc (.cells #[.int .i64 x.kind, .string ⟨x.text.toArray⟩, .int .i64 x.cols, .slice A1 x.kids.length cp1] 35)).alloc (.cells #[.int .i64 0, .int .i64 0] 48)) from ((Touch.refl _ w4).alloc _).alloc _);have HBX := hid ((Blk.new w4 35 #[.int .i64 x.kind, .string ⟨x.text.toArray⟩, .int .i64 x.cols, .slice A1 x.kids.length cp1]).alloc (.cells #[.int .i64 0, .int .i64 0] 48));have HBY := hid (Blk.new2 w4 (.cells #[.int .i64 x.kind, .string ⟨x.text.toArray⟩, .int .i64 x.cols, .slice A1 x.kids.length cp1] 35) 48 #[.int .i64 0, .int .i64 0]);obtain ⟨b4, b7, b8, z7, z8, hg1⟩ := (HP4.out.fresh HFA.out).cells;obtain ⟨x0, x1, x2, x3, _, _, _, _, hlx⟩ := Blk.four HBX.out;obtain ⟨y0, y1, _, _, hly⟩ := Blk.two HBY.out;obtain ⟨ii, hi, hz0, hz1, hz2⟩ := info_parts infoNodeN;have hal10 : ats.length < 2 ^ 40 := by have := HAL.out; have := HQN.out; omega
    have HL10 := hid hal10;clear hal10;have HBZ := hid (show Blk (((w4.alloc (.cells #[.int .i64 x.kind, .string ⟨x.text.toArray⟩, .int .i64 x.cols, .slice A1 x.kids.length cp1] 35)).alloc (.cells #[.int .i64 0, .int .i64 0] 48)).alloc (.cells #[.int .i64 x.kind, .string ⟨x.text.toArray⟩, .int .i64 x.cols, .slice A1 x.kids.length cp1] 35)) (w4.heap.size + 1 + 1) 35 #[.int .i64 x.kind, .string ⟨x.text.toArray⟩, .int .i64 x.cols, .slice A1 x.kids.length cp1] by have h := Blk.new ((w4.alloc (.cells #[.int .i64 x.kind, .string ⟨x.text.toArray⟩, .int .i64 x.cols, .slice A1 x.kids.length cp1] 35)).alloc (.cells #[.int .i64 0, .int .i64 0] 48)) 35 #[.int .i64 x.kind, .string ⟨x.text.toArray⟩, .int .i64 x.cols, .slice A1 x.kids.length cp1]; simpa using h);have HFZ := hid (show Fresh w4 (((w4.alloc (.cells #[.int .i64 x.kind, .string ⟨x.text.toArray⟩, .int .i64 x.cols, .slice A1 x.kids.length cp1] 35)).alloc (.cells #[.int .i64 0, .int .i64 0] 48)).alloc (.cells #[.int .i64 x.kind, .string ⟨x.text.toArray⟩, .int .i64 x.cols, .slice A1 x.kids.length cp1] 35)) from HFA.out.alloc _);unfold failV nodeV;cases zz
    all_goals
     go_wp2_with (at_builtin; go_loud (refine wpList_append_grow rfl (.tmp 50) (.tmp 52) rfl ii _ hi hz0 hz1 hz2 rfl (B0 := w.heap.size) (B := W2.heap.size) (B1 := w3.heap.size) (ks := ats) (v := .slice A ats.length cp) (y := .slice (some ⟨w4.heap.size + 1 + 1, 0, none⟩) 1 1) (HG4.out.fresh HFZ.out) (by simp [Act.eval]) x (.slice A1 x.kids.length cp1) (by simp [Act.eval]) (Src.of_blk HBZ.out rfl) (HTR.out.fresh HFZ.out) (by have := HSD.out; have := HSZ.out; have := HSZ3.out; omega) (fun _ h => h.elim) HOW.out HTXA.out HL10.out (by have := HFZ.out.size; have := HSZ.out; have := HSZ3.out; have := HSZ4.out; omega) ?_); intro A8 c8 w8 hg8 ht8; refine Stay.mk ?_)
     have HG8 := hid (show Grow (fun _ => False) w8 w.heap.size W2.heap.size (ats ++ [x]) (.slice A8 (ats ++ [x]).length c8) by rw [List.length_append]; exact hg8);have HBT8 := hid (ht8.blk1 (HFZ.out.blk HBT4.out fun h => h) (by have := HSD.out; omega));have HBF8 := hid (ht8.blk1 (HFZ.out.blk HBF4.out fun h => h) (by have := HSD.out; omega));have HP8 := hid (ht8.ps (HP4.out.fresh HFZ.out) (by have := HSD.out; have := HW0.out; omega) (by have := HSD.out; omega));have HM8 := hid (ht8.mp (HM4.out.trans (Mp.fresh HFZ.out)) (by have := HSD.out; omega));have HS8 := hid (show W2.heap.size ≤ w8.heap.size by have := ht8.size; have := HFZ.out.size; have := HSZ.out; have := HSZ3.out; have := HSZ4.out; omega);clear hg8 ht8;refine Stay.go ?_;go_wp2_with fail
     refine ⟨⟨_, q + 1, k2, ats ++ [x], _, A8, c8, rfl, by simp, rfl, by simp, by have := HQN.out; omega, hid (by rw [List.length_append, HAL.out]; rfl), HBT8, HBF8, HG8, HP8, hid (Nat.le_trans HKK.out HK2.out), HM8, HS8, hid (by rw [← HFF.out.2.1, ← HFF.out.2.2]; exact HXN.out)⟩, by simp [intOf]; have := HQN.out; omega⟩
  ·have d1 : decide ((q : Int) < (n : Int)) = false := dF (by omega)
   have d1n : decide (q < n) = false := dF c1;obtain rfl : q = n := by omega
   have HXO := hid (show X = .ok (zz, ats) (c.at k1) by
    rcases Nat.eq_zero_or_pos (F - q) with h0 | h0
    ·exfalso
     have h1 := HXX.out;rw [h0, Nat.sub_self, pFill] at h1;exact HNE.out (by rw [h1]; rfl)
    ·obtain ⟨f', hf'⟩ : ∃ f', F - q = f' + 1 := ⟨F - q - 1, by omega⟩
     rw [HXX.out, hf', Nat.sub_self, pFill])
   have HEX0 := hid (show (X.bind fun p r => expandS c.E t k.n k.b p.1 p.2 r) = expandS c.E t k.n k.b zz ats (c.at k1) by rw [HXO.out]; rfl);rw [HEX0.out] at HQ;obtain ⟨b4, b7, b8, z7, z8, hg1⟩ := HP.out.cells;have HPA := hid (HP.out.set7 k.n (by have := HNL.out; have := HKK.out; omega));have HPB := hid (HPA.out.1.set8 k.b);have HMB := hid ((HM.out.trans HPA.out.2).trans HPB.out.2);have HTS := hid (show Touch (fun b => b = c.g) wr ((wr.setCell ⟨c.g, 7, none⟩ (.int .i64 (k.n : Int))).setCell ⟨c.g, 8, none⟩ (.bool k.b)) from ((Touch.refl (fun b => b = c.g) wr).setCell (p := ⟨c.g, 7, none⟩) (.inl rfl) _).setCell (p := ⟨c.g, 8, none⟩) (.inl rfl) _);have HW3 := hid (show Ps c ⟨k1.p, k.n, k.b⟩ op ((wr.setCell ⟨c.g, 7, none⟩ (.int .i64 (k.n : Int))).setCell ⟨c.g, 8, none⟩ (.bool k.b)) from HPB.out.1);have HTR := hid (HG.out.tree (by have := HSD.out; omega));clear HXX HXO HEX0 HNE HPA HPB HG;cases zz with
   | false =>
    have HEX := hid (show expandS c.E t k.n k.b false ats (c.at k1) = .err t.from_ 6 from by unfold expandS; rw [if_pos rfl]);go_wp2_with fail
    clear b4 b7 b8 z7 z8 hg1 d1 d1n;generalize ((wr.setCell ⟨c.g, 7, none⟩ (.int .i64 (k.n : Int))).setCell ⟨c.g, 8, none⟩ (.bool k.b)) = w3 at HMB HTS HW3 ⊢;have HBT3 := hid (HTS.out.blk HBT.out (by omega));have HBF3 := hid (HTS.out.blk HBF.out (by omega));have r2 := cR ((HBT3.out.cell 2).trans rfl);have hlt3 := HBT3.out.lt;refine wp_region_mix [([(0, true), (1, true), (2, true), (3, true)], 4)] [] (by kernel_rfl) (fun _ _ d _ _ h => by cases d <;> exact h) (by kernel_rfl) ?_;refine wpMix_seg ?_
    repeat (refine wpSeq_plain rfl (fun K hK => ?_); go_simp; refine hK _ ?_; clear hK K)
    obtain ⟨p0, p1, y0, y1, hlt⟩ := Blk.two (HBF3.out.drewN 1);refine wpSeq_shut rfl (fun K hK => ?_);go_wp2_with fail
    refine wpMix_end ?_;go_wp2_with fail
    have hb5 : Blk _ (w.heap.size + 1) 48 #[.int .i64 (t.from_ : Int), .int .i64 6] := ((HBF3.out.drewN 1).put 0 (.int .i64 (t.from_ : Int))).put 1 (.int .i64 6);have hm5 := ((HMB.out.drewN 1).setCell (p := ⟨w.heap.size + 1, 0, none⟩) (.inr (by show w.heap.size ≤ w.heap.size + 1; omega)) (.int .i64 (t.from_ : Int))).setCell (p := ⟨w.heap.size + 1, 1, none⟩) (.inr (by show w.heap.size ≤ w.heap.size + 1; omega)) (.int .i64 6);obtain ⟨f0, f1, _⟩ := Blk.two hb5
    (try simp only [Exit.inBlock, Exit.then])
    refine bodyPost_ret (v := .tuple #[.slice none 0 0, failV t.from_ 6]) (by simp [failV, results, Tryz.results102, go_sem, f0, f1]) rfl ?_;rw [HEX.out] at HQ;exact HQ.out _ _ ⟨by decide, none, 0, 0, rfl, hm5⟩
   | true =>
    have HEX0 := hid (show expandS c.E t k.n k.b true ats (c.at k1) = if (Mcr.expandF c.tb t.text ats).2 ≠ 0 then .err t.from_ 6
     else if 1000 < k.n + (Tr.count (Mcr.expandF c.tb t.text ats).1 - 1) then .ok [] ⟨(c.at k1).l, k.n + (Tr.count (Mcr.expandF c.tb t.text ats).1 - 1), true⟩
     else .ok (Mcr.expandF c.tb t.text ats).1.kids ⟨(c.at k1).l, k.n + (Tr.count (Mcr.expandF c.tb t.text ats).1 - 1), k.b⟩ from by unfold expandS; rw [if_neg (by decide)])
    go_wp2_with fail
    clear b4 b7 b8 z7 z8 hg1 d1 d1n;generalize ((wr.setCell ⟨c.g, 7, none⟩ (.int .i64 (k.n : Int))).setCell ⟨c.g, 8, none⟩ (.bool k.b)) = w3 at HMB HTS HW3 ⊢;have HBT3 := hid (HTS.out.blk HBT.out (by omega));have HBF3 := hid (HTS.out.blk HBF.out (by omega));have HTR3 := hid (show RepL w3 ats (.slice A ats.length cp) from (HTR.out.mv HTS.out (fun b cs fr hb _ e => PT.nty HP.out (.inl hb) ⟨cs, fr, e⟩)).rep);obtain ⟨b4, b7, b8, z7, z8, hg1⟩ := HW3.out.cells;have bt1 := HBT3.out.cell 1;have bt1' : w3.cell? ⟨w.heap.size, 1, none⟩ = some (.string ⟨t.text.toArray⟩) := bt1;have k4 := cT (S := fun _ => False) b4 (fun h => h);have k1' := cT (S := fun _ => False) bt1' (fun h => h);have HTB := hid (HTAB.out _ _ HW3.out);obtain ⟨R, hR⟩ : ∃ R, R = Mcr.expandF c.tb t.text ats := ⟨_, rfl⟩;have HCNT := hid (show R.2 = 0 → Tr.count R.1 ≤ 1000 from fun h => by rw [hR] at h ⊢; exact Mcr.expandF_cnt h);have HEF := hid (show ∀ W, TabV W c.g c.tb c.tp → RepL W ats (.slice A ats.length cp) → Calls Tryz.prog 8 #[c.tp, .string ⟨t.text.toArray⟩, .slice A ats.length cp] W (FillE R W) from fun W h1 h2 => by rw [hR]; exact expandm_any c.g c.tb c.tp t.text ats _ W h1 h2);rw [HEX0.out] at HQ;rw [← hR] at HQ;clear hR HEX0 b4 b7 b8 z7 z8 hg1 bt1 bt1' HTAB HPAR;obtain ⟨nd, er⟩ := R;simp only at HCNT HQ;obtain ⟨nk, nt, nc, nkids⟩ := nd;refine wp_region_plan_in (fun W => ∃ x : Turned (fun _ => False) w3, W = x.W) (Plan.of [(0, true), (1, true), (2, true), (3, true), (4, true), (5, true), (6, true)] (.fork 7 (Plan.of [(8, true), (9, true), (10, true)] (.lone 11 (.lone 12 (.plain 13 .nil)))) 11 (.lone 7 (Plan.of [(8, true), (9, true), (10, true)] (.lone 12 (.plain 13 .nil)))))) [0, 1, 2, 3, 4, 5, 6, 7, 8, 9, 10, 11, 12, 13] (Array.replicate 14 true) (by kernel_rfl) (fun _ _ d _ _ h => by cases d <;> exact h) (by kernel_rfl) ⟨⟨_, (Touch.refl _ _).drewN 1⟩, rfl⟩ ?_;unfold Plan.of
    repeat (refine wpPlan_plain rfl (fun K hK => ?_); go_simp; refine hK _ ?_; clear hK K; first | done | unfold Plan.of)
    clear k4 k1';refine wpPlan_fork ?_ ?_
    focus
     refine wpPlan_lone rfl (fun K hK => ?_);go_wp2_with fail
     refine (HEF.out _ (HTB.out.fresh ((Touch.refl _ w3).drewN 1)) (HTR3.out.fresh ((Touch.refl _ w3).drewN 1))).mono ?_;rintro _ w7 ⟨A7, c7, rfl, htr, htx, hf⟩;have HF7 := hid (show Fresh w3 w7 from ((Touch.refl _ w3).drewN 1).trans hf);have HTR7 := hid (htr.base (B' := w3.heap.size) (Nat.le_refl _));have HTX7 := hid htx;clear htr htx hf;unfold nv;go_wp2_with fail
     refine hK _ _ ⟨⟨_, HF7.out⟩, rfl⟩ ?_;clear hK K;unfold Plan.of
     repeat (refine wpPlan_plain rfl (fun K hK => ?_); go_simp; refine hK _ ?_; clear hK K; first | done | unfold Plan.of)
     refine wpPlan_lone rfl (fun K hK => ?_);go_wp2_with fail
     refine hK _ _ ⟨⟨_, HF7.out.alloc _⟩, rfl⟩ ?_;clear hK K;have hbv := Blk.new w7 35 #[.int .i64 0, .string ⟨#[]⟩, .int .i64 0, .slice none 0 0];have hfv := (Touch.refl (fun _ => False) w7).alloc (.cells #[.int .i64 0, .string ⟨#[]⟩, .int .i64 0, .slice none 0 0] 35);generalize w7.alloc (.cells #[.int .i64 0, .string ⟨#[]⟩, .int .i64 0, .slice none 0 0] 35) = wA at hbv hfv ⊢;have hbp := Blk.self4 hbv (.int .i64 nk) (.string ⟨nt.toArray⟩) (.int .i64 nc) (.slice A7 nkids.length c7);have hfp := Touch.put4 hfv (g := w7.heap.size) (.inr (Nat.le_refl _)) (.int .i64 nk) (.string ⟨nt.toArray⟩) (.int .i64 nc) (.slice A7 nkids.length c7);have HTRV := hid (HTR7.out.fresh hfp);have HFV := hid (HF7.out.trans hfp);have HBV := hid hbp;have hlt := hbv.lt;obtain ⟨p0, p1, p2, p3, y0, y1, y2, y3, _⟩ := Blk.four hbv;refine wpPlan_lone rfl (fun K hK => ?_);simp only [Nd.kind, Nd.text, Nd.cols, Nd.kids] at *;go_wp2_with fail
     refine hK _ _ ⟨⟨_, HFV.out⟩, rfl⟩ ?_;clear hK K hbp hfp p0 p1 p2 p3 y0 y1 y2 y3 hbv hfv hlt HF7 HTR7;unfold put4 at HTRV HFV HBV;generalize ((((wA.setCell ⟨w7.heap.size, 0, none⟩ (.int .i64 nk)).setCell ⟨w7.heap.size, 1, none⟩ (.string ⟨nt.toArray⟩)).setCell ⟨w7.heap.size, 2, none⟩ (.int .i64 nc)).setCell ⟨w7.heap.size, 3, none⟩ (.slice A7 nkids.length c7)) = w9 at HTRV HFV HBV ⊢;obtain ⟨bz, hbz⟩ : ∃ b, b = w7.heap.size := ⟨_, rfl⟩;rw [← hbz] at HBV ⊢;clear hbz
    rotate_left
    focus
     refine wpPlan_lone rfl (fun K hK => ?_);go_wp2_with fail
     refine hK _ _ ⟨⟨_, ((Touch.refl _ w3).drewN 1).alloc _⟩, rfl⟩ ?_;clear hK K;have hbv := Blk.new (w3.drewN 1) 35 #[.int .i64 0, .string ⟨#[]⟩, .int .i64 0, .slice none 0 0];have hfv := ((Touch.refl (fun _ => False) w3).drewN 1).alloc (.cells #[.int .i64 0, .string ⟨#[]⟩, .int .i64 0, .slice none 0 0] 35);have hsv : ((w3.drewN 1).alloc (.cells #[.int .i64 0, .string ⟨#[]⟩, .int .i64 0, .slice none 0 0] 35)).heap.size = w3.heap.size + 1 := by simp
     generalize (w3.drewN 1).alloc (.cells #[.int .i64 0, .string ⟨#[]⟩, .int .i64 0, .slice none 0 0] 35) = w7 at hbv hfv hsv ⊢;have HB7 := hid (show Blk w7 w3.heap.size 35 #[.int .i64 0, .string ⟨#[]⟩, .int .i64 0, .slice none 0 0] from hbv);have HF7 := hid (show Fresh w3 w7 from hfv);have HS7 := hid hsv;clear hbv hfv hsv;refine wpPlan_lone rfl (fun K hK => ?_);go_wp2_with fail
     refine (HEF.out _ (HTB.out.fresh HF7.out) (HTR3.out.fresh HF7.out)).mono ?_;rintro _ wA ⟨A7, c7, rfl, htr, htx, hf⟩;have hfa := HF7.out.trans hf;have hba := hf.blk HB7.out (fun h => h);have HTR7 := hid htr;have HTX7 := hid htx;have hlt := hba.lt;clear htr htx hf;unfold nv;go_wp2_with fail
     refine hK _ _ ⟨⟨_, hfa⟩, rfl⟩ ?_;clear hK K;unfold Plan.of
     repeat (refine wpPlan_plain rfl (fun K hK => ?_); go_simp; refine hK _ ?_; clear hK K; first | done | unfold Plan.of)
     have HTRV := hid ((HTR7.out.far (Touch.put4 (Touch.refl (fun k => k = w3.heap.size) wA) (.inl rfl) (.int .i64 nk) (.string ⟨nt.toArray⟩) (.int .i64 nc) (.slice A7 nkids.length c7)) (by have := HS7.out; omega)).base (B' := w3.heap.size) (by have := HS7.out; omega));have HFV := hid (Touch.put4 hfa (g := w3.heap.size) (.inr (Nat.le_refl _)) (.int .i64 nk) (.string ⟨nt.toArray⟩) (.int .i64 nc) (.slice A7 nkids.length c7));have HBV := hid (Blk.self4 hba (.int .i64 nk) (.string ⟨nt.toArray⟩) (.int .i64 nc) (.slice A7 nkids.length c7));obtain ⟨p0, p1, p2, p3, y0, y1, y2, y3, _⟩ := Blk.four hba;refine wpPlan_lone rfl (fun K hK => ?_);simp only [Nd.kind, Nd.text, Nd.cols, Nd.kids] at *;go_wp2_with fail
     refine hK _ _ ⟨⟨_, HFV.out⟩, rfl⟩ ?_;clear hK K p0 p1 p2 p3 y0 y1 y2 y3 hba hfa hlt HF7 HTR7 HB7 HS7;unfold put4 at HTRV HFV HBV;generalize ((((wA.setCell ⟨w3.heap.size, 0, none⟩ (.int .i64 nk)).setCell ⟨w3.heap.size, 1, none⟩ (.string ⟨nt.toArray⟩)).setCell ⟨w3.heap.size, 2, none⟩ (.int .i64 nc)).setCell ⟨w3.heap.size, 3, none⟩ (.slice A7 nkids.length c7)) = w9 at HTRV HFV HBV ⊢;obtain ⟨bz, hbz⟩ : ∃ b, b = w3.heap.size := ⟨_, rfl⟩;rw [← hbz] at HBV ⊢;clear hbz
    all_goals
     refine wpPlan_plain rfl (fun K hK => ?_);go_simp;refine hK _ ?_;clear hK K;refine wpPlan_nil ?_;have HBT9 := hid (HFV.out.blk HBT3.out (fun h => h));have HBF9 := hid (HFV.out.blk HBF3.out (fun h => h));have HP9 := hid (HW3.out.fresh HFV.out);have HM9 := hid (HMB.out.trans (Mp.fresh HFV.out));have HTR9 := hid (HTRV.out.base (B' := w.heap.size) (by have := HTS.out.size; have := HSZ.out; have := HSD.out; omega));clear HTRV HFV HTR3 HTB HTR HTS
     by_cases he : er = 0
     rotate_left
     focus
      have d1 : (er == (0 : Int)) = false := by simpa using he
      have d2 : (er != (0 : Int)) = true := by simpa using he
      rw [if_pos he] at HQ;have r2 := cR ((HBT9.out.cell 2).trans rfl);have hlt3 := HBT9.out.lt;go_wp2_with fail
      refine wp_region_mix [([(0, true), (1, true), (2, true), (3, true)], 4)] [] (by kernel_rfl) (fun _ _ d _ _ h => by cases d <;> exact h) (by kernel_rfl) ?_;refine wpMix_seg ?_
      repeat (refine wpSeq_plain rfl (fun K hK => ?_); go_simp; refine hK _ ?_; clear hK K)
      obtain ⟨p0, p1, y0, y1, hlt⟩ := Blk.two (HBF9.out.drewN 1);refine wpSeq_shut rfl (fun K hK => ?_);go_wp2_with fail
      refine wpMix_end ?_;go_wp2_with fail
      have hb5 : Blk _ (w.heap.size + 1) 48 #[.int .i64 (t.from_ : Int), .int .i64 6] := ((HBF9.out.drewN 1).put 0 (.int .i64 (t.from_ : Int))).put 1 (.int .i64 6);have hm5 := ((HM9.out.drewN 1).setCell (p := ⟨w.heap.size + 1, 0, none⟩) (.inr (by show w.heap.size ≤ w.heap.size + 1; omega)) (.int .i64 (t.from_ : Int))).setCell (p := ⟨w.heap.size + 1, 1, none⟩) (.inr (by show w.heap.size ≤ w.heap.size + 1; omega)) (.int .i64 6);obtain ⟨f0, f1, _⟩ := Blk.two hb5
      (try simp only [Exit.inBlock, Exit.then])
      refine bodyPost_ret (v := .tuple #[.slice none 0 0, failV t.from_ 6]) (by simp [failV, results, Tryz.results102, go_sem, f0, f1]) rfl ?_;exact HQ.out _ _ ⟨by decide, none, 0, 0, rfl, hm5⟩
     focus
      subst he;rw [if_neg (by decide)] at HQ;have hcp := Tr.count_pos (Nd.mk nk nt nc nkids);have hcm := HCNT.out rfl;have hpl : k1.p ≤ c.T.length := HP9.out.le;have hkp := HKK.out;have hnl := HNL.out;obtain ⟨z, hz⟩ : ∃ z : Int, z = ((k.n + (Tr.count (Nd.mk nk nt nc nkids) - 1) : Nat) : Int) := ⟨_, rfl⟩;obtain ⟨y, hy⟩ : ∃ y : Int, y = ((Tr.count (Nd.mk nk nt nc nkids) - 1 : Nat) : Int) := ⟨_, rfl⟩;obtain ⟨x, hx⟩ : ∃ x : Int, x = (Tr.count (Nd.mk nk nt nc nkids) : Int) := ⟨_, rfl⟩;have hkn : k.n ≤ 1000 * k1.p := by omega
      have e1 : IntKind.i64.wrap (x - 1) = y := by rw [IntWalk.i64_in _ (by omega)]; omega
      have e2 : IntKind.i64.wrap ((k.n : Int) + y) = z := by rw [IntWalk.i64_in _ (by omega)]; omega
      have HCC := hid (show ∀ W, RepL W nkids (.slice A7 nkids.length c7) → Calls Tryz.prog 109 #[.agg #[.int .i64 nk, .string ⟨nt.toArray⟩, .int .i64 nc, .slice A7 nkids.length c7]] W fun e w' => e = .returned (.int .i64 x) ∧ Fresh W w' from fun W hr => by rw [hx]; exact ncount_any (.mk nk nt nc nkids) _ W (by omega) hr);have HE1 := hid e1;have HE2 := hid e2;have HZZ := hid hz;have HKN := hid (show k.n + (Tr.count (Nd.mk nk nt nc nkids) - 1) ≤ 1000 * k1.p by omega);generalize k.n + (Tr.count (Nd.mk nk nt nc nkids) - 1) = NN at HQ HZZ HKN;clear hz hy hx e1 e2 hcp hcm HCNT hkn hnl;go_wp2_with fail
      obtain ⟨p0, p1, p2, p3, _, _, _, _, hlb⟩ := Blk.four HBV.out;obtain ⟨_, b7, _, _, _, hg1⟩ := HP9.out.cells;have k7 := cT (S := fun _ => False) (b7.trans rfl) (fun h => h);have q0 := cT (S := fun _ => False) p0 (fun h => h);have q1 := cT (S := fun _ => False) p1 (fun h => h);have q2 := cT (S := fun _ => False) p2 (fun h => h);have q3 := cT (S := fun _ => False) p3 (fun h => h);clear p0 p1 p2 p3 b7;refine wp_region_planC (fun W => ∃ x : Turned (fun _ => False) w9, W = x.W) (Plan.of [(0, true), (1, true), (2, true), (3, true), (4, true), (5, false), (6, true), (7, true), (8, true), (9, true)] .nil) [0, 1, 2, 3, 4, 5, 6, 7, 8, 9] 10 (Array.replicate 10 true ++ Array.replicate 1 false) (fun _ => True) .nil [] (Array.replicate 11 true) (by kernel_rfl) (fun _ _ d _ _ h => by cases d <;> exact h) (by kernel_rfl) ⟨⟨_, (Touch.refl _ _).drewN 1⟩, rfl⟩ ?_;unfold Plan.of
      repeat (refine wpPlan_plain rfl (fun K hK => ?_); go_simp; refine hK _ ?_; clear hK K; first | done | unfold Plan.of)
      clear k7 q0 q1 q2 q3;refine wpPlan_lone rfl (fun K hK => ?_);go_wp2_with fail
      refine (HCC.out _ (HTR9.out.rep.fresh ((Touch.refl _ w9).drewN 1))).mono ?_;rintro _ wc ⟨rfl, hf⟩;have HFC := hid (show Fresh w9 wc from ((Touch.refl _ w9).drewN 1).trans hf);clear hf;go_wp2_with fail
      refine hK _ _ ⟨⟨_, HFC.out⟩, rfl⟩ ?_;clear hK K;unfold Plan.of;have e1 := HE1.out;have e2 := HE2.out
      repeat (refine wpPlan_plain rfl (fun K hK => ?_); go_simp; refine hK _ ?_; clear hK K; first | done | unfold Plan.of)
      clear e1 e2 HE1 HE2 HCC;have HBTC := hid (HFC.out.blk HBT9.out (fun h => h));have HBFC := hid (HFC.out.blk HBF9.out (fun h => h));have HBVC := hid (HFC.out.blk HBV.out (fun h => h));have HPC := hid (HP9.out.fresh HFC.out);have HMC := hid (HM9.out.trans (Mp.fresh HFC.out));have HTRC := hid (HTR9.out.fresh HFC.out);clear HFC HBT9 HBF9 HBV HP9 HM9 HTR9;obtain ⟨_, b7, b8, z7, z8, hg1⟩ := HPC.out.cells;have hps := HPC.out.set7 NN (by show NN ≤ 1000 * k1.p; exact HKN.out);rw [← HZZ.out] at hps;refine wpPlan_shut2 rfl (fun K hK => ?_);go_wp2_with fail
      refine hK _ _ trivial ?_;clear hK K;refine wpPlan_nil ?_;have HPD := hid (show Ps c ⟨k1.p, NN, k.b⟩ op (wc.setCell ⟨c.g, 7, none⟩ (.int .i64 z)) from hps.1);have HMD := hid (HMC.out.trans hps.2);have hts : Touch (fun b => b = c.g) wc (wc.setCell ⟨c.g, 7, none⟩ (.int .i64 z)) := (Touch.refl (fun b => b = c.g) wc).setCell (p := ⟨c.g, 7, none⟩) (.inl rfl) _;have HBFD := hid (hts.blk HBFC.out (by omega));have HTRD := hid (HTRC.out.mv hts (fun b cs fr hb _ e => PT.nty HPC.out (.inl hb) ⟨cs, fr, e⟩));have HBVD := hid (hts.blk HBVC.out (fun h => PT.nty HPC.out (.inl h) ⟨_, _, HBVC.out⟩));clear hps hts b7 b8 z7 z8 hg1 HBFC HTRC HBVC HPC HMC HBTC;generalize wc.setCell ⟨c.g, 7, none⟩ (.int .i64 z) = wd at HPD HMD HBFD HTRD HBVD ⊢;obtain ⟨_, b7, b8, z7, z8, hg1⟩ := HPD.out.cells;have b7z : wd.cell? ⟨c.g, 7, none⟩ = some (.int .i64 z) := by rw [b7, HZZ.out]
      clear b7
      by_cases hl : 1000 < NN
      ·have d1 : decide (z > (1000 : Int)) = true := dT (by have := HZZ.out; omega)
       have d2 : decide ((1000 : Int) < z) = true := d1;have hz1 : (1000 : Int) < z := by have := HZZ.out; omega
       rw [if_pos hl] at HQ;have hps := HPD.out.set8 true;have HPE := hid (show Ps c ⟨k1.p, NN, true⟩ op (wd.setCell ⟨c.g, 8, none⟩ (.bool true)) from hps.1);have HME := hid (HMD.out.trans hps.2);have hts : Touch (fun b => b = c.g) wd (wd.setCell ⟨c.g, 8, none⟩ (.bool true)) := (Touch.refl (fun b => b = c.g) wd).setCell (p := ⟨c.g, 8, none⟩) (.inl rfl) _;have HBFE := hid (hts.blk HBFD.out (by omega));obtain ⟨p0, p1, y0, y1, hlt⟩ := Blk.two HBFE.out;clear hps hts;go_wp2_with fail
       have hb5 : Blk _ (w.heap.size + 1) 48 #[.int .i64 0, .int .i64 0] := (HBFE.out.put 0 (.int .i64 0)).put 1 (.int .i64 0);have hm5 := (HME.out.setCell (p := ⟨w.heap.size + 1, 0, none⟩) (.inr (by show w.heap.size ≤ w.heap.size + 1; omega)) (.int .i64 0)).setCell (p := ⟨w.heap.size + 1, 1, none⟩) (.inr (by show w.heap.size ≤ w.heap.size + 1; omega)) (.int .i64 0);obtain ⟨f0, f1, _⟩ := Blk.two hb5
       (try simp only [Exit.inBlock, Exit.then])
       refine bodyPost_ret (v := .tuple #[.slice none 0 0, failV 0 0]) (by simp [failV, results, Tryz.results102, go_sem, f0, f1]) rfl ?_;exact HQ.out _ _ ⟨none, 0, ⟨k1.p, NN, true⟩, rfl, .nil _ _, rfl, HKK.out, HPE.out.put2 HBFE.out (by decide) (by omega) (by have := HW0.out; omega) (.int .i64 0) (.int .i64 0), hm5⟩
      ·have d1 : decide (z > (1000 : Int)) = false := dF (by have := HZZ.out; omega)
       have d2 : decide ((1000 : Int) < z) = false := d1;have hz1 : ¬ (1000 : Int) < z := by have := HZZ.out; omega
       rw [if_neg hl] at HQ;obtain ⟨p0, p1, y0, y1, hlt⟩ := Blk.two HBFD.out;have q3 := HBVD.out.cell 3;have q3' : wd.cell? ⟨bz, 3, none⟩ = some (.slice A7 nkids.length c7) := q3;have hltb := HBVD.out.lt;clear q3;go_wp2_with fail
       have hb5 : Blk _ (w.heap.size + 1) 48 #[.int .i64 0, .int .i64 0] := (HBFD.out.put 0 (.int .i64 0)).put 1 (.int .i64 0);have hm5 := (HMD.out.setCell (p := ⟨w.heap.size + 1, 0, none⟩) (.inr (by show w.heap.size ≤ w.heap.size + 1; omega)) (.int .i64 0)).setCell (p := ⟨w.heap.size + 1, 1, none⟩) (.inr (by show w.heap.size ≤ w.heap.size + 1; omega)) (.int .i64 0);obtain ⟨f0, f1, _⟩ := Blk.two hb5
       (try simp only [Exit.inBlock, Exit.then])
       refine bodyPost_ret (v := .tuple #[.slice A7 nkids.length c7, failV 0 0]) (by simp [failV, results, Tryz.results102, go_sem, f0, f1]) rfl ?_;refine HQ.out _ _ ⟨A7, c7, ⟨k1.p, NN, k.b⟩, rfl, HTRD.out.mv (touch2 wd (w.heap.size + 1) (.int .i64 0) (.int .i64 0)) (fun b cs fr hb _ e => ?_), rfl, HKK.out, HPD.out.put2 HBFD.out (by decide) (by omega) (by have := HW0.out; omega) (.int .i64 0) (.int .i64 0), hm5⟩;subst hb;have h := HBFD.out;unfold Blk at h;rw [h] at e;cases e
end Go.Proofs.YtomibmenojdieaaGreat
namespace Go.Proofs.YtomibmenojdieaaGreat
open Go.RowKit
open Tr (Nd)
open Lx (PTok)
open Mcr (R pRow pIn pScript pItem pPrim pArgs pName pCells pArg pMac)
theorem zero_row (c : Cf) : RowN c 0 := fun k op w _ _ hne => absurd (by rw [pRow]) hne
theorem zero_in (c : Cf) : EnclosedN c 0 := fun k op b w _ _ _ hne => absurd (by rw [pIn]) hne
theorem zero_arg (c : Cf) : ArgumentN c 0 := fun k op w _ _ hne => absurd (by rw [pArg]) hne
theorem zero_script (c : Cf) : ScriptN c 0 := fun k op b w _ _ hne => absurd (by rw [pScript]) hne
theorem zero_item (c : Cf) : ItemN c 0 := fun k op w _ _ hne => absurd (by rw [pItem]) hne
theorem zero_prim (c : Cf) : PrimaryN c 0 := fun k op w _ _ hne => absurd (by rw [pPrim]) hne
theorem zero_name (c : Cf) : NameN c 0 := fun k op t r w _ _ _ hne => absurd (by rw [pName]) hne
theorem zero_exp (c : Cf) : ExpandN c 0 := fun k op t m w _ _ _ _ _ hne => absurd (by rw [pMac]) hne
structure AllN (c : Cf) (f : Nat) : Prop where
 row : RowN c f
 enc : EnclosedN c f
 arg : ArgumentN c f
 scr : ScriptN c f
 item : ItemN c f
 prim : PrimaryN c f
 name : NameN c f
 exp : ExpandN c f
theorem all_upto (c : Cf) (hc : c.Good) (bm : Nat) (hnm : c.Named bm) : ∀ F, F ≤ 1000000 → ∀ f, f ≤ F → AllN c f
 | 0, _, f, hf => by
  obtain rfl : f = 0 := by omega
  exact ⟨zero_row c, zero_in c, zero_arg c, zero_script c, zero_item c, zero_prim c, zero_name c, zero_exp c⟩
 | F + 1, hF, f, hf => by
  have ih := all_upto c hc bm hnm F (by omega)
  rcases Nat.lt_or_ge f (F + 1) with h | h
  ·exact ih f (by omega)
  ·obtain rfl : f = F + 1 := by omega
   have h0 := ih F (Nat.le_refl _);have harg : ∀ f', f' < F → ArgumentN c f' := fun f' h => (ih f' (by omega)).arg
   have w1 := with_n c hc F 1 (by omega) harg;have w2 := with_n c hc F 2 (by omega) harg;have hn := name_n c hc bm hnm F (fraction_n c hc F w2) (root_n c hc F w1 h0.enc) (matrix_n c hc F (by omega) fun f' h => (ih f' (by omega)).row) (accent_n c hc F w1) h0.exp
   exact ⟨row_n c hc (F + 1) hF fun f' h => (ih f' (by omega)).item, enclosed_n c hc F h0.row, argument_n c hc bm hnm F h0.enc hn, script_n c hc F h0.arg, item_n c hc F h0.prim h0.scr, primary_n c hc F h0.name w1 h0.enc,
    hn, expand_n c hc F harg⟩
theorem row_any_n (c : Cf) (hc : c.Good) (bm : Nat) (hnm : c.Named bm) (F : Nat) (hF : F ≤ 1000000) : RowN c F := (all_upto c hc bm hnm F hF F (Nat.le_refl _)).row
def mwE (g n : Nat) : List MapEntry := (namedEs g).take n
theorem putObj_alloc (w : World) (o o' : Obj) : { w.alloc o with heap := (w.alloc o).heap.setIfInBounds w.heap.size o' } = w.alloc o' := by
 simp only [World.alloc]
 congr 1
 apply Array.ext'
 rw [Array.toList_setIfInBounds, Array.toList_push, Array.toList_push, show w.heap.size = w.heap.toList.length from (Array.length_toList).symm, List.set_append_right _ _ (Nat.le_refl _), Nat.sub_self];rfl
theorem run_insert_new (w : World) (es : List MapEntry) (n : Nat) (s : List UInt8) (v : Value) (hf : Instr.findNow .string (.string ⟨s.toArray⟩) es 0 = some none) :
  (Instr.mapUpdate 76 (.map (some w.heap.size)) (.string ⟨s.toArray⟩) v).run Tryz.prog (w.alloc (.map es.toArray n)) = .ok () (w.alloc (.map (es ++ [(⟨.string ⟨s.toArray⟩, v, n⟩ : MapEntry)]).toArray (n + 1))) := by
 have hb : (w.alloc (.map es.toArray n)).heap[w.heap.size]? = some (.map es.toArray n) := heap_alloc_new w _;have hc : (Instr.checkKey false 10000 9 (.string ⟨s.toArray⟩)).run Tryz.prog (w.alloc (.map es.toArray n)) = .ok () (w.alloc (.map es.toArray n)) := MapKept.run_checkKey (k := .string ⟨s.toArray⟩) Tryz.underlying9 (by simp [MapKept.IsKey]) false 9999;simp [Instr.mapUpdate, run_underlying Tryz.underlying76, MapKept.run_getObj_map hb, hc, MapKept.run_findKey Tryz.underlying9 hf, MapKept.run_setObj_map _ hb, Result.andThen]
 exact putObj_alloc w _ _
theorem ins_n (w : World) (g : Nat) (n : Nat) (s : List UInt8) (F : FuncId) (hn : (namedL[n]?) = some (s, F)) (hf : Instr.findNow .string (.string ⟨s.toArray⟩) (mwE g n) 0 = some none) :
  (Instr.mapUpdate 76 (.map (some w.heap.size)) (.string ⟨s.toArray⟩) (.func (.func F) #[.pointer (some ⟨g, 0, none⟩)] #[])).run Tryz.prog (w.alloc (.map (mwE g n).toArray n)) = .ok () (w.alloc (.map (mwE g (n + 1)).toArray (n + 1))) := by
 rw [run_insert_new w (mwE g n) n s _ hf]
 have hg : (namedEs g)[n]? = some ⟨.string ⟨s.toArray⟩, methodV g F, n⟩ := by
  unfold namedEs;rw [List.getElem?_map, List.getElem?_zipIdx, hn];simp
 have e : mwE g n ++ [⟨.string ⟨s.toArray⟩, .func (.func F) #[.pointer (some ⟨g, 0, none⟩)] #[], n⟩] = mwE g (n + 1) := by
  unfold mwE;rw [List.take_add_one, hg];rfl
 rw [e]
end Go.Proofs.YtomibmenojdieaaGreat
