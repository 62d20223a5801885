/- Part 34 of 42 of a proof; its texts, joined: NmV, NmX, NmZ. No condition. -/
import Derived.Test.YtomibmenojdieaaGreatXx32
import Derived.Test.YtomibmenojdieaaGreatXx33
import Derived.Test.YtomibmenojdieaaGreatXx25
import Derived.Test.YtomibmenojdieaaGreatXx5
set_option maxRecDepth 100000
set_option maxHeartbeats 4000000
namespace Go.Proofs.YtomibmenojdieaaGreat
open Go.RowKit
open Tr (Nd)
theorem fill_any (args : List Nd) (W0 : World) (va : Value) (hsm : Mcr.Small args) (hal : args.length ≤ 1000) (hra : RepL W0 args va) : ∀ (N : Nat) (ks : List Nd), Tr.countL ks ≤ N → Mcr.inRL args.length ks → Tr.countL ks ≤ 1000 → FillC args W0 va ks
 | 0, ks, hN, hin, hc => by
  have h0 : ks = [] := by
   have := Tr.countL_len ks;exact List.length_eq_zero_iff.1 (by omega)
  subst h0;exact fill_step args W0 va [] hsm hal hra hin hc (fun x hx => by cases hx)
 | N + 1, ks, hN, hin, hc => fill_step args W0 va ks hsm hal hra hin hc fun x hx y hy => by
  have h1 := countL_mem hx;have h2 := countL_mem hy;rw [Tr.count_kids] at h1 h2;exact fill_any args W0 va hsm hal hra N y.kids (by omega) (Mcr.inR_kids (Mcr.inRL_mem (Mcr.inR_kids (Mcr.inRL_mem hin x hx)) y hy)) (by omega)
def FillE (R : Nd × Int) (w : World) (e : Ending) (w' : World) : Prop := ∃ A cp, e = .returned (.tuple #[nv R.1 (.slice A R.1.kids.length cp), .int .i64 R.2]) ∧ TreT w.heap.size w' R.1.kids (.slice A R.1.kids.length cp) ∧ R.1.text.length ≤ maxLen ∧ Fresh w w'
theorem all_take_m (p : Nd → Bool) (args : List Nd) (j : Nat) (hj : j < args.length) : (args.take (j + 1)).all p = ((args.take j).all p && p args[j]) := by
 rw [List.take_succ_eq_append_getElem hj, List.all_append];simp
theorem all_no_m (p : Nd → Bool) (args : List Nd) (j : Nat) (hj : j < args.length) (h : p args[j] = false) : args.all p = false := by
 rw [List.all_eq_false];exact ⟨args[j], List.getElem_mem hj, by simp [h]⟩
theorem fillm_any (t : Nd) (sl : Value) (args : List Nd) (va : Value) (w : World) (hr : RepL w t.kids sl) (ht : t.text.length ≤ maxLen) (hra : RepL w args va) : Calls Tryz.prog 16 #[nv t sl, va] w (FillE (Mcr.fillF t args) w) := by
 obtain ⟨A, cap, rfl⟩ := hr.slice;obtain ⟨Aa, ca, rfl⟩ := hra.slice;have HR := hid hr;have HRA := hid hra;have HTL := hid ht;obtain ⟨R, hR⟩ : ∃ R, R = Mcr.fillF t args := ⟨_, rfl⟩;have HRE := hid (show R = if Mcr.templF t args.length = false then (Mcr.nilNd, 1) else if args.all (fun a => Mcr.templF a 4) = false then (Mcr.nilNd, 1) else if Mcr.templF (Np.slot (Mcr.fillL args t.kids)) 4 = false then (Mcr.nilNd, 6) else (Np.slot (Mcr.fillL args t.kids), 0) from hR);rw [← hR];have hal := hra.len;have HAL := hid hal;clear hr hra ht hR hal;refine Calls.via fun Q hQ => ?_
 have HQ := hid hQ;clear hQ;have HF1 := hid (show Fresh w ((w.alloc (.cells #[.int .i64 t.kind, .string ⟨t.text.toArray⟩, .int .i64 t.cols, .slice A t.kids.length cap] 35)).alloc (.cells #[.int .i64 0, .string ⟨#[]⟩, .int .i64 0, .slice none 0 0] 35)) from ((Touch.refl _ w).alloc _).alloc _);have HBT := hid ((Blk.new w 35 #[.int .i64 t.kind, .string ⟨t.text.toArray⟩, .int .i64 t.cols, .slice A t.kids.length cap]).alloc (.cells #[.int .i64 0, .string ⟨#[]⟩, .int .i64 0, .slice none 0 0] 35));have HBR := hid (Blk.new2 w (.cells #[.int .i64 t.kind, .string ⟨t.text.toArray⟩, .int .i64 t.cols, .slice A t.kids.length cap] 35) 35 #[.int .i64 0, .string ⟨#[]⟩, .int .i64 0, .slice none 0 0]);go_enter Tryz.func16, Tryz.ntmps16;go_wp2_with fail
 generalize ((w.alloc (.cells #[.int .i64 t.kind, .string ⟨t.text.toArray⟩, .int .i64 t.cols, .slice A t.kids.length cap] 35)).alloc (.cells #[.int .i64 0, .string ⟨#[]⟩, .int .i64 0, .slice none 0 0] 35)) = W1 at HF1 HBT HBR ⊢;refine (templ_any t (.slice A t.kids.length cap) (args.length : Int) W1 (HR.out.fresh HF1.out) HTL.out).mono ?_;rintro _ w2 ⟨rfl, hf⟩;have HF2 := hid (HF1.out.trans hf);have HBT2 := hid (hf.blk HBT.out fun h => h);have HBR2 := hid (hf.blk HBR.out fun h => h);clear hf HF1 HBT HBR;cases htp : Mcr.templF t (args.length : Int) with
 | false =>
  have HRF := hid (show R = (Mcr.nilNd, 1) from HRE.out.trans (if_pos htp));obtain ⟨p0, p1, p2, p3, y0, y1, y2, y3, hlt⟩ := Blk.four HBR2.out;go_wp2_with fail
  have n1 := HBR2.out.self4 (.int .i64 0) (.string ⟨#[]⟩) (.int .i64 0) (.slice none 0 0);have hf := HF2.out.put4 (g := w.heap.size + 1) (.inr (by omega)) (.int .i64 0) (.string ⟨#[]⟩) (.int .i64 0) (.slice none 0 0);obtain ⟨g0, g1, g2, g3, _⟩ := Blk.four n1;simp only [put4] at g0 g1 g2 g3 hf
  (try simp only [Exit.inBlock, Exit.then])
  refine bodyPost_ret (v := .tuple #[nv Mcr.nilNd (.slice none 0 0), .int .i64 1]) (by simp [nv, Mcr.nilNd, Nd.kind, Nd.text, Nd.cols, results, Tryz.results16, go_sem, g0, g1, g2, g3]) rfl ?_;exact HQ.out _ _ (by rw [HRF.out]; exact ⟨none, 0, rfl, .nil _ _, Nat.zero_le _, hf⟩)
 | true =>
  have HRE2 := hid (show R = if args.all (fun a => Mcr.templF a 4) = false then (Mcr.nilNd, 1) else if Mcr.templF (Np.slot (Mcr.fillL args t.kids)) 4 = false then (Mcr.nilNd, 6) else (Np.slot (Mcr.fillL args t.kids), 0) from HRE.out.trans (if_neg (by rw [htp]; decide)))
  have hal4 : args.length ≤ 4 := by
   unfold Mcr.templF at htp;split at htp
   ·cases htp
   ·omega
  have HAL4 := hid hal4;have HIN := hid (Mcr.templ_in (P := args.length) htp);have HTC := hid (Mcr.templ_cnt htp);clear HRE htp;go_wp2_with fail
  go_loopw [17] (fun i wr0 => ∃ (wr : World) (j : Nat), wr = wr0 ∧ i = .int .i64 j ∧ j ≤ args.length ∧ Hid ((args.take j).all (fun a => Mcr.templF a 4) = true) ∧ Hid (Blk wr w.heap.size 35 #[.int .i64 t.kind, .string ⟨t.text.toArray⟩, .int .i64 t.cols, .slice A t.kids.length cap]) ∧ Hid (Blk wr (w.heap.size + 1) 35 #[.int .i64 0, .string ⟨#[]⟩, .int .i64 0, .slice none 0 0]) ∧ Hid (Fresh w wr)) (fun i _ => args.length - (intOf i).toNat)
  case atStart => exact ⟨_, 0, rfl, rfl, Nat.zero_le _, hid rfl, HBT2, HBR2, HF2⟩
  case round =>
   clear HBT2 HBR2 HF2;obtain ⟨wr, j, rfl, rfl, hj, HALL, HBT, HBR, HF⟩ := hrel
   by_cases c1 : j < args.length
   ·have d1 : decide ((j : Int) < (args.length : Int)) = true := dT (by omega)
    have d1n : decide (j < args.length) = true := dT c1;have d1' : (j : Int) < (args.length : Int) := by omega
    have hjb : j ≤ 4 := by omega
    obtain ⟨g, o, sx, rfl, hg, e0, e1, e2, e3, e4⟩ := HRA.out.get j c1;have HXT := hid (HRA.out.texts j c1);have HXR := hid e4;have HTA := hid (all_take_m (fun a => Mcr.templF a 4) args j c1);have HNO := hid (all_no_m (fun a => Mcr.templF a 4) args j c1);have HJ := hid (And.intro hjb c1);have b0 := HF.out.cell e0 (fun h => h);have b1 := HF.out.cell e1 (fun h => h);have b2 := HF.out.cell e2 (fun h => h);have b3 := HF.out.cell e3 (fun h => h);clear e0 e1 e2 e3 e4 hg;generalize args[j] = x at *;obtain ⟨Ax, cx, rfl⟩ := HXR.out.slice;have HBV := hid (Blk.new wr 35 #[.int .i64 x.kind, .string ⟨x.text.toArray⟩, .int .i64 x.cols, .slice Ax x.kids.length cx]);have HFA := hid (show Fresh wr (wr.alloc (.cells #[.int .i64 x.kind, .string ⟨x.text.toArray⟩, .int .i64 x.cols, .slice Ax x.kids.length cx] 35)) from (Touch.refl _ wr).alloc _);obtain ⟨k0, k1, k2, k3, _, _, _, _, hlk⟩ := Blk.four HBV.out;go_wp2_with fail
    clear k0 k1 k2 k3 hlk b0 b1 b2 b3;generalize (wr.alloc (.cells #[.int .i64 x.kind, .string ⟨x.text.toArray⟩, .int .i64 x.cols, .slice Ax x.kids.length cx] 35)) = wa at HBV HFA ⊢;refine (templ_any x (.slice Ax x.kids.length cx) 4 wa (HXR.out.fresh (HF.out.trans HFA.out)) HXT.out).mono ?_;rintro _ w3 ⟨rfl, hf⟩;have HF3 := hid ((HF.out.trans HFA.out).trans hf);have HBT3 := hid (hf.blk (HFA.out.blk HBT.out fun h => h) fun h => h);have HBR3 := hid (hf.blk (HFA.out.blk HBR.out fun h => h) fun h => h);clear hf;cases htx : Mcr.templF x 4 with
    | false =>
     have HRF := hid (show R = (Mcr.nilNd, 1) from HRE2.out.trans (if_pos (HNO.out htx)));clear htx d1 d1n d1';obtain ⟨p0, p1, p2, p3, y0, y1, y2, y3, hlt⟩ := Blk.four HBR3.out;go_wp2_with fail
     have n1 := HBR3.out.self4 (.int .i64 0) (.string ⟨#[]⟩) (.int .i64 0) (.slice none 0 0);have hf := HF3.out.put4 (g := w.heap.size + 1) (.inr (by omega)) (.int .i64 0) (.string ⟨#[]⟩) (.int .i64 0) (.slice none 0 0);obtain ⟨g0, g1, g2, g3, _⟩ := Blk.four n1;simp only [put4] at g0 g1 g2 g3 hf
     (try simp only [Exit.inBlock, Exit.then])
     refine bodyPost_ret (v := .tuple #[nv Mcr.nilNd (.slice none 0 0), .int .i64 1]) (by simp [nv, Mcr.nilNd, Nd.kind, Nd.text, Nd.cols, results, Tryz.results16, go_sem, g0, g1, g2, g3]) rfl ?_;exact HQ.out _ _ (by rw [HRF.out]; exact ⟨none, 0, rfl, .nil _ _, Nat.zero_le _, hf⟩)
    | true =>
     have HALN := hid (show (args.take (j + 1)).all (fun a => Mcr.templF a 4) = true by rw [HTA.out, HALL.out, htx]; rfl);clear htx;go_wp2_with fail
     exact ⟨⟨_, j + 1, rfl, by simp, by have := HJ.out; omega, HALN, HBT3, HBR3, HF3⟩, by simp [intOf]; have := HJ.out; omega⟩
   ·have d1 : decide ((j : Int) < (args.length : Int)) = false := dF (by omega)
    have d1n : decide (j < args.length) = false := dF c1;obtain rfl : j = args.length := by omega
    have hall : args.all (fun a => Mcr.templF a 4) = true := by have h := HALL.out; rwa [List.take_length] at h
    have HRE3 := hid (show R = if Mcr.templF (Np.slot (Mcr.fillL args t.kids)) 4 = false then (Mcr.nilNd, 6) else (Np.slot (Mcr.fillL args t.kids), 0) from HRE2.out.trans (if_neg (by rw [hall]; decide)));have HSM := hid (show Mcr.Small args from fun a ha => Mcr.templ_cnt ((List.all_eq_true.1 hall) a ha));have HCK := hid (show Tr.countL t.kids ≤ 1000 by have h := HTC.out; rw [Tr.count_kids] at h; omega);obtain ⟨p0, p1, p2, p3, y0, y1, y2, y3, hlt⟩ := Blk.four HBT.out;clear hall HRE2 HALL;go_wp2_with fail
    refine (fill_any args w (.slice Aa args.length ca) HSM.out (by have := HAL4.out; omega) HRA.out _ t.kids (Nat.le_refl _) HIN.out HCK.out (.slice A t.kids.length cap) wr HR.out HF.out).mono ?_;rintro _ w6 ⟨A6, c6, rfl, ht6, hf6⟩;have HT6 := hid ht6;have HF6 := hid (HF.out.trans hf6);have HBR6 := hid (hf6.blk HBR.out fun h => h);have HS6 := hid hf6.size;clear ht6 hf6 p0 p1 p2 p3 y0 y1 y2 y3 hlt;obtain ⟨fs, hfs⟩ : ∃ fs, fs = Mcr.fillL args t.kids := ⟨_, rfl⟩;rw [← hfs] at HT6 HRE3 ⊢;clear hfs;have HBV := hid (Blk.new w6 35 #[.int .i64 1, .string ⟨#[]⟩, .int .i64 0, .slice A6 fs.length c6]);have HFA := hid (show Fresh w6 (w6.alloc (.cells #[.int .i64 1, .string ⟨#[]⟩, .int .i64 0, .slice A6 fs.length c6] 35)) from (Touch.refl _ w6).alloc _);obtain ⟨k0, k1, k2, k3, _, _, _, _, hlk⟩ := Blk.four HBV.out;go_wp2_with fail
    generalize (w6.alloc (.cells #[.int .i64 1, .string ⟨#[]⟩, .int .i64 0, .slice A6 fs.length c6] 35)) = wa at HBV HFA ⊢;refine (templ_any (Np.slot fs) (.slice A6 fs.length c6) 4 wa (HT6.out.rep.fresh HFA.out) (Nat.zero_le _)).mono ?_;rintro _ w7 ⟨rfl, hf⟩;have HF7 := hid ((HF6.out.trans HFA.out).trans hf);have HBR7 := hid (hf.blk (HFA.out.blk HBR6.out fun h => h) fun h => h);have HBV7 := hid (hf.blk HBV.out fun h => h);have HT7 := hid ((HT6.out.fresh HFA.out).fresh hf);clear hf k0 k1 k2 k3 hlk;cases htx : Mcr.templF (Np.slot fs) 4 with
    | false =>
     have HRF := hid (show R = (Mcr.nilNd, 6) from HRE3.out.trans (if_pos htx));clear htx d1 d1n;obtain ⟨p0, p1, p2, p3, y0, y1, y2, y3, hlt⟩ := Blk.four HBR7.out;go_wp2_with fail
     have n1 := HBR7.out.self4 (.int .i64 0) (.string ⟨#[]⟩) (.int .i64 0) (.slice none 0 0);have hf := HF7.out.put4 (g := w.heap.size + 1) (.inr (by omega)) (.int .i64 0) (.string ⟨#[]⟩) (.int .i64 0) (.slice none 0 0);obtain ⟨g0, g1, g2, g3, _⟩ := Blk.four n1;simp only [put4] at g0 g1 g2 g3 hf
     (try simp only [Exit.inBlock, Exit.then])
     refine bodyPost_ret (v := .tuple #[nv Mcr.nilNd (.slice none 0 0), .int .i64 6]) (by simp [nv, Mcr.nilNd, Nd.kind, Nd.text, Nd.cols, results, Tryz.results16, go_sem, g0, g1, g2, g3]) rfl ?_;exact HQ.out _ _ (by rw [HRF.out]; exact ⟨none, 0, rfl, .nil _ _, Nat.zero_le _, hf⟩)
    | true =>
     have HRF := hid (show R = (Np.slot fs, 0) from HRE3.out.trans (if_neg (by rw [htx]; decide)));clear htx d1 d1n;obtain ⟨p0, p1, p2, p3, y0, y1, y2, y3, hlt⟩ := Blk.four HBR7.out;obtain ⟨k0, k1, k2, k3, _, _, _, _, hlk⟩ := Blk.four HBV7.out;go_wp2_with fail
     have n1 := HBR7.out.self4 (.int .i64 1) (.string ⟨#[]⟩) (.int .i64 0) (.slice A6 fs.length c6);have hf := HF7.out.put4 (g := w.heap.size + 1) (.inr (by omega)) (.int .i64 1) (.string ⟨#[]⟩) (.int .i64 0) (.slice A6 fs.length c6);have ht9 := HT7.out.far (touch4 w7 (w.heap.size + 1) (.int .i64 1) (.string ⟨#[]⟩) (.int .i64 0) (.slice A6 fs.length c6)) (by have := HBR.out.lt; omega);obtain ⟨g0, g1, g2, g3, _⟩ := Blk.four n1;simp only [put4] at g0 g1 g2 g3 hf ht9
     (try simp only [Exit.inBlock, Exit.then])
     refine bodyPost_ret (v := .tuple #[nv (Np.slot fs) (.slice A6 fs.length c6), .int .i64 0]) (by simp [nv, Np.slot, Nd.kind, Nd.text, Nd.cols, results, Tryz.results16, go_sem, g0, g1, g2, g3]) rfl ?_;exact HQ.out _ _ (by rw [HRF.out]; exact ⟨A6, c6, rfl, ht9.base HF.out.size, Nat.zero_le _, hf⟩)
theorem expandm_any (g : Nat) (tb : Mcr.Table) (tp : Value) (s : List UInt8) (args : List Nd) (va : Value) (w : World) (h : TabV w g tb tp) (hra : RepL w args va) : Calls Tryz.prog 8 #[tp, .string ⟨s.toArray⟩, va] w (FillE (Mcr.expandF tb s args) w) := by
 obtain ⟨Aa, ca, rfl⟩ := hra.slice;have HRA := hid hra;have HF0 := hid ((Touch.refl (fun _ => False) w).alloc (.cells #[.int .i64 0, .string ⟨#[]⟩, .int .i64 0, .slice none 0 0] 35));have HBR := hid (Blk.new w 35 #[.int .i64 0, .string ⟨#[]⟩, .int .i64 0, .slice none 0 0]);clear hra
 rcases h with ⟨rfl, rfl⟩ | ⟨gt, bm, nrow, sls, rfl, h⟩
 focus
  have HX := hid (show Mcr.expandF [] s args = (Mcr.nilNd, 8) from rfl);go_enter Tryz.func8, Tryz.ntmps8;go_wp2_with fail
  obtain ⟨g0, g1, g2, g3, _⟩ := Blk.four (HBR.out)
  (try simp only [Exit.inBlock, Exit.then])
  refine bodyPost_ret (v := .tuple #[nv Mcr.nilNd (.slice none 0 0), .int .i64 8]) (by simp [nv, Mcr.nilNd, Nd.kind, Nd.text, Nd.cols, results, Tryz.results8, go_sem, g0, g1, g2, g3]) rfl ?_;rw [HX.out];exact ⟨none, 0, rfl, .nil _ _, Nat.zero_le _, HF0.out⟩
 focus
  have H0 := h.fresh HF0.out;have q1 := H0.blk.cell 1;have hlt := H0.blk.lt;have hgt : gt < w.heap.size := h.blk.lt;have HTX := hid h.txt
  rcases run_macro H0 s with ⟨m, i, e1, hi, e2, e3⟩ | ⟨e1, e3⟩
  rotate_left
  focus
   have HX := hid (show Mcr.expandF tb s args = (Mcr.nilNd, 8) by unfold Mcr.expandF; rw [e1]);clear h H0 e1;go_enter Tryz.func8, Tryz.ntmps8;go_wp2_with fail
   obtain ⟨g0, g1, g2, g3, _⟩ := Blk.four (HBR.out.alloc (.cells #[.int .i64 0, .int .i64 0, .string ⟨#[]⟩, .int .i64 0, .slice none 0 0] 53))
   (try simp only [Exit.inBlock, Exit.then])
   refine bodyPost_ret (v := .tuple #[nv Mcr.nilNd (.slice none 0 0), .int .i64 8]) (by simp [nv, Mcr.nilNd, Nd.kind, Nd.text, Nd.cols, results, Tryz.results8, go_sem, g0, g1, g2, g3]) rfl ?_;rw [HX.out];exact ⟨none, 0, rfl, .nil _ _, Nat.zero_le _, HF0.out.alloc _⟩
  focus
   have hmt := HTX.out m (by rw [← e2]; exact List.getElem_mem hi);have htr := h.tree i hi;rw [e2] at htr;obtain ⟨A6, c6, hsl⟩ := htr.slice;unfold macV at e3;rw [hsl] at e3 htr;have HTR := hid htr;have HMT := hid hmt;have HXE := hid (show Mcr.expandF tb s args = if args.length ≠ m.params then (Mcr.nilNd, 13) else Mcr.fillF m.tree args by unfold Mcr.expandF; rw [e1]);have hpb := hmt.2.1;clear h H0 e1 e2 htr hmt hsl hi HTX;have HBV := hid (Blk.new2 w (.cells #[.int .i64 0, .string ⟨#[]⟩, .int .i64 0, .slice none 0 0] 35) 53 #[.int .i64 (m.params : Int), .int .i64 m.tree.kind, .string ⟨m.tree.text.toArray⟩, .int .i64 m.tree.cols, .slice A6 m.tree.kids.length c6]);have HFV := hid (HF0.out.alloc (.cells #[.int .i64 (m.params : Int), .int .i64 m.tree.kind, .string ⟨m.tree.text.toArray⟩, .int .i64 m.tree.cols, .slice A6 m.tree.kids.length c6] 53));have HBRV := hid (HBR.out.alloc (.cells #[.int .i64 (m.params : Int), .int .i64 m.tree.kind, .string ⟨m.tree.text.toArray⟩, .int .i64 m.tree.cols, .slice A6 m.tree.kids.length c6] 53))
   by_cases hlen : args.length = m.params
   ·have d1 : ((args.length : Int) != (m.params : Int)) = false := by rw [hlen]; simp
    have HX := hid (show Mcr.expandF tb s args = Mcr.fillF m.tree args from HXE.out.trans (if_neg (by omega)));have HLN := hid hlen;clear hlen HXE;go_enter Tryz.func8, Tryz.ntmps8;go_wp2_with fail
    refine (fillm_any m.tree (.slice A6 m.tree.kids.length c6) args (.slice Aa args.length ca) _ (HTR.out.rep.fresh HFV.out) HMT.out.1 (HRA.out.fresh HFV.out)).mono ?_;rintro _ w6 ⟨A9, c9, rfl, ht6, htx6, hf6⟩;have HT6 := hid ht6;have HTX6 := hid htx6;have HF6 := hid (HFV.out.trans hf6);have HB6 := hid (hf6.blk HBRV.out fun h => h);have hs6 : w.heap.size + 1 ≤ ((w.alloc (.cells #[.int .i64 0, .string ⟨#[]⟩, .int .i64 0, .slice none 0 0] 35)).alloc (.cells #[.int .i64 (m.params : Int), .int .i64 m.tree.kind, .string ⟨m.tree.text.toArray⟩, .int .i64 m.tree.cols, .slice A6 m.tree.kids.length c6] 53)).heap.size := by simp
    have HS6 := hid hs6;clear ht6 htx6 hf6 hs6;obtain ⟨R, hR⟩ : ∃ R, R = Mcr.fillF m.tree args := ⟨_, rfl⟩;rw [← hR] at HT6 HTX6 HX ⊢;clear hR;obtain ⟨p0, p1, p2, p3, y0, y1, y2, y3, hlt0⟩ := Blk.four HB6.out;unfold nv;go_wp2_with fail
    have n1 := HB6.out.self4 (.int .i64 R.1.kind) (.string ⟨R.1.text.toArray⟩) (.int .i64 R.1.cols) (.slice A9 R.1.kids.length c9);have hf := HF6.out.put4 (g := w.heap.size) (.inr (Nat.le_refl _)) (.int .i64 R.1.kind) (.string ⟨R.1.text.toArray⟩) (.int .i64 R.1.cols) (.slice A9 R.1.kids.length c9);have ht9 := HT6.out.far (touch4 w6 w.heap.size (.int .i64 R.1.kind) (.string ⟨R.1.text.toArray⟩) (.int .i64 R.1.cols) (.slice A9 R.1.kids.length c9)) (by have := HS6.out; omega);obtain ⟨g0, g1, g2, g3, _⟩ := Blk.four n1;simp only [put4] at g0 g1 g2 g3 hf ht9
    (try simp only [Exit.inBlock, Exit.then])
    refine bodyPost_ret (v := .tuple #[nv R.1 (.slice A9 R.1.kids.length c9), .int .i64 R.2]) (by simp [nv, results, Tryz.results8, go_sem, g0, g1, g2, g3]) rfl ?_;rw [HX.out];exact ⟨A9, c9, rfl, ht9.base (by have := HS6.out; omega), HTX6.out, hf⟩
   ·have d1 : ((args.length : Int) != (m.params : Int)) = true := by rw [bne_iff_ne]; omega
    have HX := hid (show Mcr.expandF tb s args = (Mcr.nilNd, 13) from HXE.out.trans (if_pos hlen));clear hlen HXE;go_enter Tryz.func8, Tryz.ntmps8;go_wp2_with fail
    obtain ⟨g0, g1, g2, g3, _⟩ := Blk.four (HBRV.out)
    (try simp only [Exit.inBlock, Exit.then])
    refine bodyPost_ret (v := .tuple #[nv Mcr.nilNd (.slice none 0 0), .int .i64 13]) (by simp [nv, Mcr.nilNd, Nd.kind, Nd.text, Nd.cols, results, Tryz.results8, go_sem]) rfl ?_;rw [HX.out];exact ⟨none, 0, rfl, .nil _ _, Nat.zero_le _, HFV.out⟩
end Go.Proofs.YtomibmenojdieaaGreat
namespace Go.Proofs.YtomibmenojdieaaGreat
open Go.RowKit
open Tr (Nd)
attribute [local go_sem] stillV stillUpon
theorem count1_any (cb k : Nat) (d : Int) (w : World) (h : Blk w cb 3 #[.int .i64 (k : Int)]) (hk : k ≤ 1000000) : Calls Tryz.prog 113 #[.int .i64 d, .pointer (some ⟨cb, 0, none⟩)] w fun e w' => e = .returned (.tuple #[]) ∧ w' = w.setCell ⟨cb, 0, none⟩ (.int .i64 ((k + 1 : Nat) : Int)) := by
 have q0 := h.cell 0;have z0 := h.frozen 0;have hl := h.lt;have e1 : ((k : Int) + 1) = ((k + 1 : Nat) : Int) := by simp
 have w1 : IntKind.i64.wrap ((k : Int) + 1) = ((k + 1 : Nat) : Int) := by rw [IntWalk.i64_in _ (by omega)]; exact e1
 clear e1;generalize ((k + 1 : Nat) : Int) = k1 at *;go_enter Tryz.func113, Tryz.ntmps113;go_wp2_with fail
 go_end0
 exact ⟨rfl, rfl⟩
def NdC (W0 : World) (x : Nd) (p : Addr) : Prop := p.spot = none ∧ p.block < W0.heap.size ∧ ∃ A c, W0.cell? ⟨p.block, p.off + 3, none⟩ = some (.slice A x.kids.length c) ∧ RepL W0 x.kids (.slice A x.kids.length c)
def inCs : List (Nd × Addr × Int) → List Value
 | [] => []
 | x :: L => .pointer (some x.2.1) :: .int .i64 x.2.2 :: inCs L
theorem inCs_len : ∀ L, (inCs L).length = L.length * 2
 | [] => rfl
 | _ :: L => by simp only [inCs, List.length_cons, inCs_len L]; omega
theorem inCs_app : ∀ (L M : List (Nd × Addr × Int)), inCs (L ++ M) = inCs L ++ inCs M
 | [], _ => rfl
 | _ :: L, M => by simp only [List.cons_append, inCs, inCs_app L M]
def InRow (W0 w : World) (L : List (Nd × Addr × Int)) (v : Value) : Prop := w.ownsRow W0.heap.size 164 2 v L.length (inCs L) ∧ ∀ x ∈ L, NdC W0 x.1 x.2.1
theorem own_shrink2 {W : World} {B e g n cap : Nat} {xs : List Value} {u v : Value} (h : W.ownsRow B e 2 (.slice (some ⟨g, 0, none⟩) (n + 1) cap) (n + 1) (xs ++ [u, v])) : W.ownsRow B e 2 (.slice (some ⟨g, 0, none⟩) n cap) n xs := by
 have hl := h.1;rw [List.length_append] at hl;have hl' : xs.length + 2 = (n + 1) * 2 := hl;refine ⟨by omega, ?_⟩
 rcases h.2 with ⟨h1, _⟩ | ⟨g', cap', cur, h1, h2, h3, h4, h5, h6, h7⟩
 ·cases h1
 ·cases h1
  refine .inr ⟨g, cap, cur, rfl, h2, h3, by omega, h5, h6, ?_⟩;have h8 : (cur.toList.take ((n + 1) * 2)).take (n * 2) = (xs ++ [u, v]).take (n * 2) := by rw [h7]
  rw [List.take_take, show min (n * 2) ((n + 1) * 2) = n * 2 by omega] at h8;rw [h8, List.take_append_of_le_length (by omega), List.take_of_length_le (by omega)]
theorem InRow.top {W0 w : World} {M : List (Nd × Addr × Int)} {x : Nd × Addr × Int} {A : Option Addr} {m cp : Nat} (h : InRow W0 w (M ++ [x]) (.slice A (m + 1) cp)) (hm : M.length = m) : m + 1 ≤ cp ∧ ∃ s, A = some ⟨s, 0, none⟩ ∧ s < w.heap.size ∧ w.cell? ⟨s, m * 2, none⟩ = some (.pointer (some x.2.1)) ∧ w.cell? ⟨s, m * 2 + 1, none⟩ = some (.int .i64 x.2.2) ∧ NdC W0 x.1 x.2.1 ∧ InRow W0 w M (.slice A m cp) := by
 obtain ⟨h1, h2⟩ := h;rw [inCs_app, List.length_append, hm] at h1;have hl := inCs_len M;rw [hm] at hl;have hx : inCs [x] = [.pointer (some x.2.1), .int .i64 x.2.2] := rfl;rw [hx] at h1;simp only [List.length_cons, List.length_nil, Nat.zero_add] at h1
 rcases h1.2 with ⟨hv, _⟩ | ⟨s, cap, cur, hv, _, _, hc, _⟩
 ·cases hv
 ·cases hv
  have c0 := h1.cells (g := s) rfl (m * 2) (.pointer (some x.2.1)) (by rw [List.getElem?_append_right (by omega), show m * 2 - (inCs M).length = 0 by omega]; rfl);have c1 := h1.cells (g := s) rfl (m * 2 + 1) (.int .i64 x.2.2) (by rw [List.getElem?_append_right (by omega), show m * 2 + 1 - (inCs M).length = 1 by omega]; rfl);rw [Addr.add_mid, Nat.zero_add] at c0 c1;exact ⟨hc, s, rfl, (h1.lt s rfl).2, c0, c1, h2 x (by simp), by unfold InRow; rw [hm]; exact ⟨own_shrink2 h1, fun y hy => h2 y (by simp [hy])⟩⟩
theorem InRow.mv {W0 w w' : World} {L : List (Nd × Addr × Int)} {v : Value} {S : Nat → Prop} (h : InRow W0 w L v) (ht : Touch S w w') (hS : ∀ k, S k → ∀ cs, ¬ Blk w k 164 cs) : InRow W0 w' L v :=
 ⟨ownsRow_touch h.1 ht fun k hk hs => by
  obtain ⟨_, cur, h2⟩ := owns_type h.1 hk;exact hS k hs cur h2, h.2⟩
theorem infoInner : (Tryz.prog.info? 164).map (fun i => (i.zero, i.size, i.bytes)) = some (some (.agg #[.pointer none, .int .i64 0]), 2, 16) := by kernel_rfl
def CnSt (W0 : World) (cb C : Nat) (v : Value) (wr : World) (m : Nat) : Prop := ∃ (L : List (Nd × Addr × Int)) (A : Option Addr) (k cp : Nat), v = .slice A k cp ∧ L.length = k ∧ Fresh W0 wr ∧ InRow W0 wr L (.slice A k cp) ∧ Blk wr cb 3 #[.int .i64 ((C - m : Nat) : Int)] ∧ Tr.countL (L.map Prod.fst) = m ∧ m ≤ C
noncomputable def cnMu (W0 : World) (cb C : Nat) (v : Value) (wr : World) : Nat := least (CnSt W0 cb C v wr)
theorem each_count (n : Nd) (W0 w : World) (p : Addr) (cb : Nat) (hn : NdC W0 n p) (hC : Tr.count n ≤ 1000000) (hf : Fresh W0 w) (hb : Blk w cb 3 #[.int .i64 0]) (hcb : W0.heap.size ≤ cb) : Calls Tryz.prog 112 #[.pointer (some p), .func (.func 113) #[] #[.pointer (some ⟨cb, 0, none⟩)]] w fun e w' => e = .returned (.tuple #[]) ∧ Fresh W0 w' ∧ Blk w' cb 3 #[.int .i64 (Tr.count n : Int)] := by
 have hcf : ∀ (a : Array Value) (w : World), (callFunc 113 a).run Tryz.prog w = .ok (.enter 113 a) w := fun a w => by kernel_rfl
 obtain ⟨C, hc⟩ : ∃ C, C = Tr.count n := ⟨_, rfl⟩;have HCB := hid hcb
 have HS0 := hid (show CnSt W0 cb C (.slice (some ⟨w.heap.size, 0, none⟩) 1 1) (w.alloc (.cells #[.pointer (some p), .int .i64 1] 164)) C from by
  refine ⟨[(n, p, 1)], _, 1, 1, rfl, rfl, hf.alloc _, ⟨?_, fun x hx => by obtain rfl := List.mem_singleton.1 hx; exact hn⟩, by rw [Nat.sub_self]; exact hb.alloc _, by simp [Tr.countL, hc], Nat.le_refl _⟩;have := World.ownsRow_lit (base := W0.heap.size) (e := 164) (size := 2) w #[.pointer (some p), .int .i64 1] 1 hf.size (by simp only [maxLen]; omega) (by simp);simpa [inCs] using this)
 rw [← hc] at hC ⊢;have HCM := hid hC;clear hn hf hb hcb hC hc;go_enter Tryz.func112, Tryz.ntmps112;go_wp2_with fail
 generalize (w.alloc (.cells #[.pointer (some p), .int .i64 1] 164)) = W1 at HS0 ⊢
 go_loopw [4] (fun v wr0 => ∃ (wr : World) (m : Nat), wr = wr0 ∧ Hid (CnSt W0 cb C v wr m)) (fun v wr => cnMu W0 cb C v wr)
 case atStart => exact ⟨_, _, rfl, HS0⟩
 case round =>
  clear HS0;obtain ⟨wr, m0, rfl, hst0⟩ := hrel;obtain ⟨L, A, k, cp, rfl, hlen, hfr, hir, hbl, hm, hmle⟩ := least_spec hst0.out;have HLE := hid hmle;cases k with
  | zero =>
   have d1 : decide ((0 : Int) < (0 : Int)) = false := by decide
   rw [List.length_eq_zero_iff.1 hlen, List.map_nil, Tr.countL] at hm;rw [← hm, Nat.sub_zero] at hbl;have HB := hid hbl;have HF := hid hfr;clear hst0 hlen hfr hir hbl hm hmle HLE;go_wp2_with fail
   first | go_end0 | refine bodyPost_ret (v := .tuple #[]) (results_none rfl _ _ _) rfl ?_
   exact ⟨rfl, HF.out, HB.out⟩
  | succ m =>
   obtain ⟨M, ⟨x, q, d⟩, rfl, hM⟩ := snoc_of hlen;obtain ⟨hcp1, s, rfl, hs, hc0, hc1, ⟨hqs, hqb, Ax, cx, hsl, hrx⟩, hir2⟩ := hir.top hM;obtain ⟨qb, qo, qs⟩ := q;simp only at hqs hqb hsl hc0 hc1;subst hqs
   have hmm : Tr.countL (M.map Prod.fst) + Tr.countL x.kids + 1 = least (CnSt W0 cb C (.slice (some ⟨s, 0, none⟩) (m + 1) cp) wr) := by
    rw [List.map_append, countL_app] at hm;simp only [List.map_cons, List.map_nil, Tr.countL, Tr.count_kids] at hm;omega
   obtain ⟨mu, hmu⟩ : ∃ mu, mu = least (CnSt W0 cb C (.slice (some ⟨s, 0, none⟩) (m + 1) cp) wr) := ⟨_, rfl⟩;rw [← hmu] at hbl hmle hmm;have HMU := hid hmu;have HMM := hid hmm;have HFR := hid hfr;have HIR := hid hir2;have HBL := hid hbl;have HRX := hid hrx;have HSL := hid (And.intro hqb hsl);have HML := hid hM;have HSS := hid hs;have HCL := hid (show mu ≤ C ∧ C ≤ 1000000 from ⟨hmle, HCM.out⟩);have hml := Tr.countL_len (M.map Prod.fst);have hkl := Tr.countL_len x.kids;rw [List.length_map, hM] at hml;have HBD := hid (show m ≤ 1000000 ∧ x.kids.length ≤ 1000000 ∧ m + x.kids.length ≤ 1000000 by have := HCL.out; omega);have hmb := HBD.out.1;have y3 := hfr.cell hsl (fun h => h);have HCU := hid (show C - mu ≤ 1000000 by have := HCL.out; omega)
   have HNE := hid (show s ≠ cb from fun e => by
    subst e;obtain ⟨_, cur, h2⟩ := owns_type hir.1 rfl;unfold Blk at hbl;rw [hbl] at h2;cases h2)
   have d1 : decide ((0 : Int) < ((m + 1 : Nat) : Int)) = true := dT (by omega);have d1' : decide ((0 : Int) < (m : Int) + 1) = true := dT (by omega);have d1n : decide (0 < m + 1) = true := dT (by omega);have w1 : IntKind.i64.wrap (m : Int) = (m : Int) := IntWalk.i64_in _ (by omega);have w2 : (m : Int) + 1 - 1 = (m : Int) := by omega
   have w3 : (m : Int) < (m : Int) + 1 := by omega
   have w5 : (m : Int) ≤ (cp : Int) := by omega
   have w6 : m ≤ cp := by omega
   clear hst0 hlen hfr hir hbl hm hmle HLE hM hir2 hqb hsl hrx hcp1 hmm hmu hml hkl;go_wp2_with fail
   have HBI := hid (Blk.new wr 164 #[.pointer (some ⟨qb, qo, none⟩), .int .i64 d]);have HFA := hid (show Fresh wr (wr.alloc (.cells #[.pointer (some ⟨qb, qo, none⟩), .int .i64 d] 164)) from (Touch.refl _ wr).alloc _);have hcl : cb < wr.heap.size := HBL.out.lt;refine (count1_any cb (C - mu) d _ (HFA.out.blk HBL.out fun h => h) HCU.out).mono ?_;rintro _ w2 ⟨rfl, rfl⟩;have HT2 := hid (show Touch (fun k => k = cb) wr ((wr.alloc (.cells #[.pointer (some ⟨qb, qo, none⟩), .int .i64 d] 164)).setCell ⟨cb, 0, none⟩ (.int .i64 ((C - mu + 1 : Nat) : Int))) from ((Touch.refl (fun k => k = cb) wr).alloc _).setCell (p := ⟨cb, 0, none⟩) (.inl rfl) _);have HBI2 := hid (HBI.out.far (p := ⟨cb, 0, none⟩) (by show wr.heap.size ≠ cb; omega) (.int .i64 ((C - mu + 1 : Nat) : Int)));have HBL2 := hid ((HFA.out.blk HBL.out fun h => h).put 0 (.int .i64 ((C - mu + 1 : Nat) : Int)));have hq0 : ((wr.alloc (.cells #[.pointer (some ⟨qb, qo, none⟩), .int .i64 d] 164)).setCell ⟨cb, 0, none⟩ (.int .i64 ((C - mu + 1 : Nat) : Int))).heap.size = wr.heap.size + 1 := by simp
   have HQ0 := hid hq0
   have HOS := hid (show ∀ k, (Value.slice (some ⟨s, 0, none⟩) m cp).ownBlock = some k → k ≠ wr.heap.size from fun k hk => by
    have h1 := HSS.out;have h2 : s = k := by simpa [Value.ownBlock] using hk
    omega)
   clear y3 hc0 hc1 hs d1 d1' d1n w1 w2 w3 w5 w6 hq0;generalize ((wr.alloc (.cells #[.pointer (some ⟨qb, qo, none⟩), .int .i64 d] 164)).setCell ⟨cb, 0, none⟩ (.int .i64 ((C - mu + 1 : Nat) : Int))) = w7 at HT2 HBI2 HBL2 HQ0 ⊢;have HIR2 := hid (HIR.out.mv HT2.out fun k hk cs h => by rw [hk] at h; exact absurd (HBL.out.inj h).1 (by decide));have HFR2 := hid (HFR.out.trans' HT2.out fun k hk => .inr (by rw [hk]; exact HCB.out));have y3 := HFR2.out.cell HSL.out.2 (fun h => h);obtain ⟨b0, b1, z0, z1, hlb⟩ := Blk.two HBI2.out;go_wp2_with fail
   go_loopw [4, 34] (fun a i wq0 => ∃ (wq : World) (A' : Option Addr) (n' cp' j : Nat) (N : List (Nd × Addr × Int)), wq = wq0 ∧ a = .slice A' n' cp' ∧ i = .int .i64 j ∧ j ≤ x.kids.length ∧ Hid (n' = m + j ∧ N.length = n' ∧ N.map Prod.fst = M.map Prod.fst ++ x.kids.take j) ∧ Hid (InRow W0 wq N (.slice A' n' cp')) ∧ Hid (Fresh W0 wq) ∧ Hid (Blk wq cb 3 #[.int .i64 ((C - mu + 1 : Nat) : Int)]) ∧ Hid (Blk wq wr.heap.size 164 #[.pointer (some ⟨qb, qo, none⟩), .int .i64 d]) ∧ Hid (∀ k, (Value.slice A' n' cp').ownBlock = some k → k ≠ wr.heap.size)) (fun _ i _ => x.kids.length - (intOf i).toNat)
   case atStart => exact ⟨_, _, m, cp, 0, M, rfl, rfl, rfl, Nat.zero_le _, hid ⟨rfl, HML.out, by rw [List.take_zero, List.append_nil]⟩, HIR2, HFR2, HBL2, HBI2, HOS⟩
   case round =>
    clear y3 b0 b1 z0 z1 hlb;obtain ⟨wq, A', n', cp', j, N, rfl, rfl, rfl, hj, HN, HIN, HFQ, HBQ, HBJ, HOJ⟩ := hrel
    by_cases c1 : j < x.kids.length
    ·have d1 : decide ((j : Int) < (x.kids.length : Int)) = true := dT (by omega)
     have d1n : decide (j < x.kids.length) = true := dT c1;have d1' : (j : Int) < (x.kids.length : Int) := by omega
     have hjb : j ≤ 1000000 := by have := HBD.out; omega
     obtain ⟨gx, ox, sy, hAx, hgx, e0, e1, e2, e3, e4⟩ := HRX.out.get j c1;subst hAx;obtain ⟨Ay, cy, rfl⟩ := e4.slice;have HNY := hid (show NdC W0 x.kids[j] ⟨gx, ox + j * 4, none⟩ from ⟨rfl, hgx, Ay, cy, e3, e4⟩);have HTK := hid (show x.kids.take (j + 1) = x.kids.take j ++ [x.kids[j]] by rw [List.take_add_one, List.getElem?_eq_getElem c1]; rfl);have HJ := hid (And.intro hjb c1);have HLN := hid (show N.length < 2 ^ 40 by have := HN.out; have := HBD.out; omega);clear e0 e1 e2 e3 e4 hgx;generalize x.kids[j] = y at *;have y3 := cR ((HFQ.out.cell HSL.out.2 (fun h => h)).trans rfl);have b0 := cR ((HBJ.out.cell 0).trans rfl);have b1 := cR ((HBJ.out.cell 1).trans rfl);have hlb := HBJ.out.lt;have hqb : qb < wq.heap.size := Nat.lt_of_lt_of_le HSL.out.1 HFQ.out.size;go_wp2_with fail
     refine wp_region_mix [([(0, true), (1, true), (2, true), (3, true), (4, true), (5, true), (6, true), (7, true), (8, true), (9, true), (10, true), (11, true), (12, false)], 13)] [(14, true)] (by kernel_rfl) (fun _ _ d _ _ h => by cases d <;> exact h) (by kernel_rfl) ?_;refine wpMix_seg ?_
     repeat (refine wpSeq_plain rfl (fun K hK => ?_); go_simp; refine hK _ ?_; clear hK K)
     refine wpSeq_lone rfl (fun K hK => ?_);go_wp2_with fail
     refine hK _ _ (growing_fresh (((Touch.refl _ wq).drewN 1).alloc _)) ?_;clear hK K y3 b0 b1;have HBV := hid (Blk.new (wq.drewN 1) 164 #[.pointer (some ⟨gx, ox + j * 4, none⟩), .int .i64 (wrap64 (d + 1))]);have HFV := hid (show Fresh wq ((wq.drewN 1).alloc (.cells #[.pointer (some ⟨gx, ox + j * 4, none⟩), .int .i64 (wrap64 (d + 1))] 164)) from ((Touch.refl _ wq).drewN 1).alloc _);obtain ⟨ii, hi, hz0, hz1, hz2⟩ := info_parts infoInner;refine wpSeq_shut rfl (fun K hK => ?_)
     go_wp2_with (at_builtin; go_loud (refine wpList_append_src _ rfl (.tmp 37) (.tmp 49) 165 rfl W0.heap.size 164 ii _ 2 16 Tryz.underlying165 hi hz0 hz1 hz2 rfl (by decide) (.slice A' n' cp') n' (inCs N) (by simp [Act.eval]) (by have h := (HIN.out.mv HFV.out fun _ h => h.elim).1; rw [HN.out.2.1] at h; exact h) (.slice (some ⟨wq.heap.size, 0, none⟩) 1 1) 1 [.pointer (some ⟨gx, ox + j * 4, none⟩), .int .i64 (wrap64 (d + 1))] (by simp [Act.eval]) (Src.of_blk HBV.out rfl) (by intro u hu; simp at hu; rcases hu with rfl | rfl <;> rfl) (by have := HN.out; have := HBD.out; have := HJ.out; simp only [maxLen]; omega) (by have := HN.out; have := HBD.out; have := HJ.out; omega) (HFQ.out.trans HFV.out).size ?_); intro v8 w8 ho8 hg8 hv8; refine Stay.mk ?_)
     have hown : ∀ k, (Value.slice A' n' cp').ownBlock = some k → W0.heap.size ≤ k ∧ ∀ t cs, Blk wq k t cs → t = 164 := fun k hk => by
      obtain ⟨h1, cur, h2⟩ := owns_type HIN.out.1 hk;refine ⟨h1, fun t cs h => ?_⟩;unfold Blk at h;rw [h2] at h;cases h;rfl
     have HT8 := hid (show Touch (fun k => (Value.slice A' n' cp').ownBlock = some k) wq w8 from Touch.grown (HFV.out.mono fun _ h => h.elim) hg8 fun k hk => .inl hk);have HFR8 := hid (HFQ.out.trans' HT8.out fun k hk => .inr (hown k hk).1);have HBQ8 := hid (HT8.out.blk HBQ.out fun hk => by have := (hown cb hk).2 _ _ HBQ.out; revert this; decide);have HBJ8 := hid (HT8.out.blk HBJ.out fun hk => HOJ.out _ hk rfl);have HWQ := hid (show wr.heap.size < wq.heap.size from HBJ.out.lt);obtain ⟨A8, c8, rfl⟩ := own_slc ho8
     have HOJ8 := hid (show ∀ k, (Value.slice A8 (n' + 1) c8).ownBlock = some k → k ≠ wr.heap.size from fun k hk => by
      rcases hv8 with h | h
      ·rw [h] at hk; exact HOJ.out k hk
      ·rw [h] at hk
       cases hk;have h1 := HWQ.out;have h2 := HFV.out.size;omega)
     have HN8 := hid (show n' + 1 = m + (j + 1) ∧ (N ++ [(y, (⟨gx, ox + j * 4, none⟩ : Addr), wrap64 (d + 1))]).length = n' + 1 ∧ (N ++ [(y, (⟨gx, ox + j * 4, none⟩ : Addr), wrap64 (d + 1))]).map Prod.fst = M.map Prod.fst ++ x.kids.take (j + 1) by
      obtain ⟨h1, h2, h3⟩ := HN.out;refine ⟨by omega, by rw [List.length_append, h2]; rfl, ?_⟩;rw [List.map_append, h3, HTK.out, List.append_assoc];rfl)
     have HI8 := hid (show InRow W0 w8 (N ++ [(y, (⟨gx, ox + j * 4, none⟩ : Addr), wrap64 (d + 1))]) (.slice A8 (n' + 1) c8) from ⟨by rw [HN8.out.2.1, inCs_app]; exact ho8, fun z hz => by
      rcases List.mem_append.1 hz with hz | hz
      ·exact HIN.out.2 z hz
      ·obtain rfl := List.mem_singleton.1 hz
       exact HNY.out⟩)
     clear ho8 hg8 hv8 hown hlb hqb;refine Stay.go ?_;go_wp2_with fail
     refine wpMix_last ?_
     repeat (refine wpSeq_plain rfl (fun K hK => ?_); go_simp; refine hK _ ?_; clear hK K)
     refine wpSeq_end ?_;go_wp2_with fail
     go_roundw
     case rel => exact ⟨_, A8, n' + 1, c8, j + 1, _, rfl, rfl, by go_num, by have := HJ.out; omega, HN8, HI8, HFR8, HBQ8, HBJ8, HOJ8⟩
     case measure => simp [intOf]; have := HJ.out; omega
    ·have d1 : decide ((j : Int) < (x.kids.length : Int)) = false := dF (by omega)
     have d1n : decide (j < x.kids.length) = false := dF c1;obtain rfl : j = x.kids.length := by omega
     have HNEW := hid (show CnSt W0 cb C (.slice A' n' cp') wq (mu - 1) from ⟨N, A', n', cp', rfl, HN.out.2.1, HFQ.out, HIN.out, by
      have h := HBQ.out
      rwa [show C - mu + 1 = C - (mu - 1) by have := HMM.out; have := HCL.out; omega] at h, by
      rw [HN.out.2.2, List.take_length, countL_app];have := HMM.out;omega, by have := HCL.out; omega⟩)
     have HMM1 := hid (show 1 ≤ mu by have := HMM.out; omega);go_wp2_with fail
     go_roundw
     case rel => exact ⟨_, _, rfl, HNEW⟩
     case measure =>
      have h1 : cnMu W0 cb C (.slice A' n' cp') wq ≤ mu - 1 := least_le HNEW.out;have h2 : mu = cnMu W0 cb C (.slice (some ⟨s, 0, none⟩) (m + 1) cp) wr := HMU.out;have h3 := HMM1.out;omega
theorem ncount_any (n : Nd) (sl : Value) (w : World) (hC : Tr.count n ≤ 1000000) (hr : RepL w n.kids sl) : Calls Tryz.prog 109 #[nv n sl] w fun e w' => e = .returned (.int .i64 (Tr.count n : Int)) ∧ Fresh w w' := by
 obtain ⟨A, cap, rfl⟩ := hr.slice;have hmf : ∀ (fn : Fn) (first cap : Array Value) (w : World), (Instr.makeFunc fn first cap).run Tryz.prog w = .ok (.func fn first cap) w := fun _ _ _ _ => rfl
 have hf0 := (Touch.refl (fun _ => False) w).alloc (.cells #[.int .i64 n.kind, .string ⟨n.text.toArray⟩, .int .i64 n.cols, .slice A n.kids.length cap] 35);have hb0 := Blk.new w 35 #[.int .i64 n.kind, .string ⟨n.text.toArray⟩, .int .i64 n.cols, .slice A n.kids.length cap];have hs0 : (w.alloc (.cells #[.int .i64 n.kind, .string ⟨n.text.toArray⟩, .int .i64 n.cols, .slice A n.kids.length cap] 35)).heap.size = w.heap.size + 1 := by simp
 have HNC := hid (show NdC (w.alloc (.cells #[.int .i64 n.kind, .string ⟨n.text.toArray⟩, .int .i64 n.cols, .slice A n.kids.length cap] 35)) n ⟨w.heap.size, 0, none⟩ from ⟨rfl, hb0.lt, A, cap, hb0.cell 3, hr.fresh hf0⟩);have HB1 := hid (Blk.new2 w (.cells #[.int .i64 n.kind, .string ⟨n.text.toArray⟩, .int .i64 n.cols, .slice A n.kids.length cap] 35) 3 #[.int .i64 0]);have HF0 := hid hf0;have HC := hid hC;have HS0 := hid hs0;clear hb0 hf0 hs0 hr hC;go_enter Tryz.func109, Tryz.ntmps109;go_wp2_with fail
 refine (each_count n (w.alloc (.cells #[.int .i64 n.kind, .string ⟨n.text.toArray⟩, .int .i64 n.cols, .slice A n.kids.length cap] 35)) _ ⟨w.heap.size, 0, none⟩ (w.heap.size + 1) HNC.out HC.out ((Touch.refl _ _).alloc _) HB1.out (by rw [HS0.out]; exact Nat.le_refl _)).mono ?_;rintro _ w2 ⟨rfl, hf, hb⟩;have HF := hid (HF0.out.trans hf);have q0 := hb.cell 0;clear hf hb;go_wp2_with fail
 go_ret;exact ⟨rfl, HF.out⟩
end Go.Proofs.YtomibmenojdieaaGreat
