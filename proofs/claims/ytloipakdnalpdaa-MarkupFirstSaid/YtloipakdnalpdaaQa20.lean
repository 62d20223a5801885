/- Part 20 of 20 of a proof; its texts, joined: ReC, XmJ. No condition. -/
import Derived.Test.YtloipakdnalpdaaQa19
import Derived.Test.YtloipakdnalpdaaQa18
import Derived.Test.YtloipakdnalpdaaQa14
import Derived.Test.YtloipakdnalpdaaQa5
import Derived.Test.YtloipakdnalpdaaQa11
import Derived.Test.YtloipakdnalpdaaQa3
set_option maxRecDepth 100000
set_option maxHeartbeats 2000000
namespace Go.Proofs.Ytloipakdnalpdaa
open Go.RowKit
open Tr (Nd)
open El (E elE elK mrow grid mkE slotsE nMtr nMtd nMtable)
attribute [local go_sem] stillV stillUpon
theorem countL_sub (ks : List Nd) (i c : Nat) : Tr.countL ((ks.drop i).take c) ≤ Tr.countL ks := by
 have h1 := Tr.countL_le (ks.drop i) c
 have h2 : Tr.countL (ks.drop i) ≤ Tr.countL ks := by
  induction ks generalizing i with
  | nil => simp
  | cons x l ih =>
   cases i with
   | zero => simp
   | succ i => rw [List.drop_succ_cons, Tr.countL]; have := ih i (Tr.countL_le _ _); omega
 omega
theorem grid_rows {α : Type} (c : Nat) (hc : 0 < c) (l : List α) (r : Nat) (h : r * c ≤ l.length) : (grid c (l.take (r * c))).length = r := by
 unfold El.grid;rw [List.length_map, List.length_range, List.length_take, Nat.min_eq_left h, El.ceil_mul c r hc]
theorem re_matrix0 (n : Nd) (hk : n.kind = 12) (ht : n.text.length ≤ maxLen) (c : Nat) (hc0 : 0 < c) (hc16 : c ≤ 16) (hcc : n.cols = (c : Int)) (hdv : n.kids.length % c = 0) (ih : ∀ x ∈ n.kids, ReElsC x.kids) (sl : Value) (w : World) (hc : Tr.count n ≤ 100000) (hsl : RepC w n.kids sl) : Calls Try.prog 33 #[nv n sl] w fun e w' => ∃ v, e = .returned v ∧ MakesE w w' (elE n) v := by
 obtain ⟨A, cap, rfl⟩ := hsl.slice;have HSL := hid hsl;have HTX := hid ht;have HCL := hid (show Tr.countL n.kids ≤ 100000 by have := Tr.count_kids n; omega)
 have hE : elE n = E.mk El.nMtable [] (linesE c n.kids) [] := by
  rw [El.elE_eq, hk];rw [El.slotsE_map, hcc];show E.mk El.nMtable [] ((grid (c : Int).toNat ((n.kids.map fun n => elK n.kids).map (mrow El.nMtd))).map (mrow El.nMtr)) [] = _;rw [Int.toNat_natCast, List.map_map];rfl
 rw [hE];show Calls _ _ #[.agg #[.int .i64 n.kind, .string ⟨n.text.toArray⟩, .int .i64 n.cols, .slice A n.kids.length cap]] _ _;rw [hk];have hkl := Tr.countL_len n.kids;have HIH := hid ih;rw [hcc];generalize hks : n.kids = ks at *;clear hsl hc hE hks ih hcc;go_enter Try.func33, Try.ntmps33;go_wp2_with fail
 refine forget_world (fun W => Fresh w W ∧ W.heap.size = w.heap.size + 3 ∧ Blk W w.heap.size 24 #[.int .i64 12, .string ⟨n.text.toArray⟩, .int .i64 (c : Int), .slice A ks.length cap] ∧ Blk W (w.heap.size + 1) 30 #[.string ⟨#[]⟩, .slice none 0 0, .slice none 0 0, .string ⟨#[]⟩] ∧ Blk W (w.heap.size + 1 + 1) 30 #[.string ⟨nMtable.toArray⟩, .slice none 0 0, .slice none 0 0, .string ⟨#[]⟩]) ⟨(((Touch.refl _ _).alloc _).alloc _).alloc _, by simp, ((Blk.new w 24 _).alloc _).alloc _, (Blk.new2 w _ 30 _).alloc _, Blk.new3' _ _ _ _ _⟩ ?_;rintro W1 ⟨hf1, hs1, hbn1, hbr1, hbe1⟩;have HF1 := hid hf1;have HBN1 := hid hbn1;have HBR1 := hid hbr1;have HBE1 := hid hbe1;have HG1 := hid (show GrowE (w.heap.size + 3) W1 ((grid c ((rowsE nMtd ks).take 0)).map (mrow nMtr)) (.slice none 0 0) by rw [List.take_zero, El.grid_nil c hc0]; exact GrowE.nil (by omega));clear hf1 hbr1 hbe1 hs1 hbn1
 go_loopw [4] (fun x wr => ∃ (i r : Nat) (Ao : Option Addr) (co : Nat), x = .int .i64 i ∧ i = r * c ∧ i ≤ ks.length ∧ Hid (Blk wr w.heap.size 24 #[.int .i64 12, .string ⟨n.text.toArray⟩, .int .i64 (c : Int), .slice A ks.length cap]) ∧ Hid (Blk wr (w.heap.size + 1) 30 #[.string ⟨#[]⟩, .slice none 0 0, .slice none 0 0, .string ⟨#[]⟩]) ∧ Hid (Blk wr (w.heap.size + 1 + 1) 30 #[.string ⟨nMtable.toArray⟩, .slice none 0 0, .slice Ao r co, .string ⟨#[]⟩]) ∧ Hid (GrowE (w.heap.size + 3) wr ((grid c ((rowsE nMtd ks).take i)).map (mrow nMtr)) (.slice Ao r co)) ∧ Hid (Fresh w wr)) (fun x _ => ks.length - (intOf x).toNat)
 case atStart => exact ⟨0, 0, none, 0, rfl, by simp, Nat.zero_le _, HBN1, HBR1, HBE1, HG1, HF1⟩
 case round =>
  obtain ⟨i, r, Ao, co, rfl, hir, hil, HBN, HBR, HBE, HG, HF⟩ := hrel;rename_i wr _;have HIR := hid hir;clear hir;obtain ⟨q0, q1, q2, q3, _, _, _, _, hlq⟩ := Blk.four HBN.out
  by_cases c1 : i + c ≤ ks.length
  ·have d1 : decide ((i : Int) + (c : Int) ≤ (ks.length : Int)) = true := dT (by omega)
   have d1n : decide (i + c ≤ ks.length) = true := dT c1;have hkne : 0 < ks.length := by omega
   obtain ⟨hcap, hcm⟩ := HSL.out.cap hkne;unfold maxLen at hcm;obtain ⟨g, o, sx, hA, hg, _⟩ := HSL.out.get 0 hkne;cases hA;go_wp2_with fail
   obtain ⟨_, _, k0', _, _, _, _, _, _⟩ := Blk.four HBE.out;have k0 := cR k0';have hw : IntKind.i64.wrap ((i : Int) + (c : Int)) = (i : Int) + (c : Int) := IntWalk.i64_in _ (by omega);have hic : (i : Int) + (c : Int) ≤ (cap : Int) := by omega
   have hic0 : 0 ≤ (i : Int) + (c : Int) := by omega
   have hicn : ((i : Int) + (c : Int)).toNat = i + c := by omega
   have hicm : i + c - i = c := by omega
   have hci : ¬ cap = i := by omega
   have cq2 := cR q2;have cq3 := cR q3;clear q0 q1 q2 q3 k0';refine wp_region_mix [([(0, true), (1, true), (2, true), (3, true), (4, true), (5, true), (6, true), (7, true), (8, true), (9, true), (10, false), (11, true), (12, false)], 13), ([(14, true)], 15)] [] (by kernel_rfl) (fun _ _ d _ _ h => by cases d <;> exact h) (by kernel_rfl) ?_;refine wpMix_seg ?_
   repeat (refine wpSeq_plain rfl (fun K hK => ?_); go_simp; refine hK _ ?_; clear hK K)
   clear k0 cq2 cq3;refine wpSeq_lone rfl (fun K hK => ?_);go_wp2_with fail
   have HSB := hid (RepC.sub HSL.out i c (cap - i) c1 (by omega) (by unfold maxLen; omega));have hcs : Tr.countL ((ks.drop i).take c) ≤ 100000 := Nat.le_trans (countL_sub ks i c) HCL.out;refine ((rerows_any ((ks.drop i).take c) (fun x hx => HIH.out x (List.mem_of_mem_drop (List.mem_of_mem_take hx)))) nMtd _ _ (by decide) hcs (HSB.out.fresh (HF.out.drewN 1))).mono ?_;rintro _ w6 ⟨vk, rfl, hf6, hst6⟩;obtain ⟨Ak, ck, rfl⟩ := hst6.now.slice;have HF6 := hid (show Fresh wr w6 from ((Touch.refl _ wr).drewN 1).trans hf6);have HST6 := hid (show Stab (fun k => k < wr.heap.size) w6 fun W => RepV W (mrow nMtr (rowsE nMtd ((ks.drop i).take c))) (.slice none 0 0) (.slice Ak (rowsE nMtd ((ks.drop i).take c)).length ck) from hst6.imp fun W h => ⟨RepA.nil _ _ _, h, show nMtr.length ≤ maxLen by decide, Nat.zero_le _⟩);clear hf6 hst6 hw hic hic0 hicn hicm hci;go_wp2_with fail
   refine hK _ _ (growing_fresh HF6.out) ?_;clear hK K
   repeat (refine wpSeq_plain rfl (fun K hK => ?_); go_simp; refine hK _ ?_; clear hK K)
   refine wpSeq_lone rfl (fun K hK => ?_);go_wp2_with fail
   refine hK _ _ (growing_fresh (HF6.out.alloc _)) ?_;clear hK K;have HBV := hid (show Blk (w6.alloc (.cells #[.string ⟨#[109, 116, 114]⟩, .slice none 0 0, .slice Ak (rowsE nMtd ((ks.drop i).take c)).length ck, .string ⟨#[]⟩] 30)) w6.heap.size 30 #[.string ⟨nMtr.toArray⟩, .slice none 0 0, .slice Ak (rowsE nMtd ((ks.drop i).take c)).length ck, .string ⟨#[]⟩] from Blk.new w6 30 _);have HF7 := hid (show Fresh wr (w6.alloc (.cells #[.string ⟨#[109, 116, 114]⟩, .slice none 0 0, .slice Ak (rowsE nMtd ((ks.drop i).take c)).length ck, .string ⟨#[]⟩] 30)) from HF6.out.alloc _);have HST7 := hid (HST6.out.fresh ((Touch.refl _ w6).alloc (.cells #[.string ⟨#[109, 116, 114]⟩, .slice none 0 0, .slice Ak (rowsE nMtd ((ks.drop i).take c)).length ck, .string ⟨#[]⟩] 30)));generalize (w6.alloc (.cells #[.string ⟨#[109, 116, 114]⟩, .slice none 0 0, .slice Ak (rowsE nMtd ((ks.drop i).take c)).length ck, .string ⟨#[]⟩] 30)) = w7 at HBV HF7 HST7 ⊢;have HG7 := hid (HG.out.fresh HF7.out);have HOW := hid HG.out.own_lt;have HBE7 := hid (HF7.out.blk HBE.out fun h => h);have HBR7 := hid (HF7.out.blk HBR.out fun h => h);have HBN7 := hid (HF7.out.blk HBN.out fun h => h);have HB5 := hid HG.out.base;have HLN := hid (show (((grid c ((rowsE nMtd ks).take i)).map (mrow nMtr))).length = r by rw [List.length_map, HIR.out]; exact grid_rows c hc0 _ r (by rw [rowsE_len, ← HIR.out]; exact hil))
   have hr5 : r ≤ 100000 := by
    have h1 := grid_len_le c hc0 ((rowsE nMtd ks).take i);have h2 := HLN.out;rw [List.length_map] at h2;rw [List.length_take, rowsE_len] at h1;have := HCL.out;omega
   refine wpSeq_shut rfl (fun K hK => ?_)
   go_wp2_with (at_builtin; go_loud (refine wpList_append_elem rfl (.tmp 116) (.tmp 127) rfl HG7.out HLN.out (by simp [Act.eval]) (mrow nMtr (rowsE nMtd ((ks.drop i).take c))) HBV.out (by simp [Act.eval]) wr.heap.size HB5.out (fun k hk => (HOW.out k hk).2) HST7.out (by omega) ?_); intro A8 c8 w8 hg8 ht8 _; refine Stay.mk ?_)
   have HG8 := hid hg8;have HBE8 := hid (ht8.blk HBE7.out fun h => by have := (HOW.out _ h).1; omega);have HBR8 := hid (ht8.blk HBR7.out fun h => by have := (HOW.out _ h).1; omega);have HBN8 := hid (ht8.blk HBN7.out fun h => by have := (HOW.out _ h).1; omega);have HF8 := hid (show Fresh w w8 from (HF.out.trans HF7.out).trans' ht8 fun k hk => .inr (by have := (HOW.out _ hk).1; omega));clear hg8 ht8;obtain ⟨q0, q1, q2, q3, z0, z1, z2, z3, hlt⟩ := Blk.four HBE8.out;obtain ⟨p0, p1, p2, p3, _, _, _, _, hlp⟩ := Blk.four HBN8.out;have hw : IntKind.i64.wrap ((i : Int) + (c : Int)) = (i : Int) + (c : Int) := IntWalk.i64_in _ (by have := HCL.out; omega);refine Stay.go ?_;go_wp2_with fail
   refine wpMix_seg ?_
   repeat (refine wpSeq_plain rfl (fun K hK => ?_); go_simp; refine hK _ ?_; clear hK K)
   refine wpSeq_shut rfl (fun K hK => ?_);go_wp2_with fail
   refine wpMix_end ?_;go_wp2_with fail
   have hg9 := HG8.out.mv ((Touch.refl (fun k => k = (w.heap.size + 1 + 1)) w8).setCell (p := ⟨(w.heap.size + 1 + 1), 2, none⟩) (.inl rfl) (.slice A8 (r + 1) c8)) (fun k hk _ => by omega);have hgr := El.grid_row c hc0 (rowsE nMtd ks) r (by rw [rowsE_len, ← HIR.out]; exact c1);rw [← HIR.out, show ((rowsE nMtd ks).drop i).take c = rowsE nMtd ((ks.drop i).take c) by unfold rowsE; rw [List.map_take, List.map_drop]] at hgr;rw [← List.map_singleton (f := mrow nMtr), ← List.map_append, ← hgr] at hg9;exact ⟨⟨i + c, r + 1, A8, c8, by simp, by rw [HIR.out, Nat.add_mul, Nat.one_mul], c1, HBN8.out.far (p := ⟨(w.heap.size + 1 + 1), 2, none⟩) (by simp; omega) _, HBR8.out.far (p := ⟨(w.heap.size + 1 + 1), 2, none⟩) (by simp) _, HBE8.out.put 2 _, hg9, HF8.out.setCell (p := ⟨(w.heap.size + 1 + 1), 2, none⟩) (.inr (by show w.heap.size ≤ (w.heap.size + 1 + 1); omega)) _⟩, by simp [intOf]; omega⟩
  ·have d1 : decide ((i : Int) + (c : Int) ≤ (ks.length : Int)) = false := dF (by omega)
   have d1n : decide (i + c ≤ ks.length) = false := dF c1
   have hiL : i = ks.length := by
    have h1 : ks.length / c = r := Nat.div_eq_of_lt_le (by rw [← HIR.out]; exact hil) (by rw [Nat.add_mul, Nat.one_mul, ← HIR.out]; omega);have h2 := Nat.div_mul_cancel (Nat.dvd_of_mod_eq_zero hdv);rw [h1, ← HIR.out] at h2;exact h2
   have HIL := hid hiL;have hib : i ≤ 100000 := by have := HCL.out; omega
   have hlt' : (ks.length : Int) < (i : Int) + (c : Int) := by omega
   clear hiL hil;obtain ⟨s0, s1, s2, s3, _, _, _, _, hlt⟩ := Blk.four HBE.out;obtain ⟨p0, p1, p2, p3, y0, y1, y2, y3, hlp⟩ := Blk.four HBR.out;have hg9 := HG.out.mv ((Touch.refl (fun k => k = (w.heap.size + 1)) wr).put4 (.inl rfl) (.string ⟨nMtable.toArray⟩) (.slice none 0 0) (.slice Ao r co) (.string ⟨#[]⟩)) (fun k hk _ => by omega);rw [HIL.out, List.take_of_length_le (by rw [rowsE_len]; exact Nat.le_refl _)] at hg9;have HG9 := hid hg9;obtain ⟨r0, r1, r2, r3, _, _, _, _, _⟩ := Blk.four (HBR.out.self4 (.string ⟨nMtable.toArray⟩) (.slice none 0 0) (.slice Ao r co) (.string ⟨#[]⟩));simp only [put4] at r0 r1 r2 r3;clear hg9;go_wp2_with fail
   refine bodyPost_ret (v := .agg #[.string ⟨nMtable.toArray⟩, .slice none 0 0, .slice Ao r co, .string ⟨#[]⟩]) (by simp [results, Try.results33, go_sem, r0, r1, r2, r3]) rfl ?_;refine ⟨_, rfl, .slice none 0 0, .slice Ao r co, rfl, Touch.put4 HF.out (.inr (by omega)) _ _ _ _, ?_⟩;exact (HG9.out.done.mono fun i _ hi => by omega).imp fun W hW => ⟨RepA.nil _ _ _, hW, show nMtable.length ≤ maxLen by decide, Nat.zero_le _⟩
theorem reitem_any (m : Nat) : ∀ n, Tr.count n ≤ m → Tr.form n = true → (n.kind == 1) = false → ReItemC n := by
 induction m with
 | zero => intro n h; have := Tr.count_pos n; omega
 | succ m ih =>
  intro n hm hf hk1;rw [Tr.form_eq, Bool.and_eq_true, Bool.and_eq_true, hk1] at hf;obtain ⟨⟨ht, hkk⟩, hfl⟩ := hf;have htx : n.text.length ≤ maxLen := Nat.le_trans (text_le _ _ ht) (by decide)
  have hrow : ∀ x ∈ n.kids, ReElsC x.kids := fun x hx => reels_any x.kids fun y hy => by
   obtain ⟨h1, h2⟩ := formL_mem _ _ hfl x hx;rw [Tr.form_eq, Bool.and_eq_true] at h2;have hx1 : (x.kind == 1) = true := by simpa using h1
   rw [hx1] at h2;obtain ⟨h3, h4⟩ := formL_mem _ _ h2.2 y hy;have c1 := Tr.count_mem hx;have c2 := Tr.count_mem hy;have c3 := Tr.count_kids n;have c4 := Tr.count_kids x;exact ih y (by omega) h4 (by simpa using h3)
  intro sl w hc hsl;unfold Tr.kidsOK at hkk
  by_cases h12 : n.kind = 12
  ·rw [if_pos h12] at hkk
   simp only [Bool.and_eq_true, decide_eq_true_eq] at hkk;obtain ⟨⟨⟨⟨k1, k2⟩, k3⟩, k4⟩, k5⟩ := hkk;refine re_matrix0 n h12 htx n.cols.toNat (by omega) (by omega) (by omega) ?_ hrow sl w hc hsl;have h : ((n.kids.length % n.cols.toNat : Nat) : Int) = 0 := by rw [Int.natCast_emod, Int.toNat_of_nonneg (by omega)]; exact k5
   omega
  rw [if_neg h12] at hkk;split at hkk
  ·cases hkk
  split at hkk
  ·rename_i h1
   rw [h1] at hk1;cases hk1
  split at hkk
  ·rename_i h
   rcases h with h | h | h
   ·rw [h] at ht
    have hls := letts_sym n.text ht;cases hl : El.lett n.text with
    | true => exact re_sym_true n h htx hl (by rw [hls, hl]) sl w hc hsl
    | false => exact re_sym_false n h htx hl (by rw [hls, hl]) sl w hc hsl
   ·exact re_mn n h htx sl w hc hsl
   ·exact re_mtext n h htx sl w hc hsl
  split at hkk
  ·rename_i h
   have h2 : n.kids.length = 2 := by simpa using hkk
   rcases h with h | h | h | h
   ·exact re_rows5 n h htx hrow sl w hc hsl
   ·obtain ⟨a, b, hks⟩ : ∃ a b, n.kids = [a, b] := by
     match hh : n.kids, h2 with
     | [a, b], _ => exact ⟨a, b, rfl⟩
    by_cases ha : a.kids = []
    ·exact re_sqrt n a b h hks htx ha (hrow b (by rw [hks]; simp)) sl w hc hsl
    ·exact re_root n a b h hks htx ha (hrow a (by rw [hks]; simp)) (hrow b (by rw [hks]; simp)) sl w hc hsl
   ·exact re_rows7 n h htx hrow sl w hc hsl
   ·exact re_rows8 n h htx hrow sl w hc hsl
  split at hkk
  ·rename_i h
   exact re_rows9 n h htx hrow sl w hc hsl
  split at hkk
  ·rename_i h
   have h1 : n.kids.length = 1 := by simpa using hkk
   obtain ⟨a, hks⟩ := List.length_eq_one_iff.1 h1
   rcases h with h | h
   ·exact re_accent n a h hks htx (hrow a (by rw [hks]; simp)) sl w hc hsl
   ·have h2 : n.text.length = 2 := by
     rw [h] at ht;have ht' : Tr.fence n.text = true := ht;unfold Tr.fence at ht';split at ht'
     ·rename_i hx; rw [hx]; rfl
     ·cases ht'
    exact re_fence n a h hks htx (hrow a (by rw [hks]; simp)) h2 _ _ rfl rfl sl w hc hsl
  ·cases hkk
theorem reElement_any (n : Nd) (hf : Tr.form n = true) (hk : (n.kind == 1) = true) (sl : Value) (w : World) (hc : Tr.count n ≤ 100000) (hsl : RepC w n.kids sl) : Calls Try.prog 10 #[nv n sl] w fun e w' => ∃ v, e = .returned v ∧ MakesE w w' (El.elM n) v := by
 obtain ⟨A, cap, rfl⟩ := hsl.slice
 have hels : ReElsC n.kids := reels_any n.kids fun y hy => by
  rw [Tr.form_eq, Bool.and_eq_true, hk] at hf;obtain ⟨h3, h4⟩ := formL_mem _ _ hf.2 y hy;exact reitem_any _ y (Nat.le_refl _) h4 (by simpa using h3)
 have HELS := hid hels;have HSL := hid hsl;have HCL := hid (show Tr.countL n.kids ≤ 100000 by have := Tr.count_kids n; omega);clear hels hsl hc;have HF3 := hid (show Fresh w ((w.alloc (.cells #[.int .i64 n.kind, .string ⟨n.text.toArray⟩, .int .i64 n.cols, .slice A n.kids.length cap] 24)).alloc (.cells #[.string ⟨#[]⟩, .slice none 0 0, .slice none 0 0, .string ⟨#[]⟩] 30)) from ((Touch.refl _ _).alloc _).alloc _);have HBR3 := hid (Blk.new2 w (.cells #[.int .i64 n.kind, .string ⟨n.text.toArray⟩, .int .i64 n.cols, .slice A n.kids.length cap] 24) 30 #[.string ⟨#[]⟩, .slice none 0 0, .slice none 0 0, .string ⟨#[]⟩]);have HS3 := hid (show w.heap.size + 2 ≤ ((w.alloc (.cells #[.int .i64 n.kind, .string ⟨n.text.toArray⟩, .int .i64 n.cols, .slice A n.kids.length cap] 24)).alloc (.cells #[.string ⟨#[]⟩, .slice none 0 0, .slice none 0 0, .string ⟨#[]⟩] 30)).heap.size by simp);go_enter Try.func10, Try.ntmps10;go_wp2_with fail
 generalize ((w.alloc (.cells #[.int .i64 n.kind, .string ⟨n.text.toArray⟩, .int .i64 n.cols, .slice A n.kids.length cap] 24)).alloc (.cells #[.string ⟨#[]⟩, .slice none 0 0, .slice none 0 0, .string ⟨#[]⟩] 30)) = W3 at HF3 HBR3 HS3 ⊢;refine (HELS.out _ _ HCL.out (HSL.out.fresh HF3.out)).mono ?_;rintro _ w6 ⟨vk, rfl, hf6, hst6⟩;obtain ⟨Ak, ck, rfl⟩ := hst6.now.slice;have HF6 := hid (HF3.out.trans hf6);have HBR6 := hid (hf6.blk HBR3.out fun h => h);have HST6 := hid (show Stab (fun k => k < W3.heap.size) w6 fun W => RepE W (elK n.kids) (.slice Ak (elK n.kids).length ck) from hst6);clear hf6 hst6;obtain ⟨p0, p1, p2, p3, y0, y1, y2, y3, hlp⟩ := Blk.four HBR6.out;obtain ⟨r0, r1, r2, r3, _, _, _, _, _⟩ := Blk.four (HBR6.out.self4 (.string ⟨El.nMath.toArray⟩) (.slice none 0 0) (.slice Ak (elK n.kids).length ck) (.string ⟨#[]⟩));simp only [put4, El.nMath] at r0 r1 r2 r3;go_wp2_with fail
 refine bodyPost_ret (v := .agg #[.string ⟨El.nMath.toArray⟩, .slice none 0 0, .slice Ak (elK n.kids).length ck, .string ⟨#[]⟩]) (by simp [results, Try.results10, go_sem, El.nMath, r0, r1, r2, r3]) rfl ?_;have hst9 := HST6.out.step (S2 := fun k => k < w.heap.size) ((Touch.refl (fun k => k = w.heap.size + 1) w6).put4 (.inl rfl) (.string ⟨El.nMath.toArray⟩) (.slice none 0 0) (.slice Ak (elK n.kids).length ck) (.string ⟨#[]⟩)) (fun i _ hi => by have := HS3.out; have hi : i = w.heap.size + 1 := hi; omega) (fun i _ hi => by have := HS3.out; omega);exact ⟨_, rfl, .slice none 0 0, .slice Ak (elK n.kids).length ck, rfl, Touch.put4 HF6.out (.inr (by omega)) _ _ _ _, hst9.imp fun W h => ⟨RepA.nil _ _ _, h, show El.nMath.length ≤ maxLen by decide, Nat.zero_le _⟩⟩
end Go.Proofs.Ytloipakdnalpdaa
namespace Go.Proofs.Ytloipakdnalpdaa
open Go.ChangeShapes Go.WideShapes Go.ChangeAt Go.RowKit
open Go.ChangeMaps (open_string shut_string)
open Tr (Nd)
open El (E Attrs)
attribute [local go_sem] stillV stillUpon
theorem few09_any (n : Nd) (sl : Value) (most : Int) (w : World) (hr : RepL w n.kids sl) (h0 : 0 ≤ most) (h1 : most ≤ 1000000) :
  Calls Try.prog 6 #[nv n sl, .int .i64 most] w fun e w' => e = .returned (.bool (decide ((Tr.count n : Int) ≤ most))) ∧ Fresh w w' := few_any n sl most w hr h0 h1
theorem elNil_rep (w : World) : RepV w elNil (.slice none 0 0) (.slice none 0 0) := ⟨RepA.nil _ _ _, .nil _ _, Nat.zero_le _, Nat.zero_le _⟩
theorem markupElement_any (n : Nd) (sl : Value) (w : World) (hr : RepC w n.kids sl) (ht : n.text.length ≤ maxLen) :
  Calls Try.prog 3 #[nv n sl] w fun e w' => e = .returned (.bool true) ∧ Fresh w w' := by
 obtain ⟨A, cap, rfl⟩ := hr.slice;have HR := hid hr;have HV := hid (fun (w : World) (hr : RepL w n.kids (.slice A n.kids.length cap)) (hc : Tr.count n ≤ 1000000) => rValid_any n _ w hr ht hc);have HM := hid (fun (w : World) (hr : RepL w n.kids (.slice A n.kids.length cap)) (hc : Tr.count n ≤ 1000) => mkEl_any n _ w hr ht hc);clear hr;go_enter Try.func3, Try.ntmps3;go_wp2_with fail
 refine (awake24_any _).mono ?_;rintro _ w1 ⟨rfl, hf1⟩;have HF1 := hid (Touch.pre hf1);have hb := hf1.blk (Blk.new w 24 #[.int .i64 n.kind, .string ⟨n.text.toArray⟩, .int .i64 n.cols, .slice A n.kids.length cap]) (fun h => h);have HB1 := hid hb;obtain ⟨q0, q1, q2, q3, _⟩ := Blk.four hb;clear hf1 hb;go_wp2_with fail
 refine (few09_any n _ 150 _ (HR.out.rep.fresh HF1.out) (by decide) (by decide)).mono ?_;rintro _ w2 ⟨rfl, hf2⟩;have HF2 := hid (HF1.out.trans hf2);have hb := hf2.blk HB1.out (fun h => h);have HB2 := hid hb;clear q0 q1 q2 q3;obtain ⟨q0, q1, q2, q3, _⟩ := Blk.four hb;clear hf2 hb;cases h1 : decide ((Tr.count n : Int) ≤ 150) with
 | false =>
  go_wp2_with fail
  go_ret;exact ⟨rfl, HF2.out⟩
 | true =>
 have h1p := of_decide_eq_true h1;have hcn : Tr.count n ≤ 150 := by omega
 clear h1 h1p;go_wp2_with fail
 refine (HM.out _ (HR.out.rep.fresh HF2.out) (by omega)).mono ?_;rintro _ w3 ⟨v, rfl, va, vk, hev, hf3, hst⟩;have HF3 := hid (HF2.out.trans hf3);have HS3 := hid hf3.size;have hb := hf3.blk HB2.out (fun h => h);have HB3 := hid hb;have HST := hid hst;clear q0 q1 q2 q3;obtain ⟨q0, q1, q2, q3, _⟩ := Blk.four hb;clear hf3 hst hb;cases hv : Tr.valid n with
 | false =>
  have HS := hid (show markE n = elNil from by unfold markE; rw [hv]; rfl);have HE := hid (show markEr n = 1 from by unfold markEr; rw [hv]; rfl);have HVF := hid hv;rw [HE.out];rw [HS.out] at hev HST;obtain ⟨Aa, ca, hva⟩ := HST.out.now.1.slice;obtain ⟨Ak, ck, hvk⟩ := HST.out.now.2.1.slice;replace hev : v = .agg #[.string ⟨#[]⟩, va, vk, .string ⟨#[]⟩] := hev;subst hev hva hvk;clear hv;go_wp2_with fail
  refine (HV.out _ (HR.out.rep.fresh (HF3.out.alloc _)) (by omega)).mono ?_;rintro _ w4 ⟨rfl, hf4⟩;rw [HVF.out];have HF4 := hid (HF3.out.trans (Touch.pre hf4));have hx := hf4.blk (Blk.new w3 30 _) (fun h => h);obtain ⟨p0, p1, p2, p3, _⟩ := Blk.four hx;have HRV := hid (HST.out _ ((Touch.pre hf4).mono fun _ h => h.elim));clear hf4 hx q0 q1 q2 q3;go_wp2_with fail
  refine (elEqual_any _ elNil elNil _ _ _ _ _ (Nat.le_refl _) HRV.out (elNil_rep _)).mono ?_;rintro _ w5 ⟨rfl, hf5⟩;have HF5 := hid (HF4.out.trans hf5);clear hf5;rw [El.eqE_self];go_wp2_with fail
  go_ret;exact ⟨rfl, HF5.out⟩
 | true =>
  have HS := hid (show markE n = El.elM n from by unfold markE; rw [hv]; rfl);have HE := hid (show markEr n = 0 from by unfold markEr; rw [hv]; rfl);have HVF := hid hv;have hv' := hv;unfold Tr.valid at hv';simp only [Bool.and_eq_true] at hv';have HRE := hid (fun (w : World) (h : RepC w n.kids (.slice A n.kids.length cap)) => reElement_any n hv'.1.1.2 hv'.1.1.1 _ w (by omega) h);clear hv hv';rw [HE.out];rw [HS.out] at hev HST;obtain ⟨Aa, ca, hva⟩ := HST.out.now.1.slice;obtain ⟨Ak, ck, hvk⟩ := HST.out.now.2.1.slice
  rcases hem : El.elM n with ⟨en, ea, ek, et⟩
  rw [hem] at hev hva hvk HST HRE;clear hem;unfold ev at hev;simp only [E.name, E.attrs, E.kids, E.text] at hev hva hvk;subst hev hva hvk;go_wp2_with fail
  refine (HV.out _ (HR.out.rep.fresh (HF3.out.alloc _)) (by omega)).mono ?_;rintro _ w4 ⟨rfl, hf4⟩;rw [HVF.out];have HF4 := hid (HF3.out.trans (Touch.pre hf4));have hx := hf4.blk (Blk.new w3 30 _) (fun h => h);have hb := (Touch.pre (o := _) hf4).blk HB3.out (fun h => h);have HRV := hid (HST.out _ ((Touch.pre hf4).mono fun _ h => h.elim));have HR4 := hid (HR.out.fresh HF4.out);obtain ⟨p0, p1, p2, p3, _⟩ := Blk.four hx;obtain ⟨r0, r1, r2, r3, _⟩ := Blk.four hb;clear hf4 q0 q1 q2 q3;go_wp2_with fail
  have k0 := cR p0;have k1 := cR p1;have k2 := cR p2;have k3 := cR p3;have j0 := cR r0;have j1 := cR r1;have j2 := cR r2;have j3 := cR r3;refine wp_region_mix [([(0, true), (1, true), (2, true), (3, true), (4, true), (5, false)], 6)] [(7, true), (8, true)] (by kernel_rfl) (fun _ _ d _ _ h => by cases d <;> exact h) (by kernel_rfl) ?_;refine wpMix_seg ?_
  repeat (refine wpSeq_plain rfl (fun K hK => ?_); go_simp; refine hK _ ?_; clear hK K)
  refine wpSeq_lone rfl (fun K hK => ?_);go_wp2_with fail
  refine (HRE.out _ (HR4.out.fresh frR)).mono ?_;rintro _ w5 ⟨u, rfl, ua, uk, hue, hf5, hst5⟩;obtain ⟨Ba, da, hua⟩ := hst5.now.1.slice;obtain ⟨Bk, dk, huk⟩ := hst5.now.2.1.slice;unfold ev at hue;simp only [E.name, E.attrs, E.kids, E.text] at hue hua huk;have HRU := hid hst5.now;have HF5 := hid (show Fresh w4 w5 from preA hf5);clear hst5 hf5 k0 k1 k2 k3 j0 j1 j2 j3 p0 p1 p2 p3 r0 r1 r2 r3;subst hue hua huk;go_wp2_with fail
  refine hK _ _ (growing_fresh HF5.out) ?_;clear hK K;refine wpSeq_shut rfl (fun K hK => ?_);go_wp2_with fail
  refine (elEqual_any _ (.mk en ea ek et) (.mk en ea ek et) _ _ _ _ _ (Nat.le_refl _) (HRV.out.fresh HF5.out) HRU.out).mono ?_;rintro _ w6 ⟨rfl, hf6⟩;have HF6 := hid (HF4.out.trans (HF5.out.trans hf6));clear hf6;rw [El.eqE_self];go_wp2_with fail
  refine wpMix_last ?_
  repeat (refine wpSeq_plain rfl (fun K hK => ?_); go_simp; refine hK _ ?_; clear hK K)
  refine wpSeq_end ?_;go_wp2_with fail
  go_ret;exact ⟨rfl, HF6.out⟩
theorem markupElement_lifted (os : Os) (started : os.Started) (H : Type) (enc : TypeId × Value → H) :
  ReturnsInHanded {} Try.checked os 3 .any (Rows.markupElementSpec.pre6 enc Try.prog Try.f3 Rows.markupElementRow.domain false) (Rows.markupElementSpec.post enc Try.prog Try.f3 false true false false) := by
 refine returnsInHanded_of_change (C := Try.checked) Try.ownKnob started (by kernel_rfl) Try.func3
  (ChangeSpec.witness6 (enc := enc) (C := Try.checked) false ⟨#[], #[.agg #[.int .i64 0, .string ⟨#[]⟩, .int .i64 0, .slice none 0 0]], []⟩ 8 (by kernel_rfl) (by kernel_rfl) (by kernel_rfl) (by kernel_rfl)) ?_
 intro W base args ds gs before hval0 hW hcnd _;have hval : ∀ (j : Nat) t v, Try.f3.params[j]? = some t → args[j]? = some v → Value.okWide Try.prog W .any base t v := hval0;have hW' := hW;obtain ⟨p, q, hA0, hV, rfl, hfz, hnd⟩ := hW;have hA : DataW.TrodAll enc Try.prog W 0 (fun _ => true) true Try.f3.params.toList args.toList ds p := hA0;rw [Try.params3] at hA hval;obtain ⟨v0, d0, rfl, rfl, h0⟩ := trodAll_one hA;obtain ⟨rfl, rfl⟩ := trodVars_none hV;obtain ⟨n0, s0, rfl, r0, t0⟩ := open_nodeC (hval 0 24 v0 rfl rfl) h0;refine (markupElement_any n0 s0 W r0 t0).mono fun e W' ⟨he, hw⟩ => ?_
 exact ⟨_, he, post_true Try.laidOut Try.underlying4 (by kernel_rfl) (by kernel_rfl) rfl rfl hW' hw⟩
theorem MarkupElement_holds : Rows.MarkupElementSaid :=
 OpenClaim.holds_of_wide 3 Try.f3 rfl rfl rfl rfl rfl rfl rfl ⟨rfl, rfl, rfl, rfl, rfl⟩ rfl rfl rfl rfl rfl (by kernel_rfl) Try.func3 (by kernel_rfl)
  (of_decide_eq_true (by kernel_rfl)) (by unfold Func.isWrapper; first | (rw [if_pos (by decide +kernel)]; kernel_rfl) | (rw [if_neg (by decide +kernel)]; exact ⟨rfl, rfl⟩))
  (fun os started H enc _ => markupElement_lifted os started H enc)
end Go.Proofs.Ytloipakdnalpdaa
