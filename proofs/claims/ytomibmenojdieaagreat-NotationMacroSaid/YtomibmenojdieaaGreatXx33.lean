/- Part 33 of 42 of a proof; its texts, joined: NmB, NmT. No condition. -/
import Derived.Test.YtomibmenojdieaaGreatXx32
import Derived.Test.YtomibmenojdieaaGreatXx21
import Derived.Test.YtomibmenojdieaaGreatXx30
import Derived.Test.YtomibmenojdieaaGreatXx9
set_option maxRecDepth 100000
set_option maxHeartbeats 4000000
namespace Go.Proofs.YtomibmenojdieaaGreat
open Go.RowKit
open Tr (Nd)
open Mcr (placeN plainR plainL)
attribute [local go_sem] stillV stillUpon
structure Pl (W0 : World) (g : Nat) (P : Int) (s : Nat × Bool) (w : World) : Prop where
 fr : Fresh W0 w
 blk : Blk w g 95 #[.int .i64 P, .int .i64 (s.1 : Int), .bool s.2]
 le : W0.heap.size ≤ g
theorem Pl.move {W0 w w' : World} {g : Nat} {P : Int} {s : Nat × Bool} {X : Nat → Prop} (h : Pl W0 g P s w) (ht : Touch X w w') (hg : ¬ X g) (hX : ∀ k, X k → W0.heap.size ≤ k) : Pl W0 g P s w' :=
 ⟨h.fr.trans' ht fun k hk => .inr (hX k hk), ht.blk h.blk hg, h.le⟩
theorem Pl.fresh {W0 w w' : World} {g : Nat} {P : Int} {s : Nat × Bool} (h : Pl W0 g P s w) (hf : Fresh w w') : Pl W0 g P s w' := h.move hf (fun h => h) fun _ h => h.elim
theorem Pl.three {W0 w : World} {g : Nat} {P : Int} {s : Nat × Bool} (h : Pl W0 g P s w) : w.cell? ⟨g, 0, none⟩ = some (.int .i64 P) ∧ w.cell? ⟨g, 1, none⟩ = some (.int .i64 (s.1 : Int)) ∧ w.cell? ⟨g, 2, none⟩ = some (.bool s.2) ∧
  w.frozen? ⟨g, 1, none⟩ = false ∧ w.frozen? ⟨g, 2, none⟩ = false ∧ g < w.heap.size := ⟨h.blk.cell 0, h.blk.cell 1, h.blk.cell 2, h.blk.frozen 1, h.blk.frozen 2, h.blk.lt⟩
structure NdAt (W0 : World) (n : Nd) (gn o : Nat) (sl : Value) : Prop where
 lt : gn < W0.heap.size
 c0 : W0.cell? ⟨gn, o, none⟩ = some (.int .i64 n.kind)
 c1 : W0.cell? ⟨gn, o + 1, none⟩ = some (.string ⟨n.text.toArray⟩)
 c2 : W0.cell? ⟨gn, o + 2, none⟩ = some (.int .i64 n.cols)
 c3 : W0.cell? ⟨gn, o + 3, none⟩ = some sl
 kids : RepL W0 n.kids sl
 tl : n.text.length ≤ maxLen
def PlE (W0 : World) (g : Nat) (P : Int) (R : Nd × (Nat × Bool)) (w : World) (e : Ending) (w' : World) : Prop := ∃ s', e = .returned (nv R.1 s') ∧ Touch (fun k => k = g) w w' ∧
  R.1.text.length ≤ maxLen ∧ TreT w.heap.size w' R.1.kids s' ∧ Pl W0 g P R.2 w' ∧ (R.2.2 = true → R.2.1 ≤ 1000)
def PlC (W0 : World) (g : Nat) (P : Int) (n : Nd) : Prop := ∀ (d m gn o : Nat) (sl : Value) (w : World), d ≤ 25 → m ≤ 1000 → NdAt W0 n gn o sl → Pl W0 g P (m, true) w →
 Calls Tryz.prog 37 #[.pointer (some ⟨g, 0, none⟩), .pointer (some ⟨gn, o, none⟩), .int .i64 (d : Int)] w (PlE W0 g P (plainR P d n (m, true)) w)
theorem plainL_stop (P : Int) (d : Nat) (ks : List Nd) (m : Nat) : plainL P d ks (m, false) = ([], (m, false)) := by
 cases ks with
 | nil => rw [plainL]
 | cons x xs => rw [plainL, if_pos rfl]
theorem plainL_step (P : Int) (d : Nat) (x : Nd) (xs : List Nd) (m : Nat) : plainL P d (x :: xs) (m, true) = ((plainR P d x (m, true)).1 :: (plainL P d xs (plainR P d x (m, true)).2).1, (plainL P d xs (plainR P d x (m, true)).2).2) := by
 rw [plainL, if_neg (by decide)]
theorem plainer_step (W0 : World) (g : Nat) (P : Int) (n : Nd) (ih : ∀ x ∈ n.kids, PlC W0 g P x) : PlC W0 g P n := by
 intro d m gn o sl w hd hm hat hpl;have HIH := hid ih;have HAT := hid hat;have HPL := hid hpl;obtain ⟨R, hR⟩ : ∃ R, R = plainR P d n (m, true) := ⟨_, rfl⟩;rw [← hR];obtain ⟨A, cap, hsl⟩ := hat.kids.slice;subst hsl;obtain ⟨kd, tx, cl, ks⟩ := n;simp only [Nd.kids] at *;have hgl := hpl.blk.lt;have hgng : gn ≠ g := by have := hat.lt; have := hpl.le; omega
 have hgnl : gn < w.heap.size := Nat.lt_of_lt_of_le hat.lt hpl.fr.size;obtain ⟨m1, hm1⟩ : ∃ m1, m1 = m + 1 := ⟨_, rfl⟩;obtain ⟨d1, hd1⟩ : ∃ d1, d1 = d + 1 := ⟨_, rfl⟩;have hwm : IntKind.i64.wrap ((m : Int) + 1) = (m1 : Int) := by rw [IntWalk.i64_in _ (by omega)]; omega
 have hwd : IntKind.i64.wrap ((d : Int) + 1) = (d1 : Int) := by rw [IntWalk.i64_in _ (by omega)]; omega
 obtain ⟨p0, p1, p2, f1, f2, hg⟩ := hpl.three;simp only at p1 p2;obtain ⟨z1, hz1⟩ : ∃ z1 : Bool, z1 = match placeN (.mk kd tx cl ks) with | some j => decide ((j : Int) ≤ P) | none => true := ⟨_, rfl⟩
 obtain ⟨t1, ht1⟩ : ∃ t1 : List UInt8, t1 = if (placeN (.mk kd tx cl ks)).isSome then [120] else tx := ⟨_, rfl⟩
 have HRE := hid (show R = if 1000 < m1 ∨ 24 < d then (.mk 0 [] 0 [], (m1, false)) else (.mk kd t1 cl (plainL P d1 ks (m1, z1)).1, (plainL P d1 ks (m1, z1)).2) by
  rw [hR, plainR, hm1, hd1, hz1, ht1];cases placeN (.mk kd tx cl ks) <;> rfl)
 clear hR ih hat
 have HPL2 := hid (show Pl W0 g P (m1, true) (w.setCell ⟨g, 1, none⟩ (.int .i64 (m1 : Int))) from
  ⟨HPL.out.fr.setCell (p := ⟨g, 1, none⟩) (.inr HPL.out.le) _, HPL.out.blk.put 1 _, HPL.out.le⟩)
 have HT2 := hid ((Touch.refl (fun k => k = g) w).setCell (p := ⟨g, 1, none⟩) (.inl rfl) (.int .i64 (m1 : Int)))
 have hways : ((decide ((1000 : Int) < (m1 : Int)) = true ∨ (decide ((1000 : Int) < (m1 : Int)) = false ∧ decide ((24 : Int) < (d : Int)) = true)) ∧ R = (.mk 0 [] 0 [], (m1, false))) ∨
   (decide ((1000 : Int) < (m1 : Int)) = false ∧ decide ((24 : Int) < (d : Int)) = false ∧ m1 ≤ 1000 ∧ d ≤ 24 ∧ R = (.mk kd t1 cl (plainL P d1 ks (m1, z1)).1, (plainL P d1 ks (m1, z1)).2)) := by
  by_cases h1 : 1000 < m1
  ·exact .inl ⟨.inl (dT (by omega)), HRE.out.trans (if_pos (.inl h1))⟩
  ·by_cases h2 : 24 < d
   ·exact .inl ⟨.inr ⟨dF (by omega), dT (by omega)⟩, HRE.out.trans (if_pos (.inr h2))⟩
   ·exact .inr ⟨dF (by omega), dF (by omega), by omega, by omega, HRE.out.trans (if_neg (by omega))⟩
 have HZ1 := hid hz1;have HTX := hid ht1;have HMD := hid (show m ≤ 1000 ∧ d ≤ 25 from ⟨hm, hd⟩);have HM1 := hid hm1;have HD1 := hid hd1;clear HRE hm1 hd1 hpl hz1 ht1 hm hd
 rcases hways with ⟨hx | ⟨hx, hy⟩, hr⟩ | ⟨hx, hy, hm2, hd2, hr⟩
 rotate_left
 rotate_left
 focus
  have HR2 := hid hr;have HM2 := hid (show m1 ≤ 1000 ∧ d ≤ 24 from ⟨hm2, hd2⟩);clear hm2 hd2 hr;go_enter Tryz.func37, Tryz.ntmps37;go_wp2_with fail
  have HBR := hid (show Blk ((w.setCell ⟨g, 1, none⟩ (.int .i64 (m1 : Int))).alloc (.cells #[.int .i64 0, .string ⟨#[]⟩, .int .i64 0, .slice none 0 0] 35)) w.heap.size 35 #[.int .i64 0, .string ⟨#[]⟩, .int .i64 0, .slice none 0 0] by
   have h := Blk.new (w.setCell ⟨g, 1, none⟩ (.int .i64 (m1 : Int))) 35 #[.int .i64 0, .string ⟨#[]⟩, .int .i64 0, .slice none 0 0]
   rwa [show (w.setCell ⟨g, 1, none⟩ (.int .i64 (m1 : Int))).heap.size = w.heap.size by simp] at h)
  have HT3 := hid (HT2.out.alloc (.cells #[.int .i64 0, .string ⟨#[]⟩, .int .i64 0, .slice none 0 0] 35));have HP3 := hid (HPL2.out.fresh ((Touch.refl _ _).alloc (.cells #[.int .i64 0, .string ⟨#[]⟩, .int .i64 0, .slice none 0 0] 35)));generalize ((w.setCell ⟨g, 1, none⟩ (.int .i64 (m1 : Int))).alloc (.cells #[.int .i64 0, .string ⟨#[]⟩, .int .i64 0, .slice none 0 0] 35)) = W3 at HBR HT3 HP3 ⊢;have HL3 := hid (show w.heap.size < W3.heap.size from HBR.out.lt);have a0 : W3.cell? ⟨gn, o, none⟩ = some (.int .i64 kd) := HP3.out.fr.cell HAT.out.c0 (fun h => h);have a1 : W3.cell? ⟨gn, o + 1, none⟩ = some (.string ⟨tx.toArray⟩) := HP3.out.fr.cell HAT.out.c1 (fun h => h);have a2 : W3.cell? ⟨gn, o + 2, none⟩ = some (.int .i64 cl) := HP3.out.fr.cell HAT.out.c2 (fun h => h);have r0 := cR (a0.trans rfl);have r1 := cR (a1.trans rfl);have r2 := cR (a2.trans rfl);clear a0 a1 a2;refine wp_region_mix [([(0, true), (1, true), (2, true), (3, true), (4, true), (5, true), (6, true), (7, true), (8, true), (9, true), (10, true), (11, true), (12, true), (13, false)], 14)] [] (by kernel_rfl) (fun _ _ d _ _ h => by cases d <;> exact h) (by kernel_rfl) ?_;refine wpMix_seg ?_
  repeat (refine wpSeq_plain rfl (fun K hK => ?_); go_simp; refine hK _ ?_; clear hK K)
  refine wpSeq_lone rfl (fun K hK => ?_);go_wp2_with fail
  refine hK _ _ (growing_fresh (((Touch.refl (fun _ => False) _).drewN 1).alloc _)) ?_;clear hK K;have HF4 := hid (((Touch.refl (fun _ => False) W3).drewN 1).alloc (.cells #[.int .i64 0, .string ⟨#[]⟩, .int .i64 0, .slice none 0 0] 35));have HBM := hid (show Blk ((W3.drewN 1).alloc (.cells #[.int .i64 0, .string ⟨#[]⟩, .int .i64 0, .slice none 0 0] 35)) W3.heap.size 35 #[.int .i64 0, .string ⟨#[]⟩, .int .i64 0, .slice none 0 0] from Blk.new (W3.drewN 1) 35 _);generalize ((W3.drewN 1).alloc (.cells #[.int .i64 0, .string ⟨#[]⟩, .int .i64 0, .slice none 0 0] 35)) = W4 at HF4 HBM ⊢;obtain ⟨p0, p1, p2, p3, y0, y1, y2, y3, hlt4⟩ := Blk.four HBM.out;refine wpSeq_shut rfl (fun K hK => ?_);go_wp2_with fail
  refine wpMix_end ?_;have n5 := HBM.out.self4 (.int .i64 kd) (.string ⟨tx.toArray⟩) (.int .i64 cl) (.slice none 0 0);have hf5 := HF4.out.put4 (g := W3.heap.size) (.inr (Nat.le_refl _)) (.int .i64 kd) (.string ⟨tx.toArray⟩) (.int .i64 cl) (.slice none 0 0);have hsz5 : (put4 W4 W3.heap.size (.int .i64 kd) (.string ⟨tx.toArray⟩) (.int .i64 cl) (.slice none 0 0)).heap.size = W4.heap.size := by simp [put4]
  simp only [put4] at n5 hf5 hsz5;generalize (World.setCell (World.setCell (World.setCell (World.setCell W4 ⟨W3.heap.size, 0, none⟩ _) ⟨W3.heap.size, 1, none⟩ _) ⟨W3.heap.size, 2, none⟩ _) ⟨W3.heap.size, 3, none⟩ _) = W5 at n5 hf5 hsz5 ⊢;have HBM5 := hid n5;have HF5 := hid hf5;clear n5 hf5 hsz5 p0 p1 p2 p3 y0 y1 y2 y3 hlt4 HBM HF4;have a0 : W5.cell? ⟨gn, o, none⟩ = some (.int .i64 (Nd.mk kd tx cl ks).kind) := (HP3.out.fr.trans HF5.out).cell HAT.out.c0 (fun h => h);have a1 : W5.cell? ⟨gn, o + 1, none⟩ = some (.string ⟨(Nd.mk kd tx cl ks).text.toArray⟩) := (HP3.out.fr.trans HF5.out).cell HAT.out.c1 (fun h => h);have a2 : W5.cell? ⟨gn, o + 2, none⟩ = some (.int .i64 (Nd.mk kd tx cl ks).cols) := (HP3.out.fr.trans HF5.out).cell HAT.out.c2 (fun h => h);have a3 : W5.cell? ⟨gn, o + 3, none⟩ = some (.slice A (Nd.mk kd tx cl ks).kids.length cap) := (HP3.out.fr.trans HF5.out).cell HAT.out.c3 (fun h => h);have HPC := hid (place_any (.mk kd tx cl ks) gn o cap A W5 a0 a1 a2 a3);clear a0 a1 a2 a3;go_wp2_with fail
  refine HPC.out.mono ?_;rintro _ w6 ⟨kp, rfl, hkp, rfl⟩;have HKP := hid hkp;clear hkp HPC;have HBR5 := hid (HF5.out.blk HBR.out fun h => h);have HT5 := hid (HT3.out.trans (HF5.out.mono fun _ h => h.elim));have HP5 := hid (HP3.out.fresh HF5.out);have HL5 := hid (show w.heap.size < W3.heap.size ∧ W3.heap.size < w6.heap.size from ⟨HL3.out, HBM5.out.lt⟩);clear HBR HT3 HP3 HF5 HL3;have HGN := hid (show gn < W0.heap.size ∧ W0.cell? ⟨gn, o + 3, none⟩ = some (.slice A ks.length cap) from ⟨HAT.out.lt, HAT.out.c3⟩);have HD7 := hid (show W3.heap.size ≠ g ∧ w.heap.size ≠ g from ⟨by have := HL5.out.1; omega, by omega⟩)
  rcases hp : placeN (.mk kd tx cl ks) with _ | j
  focus
   have hz : z1 = true := by rw [HZ1.out, hp]
   have ht : t1 = tx := by rw [HTX.out, hp]; rfl
   have a3 : w6.cell? ⟨gn, o + 3, none⟩ = some (.slice A ks.length cap) := HP5.out.fr.cell HGN.out.2 (fun h => h);have HBM7 := hid (show Blk w6 W3.heap.size 35 #[.int .i64 kd, .string ⟨t1.toArray⟩, .int .i64 cl, .slice none 0 0] by rw [ht]; exact HBM5.out);have HP7 := hid (show Pl W0 g P (m1, z1) w6 by rw [hz]; exact HP5.out);have HTL := hid (show t1.length ≤ maxLen by rw [ht]; exact HAT.out.tl);have HT7 := hid (show Touch (fun k => k = g ∨ k = W3.heap.size) w w6 from HT5.out.mono fun _ h => .inl h);have HBR7 := HBR5;clear HBM5 HP5 HKP HZ1 HTX hp hz ht HT5 HBR5;go_wp2_with fail
   clear a3;generalize w6 = wl at HBM7 HP7 HT7 HBR7 HL5 ⊢
  rotate_left
  focus
   obtain ⟨hk, hj1, hj4⟩ := HKP.out j hp;subst hk;have hz : z1 = decide ((j : Int) ≤ P) := by rw [HZ1.out, hp]
   have ht : t1 = [120] := by rw [HTX.out, hp]; rfl
   obtain ⟨b0, b1, b2, b3, y0, y1, y2, y3, hlb⟩ := Blk.four HBM5.out;obtain ⟨p0, p1, p2, f1, f2, hg⟩ := HP5.out.three;have a3 : w6.cell? ⟨gn, o + 3, none⟩ = some (.slice A ks.length cap) := HP5.out.fr.cell HGN.out.2 (fun h => h);have hnz : gn ≠ W3.heap.size := by have := HGN.out.1; have := HP5.out.le; have := HL5.out; omega
   have hd7 := HD7.out.1;have hd8 : g ≠ W3.heap.size := fun e => hd7 e.symm
   have HBM7 := hid (show Blk ((w6.setCell ⟨W3.heap.size, 1, none⟩ (.string ⟨#[120]⟩)).setCell ⟨g, 2, none⟩ (.bool (decide ((j : Int) ≤ P)))) W3.heap.size 35 #[.int .i64 kd, .string ⟨t1.toArray⟩, .int .i64 cl, .slice none 0 0] by
    rw [ht];exact (HBM5.out.put 1 (.string ⟨#[120]⟩)).far (p := ⟨g, 2, none⟩) hd7 _)
   have HP7 := hid (show Pl W0 g P (m1, z1) ((w6.setCell ⟨W3.heap.size, 1, none⟩ (.string ⟨#[120]⟩)).setCell ⟨g, 2, none⟩ (.bool (decide ((j : Int) ≤ P)))) by
    rw [hz];exact ⟨(HP5.out.fr.setCell (p := ⟨W3.heap.size, 1, none⟩) (.inr (by have := HP5.out.le; have := HL5.out; show W0.heap.size ≤ W3.heap.size; omega)) _).setCell (p := ⟨g, 2, none⟩) (.inr HP5.out.le) _, (HP5.out.blk.far (p := ⟨W3.heap.size, 1, none⟩) hd8 _).put 2 _, HP5.out.le⟩)
   have HTL := hid (show t1.length ≤ maxLen by rw [ht]; simp [maxLen]);have HT7 := hid (show Touch (fun k => k = g ∨ k = W3.heap.size) w ((w6.setCell ⟨W3.heap.size, 1, none⟩ (.string ⟨#[120]⟩)).setCell ⟨g, 2, none⟩ (.bool (decide ((j : Int) ≤ P)))) from ((HT5.out.mono fun _ h => .inl h).setCell (p := ⟨W3.heap.size, 1, none⟩) (.inl (.inr rfl)) _).setCell (p := ⟨g, 2, none⟩) (.inl (.inl rfl)) _);have HBR7 := hid ((HBR5.out.far (p := ⟨W3.heap.size, 1, none⟩) (by have h := HL5.out.1; show w.heap.size ≠ W3.heap.size; omega) (.string ⟨#[120]⟩)).far (p := ⟨g, 2, none⟩) HD7.out.2 (.bool (decide ((j : Int) ≤ P))));have HL7 : w.heap.size < W3.heap.size ∧ W3.heap.size < ((w6.setCell ⟨W3.heap.size, 1, none⟩ (.string ⟨#[120]⟩)).setCell ⟨g, 2, none⟩ (.bool (decide ((j : Int) ≤ P)))).heap.size := ⟨HL5.out.1, HBM7.out.lt⟩;clear HKP hp HZ1 HTX;go_wp2_with fail
   clear HL5;have HL5 := hid HL7;clear HL7;generalize ((w6.setCell ⟨W3.heap.size, 1, none⟩ (.string ⟨#[120]⟩)).setCell ⟨g, 2, none⟩ (.bool (decide ((j : Int) ≤ P)))) = wl at HBM7 HP7 HT7 HBR7 HL5 ⊢;clear HBM5 HP5 hz ht HT5 HBR5 b0 b1 b2 b3 y0 y1 y2 y3 hlb p0 p1 p2 f1 f2 hg a3 hnz hd7 hd8 hj1 hj4
  all_goals
   have HT8 := hid (show Touch (fun k => k = g) w wl from (Touch.refl (fun k => k = g) w).trans' HT7.out fun k hk => hk.elim .inl fun h => .inr (by have := HL5.out.1; omega));have HG8 := hid (Grow.nil (fun k => k = w.heap.size ∨ k = W3.heap.size) wl w.heap.size wl.heap.size);have HWW := hid (show W0.heap.size ≤ w.heap.size from HPL.out.fr.size);have HSB := hid (show w.heap.size + 1 ≤ wl.heap.size by have := HL5.out; omega);have HZ0 := hid (show z1 = true → m1 ≤ 1000 ∧ 0 ≤ m1 from fun _ => ⟨HM2.out.1, Nat.zero_le _⟩);clear HT7 HT2 HPL2
   go_loopw [71] (fun i wr0 => ∃ (wr : World) (j : Nat) (A' : Option Addr) (cp : Nat) (ns : List Nd) (sm : Nat) (sz : Bool), wr = wr0 ∧ i = .int .i64 j ∧ j ≤ ks.length ∧ Hid (ns.length = j) ∧ Hid (Blk wr w.heap.size 35 #[.int .i64 0, .string ⟨#[]⟩, .int .i64 0, .slice none 0 0]) ∧ Hid (Blk wr W3.heap.size 35 #[.int .i64 kd, .string ⟨t1.toArray⟩, .int .i64 cl, .slice A' j cp]) ∧ Hid (Grow (fun k => k = w.heap.size ∨ k = W3.heap.size) wr w.heap.size wl.heap.size ns (.slice A' j cp)) ∧ Hid (Touch (fun k => k = g) w wr) ∧ Hid (Pl W0 g P (sm, sz) wr) ∧ Hid (sz = true → sm ≤ 1000 ∧ j ≤ sm) ∧ Hid (wl.heap.size ≤ wr.heap.size) ∧ Hid (plainL P d1 ks (m1, z1) = (ns ++ (plainL P d1 (ks.drop j) (sm, sz)).1, (plainL P d1 (ks.drop j) (sm, sz)).2))) (fun i _ => ks.length - (intOf i).toNat)
   case atStart => exact ⟨_, 0, none, 0, [], m1, z1, rfl, rfl, Nat.zero_le _, hid rfl, HBR7, HBM7, HG8, HT8, HP7, HZ0, hid (Nat.le_refl _), hid (by rw [List.drop_zero, List.nil_append])⟩
   case round =>
    clear HBR7 HBM7 HG8 HT8 HP7 HZ0;obtain ⟨wr, j, A', cp, ns, sm, sz, rfl, rfl, hj, HNL, HBR, HBM, HG, HT, HP, HZM, HSW, HEQ⟩ := hrel
    by_cases c1 : j < ks.length
    ·have d1' : decide ((j : Int) < (ks.length : Int)) = true := dT (by omega)
     have d1n : decide (j < ks.length) = true := dT c1;have d1i : (j : Int) < (ks.length : Int) := by omega
     obtain ⟨p0, p1, p2, f1, f2, hg⟩ := HP.out.three;cases sz with
     | false =>
      have HFIN := hid (show R = (.mk kd t1 cl ns, (sm, false)) by rw [HR2.out, HEQ.out, plainL_stop, List.append_nil]);clear HEQ;obtain ⟨m0, m1', m2', m3', _, _, _, _, hlm⟩ := Blk.four HBM.out;obtain ⟨q0, q1, q2, q3, z0, z1', z2, z3, hlr⟩ := Blk.four HBR.out;have hab := HL5.out.1;have hab' : w.heap.size ≠ W3.heap.size := by omega
      go_wp2_with fail
      have n1 := HBR.out.self4 (.int .i64 kd) (.string ⟨t1.toArray⟩) (.int .i64 cl) (.slice A' j cp);have hf := HT.out.put4 (g := w.heap.size) (.inr (Nat.le_refl _)) (.int .i64 kd) (.string ⟨t1.toArray⟩) (.int .i64 cl) (.slice A' j cp);have ht := touch4 wr w.heap.size (.int .i64 kd) (.string ⟨t1.toArray⟩) (.int .i64 cl) (.slice A' j cp);have hg9 := (HG.out.mv ht (by have := HSB.out; omega) (fun k hk => by have := HSB.out; have := HL5.out; rcases hk with rfl | rfl <;> omega) (fun k hk => .inl (.inl hk))).tree (by have := HSB.out; omega);have hp9 := HP.out.move ht (fun e => HD7.out.2 e.symm) (fun k hk => by have h := HP.out.fr.size; have := HWW.out; rw [hk]; exact HWW.out);simp only [put4] at n1 hf hg9 hp9;obtain ⟨g0, g1, g2, g3, _⟩ := Blk.four n1
      (try simp only [Exit.inBlock, Exit.then])
      refine bodyPost_ret (v := .agg #[.int .i64 kd, .string ⟨t1.toArray⟩, .int .i64 cl, .slice A' j cp]) (by simp [results, Tryz.results37, go_sem, g0, g1, g2, g3]) rfl ?_;rw [HFIN.out];exact ⟨_, rfl, hf, HTL.out, hg9, hp9, fun h => (HZM.out h).1⟩
     | true =>
      obtain ⟨hm1000, hjs⟩ := HZM.out rfl;obtain ⟨gk, ok, slk, rfl, hgk, e0, e1, e2, e3, e4⟩ := HAT.out.kids.get j c1;have HNA := hid (show NdAt W0 ks[j] gk (ok + j * 4) slk from ⟨hgk, e0, e1, e2, e3, e4, HAT.out.kids.texts j c1⟩);have HC := hid (HIH.out ks[j] (List.getElem_mem c1))
      have HEQ2 := hid (show plainL P d1 ks (m1, z1) = ((ns ++ [(plainR P d1 ks[j] (sm, true)).1]) ++ (plainL P d1 (ks.drop (j + 1)) (plainR P d1 ks[j] (sm, true)).2).1, (plainL P d1 (ks.drop (j + 1)) (plainR P d1 ks[j] (sm, true)).2).2) by
       rw [HEQ.out, List.drop_eq_getElem_cons c1, plainL_step, List.append_assoc]; rfl)
      clear HEQ e0 e1 e2 e3 e4 hgk;generalize ks[j] = x at *;have HM0 := hid (And.intro hm1000 hjs);have a3 : wr.cell? ⟨gn, o + 3, none⟩ = some (.slice (some ⟨gk, ok, none⟩) ks.length cap) := HP.out.fr.cell HGN.out.2 (fun h => h);have hjb : j ≤ 140737488355328 := by omega
      go_wp2_with fail
      have k3 := cT (S := fun k => k = g) ((HBM.out.cell 3).trans rfl) HD7.out.1;have y3 := cT (S := fun k => k = g) a3 hgng;clear a3 p0 p1 p2 f1 f2 hg d1' d1n
      refine wp_region_planC (fun W => ∃ x : Turned (fun k => k = g) wr, W = x.W) (Plan.of [(0, true), (1, true), (2, true), (3, true), (4, true), (5, true), (6, true), (7, true), (8, true), (9, true), (10, true)] (.lone 11 (.lone 12 .nil))) [0, 1, 2, 3, 4, 5, 6, 7, 8, 9, 10, 11, 12] 13 (Array.replicate 13 true ++ Array.replicate 3 false) (fun _ => True) (Plan.of [(14, true)] (.lone 15 .nil)) [14, 15] (Array.replicate 16 true)
       (by kernel_rfl) (fun _ _ d _ _ h => by cases d <;> exact h) (by kernel_rfl) ⟨⟨_, (Touch.refl _ _).drewN 1⟩, rfl⟩ ?_
      unfold Plan.of
      repeat (refine wpPlan_plain rfl (fun K hK => ?_); go_simp; refine hK _ ?_; clear hK K; first | done | unfold Plan.of)
      clear k3 y3;refine wpPlan_lone rfl (fun K hK => ?_);go_wp2_with fail
      refine (HC.out d1 sm gk (ok + j * 4) slk (wr.drewN 1) (by have := HD1.out; have := HM2.out; omega) HM0.out.1 HNA.out (HP.out.fresh ((Touch.refl _ _).drewN 1))).mono ?_;rintro _ v6 ⟨s6, rfl, ht6, htl6, htr6, hp6, hz6⟩;have HCNT := hid (Mcr.plainR_cnt P x d1 sm true);have HT6 := hid (show Touch (fun k => k = g) wr v6 from ((Touch.refl _ wr).drewN 1).trans ht6);have HTR6 := hid (show TreT wr.heap.size v6 (plainR P d1 x (sm, true)).1.kids s6 from htr6);have HTL6 := hid htl6;have HP6 := hid hp6;have HZ6 := hid hz6;obtain ⟨Ak, ck, rfl⟩ := htr6.slice;clear ht6 htr6 htl6 hp6 hz6 HC HNA;generalize plainR P d1 x (sm, true) = RR at *;obtain ⟨xm, sm', sz'⟩ := RR;simp only at *;go_wp2_with fail
      refine hK _ _ ⟨⟨_, HT6.out⟩, rfl⟩ ?_;clear hK K;refine wpPlan_lone rfl (fun K hK => ?_);go_wp2_with fail
      refine hK _ _ ⟨⟨_, HT6.out.alloc _⟩, rfl⟩ ?_;clear hK K;have HBV := hid (Blk.new v6 35 #[.int .i64 xm.kind, .string ⟨xm.text.toArray⟩, .int .i64 xm.cols, .slice Ak xm.kids.length ck]);have HT7 := hid (HT6.out.alloc (.cells #[.int .i64 xm.kind, .string ⟨xm.text.toArray⟩, .int .i64 xm.cols, .slice Ak xm.kids.length ck] 35));have HF7 := hid (show Fresh v6 (v6.alloc (.cells #[.int .i64 xm.kind, .string ⟨xm.text.toArray⟩, .int .i64 xm.cols, .slice Ak xm.kids.length ck] 35)) from (Touch.refl _ v6).alloc _);generalize (v6.alloc (.cells #[.int .i64 xm.kind, .string ⟨xm.text.toArray⟩, .int .i64 xm.cols, .slice Ak xm.kids.length ck] 35)) = v7 at HBV HT7 HF7 ⊢;have HG7 := hid (HG.out.mv HT7.out (by have := HSB.out; omega) (fun k hk => by have := HSB.out; have := HL5.out; rcases hk with rfl | rfl <;> omega) (fun k hk => .inr (.inl (by omega))));have HTR7 := hid (HTR6.out.fresh HF7.out);have HP7 := hid (HP6.out.fresh HF7.out);have HBR7 := hid (HT7.out.blk HBR.out HD7.out.2);have HBM7 := hid (HT7.out.blk HBM.out HD7.out.1);obtain ⟨ii, hi, hz0, hz1', hz2⟩ := info_parts (show (Tryz.prog.info? 35).map (fun i => (i.zero, i.size, i.bytes)) = some (some (.agg #[.int .i64 0, .string ⟨#[]⟩, .int .i64 0, .slice none 0 0]), 4, 56) by kernel_rfl)
      have HOW := hid (show ∀ k, (Value.slice A' j cp).ownBlock = some k → k < wr.heap.size from fun k hk => by
       obtain ⟨cs, h1, _⟩ := HG.out;obtain ⟨_, cur, h4⟩ := owns_type h1 hk;exact (Array.getElem?_eq_some_iff.1 h4).1)
      have HLN := hid (show ns.length < 2 ^ 40 by have := HNL.out; have := HM0.out; omega);have HNL2 := hid (show ns.length + 1 = j + 1 by have := HNL.out; omega);have HWR := hid (show wl.heap.size ≤ wr.heap.size ∧ wr.heap.size ≤ v7.heap.size from ⟨HSW.out, HT7.out.size⟩);refine wpPlan_shut2 rfl (fun K hK => ?_)
      go_wp2_with (at_builtin; go_loud (refine wpList_append_grow rfl (.tmp 81) (.tmp 92) rfl ii _ hi hz0 hz1' hz2 rfl (B0 := w.heap.size) (B := wl.heap.size) (B1 := wr.heap.size) (ks := ns) (v := .slice A' j cp) (y := .slice (some ⟨v6.heap.size, 0, none⟩) 1 1) HG7.out (by simp [Act.eval]) xm (.slice Ak xm.kids.length ck) (by simp [Act.eval]) (Src.of_blk HBV.out rfl) HTR7.out (by have := HWR.out; have := HSB.out; omega) (fun k hk => by have := HWR.out; have := HL5.out; rcases hk with rfl | rfl <;> omega) HOW.out HTL6.out HLN.out (by have := HWR.out; omega) ?_); intro A8 c8 w8 hg8 ht8; refine Stay.mk ?_)
      have HG8 := hid hg8;have HBR8 := hid (ht8.blk1 HBR7.out (by have := HSB.out; omega));have HBM8 := hid (ht8.blk1 HBM7.out (by have := HL5.out; omega));have HP8 := hid (HP7.out.move ht8 (fun h => by have := h.1; have := HSB.out; have := HL5.out; omega) (fun k hk => by have := hk.1; have := HWW.out; have := HSB.out; omega));have HT9 := hid (show Touch (fun k => k = g) w w8 from (HT.out.trans HT7.out).trans' ht8 fun k hk => .inr (by have := hk.1; have := HSB.out; omega));have HWR8 := hid (show wl.heap.size ≤ w8.heap.size by have := ht8.size; have := HWR.out; omega)
      have HZ8 := hid (show sz' = true → sm' ≤ 1000 ∧ j + 1 ≤ sm' from fun h => ⟨HZ6.out h, by
       have h1 := (HCNT.out h).2.1;have h2 := Tr.count_kids x;have h3 := HM0.out.2;omega⟩)
      clear hg8 ht8;obtain ⟨q0, q1, q2, q3, z0, z1', z2, z3, hlt8⟩ := Blk.four HBM8.out;rw [HNL.out] at HG8
      (try rw [HNL.out])
      refine Stay.go ?_;go_wp2_with fail
      refine hK _ _ trivial ?_;clear hK K
      repeat (refine wpPlan_plain rfl (fun K hK => ?_); go_simp; refine hK _ ?_; clear hK K)
      refine wpPlan_lone rfl (fun K hK => ?_);go_wp2_with fail
      refine hK _ _ trivial ?_;clear hK K;refine wpPlan_nil ?_;go_wp2_with fail
      have hts := (Touch.refl (fun k => k = W3.heap.size) w8).setCell (p := ⟨W3.heap.size, 3, none⟩) (.inl rfl) (.slice A8 (j + 1) c8)
      exact ⟨⟨_, j + 1, A8, c8, ns ++ [xm], sm', sz', rfl, by simp, by omega, hid (by rw [List.length_append, HNL.out]; rfl), hid (HBR8.out.far (p := ⟨W3.heap.size, 3, none⟩) (by have := HL5.out; show w.heap.size ≠ W3.heap.size; omega) _), hid (HBM8.out.put 3 _), hid (HG8.out.mv hts (by have := HSB.out; omega) (fun k hk => by have := HSB.out; have := HL5.out; rcases hk with rfl | rfl <;> omega) (fun k hk => .inl (.inr hk))), hid (HT9.out.setCell (p := ⟨W3.heap.size, 3, none⟩) (.inr (by have := HL5.out; show w.heap.size ≤ W3.heap.size; omega)) _),
       hid (HP8.out.move hts (fun e => HD7.out.1 e.symm) (fun k hk => by rw [hk]; have := HWW.out; have := HL5.out; omega)), HZ8, hid (by have := hts.size; have := HWR8.out; omega), HEQ2⟩, by simp [intOf]; omega⟩
    ·have d1' : decide ((j : Int) < (ks.length : Int)) = false := dF (by omega)
     have d1n : decide (j < ks.length) = false := dF c1
     have HFIN := hid (show R = (.mk kd t1 cl ns, (sm, sz)) by
      rw [HR2.out, HEQ.out, List.drop_of_length_le (by omega), plainL, List.append_nil])
     clear HEQ;obtain ⟨m0, m1', m2', m3', _, _, _, _, hlm⟩ := Blk.four HBM.out;obtain ⟨q0, q1, q2, q3, z0, z1', z2, z3, hlr⟩ := Blk.four HBR.out;have hab := HL5.out.1;have hab' : w.heap.size ≠ W3.heap.size := by omega
     go_wp2_with fail
     have n1 := HBR.out.self4 (.int .i64 kd) (.string ⟨t1.toArray⟩) (.int .i64 cl) (.slice A' j cp);have hf := HT.out.put4 (g := w.heap.size) (.inr (Nat.le_refl _)) (.int .i64 kd) (.string ⟨t1.toArray⟩) (.int .i64 cl) (.slice A' j cp);have ht := touch4 wr w.heap.size (.int .i64 kd) (.string ⟨t1.toArray⟩) (.int .i64 cl) (.slice A' j cp);have hg9 := (HG.out.mv ht (by have := HSB.out; omega) (fun k hk => by have := HSB.out; have := HL5.out; rcases hk with rfl | rfl <;> omega) (fun k hk => .inl (.inl hk))).tree (by have := HSB.out; omega);have hp9 := HP.out.move ht (fun e => HD7.out.2 e.symm) (fun k hk => by have h := HP.out.fr.size; have := HWW.out; rw [hk]; exact HWW.out);simp only [put4] at n1 hf hg9 hp9;obtain ⟨g0, g1, g2, g3, _⟩ := Blk.four n1
     (try simp only [Exit.inBlock, Exit.then])
     refine bodyPost_ret (v := .agg #[.int .i64 kd, .string ⟨t1.toArray⟩, .int .i64 cl, .slice A' j cp]) (by simp [results, Tryz.results37, go_sem, g0, g1, g2, g3]) rfl ?_;rw [HFIN.out];exact ⟨_, rfl, hf, HTL.out, hg9, hp9, fun h => (HZM.out h).1⟩
 all_goals
  have HR2 := hid hr;clear hr
  have HB3 := hid (show Blk (((w.setCell ⟨g, 1, none⟩ (.int .i64 (m1 : Int))).setCell ⟨g, 2, none⟩ (.bool false)).alloc (.cells #[.int .i64 0, .string ⟨#[]⟩, .int .i64 0, .slice none 0 0] 35)) w.heap.size 35 #[.int .i64 0, .string ⟨#[]⟩, .int .i64 0, .slice none 0 0] by
   have h := Blk.new ((w.setCell ⟨g, 1, none⟩ (.int .i64 (m1 : Int))).setCell ⟨g, 2, none⟩ (.bool false)) 35 #[.int .i64 0, .string ⟨#[]⟩, .int .i64 0, .slice none 0 0]
   rwa [show ((w.setCell ⟨g, 1, none⟩ (.int .i64 (m1 : Int))).setCell ⟨g, 2, none⟩ (.bool false)).heap.size = w.heap.size by simp] at h)
  obtain ⟨b0, b1, b2, b3, y0, y1, y2, y3, hlb⟩ := Blk.four HB3.out;have HP3 := hid (show Pl W0 g P (m1, false) ((w.setCell ⟨g, 1, none⟩ (.int .i64 (m1 : Int))).setCell ⟨g, 2, none⟩ (.bool false)) from ⟨HPL2.out.fr.setCell (p := ⟨g, 2, none⟩) (.inr HPL2.out.le) _, HPL2.out.blk.put 2 _, HPL2.out.le⟩);have HT3 := hid (HT2.out.setCell (p := ⟨g, 2, none⟩) (.inl rfl) (.bool false));have HT4 := hid (HT3.out.alloc (.cells #[.int .i64 0, .string ⟨#[]⟩, .int .i64 0, .slice none 0 0] 35));have HP4 := hid (HP3.out.fresh ((Touch.refl _ _).alloc (.cells #[.int .i64 0, .string ⟨#[]⟩, .int .i64 0, .slice none 0 0] 35)));go_enter Tryz.func37, Tryz.ntmps37;go_wp2_with fail
  obtain ⟨t0, t1', t2, t3, _, _, _, _, _⟩ := Blk.four HB3.out;refine bodyPost_ret (v := .agg #[.int .i64 0, .string ⟨#[]⟩, .int .i64 0, .slice none 0 0]) (by simp [results, Tryz.results37, go_sem, t0, t1', t2, t3]) rfl ?_;rw [HR2.out];exact ⟨.slice none 0 0, rfl, HT4.out, Nat.zero_le _, .nil _ _, HP4.out, fun h => by cases h⟩
end Go.Proofs.YtomibmenojdieaaGreat
namespace Go.Proofs.YtomibmenojdieaaGreat
open Go.RowKit
open Tr (Nd)
open Mcr (placeN plainR plainL templF)
attribute [local go_sem] stillV stillUpon
theorem plainer_any (W0 : World) (g : Nat) (P : Int) (n : Nd) : PlC W0 g P n := by
 induction n using Tr.Nd.ind with
 | _ n ih => exact plainer_step W0 g P n ih
theorem templ_any (n : Nd) (sl : Value) (P : Int) (w : World) (hr : RepL w n.kids sl) (ht : n.text.length ≤ maxLen) : Calls Tryz.prog 24 #[nv n sl, .int .i64 P] w fun e w' => e = .returned (.bool (templF n P)) ∧ Fresh w w' := by
 obtain ⟨A, cap, rfl⟩ := hr.slice;have HRS := hid (show templF n P = if P < 0 ∨ 4 < P then false else (plainR P 1 n (0, true)).2.2 && Tr.valid (plainR P 1 n (0, true)).1 from rfl)
 have hways : ((decide (P < (0 : Int)) = true ∨ (decide (P < (0 : Int)) = false ∧ decide ((4 : Int) < P) = true)) ∧ templF n P = false) ∨ (decide (P < (0 : Int)) = false ∧ decide ((4 : Int) < P) = false ∧ templF n P = ((plainR P 1 n (0, true)).2.2 && Tr.valid (plainR P 1 n (0, true)).1)) := by
  by_cases h1 : P < 0
  ·exact .inl ⟨.inl (dT h1), HRS.out.trans (if_pos (.inl h1))⟩
  ·by_cases h2 : 4 < P
   ·exact .inl ⟨.inr ⟨dF h1, dT h2⟩, HRS.out.trans (if_pos (.inr h2))⟩
   ·exact .inr ⟨dF h1, dF h2, HRS.out.trans (if_neg (by omega))⟩
 clear HRS;have HR := hid hr;have HTL := hid ht;clear hr ht
 rcases hways with ⟨hx | ⟨hx, hy⟩, hr⟩ | ⟨hx, hy, hr⟩
 rotate_left
 rotate_left
 focus
  have HR2 := hid hr;clear hr;have hf0 := (Touch.refl (fun _ => False) w).alloc (.cells #[.int .i64 n.kind, .string ⟨n.text.toArray⟩, .int .i64 n.cols, .slice A n.kids.length cap] 35);have hb0 := Blk.new w 35 #[.int .i64 n.kind, .string ⟨n.text.toArray⟩, .int .i64 n.cols, .slice A n.kids.length cap];have hs0 : (w.alloc (.cells #[.int .i64 n.kind, .string ⟨n.text.toArray⟩, .int .i64 n.cols, .slice A n.kids.length cap] 35)).heap.size = w.heap.size + 1 := by simp
  have HNA := hid (show NdAt (w.alloc (.cells #[.int .i64 n.kind, .string ⟨n.text.toArray⟩, .int .i64 n.cols, .slice A n.kids.length cap] 35)) n w.heap.size 0 (.slice A n.kids.length cap) from ⟨hb0.lt, hb0.cell 0, hb0.cell 1, hb0.cell 2, hb0.cell 3, HR.out.fresh hf0, HTL.out⟩)
  have HPL := hid (show Pl (w.alloc (.cells #[.int .i64 n.kind, .string ⟨n.text.toArray⟩, .int .i64 n.cols, .slice A n.kids.length cap] 35)) (w.heap.size + 1) P (0, true) ((w.alloc (.cells #[.int .i64 n.kind, .string ⟨n.text.toArray⟩, .int .i64 n.cols, .slice A n.kids.length cap] 35)).alloc (.cells #[.int .i64 P, .int .i64 0, .bool true] 95)) from
   ⟨(Touch.refl _ _).alloc _, Blk.new2 _ _ _ _, by rw [hs0]; exact Nat.le_refl _⟩)
  have HF1 := hid (show Fresh w ((w.alloc (.cells #[.int .i64 n.kind, .string ⟨n.text.toArray⟩, .int .i64 n.cols, .slice A n.kids.length cap] 35)).alloc (.cells #[.int .i64 P, .int .i64 0, .bool true] 95)) from hf0.alloc _);clear hf0 hb0 hs0;go_enter Tryz.func24, Tryz.ntmps24;go_wp2_with fail
  refine (plainer_any _ (w.heap.size + 1) P n 1 0 w.heap.size 0 (.slice A n.kids.length cap) _ (by omega) (by omega) HNA.out HPL.out).mono ?_;rintro _ w2 ⟨s2, rfl, ht2, htl2, htr2, hp2, hz2⟩;have HF2 := hid (show Fresh w w2 from HF1.out.trans' ht2 fun k hk => .inr (by omega));have HTL2 := hid htl2;have HTR2 := hid htr2;have HP2 := hid hp2;obtain ⟨A2, c2, rfl⟩ := htr2.slice;clear ht2 htl2 htr2 hp2 hz2 HNA HPL HF1;generalize plainR P 1 n (0, true) = RR at *;obtain ⟨xm, m', z'⟩ := RR;simp only at *;obtain ⟨p0, p1, p2, f1, f2, hg⟩ := HP2.out.three;cases z' with
  | false =>
   go_wp2_with fail
   go_ret;exact ⟨by rw [HR2.out]; rfl, HF2.out.alloc _⟩
  | true =>
   have HB3 := hid (Blk.new w2 35 #[.int .i64 xm.kind, .string ⟨xm.text.toArray⟩, .int .i64 xm.cols, .slice A2 xm.kids.length c2]);have HF3 := hid (show Fresh w2 (w2.alloc (.cells #[.int .i64 xm.kind, .string ⟨xm.text.toArray⟩, .int .i64 xm.cols, .slice A2 xm.kids.length c2] 35)) from (Touch.refl _ w2).alloc _);obtain ⟨b0, b1, b2, b3, _, _, _, _, hlb⟩ := Blk.four HB3.out;go_wp2_with fail
   refine (valid_all xm (.slice A2 xm.kids.length c2) _ (HTR2.out.rep.fresh HF3.out) HTL2.out).mono ?_;rintro _ w4 ⟨rfl, hf⟩;have HF4 := hid ((HF2.out.trans HF3.out).trans hf);clear hf;go_wp2_with fail
   go_ret;exact ⟨by rw [HR2.out]; rfl, HF4.out⟩
 all_goals
  have HR2 := hid hr;clear hr;go_enter Tryz.func24, Tryz.ntmps24;go_wp2_with fail
  go_ret;exact ⟨by rw [HR2.out]; rfl, (Touch.refl _ _).alloc _⟩
end Go.Proofs.YtomibmenojdieaaGreat
