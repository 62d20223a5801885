/- Part 41 of 42 of a proof; its texts, joined: NzK, NzL. No condition. -/
import Derived.Test.YtomibmenojdieaaGreatXx40
set_option maxRecDepth 100000
set_option maxHeartbeats 4000000
namespace Go.Proofs.YtomibmenojdieaaGreat
open Go.RowKit
open Tr (Nd)
attribute [local go_sem] stillV stillUpon
theorem RepL.oneN {W : World} {g : Nat} {n : Nd} {v : Value} (h : Blk W g 35 #[.int .i64 n.kind, .string ⟨n.text.toArray⟩, .int .i64 n.cols, v]) (hs : n.text.length ≤ maxLen) (hk : RepL W n.kids v) : RepL W [n] (.slice (some ⟨g, 0, none⟩) 1 1) := by
 refine RepL.row g 0 1 [n] (fun _ => v) h.lt (show 1 ≤ maxLen by decide) ?_ ?_ ?_ ?_ ?_ ?_
 all_goals (intro i hi; obtain rfl : i = 0 := by simpa using hi)
 ·exact hs
 ·exact h.cell 0
 ·exact h.cell 1
 ·exact h.cell 2
 ·exact h.cell 3
 ·exact hk
theorem RepL.twoN {W : World} {g : Nat} {n m : Nd} {v u : Value} (h : Blk W g 35 #[.int .i64 n.kind, .string ⟨n.text.toArray⟩, .int .i64 n.cols, v, .int .i64 m.kind, .string ⟨m.text.toArray⟩, .int .i64 m.cols, u]) (hs : n.text.length ≤ maxLen) (hs' : m.text.length ≤ maxLen) (hk : RepL W n.kids v) (hk' : RepL W m.kids u) : RepL W [n, m] (.slice (some ⟨g, 0, none⟩) 2 2) := by
 refine RepL.row g 0 2 [n, m] (fun i => if i = 0 then v else u) h.lt (show 2 ≤ maxLen by decide) ?_ ?_ ?_ ?_ ?_ ?_
 all_goals (intro i hi; have hi2 : i < 2 := (by simpa using hi); obtain rfl | rfl : i = 0 ∨ i = 1 := by omega)
 ·exact hs
 ·exact hs'
 ·exact h.cell 0
 ·exact h.cell 4
 ·exact h.cell 1
 ·exact h.cell 5
 ·exact h.cell 2
 ·exact h.cell 6
 ·exact h.cell 3
 ·exact h.cell 7
 ·exact hk
 ·exact hk'
theorem Nk.new {W0 W : World} (h : Hid (Fresh W0 W)) (cs : Array Value) : Hid (Fresh W0 (W.alloc (.cells cs 35))) ∧ Hid (Blk (W.alloc (.cells cs 35)) W.heap.size 35 cs) ∧ W0.heap.size ≤ W.heap.size :=
 ⟨hid (h.out.alloc _), hid (Blk.new _ _ _), h.out.size⟩
theorem Nk.al {W : World} {g : Nat} {t : TypeId} {cs : Array Value} (h : Hid (Blk W g t cs)) (o : Obj) : Hid (Blk (W.alloc o) g t cs) := hid (h.out.alloc o)
theorem join_two (s : ByteArray) : s ++ (⟨#[94, 50]⟩ : ByteArray) = ⟨(s.data.toList ++ [94, 50]).toArray⟩ := by
 apply ByteArray.ext
 simp [ByteArray.data_append]
def supN (ks : List Nd) : Nd := Np.slot [.mk 8 [] 0 [Np.slot ks, Np.slot [.mk 3 [50] 0 []]]]
theorem scripted_any (T : Mcr.Table) (tp : Option Addr) (s : ByteArray) (ks : List Nd) (A : Option Addr) (cap : Nat) (w : World) (hT : TabV w w.heap.size T (.pointer tp)) (hz : s.size ≤ 3900) (hr : RepL w ks (.slice A ks.length cap)) (hc : Tr.countL ks ≤ 100000)
  (hlaw : Tr.valid (supN ks) = true → Mcr.parseF T (s.data.toList ++ [94, 50]) = (supN ks, 0, 0)) :
  Calls Tryz.prog 10 #[.pointer tp, .string s, .agg #[.int .i64 1, .string ⟨#[]⟩, .int .i64 0, .slice A ks.length cap]] w fun e w' => e = .returned (.bool true) ∧ Fresh w w' := by
 have hj : (s.data.toList ++ [94, 50]).length = s.size + 2 := by rw [List.length_append, show s.data.toList.length = s.size by simp]; rfl
 have HP := hid (fun (w' : World) (hf : Fresh w w') => parse_law ⟨(s.data.toList ++ [94, 50]).toArray⟩ T tp w' ((hT.up hf.size).fresh hf) (by show (s.data.toList ++ [94, 50]).toArray.size ≤ _; rw [List.size_toArray]; omega));have e0 : (⟨(s.data.toList ++ [94, 50]).toArray⟩ : ByteArray).data.toList = s.data.toList ++ [94, 50] := rfl;rw [e0] at HP;have HJ := hid (join_two s);generalize s.data.toList ++ [94, 50] = J at HP HJ hlaw;generalize Mcr.parseF T J = X at HP hlaw;have HL := hid hlaw;have HR := hid hr;have HC := hid (show Tr.count (supN ks) ≤ 1000000 by simp only [supN, Np.slot, Tr.count, Tr.countL]; omega);clear hlaw hr hc hT hj e0;refine Calls.via fun Q hQ => ?_
 have HQ := hid hQ;clear hQ;obtain ⟨n, hn⟩ : ∃ n, n = ks.length := ⟨_, rfl⟩;have HN := hid hn;rw [← hn] at HR ⊢;clear hn;go_enter Tryz.func10, Tryz.ntmps10;go_wp2_with fail
 rw [HJ.out];refine (HP.out _ ((Touch.refl _ _).alloc _)).mono ?_;rintro _ w1 ⟨AP, cp, rfl, hr1, hf1⟩;have HFA := hid (((Touch.refl (fun _ => False) w).alloc (.cells #[.int .i64 1, .string ⟨#[]⟩, .int .i64 0, .slice A n cap] 35)).trans hf1);have HBX := hid (hf1.blk (Blk.new w 35 #[.int .i64 1, .string ⟨#[]⟩, .int .i64 0, .slice A n cap]) fun h => h);have HRP := hid hr1.rep;clear hf1 hr1 HP;obtain ⟨⟨nk, nt, nc, nks⟩, iX, eX⟩ := X;unfold nv;simp only [Nd.kind, Nd.text, Nd.cols, Nd.kids] at *;go_wp2_with fail
 have HFB := hid (HFA.out.alloc (.cells #[.int .i64 nk, .string ⟨nt.toArray⟩, .int .i64 nc, .slice AP nks.length cp] 35));have HBX1 := hid (HBX.out.alloc (.cells #[.int .i64 nk, .string ⟨nt.toArray⟩, .int .i64 nc, .slice AP nks.length cp] 35));have HBP := hid (Blk.new w1 35 #[.int .i64 nk, .string ⟨nt.toArray⟩, .int .i64 nc, .slice AP nks.length cp]);have HRP1 := hid (HRP.out.fresh ((Touch.refl _ w1).alloc (.cells #[.int .i64 nk, .string ⟨nt.toArray⟩, .int .i64 nc, .slice AP nks.length cp] 35)));generalize w1.heap.size = gP at HBP ⊢;generalize w1.alloc (.cells #[.int .i64 nk, .string ⟨nt.toArray⟩, .int .i64 nc, .slice AP nks.length cp] 35) = W0 at HFB HBX1 HBP HRP1 ⊢;generalize w.heap.size = gX at HBX1 ⊢;clear HFA HBX HRP;have x0 := cR (HBX1.out.cell 0 |>.trans rfl);have x1 := cR (HBX1.out.cell 1 |>.trans rfl);have x2 := cR (HBX1.out.cell 2 |>.trans rfl);have x3 := cR (HBX1.out.cell 3 |>.trans rfl)
 refine wp_region_plan (Plan.of [(0, true), (1, true)] (.fork 2 (.fork 3 (.fork 4 (.plain 5 (.fork 6 (.fork 7 (.lone 8 .nil) 8 (.lone 7 .nil)) 8 (Plan.of [(6, false), (7, false)] .nil))) 8 (Plan.of [(4, false), (5, true), (6, false), (7, false)] .nil)) 8 (Plan.of [(3, false), (4, false), (5, true), (6, false), (7, false)] .nil)) 8 (Plan.of [(2, false), (3, false), (4, false), (5, true), (6, false), (7, false)] .nil)))
  [0, 1, 2, 3, 4, 5, 6, 7, 8] 9 (Array.replicate 9 true ++ #[false]) [] [] (by kernel_rfl) (fun _ _ d _ _ h => by cases d <;> exact h) (by kernel_rfl) ?_
 unfold Plan.of
 repeat (refine wpPlan_plain rfl (fun K hK => ?_); go_simp; refine hK _ ?_; clear hK K; first | done | unfold Plan.of)
 clear x0 x1 x2 x3;have HF := hid ((Touch.refl (fun _ => False) W0).drewN 1);generalize W0.drewN 1 = Wd at HF ⊢;refine wpPlan_fork ?_ ?_
 rotate_left
 focus
  refine wpPlan_lone rfl (fun K hK => ?_);go_wp2_with fail
  refine hK _ _ (growing_fresh (HF.out.alloc _)) ?_;clear hK K;obtain ⟨HF, HB8, hge⟩ := Nk.new HF #[.int .i64 0, .string ⟨#[]⟩, .int .i64 0, .slice none 0 0];generalize Wd.heap.size = g8 at HB8 hge ⊢;generalize Wd.alloc (.cells #[.int .i64 0, .string ⟨#[]⟩, .int .i64 0, .slice none 0 0] 35) = Wd at HF HB8 ⊢;have HG8 := hid hge;clear hge
  repeat (refine wpPlan_plain rfl (fun K hK => ?_); go_simp; refine hK _ ?_; clear hK K; first | done | unfold Plan.of)
  refine wpPlan_lone rfl (fun K hK => ?_);go_wp2_with fail
  refine hK _ _ (growing_fresh (HF.out.alloc _)) ?_;clear hK K;obtain ⟨HF, HB2, hge⟩ := Nk.new HF #[.int .i64 3, .string ⟨#[50]⟩, .int .i64 0, .slice none 0 0];replace HB8 := Nk.al HB8 (.cells #[.int .i64 3, .string ⟨#[50]⟩, .int .i64 0, .slice none 0 0] 35);generalize Wd.heap.size = g2 at HB2 hge ⊢;generalize Wd.alloc (.cells #[.int .i64 3, .string ⟨#[50]⟩, .int .i64 0, .slice none 0 0] 35) = Wd at HF HB8 HB2 ⊢;clear hge
  repeat (refine wpPlan_plain rfl (fun K hK => ?_); go_simp; refine hK _ ?_; clear hK K; first | done | unfold Plan.of)
  refine wpPlan_lone rfl (fun K hK => ?_);go_wp2_with fail
  refine (toRow20_any _ _ _ _).mono ?_;rintro _ Wd ⟨rfl, hf⟩;replace HF := hid (HF.out.trans hf);replace HB8 := hid (hf.blk HB8.out fun h => h);replace HB2 := hid (hf.blk HB2.out fun h => h);clear hf;go_wp2_with fail
  refine hK _ _ (growing_fresh HF.out) ?_;clear hK K
  repeat (refine wpPlan_plain rfl (fun K hK => ?_); go_simp; refine hK _ ?_; clear hK K; first | done | unfold Plan.of)
  refine wpPlan_lone rfl (fun K hK => ?_);go_wp2_with fail
  refine hK _ _ (growing_fresh (HF.out.alloc _)) ?_;clear hK K;obtain ⟨HF, HB4, hge⟩ := Nk.new HF #[.int .i64 1, .string ⟨#[]⟩, .int .i64 0, .slice A n cap, .int .i64 1, .string ⟨#[]⟩, .int .i64 0, .slice (some ⟨g2, 0, none⟩) 1 1];replace HB8 := Nk.al HB8 (.cells #[.int .i64 1, .string ⟨#[]⟩, .int .i64 0, .slice A n cap, .int .i64 1, .string ⟨#[]⟩, .int .i64 0, .slice (some ⟨g2, 0, none⟩) 1 1] 35);replace HB2 := Nk.al HB2 (.cells #[.int .i64 1, .string ⟨#[]⟩, .int .i64 0, .slice A n cap, .int .i64 1, .string ⟨#[]⟩, .int .i64 0, .slice (some ⟨g2, 0, none⟩) 1 1] 35);generalize Wd.heap.size = g4 at HB4 hge ⊢;generalize Wd.alloc (.cells #[.int .i64 1, .string ⟨#[]⟩, .int .i64 0, .slice A n cap, .int .i64 1, .string ⟨#[]⟩, .int .i64 0, .slice (some ⟨g2, 0, none⟩) 1 1] 35) = Wd at HF HB8 HB2 HB4 ⊢;clear hge
  repeat (refine wpPlan_plain rfl (fun K hK => ?_); go_simp; refine hK _ ?_; clear hK K; first | done | unfold Plan.of)
  refine wpPlan_lone rfl (fun K hK => ?_);go_wp2_with fail
  refine hK _ _ (growing_fresh (HF.out.alloc _)) ?_;clear hK K;obtain ⟨HF, HB6, hge⟩ := Nk.new HF #[.int .i64 8, .string ⟨#[]⟩, .int .i64 0, .slice (some ⟨g4, 0, none⟩) 2 2];replace HB8 := Nk.al HB8 (.cells #[.int .i64 8, .string ⟨#[]⟩, .int .i64 0, .slice (some ⟨g4, 0, none⟩) 2 2] 35);replace HB2 := Nk.al HB2 (.cells #[.int .i64 8, .string ⟨#[]⟩, .int .i64 0, .slice (some ⟨g4, 0, none⟩) 2 2] 35);replace HB4 := Nk.al HB4 (.cells #[.int .i64 8, .string ⟨#[]⟩, .int .i64 0, .slice (some ⟨g4, 0, none⟩) 2 2] 35);generalize Wd.heap.size = g6 at HB6 hge ⊢;generalize Wd.alloc (.cells #[.int .i64 8, .string ⟨#[]⟩, .int .i64 0, .slice (some ⟨g4, 0, none⟩) 2 2] 35) = Wd at HF HB8 HB2 HB4 HB6 ⊢;clear hge
  repeat (refine wpPlan_plain rfl (fun K hK => ?_); go_simp; refine hK _ ?_; clear hK K; first | done | unfold Plan.of)
  refine wpPlan_lone rfl (fun K hK => ?_);go_wp2_with fail
  refine (toRow20_any _ _ _ _).mono ?_;rintro _ Wd ⟨rfl, hf⟩;replace HF := hid (HF.out.trans hf);replace HB8 := hid (hf.blk HB8.out fun h => h);replace HB2 := hid (hf.blk HB2.out fun h => h);replace HB4 := hid (hf.blk HB4.out fun h => h);replace HB6 := hid (hf.blk HB6.out fun h => h);clear hf;go_wp2_with fail
  refine hK _ _ (growing_fresh HF.out) ?_;clear hK K
  repeat (refine wpPlan_plain rfl (fun K hK => ?_); go_simp; refine hK _ ?_; clear hK K; first | done | unfold Plan.of)
 rotate_right
 refine wpPlan_lone rfl (fun K hK => ?_);go_wp2_with fail
 refine hK _ _ (growing_fresh (HF.out.alloc _)) ?_;clear hK K;obtain ⟨HF, HB2, hge⟩ := Nk.new HF #[.int .i64 3, .string ⟨#[50]⟩, .int .i64 0, .slice none 0 0];generalize Wd.heap.size = g2 at HB2 hge ⊢;generalize Wd.alloc (.cells #[.int .i64 3, .string ⟨#[50]⟩, .int .i64 0, .slice none 0 0] 35) = Wd at HF HB2 ⊢;clear hge
 repeat (refine wpPlan_plain rfl (fun K hK => ?_); go_simp; refine hK _ ?_; clear hK K; first | done | unfold Plan.of)
 refine wpPlan_fork ?_ ?_
 rotate_left
 focus
  refine wpPlan_lone rfl (fun K hK => ?_);go_wp2_with fail
  refine hK _ _ (growing_fresh (HF.out.alloc _)) ?_;clear hK K;obtain ⟨HF, HB8, hge⟩ := Nk.new HF #[.int .i64 0, .string ⟨#[]⟩, .int .i64 0, .slice none 0 0];replace HB2 := Nk.al HB2 (.cells #[.int .i64 0, .string ⟨#[]⟩, .int .i64 0, .slice none 0 0] 35);generalize Wd.heap.size = g8 at HB8 hge ⊢;generalize Wd.alloc (.cells #[.int .i64 0, .string ⟨#[]⟩, .int .i64 0, .slice none 0 0] 35) = Wd at HF HB2 HB8 ⊢;have HG8 := hid hge;clear hge
  repeat (refine wpPlan_plain rfl (fun K hK => ?_); go_simp; refine hK _ ?_; clear hK K; first | done | unfold Plan.of)
  refine wpPlan_lone rfl (fun K hK => ?_);go_wp2_with fail
  refine (toRow20_any _ _ _ _).mono ?_;rintro _ Wd ⟨rfl, hf⟩;replace HF := hid (HF.out.trans hf);replace HB2 := hid (hf.blk HB2.out fun h => h);replace HB8 := hid (hf.blk HB8.out fun h => h);clear hf;go_wp2_with fail
  refine hK _ _ (growing_fresh HF.out) ?_;clear hK K
  repeat (refine wpPlan_plain rfl (fun K hK => ?_); go_simp; refine hK _ ?_; clear hK K; first | done | unfold Plan.of)
  refine wpPlan_lone rfl (fun K hK => ?_);go_wp2_with fail
  refine hK _ _ (growing_fresh (HF.out.alloc _)) ?_;clear hK K;obtain ⟨HF, HB4, hge⟩ := Nk.new HF #[.int .i64 1, .string ⟨#[]⟩, .int .i64 0, .slice A n cap, .int .i64 1, .string ⟨#[]⟩, .int .i64 0, .slice (some ⟨g2, 0, none⟩) 1 1];replace HB2 := Nk.al HB2 (.cells #[.int .i64 1, .string ⟨#[]⟩, .int .i64 0, .slice A n cap, .int .i64 1, .string ⟨#[]⟩, .int .i64 0, .slice (some ⟨g2, 0, none⟩) 1 1] 35);replace HB8 := Nk.al HB8 (.cells #[.int .i64 1, .string ⟨#[]⟩, .int .i64 0, .slice A n cap, .int .i64 1, .string ⟨#[]⟩, .int .i64 0, .slice (some ⟨g2, 0, none⟩) 1 1] 35);generalize Wd.heap.size = g4 at HB4 hge ⊢;generalize Wd.alloc (.cells #[.int .i64 1, .string ⟨#[]⟩, .int .i64 0, .slice A n cap, .int .i64 1, .string ⟨#[]⟩, .int .i64 0, .slice (some ⟨g2, 0, none⟩) 1 1] 35) = Wd at HF HB2 HB8 HB4 ⊢;clear hge
  repeat (refine wpPlan_plain rfl (fun K hK => ?_); go_simp; refine hK _ ?_; clear hK K; first | done | unfold Plan.of)
  refine wpPlan_lone rfl (fun K hK => ?_);go_wp2_with fail
  refine hK _ _ (growing_fresh (HF.out.alloc _)) ?_;clear hK K;obtain ⟨HF, HB6, hge⟩ := Nk.new HF #[.int .i64 8, .string ⟨#[]⟩, .int .i64 0, .slice (some ⟨g4, 0, none⟩) 2 2];replace HB2 := Nk.al HB2 (.cells #[.int .i64 8, .string ⟨#[]⟩, .int .i64 0, .slice (some ⟨g4, 0, none⟩) 2 2] 35);replace HB8 := Nk.al HB8 (.cells #[.int .i64 8, .string ⟨#[]⟩, .int .i64 0, .slice (some ⟨g4, 0, none⟩) 2 2] 35);replace HB4 := Nk.al HB4 (.cells #[.int .i64 8, .string ⟨#[]⟩, .int .i64 0, .slice (some ⟨g4, 0, none⟩) 2 2] 35);generalize Wd.heap.size = g6 at HB6 hge ⊢;generalize Wd.alloc (.cells #[.int .i64 8, .string ⟨#[]⟩, .int .i64 0, .slice (some ⟨g4, 0, none⟩) 2 2] 35) = Wd at HF HB2 HB8 HB4 HB6 ⊢;clear hge
  repeat (refine wpPlan_plain rfl (fun K hK => ?_); go_simp; refine hK _ ?_; clear hK K; first | done | unfold Plan.of)
  refine wpPlan_lone rfl (fun K hK => ?_);go_wp2_with fail
  refine (toRow20_any _ _ _ _).mono ?_;rintro _ Wd ⟨rfl, hf⟩;replace HF := hid (HF.out.trans hf);replace HB2 := hid (hf.blk HB2.out fun h => h);replace HB8 := hid (hf.blk HB8.out fun h => h);replace HB4 := hid (hf.blk HB4.out fun h => h);replace HB6 := hid (hf.blk HB6.out fun h => h);clear hf;go_wp2_with fail
  refine hK _ _ (growing_fresh HF.out) ?_;clear hK K
  repeat (refine wpPlan_plain rfl (fun K hK => ?_); go_simp; refine hK _ ?_; clear hK K; first | done | unfold Plan.of)
 rotate_right
 refine wpPlan_lone rfl (fun K hK => ?_);go_wp2_with fail
 refine (toRow20_any _ _ _ _).mono ?_;rintro _ Wd ⟨rfl, hf⟩;replace HF := hid (HF.out.trans hf);replace HB2 := hid (hf.blk HB2.out fun h => h);clear hf;go_wp2_with fail
 refine hK _ _ (growing_fresh HF.out) ?_;clear hK K
 repeat (refine wpPlan_plain rfl (fun K hK => ?_); go_simp; refine hK _ ?_; clear hK K; first | done | unfold Plan.of)
 refine wpPlan_fork ?_ ?_
 rotate_left
 focus
  refine wpPlan_lone rfl (fun K hK => ?_);go_wp2_with fail
  refine hK _ _ (growing_fresh (HF.out.alloc _)) ?_;clear hK K;obtain ⟨HF, HB8, hge⟩ := Nk.new HF #[.int .i64 0, .string ⟨#[]⟩, .int .i64 0, .slice none 0 0];replace HB2 := Nk.al HB2 (.cells #[.int .i64 0, .string ⟨#[]⟩, .int .i64 0, .slice none 0 0] 35);generalize Wd.heap.size = g8 at HB8 hge ⊢;generalize Wd.alloc (.cells #[.int .i64 0, .string ⟨#[]⟩, .int .i64 0, .slice none 0 0] 35) = Wd at HF HB2 HB8 ⊢;have HG8 := hid hge;clear hge
  repeat (refine wpPlan_plain rfl (fun K hK => ?_); go_simp; refine hK _ ?_; clear hK K; first | done | unfold Plan.of)
  refine wpPlan_lone rfl (fun K hK => ?_);go_wp2_with fail
  refine hK _ _ (growing_fresh (HF.out.alloc _)) ?_;clear hK K;obtain ⟨HF, HB4, hge⟩ := Nk.new HF #[.int .i64 1, .string ⟨#[]⟩, .int .i64 0, .slice A n cap, .int .i64 1, .string ⟨#[]⟩, .int .i64 0, .slice (some ⟨g2, 0, none⟩) 1 1];replace HB2 := Nk.al HB2 (.cells #[.int .i64 1, .string ⟨#[]⟩, .int .i64 0, .slice A n cap, .int .i64 1, .string ⟨#[]⟩, .int .i64 0, .slice (some ⟨g2, 0, none⟩) 1 1] 35);replace HB8 := Nk.al HB8 (.cells #[.int .i64 1, .string ⟨#[]⟩, .int .i64 0, .slice A n cap, .int .i64 1, .string ⟨#[]⟩, .int .i64 0, .slice (some ⟨g2, 0, none⟩) 1 1] 35);generalize Wd.heap.size = g4 at HB4 hge ⊢;generalize Wd.alloc (.cells #[.int .i64 1, .string ⟨#[]⟩, .int .i64 0, .slice A n cap, .int .i64 1, .string ⟨#[]⟩, .int .i64 0, .slice (some ⟨g2, 0, none⟩) 1 1] 35) = Wd at HF HB2 HB8 HB4 ⊢;clear hge
  repeat (refine wpPlan_plain rfl (fun K hK => ?_); go_simp; refine hK _ ?_; clear hK K; first | done | unfold Plan.of)
  refine wpPlan_lone rfl (fun K hK => ?_);go_wp2_with fail
  refine hK _ _ (growing_fresh (HF.out.alloc _)) ?_;clear hK K;obtain ⟨HF, HB6, hge⟩ := Nk.new HF #[.int .i64 8, .string ⟨#[]⟩, .int .i64 0, .slice (some ⟨g4, 0, none⟩) 2 2];replace HB2 := Nk.al HB2 (.cells #[.int .i64 8, .string ⟨#[]⟩, .int .i64 0, .slice (some ⟨g4, 0, none⟩) 2 2] 35);replace HB8 := Nk.al HB8 (.cells #[.int .i64 8, .string ⟨#[]⟩, .int .i64 0, .slice (some ⟨g4, 0, none⟩) 2 2] 35);replace HB4 := Nk.al HB4 (.cells #[.int .i64 8, .string ⟨#[]⟩, .int .i64 0, .slice (some ⟨g4, 0, none⟩) 2 2] 35);generalize Wd.heap.size = g6 at HB6 hge ⊢;generalize Wd.alloc (.cells #[.int .i64 8, .string ⟨#[]⟩, .int .i64 0, .slice (some ⟨g4, 0, none⟩) 2 2] 35) = Wd at HF HB2 HB8 HB4 HB6 ⊢;clear hge
  repeat (refine wpPlan_plain rfl (fun K hK => ?_); go_simp; refine hK _ ?_; clear hK K; first | done | unfold Plan.of)
  refine wpPlan_lone rfl (fun K hK => ?_);go_wp2_with fail
  refine (toRow20_any _ _ _ _).mono ?_;rintro _ Wd ⟨rfl, hf⟩;replace HF := hid (HF.out.trans hf);replace HB2 := hid (hf.blk HB2.out fun h => h);replace HB8 := hid (hf.blk HB8.out fun h => h);replace HB4 := hid (hf.blk HB4.out fun h => h);replace HB6 := hid (hf.blk HB6.out fun h => h);clear hf;go_wp2_with fail
  refine hK _ _ (growing_fresh HF.out) ?_;clear hK K
  repeat (refine wpPlan_plain rfl (fun K hK => ?_); go_simp; refine hK _ ?_; clear hK K; first | done | unfold Plan.of)
 rotate_right
 refine wpPlan_lone rfl (fun K hK => ?_);go_wp2_with fail
 refine hK _ _ (growing_fresh (HF.out.alloc _)) ?_;clear hK K;obtain ⟨HF, HB4, hge⟩ := Nk.new HF #[.int .i64 1, .string ⟨#[]⟩, .int .i64 0, .slice A n cap, .int .i64 1, .string ⟨#[]⟩, .int .i64 0, .slice (some ⟨g2, 0, none⟩) 1 1];replace HB2 := Nk.al HB2 (.cells #[.int .i64 1, .string ⟨#[]⟩, .int .i64 0, .slice A n cap, .int .i64 1, .string ⟨#[]⟩, .int .i64 0, .slice (some ⟨g2, 0, none⟩) 1 1] 35);generalize Wd.heap.size = g4 at HB4 hge ⊢;generalize Wd.alloc (.cells #[.int .i64 1, .string ⟨#[]⟩, .int .i64 0, .slice A n cap, .int .i64 1, .string ⟨#[]⟩, .int .i64 0, .slice (some ⟨g2, 0, none⟩) 1 1] 35) = Wd at HF HB2 HB4 ⊢;clear hge
 repeat (refine wpPlan_plain rfl (fun K hK => ?_); go_simp; refine hK _ ?_; clear hK K; first | done | unfold Plan.of)
 refine wpPlan_fork ?_ ?_
 rotate_left
 focus
  refine wpPlan_lone rfl (fun K hK => ?_);go_wp2_with fail
  refine hK _ _ (growing_fresh (HF.out.alloc _)) ?_;clear hK K;obtain ⟨HF, HB8, hge⟩ := Nk.new HF #[.int .i64 0, .string ⟨#[]⟩, .int .i64 0, .slice none 0 0];replace HB2 := Nk.al HB2 (.cells #[.int .i64 0, .string ⟨#[]⟩, .int .i64 0, .slice none 0 0] 35);replace HB4 := Nk.al HB4 (.cells #[.int .i64 0, .string ⟨#[]⟩, .int .i64 0, .slice none 0 0] 35);generalize Wd.heap.size = g8 at HB8 hge ⊢;generalize Wd.alloc (.cells #[.int .i64 0, .string ⟨#[]⟩, .int .i64 0, .slice none 0 0] 35) = Wd at HF HB2 HB4 HB8 ⊢;have HG8 := hid hge;clear hge
  repeat (refine wpPlan_plain rfl (fun K hK => ?_); go_simp; refine hK _ ?_; clear hK K; first | done | unfold Plan.of)
  refine wpPlan_lone rfl (fun K hK => ?_);go_wp2_with fail
  refine hK _ _ (growing_fresh (HF.out.alloc _)) ?_;clear hK K;obtain ⟨HF, HB6, hge⟩ := Nk.new HF #[.int .i64 8, .string ⟨#[]⟩, .int .i64 0, .slice (some ⟨g4, 0, none⟩) 2 2];replace HB2 := Nk.al HB2 (.cells #[.int .i64 8, .string ⟨#[]⟩, .int .i64 0, .slice (some ⟨g4, 0, none⟩) 2 2] 35);replace HB4 := Nk.al HB4 (.cells #[.int .i64 8, .string ⟨#[]⟩, .int .i64 0, .slice (some ⟨g4, 0, none⟩) 2 2] 35);replace HB8 := Nk.al HB8 (.cells #[.int .i64 8, .string ⟨#[]⟩, .int .i64 0, .slice (some ⟨g4, 0, none⟩) 2 2] 35);generalize Wd.heap.size = g6 at HB6 hge ⊢;generalize Wd.alloc (.cells #[.int .i64 8, .string ⟨#[]⟩, .int .i64 0, .slice (some ⟨g4, 0, none⟩) 2 2] 35) = Wd at HF HB2 HB4 HB8 HB6 ⊢;clear hge
  repeat (refine wpPlan_plain rfl (fun K hK => ?_); go_simp; refine hK _ ?_; clear hK K; first | done | unfold Plan.of)
  refine wpPlan_lone rfl (fun K hK => ?_);go_wp2_with fail
  refine (toRow20_any _ _ _ _).mono ?_;rintro _ Wd ⟨rfl, hf⟩;replace HF := hid (HF.out.trans hf);replace HB2 := hid (hf.blk HB2.out fun h => h);replace HB4 := hid (hf.blk HB4.out fun h => h);replace HB8 := hid (hf.blk HB8.out fun h => h);replace HB6 := hid (hf.blk HB6.out fun h => h);clear hf;go_wp2_with fail
  refine hK _ _ (growing_fresh HF.out) ?_;clear hK K
  repeat (refine wpPlan_plain rfl (fun K hK => ?_); go_simp; refine hK _ ?_; clear hK K; first | done | unfold Plan.of)
 rotate_right
 refine wpPlan_lone rfl (fun K hK => ?_);go_wp2_with fail
 refine hK _ _ (growing_fresh (HF.out.alloc _)) ?_;clear hK K;obtain ⟨HF, HB6, hge⟩ := Nk.new HF #[.int .i64 8, .string ⟨#[]⟩, .int .i64 0, .slice (some ⟨g4, 0, none⟩) 2 2];replace HB2 := Nk.al HB2 (.cells #[.int .i64 8, .string ⟨#[]⟩, .int .i64 0, .slice (some ⟨g4, 0, none⟩) 2 2] 35);replace HB4 := Nk.al HB4 (.cells #[.int .i64 8, .string ⟨#[]⟩, .int .i64 0, .slice (some ⟨g4, 0, none⟩) 2 2] 35);generalize Wd.heap.size = g6 at HB6 hge ⊢;generalize Wd.alloc (.cells #[.int .i64 8, .string ⟨#[]⟩, .int .i64 0, .slice (some ⟨g4, 0, none⟩) 2 2] 35) = Wd at HF HB2 HB4 HB6 ⊢;clear hge
 repeat (refine wpPlan_plain rfl (fun K hK => ?_); go_simp; refine hK _ ?_; clear hK K; first | done | unfold Plan.of)
 refine wpPlan_fork ?_ ?_
 rotate_left
 focus
  refine wpPlan_lone rfl (fun K hK => ?_);go_wp2_with fail
  refine hK _ _ (growing_fresh (HF.out.alloc _)) ?_;clear hK K;obtain ⟨HF, HB8, hge⟩ := Nk.new HF #[.int .i64 0, .string ⟨#[]⟩, .int .i64 0, .slice none 0 0];replace HB2 := Nk.al HB2 (.cells #[.int .i64 0, .string ⟨#[]⟩, .int .i64 0, .slice none 0 0] 35);replace HB4 := Nk.al HB4 (.cells #[.int .i64 0, .string ⟨#[]⟩, .int .i64 0, .slice none 0 0] 35);replace HB6 := Nk.al HB6 (.cells #[.int .i64 0, .string ⟨#[]⟩, .int .i64 0, .slice none 0 0] 35);generalize Wd.heap.size = g8 at HB8 hge ⊢;generalize Wd.alloc (.cells #[.int .i64 0, .string ⟨#[]⟩, .int .i64 0, .slice none 0 0] 35) = Wd at HF HB2 HB4 HB6 HB8 ⊢;have HG8 := hid hge;clear hge
  repeat (refine wpPlan_plain rfl (fun K hK => ?_); go_simp; refine hK _ ?_; clear hK K; first | done | unfold Plan.of)
  refine wpPlan_lone rfl (fun K hK => ?_);go_wp2_with fail
  refine (toRow20_any _ _ _ _).mono ?_;rintro _ Wd ⟨rfl, hf⟩;replace HF := hid (HF.out.trans hf);replace HB2 := hid (hf.blk HB2.out fun h => h);replace HB4 := hid (hf.blk HB4.out fun h => h);replace HB6 := hid (hf.blk HB6.out fun h => h);replace HB8 := hid (hf.blk HB8.out fun h => h);clear hf;go_wp2_with fail
  refine hK _ _ (growing_fresh HF.out) ?_;clear hK K
  repeat (refine wpPlan_plain rfl (fun K hK => ?_); go_simp; refine hK _ ?_; clear hK K; first | done | unfold Plan.of)
 rotate_right
 refine wpPlan_lone rfl (fun K hK => ?_);go_wp2_with fail
 refine (toRow20_any _ _ _ _).mono ?_;rintro _ Wd ⟨rfl, hf⟩;replace HF := hid (HF.out.trans hf);replace HB2 := hid (hf.blk HB2.out fun h => h);replace HB4 := hid (hf.blk HB4.out fun h => h);replace HB6 := hid (hf.blk HB6.out fun h => h);clear hf;go_wp2_with fail
 refine hK _ _ (growing_fresh HF.out) ?_;clear hK K
 repeat (refine wpPlan_plain rfl (fun K hK => ?_); go_simp; refine hK _ ?_; clear hK K; first | done | unfold Plan.of)
 refine wpPlan_lone rfl (fun K hK => ?_);go_wp2_with fail
 refine hK _ _ (growing_fresh (HF.out.alloc _)) ?_;clear hK K;obtain ⟨HF, HB8, hge⟩ := Nk.new HF #[.int .i64 0, .string ⟨#[]⟩, .int .i64 0, .slice none 0 0];replace HB2 := Nk.al HB2 (.cells #[.int .i64 0, .string ⟨#[]⟩, .int .i64 0, .slice none 0 0] 35);replace HB4 := Nk.al HB4 (.cells #[.int .i64 0, .string ⟨#[]⟩, .int .i64 0, .slice none 0 0] 35);replace HB6 := Nk.al HB6 (.cells #[.int .i64 0, .string ⟨#[]⟩, .int .i64 0, .slice none 0 0] 35);generalize Wd.heap.size = g8 at HB8 hge ⊢;generalize Wd.alloc (.cells #[.int .i64 0, .string ⟨#[]⟩, .int .i64 0, .slice none 0 0] 35) = Wd at HF HB2 HB4 HB6 HB8 ⊢;have HG8 := hid hge;clear hge
 repeat (refine wpPlan_plain rfl (fun K hK => ?_); go_simp; refine hK _ ?_; clear hK K; first | done | unfold Plan.of)
 all_goals
  have ne2 : g2 ≠ g8 := fun e => by have h1 := HB2.out; rw [e] at h1; have h2 := h1.symm.trans HB8.out; simp at h2
  have ne4 : g4 ≠ g8 := fun e => by have h1 := HB4.out; rw [e] at h1; have h2 := h1.symm.trans HB8.out; simp at h2
  have ne6 : g6 ≠ g8 := fun e => by have h1 := HB6.out; rw [e] at h1; have h2 := h1.symm.trans HB8.out; simp at h2
  have n2 := HB2.out.far4 ne2 (.int .i64 1) (.string ⟨#[]⟩) (.int .i64 0) (.slice (some ⟨g6, 0, none⟩) 1 1);have n4 := HB4.out.far4 ne4 (.int .i64 1) (.string ⟨#[]⟩) (.int .i64 0) (.slice (some ⟨g6, 0, none⟩) 1 1);have n6 := HB6.out.far4 ne6 (.int .i64 1) (.string ⟨#[]⟩) (.int .i64 0) (.slice (some ⟨g6, 0, none⟩) 1 1);have n8 := HB8.out.self4 (.int .i64 1) (.string ⟨#[]⟩) (.int .i64 0) (.slice (some ⟨g6, 0, none⟩) 1 1);have nf := Touch.put4 HF.out (.inr HG8.out) (.int .i64 1) (.string ⟨#[]⟩) (.int .i64 0) (.slice (some ⟨g6, 0, none⟩) 1 1);obtain ⟨z0, z1, z2, z3, y0, y1, y2, y3, hlz⟩ := Blk.four HB8.out;clear HB2 HB4 HB6 ne2 ne4 ne6;refine wpPlan_shut rfl (fun K hK => ?_);go_wp2_with fail
  refine wpMix_end ?_;simp only [put4] at n2 n4 n6 n8 nf;generalize ((((Wd.setCell ⟨g8, 0, none⟩ (.int .i64 1)).setCell ⟨g8, 1, none⟩ (.string ⟨#[]⟩)).setCell ⟨g8, 2, none⟩ (.int .i64 0)).setCell ⟨g8, 3, none⟩ (.slice (some ⟨g6, 0, none⟩) 1 1)) = W2 at n2 n4 n6 n8 nf ⊢;have HF2 := hid (HFB.out.trans nf);have HB8 := hid n8;have HBP2 := hid (nf.blk HBP.out fun h => h);have HRP2 := hid (HRP1.out.fresh nf);have r2 : RepL W2 [.mk 3 [50] 0 []] (.slice (some ⟨g2, 0, none⟩) 1 1) := RepL.oneN n2 (by decide) (.nil _ _);have r4 : RepL W2 [Np.slot ks, Np.slot [.mk 3 [50] 0 []]] (.slice (some ⟨g4, 0, none⟩) 2 2) := RepL.twoN n4 (Nat.zero_le _) (Nat.zero_le _) (by have h := HR.out; rw [HN.out] at h n4; rw [HN.out]; exact h.fresh HF2.out) r2;have r6 : RepL W2 [.mk 8 [] 0 [Np.slot ks, Np.slot [.mk 3 [50] 0 []]]] (.slice (some ⟨g6, 0, none⟩) 1 1) := RepL.oneN n6 (Nat.zero_le _) r4;have HR6 := hid r6;clear n2 n4 n6 n8 nf r2 r4 r6 z0 z1 z2 z3 y0 y1 y2 y3 hlz HF HFB HG8 HBP HRP1 HBX1;obtain ⟨q0, q1, q2, q3, _⟩ := Blk.four HB8.out;go_wp2_with fail
  have hV : Calls Tryz.prog 20 #[.agg #[.int .i64 1, .string ⟨#[]⟩, .int .i64 0, .slice (some ⟨g6, 0, none⟩) 1 1]] W2 fun e w' => e = .returned (.bool (Tr.valid (supN ks))) ∧ Fresh W2 w' := rValid_any (supN ks) _ W2 HR6.out (Nat.zero_le _) HC.out
  refine hV.mono ?_;clear hV;rintro _ w3 ⟨rfl, hf3⟩;have HF3 := hid (HF2.out.trans hf3);have HBP3 := hid (hf3.blk HBP2.out fun h => h);have HB83 := hid (hf3.blk HB8.out fun h => h);have HRP3 := hid (HRP2.out.fresh hf3);have HR63 := hid (HR6.out.fresh hf3);clear hf3 HF2 HBP2 HB8 HRP2 HR6 q0 q1 q2 q3;cases hv : Tr.valid (supN ks) with
  | false =>
   go_wp2_with fail
   exact HQ.out _ _ ⟨rfl, HF3.out⟩
  | true =>
   have hx := HL.out hv;unfold supN Np.slot at hx;simp only [Prod.mk.injEq, Nd.mk.injEq] at hx;obtain ⟨⟨rfl, rfl, rfl, rfl⟩, rfl, rfl⟩ := hx;obtain ⟨x0, x1, x2, x3, _⟩ := Blk.four HBP3.out;obtain ⟨q0, q1, q2, q3, _⟩ := Blk.four HB83.out;go_wp2_with fail
   have hE : Calls Tryz.prog 21 #[.agg #[.int .i64 1, .string ⟨#[]⟩, .int .i64 0, .slice AP 1 cp], .agg #[.int .i64 1, .string ⟨#[]⟩, .int .i64 0, .slice (some ⟨g6, 0, none⟩) 1 1]] w3 fun e w' => e = .returned (.bool true) ∧ Fresh w3 w' := by
    have h := equal_any _ (supN ks) (supN ks) (.slice AP 1 cp) (.slice (some ⟨g6, 0, none⟩) 1 1) w3 (Nat.le_refl _) HRP3.out HR63.out;rw [show Tr.eqN (supN ks) (supN ks) = true from (Tr.eqN_iff _ _).2 rfl] at h;exact h
   refine hE.mono ?_;clear hE;rintro _ w4 ⟨rfl, hf4⟩;have HF4 := hid (HF3.out.trans hf4);clear hf4;go_wp2_with fail
   exact HQ.out _ _ ⟨rfl, HF4.out⟩
end Go.Proofs.YtomibmenojdieaaGreat
namespace Go.Proofs.YtomibmenojdieaaGreat
open Go.RowKit
open Tr (Nd)
theorem LoadE.gen {W W' : World} {X : Option Mcr.Table} {e : Ending} (h : LoadE W X e W') : ∃ (pt : Option Addr) (i k er : Int), e = .returned (.tuple #[.pointer pt, .int .i64 i, .int .i64 k, .int .i64 er]) ∧ Fresh W W' ∧ ((X = none ∧ er ≠ 0) ∨ ∃ T, X = some T ∧ er = 0 ∧ TabV W' W'.heap.size T (.pointer pt)) := by
 cases X with
 | none =>
  obtain ⟨i, k, er, he, rfl, hf⟩ := h;exact ⟨none, i, k, er, rfl, hf, .inl ⟨rfl, he⟩⟩
 | some T =>
  obtain ⟨gt, bm, nr, sls, rfl, ht⟩ := h;exact ⟨some ⟨gt, 0, none⟩, 0, 0, 0, rfl, ht.fr, .inr ⟨T, rfl, rfl, ht.val⟩⟩
def StrRow (W : World) (A : Option Addr) (l : List ByteArray) : Prop := ∀ i (hi : i < l.length), ∃ g f, A = some ⟨g, f, none⟩ ∧ g < W.heap.size ∧ W.cell? ⟨g, f + i, none⟩ = some (.string l[i])
theorem StrRow.fresh {W W' : World} {A : Option Addr} {l : List ByteArray} (h : StrRow W A l) (hf : Fresh W W') : StrRow W' A l := fun i hi => by
 obtain ⟨g, f, h1, h2, h3⟩ := h i hi;exact ⟨g, f, h1, Nat.lt_of_lt_of_le h2 hf.size, hf.cell h3 (fun h => h)⟩
theorem Mcr.Args.snoc {T : Mcr.Table} {l : List Mcr.Bytes} {kss : List (List Nd)} (h : Mcr.Args T l kss) {a : Mcr.Bytes} {ks : List Nd} {q : Mcr.St} (ha : Mcr.readS 0 T a = .ok (ks, true) q) : Mcr.Args T (l ++ [a]) (kss ++ [ks]) := by
 induction h with
 | nil => exact .cons a ks q [] [] ha .nil
 | cons b js r l kss h _ ih => exact .cons b js r _ _ h ih
theorem Mcr.callT_snoc (nm : Mcr.Bytes) (l : List Mcr.Bytes) (a : Mcr.Bytes) : Mcr.callT nm (l ++ [a]) = Mcr.callT nm l ++ 123 :: (a ++ [125]) := by
 simp [Mcr.callT, Lx.brT]
theorem ba_len (x : ByteArray) : x.data.toList.length = x.size := by simp
structure CallSt (T : Mcr.Table) (nm : Mcr.Bytes) (as_ : List ByteArray) (q : Nat) (S : ByteArray) (kss : List (List Nd)) : Prop where
 text : S.data.toList = Mcr.callT nm ((as_.take q).map fun a => a.data.toList)
 args : Mcr.Args T ((as_.take q).map fun a => a.data.toList) kss
 len : kss.length = q
 size : S.size ≤ 17 + 202 * q
theorem CallSt.start (T : Mcr.Table) (nm : ByteArray) (as_ : List ByteArray) (hn : nm.data.toList.length ≤ 16) : CallSt T nm.data.toList as_ 0 ((⟨#[92]⟩ : ByteArray) ++ nm) [] := by
 have h1 : ((⟨#[92]⟩ : ByteArray) ++ nm).data.toList = 92 :: nm.data.toList := by simp [ByteArray.data_append]
 refine ⟨?_, ?_, rfl, ?_⟩
 ·rw [h1]; simp [Mcr.callT, Lx.brT]
 ·rw [List.take_zero]; exact .nil
 ·rw [← ba_len, h1, List.length_cons]; omega
theorem CallSt.next {T : Mcr.Table} {nm : Mcr.Bytes} {as_ : List ByteArray} {q : Nat} {S : ByteArray} {kss : List (List Nd)} (h : CallSt T nm as_ q S kss) (hq : q < as_.length) {ks : List Nd} {r : Mcr.St} (ha : Mcr.readS 0 T as_[q].data.toList = .ok (ks, true) r) (hs : as_[q].size ≤ 200) :
  CallSt T nm as_ (q + 1) (S ++ ((⟨#[123]⟩ : ByteArray) ++ as_[q] ++ (⟨#[125]⟩ : ByteArray))) (kss ++ [ks]) := by
 have e : (as_.take (q + 1)).map (fun a => a.data.toList) = (as_.take q).map (fun a => a.data.toList) ++ [as_[q].data.toList] := by
  rw [List.take_succ_eq_append_getElem hq, List.map_append]; rfl
 have h1 : (S ++ ((⟨#[123]⟩ : ByteArray) ++ as_[q] ++ (⟨#[125]⟩ : ByteArray))).data.toList = S.data.toList ++ 123 :: (as_[q].data.toList ++ [125]) := by simp [ByteArray.data_append]
 refine ⟨?_, ?_, ?_, ?_⟩
 ·rw [h1, e, Mcr.callT_snoc, h.text]
 ·rw [e]; exact h.args.snoc ha
 ·rw [List.length_append, h.len]; rfl
 ·have h2 := h.size
  rw [← ba_len] at h2 hs ⊢;rw [h1, List.length_append, List.length_cons, List.length_append, List.length_singleton];omega
theorem last_macro {ds : List Mcr.Def} {m : Mcr.Def} {T : Mcr.Table} (h : Mcr.loadF [] (ds ++ [m]) = some T) : Mcr.NameOK m.name ∧ ∃ mc, Mcr.getF T m.name = some mc ∧ mc.params = m.params.toNat ∧ 0 ≤ m.params ∧ m.params ≤ 4 := by
 obtain ⟨T0, ks, rfl, h2, h3, h4, h5, h6⟩ := Mcr.load_last ds m [] T h;exact ⟨Mcr.name_ok h3 h4, _, Mcr.getF_last (x := ⟨m.name, m.params.toNat, Np.slot ks⟩) h2, rfl, h5, h6⟩
theorem call_laws {T : Mcr.Table} {nm : Mcr.Bytes} (hn : Mcr.NameOK nm) {as_ : List ByteArray} {S : ByteArray} {kss : List (List Nd)} (h : CallSt T nm as_ as_.length S kss) {mc : Mcr.Mac} (hg : Mcr.getF T nm = some mc) (hp : mc.params = as_.length)
  {fd : Nd} (hx : Mcr.expandF T nm (kss.map Np.slot) = (fd, 0)) {sl sr : ByteArray} {kl kr : List Nd} {ql qr : Mcr.St} (hl : Mcr.readS 0 T sl.data.toList = .ok (kl, true) ql) (hr : Mcr.readS 0 T sr.data.toList = .ok (kr, true) qr) :
  fd = Np.slot fd.kids ∧ Tr.count fd ≤ 1000 ∧
  (Tr.valid (Np.slot (kl ++ fd.kids ++ kr)) = true → Mcr.parseF T (sl.data.toList ++ 32 :: (S.data.toList ++ 32 :: sr.data.toList)) = (Np.slot (kl ++ fd.kids ++ kr), 0, 0)) ∧
  (Tr.valid (supN fd.kids) = true → Mcr.parseF T (S.data.toList ++ [94, 50]) = (supN fd.kids, 0, 0)) := by
 have hc := Mcr.expandF_cnt (tb := T) (s := nm) (args := kss.map Np.slot) (by rw [hx]);rw [hx] at hc;have hlen : mc.params = kss.length := by rw [hp, h.len]
 refine ⟨Mcr.expand_row hx, hc, fun hv => ?_, fun hv => ?_⟩
 ·rw [h.text, List.append_assoc]
  rw [List.append_assoc] at hv;exact Mcr.law_placed hn h.args hg hlen hx hl hr hv
 ·rw [h.text]
  exact Mcr.law_scripted hn h.args hg hlen hx hv
end Go.Proofs.YtomibmenojdieaaGreat
