/- Part 12 of 12 of a proof; its texts, joined: SnJ, SnK, RtJ, SnF, RtK, RtL, RtI, RtM. No condition. -/
import Derived.Test.YtdacpbdamliafaaGreatRo11
import Derived.Test.YtdacpbdamliafaaGreatRo10
import Derived.Test.YtdacpbdamliafaaGreatRo9
import Derived.Test.YtdacpbdamliafaaGreatRo2
import Derived.ChangeSlices

/- The reference's positions of a row. -/
namespace Go.Proofs.YtdacpbdamliafaaGreat
open Go.RowKit
open Tr (Nd)
attribute [local go_sem] stillV stillUpon
theorem infoInts : (Tryz.prog.info? 25).map (fun i => (i.zero, i.size, i.bytes)) = some (some (.slice none 0 0), 1, 24) := by kernel_rfl
theorem PthAt.own {w : World} {B : Nat} {v : Value} {q : List Nat} (h : w.ownsRow B 3 1 v q.length (intVs (up q))) (hq : q ≠ []) : PthAt B none w v q := by
 rcases h.2 with ⟨_, h2⟩ | ⟨b, cap, cur, h1, hB, hb, h2, h3, _⟩
 ·exact absurd (List.length_eq_zero_iff.1 h2) hq
 ·refine ⟨b, cap, h1, h2, h3, hB, (h.lt b (by rw [h1]; rfl)).2, by simp, fun i hi => ?_⟩
  have := h.cells (g := b) (by rw [h1]; rfl) i (.int .i64 (q[i] : Nat)) (by simp [hi])
  rw [Addr.add_mid, Nat.zero_add] at this
  exact this
theorem PthAt.with {w : World} {B : Nat} {own : Option Nat} {v : Value} {q : List Nat} (h : PthAt B none w v q) (ho : ∀ b, own = some b → b < B) : PthAt B own w v q := by
 obtain ⟨b, cap, rfl, h1, h2, h3, h4, _, h6⟩ := h
 exact ⟨b, cap, rfl, h1, h2, h3, h4, fun e => by have := ho b e; omega, h6⟩
def AllOf (n : Nd) (p : List Nat) (w : World) (e : Ending) (w' : World) : Prop :=
 ∃ v cs, e = .returned v ∧ w'.ownsRow w.heap.size 25 1 v (allP n.kids p 0).length cs ∧ PthsAt w.heap.size v.ownBlock w' (allP n.kids p 0) cs ∧ Fresh w w'
set_option maxRecDepth 100000 in
set_option maxHeartbeats 1000000 in
theorem all_any (m : Nat) : ∀ (n : Nd) (sl v : Value) (p : List Nat) (w : World), Tr.count n ≤ m → Tr.count n ≤ 800 → RepL w n.kids sl → Ints w v (up p) → p.length + 2 * Tr.count n ≤ 4000 →
  Calls Tryz.prog 77 #[nv n sl, v] w (AllOf n p w) := by
 induction m with
 | zero => intro n sl v p w h; have := Tr.count_pos n; omega
 | succ m ih =>
  intro n sl v p w hm hc hr hp hpl
  obtain ⟨i, hi, hz0, hz1, hz2⟩ := info_parts infoInt
  obtain ⟨i', hi', hz0', hz1', hz2'⟩ := info_parts infoInts
  obtain ⟨A, cap, rfl⟩ := hr.slice
  obtain ⟨Ap, cp, rfl⟩ : ∃ A c, v = .slice A p.length c := by have := hp.slice; rwa [List.length_map] at this
  have HR := hid hr
  have HP := hid hp
  have HM := hid hm
  have HC := hid hc
  have HPL := hid hpl
  have hk8 : n.kids.length ≤ 800 := by have := Tr.count_kids n; have := Tr.countL_len n.kids; have := HC.out; omega
  have HIH := hid ih
  clear hr hp hm hc hpl ih
  go_enter Tryz.func77, Tryz.ntmps77
  go_wp2_with fail
  have hf1 : Fresh w (w.alloc (.cells #[.int .i64 n.kind, .string ⟨n.text.toArray⟩, .int .i64 n.cols, .slice A n.kids.length cap] 24)) := (Touch.refl _ _).alloc _
  have hb1 : Blk (w.alloc (.cells #[.int .i64 n.kind, .string ⟨n.text.toArray⟩, .int .i64 n.cols, .slice A n.kids.length cap] 24)) w.heap.size 24 #[.int .i64 n.kind, .string ⟨n.text.toArray⟩, .int .i64 n.cols, .slice A n.kids.length cap] := Blk.new _ _ _
  generalize (w.alloc (.cells #[.int .i64 n.kind, .string ⟨n.text.toArray⟩, .int .i64 n.cols, .slice A n.kids.length cap] 24)) = W1 at hf1 hb1 ⊢
  have HF1 := hid hf1
  have q1 := hb1.cell 3
  have HB1 := hid hb1.lt
  clear hf1 hb1
  go_loopw [5, 6] (fun o i wr => ∃ (j : Nat) (L : List (List Nat)) (cs : List Value), i = .int .i64 j ∧ j ≤ n.kids.length ∧ Hid (L ++ allP (n.kids.drop j) p j = allP n.kids p 0) ∧ Hid (wr.ownsRow W1.heap.size 25 1 o L.length cs) ∧ Hid (PthsAt W1.heap.size o.ownBlock wr L cs) ∧ Hid (Fresh W1 wr)) (fun o i _ => n.kids.length + 1 - (intOf i).toNat)
  case atStart => exact ⟨0, [], [], rfl, Nat.zero_le _, rfl, World.ownsRow_nil _ _ _ _, rfl, Touch.refl _ _⟩
  case round =>
   obtain ⟨j, L, cs, rfl, hj, HL, HO, HPS, HF⟩ := hrel
   obtain ⟨Ao, co, rfl⟩ := owns_slice HO.out
   have d1 : decide ((j : Int) ≤ (n.kids.length : Int)) = true := by simp; omega
   have q3 := HF.out.cell q1 (fun h => h)
   have HSRC := hid (show Src w 1 (.slice Ap p.length cp) p.length (intVs (up p)) from by have := Src.of_ints HP.out; rwa [List.length_map] at this)
   have HWR := hid (HF1.out.trans HF.out)
   go_wp2_with (at_builtin; refine wpList_append_src _ rfl (.tmp 16) (.tmp 17) 25 rfl wr.heap.size 3 i _ 1 8 rfl hi hz0 hz1 hz2 rfl (by decide) (.slice (some ⟨wr.heap.size, 0, none⟩) 0 0) 0 [] (by simp [Act.eval]) (World.ownsRow_lit wr #[] 0 (Nat.le_refl _) (Nat.zero_le _) rfl) (.slice Ap p.length cp) p.length (intVs (up p)) (by simp [Act.eval]) (HSRC.out.fresh (HWR.out.alloc _)) (intVs_one _) (by have := HPL.out; unfold maxLen; omega) (by have := HPL.out; omega) (by simp) ?_; intro v18 w18 ho18 hg18 hv18; refine Stay.mk ?_)
   rw [Nat.zero_add, List.nil_append] at ho18
   obtain ⟨A18, c18, rfl⟩ := owns_slice ho18
   have HF18 := hid (show Fresh wr w18 from Touch.grown ((Touch.refl _ wr).alloc _) hg18 fun g hg => .inr (by simp only [Value.ownBlock, Option.some.injEq] at hg; omega))
   have HO18 := hid ho18
   clear ho18 hg18 hv18
   refine Stay.go ?_
   go_wp2_with (at_builtin; refine wpList_append_src _ rfl (.tmp 18) (.tmp 20) 25 rfl wr.heap.size 3 i _ 1 8 rfl hi hz0 hz1 hz2 rfl (by decide) (.slice A18 p.length c18) p.length (intVs (up p)) (by simp [Act.eval]) (ownsRow_touch HO18.out ((Touch.refl _ _).alloc _) (fun _ _ h => h)) (.slice (some ⟨w18.heap.size, 0, none⟩) 1 1) 1 [.int .i64 (j : Int)] (by simp [Act.eval]) (Src.of_blk (Blk.new _ _ _) rfl) (by intro u hu; simp at hu; rw [hu]; rfl) (by have := HPL.out; unfold maxLen; omega) (by have := HPL.out; omega) (by have := HF18.out.size; simp; omega) ?_; intro v21 w21 ho21 hg21 hv21; refine Stay.mk ?_)
   have HF21 := hid (show Fresh wr w21 from touch_grown (HF18.out.alloc _) (ownsRow_touch HO18.out ((Touch.refl _ _).alloc _) (fun _ _ h => h)) (Nat.le_refl _) hg21)
   have hq : w21.ownsRow wr.heap.size 3 1 v21 (p ++ [j]).length (intVs (up (p ++ [j]))) := by
    have e1 : (p ++ [j]).length = p.length + 1 := by simp
    have e2 : intVs (up (p ++ [j])) = intVs (up p) ++ [.int .i64 (j : Int)] := by simp
    rw [e1, e2]
    exact ho21
   have HPA := hid (PthAt.own hq (by simp))
   obtain ⟨A21, c21, rfl⟩ := owns_slice ho21
   clear ho21 hg21 hv21 hq
   have hob : ∀ b, (Value.slice Ao L.length co).ownBlock = some b → b < wr.heap.size := fun b hb => (HO.out.lt b hb).2
   have HOB := hid hob
   have hL8 : L.length ≤ 1000 := by have h1 := congrArg List.length HL.out; rw [List.length_append, allP_len n.kids] at h1; have := Tr.count_kids n; have := HC.out; omega
   clear hob
   refine Stay.go ?_
   go_wp2_with (at_builtin; refine wpList_append_src _ rfl (.tmp 15) (.tmp 22) 81 rfl W1.heap.size 25 i' _ 1 24 rfl hi' hz0' hz1' hz2' rfl (by decide) (.slice Ao L.length co) L.length cs (by simp [Act.eval]) (ownsRow_touch HO.out (HF21.out.alloc _) (fun _ _ h => h)) (.slice (some ⟨w21.heap.size, 0, none⟩) 1 1) 1 [.slice A21 (p.length + 1) c21] (by simp [Act.eval]) (Src.of_blk (Blk.new _ _ _) rfl) (by intro u hu; simp at hu; rw [hu]; rfl) (by unfold maxLen; omega) (by omega) (by have := HF21.out.size; have := HF.out.size; simp; omega) ?_; intro v23 w23 ho23 hg23 hv23; refine Stay.mk ?_)
   have HT23 := hid (show Touch (fun k => (Value.slice Ao L.length co).ownBlock = some k) wr w23 from ((HF21.out.alloc _).mono (fun _ h => h.elim)).grown hg23 fun g h => .inl h)
   have HF23 := hid (show Fresh W1 w23 from touch_grown (HF.out.trans (HF21.out.alloc _)) (ownsRow_touch HO.out (HF21.out.alloc _) (fun _ _ h => h)) (Nat.le_refl _) hg23)
   have HO23 := hid ho23
   have hnew : ∀ b, v23.ownBlock = some b → (Value.slice Ao L.length co).ownBlock = some b ∨ w21.heap.size ≤ b := fun b hb => by
    rcases hv23 with e | e
    ·exact .inl (by rw [← e]; exact hb)
    ·rw [e] at hb
     simp only [Option.some.injEq] at hb
     exact .inr (by simp at hb; omega)
   have HPS23 := hid (show PthsAt W1.heap.size v23.ownBlock w23 (L ++ [p ++ [j]]) (cs ++ [.slice A21 (p.length + 1) c21]) from
    (HPS.out.mv HT23.out (fun b hb => (hnew b hb).imp id fun h => Nat.le_trans HF21.out.size h) (Nat.le_refl _)).append
     ⟨_, [], rfl, (HPA.out.with HOB.out).mv (((Touch.refl _ _).alloc _).grown hg23 fun g h => .inl h) hnew HF.out.size, rfl⟩)
   obtain ⟨A23, c23, rfl⟩ := owns_slice ho23
   clear ho23 hg23 hv23 hnew
   have q3' := HF23.out.cell q1 (fun h => h)
   clear q3
   refine Stay.go ?_
   by_cases c1 : j = n.kids.length
   ·have d2' : ((j : Int) == (n.kids.length : Int)) = true := by simp; omega
    have HE := hid (show allP n.kids p 0 = L ++ [p ++ [j]] from by rw [← HL.out, c1, List.drop_length, allP_nil])
    subst c1
    go_wp2_with fail
    go_ret
    refine ⟨_, cs ++ [.slice A21 (p.length + 1) c21], rfl, ?_, ?_, HF1.out.trans HF23.out⟩
    ·rw [HE.out, List.length_append]; exact ownsRow_low HO23.out HF1.out.size
    ·rw [HE.out]; exact HPS23.out.mv (Touch.refl _ _) (fun _ h => .inl h) HF1.out.size
   ·have d2' : ((j : Int) == (n.kids.length : Int)) = false := by simp; omega
    have c2 : j < n.kids.length := by omega
    have c2' : (j : Int) < (n.kids.length : Int) := by omega
    obtain ⟨g, o, sj, rfl, hg, m0, m1, m2, m3, hrj⟩ := HR.out.get j c2
    have HD := hid (show (L ++ [p ++ [j]]) ++ (allK n.kids[j].kids (p ++ [j]) 0 ++ allP (n.kids.drop (j + 1)) p (j + 1)) = allP n.kids p 0 from by rw [← HL.out, allP_drop _ _ _ c2]; simp)
    have HIN := hid (show ∀ x ∈ n.kids[j].kids, Tr.count x ≤ m ∧ Tr.count x ≤ 800 ∧ p.length + 2 + 2 * Tr.count x ≤ 4000 from fun x hx => by
     have h1 := Tr.count_mem hx
     have h2 := Tr.count_kids n.kids[j]
     have h3 := Tr.count_mem (List.getElem_mem c2)
     have h4 := Tr.count_kids n
     have h5 := HM.out
     have h6 := HC.out
     have h7 := HPL.out
     omega)
    have hkj : n.kids[j].kids.length ≤ 800 := by
     have h1 := Tr.countL_len n.kids[j].kids
     have h2 := Tr.count_kids n.kids[j]
     have h3 := Tr.count_mem (List.getElem_mem c2)
     have h4 := Tr.count_kids n
     have h6 := HC.out
     omega
    generalize n.kids[j] = nj at hrj HD HIN hkj
    obtain ⟨Aj, cj, rfl⟩ := hrj.slice
    have HRJ := hid hrj
    have HM3 := hid m3
    clear m0 m1 m2 m3 hrj hg
    generalize hRe : allP (n.kids.drop (j + 1)) p (j + 1) = R at HD
    have HRE := hid hRe
    clear hRe
    go_wp2_with fail
    go_loopw [5, 7] (fun o2 k2 wr2 => ∃ (k : Nat) (L2 : List (List Nat)) (cs2 : List Value), k2 = .int .i64 k ∧ k ≤ nj.kids.length ∧ Hid (L2 ++ (allK (nj.kids.drop k) (p ++ [j]) k ++ R) = allP n.kids p 0) ∧ Hid (wr2.ownsRow W1.heap.size 25 1 o2 L2.length cs2) ∧ Hid (PthsAt W1.heap.size o2.ownBlock wr2 L2 cs2) ∧ Hid (Fresh W1 wr2)) (fun o2 k2 _ => nj.kids.length - (intOf k2).toNat)
    case atStart => exact ⟨0, L ++ [p ++ [j]], cs ++ [.slice A21 (p.length + 1) c21], rfl, Nat.zero_le _, HD, by unfold Hid; rw [List.length_append]; exact HO23.out, HPS23, HF23⟩
    case round =>
     obtain ⟨k, L2, cs2, rfl, hk, HL2, HO2, HPS2, HFI⟩ := hrel
     clear q3' HF18 HO18 HF21 HPA HOB HT23 HO23 HPS23 HF23 HSRC HWR
     obtain ⟨Ao2, co2, rfl⟩ := owns_slice HO2.out
     have HWR := hid (HF1.out.trans HFI.out)
     have HSRC := hid (show Src w 1 (.slice Ap p.length cp) p.length (intVs (up p)) from by have := Src.of_ints HP.out; rwa [List.length_map] at this)
     have q3 := HFI.out.cell q1 (fun h => h)
     have m3 := HWR.out.cell HM3.out (fun h => h)
     by_cases c3 : k < nj.kids.length
     ·have d3 : decide ((k : Int) < (nj.kids.length : Int)) = true := by simp; omega
      have d3n : decide (k < nj.kids.length) = true := by simp; omega
      have c3' : (k : Int) < (nj.kids.length : Int) := by omega
      obtain ⟨g2, o2, sk, rfl, hg2, n0, n1, n2, n3, hrk⟩ := HRJ.out.get k c3
      have HDR := hid (show allK (nj.kids.drop k) (p ++ [j]) k = allP nj.kids[k].kids (p ++ [j, k]) 0 ++ allK (nj.kids.drop (k + 1)) (p ++ [j]) (k + 1) from by rw [allK_drop _ _ _ c3]; simp)
      have HNK := hid (HIN.out _ (List.getElem_mem c3))
      generalize nj.kids[k] = nk at n0 n1 n2 n3 hrk HDR HNK
      obtain ⟨Ak, ck, rfl⟩ := hrk.slice
      have HRK := hid hrk
      have HLN := hid (show L2.length + (allP nk.kids (p ++ [j, k]) 0).length ≤ 1000 from by
       have h1 := congrArg List.length HL2.out
       rw [HDR.out, List.length_append, List.length_append, List.length_append, allP_len n.kids] at h1
       have := Tr.count_kids n
       have := HC.out
       omega)
      have a0 := HWR.out.cell n0 (fun h => h)
      have a1 := HWR.out.cell n1 (fun h => h)
      have a2 := HWR.out.cell n2 (fun h => h)
      have a3 := HWR.out.cell n3 (fun h => h)
      clear n0 n1 n2 n3 hrk hg2
      go_wp2_with fail
      have r3 := cell_regrown q3
      have s3 := cell_regrown m3
      have b0 := cell_regrown a0
      have b1 := cell_regrown a1
      have b2 := cell_regrown a2
      have b3 := cell_regrown a3
      refine wp_region_plan (Plan.of [(0, true), (1, true), (2, true), (3, true), (4, true), (5, true), (6, true), (7, true), (8, true), (9, true), (11, true), (13, true), (14, true)] (.fork 10 (.fork 12 (.lone 15 (.lone 16 (.lone 17 .nil))) 15 (.lone 12 (.lone 16 (.lone 17 .nil)))) 15 (.lone 10 (.lone 12 (.lone 16 (.lone 17 .nil))))))
       [0, 1, 2, 3, 4, 5, 6, 7, 8, 9, 10, 11, 12, 13, 14, 15, 16, 17] 18 #[true, true, true, true, true, true, true, true, true, true, true, true, true, true, true, true, true, true, false, false] [] [(19, true)] (by kernel_rfl) (fun _ _ d _ _ h => by cases d <;> exact h) (by kernel_rfl) ?_
      unfold Plan.of
      repeat (refine wpPlan_plain rfl (fun K hK => ?_); go_simp; refine hK _ ?_; clear hK K; first | done | unfold Plan.of)
      refine wpPlan_fork ?_ ?_
      ·skip
       refine wpPlan_lone rfl (fun K hK => ?_)
       go_wp2_with fail
       have HF10 := hid (show Fresh wr ((wr.drewN 1).alloc (.cells #[] 3)) from ((Touch.refl _ wr).drewN 1).alloc _)
       refine hK _ _ (growing_fresh HF10.out) ?_
       clear hK K
       have HO10 := hid (show ((wr.drewN 1).alloc (.cells #[] 3)).ownsRow wr.heap.size 3 1 (.slice (some ⟨wr.heap.size, 0, none⟩) 0 0) 0 [] from World.ownsRow_lit (wr.drewN 1) #[] 0 (by simp) (Nat.zero_le _) rfl)
       have HZ10 := hid (show ((wr.drewN 1).alloc (.cells #[] 3)).heap.size = wr.heap.size + 1 from by simp)
       generalize ((wr.drewN 1).alloc (.cells #[] 3)) = W10 at *
       refine wpPlan_fork ?_ ?_
       ·skip
        refine wpPlan_lone rfl (fun K hK => ?_)
        go_wp2_with (at_builtin; refine wpList_append_src _ rfl (.tmp 50) (.tmp 51) 25 rfl wr.heap.size 3 i _ 1 8 rfl hi hz0 hz1 hz2 rfl (by decide) (.slice (some ⟨wr.heap.size, 0, none⟩) 0 0) 0 [] (by simp [Act.eval]) HO10.out (.slice Ap p.length cp) p.length (intVs (up p)) (by simp [Act.eval]) (HSRC.out.fresh (HWR.out.trans HF10.out)) (intVs_one _) (by have := HPL.out; unfold maxLen; omega) (by have := HPL.out; omega) HF10.out.size ?_; intro v12 W12 ho12 hg12 _; refine Stay.mk ?_)
        rw [Nat.zero_add, List.nil_append] at ho12
        obtain ⟨A12, c12, rfl⟩ := owns_slice ho12
        have HF12 := hid (show Fresh wr W12 from touch_grown HF10.out HO10.out (Nat.le_refl _) hg12)
        have HO12 := hid ho12
        clear ho12 hg12
        refine Stay.go ?_
        go_wp2_with fail
        refine hK _ _ (growing_fresh HF12.out) ?_
        clear hK K
        refine wpPlan_lone rfl (fun K hK => ?_)
        go_wp2_with fail
        have HF15 := hid (show Fresh wr (W12.alloc (.cells #[.int .i64 (j : Int), .int .i64 (k : Int)] 3)) from HF12.out.alloc _)
        refine hK _ _ (growing_fresh HF15.out) ?_
        clear hK K
        have HB15 := hid (show Blk (W12.alloc (.cells #[.int .i64 (j : Int), .int .i64 (k : Int)] 3)) W12.heap.size 3 #[.int .i64 (j : Int), .int .i64 (k : Int)] from Blk.new W12 _ _)
        have HO15 := hid (ownsRow_touch HO12.out (((Touch.refl _ _).alloc _ : Fresh W12 (W12.alloc (.cells #[.int .i64 (j : Int), .int .i64 (k : Int)] 3)))) (fun _ _ h => h))
        generalize (W12.alloc (.cells #[.int .i64 (j : Int), .int .i64 (k : Int)] 3)) = W15 at *
        refine wpPlan_lone rfl (fun K hK => ?_)
        go_wp2_with (at_builtin; refine wpList_append_src _ rfl (.tmp 52) (.tmp 55) 25 rfl wr.heap.size 3 i _ 1 8 rfl hi hz0 hz1 hz2 rfl (by decide) (.slice A12 p.length c12) p.length (intVs (up p)) (by simp [Act.eval]) HO15.out (.slice (some ⟨W12.heap.size, 0, none⟩) 2 2) 2 [.int .i64 (j : Int), .int .i64 (k : Int)] (by simp [Act.eval]) (Src.of_blk HB15.out rfl) (by intro u hu; simp at hu; rcases hu with rfl | rfl <;> rfl) (by have := HPL.out; unfold maxLen; omega) (by have := HPL.out; omega) HF15.out.size ?_; intro v16 W16 ho16 hg16 _; refine Stay.mk ?_)
        have HF16 := hid (show Fresh wr W16 from touch_grown HF15.out HO15.out (Nat.le_refl _) hg16)
        have hq : W16.ownsRow wr.heap.size 3 1 v16 (p ++ [j, k]).length (intVs (up (p ++ [j, k]))) := by
         have e1 : (p ++ [j, k]).length = p.length + 2 := by simp
         have e2 : intVs (up (p ++ [j, k])) = intVs (up p) ++ [.int .i64 (j : Int), .int .i64 (k : Int)] := by simp
         rw [e1, e2]
         exact ho16
        have HI16 := hid (show Ints W16 v16 (up (p ++ [j, k])) from Ints.own (by rw [List.length_map]; exact hq))
        obtain ⟨A16, c16, rfl⟩ := owns_slice ho16
        clear ho16 hg16 hq
        refine Stay.go ?_
        go_wp2_with fail
        refine hK _ _ (growing_fresh HF16.out) ?_
        clear hK K
        refine wpPlan_lone rfl (fun K hK => ?_)
        go_wp2_with fail
        refine (HIH.out nk _ _ (p ++ [j, k]) _ HNK.out.1 HNK.out.2.1 (HRK.out.fresh (HWR.out.trans HF16.out)) HI16.out (by have := HNK.out.2.2; simp only [List.length_append, List.length_cons, List.length_nil]; omega)).mono ?_
        rintro _ W17 ⟨v17, cs17, rfl, ho17, hps17, hf17⟩
        have HF17 := hid (HF16.out.trans hf17)
        have HO17 := hid ho17
        have HPS17 := hid hps17
        have HS16 := hid HF16.out.size
        obtain ⟨A17, c17, rfl⟩ := owns_slice ho17
        clear ho17 hps17 hf17
        go_wp2_with fail
        refine hK _ _ (growing_fresh HF17.out) ?_
        clear hK K
        refine wpPlan_shut rfl (fun K hK => ?_)
        go_wp2_with (at_builtin; refine wpList_append_src _ rfl (.tmp 40) (.tmp 57) 81 rfl W1.heap.size 25 i' _ 1 24 rfl hi' hz0' hz1' hz2' rfl (by decide) (.slice Ao2 L2.length co2) L2.length cs2 (by simp [Act.eval]) (ownsRow_touch HO2.out HF17.out (fun _ _ h => h)) (.slice A17 (allP nk.kids (p ++ [j, k]) 0).length c17) (allP nk.kids (p ++ [j, k]) 0).length cs17 (by simp [Act.eval]) (Src.of_own HO17.out) HPS17.out.oneCell (by have := HLN.out; unfold maxLen; omega) (by have := HLN.out; omega) (by have := HF17.out.size; have := HFI.out.size; omega) ?_; intro v18 W18 ho18 hg18 hv18; refine Stay.mk ?_)
        have HT18 := hid (show Touch (fun b => (Value.slice Ao2 L2.length co2).ownBlock = some b) wr W18 from (HF17.out.mono (fun _ h => h.elim)).grown hg18 fun g h => .inl h)
        have HT18' := hid (show Touch (fun b => (Value.slice Ao2 L2.length co2).ownBlock = some b) W17 W18 from (Touch.refl _ _).grown hg18 fun g h => .inl h)
        have HF18' := hid (show Fresh W1 W18 from touch_grown (HFI.out.trans HF17.out) (ownsRow_touch HO2.out HF17.out (fun _ _ h => h)) (Nat.le_refl _) hg18)
        have HO18' := hid ho18
        have hnew : ∀ b, v18.ownBlock = some b → (Value.slice Ao2 L2.length co2).ownBlock = some b ∨ W17.heap.size ≤ b := fun b hb => by
         rcases hv18 with e | e
         ·exact .inl (by rw [← e]; exact hb)
         ·rw [e] at hb
          simp only [Option.some.injEq] at hb
          exact .inr (by omega)
        have hold : ∀ b, (Value.slice Ao2 L2.length co2).ownBlock = some b → b < wr.heap.size := fun b hb => (HO2.out.lt b hb).2
        have HPS18 := hid (show PthsAt W1.heap.size v18.ownBlock W18 (L2 ++ allP nk.kids (p ++ [j, k]) 0) (cs2 ++ cs17) from
         (HPS2.out.mv HT18.out (fun b hb => (hnew b hb).imp id fun h => Nat.le_trans HF17.out.size h) (Nat.le_refl _)).append
          ((HPS17.out.mv' (fun b hb => Nat.lt_of_lt_of_le (hold b hb) HS16.out)).mv HT18'.out hnew (Nat.le_trans HFI.out.size HS16.out)))
        obtain ⟨A18', c18', rfl⟩ := owns_slice ho18
        clear ho18 hg18 hv18 hnew hold
        refine Stay.go ?_
        go_wp2_with fail
        refine wpMix_last ?_
        repeat (refine wpSeq_plain rfl (fun K hK => ?_); go_simp; refine hK _ ?_; clear hK K)
        refine wpSeq_end ?_
        go_wp2_with fail
        go_roundw
        case rel => exact ⟨k + 1, L2 ++ allP nk.kids (p ++ [j, k]) 0, cs2 ++ cs17, by first | go_num | simp, by omega, by unfold Hid; rw [← HL2.out, HDR.out]; simp, by unfold Hid; rw [List.length_append]; exact HO18'.out, HPS18, HF18'⟩
        case measure => first | (simp [intOf]; omega) | (simp [intOf]; done)
       ·skip
        refine wpPlan_lone rfl (fun K hK => ?_)
        go_wp2_with fail
        have HF15 := hid (show Fresh wr (W10.alloc (.cells #[.int .i64 (j : Int), .int .i64 (k : Int)] 3)) from HF10.out.alloc _)
        refine hK _ _ (growing_fresh HF15.out) ?_
        clear hK K
        have HB15 := hid (show Blk (W10.alloc (.cells #[.int .i64 (j : Int), .int .i64 (k : Int)] 3)) W10.heap.size 3 #[.int .i64 (j : Int), .int .i64 (k : Int)] from Blk.new W10 _ _)
        have HO15 := hid (ownsRow_touch HO10.out (((Touch.refl _ _).alloc _ : Fresh W10 (W10.alloc (.cells #[.int .i64 (j : Int), .int .i64 (k : Int)] 3)))) (fun _ _ h => h))
        generalize (W10.alloc (.cells #[.int .i64 (j : Int), .int .i64 (k : Int)] 3)) = W15 at *
        refine wpPlan_lone rfl (fun K hK => ?_)
        go_wp2_with (at_builtin; refine wpList_append_src _ rfl (.tmp 50) (.tmp 51) 25 rfl wr.heap.size 3 i _ 1 8 rfl hi hz0 hz1 hz2 rfl (by decide) (.slice (some ⟨wr.heap.size, 0, none⟩) 0 0) 0 [] (by simp [Act.eval]) HO15.out (.slice Ap p.length cp) p.length (intVs (up p)) (by simp [Act.eval]) (HSRC.out.fresh (HWR.out.trans HF15.out)) (intVs_one _) (by have := HPL.out; unfold maxLen; omega) (by have := HPL.out; omega) HF15.out.size ?_; intro v12 W12 ho12 hg12 _; refine Stay.mk ?_)
        rw [Nat.zero_add, List.nil_append] at ho12
        obtain ⟨A12, c12, rfl⟩ := owns_slice ho12
        have HF12 := hid (show Fresh wr W12 from touch_grown HF15.out HO15.out (Nat.le_refl _) hg12)
        have HO12 := hid ho12
        have HB12 := hid (show Blk W12 W10.heap.size 3 #[.int .i64 (j : Int), .int .i64 (k : Int)] from ((Touch.refl (fun b => b = wr.heap.size) _).grown hg12 fun g h => .inl (by simp only [Value.ownBlock, Option.some.injEq] at h; exact h.symm)).blk HB15.out (by intro e; have := HZ10.out; omega))
        clear ho12 hg12
        refine Stay.go ?_
        go_wp2_with fail
        refine hK _ _ (growing_fresh HF12.out) ?_
        clear hK K
        refine wpPlan_lone rfl (fun K hK => ?_)
        go_wp2_with (at_builtin; refine wpList_append_src _ rfl (.tmp 52) (.tmp 55) 25 rfl wr.heap.size 3 i _ 1 8 rfl hi hz0 hz1 hz2 rfl (by decide) (.slice A12 p.length c12) p.length (intVs (up p)) (by simp [Act.eval]) HO12.out (.slice (some ⟨W10.heap.size, 0, none⟩) 2 2) 2 [.int .i64 (j : Int), .int .i64 (k : Int)] (by simp [Act.eval]) (Src.of_blk HB12.out rfl) (by intro u hu; simp at hu; rcases hu with rfl | rfl <;> rfl) (by have := HPL.out; unfold maxLen; omega) (by have := HPL.out; omega) HF12.out.size ?_; intro v16 W16 ho16 hg16 _; refine Stay.mk ?_)
        have HF16 := hid (show Fresh wr W16 from touch_grown HF12.out HO12.out (Nat.le_refl _) hg16)
        have hq : W16.ownsRow wr.heap.size 3 1 v16 (p ++ [j, k]).length (intVs (up (p ++ [j, k]))) := by
         have e1 : (p ++ [j, k]).length = p.length + 2 := by simp
         have e2 : intVs (up (p ++ [j, k])) = intVs (up p) ++ [.int .i64 (j : Int), .int .i64 (k : Int)] := by simp
         rw [e1, e2]
         exact ho16
        have HI16 := hid (show Ints W16 v16 (up (p ++ [j, k])) from Ints.own (by rw [List.length_map]; exact hq))
        obtain ⟨A16, c16, rfl⟩ := owns_slice ho16
        clear ho16 hg16 hq
        refine Stay.go ?_
        go_wp2_with fail
        refine hK _ _ (growing_fresh HF16.out) ?_
        clear hK K
        refine wpPlan_lone rfl (fun K hK => ?_)
        go_wp2_with fail
        refine (HIH.out nk _ _ (p ++ [j, k]) _ HNK.out.1 HNK.out.2.1 (HRK.out.fresh (HWR.out.trans HF16.out)) HI16.out (by have := HNK.out.2.2; simp only [List.length_append, List.length_cons, List.length_nil]; omega)).mono ?_
        rintro _ W17 ⟨v17, cs17, rfl, ho17, hps17, hf17⟩
        have HF17 := hid (HF16.out.trans hf17)
        have HO17 := hid ho17
        have HPS17 := hid hps17
        have HS16 := hid HF16.out.size
        obtain ⟨A17, c17, rfl⟩ := owns_slice ho17
        clear ho17 hps17 hf17
        go_wp2_with fail
        refine hK _ _ (growing_fresh HF17.out) ?_
        clear hK K
        refine wpPlan_shut rfl (fun K hK => ?_)
        go_wp2_with (at_builtin; refine wpList_append_src _ rfl (.tmp 40) (.tmp 57) 81 rfl W1.heap.size 25 i' _ 1 24 rfl hi' hz0' hz1' hz2' rfl (by decide) (.slice Ao2 L2.length co2) L2.length cs2 (by simp [Act.eval]) (ownsRow_touch HO2.out HF17.out (fun _ _ h => h)) (.slice A17 (allP nk.kids (p ++ [j, k]) 0).length c17) (allP nk.kids (p ++ [j, k]) 0).length cs17 (by simp [Act.eval]) (Src.of_own HO17.out) HPS17.out.oneCell (by have := HLN.out; unfold maxLen; omega) (by have := HLN.out; omega) (by have := HF17.out.size; have := HFI.out.size; omega) ?_; intro v18 W18 ho18 hg18 hv18; refine Stay.mk ?_)
        have HT18 := hid (show Touch (fun b => (Value.slice Ao2 L2.length co2).ownBlock = some b) wr W18 from (HF17.out.mono (fun _ h => h.elim)).grown hg18 fun g h => .inl h)
        have HT18' := hid (show Touch (fun b => (Value.slice Ao2 L2.length co2).ownBlock = some b) W17 W18 from (Touch.refl _ _).grown hg18 fun g h => .inl h)
        have HF18' := hid (show Fresh W1 W18 from touch_grown (HFI.out.trans HF17.out) (ownsRow_touch HO2.out HF17.out (fun _ _ h => h)) (Nat.le_refl _) hg18)
        have HO18' := hid ho18
        have hnew : ∀ b, v18.ownBlock = some b → (Value.slice Ao2 L2.length co2).ownBlock = some b ∨ W17.heap.size ≤ b := fun b hb => by
         rcases hv18 with e | e
         ·exact .inl (by rw [← e]; exact hb)
         ·rw [e] at hb
          simp only [Option.some.injEq] at hb
          exact .inr (by omega)
        have hold : ∀ b, (Value.slice Ao2 L2.length co2).ownBlock = some b → b < wr.heap.size := fun b hb => (HO2.out.lt b hb).2
        have HPS18 := hid (show PthsAt W1.heap.size v18.ownBlock W18 (L2 ++ allP nk.kids (p ++ [j, k]) 0) (cs2 ++ cs17) from
         (HPS2.out.mv HT18.out (fun b hb => (hnew b hb).imp id fun h => Nat.le_trans HF17.out.size h) (Nat.le_refl _)).append
          ((HPS17.out.mv' (fun b hb => Nat.lt_of_lt_of_le (hold b hb) HS16.out)).mv HT18'.out hnew (Nat.le_trans HFI.out.size HS16.out)))
        obtain ⟨A18', c18', rfl⟩ := owns_slice ho18
        clear ho18 hg18 hv18 hnew hold
        refine Stay.go ?_
        go_wp2_with fail
        refine wpMix_last ?_
        repeat (refine wpSeq_plain rfl (fun K hK => ?_); go_simp; refine hK _ ?_; clear hK K)
        refine wpSeq_end ?_
        go_wp2_with fail
        go_roundw
        case rel => exact ⟨k + 1, L2 ++ allP nk.kids (p ++ [j, k]) 0, cs2 ++ cs17, by first | go_num | simp, by omega, by unfold Hid; rw [← HL2.out, HDR.out]; simp, by unfold Hid; rw [List.length_append]; exact HO18'.out, HPS18, HF18'⟩
        case measure => first | (simp [intOf]; omega) | (simp [intOf]; done)
      ·skip
       refine wpPlan_lone rfl (fun K hK => ?_)
       go_wp2_with fail
       have HF15 := hid (show Fresh wr ((wr.drewN 1).alloc (.cells #[.int .i64 (j : Int), .int .i64 (k : Int)] 3)) from ((Touch.refl _ wr).drewN 1).alloc _)
       refine hK _ _ (growing_fresh HF15.out) ?_
       clear hK K
       have HB15 := hid (show Blk ((wr.drewN 1).alloc (.cells #[.int .i64 (j : Int), .int .i64 (k : Int)] 3)) wr.heap.size 3 #[.int .i64 (j : Int), .int .i64 (k : Int)] from Blk.new (wr.drewN 1) _ _)
       generalize ((wr.drewN 1).alloc (.cells #[.int .i64 (j : Int), .int .i64 (k : Int)] 3)) = W15 at *
       refine wpPlan_lone rfl (fun K hK => ?_)
       go_wp2_with fail
       have HF10 := hid (show Fresh wr (W15.alloc (.cells #[] 3)) from HF15.out.alloc _)
       refine hK _ _ (growing_fresh HF10.out) ?_
       clear hK K
       have HO10 := hid (show (W15.alloc (.cells #[] 3)).ownsRow wr.heap.size 3 1 (.slice (some ⟨W15.heap.size, 0, none⟩) 0 0) 0 [] from World.ownsRow_lit W15 #[] 0 HF15.out.size (Nat.zero_le _) rfl)
       have HZ10 := hid (show (W15.alloc (.cells #[] 3)).heap.size = W15.heap.size + 1 from by simp)
       have HB10 := hid (HB15.out.alloc (.cells #[] 3))
       generalize (W15.alloc (.cells #[] 3)) = W10 at *
       refine wpPlan_lone rfl (fun K hK => ?_)
       go_wp2_with (at_builtin; refine wpList_append_src _ rfl (.tmp 50) (.tmp 51) 25 rfl wr.heap.size 3 i _ 1 8 rfl hi hz0 hz1 hz2 rfl (by decide) (.slice (some ⟨W15.heap.size, 0, none⟩) 0 0) 0 [] (by simp [Act.eval]) HO10.out (.slice Ap p.length cp) p.length (intVs (up p)) (by simp [Act.eval]) (HSRC.out.fresh (HWR.out.trans HF10.out)) (intVs_one _) (by have := HPL.out; unfold maxLen; omega) (by have := HPL.out; omega) HF10.out.size ?_; intro v12 W12 ho12 hg12 _; refine Stay.mk ?_)
       rw [Nat.zero_add, List.nil_append] at ho12
       obtain ⟨A12, c12, rfl⟩ := owns_slice ho12
       have HF12 := hid (show Fresh wr W12 from touch_grown HF10.out HO10.out (Nat.le_refl _) hg12)
       have HO12 := hid ho12
       have HB12 := hid (show Blk W12 wr.heap.size 3 #[.int .i64 (j : Int), .int .i64 (k : Int)] from ((Touch.refl (fun b => b = W15.heap.size) _).grown hg12 fun g h => .inl (by simp only [Value.ownBlock, Option.some.injEq] at h; exact h.symm)).blk HB10.out (by intro e; have := HB15.out.lt; omega))
       clear ho12 hg12
       refine Stay.go ?_
       go_wp2_with fail
       refine hK _ _ (growing_fresh HF12.out) ?_
       clear hK K
       refine wpPlan_lone rfl (fun K hK => ?_)
       go_wp2_with (at_builtin; refine wpList_append_src _ rfl (.tmp 52) (.tmp 55) 25 rfl wr.heap.size 3 i _ 1 8 rfl hi hz0 hz1 hz2 rfl (by decide) (.slice A12 p.length c12) p.length (intVs (up p)) (by simp [Act.eval]) HO12.out (.slice (some ⟨wr.heap.size, 0, none⟩) 2 2) 2 [.int .i64 (j : Int), .int .i64 (k : Int)] (by simp [Act.eval]) (Src.of_blk HB12.out rfl) (by intro u hu; simp at hu; rcases hu with rfl | rfl <;> rfl) (by have := HPL.out; unfold maxLen; omega) (by have := HPL.out; omega) HF12.out.size ?_; intro v16 W16 ho16 hg16 _; refine Stay.mk ?_)
       have HF16 := hid (show Fresh wr W16 from touch_grown HF12.out HO12.out (Nat.le_refl _) hg16)
       have hq : W16.ownsRow wr.heap.size 3 1 v16 (p ++ [j, k]).length (intVs (up (p ++ [j, k]))) := by
        have e1 : (p ++ [j, k]).length = p.length + 2 := by simp
        have e2 : intVs (up (p ++ [j, k])) = intVs (up p) ++ [.int .i64 (j : Int), .int .i64 (k : Int)] := by simp
        rw [e1, e2]
        exact ho16
       have HI16 := hid (show Ints W16 v16 (up (p ++ [j, k])) from Ints.own (by rw [List.length_map]; exact hq))
       obtain ⟨A16, c16, rfl⟩ := owns_slice ho16
       clear ho16 hg16 hq
       refine Stay.go ?_
       go_wp2_with fail
       refine hK _ _ (growing_fresh HF16.out) ?_
       clear hK K
       refine wpPlan_lone rfl (fun K hK => ?_)
       go_wp2_with fail
       refine (HIH.out nk _ _ (p ++ [j, k]) _ HNK.out.1 HNK.out.2.1 (HRK.out.fresh (HWR.out.trans HF16.out)) HI16.out (by have := HNK.out.2.2; simp only [List.length_append, List.length_cons, List.length_nil]; omega)).mono ?_
       rintro _ W17 ⟨v17, cs17, rfl, ho17, hps17, hf17⟩
       have HF17 := hid (HF16.out.trans hf17)
       have HO17 := hid ho17
       have HPS17 := hid hps17
       have HS16 := hid HF16.out.size
       obtain ⟨A17, c17, rfl⟩ := owns_slice ho17
       clear ho17 hps17 hf17
       go_wp2_with fail
       refine hK _ _ (growing_fresh HF17.out) ?_
       clear hK K
       refine wpPlan_shut rfl (fun K hK => ?_)
       go_wp2_with (at_builtin; refine wpList_append_src _ rfl (.tmp 40) (.tmp 57) 81 rfl W1.heap.size 25 i' _ 1 24 rfl hi' hz0' hz1' hz2' rfl (by decide) (.slice Ao2 L2.length co2) L2.length cs2 (by simp [Act.eval]) (ownsRow_touch HO2.out HF17.out (fun _ _ h => h)) (.slice A17 (allP nk.kids (p ++ [j, k]) 0).length c17) (allP nk.kids (p ++ [j, k]) 0).length cs17 (by simp [Act.eval]) (Src.of_own HO17.out) HPS17.out.oneCell (by have := HLN.out; unfold maxLen; omega) (by have := HLN.out; omega) (by have := HF17.out.size; have := HFI.out.size; omega) ?_; intro v18 W18 ho18 hg18 hv18; refine Stay.mk ?_)
       have HT18 := hid (show Touch (fun b => (Value.slice Ao2 L2.length co2).ownBlock = some b) wr W18 from (HF17.out.mono (fun _ h => h.elim)).grown hg18 fun g h => .inl h)
       have HT18' := hid (show Touch (fun b => (Value.slice Ao2 L2.length co2).ownBlock = some b) W17 W18 from (Touch.refl _ _).grown hg18 fun g h => .inl h)
       have HF18' := hid (show Fresh W1 W18 from touch_grown (HFI.out.trans HF17.out) (ownsRow_touch HO2.out HF17.out (fun _ _ h => h)) (Nat.le_refl _) hg18)
       have HO18' := hid ho18
       have hnew : ∀ b, v18.ownBlock = some b → (Value.slice Ao2 L2.length co2).ownBlock = some b ∨ W17.heap.size ≤ b := fun b hb => by
        rcases hv18 with e | e
        ·exact .inl (by rw [← e]; exact hb)
        ·rw [e] at hb
         simp only [Option.some.injEq] at hb
         exact .inr (by omega)
       have hold : ∀ b, (Value.slice Ao2 L2.length co2).ownBlock = some b → b < wr.heap.size := fun b hb => (HO2.out.lt b hb).2
       have HPS18 := hid (show PthsAt W1.heap.size v18.ownBlock W18 (L2 ++ allP nk.kids (p ++ [j, k]) 0) (cs2 ++ cs17) from
        (HPS2.out.mv HT18.out (fun b hb => (hnew b hb).imp id fun h => Nat.le_trans HF17.out.size h) (Nat.le_refl _)).append
         ((HPS17.out.mv' (fun b hb => Nat.lt_of_lt_of_le (hold b hb) HS16.out)).mv HT18'.out hnew (Nat.le_trans HFI.out.size HS16.out)))
       obtain ⟨A18', c18', rfl⟩ := owns_slice ho18
       clear ho18 hg18 hv18 hnew hold
       refine Stay.go ?_
       go_wp2_with fail
       refine wpMix_last ?_
       repeat (refine wpSeq_plain rfl (fun K hK => ?_); go_simp; refine hK _ ?_; clear hK K)
       refine wpSeq_end ?_
       go_wp2_with fail
       go_roundw
       case rel => exact ⟨k + 1, L2 ++ allP nk.kids (p ++ [j, k]) 0, cs2 ++ cs17, by first | go_num | simp, by omega, by unfold Hid; rw [← HL2.out, HDR.out]; simp, by unfold Hid; rw [List.length_append]; exact HO18'.out, HPS18, HF18'⟩
       case measure => first | (simp [intOf]; omega) | (simp [intOf]; done)
     ·have d3 : decide ((k : Int) < (nj.kids.length : Int)) = false := by simp; omega
      have d3n : decide (k < nj.kids.length) = false := by simp; omega
      have HE := hid (show L2 ++ allP (n.kids.drop (j + 1)) p (j + 1) = allP n.kids p 0 from by
       have h1 := HL2.out
       rw [List.drop_eq_nil_of_le (by omega)] at h1
       rw [HRE.out]
       exact h1)
      go_wp2_with fail
      go_roundw
      case rel => exact ⟨j + 1, L2, cs2, by first | go_num | simp, by omega, HE, HO2, HPS2, HFI⟩
      case measure => first | (simp [intOf]; omega) | (simp [intOf]; done)
end Go.Proofs.YtdacpbdamliafaaGreat

/- The law SpanOrder. -/
namespace Go.Proofs.YtdacpbdamliafaaGreat
open Go.RowKit
open Tr (Nd)
def AllsOf (n : Nd) (w : World) (e : Ending) (w' : World) : Prop :=
 ∃ v cs, e = .returned (.tuple #[v, .int .i64 (printE n)]) ∧ Fresh w w' ∧ (Tr.valid n = true → w'.ownsRow w.heap.size 25 1 v (allP n.kids [] 0).length cs ∧ PthsAt w.heap.size v.ownBlock w' (allP n.kids [] 0) cs)
set_option maxRecDepth 100000 in
set_option maxHeartbeats 400000 in
theorem rAll_any (n : Nd) (sl : Value) (w : World) (hr : RepL w n.kids sl) (ht : n.text.length ≤ maxLen) (hc : Tr.count n ≤ 800) :
  Calls Tryz.prog 49 #[nv n sl] w (AllsOf n w) := by
 obtain ⟨A, cap, rfl⟩ := hr.slice
 have HR := hid hr
 have HC := hid hc
 clear hr hc
 cases hv : Tr.valid n with
 | false =>
  have HE := hid (show printE n = 1 from by unfold printE; rw [hv]; rfl)
  go_enter Tryz.func49, Tryz.ntmps49
  go_wp2_with fail
  refine (rValid_any n _ _ (HR.out.fresh ((Touch.refl _ _).alloc _)) ht (by have := HC.out; omega)).mono ?_
  rintro _ w1 ⟨rfl, hf⟩
  have HF := hid (show Fresh w w1 from Touch.pre hf)
  clear hf
  go_wp2_with fail
  go_ret2
  exact ⟨.slice none 0 0, [], by rw [HE.out]; rfl, HF.out, fun h => by rw [hv] at h; cases h⟩
 | true =>
  have HE := hid (show printE n = 0 from by unfold printE; rw [hv]; rfl)
  go_enter Tryz.func49, Tryz.ntmps49
  go_wp2_with fail
  refine (rValid_any n _ _ (HR.out.fresh ((Touch.refl _ _).alloc _)) ht (by have := HC.out; omega)).mono ?_
  rintro _ w1 ⟨rfl, hf⟩
  have HF := hid (show Fresh w w1 from Touch.pre hf)
  obtain ⟨q0, q1, q2, q3, _⟩ := Blk.four (hf.blk (Blk.new w 24 #[.int .i64 n.kind, .string (⟨n.text.toArray⟩ : ByteArray), .int .i64 n.cols, .slice A n.kids.length cap]) (fun h => h))
  clear hf
  go_wp2_with fail
  refine (all_any (Tr.count n) n _ _ [] _ (Nat.le_refl _) HC.out (HR.out.fresh HF.out) (Ints.nil _ _ _) (by have := HC.out; simp; omega)).mono ?_
  rintro _ w2 ⟨v, cs, rfl, ho, hps, hf2⟩
  have HO := hid ho
  have HPS := hid hps
  have HF2 := hid (HF.out.trans hf2)
  have HSZ := hid HF.out.size
  obtain ⟨Av, cv, rfl⟩ := owns_slice ho
  clear ho hps hf2 q0 q1 q2 q3
  go_wp2_with fail
  go_ret2
  exact ⟨_, cs, by rw [HE.out]; rfl, HF2.out, fun _ => ⟨ownsRow_low HO.out HSZ.out, HPS.out.mv (Touch.refl _ _) (fun _ h => .inl h) HSZ.out⟩⟩
end Go.Proofs.YtdacpbdamliafaaGreat

/- The reference's Valid of positions, and Offset. -/
namespace Go.Proofs.YtdacpbdamliafaaGreat
open Go.RowKit
open Tr (Nd View IsRow rowT itemT RSp rsItems rsSegs rsRow segs segsLen segLen refOff)
attribute [local go_sem] stillV stillUpon
def idxE (n : Nd) (pos : List Int) : Int := if Tr.valid n then (if (allP n.kids [] 0).any (posIs pos) then 0 else 2) else 1
theorem rs_fits (T : List Lx.PTok) : (∀ ks, ∀ p i f, (∀ x ∈ ks, View x) → ∀ x ∈ rsItems T ks p i f, x.first + x.count ≤ f + (rowT ks).length) ∧
  ∀ l : List (Nat × Bool × Nd), ∀ p j f, (∀ y ∈ l, ∀ x ∈ y.2.2.kids, View x) → ∀ x ∈ rsSegs T l p j f, x.first + x.count ≤ f + segsLen l := by
 refine Tr.rows_ind (P := fun ks => ∀ p i f, (∀ x ∈ ks, View x) → ∀ x ∈ rsItems T ks p i f, x.first + x.count ≤ f + (rowT ks).length)
  (Q := fun l => ∀ p j f, (∀ y ∈ l, ∀ x ∈ y.2.2.kids, View x) → ∀ x ∈ rsSegs T l p j f, x.first + x.count ≤ f + segsLen l) ?_ ?_ ?_ ?_
 ·intro p i f _ x hx; rw [rsItems] at hx; cases hx
 ·intro n ns h1 h2 p i f hv x hx
  rw [rsItems] at hx
  rw [Tr.rowT_cons, List.length_append]
  have hn : View n := hv n (by simp)
  have hi := Tr.item_segs n hn
  rcases List.mem_cons.1 hx with rfl | hx
  ·show f + (itemT n).length ≤ _; omega
  ·rcases List.mem_append.1 hx with hx | hx
   ·have h := h1 _ _ _ (fun y hy => (view_rows hn y.2.2 (by rw [← Tr.segs_rows n]; exact List.mem_map.2 ⟨y, hy, rfl⟩)).views) x hx
    omega
   ·have h := h2 _ _ _ (fun y hy => hv y (by simp [hy])) x hx
    omega
 ·intro p j f _ x hx; rw [rsSegs] at hx; cases hx
 ·intro k b a r h1 h2 p j f hv x hx
  rw [rsSegs] at hx
  have hs := Tr.segLen_eq k b a
  have e : segsLen ((k, b, a) :: r) = segLen (k, b, a) + segsLen r := rfl
  rcases List.mem_append.1 hx with hx | hx
  ·rcases List.mem_cons.1 hx with hx | hx
   ·have e1 : x.first = f + k + b.toNat := by rw [hx]
    have e2 : x.count = (rowT a.kids).length := by rw [hx]
    omega
   ·have h := h1 _ _ _ (hv (k, b, a) (by simp)) x hx
    omega
  ·have h := h2 _ _ _ (fun y hy => hv y (by simp [hy])) x hx
   omega
theorem rsOf_fits (n : Nd) (hv : Tr.valid n = true) : ∀ x ∈ rsOf n, x.first + x.count ≤ (printT n).length := by
 intro x hx
 unfold rsOf at hx
 rw [hv, if_pos rfl] at hx
 rw [printT_len n hv]
 unfold rsRow at hx
 rcases List.mem_cons.1 hx with rfl | hx
 ·show 0 + (rowT n.kids).length ≤ (rowT n.kids).length; omega
 ·have := (rs_fits (printT n)).1 n.kids [] 0 0 (Tr.valid_row n hv).views x hx
  omega
theorem find_next {α : Type} (P : α → Bool) (l : List α) (j : Nat) (hj : j < l.length) (h : (l.take j).find? P = none) (hP : P l[j] = false) : (l.take (j + 1)).find? P = none := by
 rw [List.take_add_one, List.getElem?_eq_getElem hj, List.find?_append, h]
 simp [hP]
theorem find_here {α : Type} (P : α → Bool) (l : List α) (j : Nat) (hj : j < l.length) (h : (l.take j).find? P = none) (hP : P l[j] = true) : l.find? P = some l[j] := by
 have e : l.find? P = (l.take j ++ l.drop j).find? P := by rw [List.take_append_drop]
 rw [e, List.find?_append, h, List.drop_eq_getElem_cons hj, List.find?_cons, hP]
 rfl
theorem any_next {α : Type} (P : α → Bool) (l : List α) (j : Nat) (hj : j < l.length) (h : (l.take j).any P = false) (hP : P l[j] = false) : (l.take (j + 1)).any P = false := by
 rw [List.take_add_one, List.getElem?_eq_getElem hj, List.any_append, h]
 simp [hP]
set_option maxRecDepth 100000 in
set_option maxHeartbeats 400000 in
theorem rIndex_any (n : Nd) (sl pv : Value) (pos : List Int) (w : World) (hr : RepL w n.kids sl) (ht : n.text.length ≤ maxLen) (hc : Tr.count n ≤ 800) (hp : Ints w pv pos) (hpl : pos.length ≤ maxLen) :
  Calls Tryz.prog 72 #[nv n sl, pv] w fun e w' => (∃ k : Int, e = .returned (.tuple #[.int .i64 k, .int .i64 (idxE n pos)])) ∧ Fresh w w' := by
 obtain ⟨A, cap, rfl⟩ := hr.slice
 have HR := hid hr
 have HC := hid hc
 have HP := hid hp
 have HPL := hid hpl
 obtain ⟨Ap, cp, rfl⟩ := hp.slice
 clear hr hc hp hpl
 cases hv : Tr.valid n with
 | false =>
  have HE := hid (show printE n = 1 from by unfold printE; rw [hv]; rfl)
  have HI := hid (show idxE n pos = 1 from by unfold idxE; rw [hv]; rfl)
  go_enter Tryz.func72, Tryz.ntmps72
  go_wp2_with fail
  refine (rAll_any n _ _ (HR.out.fresh ((Touch.refl _ _).alloc _)) ht HC.out).mono ?_
  rintro _ w1 ⟨v, cs, rfl, hf, -⟩
  rw [HE.out]
  have HF := hid (show Fresh w w1 from Touch.pre hf)
  clear hf
  go_wp2_with fail
  go_ret2
  exact ⟨⟨0, by rw [HI.out]; rfl⟩, HF.out⟩
 | true =>
  have HE := hid (show printE n = 0 from by unfold printE; rw [hv]; rfl)
  have HI := hid (show idxE n pos = if (allP n.kids [] 0).any (posIs pos) then 0 else 2 from by unfold idxE; rw [hv]; rfl)
  have HLE := hid (show (allP n.kids [] 0).length ≤ 800 from by rw [allP_len]; have := Tr.count_kids n; have := HC.out; omega)
  go_enter Tryz.func72, Tryz.ntmps72
  go_wp2_with fail
  refine (rAll_any n _ _ (HR.out.fresh ((Touch.refl _ _).alloc _)) ht HC.out).mono ?_
  rintro _ W1 ⟨v, cs, rfl, hf, hvv⟩
  rw [HE.out]
  have HF1 := hid (show Fresh w W1 from Touch.pre hf)
  obtain ⟨ho, hps⟩ := hvv hv
  generalize allP n.kids [] 0 = l at *
  have HO := hid ho
  have HPS := hid hps
  obtain ⟨Av, cv, rfl⟩ := slice_owned ho
  clear hf ho hps hvv hv
  go_wp2_with fail
  go_loopw [8] (fun i wr => ∃ j : Nat, i = .int .i64 j ∧ j ≤ l.length ∧ Hid ((l.take j).any (posIs pos) = false) ∧ Hid (Fresh W1 wr)) (fun i _ => l.length - (intOf i).toNat)
  case atStart => exact ⟨0, rfl, Nat.zero_le _, rfl, Touch.refl _ _⟩
  case round =>
   obtain ⟨j, rfl, hj, HN, HF⟩ := hrel
   have hl8 : l.length ≤ 800 := HLE.out
   by_cases c2 : j < l.length
   ·have d1 : decide ((j : Int) < (l.length : Int)) = true := by simp; omega
    have d1n : decide (j < l.length) = true := by simp; omega
    have d1' : (j : Int) < (l.length : Int) := by omega
    obtain ⟨qv, x0, x1⟩ := HPS.out.get j c2
    obtain ⟨g, cap', hve, hgl⟩ : ∃ g cap', Value.slice Av l.length cv = .slice (some ⟨g, 0, none⟩) l.length cap' ∧ g < W1.heap.size := by
     rcases HO.out.2 with ⟨_, h2⟩ | ⟨g', cap, cur, h1, h2, h3, _⟩
     ·omega
     ·exact ⟨g', cap, h1, (Array.getElem?_eq_some_iff.1 h3).1⟩
    cases hve
    have a0 := HF.out.cell ((HO.out.cellAt j (by omega)).trans x0) (fun h => h)
    have hg2 : g < wr.heap.size := Nat.lt_of_lt_of_le hgl HF.out.size
    have HNX := hid (any_next (posIs pos) l j c2 HN.out)
    have HHIT := hid (fun h : posIs pos l[j] = true => List.any_eq_true.2 ⟨l[j], List.getElem_mem c2, h⟩)
    generalize l[j] = p at x1 HNX HHIT
    have HX := hid x1.ints
    obtain ⟨Aq, cq, rfl⟩ : ∃ A c, qv = .slice A p.length c := by have := HX.out.ints.slice; rwa [List.length_map] at this
    have hq := HX.out.room
    have HQL := hid (show (up p).length ≤ maxLen from by obtain ⟨_, _, _, h1, h2⟩ := hq; exact Nat.le_trans h1 h2)
    clear x0 x1 hgl hq
    go_wp2_with fail
    refine (rcompare_ints (up p) pos _ _ _ (HX.out.ints.fresh HF.out) (HP.out.fresh (HF1.out.trans HF.out)) HQL.out HPL.out).mono ?_
    rintro _ W3 ⟨rfl, hf3⟩
    have HF3 := hid hf3
    clear hf3 a0
    cases hcz : (cmpI (up p) pos == 0) with
    | true =>
     have hz : up p = pos := (cmpI_zero _ _).1 (by simpa using hcz)
     have HY := hid (HHIT.out (by unfold posIs; simpa using hz))
     generalize cmpI (up p) pos = cc at *
     clear hz
     go_wp2_with fail
     go_ret2
     exact ⟨⟨j, by rw [HI.out, HY.out]; rfl⟩, HF1.out.trans (HF.out.trans HF3.out)⟩
    | false =>
     have hz : up p ≠ pos := fun h => by rw [(cmpI_zero _ _).2 h] at hcz; cases hcz
     have HY := hid (HNX.out (by unfold posIs; simpa using hz))
     generalize cmpI (up p) pos = cc at *
     clear hz
     go_wp2_with fail
     go_roundw
     case rel => exact ⟨j + 1, by first | go_num | simp, by omega, HY, HF.out.trans HF3.out⟩
     case measure => first | (simp [intOf]; omega) | (simp [intOf]; done)
   ·have d1 : decide ((j : Int) < (l.length : Int)) = false := by simp; omega
    have d1n : decide (j < l.length) = false := by simp; omega
    obtain rfl : j = l.length := by omega
    have HY := hid (show l.any (posIs pos) = false from by have := HN.out; rwa [List.take_length] at this)
    go_wp2_with fail
    go_ret2
    exact ⟨⟨0, by rw [HI.out, HY.out]; rfl⟩, HF1.out.trans HF.out⟩
set_option maxRecDepth 100000 in
set_option maxHeartbeats 400000 in
theorem rPosValid_any (n : Nd) (sl pv : Value) (pos : List Int) (w : World) (hr : RepL w n.kids sl) (ht : n.text.length ≤ maxLen) (hc : Tr.count n ≤ 800) (hp : Ints w pv pos) (hpl : pos.length ≤ maxLen) :
  Calls Tryz.prog 44 #[nv n sl, pv] w fun e w' => e = .returned (.bool (idxE n pos == 0)) ∧ Fresh w w' := by
 obtain ⟨A, cap, rfl⟩ := hr.slice
 obtain ⟨Ap, cp, rfl⟩ := hp.slice
 have HR := hid hr
 have HP := hid hp
 have HPL := hid hpl
 clear hr hp hpl
 go_enter Tryz.func44, Tryz.ntmps44
 go_wp2_with fail
 refine (rIndex_any n _ _ pos _ (HR.out.fresh ((Touch.refl _ _).alloc _)) ht hc (HP.out.fresh ((Touch.refl _ _).alloc _)) HPL.out).mono ?_
 rintro _ W1 ⟨⟨k, rfl⟩, hf⟩
 have HF := hid (show Fresh w W1 from Touch.pre hf)
 clear hf
 go_wp2_with fail
 go_ret
 exact ⟨rfl, HF.out⟩
end Go.Proofs.YtdacpbdamliafaaGreat

/- begins of the span statements. -/
namespace Go.Proofs.YtdacpbdamliafaaGreat
open Go.RowKit
open Tr (Nd)
theorem Ints.take {w : World} {A : Option Addr} {n cap m : Nat} {l : List Int} (h : Ints w (.slice A n cap) l) (hm : m ≤ l.length) (c' : Nat) : Ints w (.slice A m c') (l.take m) := by
 obtain ⟨A', cap', hv, h⟩ := h
 cases hv
 refine ⟨A, c', by rw [List.length_take]; simp [hm], ?_⟩
 rcases h with rfl | ⟨g, o, rfl, h1, h2⟩
 ·exact .inl (by simp)
 ·exact .inr ⟨g, o, rfl, h1, fun i hi => by rw [List.getElem_take]; exact h2 i (by rw [List.length_take] at hi; omega)⟩
theorem prefix_up (p q : List Nat) : up q <+: up p ↔ q <+: p := by
 constructor
 ·intro h
  have h1 := h.map Int.toNat
  rw [List.map_map, List.map_map] at h1
  have e : (Int.toNat ∘ fun n : Nat => (n : Int)) = id := by funext n; simp
  rw [e, List.map_id, List.map_id] at h1
  exact h1
 ·intro h; exact h.map _
theorem prefix_take (a b : List Int) : b <+: a ↔ b.length ≤ a.length ∧ a.take b.length = b := by
 rw [List.prefix_iff_eq_take]
 constructor
 ·intro h
  exact ⟨by have := congrArg List.length h; rw [List.length_take] at this; omega, h.symm⟩
 ·rintro ⟨_, h⟩; exact h.symm
end Go.Proofs.YtdacpbdamliafaaGreat

/- The reference's Offset; the law SpanOffset walked. -/
namespace Go.Proofs.YtdacpbdamliafaaGreat
open Go.RowKit
open Tr (Nd View IsRow rowT itemT RSp rsItems rsSegs rsRow segs segsLen segLen refOff)
attribute [local go_sem] stillV stillUpon
theorem off_bad (n : Nd) (hv : Tr.valid n = false) (pos : List Int) : offR n pos = (0, 1) := by unfold offR; rw [hv]; rfl
theorem off_none (n : Nd) (hv : Tr.valid n = true) (pos : List Int) (h : (allP n.kids [] 0).any (posIs pos) = false) : offR n pos = (0, 2) := by
 unfold offR
 rw [hv, if_pos rfl]
 have hn : (Tr.posRow (printT n) n.kids [] 0 0).find? (fun x => posIs pos x.1) = none := by
  rw [List.find?_eq_none]
  intro x hx hp
  have : x.1 ∈ allP n.kids [] 0 := by rw [← posL_all]; exact List.mem_map.2 ⟨x, hx, rfl⟩
  rw [List.any_eq_false] at h
  exact h _ this hp
 rw [hn]
theorem off_some (n : Nd) (pos : List Int) (h : (allP n.kids [] 0).any (posIs pos) = true) : ∃ p v, pos = up p ∧ (p, v) ∈ posL n := by
 rw [List.any_eq_true] at h
 obtain ⟨p, hp, hq⟩ := h
 rw [← posL_all] at hp
 obtain ⟨⟨p', v⟩, hx, rfl⟩ := List.mem_map.1 hp
 exact ⟨p', v, by unfold posIs at hq; simpa using (of_decide_eq_true hq).symm, hx⟩
theorem pos_ne {n : Nd} {p : List Nat} {v : Nat} (h : (p, v) ∈ posL n) : p ≠ [] := by
 obtain ⟨j, q, _, e⟩ := (Tr.pos_under (printT n)).1 _ _ _ _ _ h
 intro hp
 simp [hp] at e
theorem up_dec (p q : List Nat) : decide (up p = up q) = (p == q) := by
 by_cases h : p = q
 ·subst h; simp
 ·have : up p ≠ up q := fun e => h (up_inj e)
  rw [decide_eq_false this]
  symm
  simpa using h
def offI (p : List Nat) (x : RSp) : Bool := !x.row && (x.path == p)
def offW (p : List Nat) (x : RSp) : Bool := x.row && (x.path == p.dropLast) && decide (0 < x.first + x.count)
set_option maxRecDepth 100000 in
set_option maxHeartbeats 1000000 in
theorem rOffset22_any (n : Nd) (sl pv : Value) (pos : List Int) (w : World) (hr : RepL w n.kids sl) (ht : n.text.length ≤ maxLen) (hc : Tr.count n ≤ 800) (hp : IntsR w pv pos) :
  Calls Tryz.prog 15 #[nv n sl, pv] w fun e w' => e = .returned (.tuple #[.int .i64 ((offR n pos).1 : Nat), .int .i64 (offR n pos).2]) ∧ Fresh w w' := by
 obtain ⟨A, cap, rfl⟩ := hr.slice
 obtain ⟨Ap, cp, rfl, hcp1, hcp2⟩ := hp.room
 have HR := hid hr
 have HC := hid hc
 have HP := hid hp.ints
 have HPL := hid (Nat.le_trans hcp1 hcp2)
 have HCP := hid hcp1
 have HCM := hid hcp2
 have HLE := hid (rsOf_len n hc)
 clear hr hc hp hcp1 hcp2
 cases hv : Tr.valid n with
 | false =>
  have HE := hid (show printE n = 1 from by unfold printE; rw [hv]; rfl)
  have HO := hid (off_bad n hv pos)
  go_enter Tryz.func15, Tryz.ntmps15
  go_wp2_with fail
  refine (rAll22_any n _ _ (HR.out.fresh ((Touch.refl _ _).alloc _)) ht HC.out).mono ?_
  rintro _ w1 ⟨v, tv, cs, rfl, ho, -, htk, hf⟩
  rw [HE.out]
  have HF := hid (show Fresh w w1 from Touch.pre hf)
  obtain ⟨A1, c1, rfl⟩ := slice_owned ho
  obtain ⟨At, ct, rfl, _⟩ := htk
  clear hf ho
  go_wp2_with fail
  go_ret2
  exact ⟨by rw [HO.out]; rfl, HF.out⟩
 | true =>
  have HE := hid (show printE n = 0 from by unfold printE; rw [hv]; rfl)
  have HV := hid hv
  clear hv
  go_enter Tryz.func15, Tryz.ntmps15
  go_wp2_with fail
  refine (rAll22_any n _ _ (HR.out.fresh ((Touch.refl _ _).alloc _)) ht HC.out).mono ?_
  rintro _ W1 ⟨v, tv, cs, rfl, ho, hps, htk, hf⟩
  rw [HE.out]
  have HF1 := hid (show Fresh w W1 from Touch.pre hf)
  have hb1 := hf.blk (Blk.new w 24 #[.int .i64 n.kind, .string (⟨n.text.toArray⟩ : ByteArray), .int .i64 n.cols, .slice A n.kids.length cap]) (fun h => h)
  obtain ⟨q0, q1, q2, q3, _⟩ := Blk.four hb1
  have HO := hid ho
  have HPS := hid hps
  obtain ⟨A1, c1, rfl⟩ := slice_owned ho
  obtain ⟨At, ct, rfl, htk'⟩ := htk
  have HTK := hid htk'
  clear hf hb1 ho hps htk'
  go_wp2_with fail
  refine (rPosValid_any n _ _ pos _ (HR.out.fresh HF1.out) ht HC.out (HP.out.fresh HF1.out) HPL.out).mono ?_
  rintro _ W2 ⟨rfl, hf2⟩
  have HF2 := hid hf2
  clear hf2 q0 q1 q2 q3
  cases han : (allP n.kids [] 0).any (posIs pos) with
  | false =>
   have HO2 := hid (off_none n HV.out pos han)
   have hi : (idxE n pos == 0) = false := by unfold idxE; rw [HV.out, han]; rfl
   rw [hi]
   clear hi han
   go_wp2_with fail
   go_ret2
   exact ⟨by rw [HO2.out]; rfl, HF1.out.trans HF2.out⟩
  | true =>
   have hi : (idxE n pos == 0) = true := by unfold idxE; rw [HV.out, han]; rfl
   rw [hi]
   obtain ⟨p, v, rfl, hmem⟩ := off_some n pos han
   have HOFF := hid (off_hit n HV.out hmem)
   have HREF := hid (show refOff (printT n) (rsOf n) p = v from by unfold rsOf; rw [HV.out, if_pos rfl]; exact Tr.refOff_eq (printT n) n.kids hmem)
   have hpne : 0 < p.length := List.length_pos_iff.2 (pos_ne hmem)
   obtain ⟨m, hm⟩ : ∃ m, p.length = m + 1 := ⟨p.length - 1, by omega⟩
   have HFIT := hid (rsOf_fits n HV.out)
   have hup : (up p).length = m + 1 := by rw [List.length_map]; exact hm
   have HT4 := hid (show (printT n).length ≤ 4000 from by have h1 := row_len n (Tr.valid_row n HV.out); have h2 := printT_len n HV.out; have h3 := HC.out; omega)
   clear hi han hmem
   generalize rsOf n = l at *
   generalize printT n = T at *
   rw [hup] at HCP HP HPL ⊢
   have hm63 : m + 1 ≤ maxLen := HPL.out
   unfold maxLen at hm63
   have hcp : m ≤ cp := by have := HCP.out; omega
   have HPT := hid (show Ints w (.slice Ap m cp) (up p.dropLast) from by
    have h := HP.out.take (m := m) (by rw [hup]; omega) cp
    have e : (up p).take m = up p.dropLast := by rw [List.dropLast_eq_take, hm, Nat.add_sub_cancel]; exact List.map_take.symm
    rwa [e] at h)
   have HPM := hid (show (up p.dropLast).length ≤ maxLen from by rw [List.length_map, List.length_dropLast, hm]; unfold maxLen; omega)
   have HPQ := hid (show (up p).length ≤ maxLen from by rw [hup]; exact HPL.out)
   clear hup
   have e2 : (m : Int) + 1 - 1 = (m : Int) := by omega
   go_wp2_with fail
   go_loopw [10] (fun i wr => ∃ j : Nat, i = .int .i64 j ∧ j ≤ l.length ∧ Hid ((l.take j).find? (offI p) = none) ∧ Hid (Fresh W1 wr)) (fun i _ => l.length - (intOf i).toNat)
   case atStart => exact ⟨0, rfl, Nat.zero_le _, rfl, HF2⟩
   case round =>
    obtain ⟨j, rfl, hj, HN, HF⟩ := hrel
    have hl8 : l.length ≤ 800 := HLE.out
    by_cases c2 : j < l.length
    ·have d1 : decide ((j : Int) < (l.length : Int)) = true := by simp; omega
     have d1n : decide (j < l.length) = true := by simp; omega
     have d1' : (j : Int) < (l.length : Int) := by omega
     obtain ⟨g, v1, hAe, hg, hat⟩ := sps_at HO.out HPS.out j c2
     cases hAe
     have HNX := hid (find_next (offI p) l j c2 HN.out)
     have HHI := hid (find_here (offI p) l j c2 HN.out)
     generalize l[j] = x at hat HNX HHI
     obtain ⟨h1, h2, k0, k1, k2, k3, k4, k5⟩ := hat
     have HX := hid h1
     have HXL := hid (show (up x.path).length ≤ maxLen from by rw [List.length_map]; exact h2)
     have a0 := HF.out.cell k0 (fun h => h)
     have a1 := HF.out.cell k1 (fun h => h)
     have a3 := HF.out.cell k3 (fun h => h)
     have K1 := hid k1
     have hg2 : g < wr.heap.size := Nat.lt_of_lt_of_le hg HF.out.size
     obtain ⟨Ax, cx, rfl⟩ : ∃ A c, v1 = .slice A x.path.length c := by have := HX.out.slice; rwa [List.length_map] at this
     clear k0 k1 k2 k3 k4 k5 h1 h2
     cases hrow : x.row with
     | true =>
      rw [hrow] at a3
      have HY := hid (HNX.out (by unfold offI; rw [hrow]; rfl))
      clear hrow
      go_wp2_with fail
      go_roundw
      case rel => exact ⟨j + 1, by first | go_num | simp, by omega, HY, HF⟩
      case measure => first | (simp [intOf]; omega) | (simp [intOf]; done)
     | false =>
      rw [hrow] at a3
      have HXR := hid hrow
      clear hrow
      go_wp2_with fail
      refine (rsame_ints (up x.path) (up p) _ _ _ (HX.out.fresh HF.out) (HP.out.fresh (HF1.out.trans HF.out)) HXL.out HPQ.out).mono ?_
      rw [up_dec]
      rintro _ W3 ⟨rfl, hf3⟩
      have HF3 := hid hf3
      have b1 := (HF.out.trans hf3).cell K1.out (fun h => h)
      clear hf3 a0 a1 a3
      cases hpp : (x.path == p) with
      | true =>
       have HY := hid (HHI.out (by unfold offI; rw [HXR.out, hpp]; rfl))
       have HZ := hid (show x.from_ = v from by have h := HREF.out; unfold refOff at h; rw [show l.find? (fun x => !x.row && (x.path == p)) = some x from HY.out] at h; exact h)
       clear hpp
       go_wp2_with fail
       go_ret2
       exact ⟨by rw [HOFF.out, ← HZ.out]; rfl, HF1.out.trans (HF.out.trans HF3.out)⟩
      | false =>
       have HY := hid (HNX.out (by unfold offI; rw [HXR.out, hpp]; rfl))
       clear hpp
       go_wp2_with fail
       go_roundw
       case rel => exact ⟨j + 1, by first | go_num | simp, by omega, HY, HF.out.trans HF3.out⟩
       case measure => first | (simp [intOf]; omega) | (simp [intOf]; done)
    ·have d1 : decide ((j : Int) < (l.length : Int)) = false := by simp; omega
     have d1n : decide (j < l.length) = false := by simp; omega
     obtain rfl : j = l.length := by omega
     have HN1 := hid (show l.find? (offI p) = none from by have := HN.out; rwa [List.take_length] at this)
     have HFA := HF
     clear HN HF
     go_wp2_with fail
     go_loopw [11] (fun i wr => ∃ j : Nat, i = .int .i64 j ∧ j ≤ l.length ∧ Hid ((l.take j).find? (offW p) = none) ∧ Hid (Fresh W1 wr)) (fun i _ => l.length - (intOf i).toNat)
     case atStart => exact ⟨0, rfl, Nat.zero_le _, rfl, HFA⟩
     case round =>
      obtain ⟨j, rfl, hj, HN, HF⟩ := hrel
      by_cases c2 : j < l.length
      ·have d1 : decide ((j : Int) < (l.length : Int)) = true := by simp; omega
       have d1n : decide (j < l.length) = true := by simp; omega
       have d1' : (j : Int) < (l.length : Int) := by omega
       obtain ⟨g, v1, hAe, hg, hat⟩ := sps_at HO.out HPS.out j c2
       cases hAe
       have HNX := hid (find_next (offW p) l j c2 HN.out)
       have HHI := hid (find_here (offW p) l j c2 HN.out)
       have HXF := hid (HFIT.out _ (List.getElem_mem c2))
       generalize l[j] = x at hat HNX HHI HXF
       obtain ⟨h1, h2, k0, k1, k2, k3, k4, k5⟩ := hat
       have HX := hid h1
       have HXL := hid (show (up x.path).length ≤ maxLen from by rw [List.length_map]; exact h2)
       have a0 := HF.out.cell k0 (fun h => h)
       have a3 := HF.out.cell k3 (fun h => h)
       have K4 := hid k4
       have K5 := hid k5
       have hg2 : g < wr.heap.size := Nat.lt_of_lt_of_le hg HF.out.size
       obtain ⟨Ax, cx, rfl⟩ : ∃ A c, v1 = .slice A x.path.length c := by have := HX.out.slice; rwa [List.length_map] at this
       clear k0 k1 k2 k3 k4 k5 h1 h2
       cases hrow : x.row with
       | false =>
        rw [hrow] at a3
        have HY := hid (HNX.out (by unfold offW; rw [hrow]; rfl))
        clear hrow
        go_wp2_with fail
        go_roundw
        case rel => exact ⟨j + 1, by first | go_num | simp, by omega, HY, HF⟩
        case measure => first | (simp [intOf]; omega) | (simp [intOf]; done)
       | true =>
        rw [hrow] at a3
        have HXR := hid hrow
        clear hrow
        go_wp2_with fail
        refine (rsame_ints (up x.path) (up p.dropLast) _ _ _ (HX.out.fresh HF.out) (HPT.out.fresh (HF1.out.trans HF.out)) HXL.out HPM.out).mono ?_
        rw [up_dec]
        rintro _ W3 ⟨rfl, hf3⟩
        have HF3 := hid (HF.out.trans hf3)
        have b4 := HF3.out.cell K4.out (fun h => h)
        have b5 := HF3.out.cell K5.out (fun h => h)
        have hg3 : g < W3.heap.size := Nat.lt_of_lt_of_le hg HF3.out.size
        clear hf3 a0 a3 hg2
        cases hpp : (x.path == p.dropLast) with
        | false =>
         have HY := hid (HNX.out (by unfold offW; rw [HXR.out, hpp]; rfl))
         clear hpp
         go_wp2_with fail
         go_roundw
         case rel => exact ⟨j + 1, by first | go_num | simp, by omega, HY, HF3⟩
         case measure => first | (simp [intOf]; omega) | (simp [intOf]; done)
        | true =>
         have HPP := hid hpp
         clear hpp
         have hb4 : x.first ≤ 4000 := by have h1 := HXF.out; have h2 := HT4.out; omega
         have hb5 : x.count ≤ 4000 := by have h1 := HXF.out; have h2 := HT4.out; omega
         rcases Nat.eq_zero_or_pos (x.first + x.count) with h0 | h0
         ·have HY := hid (HNX.out (by unfold offW; rw [HXR.out, HPP.out]; simp; omega))
          have e3 : (x.first : Int) = 0 := by omega
          have e4 : (x.count : Int) = 0 := by omega
          rw [e3] at b4
          rw [e4] at b5
          clear h0 e3 e4
          go_wp2_with fail
          go_quiet (fail)
          go_wp2_with fail
          go_roundw
          case rel => exact ⟨j + 1, by first | go_num | simp, by omega, HY, HF3.out.drewN _⟩
          case measure => first | (simp [intOf]; omega) | (simp [intOf]; done)
         ·have HY := hid (HHI.out (by unfold offW; rw [HXR.out, HPP.out]; simp; omega))
          obtain ⟨M, hM⟩ : ∃ M, x.first + x.count = M + 1 := ⟨x.first + x.count - 1, by omega⟩
          have hMT : M < T.length := by have := HXF.out; omega
          have hMT' : (M : Int) < (T.length : Int) := by omega
          have hM4 : M ≤ 8000 := by omega
          have HZ := hid (show (T[M].to_ : Nat) = v from by
           have h := HREF.out
           unfold refOff at h
           rw [show l.find? (fun x => !x.row && (x.path == p)) = none from HN1.out] at h
           simp only [show l.find? (fun x => x.row && (x.path == p.dropLast) && decide (0 < x.first + x.count)) = some x from HY.out] at h
           rw [hM, end_at T M hMT] at h
           exact h)
          obtain ⟨gt, ot, hAt, hgt, t0, t1, t2, t3⟩ := HTK.out M hMT
          cases hAt
          have u3 := HF3.out.cell t3 (fun h => h)
          have hgt3 : gt < W3.heap.size := Nat.lt_of_lt_of_le hgt HF3.out.size
          have e1 : (x.first : Int) + (x.count : Int) = (M : Int) + 1 := by omega
          have e3 : (M : Int) + 1 - 1 = (M : Int) := by omega
          have e4 : IntKind.i64.wrap ((M : Int) + 1) = (M : Int) + 1 := IntWalk.i64_in _ (by omega)
          have e5 : IntKind.i64.wrap (M : Int) = (M : Int) := IntWalk.i64_in _ (by omega)
          have e6 : decide (0 ≤ (M : Int)) = true := by simp
          have e7 : (0 : Int) ≤ (M : Int) := by omega
          clear h0 hM t0 t1 t2 t3
          go_wp2_with fail
          go_quiet (fail)
          go_wp2_with fail
          go_ret2
          exact ⟨by rw [HOFF.out, ← HZ.out]; rfl, HF1.out.trans (HF3.out.drewN _)⟩
      ·have d1 : decide ((j : Int) < (l.length : Int)) = false := by simp; omega
       have d1n : decide (j < l.length) = false := by simp; omega
       obtain rfl : j = l.length := by omega
       have HY := hid (show l.find? (offW p) = none from by have := HN.out; rwa [List.take_length] at this)
       have HZ := hid (show 0 = v from by
        have h := HREF.out
        unfold refOff at h
        rw [show l.find? (fun x => !x.row && (x.path == p)) = none from HN1.out] at h
        simp only [show l.find? (fun x => x.row && (x.path == p.dropLast) && decide (0 < x.first + x.count)) = none from HY.out] at h
        exact h)
       go_wp2_with fail
       go_ret2
       exact ⟨by rw [HOFF.out, ← HZ.out]; rfl, HF1.out.trans HF.out⟩
end Go.Proofs.YtdacpbdamliafaaGreat

/- The law SpanOffset walked; an argument of numbers opened. -/
namespace Go.Proofs.YtdacpbdamliafaaGreat
open Go.ChangeShapes Go.WideShapes Go.ChangeAt Go.RowKit
open Tr (Nd)
set_option maxRecDepth 100000 in
theorem open_nums {H : Type} {enc : TypeId × Value → H} {w : World} {b0 : Nat} {hd : Bool} {v : Value} {d : DataW H} {p : List MemPlace} (hv : Value.okWide Tryz.prog w .any b0 25 v) (h : DataW.Trod enc Tryz.prog w 0 (fun _ => true) hd 25 v d p) :
  ∃ zs : List Int, IntsR w v zs := by
 obtain ⟨a, len, cap, rfl⟩ := okWide_slice Tryz.underlying25 hv
 obtain ⟨fuel, hf⟩ := h
 rcases Go.ChangeShapes.open_ints Tryz.underlying25 Tryz.underlying3 (by kernel_rfl) hf with ⟨h1, _⟩ | ⟨ad, len', cap', zs, h1, _, hl, hm, hlen, _, hc, _⟩
 ·simp [Value.cells] at h1
  obtain ⟨rfl, rfl, rfl⟩ := h1
  exact ⟨[], Ints.nil _ _ _, none, 0, rfl, Nat.le_refl _, Nat.zero_le _⟩
 ·simp [Value.cells] at h1
  obtain ⟨rfl, rfl, rfl⟩ := h1
  simp only [if_true] at hlen
  have hlt : (zs.take len).length = len := by rw [List.length_take]; omega
  refine ⟨zs.take len, ⟨some ad, cap, by rw [hlt], ?_⟩, some ad, cap, by rw [hlt], by omega, hm⟩
  rcases Nat.eq_zero_or_pos len with rfl | hpos
  ·exact .inl (by simp)
  ·obtain ⟨g, o, s⟩ := ad
   have h0 := hc 0 (by omega)
   have hs : s = none := by
    cases s with
    | none => rfl
    | some x =>
     simp only [Addr.add, if_true] at h0
     unfold World.cell? at h0
     split at h0
     ·simp at h0
     ·cases h0
   subst hs
   have hb := block_lt_of_cell h0
   simp only [Addr.add, if_true] at hb
   refine .inr ⟨g, o, rfl, hb, fun i hi => ?_⟩
   rw [hlt] at hi
   have hg : zs.getD i 0 = zs[i]'(by omega) := by rw [List.getD_eq_getElem?_getD, List.getElem?_eq_getElem (by omega)]; rfl
   rw [List.getElem_take, ← hg, ← hc i (by omega)]
   unfold Addr.add
   split
   ·rename_i h; subst h; rfl
   ·rfl
set_option maxRecDepth 100000 in
set_option maxHeartbeats 400000 in
theorem soffset_any (n : Nd) (sl pv : Value) (pos : List Int) (w : World) (hsl : RepL w n.kids sl) (ht : n.text.length ≤ maxLen) (hp : IntsR w pv pos) :
  Calls Tryz.prog 3 #[nv n sl, pv] w fun e w' => e = .returned (.bool true) ∧ Fresh w w' := by
 obtain ⟨A, cap, rfl⟩ := hsl.slice
 obtain ⟨Ap, cp, rfl, hcp1, hcp2⟩ := hp.room
 have HSL := hid hsl
 have HP := hid hp
 have HPL := hid (Nat.le_trans hcp1 hcp2)
 have hl63 : pos.length ≤ maxLen := HPL.out
 unfold maxLen at hl63
 clear hsl hp hcp1 hcp2
 go_enter Tryz.func3, Tryz.ntmps3
 go_wp2_with fail
 refine (awake22_any _).mono ?_
 rintro _ w1 ⟨rfl, hf1⟩
 have HF1 := hid (show Fresh w w1 from Touch.pre hf1)
 have hb1 := hf1.blk (Blk.new w 24 #[.int .i64 n.kind, .string (⟨n.text.toArray⟩ : ByteArray), .int .i64 n.cols, .slice A n.kids.length cap]) (fun h => h)
 have HB1 := hid hb1
 obtain ⟨q0, q1, q2, q3, _⟩ := Blk.four hb1
 clear hf1 hb1
 go_wp2_with fail
 refine (few22_any n _ _ (HSL.out.fresh HF1.out)).mono ?_
 rintro _ w2 ⟨rfl, hf2⟩
 have HF2 := hid (HF1.out.trans hf2)
 have HB2 := hid (hf2.blk HB1.out (fun h => h))
 replace q0 := hf2.cell q0 (fun h => h)
 replace q1 := hf2.cell q1 (fun h => h)
 replace q2 := hf2.cell q2 (fun h => h)
 replace q3 := hf2.cell q3 (fun h => h)
 clear hf2
 cases hcc : decide ((Tr.count n : Int) ≤ 60) with
 | false =>
  go_wp2_with fail
  refine (awake22_any _).mono ?_
  rintro _ w3 ⟨rfl, hf3⟩
  have HF3 := hid (HF2.out.trans hf3)
  clear hf3 q0 q1 q2 q3
  go_wp2_with fail
  go_ret
  exact ⟨rfl, HF3.out⟩
 | true =>
  have HC := hid (show Tr.count n ≤ 60 from by simp at hcc; omega)
  cases hlen : decide (60 < pos.length) with
  | true =>
   have hlen2 : decide ((60 : Int) < (pos.length : Int)) = true := by simp at hlen ⊢; omega
   have hlen3 : (60 : Int) < (pos.length : Int) := by simp at hlen; omega
   go_wp2_with fail
   refine (awake22_any _).mono ?_
   rintro _ w3 ⟨rfl, hf3⟩
   have HF3 := hid (HF2.out.trans hf3)
   clear hf3 q0 q1 q2 q3
   go_wp2_with fail
   go_ret
   exact ⟨rfl, HF3.out⟩
  | false =>
   have hlen2 : decide ((60 : Int) < (pos.length : Int)) = false := by simp at hlen ⊢; omega
   go_wp2_with fail
   refine (offset_any n _ _ pos _ (HSL.out.fresh HF2.out) ht (by have := HC.out; omega) (HP.out.ints.fresh HF2.out) HPL.out).mono ?_
   rintro _ w3 ⟨rfl, hf3⟩
   have HF3 := hid (HF2.out.trans hf3)
   obtain ⟨q0, q1, q2, q3, _⟩ := Blk.four (hf3.blk HB2.out (fun h => h))
   clear hf3
   go_wp2_with fail
   refine (rOffset22_any n _ _ pos _ (HSL.out.fresh HF3.out) ht (by have := HC.out; omega) (HP.out.fresh HF3.out)).mono ?_
   rintro _ w4 ⟨rfl, hf4⟩
   have HF4 := hid (HF3.out.trans hf4)
   clear hf4 q0 q1 q2 q3
   generalize (offR n pos).1 = r1
   generalize (offR n pos).2 = r2
   have t1 : (r2 == r2) = true := by simp
   have t2 : ((r1 : Int) == (r1 : Int)) = true := by simp
   go_wp2_with fail
   go_ret
   exact ⟨rfl, HF4.out⟩
set_option maxRecDepth 100000 in
theorem spanOffset_lifted (os : Os) (started : os.Started) (H : Type) (enc : TypeId × Value → H) :
  ReturnsInHanded {} Tryz.checked os 3 .any (Rows.spanOffsetSpec.pre6 enc Tryz.prog Tryz.f3 Rows.spanOffsetRow.domain false) (Rows.spanOffsetSpec.post enc Tryz.prog Tryz.f3 false true false false) := by
 refine returnsInHanded_of_change (C := Tryz.checked) Tryz.ownKnob started (by kernel_rfl) Tryz.func3
  (ChangeSpec.witness6 (enc := enc) (C := Tryz.checked) false ⟨#[], #[.agg #[.int .i64 0, .string ⟨#[]⟩, .int .i64 0, .slice none 0 0], .slice none 0 0], []⟩ 8 (by kernel_rfl) (by kernel_rfl) (by kernel_rfl) (by kernel_rfl)) ?_
 intro W base args ds gs before hval0 hW hcnd _
 have hval : ∀ (j : Nat) t v, Tryz.f3.params[j]? = some t → args[j]? = some v → Value.okWide Tryz.prog W .any base t v := hval0
 have hW' := hW
 obtain ⟨p, q, hA0, hV, rfl, hfz, hnd⟩ := hW
 have hA : DataW.TrodAll enc Tryz.prog W 0 (fun _ => true) true Tryz.f3.params.toList args.toList ds p := hA0
 rw [Tryz.params3] at hA hval
 obtain ⟨v0, v1, d0, d1, p0, p1, rfl, rfl, rfl, h0, h1⟩ := trodAll_two hA
 obtain ⟨rfl, rfl⟩ := trodVars_none hV
 obtain ⟨a, ⟨sa, rfl, ra⟩, ta⟩ := open_node (hval 0 24 v0 rfl rfl) h0
 obtain ⟨zs, hz⟩ := open_nums (hval 1 25 v1 rfl rfl) h1
 refine (soffset_any a sa v1 zs W ra ta hz).mono fun e W' ⟨he, hw⟩ => ?_
 exact ⟨_, he, post_true Tryz.laidOut Tryz.underlying4 (by kernel_rfl) (by kernel_rfl) rfl rfl hW' hw⟩
theorem SpanOffset_holds : Rows.SpanOffsetSaid :=
 OpenClaim.holds_of_wide 3 Tryz.f3 rfl rfl rfl rfl rfl rfl rfl ⟨rfl, rfl, rfl, rfl, rfl⟩ rfl rfl rfl rfl rfl (by kernel_rfl) Tryz.func3 (by kernel_rfl)
  (of_decide_eq_true (by kernel_rfl)) (by unfold Func.isWrapper; first | (rw [if_pos (by decide +kernel)]; kernel_rfl) | (rw [if_neg (by decide +kernel)]; exact ⟨rfl, rfl⟩))
  (fun os started H enc _ => spanOffset_lifted os started H enc)
end Go.Proofs.YtdacpbdamliafaaGreat

/- The statement SpanItems: for all trees the law returns true, and the tree reads as it did. No condition. -/
namespace Go.Proofs.YtdacpbdamliafaaGreat
open Go.ChangeShapes Go.WideShapes Go.ChangeAt Go.RowKit
open Tr (Nd)
set_option maxRecDepth 100000 in
theorem spanItems_lifted (os : Os) (started : os.Started) (H : Type) (enc : TypeId × Value → H) :
  ReturnsInHanded {} Tryz.checked os 5 .any (Rows.spanItemsSpec.pre6 enc Tryz.prog Tryz.f5 Rows.spanItemsRow.domain false) (Rows.spanItemsSpec.post enc Tryz.prog Tryz.f5 false true false false) := by
 refine returnsInHanded_of_change (C := Tryz.checked) Tryz.ownKnob started (by kernel_rfl) Tryz.func5
  (ChangeSpec.witness6 (enc := enc) (C := Tryz.checked) false ⟨#[], #[.agg #[.int .i64 0, .string ⟨#[]⟩, .int .i64 0, .slice none 0 0]], []⟩ 8 (by kernel_rfl) (by kernel_rfl) (by kernel_rfl) (by kernel_rfl)) ?_
 intro W base args ds gs before hval0 hW hcnd _
 have hval : ∀ (j : Nat) t v, Tryz.f5.params[j]? = some t → args[j]? = some v → Value.okWide Tryz.prog W .any base t v := hval0
 have hW' := hW
 obtain ⟨p, q, hA0, hV, rfl, hfz, hnd⟩ := hW
 have hA : DataW.TrodAll enc Tryz.prog W 0 (fun _ => true) true Tryz.f5.params.toList args.toList ds p := hA0
 rw [Tryz.params5] at hA hval
 obtain ⟨v0, d0, rfl, rfl, h0⟩ := trodAll_one hA
 obtain ⟨rfl, rfl⟩ := trodVars_none hV
 obtain ⟨a, ⟨sa, rfl, ra⟩, ta⟩ := open_node (hval 0 24 v0 rfl rfl) h0
 refine (sitems_any a sa W ra ta).mono fun e W' ⟨he, hw⟩ => ?_
 exact ⟨_, he, post_true Tryz.laidOut Tryz.underlying4 (by kernel_rfl) (by kernel_rfl) rfl rfl hW' hw⟩
theorem SpanItems_holds : Rows.SpanItemsSaid :=
 OpenClaim.holds_of_wide 5 Tryz.f5 rfl rfl rfl rfl rfl rfl rfl ⟨rfl, rfl, rfl, rfl, rfl⟩ rfl rfl rfl rfl rfl (by kernel_rfl) Tryz.func5 (by kernel_rfl)
  (of_decide_eq_true (by kernel_rfl)) (by unfold Func.isWrapper; first | (rw [if_pos (by decide +kernel)]; kernel_rfl) | (rw [if_neg (by decide +kernel)]; exact ⟨rfl, rfl⟩))
  (fun os started H enc _ => spanItems_lifted os started H enc)
end Go.Proofs.YtdacpbdamliafaaGreat

/- The reference's At; the law SpanAt walked. -/
namespace Go.Proofs.YtdacpbdamliafaaGreat
open Go.ChangeShapes Go.WideShapes Go.ChangeAt Go.RowKit
open Tr (Nd atR)
attribute [local go_sem] stillV stillUpon
theorem pos_len (T : List Lx.PTok) : (∀ ks p i f, ∀ x ∈ Tr.posRow T ks p i f, x.1.length ≤ p.length + 1 + 2 * Tr.countL ks) ∧ ∀ l p j f, ∀ x ∈ Tr.posSegs T l p j f, x.1.length ≤ p.length + 2 * Tr.countL (Tr.rowsOf l) := by
 refine Tr.rows_ind (P := fun ks => ∀ p i f, ∀ x ∈ Tr.posRow T ks p i f, x.1.length ≤ p.length + 1 + 2 * Tr.countL ks) (Q := fun l => ∀ p j f, ∀ x ∈ Tr.posSegs T l p j f, x.1.length ≤ p.length + 2 * Tr.countL (Tr.rowsOf l)) ?_ ?_ ?_ ?_
 ·intro p i f x hx
  rw [Tr.posRow] at hx
  rcases List.mem_singleton.1 hx with rfl
  simp
 ·intro n ns h1 h2 p i f x hx
  have e : Tr.countL (n :: ns) = 1 + Tr.countL n.kids + Tr.countL ns := by rw [Tr.countL, Tr.count_kids]
  rw [Tr.posRow] at hx
  rcases List.mem_cons.1 hx with hx | hx
  ·rw [hx, List.length_append, List.length_singleton]; omega
  ·rcases List.mem_append.1 hx with hx | hx
   ·have h := h1 _ _ _ x hx
    rw [Tr.segs_rows, List.length_append, List.length_singleton] at h
    omega
   ·have h := h2 _ _ _ x hx
    omega
 ·intro p j f x hx; rw [Tr.posSegs] at hx; cases hx
 ·intro k b a r h1 h2 p j f x hx
  have e : Tr.countL (Tr.rowsOf ((k, b, a) :: r)) = 1 + Tr.countL a.kids + Tr.countL (Tr.rowsOf r) := by
   show Tr.countL (a :: Tr.rowsOf r) = _
   rw [Tr.countL, Tr.count_kids]
  rw [Tr.posSegs] at hx
  rcases List.mem_append.1 hx with hx | hx
  ·have h := h1 _ _ _ x hx
   rw [List.length_append, List.length_singleton] at h
   omega
  ·have h := h2 _ _ _ x hx
   omega
theorem fold_mem (k : Int) : ∀ (l : List (List Nat × Nat)) (s : List Nat × Int), (l.foldl (fun s x => Tr.atG k s x.1 x.2) s).1 = s.1 ∨ ∃ x ∈ l, (l.foldl (fun s x => Tr.atG k s x.1 x.2) s).1 = x.1
 | [], _ => .inl rfl
 | y :: l, s => by
  rw [List.foldl_cons]
  rcases fold_mem k l (Tr.atG k s y.1 y.2) with h | ⟨x, hx, h⟩
  ·rw [h]
   unfold Tr.atG
   split
   ·exact .inl rfl
   ·split
    ·exact .inr ⟨y, by simp, rfl⟩
    ·exact .inl rfl
  ·exact .inr ⟨x, by simp [hx], h⟩
theorem atP_len (n : Nd) (k : Int) (hc : Tr.count n ≤ 800) : (atP n k).length ≤ 2000 := by
 unfold atP
 split
 ·rcases fold_mem k (Tr.posRow (printT n) n.kids [] 0 0) ([], -1) with h | ⟨x, hx, h⟩
  ·rw [h]; simp
  ·rw [h]
   have h1 := (pos_len (printT n)).1 _ _ _ _ x hx
   have h2 := Tr.count_kids n
   simp only [List.length_nil] at h1
   omega
 ·simp
def atS (n : Nd) (k : Int) (j : Nat) : List Nat × Int := ((posL n).take j).foldl (fun s x => atR k s x.1 x.2) ([], -1)
theorem atS_next (n : Nd) (k : Int) (j : Nat) (h : j < (posL n).length) : atS n k (j + 1) = atR k (atS n k j) (posL n)[j].1 (posL n)[j].2 := by
 unfold atS
 rw [List.take_add_one, List.getElem?_eq_getElem h, List.foldl_append]
 rfl
theorem atS_end (n : Nd) (hv : Tr.valid n = true) (k : Int) (h0 : 0 ≤ k) (h1 : k ≤ (printS n).length) : (atS n k (posL n).length).1 = atP n k := by
 unfold atS atP
 rw [List.take_length, if_pos ⟨hv, h0, h1⟩]
 exact (congrArg (·.1) (Tr.at_fold k (posL n) ([], -1) ((Tr.pos_sorted (printT n)).1 n.kids [] 0 0) (.inl rfl))).symm
set_option maxRecDepth 100000 in
set_option maxHeartbeats 1000000 in
theorem rAt22_any (n : Nd) (sl : Value) (k : Int) (w : World) (hr : RepL w n.kids sl) (ht : n.text.length ≤ maxLen) (hc : Tr.count n ≤ 800) :
  Calls Tryz.prog 17 #[nv n sl, .int .i64 k] w (AtOf n k w) := by
 obtain ⟨A, cap, rfl⟩ := hr.slice
 have HR := hid hr
 have HC := hid hc
 have HPS := hid (printS_le n hc)
 clear hr hc
 cases hv : Tr.valid n with
 | false =>
  have HE := hid (show printE n = 1 from by unfold printE; rw [hv]; rfl)
  have HA := hid (show atE n k = 1 ∧ atP n k = [] from by unfold atE atP; rw [hv]; simp)
  clear hv
  go_enter Tryz.func17, Tryz.ntmps17
  go_wp2_with fail
  refine (rprint_any n _ _ (HR.out.fresh ((Touch.refl _ _).alloc _)) ht HC.out).mono ?_
  rintro _ w1 ⟨rfl, hf⟩
  rw [HE.out]
  have HF := hid (show Fresh w w1 from Touch.pre hf)
  clear hf
  go_wp2_with fail
  go_ret2
  exact ⟨.slice none 0 0, by rw [HA.out.1]; rfl, by rw [HA.out.2]; exact Ints.nil _ _ _, HF.out⟩
 | true =>
  have HE := hid (show printE n = 0 from by unfold printE; rw [hv]; rfl)
  have HV := hid hv
  clear hv
  have hsz : (⟨(printS n).toArray⟩ : ByteArray).size = (printS n).length := by simp [ByteArray.size]
  have hpl := HPS.out
  go_enter Tryz.func17, Tryz.ntmps17
  go_wp2_with fail
  refine (rprint_any n _ _ (HR.out.fresh ((Touch.refl _ _).alloc _)) ht HC.out).mono ?_
  rintro _ W1 ⟨rfl, hf⟩
  rw [HE.out]
  have HF1 := hid (show Fresh w W1 from Touch.pre hf)
  have hb1 := hf.blk (Blk.new w 24 #[.int .i64 n.kind, .string (⟨n.text.toArray⟩ : ByteArray), .int .i64 n.cols, .slice A n.kids.length cap]) (fun h => h)
  have HB1 := hid hb1
  obtain ⟨q0, q1, q2, q3, _⟩ := Blk.four hb1
  clear hf hb1
  cases h0 : decide (k < 0) with
  | true =>
   have HA := hid (show atE n k = 2 ∧ atP n k = [] from by
    have : ¬ 0 ≤ k := by simp at h0; omega
    unfold atE atP; rw [HV.out]; simp [this])
   have h0' : k < 0 := by simpa using h0
   go_wp2_with fail
   go_ret2
   exact ⟨.slice none 0 0, by rw [HA.out.1]; rfl, by rw [HA.out.2]; exact Ints.nil _ _ _, HF1.out⟩
  | false =>
   cases h1 : decide (((printS n).length : Int) < k) with
   | true =>
    have HA := hid (show atE n k = 2 ∧ atP n k = [] from by
     have : ¬ k ≤ ((printS n).length : Int) := by simp at h1; omega
     unfold atE atP; rw [HV.out]; simp [this])
    have h1' : ((printS n).length : Int) < k := by simpa using h1
    go_wp2_with fail
    go_ret2
    exact ⟨.slice none 0 0, by rw [HA.out.1]; rfl, by rw [HA.out.2]; exact Ints.nil _ _ _, HF1.out⟩
   | false =>
    have hk0 : 0 ≤ k := by simp at h0; omega
    have hk1 : k ≤ ((printS n).length : Int) := by simp at h1; omega
    have HA := hid (show atE n k = 0 ∧ (atS n k (posL n).length).1 = atP n k from ⟨by unfold atE; rw [HV.out]; simp [hk0, hk1], atS_end n HV.out k hk0 hk1⟩)
    clear hk0 hk1
    go_wp2_with fail
    refine (rAll_any n _ _ (HR.out.fresh HF1.out) ht HC.out).mono ?_
    rintro _ W2 ⟨v, cs, rfl, hf2, hvv⟩
    rw [HE.out]
    obtain ⟨ho, hps⟩ := hvv HV.out
    have hlen : (allP n.kids [] 0).length = (posL n).length := by rw [← posL_all, List.length_map]
    have HO := hid ho
    have HPT := hid hps
    rw [hlen] at ho
    have HLEN := hid hlen
    have hl8 : (posL n).length ≤ 800 := by
     rw [← hlen, allP_len]
     have := HC.out
     have := Tr.count_kids n
     omega
    obtain ⟨Av, cv, rfl⟩ := slice_owned ho
    have HO := hid ho
    have HF2 := hid (HF1.out.trans hf2)
    have HB2 := hid (hf2.blk HB1.out (fun h => h))
    clear ho hps hvv hf2 hlen q0 q1 q2 q3
    go_wp2_with fail
    go_loopw [10, 11, 12] (fun o b i wr => ∃ j : Nat, i = .int .i64 j ∧ j ≤ (posL n).length ∧ b = .int .i64 (atS n k j).2 ∧ Hid (Ints W2 o (up (atS n k j).1)) ∧ Hid (Fresh W2 wr)) (fun _ _ i _ => (posL n).length - (intOf i).toNat)
    case atStart => exact ⟨0, rfl, Nat.zero_le _, rfl, Ints.nil _ _ _, Touch.refl _ _⟩
    case round =>
     obtain ⟨j, rfl, hj, rfl, HI, HF⟩ := hrel
     obtain ⟨Ao, co, rfl⟩ : ∃ A c, u10 = .slice A (atS n k j).1.length c := by have := HI.out.slice; rwa [List.length_map] at this
     have q0 := HF.out.cell (HB2.out.cell 0) (fun h => h)
     have q1 := HF.out.cell (HB2.out.cell 1) (fun h => h)
     have q2 := HF.out.cell (HB2.out.cell 2) (fun h => h)
     have q3 := HF.out.cell (HB2.out.cell 3) (fun h => h)
     by_cases c2 : j < (posL n).length
     ·have d1 : decide ((j : Int) < ((posL n).length : Int)) = true := by simp; omega
      have d1n : decide (j < (posL n).length) = true := by simp; omega
      have d1' : (j : Int) < ((posL n).length : Int) := by omega
      obtain ⟨pv, x0, x1⟩ := HPT.out.get j (by rw [HLEN.out]; exact c2)
      have hx : (allP n.kids [] 0)[j]'(by rw [HLEN.out]; exact c2) = (posL n)[j].1 := by simp [← posL_all]
      rw [hx] at x1
      have hmem : (posL n)[j] ∈ posL n := List.getElem_mem c2
      have HNX := hid (atS_next n k j c2)
      generalize (posL n)[j] = X at x1 hmem HNX
      clear hx
      obtain ⟨p, v⟩ := X
      replace x1 : PthAt W1.heap.size (Value.slice Av (posL n).length cv).ownBlock W2 pv p := x1
      have HPI := hid x1.ints
      have HOFF := hid (off_hit n HV.out hmem)
      have HVL := hid (pos_le n HV.out hmem)
      obtain ⟨Ap, cp, rfl⟩ : ∃ A c, pv = .slice A p.length c := by have := HPI.out.ints.slice; rwa [List.length_map] at this
      obtain ⟨g, cap', hve, hgl⟩ : ∃ g cap', Value.slice Av (posL n).length cv = .slice (some ⟨g, 0, none⟩) (posL n).length cap' ∧ g < W2.heap.size := by
       rcases HO.out.2 with ⟨_, h2⟩ | ⟨g', cap, cur, h1, h2, h3, _⟩
       ·omega
       ·exact ⟨g', cap, h1, (Array.getElem?_eq_some_iff.1 h3).1⟩
      cases hve
      have a0 := HF.out.cell ((HO.out.cellAt j (by omega)).trans x0) (fun h => h)
      have hg2 : g < wr.heap.size := Nat.lt_of_lt_of_le hgl HF.out.size
      have HX0 := hid x0
      clear hmem x0 x1 hgl
      generalize hst : atS n k j = st at HNX HI ⊢
      obtain ⟨q, best⟩ := st
      have HI2 := hid (show Ints W2 (.slice Ao q.length co) (up q) from HI.out)
      go_wp2_with fail
      have r0 := cell_regrown q0
      have r1 := cell_regrown q1
      have r2 := cell_regrown q2
      have r3 := cell_regrown q3
      have r4 := cell_regrown a0
      refine wp_region_mix [] [(0, true), (1, true), (2, true), (3, true), (4, true), (5, false), (6, true), (7, true), (8, true), (9, true), (10, true)] (by kernel_rfl) (fun _ _ d _ _ h => by cases d <;> exact h) (by kernel_rfl) ?_
      refine wpMix_last ?_
      repeat (refine wpSeq_plain rfl (fun K hK => ?_); go_simp; refine hK _ ?_; clear hK K)
      refine wpSeq_lone rfl (fun K hK => ?_)
      go_wp2_with fail
      refine (rOffset22_any n _ _ (up p) _ (HR.out.fresh (HF2.out.trans (HF.out.drewN _))) ht HC.out (HPI.out.fresh (HF.out.drewN _))).mono ?_
      rw [HOFF.out]
      rintro _ W3 ⟨rfl, hf3⟩
      have HF3 := hid (show Fresh wr W3 from Touch.ofN hf3)
      clear hf3 r0 r1 r2 r3 r4 a0 q0 q1 q2 q3
      go_wp2_with fail
      refine hK _ _ (growing_fresh HF3.out) ?_
      clear hK K
      repeat (refine wpSeq_plain rfl (fun K hK => ?_); go_simp; refine hK _ ?_; clear hK K)
      refine wpSeq_end ?_
      have HVI := hid (show atR k (q, best) p v = if (v : Int) ≤ k ∧ best < (v : Int) then (p, (v : Int)) else (q, best) from rfl)
      obtain ⟨V, hV⟩ : ∃ V : Int, (v : Int) = V := ⟨_, rfl⟩
      rw [hV] at HVI ⊢
      clear hV
      cases t1 : decide (V ≤ k) with
      | false =>
       have HY := hid (show atS n k (j + 1) = (q, best) from by
        have : ¬ (V ≤ k ∧ best < V) := by simp at t1; omega
        have h2 := HNX.out
        rw [HVI.out, if_neg this] at h2
        exact h2)
       go_wp2_with fail
       go_roundw
       case rel => exact ⟨j + 1, by first | go_num | simp, by omega, by rw [HY.out], by rw [HY.out]; exact HI2, HF.out.trans HF3.out⟩
       case measure => first | (simp [intOf]; omega) | (simp [intOf]; done)
      | true =>
       cases t2 : decide (best < V) with
       | false =>
        have HY := hid (show atS n k (j + 1) = (q, best) from by
         have : ¬ (V ≤ k ∧ best < V) := by simp at t2; omega
         have h2 := HNX.out
         rw [HVI.out, if_neg this] at h2
         exact h2)
        go_wp2_with fail
        go_roundw
        case rel => exact ⟨j + 1, by first | go_num | simp, by omega, by rw [HY.out], by rw [HY.out]; exact HI2, HF.out.trans HF3.out⟩
        case measure => first | (simp [intOf]; omega) | (simp [intOf]; done)
       | true =>
        have HY := hid (show atS n k (j + 1) = (p, V) from by
         have : V ≤ k ∧ best < V := by simp at t1 t2; omega
         have h2 := HNX.out
         rw [HVI.out, if_pos this] at h2
         exact h2)
        have b0 := HF3.out.cell (HF.out.cell ((HO.out.cellAt j (by omega)).trans HX0.out) (fun h => h)) (fun h => h)
        have hg3 : g < W3.heap.size := Nat.lt_of_lt_of_le hg2 HF3.out.size
        clear hg2
        go_wp2_with fail
        go_roundw
        case rel => exact ⟨j + 1, by first | go_num | simp, by omega, by rw [HY.out], by rw [HY.out]; exact HPI.out.ints, HF.out.trans HF3.out⟩
        case measure => first | (simp [intOf]; omega) | (simp [intOf]; done)
     ·have d1 : decide ((j : Int) < ((posL n).length : Int)) = false := by simp; omega
      have d1n : decide (j < (posL n).length) = false := by simp; omega
      obtain rfl : j = (posL n).length := by omega
      clear q0 q1 q2 q3
      have HIE := hid (show Ints W2 (.slice Ao (atS n k (posL n).length).1.length co) (up (atP n k)) from by have := HI.out; rw [HA.out.2] at this; rw [HA.out.2]; exact this)
      clear HI
      go_wp2_with fail
      go_ret2
      exact ⟨_, by rw [HA.out.1]; rfl, HIE.out.fresh HF.out, HF2.out.trans HF.out⟩
set_option maxRecDepth 100000 in
set_option maxHeartbeats 400000 in
theorem sat_any (n : Nd) (sl : Value) (k : Int) (w : World) (hsl : RepL w n.kids sl) (ht : n.text.length ≤ maxLen) :
  Calls Tryz.prog 4 #[nv n sl, .int .i64 k] w fun e w' => e = .returned (.bool true) ∧ Fresh w w' := by
 obtain ⟨A, cap, rfl⟩ := hsl.slice
 have HSL := hid hsl
 clear hsl
 go_enter Tryz.func4, Tryz.ntmps4
 go_wp2_with fail
 refine (awake22_any _).mono ?_
 rintro _ w1 ⟨rfl, hf1⟩
 have HF1 := hid (show Fresh w w1 from Touch.pre hf1)
 have hb1 := hf1.blk (Blk.new w 24 #[.int .i64 n.kind, .string (⟨n.text.toArray⟩ : ByteArray), .int .i64 n.cols, .slice A n.kids.length cap]) (fun h => h)
 have HB1 := hid hb1
 obtain ⟨q0, q1, q2, q3, _⟩ := Blk.four hb1
 clear hf1 hb1
 go_wp2_with fail
 refine (few22_any n _ _ (HSL.out.fresh HF1.out)).mono ?_
 rintro _ w2 ⟨rfl, hf2⟩
 have HF2 := hid (HF1.out.trans hf2)
 have HB2 := hid (hf2.blk HB1.out (fun h => h))
 replace q0 := hf2.cell q0 (fun h => h)
 replace q1 := hf2.cell q1 (fun h => h)
 replace q2 := hf2.cell q2 (fun h => h)
 replace q3 := hf2.cell q3 (fun h => h)
 clear hf2
 cases hcc : decide ((Tr.count n : Int) ≤ 60) with
 | false =>
  go_wp2_with fail
  refine (awake22_any _).mono ?_
  rintro _ w3 ⟨rfl, hf3⟩
  have HF3 := hid (HF2.out.trans hf3)
  clear hf3 q0 q1 q2 q3
  go_wp2_with fail
  go_ret
  exact ⟨rfl, HF3.out⟩
 | true =>
  have HC := hid (show Tr.count n ≤ 60 from by simp at hcc; omega)
  go_wp2_with fail
  refine (at_any n _ k _ (HSL.out.fresh HF2.out) ht (by have := HC.out; omega)).mono ?_
  rintro _ w3 ⟨v3, rfl, hi3, hf3⟩
  have HF3 := hid (HF2.out.trans hf3)
  obtain ⟨q0, q1, q2, q3, _⟩ := Blk.four (hf3.blk HB2.out (fun h => h))
  have HI3 := hid hi3
  have HSP := hid (atP_len n k (by have := HC.out; omega))
  have HRT := hid (fun (w : World) (hr : RepL w n.kids (.slice A n.kids.length cap)) => rAt22_any n _ k w hr ht (by have := HC.out; omega))
  unfold AtOf at HRT
  generalize atP n k = P at *
  generalize atE n k = E at *
  obtain ⟨A3, c3, rfl⟩ : ∃ A c, v3 = .slice A P.length c := by have := hi3.slice; rwa [List.length_map] at this
  clear hf3 hi3
  go_wp2_with fail
  refine (HRT.out _ (HSL.out.fresh HF3.out)).mono ?_
  rintro _ w4 ⟨v4, rfl, hi4, hf4⟩
  have HF4 := hid hf4
  have HI4 := hid hi4
  obtain ⟨A4, c4, rfl⟩ : ∃ A c, v4 = .slice A P.length c := by have := hi4.slice; rwa [List.length_map] at this
  have t1 : (E == E) = true := by simp
  clear hf4 hi4 q0 q1 q2 q3
  go_wp2_with fail
  refine (rsame_ints (up P) (up P) _ _ _ (HI3.out.fresh HF4.out) HI4.out (by rw [List.length_map]; have := HSP.out; unfold maxLen; omega) (by rw [List.length_map]; have := HSP.out; unfold maxLen; omega)).mono ?_
  rintro _ w5 ⟨rfl, hf5⟩
  have HF5 := hid (HF3.out.trans (HF4.out.trans hf5))
  have hd : decide (up P = up P) = true := by simp
  rw [hd]
  clear hf5 hd
  go_wp2_with fail
  go_ret
  exact ⟨rfl, HF5.out⟩
set_option maxRecDepth 100000 in
theorem spanAt_lifted (os : Os) (started : os.Started) (H : Type) (enc : TypeId × Value → H) :
  ReturnsInHanded {} Tryz.checked os 4 .any (Rows.spanAtSpec.pre6 enc Tryz.prog Tryz.f4 Rows.spanAtRow.domain false) (Rows.spanAtSpec.post enc Tryz.prog Tryz.f4 false true false false) := by
 refine returnsInHanded_of_change (C := Tryz.checked) Tryz.ownKnob started (by kernel_rfl) Tryz.func4
  (ChangeSpec.witness6 (enc := enc) (C := Tryz.checked) false ⟨#[], #[.agg #[.int .i64 0, .string ⟨#[]⟩, .int .i64 0, .slice none 0 0], .int .i64 0], []⟩ 8 (by kernel_rfl) (by kernel_rfl) (by kernel_rfl) (by kernel_rfl)) ?_
 intro W base args ds gs before hval0 hW hcnd _
 have hval : ∀ (j : Nat) t v, Tryz.f4.params[j]? = some t → args[j]? = some v → Value.okWide Tryz.prog W .any base t v := hval0
 have hW' := hW
 obtain ⟨p, q, hA0, hV, rfl, hfz, hnd⟩ := hW
 have hA : DataW.TrodAll enc Tryz.prog W 0 (fun _ => true) true Tryz.f4.params.toList args.toList ds p := hA0
 rw [Tryz.params4] at hA hval
 obtain ⟨v0, v1, d0, d1, p0, p1, rfl, rfl, rfl, h0, h1⟩ := trodAll_two hA
 obtain ⟨rfl, rfl⟩ := trodVars_none hV
 obtain ⟨a, ⟨sa, rfl, ra⟩, ta⟩ := open_node (hval 0 24 v0 rfl rfl) h0
 obtain ⟨k, rfl, _, _, _⟩ := open_int Tryz.underlying3 (hval 1 3 v1 rfl rfl) h1
 refine (sat_any a sa k W ra ta).mono fun e W' ⟨he, hw⟩ => ?_
 exact ⟨_, he, post_true Tryz.laidOut Tryz.underlying4 (by kernel_rfl) (by kernel_rfl) rfl rfl hW' hw⟩
theorem SpanAt_holds : Rows.SpanAtSaid :=
 OpenClaim.holds_of_wide 4 Tryz.f4 rfl rfl rfl rfl rfl rfl rfl ⟨rfl, rfl, rfl, rfl, rfl⟩ rfl rfl rfl rfl rfl (by kernel_rfl) Tryz.func4 (by kernel_rfl)
  (of_decide_eq_true (by kernel_rfl)) (by unfold Func.isWrapper; first | (rw [if_pos (by decide +kernel)]; kernel_rfl) | (rw [if_neg (by decide +kernel)]; exact ⟨rfl, rfl⟩))
  (fun os started H enc _ => spanAt_lifted os started H enc)
end Go.Proofs.YtdacpbdamliafaaGreat
