/- Part 10 of 11 of a proof; its texts, joined: SnJ, PrV, SnE, NdK, NdL, NdM, NdN. No condition. -/
import Derived.Test.YtdacpbdamliafaaJo9
import Derived.Test.YtdacpbdamliafaaJo7
import Derived.Test.YtdacpbdamliafaaJo2
import Derived.Test.YtdacpbdamliafaaJo6
import Derived.Deep.RegionWith

/- The reference's positions of a row. -/
namespace Go.Proofs.Ytdacpbdamliafaa
open Go.RowKit
open Tr (Nd)
attribute [local go_sem] stillV stillUpon

theorem infoInts : (Try.prog.info? 31).map (fun i => (i.zero, i.size, i.bytes)) = some (some (.slice none 0 0), 1, 24) := by kernel_rfl
theorem PthAt.own {w : World} {B : Nat} {v : Value} {q : List Nat} (h : w.ownsRow B 3 1 v q.length (intVs (up q))) (hq : q ≠ []) : PthAt B none w v q := by
  rcases h.2 with ⟨_, h2⟩ | ⟨b, cap, cur, h1, hB, hb, h2, h3, _⟩
  · exact absurd (List.length_eq_zero_iff.1 h2) hq
  · refine ⟨b, cap, h1, h2, h3, hB, (h.lt b (by rw [h1]; rfl)).2, by simp, fun i hi => ?_⟩
    have := h.cells (g := b) (by rw [h1]; rfl) i (.int .i64 (q[i] : Nat)) (by simp [hi])
    rw [Addr.add_mid, Nat.zero_add] at this
    exact this
theorem PthAt.with {w : World} {B : Nat} {own : Option Nat} {v : Value} {q : List Nat} (h : PthAt B none w v q) (ho : ∀ b, own = some b → b < B) : PthAt B own w v q := by
  obtain ⟨b, cap, rfl, h1, h2, h3, h4, _, h6⟩ := h
  exact ⟨b, cap, rfl, h1, h2, h3, h4, fun e => by have := ho b e; omega, h6⟩
/-- What the reference's all returns. -/
def AllOf (n : Nd) (p : List Nat) (w : World) (e : Ending) (w' : World) : Prop :=
  ∃ v cs, e = .returned v ∧ w'.ownsRow w.heap.size 31 1 v (allP n.kids p 0).length cs ∧ PthsAt w.heap.size v.ownBlock w' (allP n.kids p 0) cs ∧ Fresh w w'

set_option maxRecDepth 100000 in
set_option maxHeartbeats 1000000 in
theorem all_any (m : Nat) : ∀ (n : Nd) (sl v : Value) (p : List Nat) (w : World), Tr.count n ≤ m → Tr.count n ≤ 800 → RepL w n.kids sl → Ints w v (up p) → p.length + 2 * Tr.count n ≤ 4000 →
    Calls Try.prog 18 #[nv n sl, v] w (AllOf n p w) := by
  induction m with
  | zero => intro n sl v p w h; have := Tr.count_pos n; omega
  | succ m ih =>
    intro n sl v p w hm hc hr hp hpl
    obtain ⟨i, hi, hz0, hz1, hz2⟩ := info_parts infoInt
    obtain ⟨i', hi', hz0', hz1', hz2'⟩ := info_parts infoInts
    obtain ⟨A, cap, rfl⟩ := hr.slice
    obtain ⟨Ap, cp, rfl⟩ : ∃ A c, v = .slice A p.length c := by have := hp.slice; rwa [List.length_map] at this
    have HR := hid hr
    have HP := hid hp
    have HM := hid hm
    have HC := hid hc
    have HPL := hid hpl
    have hk8 : n.kids.length ≤ 800 := by have := Tr.count_kids n; have := Tr.countL_len n.kids; have := HC.out; omega
    have HIH := hid ih
    clear hr hp hm hc hpl ih
    go_enter Try.func18, Try.ntmps18
    go_wp2_with fail
    have hf1 : Fresh w (w.alloc (.cells #[.int .i64 n.kind, .string ⟨n.text.toArray⟩, .int .i64 n.cols, .slice A n.kids.length cap] 24)) := (Touch.refl _ _).alloc _
    have hb1 : Blk (w.alloc (.cells #[.int .i64 n.kind, .string ⟨n.text.toArray⟩, .int .i64 n.cols, .slice A n.kids.length cap] 24)) w.heap.size 24 #[.int .i64 n.kind, .string ⟨n.text.toArray⟩, .int .i64 n.cols, .slice A n.kids.length cap] := Blk.new _ _ _
    generalize (w.alloc (.cells #[.int .i64 n.kind, .string ⟨n.text.toArray⟩, .int .i64 n.cols, .slice A n.kids.length cap] 24)) = W1 at hf1 hb1 ⊢
    have HF1 := hid hf1
    have q1 := hb1.cell 3
    have HB1 := hid hb1.lt
    clear hf1 hb1
    go_loopw [5, 6] (fun o i wr => ∃ (j : Nat) (L : List (List Nat)) (cs : List Value), i = .int .i64 j ∧ j ≤ n.kids.length ∧ Hid (L ++ allP (n.kids.drop j) p j = allP n.kids p 0) ∧ Hid (wr.ownsRow W1.heap.size 31 1 o L.length cs) ∧ Hid (PthsAt W1.heap.size o.ownBlock wr L cs) ∧ Hid (Fresh W1 wr)) (fun o i _ => n.kids.length + 1 - (intOf i).toNat)
    case atStart => exact ⟨0, [], [], rfl, Nat.zero_le _, rfl, World.ownsRow_nil _ _ _ _, rfl, Touch.refl _ _⟩
    case round =>
      obtain ⟨j, L, cs, rfl, hj, HL, HO, HPS, HF⟩ := hrel
      obtain ⟨Ao, co, rfl⟩ := owns_slice HO.out
      have d1 : decide ((j : Int) ≤ (n.kids.length : Int)) = true := by simp; omega
      have q3 := HF.out.cell q1 (fun h => h)
      have HSRC := hid (show Src w 1 (.slice Ap p.length cp) p.length (intVs (up p)) from by have := Src.of_ints HP.out; rwa [List.length_map] at this)
      have HWR := hid (HF1.out.trans HF.out)
      go_wp2_with (at_builtin; refine wpList_append_src _ rfl (.tmp 16) (.tmp 17) 31 rfl wr.heap.size 3 i _ 1 8 rfl hi hz0 hz1 hz2 rfl (by decide) (.slice (some ⟨wr.heap.size, 0, none⟩) 0 0) 0 [] (by simp [Act.eval]) (World.ownsRow_lit wr #[] 0 (Nat.le_refl _) (Nat.zero_le _) rfl) (.slice Ap p.length cp) p.length (intVs (up p)) (by simp [Act.eval]) (HSRC.out.fresh (HWR.out.alloc _)) (intVs_one _) (by have := HPL.out; unfold maxLen; omega) (by have := HPL.out; omega) (by simp) ?_; intro v18 w18 ho18 hg18 hv18; refine Stay.mk ?_)
      rw [Nat.zero_add, List.nil_append] at ho18
      obtain ⟨A18, c18, rfl⟩ := owns_slice ho18
      have HF18 := hid (show Fresh wr w18 from Touch.grown ((Touch.refl _ wr).alloc _) hg18 fun g hg => .inr (by simp only [Value.ownBlock, Option.some.injEq] at hg; omega))
      have HO18 := hid ho18
      clear ho18 hg18 hv18
      refine Stay.go ?_
      go_wp2_with (at_builtin; refine wpList_append_src _ rfl (.tmp 18) (.tmp 20) 31 rfl wr.heap.size 3 i _ 1 8 rfl hi hz0 hz1 hz2 rfl (by decide) (.slice A18 p.length c18) p.length (intVs (up p)) (by simp [Act.eval]) (ownsRow_touch HO18.out ((Touch.refl _ _).alloc _) (fun _ _ h => h)) (.slice (some ⟨w18.heap.size, 0, none⟩) 1 1) 1 [.int .i64 (j : Int)] (by simp [Act.eval]) (Src.of_blk (Blk.new _ _ _) rfl) (by intro u hu; simp at hu; rw [hu]; rfl) (by have := HPL.out; unfold maxLen; omega) (by have := HPL.out; omega) (by have := HF18.out.size; simp; omega) ?_; intro v21 w21 ho21 hg21 hv21; refine Stay.mk ?_)
      have HF21 := hid (show Fresh wr w21 from touch_grown (HF18.out.alloc _) (ownsRow_touch HO18.out ((Touch.refl _ _).alloc _) (fun _ _ h => h)) (Nat.le_refl _) hg21)
      have hq : w21.ownsRow wr.heap.size 3 1 v21 (p ++ [j]).length (intVs (up (p ++ [j]))) := by
        have e1 : (p ++ [j]).length = p.length + 1 := by simp
        have e2 : intVs (up (p ++ [j])) = intVs (up p) ++ [.int .i64 (j : Int)] := by simp
        rw [e1, e2]
        exact ho21
      have HPA := hid (PthAt.own hq (by simp))
      obtain ⟨A21, c21, rfl⟩ := owns_slice ho21
      clear ho21 hg21 hv21 hq
      have hob : ∀ b, (Value.slice Ao L.length co).ownBlock = some b → b < wr.heap.size := fun b hb => (HO.out.lt b hb).2
      have HOB := hid hob
      have hL8 : L.length ≤ 1000 := by have h1 := congrArg List.length HL.out; rw [List.length_append, allP_len n.kids] at h1; have := Tr.count_kids n; have := HC.out; omega
      clear hob
      refine Stay.go ?_
      go_wp2_with (at_builtin; refine wpList_append_src _ rfl (.tmp 15) (.tmp 22) 27 rfl W1.heap.size 31 i' _ 1 24 rfl hi' hz0' hz1' hz2' rfl (by decide) (.slice Ao L.length co) L.length cs (by simp [Act.eval]) (ownsRow_touch HO.out (HF21.out.alloc _) (fun _ _ h => h)) (.slice (some ⟨w21.heap.size, 0, none⟩) 1 1) 1 [.slice A21 (p.length + 1) c21] (by simp [Act.eval]) (Src.of_blk (Blk.new _ _ _) rfl) (by intro u hu; simp at hu; rw [hu]; rfl) (by unfold maxLen; omega) (by omega) (by have := HF21.out.size; have := HF.out.size; simp; omega) ?_; intro v23 w23 ho23 hg23 hv23; refine Stay.mk ?_)
      have HT23 := hid (show Touch (fun k => (Value.slice Ao L.length co).ownBlock = some k) wr w23 from ((HF21.out.alloc _).mono (fun _ h => h.elim)).grown hg23 fun g h => .inl h)
      have HF23 := hid (show Fresh W1 w23 from touch_grown (HF.out.trans (HF21.out.alloc _)) (ownsRow_touch HO.out (HF21.out.alloc _) (fun _ _ h => h)) (Nat.le_refl _) hg23)
      have HO23 := hid ho23
      have hnew : ∀ b, v23.ownBlock = some b → (Value.slice Ao L.length co).ownBlock = some b ∨ w21.heap.size ≤ b := fun b hb => by
        rcases hv23 with e | e
        · exact .inl (by rw [← e]; exact hb)
        · rw [e] at hb
          simp only [Option.some.injEq] at hb
          exact .inr (by simp at hb; omega)
      have HPS23 := hid (show PthsAt W1.heap.size v23.ownBlock w23 (L ++ [p ++ [j]]) (cs ++ [.slice A21 (p.length + 1) c21]) from
        (HPS.out.mv HT23.out (fun b hb => (hnew b hb).imp id fun h => Nat.le_trans HF21.out.size h) (Nat.le_refl _)).append
          ⟨_, [], rfl, (HPA.out.with HOB.out).mv (((Touch.refl _ _).alloc _).grown hg23 fun g h => .inl h) hnew HF.out.size, rfl⟩)
      obtain ⟨A23, c23, rfl⟩ := owns_slice ho23
      clear ho23 hg23 hv23 hnew
      have q3' := HF23.out.cell q1 (fun h => h)
      clear q3
      refine Stay.go ?_
      by_cases c1 : j = n.kids.length
      · have d2' : ((j : Int) == (n.kids.length : Int)) = true := by simp; omega
        have HE := hid (show allP n.kids p 0 = L ++ [p ++ [j]] from by rw [← HL.out, c1, List.drop_length, allP_nil])
        subst c1
        go_wp2_with fail
        go_ret
        refine ⟨_, cs ++ [.slice A21 (p.length + 1) c21], rfl, ?_, ?_, HF1.out.trans HF23.out⟩
        · rw [HE.out, List.length_append]; exact ownsRow_low HO23.out HF1.out.size
        · rw [HE.out]; exact HPS23.out.mv (Touch.refl _ _) (fun _ h => .inl h) HF1.out.size
      · have d2' : ((j : Int) == (n.kids.length : Int)) = false := by simp; omega
        have c2 : j < n.kids.length := by omega
        have c2' : (j : Int) < (n.kids.length : Int) := by omega
        obtain ⟨g, o, sj, rfl, hg, m0, m1, m2, m3, hrj⟩ := HR.out.get j c2
        have HD := hid (show (L ++ [p ++ [j]]) ++ (allK n.kids[j].kids (p ++ [j]) 0 ++ allP (n.kids.drop (j + 1)) p (j + 1)) = allP n.kids p 0 from by rw [← HL.out, allP_drop _ _ _ c2]; simp)
        have HIN := hid (show ∀ x ∈ n.kids[j].kids, Tr.count x ≤ m ∧ Tr.count x ≤ 800 ∧ p.length + 2 + 2 * Tr.count x ≤ 4000 from fun x hx => by
          have h1 := Tr.count_mem hx
          have h2 := Tr.count_kids n.kids[j]
          have h3 := Tr.count_mem (List.getElem_mem c2)
          have h4 := Tr.count_kids n
          have h5 := HM.out
          have h6 := HC.out
          have h7 := HPL.out
          omega)
        have hkj : n.kids[j].kids.length ≤ 800 := by
          have h1 := Tr.countL_len n.kids[j].kids
          have h2 := Tr.count_kids n.kids[j]
          have h3 := Tr.count_mem (List.getElem_mem c2)
          have h4 := Tr.count_kids n
          have h6 := HC.out
          omega
        generalize n.kids[j] = nj at hrj HD HIN hkj
        obtain ⟨Aj, cj, rfl⟩ := hrj.slice
        have HRJ := hid hrj
        have HM3 := hid m3
        clear m0 m1 m2 m3 hrj hg
        generalize hRe : allP (n.kids.drop (j + 1)) p (j + 1) = R at HD
        have HRE := hid hRe
        clear hRe
        go_wp2_with fail
        go_loopw [5, 7] (fun o2 k2 wr2 => ∃ (k : Nat) (L2 : List (List Nat)) (cs2 : List Value), k2 = .int .i64 k ∧ k ≤ nj.kids.length ∧ Hid (L2 ++ (allK (nj.kids.drop k) (p ++ [j]) k ++ R) = allP n.kids p 0) ∧ Hid (wr2.ownsRow W1.heap.size 31 1 o2 L2.length cs2) ∧ Hid (PthsAt W1.heap.size o2.ownBlock wr2 L2 cs2) ∧ Hid (Fresh W1 wr2)) (fun o2 k2 _ => nj.kids.length - (intOf k2).toNat)
        case atStart => exact ⟨0, L ++ [p ++ [j]], cs ++ [.slice A21 (p.length + 1) c21], rfl, Nat.zero_le _, HD, by unfold Hid; rw [List.length_append]; exact HO23.out, HPS23, HF23⟩
        case round =>
          obtain ⟨k, L2, cs2, rfl, hk, HL2, HO2, HPS2, HFI⟩ := hrel
          clear q3' HF18 HO18 HF21 HPA HOB HT23 HO23 HPS23 HF23 HSRC HWR
          obtain ⟨Ao2, co2, rfl⟩ := owns_slice HO2.out
          have HWR := hid (HF1.out.trans HFI.out)
          have HSRC := hid (show Src w 1 (.slice Ap p.length cp) p.length (intVs (up p)) from by have := Src.of_ints HP.out; rwa [List.length_map] at this)
          have q3 := HFI.out.cell q1 (fun h => h)
          have m3 := HWR.out.cell HM3.out (fun h => h)
          by_cases c3 : k < nj.kids.length
          · have d3 : decide ((k : Int) < (nj.kids.length : Int)) = true := by simp; omega
            have d3n : decide (k < nj.kids.length) = true := by simp; omega
            have c3' : (k : Int) < (nj.kids.length : Int) := by omega
            obtain ⟨g2, o2, sk, rfl, hg2, n0, n1, n2, n3, hrk⟩ := HRJ.out.get k c3
            have HDR := hid (show allK (nj.kids.drop k) (p ++ [j]) k = allP nj.kids[k].kids (p ++ [j, k]) 0 ++ allK (nj.kids.drop (k + 1)) (p ++ [j]) (k + 1) from by rw [allK_drop _ _ _ c3]; simp)
            have HNK := hid (HIN.out _ (List.getElem_mem c3))
            generalize nj.kids[k] = nk at n0 n1 n2 n3 hrk HDR HNK
            obtain ⟨Ak, ck, rfl⟩ := hrk.slice
            have HRK := hid hrk
            have HLN := hid (show L2.length + (allP nk.kids (p ++ [j, k]) 0).length ≤ 1000 from by
              have h1 := congrArg List.length HL2.out
              rw [HDR.out, List.length_append, List.length_append, List.length_append, allP_len n.kids] at h1
              have := Tr.count_kids n
              have := HC.out
              omega)
            have a0 := HWR.out.cell n0 (fun h => h)
            have a1 := HWR.out.cell n1 (fun h => h)
            have a2 := HWR.out.cell n2 (fun h => h)
            have a3 := HWR.out.cell n3 (fun h => h)
            clear n0 n1 n2 n3 hrk hg2
            go_wp2_with fail
            have r3 := cell_regrown q3
            have s3 := cell_regrown m3
            have b0 := cell_regrown a0
            have b1 := cell_regrown a1
            have b2 := cell_regrown a2
            have b3 := cell_regrown a3
            refine wp_region_plan (Plan.of [(0, true), (1, true), (2, true), (3, true), (4, true), (5, true), (6, true), (7, true), (8, true), (9, true), (11, true), (13, true), (14, true)] (.fork 10 (.fork 12 (.lone 15 (.lone 16 (.lone 17 .nil))) 15 (.lone 12 (.lone 16 (.lone 17 .nil)))) 15 (.lone 10 (.lone 12 (.lone 16 (.lone 17 .nil))))))
              [0, 1, 2, 3, 4, 5, 6, 7, 8, 9, 10, 11, 12, 13, 14, 15, 16, 17] 18 #[true, true, true, true, true, true, true, true, true, true, true, true, true, true, true, true, true, true, false, false] [] [(19, true)] (by kernel_rfl) (fun _ _ d _ _ h => by cases d <;> exact h) (by kernel_rfl) ?_
            unfold Plan.of
            repeat (refine wpPlan_plain rfl (fun K hK => ?_); go_simp; refine hK _ ?_; clear hK K; first | done | unfold Plan.of)
            refine wpPlan_fork ?_ ?_
            · skip
              refine wpPlan_lone rfl (fun K hK => ?_)
              go_wp2_with fail
              have HF10 := hid (show Fresh wr ((wr.drewN 1).alloc (.cells #[] 3)) from ((Touch.refl _ wr).drewN 1).alloc _)
              refine hK _ _ (growing_fresh HF10.out) ?_
              clear hK K
              have HO10 := hid (show ((wr.drewN 1).alloc (.cells #[] 3)).ownsRow wr.heap.size 3 1 (.slice (some ⟨wr.heap.size, 0, none⟩) 0 0) 0 [] from World.ownsRow_lit (wr.drewN 1) #[] 0 (by simp) (Nat.zero_le _) rfl)
              have HZ10 := hid (show ((wr.drewN 1).alloc (.cells #[] 3)).heap.size = wr.heap.size + 1 from by simp)
              generalize ((wr.drewN 1).alloc (.cells #[] 3)) = W10 at *
              refine wpPlan_fork ?_ ?_
              · skip
                refine wpPlan_lone rfl (fun K hK => ?_)
                go_wp2_with (at_builtin; refine wpList_append_src _ rfl (.tmp 50) (.tmp 51) 31 rfl wr.heap.size 3 i _ 1 8 rfl hi hz0 hz1 hz2 rfl (by decide) (.slice (some ⟨wr.heap.size, 0, none⟩) 0 0) 0 [] (by simp [Act.eval]) HO10.out (.slice Ap p.length cp) p.length (intVs (up p)) (by simp [Act.eval]) (HSRC.out.fresh (HWR.out.trans HF10.out)) (intVs_one _) (by have := HPL.out; unfold maxLen; omega) (by have := HPL.out; omega) HF10.out.size ?_; intro v12 W12 ho12 hg12 _; refine Stay.mk ?_)
                rw [Nat.zero_add, List.nil_append] at ho12
                obtain ⟨A12, c12, rfl⟩ := owns_slice ho12
                have HF12 := hid (show Fresh wr W12 from touch_grown HF10.out HO10.out (Nat.le_refl _) hg12)
                have HO12 := hid ho12
                clear ho12 hg12
                refine Stay.go ?_
                go_wp2_with fail
                refine hK _ _ (growing_fresh HF12.out) ?_
                clear hK K
                refine wpPlan_lone rfl (fun K hK => ?_)
                go_wp2_with fail
                have HF15 := hid (show Fresh wr (W12.alloc (.cells #[.int .i64 (j : Int), .int .i64 (k : Int)] 3)) from HF12.out.alloc _)
                refine hK _ _ (growing_fresh HF15.out) ?_
                clear hK K
                have HB15 := hid (show Blk (W12.alloc (.cells #[.int .i64 (j : Int), .int .i64 (k : Int)] 3)) W12.heap.size 3 #[.int .i64 (j : Int), .int .i64 (k : Int)] from Blk.new W12 _ _)
                have HO15 := hid (ownsRow_touch HO12.out (((Touch.refl _ _).alloc _ : Fresh W12 (W12.alloc (.cells #[.int .i64 (j : Int), .int .i64 (k : Int)] 3)))) (fun _ _ h => h))
                generalize (W12.alloc (.cells #[.int .i64 (j : Int), .int .i64 (k : Int)] 3)) = W15 at *
                refine wpPlan_lone rfl (fun K hK => ?_)
                go_wp2_with (at_builtin; refine wpList_append_src _ rfl (.tmp 52) (.tmp 55) 31 rfl wr.heap.size 3 i _ 1 8 rfl hi hz0 hz1 hz2 rfl (by decide) (.slice A12 p.length c12) p.length (intVs (up p)) (by simp [Act.eval]) HO15.out (.slice (some ⟨W12.heap.size, 0, none⟩) 2 2) 2 [.int .i64 (j : Int), .int .i64 (k : Int)] (by simp [Act.eval]) (Src.of_blk HB15.out rfl) (by intro u hu; simp at hu; rcases hu with rfl | rfl <;> rfl) (by have := HPL.out; unfold maxLen; omega) (by have := HPL.out; omega) HF15.out.size ?_; intro v16 W16 ho16 hg16 _; refine Stay.mk ?_)
                have HF16 := hid (show Fresh wr W16 from touch_grown HF15.out HO15.out (Nat.le_refl _) hg16)
                have hq : W16.ownsRow wr.heap.size 3 1 v16 (p ++ [j, k]).length (intVs (up (p ++ [j, k]))) := by
                  have e1 : (p ++ [j, k]).length = p.length + 2 := by simp
                  have e2 : intVs (up (p ++ [j, k])) = intVs (up p) ++ [.int .i64 (j : Int), .int .i64 (k : Int)] := by simp
                  rw [e1, e2]
                  exact ho16
                have HI16 := hid (show Ints W16 v16 (up (p ++ [j, k])) from Ints.own (by rw [List.length_map]; exact hq))
                obtain ⟨A16, c16, rfl⟩ := owns_slice ho16
                clear ho16 hg16 hq
                refine Stay.go ?_
                go_wp2_with fail
                refine hK _ _ (growing_fresh HF16.out) ?_
                clear hK K
                refine wpPlan_lone rfl (fun K hK => ?_)
                go_wp2_with fail
                refine (HIH.out nk _ _ (p ++ [j, k]) _ HNK.out.1 HNK.out.2.1 (HRK.out.fresh (HWR.out.trans HF16.out)) HI16.out (by have := HNK.out.2.2; simp only [List.length_append, List.length_cons, List.length_nil]; omega)).mono ?_
                rintro _ W17 ⟨v17, cs17, rfl, ho17, hps17, hf17⟩
                have HF17 := hid (HF16.out.trans hf17)
                have HO17 := hid ho17
                have HPS17 := hid hps17
                have HS16 := hid HF16.out.size
                obtain ⟨A17, c17, rfl⟩ := owns_slice ho17
                clear ho17 hps17 hf17
                go_wp2_with fail
                refine hK _ _ (growing_fresh HF17.out) ?_
                clear hK K
                refine wpPlan_shut rfl (fun K hK => ?_)
                go_wp2_with (at_builtin; refine wpList_append_src _ rfl (.tmp 40) (.tmp 57) 27 rfl W1.heap.size 31 i' _ 1 24 rfl hi' hz0' hz1' hz2' rfl (by decide) (.slice Ao2 L2.length co2) L2.length cs2 (by simp [Act.eval]) (ownsRow_touch HO2.out HF17.out (fun _ _ h => h)) (.slice A17 (allP nk.kids (p ++ [j, k]) 0).length c17) (allP nk.kids (p ++ [j, k]) 0).length cs17 (by simp [Act.eval]) (Src.of_own HO17.out) HPS17.out.oneCell (by have := HLN.out; unfold maxLen; omega) (by have := HLN.out; omega) (by have := HF17.out.size; have := HFI.out.size; omega) ?_; intro v18 W18 ho18 hg18 hv18; refine Stay.mk ?_)
                have HT18 := hid (show Touch (fun b => (Value.slice Ao2 L2.length co2).ownBlock = some b) wr W18 from (HF17.out.mono (fun _ h => h.elim)).grown hg18 fun g h => .inl h)
                have HT18' := hid (show Touch (fun b => (Value.slice Ao2 L2.length co2).ownBlock = some b) W17 W18 from (Touch.refl _ _).grown hg18 fun g h => .inl h)
                have HF18' := hid (show Fresh W1 W18 from touch_grown (HFI.out.trans HF17.out) (ownsRow_touch HO2.out HF17.out (fun _ _ h => h)) (Nat.le_refl _) hg18)
                have HO18' := hid ho18
                have hnew : ∀ b, v18.ownBlock = some b → (Value.slice Ao2 L2.length co2).ownBlock = some b ∨ W17.heap.size ≤ b := fun b hb => by
                  rcases hv18 with e | e
                  · exact .inl (by rw [← e]; exact hb)
                  · rw [e] at hb
                    simp only [Option.some.injEq] at hb
                    exact .inr (by omega)
                have hold : ∀ b, (Value.slice Ao2 L2.length co2).ownBlock = some b → b < wr.heap.size := fun b hb => (HO2.out.lt b hb).2
                have HPS18 := hid (show PthsAt W1.heap.size v18.ownBlock W18 (L2 ++ allP nk.kids (p ++ [j, k]) 0) (cs2 ++ cs17) from
                  (HPS2.out.mv HT18.out (fun b hb => (hnew b hb).imp id fun h => Nat.le_trans HF17.out.size h) (Nat.le_refl _)).append
                    ((HPS17.out.mv' (fun b hb => Nat.lt_of_lt_of_le (hold b hb) HS16.out)).mv HT18'.out hnew (Nat.le_trans HFI.out.size HS16.out)))
                obtain ⟨A18', c18', rfl⟩ := owns_slice ho18
                clear ho18 hg18 hv18 hnew hold
                refine Stay.go ?_
                go_wp2_with fail
                refine wpMix_last ?_
                repeat (refine wpSeq_plain rfl (fun K hK => ?_); go_simp; refine hK _ ?_; clear hK K)
                refine wpSeq_end ?_
                go_wp2_with fail
                go_roundw
                case rel => exact ⟨k + 1, L2 ++ allP nk.kids (p ++ [j, k]) 0, cs2 ++ cs17, by first | go_num | simp, by omega, by unfold Hid; rw [← HL2.out, HDR.out]; simp, by unfold Hid; rw [List.length_append]; exact HO18'.out, HPS18, HF18'⟩
                case measure => first | (simp [intOf]; omega) | (simp [intOf]; done)
              · skip
                refine wpPlan_lone rfl (fun K hK => ?_)
                go_wp2_with fail
                have HF15 := hid (show Fresh wr (W10.alloc (.cells #[.int .i64 (j : Int), .int .i64 (k : Int)] 3)) from HF10.out.alloc _)
                refine hK _ _ (growing_fresh HF15.out) ?_
                clear hK K
                have HB15 := hid (show Blk (W10.alloc (.cells #[.int .i64 (j : Int), .int .i64 (k : Int)] 3)) W10.heap.size 3 #[.int .i64 (j : Int), .int .i64 (k : Int)] from Blk.new W10 _ _)
                have HO15 := hid (ownsRow_touch HO10.out (((Touch.refl _ _).alloc _ : Fresh W10 (W10.alloc (.cells #[.int .i64 (j : Int), .int .i64 (k : Int)] 3)))) (fun _ _ h => h))
                generalize (W10.alloc (.cells #[.int .i64 (j : Int), .int .i64 (k : Int)] 3)) = W15 at *
                refine wpPlan_lone rfl (fun K hK => ?_)
                go_wp2_with (at_builtin; refine wpList_append_src _ rfl (.tmp 50) (.tmp 51) 31 rfl wr.heap.size 3 i _ 1 8 rfl hi hz0 hz1 hz2 rfl (by decide) (.slice (some ⟨wr.heap.size, 0, none⟩) 0 0) 0 [] (by simp [Act.eval]) HO15.out (.slice Ap p.length cp) p.length (intVs (up p)) (by simp [Act.eval]) (HSRC.out.fresh (HWR.out.trans HF15.out)) (intVs_one _) (by have := HPL.out; unfold maxLen; omega) (by have := HPL.out; omega) HF15.out.size ?_; intro v12 W12 ho12 hg12 _; refine Stay.mk ?_)
                rw [Nat.zero_add, List.nil_append] at ho12
                obtain ⟨A12, c12, rfl⟩ := owns_slice ho12
                have HF12 := hid (show Fresh wr W12 from touch_grown HF15.out HO15.out (Nat.le_refl _) hg12)
                have HO12 := hid ho12
                have HB12 := hid (show Blk W12 W10.heap.size 3 #[.int .i64 (j : Int), .int .i64 (k : Int)] from ((Touch.refl (fun b => b = wr.heap.size) _).grown hg12 fun g h => .inl (by simp only [Value.ownBlock, Option.some.injEq] at h; exact h.symm)).blk HB15.out (by intro e; have := HZ10.out; omega))
                clear ho12 hg12
                refine Stay.go ?_
                go_wp2_with fail
                refine hK _ _ (growing_fresh HF12.out) ?_
                clear hK K
                refine wpPlan_lone rfl (fun K hK => ?_)
                go_wp2_with (at_builtin; refine wpList_append_src _ rfl (.tmp 52) (.tmp 55) 31 rfl wr.heap.size 3 i _ 1 8 rfl hi hz0 hz1 hz2 rfl (by decide) (.slice A12 p.length c12) p.length (intVs (up p)) (by simp [Act.eval]) HO12.out (.slice (some ⟨W10.heap.size, 0, none⟩) 2 2) 2 [.int .i64 (j : Int), .int .i64 (k : Int)] (by simp [Act.eval]) (Src.of_blk HB12.out rfl) (by intro u hu; simp at hu; rcases hu with rfl | rfl <;> rfl) (by have := HPL.out; unfold maxLen; omega) (by have := HPL.out; omega) HF12.out.size ?_; intro v16 W16 ho16 hg16 _; refine Stay.mk ?_)
                have HF16 := hid (show Fresh wr W16 from touch_grown HF12.out HO12.out (Nat.le_refl _) hg16)
                have hq : W16.ownsRow wr.heap.size 3 1 v16 (p ++ [j, k]).length (intVs (up (p ++ [j, k]))) := by
                  have e1 : (p ++ [j, k]).length = p.length + 2 := by simp
                  have e2 : intVs (up (p ++ [j, k])) = intVs (up p) ++ [.int .i64 (j : Int), .int .i64 (k : Int)] := by simp
                  rw [e1, e2]
                  exact ho16
                have HI16 := hid (show Ints W16 v16 (up (p ++ [j, k])) from Ints.own (by rw [List.length_map]; exact hq))
                obtain ⟨A16, c16, rfl⟩ := owns_slice ho16
                clear ho16 hg16 hq
                refine Stay.go ?_
                go_wp2_with fail
                refine hK _ _ (growing_fresh HF16.out) ?_
                clear hK K
                refine wpPlan_lone rfl (fun K hK => ?_)
                go_wp2_with fail
                refine (HIH.out nk _ _ (p ++ [j, k]) _ HNK.out.1 HNK.out.2.1 (HRK.out.fresh (HWR.out.trans HF16.out)) HI16.out (by have := HNK.out.2.2; simp only [List.length_append, List.length_cons, List.length_nil]; omega)).mono ?_
                rintro _ W17 ⟨v17, cs17, rfl, ho17, hps17, hf17⟩
                have HF17 := hid (HF16.out.trans hf17)
                have HO17 := hid ho17
                have HPS17 := hid hps17
                have HS16 := hid HF16.out.size
                obtain ⟨A17, c17, rfl⟩ := owns_slice ho17
                clear ho17 hps17 hf17
                go_wp2_with fail
                refine hK _ _ (growing_fresh HF17.out) ?_
                clear hK K
                refine wpPlan_shut rfl (fun K hK => ?_)
                go_wp2_with (at_builtin; refine wpList_append_src _ rfl (.tmp 40) (.tmp 57) 27 rfl W1.heap.size 31 i' _ 1 24 rfl hi' hz0' hz1' hz2' rfl (by decide) (.slice Ao2 L2.length co2) L2.length cs2 (by simp [Act.eval]) (ownsRow_touch HO2.out HF17.out (fun _ _ h => h)) (.slice A17 (allP nk.kids (p ++ [j, k]) 0).length c17) (allP nk.kids (p ++ [j, k]) 0).length cs17 (by simp [Act.eval]) (Src.of_own HO17.out) HPS17.out.oneCell (by have := HLN.out; unfold maxLen; omega) (by have := HLN.out; omega) (by have := HF17.out.size; have := HFI.out.size; omega) ?_; intro v18 W18 ho18 hg18 hv18; refine Stay.mk ?_)
                have HT18 := hid (show Touch (fun b => (Value.slice Ao2 L2.length co2).ownBlock = some b) wr W18 from (HF17.out.mono (fun _ h => h.elim)).grown hg18 fun g h => .inl h)
                have HT18' := hid (show Touch (fun b => (Value.slice Ao2 L2.length co2).ownBlock = some b) W17 W18 from (Touch.refl _ _).grown hg18 fun g h => .inl h)
                have HF18' := hid (show Fresh W1 W18 from touch_grown (HFI.out.trans HF17.out) (ownsRow_touch HO2.out HF17.out (fun _ _ h => h)) (Nat.le_refl _) hg18)
                have HO18' := hid ho18
                have hnew : ∀ b, v18.ownBlock = some b → (Value.slice Ao2 L2.length co2).ownBlock = some b ∨ W17.heap.size ≤ b := fun b hb => by
                  rcases hv18 with e | e
                  · exact .inl (by rw [← e]; exact hb)
                  · rw [e] at hb
                    simp only [Option.some.injEq] at hb
                    exact .inr (by omega)
                have hold : ∀ b, (Value.slice Ao2 L2.length co2).ownBlock = some b → b < wr.heap.size := fun b hb => (HO2.out.lt b hb).2
                have HPS18 := hid (show PthsAt W1.heap.size v18.ownBlock W18 (L2 ++ allP nk.kids (p ++ [j, k]) 0) (cs2 ++ cs17) from
                  (HPS2.out.mv HT18.out (fun b hb => (hnew b hb).imp id fun h => Nat.le_trans HF17.out.size h) (Nat.le_refl _)).append
                    ((HPS17.out.mv' (fun b hb => Nat.lt_of_lt_of_le (hold b hb) HS16.out)).mv HT18'.out hnew (Nat.le_trans HFI.out.size HS16.out)))
                obtain ⟨A18', c18', rfl⟩ := owns_slice ho18
                clear ho18 hg18 hv18 hnew hold
                refine Stay.go ?_
                go_wp2_with fail
                refine wpMix_last ?_
                repeat (refine wpSeq_plain rfl (fun K hK => ?_); go_simp; refine hK _ ?_; clear hK K)
                refine wpSeq_end ?_
                go_wp2_with fail
                go_roundw
                case rel => exact ⟨k + 1, L2 ++ allP nk.kids (p ++ [j, k]) 0, cs2 ++ cs17, by first | go_num | simp, by omega, by unfold Hid; rw [← HL2.out, HDR.out]; simp, by unfold Hid; rw [List.length_append]; exact HO18'.out, HPS18, HF18'⟩
                case measure => first | (simp [intOf]; omega) | (simp [intOf]; done)
            · skip
              refine wpPlan_lone rfl (fun K hK => ?_)
              go_wp2_with fail
              have HF15 := hid (show Fresh wr ((wr.drewN 1).alloc (.cells #[.int .i64 (j : Int), .int .i64 (k : Int)] 3)) from ((Touch.refl _ wr).drewN 1).alloc _)
              refine hK _ _ (growing_fresh HF15.out) ?_
              clear hK K
              have HB15 := hid (show Blk ((wr.drewN 1).alloc (.cells #[.int .i64 (j : Int), .int .i64 (k : Int)] 3)) wr.heap.size 3 #[.int .i64 (j : Int), .int .i64 (k : Int)] from Blk.new (wr.drewN 1) _ _)
              generalize ((wr.drewN 1).alloc (.cells #[.int .i64 (j : Int), .int .i64 (k : Int)] 3)) = W15 at *
              refine wpPlan_lone rfl (fun K hK => ?_)
              go_wp2_with fail
              have HF10 := hid (show Fresh wr (W15.alloc (.cells #[] 3)) from HF15.out.alloc _)
              refine hK _ _ (growing_fresh HF10.out) ?_
              clear hK K
              have HO10 := hid (show (W15.alloc (.cells #[] 3)).ownsRow wr.heap.size 3 1 (.slice (some ⟨W15.heap.size, 0, none⟩) 0 0) 0 [] from World.ownsRow_lit W15 #[] 0 HF15.out.size (Nat.zero_le _) rfl)
              have HZ10 := hid (show (W15.alloc (.cells #[] 3)).heap.size = W15.heap.size + 1 from by simp)
              have HB10 := hid (HB15.out.alloc (.cells #[] 3))
              generalize (W15.alloc (.cells #[] 3)) = W10 at *
              refine wpPlan_lone rfl (fun K hK => ?_)
              go_wp2_with (at_builtin; refine wpList_append_src _ rfl (.tmp 50) (.tmp 51) 31 rfl wr.heap.size 3 i _ 1 8 rfl hi hz0 hz1 hz2 rfl (by decide) (.slice (some ⟨W15.heap.size, 0, none⟩) 0 0) 0 [] (by simp [Act.eval]) HO10.out (.slice Ap p.length cp) p.length (intVs (up p)) (by simp [Act.eval]) (HSRC.out.fresh (HWR.out.trans HF10.out)) (intVs_one _) (by have := HPL.out; unfold maxLen; omega) (by have := HPL.out; omega) HF10.out.size ?_; intro v12 W12 ho12 hg12 _; refine Stay.mk ?_)
              rw [Nat.zero_add, List.nil_append] at ho12
              obtain ⟨A12, c12, rfl⟩ := owns_slice ho12
              have HF12 := hid (show Fresh wr W12 from touch_grown HF10.out HO10.out (Nat.le_refl _) hg12)
              have HO12 := hid ho12
              have HB12 := hid (show Blk W12 wr.heap.size 3 #[.int .i64 (j : Int), .int .i64 (k : Int)] from ((Touch.refl (fun b => b = W15.heap.size) _).grown hg12 fun g h => .inl (by simp only [Value.ownBlock, Option.some.injEq] at h; exact h.symm)).blk HB10.out (by intro e; have := HB15.out.lt; omega))
              clear ho12 hg12
              refine Stay.go ?_
              go_wp2_with fail
              refine hK _ _ (growing_fresh HF12.out) ?_
              clear hK K
              refine wpPlan_lone rfl (fun K hK => ?_)
              go_wp2_with (at_builtin; refine wpList_append_src _ rfl (.tmp 52) (.tmp 55) 31 rfl wr.heap.size 3 i _ 1 8 rfl hi hz0 hz1 hz2 rfl (by decide) (.slice A12 p.length c12) p.length (intVs (up p)) (by simp [Act.eval]) HO12.out (.slice (some ⟨wr.heap.size, 0, none⟩) 2 2) 2 [.int .i64 (j : Int), .int .i64 (k : Int)] (by simp [Act.eval]) (Src.of_blk HB12.out rfl) (by intro u hu; simp at hu; rcases hu with rfl | rfl <;> rfl) (by have := HPL.out; unfold maxLen; omega) (by have := HPL.out; omega) HF12.out.size ?_; intro v16 W16 ho16 hg16 _; refine Stay.mk ?_)
              have HF16 := hid (show Fresh wr W16 from touch_grown HF12.out HO12.out (Nat.le_refl _) hg16)
              have hq : W16.ownsRow wr.heap.size 3 1 v16 (p ++ [j, k]).length (intVs (up (p ++ [j, k]))) := by
                have e1 : (p ++ [j, k]).length = p.length + 2 := by simp
                have e2 : intVs (up (p ++ [j, k])) = intVs (up p) ++ [.int .i64 (j : Int), .int .i64 (k : Int)] := by simp
                rw [e1, e2]
                exact ho16
              have HI16 := hid (show Ints W16 v16 (up (p ++ [j, k])) from Ints.own (by rw [List.length_map]; exact hq))
              obtain ⟨A16, c16, rfl⟩ := owns_slice ho16
              clear ho16 hg16 hq
              refine Stay.go ?_
              go_wp2_with fail
              refine hK _ _ (growing_fresh HF16.out) ?_
              clear hK K
              refine wpPlan_lone rfl (fun K hK => ?_)
              go_wp2_with fail
              refine (HIH.out nk _ _ (p ++ [j, k]) _ HNK.out.1 HNK.out.2.1 (HRK.out.fresh (HWR.out.trans HF16.out)) HI16.out (by have := HNK.out.2.2; simp only [List.length_append, List.length_cons, List.length_nil]; omega)).mono ?_
              rintro _ W17 ⟨v17, cs17, rfl, ho17, hps17, hf17⟩
              have HF17 := hid (HF16.out.trans hf17)
              have HO17 := hid ho17
              have HPS17 := hid hps17
              have HS16 := hid HF16.out.size
              obtain ⟨A17, c17, rfl⟩ := owns_slice ho17
              clear ho17 hps17 hf17
              go_wp2_with fail
              refine hK _ _ (growing_fresh HF17.out) ?_
              clear hK K
              refine wpPlan_shut rfl (fun K hK => ?_)
              go_wp2_with (at_builtin; refine wpList_append_src _ rfl (.tmp 40) (.tmp 57) 27 rfl W1.heap.size 31 i' _ 1 24 rfl hi' hz0' hz1' hz2' rfl (by decide) (.slice Ao2 L2.length co2) L2.length cs2 (by simp [Act.eval]) (ownsRow_touch HO2.out HF17.out (fun _ _ h => h)) (.slice A17 (allP nk.kids (p ++ [j, k]) 0).length c17) (allP nk.kids (p ++ [j, k]) 0).length cs17 (by simp [Act.eval]) (Src.of_own HO17.out) HPS17.out.oneCell (by have := HLN.out; unfold maxLen; omega) (by have := HLN.out; omega) (by have := HF17.out.size; have := HFI.out.size; omega) ?_; intro v18 W18 ho18 hg18 hv18; refine Stay.mk ?_)
              have HT18 := hid (show Touch (fun b => (Value.slice Ao2 L2.length co2).ownBlock = some b) wr W18 from (HF17.out.mono (fun _ h => h.elim)).grown hg18 fun g h => .inl h)
              have HT18' := hid (show Touch (fun b => (Value.slice Ao2 L2.length co2).ownBlock = some b) W17 W18 from (Touch.refl _ _).grown hg18 fun g h => .inl h)
              have HF18' := hid (show Fresh W1 W18 from touch_grown (HFI.out.trans HF17.out) (ownsRow_touch HO2.out HF17.out (fun _ _ h => h)) (Nat.le_refl _) hg18)
              have HO18' := hid ho18
              have hnew : ∀ b, v18.ownBlock = some b → (Value.slice Ao2 L2.length co2).ownBlock = some b ∨ W17.heap.size ≤ b := fun b hb => by
                rcases hv18 with e | e
                · exact .inl (by rw [← e]; exact hb)
                · rw [e] at hb
                  simp only [Option.some.injEq] at hb
                  exact .inr (by omega)
              have hold : ∀ b, (Value.slice Ao2 L2.length co2).ownBlock = some b → b < wr.heap.size := fun b hb => (HO2.out.lt b hb).2
              have HPS18 := hid (show PthsAt W1.heap.size v18.ownBlock W18 (L2 ++ allP nk.kids (p ++ [j, k]) 0) (cs2 ++ cs17) from
                (HPS2.out.mv HT18.out (fun b hb => (hnew b hb).imp id fun h => Nat.le_trans HF17.out.size h) (Nat.le_refl _)).append
                  ((HPS17.out.mv' (fun b hb => Nat.lt_of_lt_of_le (hold b hb) HS16.out)).mv HT18'.out hnew (Nat.le_trans HFI.out.size HS16.out)))
              obtain ⟨A18', c18', rfl⟩ := owns_slice ho18
              clear ho18 hg18 hv18 hnew hold
              refine Stay.go ?_
              go_wp2_with fail
              refine wpMix_last ?_
              repeat (refine wpSeq_plain rfl (fun K hK => ?_); go_simp; refine hK _ ?_; clear hK K)
              refine wpSeq_end ?_
              go_wp2_with fail
              go_roundw
              case rel => exact ⟨k + 1, L2 ++ allP nk.kids (p ++ [j, k]) 0, cs2 ++ cs17, by first | go_num | simp, by omega, by unfold Hid; rw [← HL2.out, HDR.out]; simp, by unfold Hid; rw [List.length_append]; exact HO18'.out, HPS18, HF18'⟩
              case measure => first | (simp [intOf]; omega) | (simp [intOf]; done)
          · have d3 : decide ((k : Int) < (nj.kids.length : Int)) = false := by simp; omega
            have d3n : decide (k < nj.kids.length) = false := by simp; omega
            have HE := hid (show L2 ++ allP (n.kids.drop (j + 1)) p (j + 1) = allP n.kids p 0 from by
              have h1 := HL2.out
              rw [List.drop_eq_nil_of_le (by omega)] at h1
              rw [HRE.out]
              exact h1)
            go_wp2_with fail
            go_roundw
            case rel => exact ⟨j + 1, L2, cs2, by first | go_num | simp, by omega, HE, HO2, HPS2, HFI⟩
            case measure => first | (simp [intOf]; omega) | (simp [intOf]; done)
end Go.Proofs.Ytdacpbdamliafaa

/- The statement's own example. -/
namespace Go.Proofs.Ytdacpbdamliafaa
open Go.RowKit
open Tr (Nd)


/-- A row of one number. -/
def numRow (s : List UInt8) : Nd := .mk 1 [] 0 [.mk 3 s 0 []]
def fracTree : Nd := .mk 1 [] 0 [.mk 5 [] 0 [numRow [49], numRow [50]]]

theorem RepL.leaf1 {W : World} {g : Nat} {k : Int} {s : List UInt8} (h : Blk W g 24 #[.int .i64 k, .string ⟨s.toArray⟩, .int .i64 0, .slice none 0 0]) (hs : s.length ≤ maxLen) : RepL W [.mk k s 0 []] (.slice (some ⟨g, 0, none⟩) 1 1) := by
  refine RepL.row g 0 1 [.mk k s 0 []] (fun _ => .slice none 0 0) h.lt (show 1 ≤ maxLen by decide) ?_ ?_ ?_ ?_ ?_ ?_
  all_goals (intro i hi; obtain rfl : i = 0 := by simpa using hi)
  · exact hs
  · exact h.cell 0
  · exact h.cell 1
  · exact h.cell 2
  · exact h.cell 3
  · exact .nil _ _

theorem RepL.kid1 {W : World} {g : Nat} {k c : Int} {s : List UInt8} {ks : List Nd} {v : Value} (h : Blk W g 24 #[.int .i64 k, .string ⟨s.toArray⟩, .int .i64 c, v]) (hs : s.length ≤ maxLen) (hk : RepL W ks v) : RepL W [.mk k s c ks] (.slice (some ⟨g, 0, none⟩) 1 1) := by
  refine RepL.row g 0 1 [.mk k s c ks] (fun _ => v) h.lt (show 1 ≤ maxLen by decide) ?_ ?_ ?_ ?_ ?_ ?_
  all_goals (intro i hi; obtain rfl : i = 0 := by simpa using hi)
  · exact hs
  · exact h.cell 0
  · exact h.cell 1
  · exact h.cell 2
  · exact h.cell 3
  · exact hk
theorem RepL.kid2 {W : World} {g : Nat} {k c k' c' : Int} {s s' : List UInt8} {ks ks' : List Nd} {v v' : Value} (h : Blk W g 24 #[.int .i64 k, .string ⟨s.toArray⟩, .int .i64 c, v, .int .i64 k', .string ⟨s'.toArray⟩, .int .i64 c', v']) (hs : s.length ≤ maxLen) (hs' : s'.length ≤ maxLen)
    (hk : RepL W ks v) (hk' : RepL W ks' v') : RepL W [.mk k s c ks, .mk k' s' c' ks'] (.slice (some ⟨g, 0, none⟩) 2 2) := by
  refine RepL.row g 0 2 [.mk k s c ks, .mk k' s' c' ks'] (fun i => if i = 0 then v else v') h.lt (show 2 ≤ maxLen by decide) ?_ ?_ ?_ ?_ ?_ ?_
  all_goals (intro i hi; have hi2 : i < 2 := (by simpa using hi); obtain rfl | rfl : i = 0 ∨ i = 1 := by omega)
  · exact hs
  · exact hs'
  · exact h.cell 0
  · exact h.cell 4
  · exact h.cell 1
  · exact h.cell 5
  · exact h.cell 2
  · exact h.cell 6
  · exact h.cell 3
  · exact h.cell 7
  · exact hk
  · exact hk'

end Go.Proofs.Ytdacpbdamliafaa

/- The reference's order of positions; the example of the span statements. -/
namespace Go.Proofs.Ytdacpbdamliafaa
open Go.RowKit
open Tr (Nd)

set_option maxRecDepth 100000 in
set_option maxHeartbeats 1000000 in
theorem rcompare_ints (a b : List Int) (va vb : Value) (w : World) (h1 : Ints w va a) (h2 : Ints w vb b) (ha : a.length ≤ maxLen) (_hb : b.length ≤ maxLen) :
    Calls Try.prog 10 #[va, vb] w fun e w' => e = .returned (.int .i64 (cmpI a b)) ∧ Fresh w w' := by
  unfold maxLen at ha _hb
  obtain ⟨A, cap, rfl⟩ := h1.slice
  obtain ⟨B, cbp, rfl⟩ := h2.slice
  have HA := hid h1
  have HB := hid h2
  clear h1 h2
  go_enter Try.func10, Try.ntmps10
  go_wp2_with fail
  go_loopw [5] (fun i wr => ∃ j : Nat, i = .int .i64 j ∧ j ≤ a.length ∧ j ≤ b.length ∧ Hid (cmpI (a.drop j) (b.drop j) = cmpI a b) ∧ Hid (Fresh w wr)) (fun i _ => a.length - (intOf i).toNat)
  case atStart => exact ⟨0, rfl, Nat.zero_le _, Nat.zero_le _, rfl, Touch.refl _ _⟩
  case round =>
    obtain ⟨j, rfl, hj, hjb, HT, HF⟩ := hrel
    by_cases c1 : j < a.length
    · have d1 : decide ((j : Int) < (a.length : Int)) = true := by simp; omega
      have d1' : (j : Int) < (a.length : Int) := by omega
      by_cases c2 : j < b.length
      · have d2 : decide ((j : Int) < (b.length : Int)) = true := by simp; omega
        have d2' : (j : Int) < (b.length : Int) := by omega
        obtain ⟨g, o, rfl, _, m0⟩ := HA.out.get j c1
        obtain ⟨g', o', rfl, _, n0⟩ := HB.out.get j c2
        have HS := hid (show cmpI a b = if a[j] < b[j] then -1 else if b[j] < a[j] then 1 else cmpI (a.drop (j + 1)) (b.drop (j + 1)) by
          rw [← HT.out, List.drop_eq_getElem_cons c1, List.drop_eq_getElem_cons c2, cmpI])
        have a0 := HF.out.cell m0 (fun h => h)
        have b1 := HF.out.cell n0 (fun h => h)
        clear m0 n0
        generalize a[j] = x at *
        generalize b[j] = y at *
        by_cases c3 : x < y
        · have d3 : decide (x < y) = true := by simp [c3]
          go_wp2_with fail
          go_quiet (fail)
          go_wp2_with fail
          go_ret
          exact ⟨by rw [HS.out, if_pos (by omega)]; rfl, HF.out.drewN _⟩
        · have d3 : decide (x < y) = false := by simp; omega
          by_cases c4 : y < x
          · have d4 : decide (y < x) = true := by simp [c4]
            go_wp2_with fail
            go_quiet (fail)
            go_wp2_with fail
            go_quiet (fail)
            go_wp2_with fail
            go_ret
            exact ⟨by rw [HS.out, if_neg (by omega), if_pos (by omega)]; rfl, by first | exact HF.out.drewN _ | exact (HF.out.drewN _).drewN _⟩
          · have d4 : decide (y < x) = false := by simp; omega
            go_wp2_with fail
            go_quiet (fail)
            go_wp2_with fail
            go_quiet (fail)
            go_wp2_with fail
            go_roundw
            case rel => exact ⟨j + 1, by go_num, c1, c2, by unfold Hid; rw [HS.out, if_neg (by omega), if_neg (by omega)], by first | exact HF.out.drewN _ | exact (HF.out.drewN _).drewN _⟩
            case measure => simp [intOf]; omega
      · have d2 : decide ((j : Int) < (b.length : Int)) = false := by simp; omega
        have HR := hid (show cmpI a b = 1 by
          rw [← HT.out, List.drop_eq_getElem_cons c1, List.drop_eq_nil_of_le (show b.length ≤ j by omega)]; rfl)
        have e1 : decide ((a.length : Int) < (b.length : Int)) = false := by simp; omega
        have e2 : decide ((b.length : Int) < (a.length : Int)) = true := by simp; omega
        have e1n : decide (a.length < b.length) = false := by simp; omega
        have e2n : decide (b.length < a.length) = true := by simp; omega
        go_wp2_with fail
        go_ret
        exact ⟨by rw [HR.out]; rfl, HF.out⟩
    · have d1 : decide ((j : Int) < (a.length : Int)) = false := by simp; omega
      obtain rfl : j = a.length := by omega
      by_cases c2 : a.length < b.length
      · have d2 : decide ((a.length : Int) < (b.length : Int)) = true := by simp; omega
        have d2n : decide (a.length < b.length) = true := by simp; omega
        have HR := hid (show cmpI a b = -1 by
          rw [← HT.out, List.drop_eq_nil_of_le (Nat.le_refl _), List.drop_eq_getElem_cons c2]; rfl)
        go_wp2_with fail
        go_ret
        exact ⟨by rw [HR.out]; rfl, HF.out⟩
      · have d2 : decide ((a.length : Int) < (b.length : Int)) = false := by simp; omega
        have d2n : decide (a.length < b.length) = false := by simp; omega
        have d3 : decide ((b.length : Int) < (a.length : Int)) = false := by simp; omega
        have d3n : decide (b.length < a.length) = false := by simp; omega
        have HR := hid (show cmpI a b = 0 by
          rw [← HT.out, List.drop_eq_nil_of_le (Nat.le_refl _), List.drop_eq_nil_of_le (by omega)]; rfl)
        go_wp2_with fail
        go_ret
        exact ⟨by rw [HR.out]; rfl, HF.out⟩
theorem cmpI_zero : ∀ a b : List Int, cmpI a b = 0 ↔ a = b
  | [], [] => by simp [cmpI]
  | [], _ :: _ => by simp [cmpI]
  | _ :: _, [] => by simp [cmpI]
  | a :: l, b :: m => by
    rw [cmpI]
    by_cases h1 : a < b
    · rw [if_pos h1]; simp; intro e; omega
    · rw [if_neg h1]
      by_cases h2 : b < a
      · rw [if_pos h2]; simp; intro e; omega
      · rw [if_neg h2, cmpI_zero l m, List.cons.injEq]
        have : a = b := by omega
        simp [this]
theorem rsame_ints (a b : List Int) (va vb : Value) (w : World) (h1 : Ints w va a) (h2 : Ints w vb b) (ha : a.length ≤ maxLen) (hb : b.length ≤ maxLen) :
    Calls Try.prog 15 #[va, vb] w fun e w' => e = .returned (.bool (decide (a = b))) ∧ Fresh w w' := by
  cases hd : (cmpI a b == 0) with
  | true =>
    have HD := hid (show decide (a = b) = true from by rw [decide_eq_true_eq, ← cmpI_zero]; simpa using hd)
    go_enter Try.func15, Try.ntmps15
    go_wp2_with fail
    refine (rcompare_ints a b va vb _ h1 h2 ha hb).mono ?_
    rintro _ w1 ⟨rfl, hf⟩
    go_wp2_with fail
    go_ret
    exact ⟨by rw [HD.out]; rfl, hf⟩
  | false =>
    have HD := hid (show decide (a = b) = false from by rw [decide_eq_false_iff_not, ← cmpI_zero]; simpa using hd)
    go_enter Try.func15, Try.ntmps15
    go_wp2_with fail
    refine (rcompare_ints a b va vb _ h1 h2 ha hb).mono ?_
    rintro _ w1 ⟨rfl, hf⟩
    go_wp2_with fail
    go_ret
    exact ⟨by rw [HD.out]; rfl, hf⟩
theorem few22_any (n : Tr.Nd) (sl : Value) (w : World) (hr : RepL w n.kids sl) :
    Calls Try.prog 6 #[nv n sl] w fun e w' => e = .returned (.bool (decide ((Tr.count n : Int) ≤ 60))) ∧ Fresh w w' := by
  have HR := hid hr
  clear hr
  go_enter Try.func6, Try.ntmps6
  go_wp2_with fail
  refine (few_any n sl 60 _ (HR.out.fresh ((Touch.refl _ _).alloc _)) (by decide) (by decide)).mono ?_
  rintro _ w1 ⟨rfl, hf⟩
  have HF := hid (Touch.pre hf)
  clear hf
  go_wp2_with fail
  go_ret
  exact ⟨rfl, HF.out⟩

def rootTree : Nd := .mk 1 [] 0 [.mk 6 [] 0 [.mk 1 [] 0 [], .mk 1 [] 0 [.mk 2 [120] 0 []]]]
theorem root_off : offR rootTree [0, 0, 0] = (5, 0) := by decide +kernel
theorem root_at : atE rootTree 6 = 0 ∧ atP rootTree 6 = [0, 1, 0] := by decide +kernel
set_option maxRecDepth 100000 in
theorem awk22_any (A : Option Addr) (n cap : Nat) (w : World) :
    Calls Try.prog 14 #[.slice A n cap] w fun e w' => e = .returned (.agg #[.int .i64 1, .string ⟨#[]⟩, .int .i64 0, .slice A n cap]) ∧ Fresh w w' := by
  go_enter Try.func14, Try.ntmps14
  go_wp2_with fail
  exact bodyPost_ret (v := .agg #[.int .i64 1, .string ⟨#[]⟩, .int .i64 0, .slice A n cap]) (by simp [results, Try.results14, go_sem]) rfl ⟨rfl, (Touch.refl _ _).alloc _⟩
theorem Ints.blk {w : World} {g : Nat} {t : TypeId} (l : List Int) (h : Blk w g t (intVs l).toArray) : Ints w (.slice (some ⟨g, 0, none⟩) l.length l.length) l :=
  ⟨_, _, rfl, .inr ⟨g, 0, rfl, h.lt, fun i hi => by rw [Nat.zero_add, h.cell]; simp [hi]⟩⟩

set_option maxRecDepth 100000 in
set_option maxHeartbeats 1000000 in
theorem awake22_any (w : World) : Calls Try.prog 5 #[] w fun e w' => e = .returned (.bool true) ∧ Fresh w w' := by
  have HO := hid root_off
  have HA := hid root_at
  go_enter Try.func5, Try.ntmps5
  go_wp2_with fail
  refine (awk22_any _ _ _ _).mono ?_
  rintro _ w1 ⟨rfl, hf1⟩
  have HF1 := hid hf1
  clear hf1
  go_wp2_with fail
  have HB1 := hid (show Blk (w1.alloc (.cells #[.int .i64 2, .string ⟨#[120]⟩, .int .i64 0, .slice none 0 0] 24)) w1.heap.size 24 #[.int .i64 2, .string ⟨#[120]⟩, .int .i64 0, .slice none 0 0] from Blk.new _ _ _)
  have HF1' := hid (show Fresh w (w1.alloc (.cells #[.int .i64 2, .string ⟨#[120]⟩, .int .i64 0, .slice none 0 0] 24)) from HF1.out.alloc _)
  refine (awk22_any _ _ _ _).mono ?_
  rintro _ w2 ⟨rfl, hf2⟩
  have HF2 := hid (HF1'.out.trans hf2)
  have HB2 := hid (hf2.blk HB1.out (fun h => h))
  clear hf2
  go_wp2_with fail
  have HB3 := hid (show RepL ((w2.alloc (.cells #[.int .i64 1, .string ⟨#[]⟩, .int .i64 0, .slice none 0 0, .int .i64 1, .string ⟨#[]⟩, .int .i64 0, .slice (some ⟨w1.heap.size, 0, none⟩) 1 1] 24)).alloc (.cells #[.int .i64 6, .string ⟨#[]⟩, .int .i64 0, .slice (some ⟨w2.heap.size, 0, none⟩) 2 2] 24)) rootTree.kids (.slice (some ⟨w2.heap.size + 1, 0, none⟩) 1 1) from
    RepL.kid1 (k := 6) (s := []) (c := 0) (ks := [.mk 1 [] 0 [], .mk 1 [] 0 [.mk 2 [120] 0 []]]) (Blk.new2 _ _ _ _) (by decide)
      (RepL.kid2 (k := 1) (s := []) (c := 0) (k' := 1) (s' := []) (c' := 0) (ks := []) (ks' := [.mk 2 [120] 0 []]) ((Blk.new _ _ _).alloc _) (by decide) (by decide) (.nil _ _) (RepL.leaf1 ((HB2.out.alloc _).alloc _) (by decide))))
  have HF3 := hid (show Fresh w ((w2.alloc (.cells #[.int .i64 1, .string ⟨#[]⟩, .int .i64 0, .slice none 0 0, .int .i64 1, .string ⟨#[]⟩, .int .i64 0, .slice (some ⟨w1.heap.size, 0, none⟩) 1 1] 24)).alloc (.cells #[.int .i64 6, .string ⟨#[]⟩, .int .i64 0, .slice (some ⟨w2.heap.size, 0, none⟩) 2 2] 24)) from (HF2.out.alloc _).alloc _)
  refine (awk22_any _ _ _ _).mono ?_
  rintro _ w3 ⟨rfl, hf3⟩
  have HR3 := hid (HB3.out.fresh hf3)
  have HF4 := hid (HF3.out.trans hf3)
  clear hf3
  go_wp2_with fail
  generalize hW : ((w3.alloc (.cells #[.int .i64 1, .string ⟨#[]⟩, .int .i64 0, .slice (some ⟨w2.heap.size + 1, 0, none⟩) 1 1] 24)).alloc (.cells #[.int .i64 0, .int .i64 0, .int .i64 0] 3)) = W4
  have hf4 : Fresh w3 W4 := by rw [← hW]; exact ((Touch.refl _ _).alloc _).alloc _
  have hb4 : Blk W4 w3.heap.size 24 #[.int .i64 1, .string ⟨#[]⟩, .int .i64 0, .slice (some ⟨w2.heap.size + 1, 0, none⟩) 1 1] := by rw [← hW]; exact (Blk.new _ _ _).alloc _
  have hi4 : Blk W4 (w3.heap.size + 1) 3 #[.int .i64 0, .int .i64 0, .int .i64 0] := by rw [← hW]; exact Blk.new2 _ _ _ _
  refine (offset_any rootTree _ _ [0, 0, 0] W4 (HR3.out.fresh hf4) (by decide) (by decide) (Ints.blk [0, 0, 0] hi4) (by decide)).mono ?_
  rw [HO.out]
  rintro _ w5 ⟨rfl, hf5⟩
  have HF5 := hid ((HF4.out.trans hf4).trans hf5)
  have HR5 := hid ((HR3.out.fresh hf4).fresh hf5)
  obtain ⟨q0, q1, q2, q3, _, _, _, _, hg5⟩ := Blk.four (hf5.blk hb4 (fun h => h))
  clear hW hf4 hb4 hi4 hf5
  go_wp2_with fail
  refine (at_any rootTree _ 6 w5 HR5.out (by decide) (by decide)).mono ?_
  rintro _ w6 ⟨v6, rfl, hi6, hf6⟩
  rw [HA.out.1]
  rw [HA.out.2] at hi6
  have HI6 := hid hi6
  have HF6 := hid (HF5.out.trans hf6)
  obtain ⟨A6, cap6, rfl⟩ := hi6.slice
  clear hi6 hf6 q0 q1 q2 q3
  go_wp2_with fail
  refine (rsame_ints (up [0, 1, 0]) [0, 1, 0] _ _ _ (HI6.out.fresh ((Touch.refl _ _).alloc _)) (Ints.blk [0, 1, 0] (Blk.new _ _ _)) (by decide) (by decide)).mono ?_
  rintro _ w7 ⟨rfl, hf7⟩
  have HF7 := hid (HF6.out.trans (Touch.pre hf7))
  clear hf7
  go_wp2_with fail
  go_ret
  exact ⟨ret_bool' _ _ (by decide), HF7.out⟩
end Go.Proofs.Ytdacpbdamliafaa

/- The walks of the reference's predicates on bytes and texts. -/
namespace Go.Proofs.Ytdacpbdamliafaa
open Go.RowKit

theorem letter_ge_256 : ∀ n : Fin 256, Tr.letter (UInt8.ofNat n.1) = ((decide ((97 : Int) ≤ (n.1 : Int)) && decide ((n.1 : Int) ≤ (122 : Int))) || (decide ((65 : Int) ≤ (n.1 : Int)) && decide ((n.1 : Int) ≤ (90 : Int)))) := by decide +kernel
theorem letter_ge (b : UInt8) : Tr.letter b = ((decide ((97 : Int) ≤ (b.toNat : Int)) && decide ((b.toNat : Int) ≤ (122 : Int))) || (decide ((65 : Int) ≤ (b.toNat : Int)) && decide ((b.toNat : Int) ≤ (90 : Int)))) := by
  have := letter_ge_256 ⟨b.toNat, b.toNat_lt⟩
  simpa using this
theorem digit_ge_256 : ∀ n : Fin 256, Tr.digit (UInt8.ofNat n.1) = (decide ((48 : Int) ≤ (n.1 : Int)) && decide ((n.1 : Int) ≤ (57 : Int))) := by decide +kernel
theorem digit_ge (b : UInt8) : Tr.digit b = (decide ((48 : Int) ≤ (b.toNat : Int)) && decide ((b.toNat : Int) ≤ (57 : Int))) := by
  have := digit_ge_256 ⟨b.toNat, b.toNat_lt⟩
  simpa using this

theorem letter_byte (b : UInt8) (w : World) :
    Calls Try.prog 89 #[.int .u8 (b.toNat : Int)] w fun e w' => e = .returned (.bool (Tr.letter b)) ∧ w' = w := by
  go_enter Try.func89, Try.ntmps89
  cases h1 : decide ((97 : Int) ≤ (b.toNat : Int)) with
  | false =>
    have h1n : decide (97 ≤ b.toNat) = false := by have hx := h1; simp only [decide_eq_false_iff_not] at hx ⊢; omega
    cases h2 : decide ((65 : Int) ≤ (b.toNat : Int)) with
    | false =>
      have h2n : decide (65 ≤ b.toNat) = false := by have hx := h2; simp only [decide_eq_false_iff_not] at hx ⊢; omega
      go_wp2_with fail
      go_ret
      exact ⟨ret_bool' _ _ (by rw [letter_ge]; simp only [*] <;> rfl), rfl⟩
    | true =>
      have h2n : decide (65 ≤ b.toNat) = true := by have hx := h2; simp only [decide_eq_true_eq] at hx ⊢; omega
      cases h3 : decide ((b.toNat : Int) ≤ (90 : Int)) with
      | false =>
        go_wp2_with fail
        go_ret
        exact ⟨ret_bool' _ _ (by rw [letter_ge]; simp only [*] <;> rfl), rfl⟩
      | true =>
        go_wp2_with fail
        go_ret
        exact ⟨ret_bool' _ _ (by rw [letter_ge]; simp only [*] <;> rfl), rfl⟩
  | true =>
    have h1n : decide (97 ≤ b.toNat) = true := by have hx := h1; simp only [decide_eq_true_eq] at hx ⊢; omega
    cases h4 : decide ((b.toNat : Int) ≤ (122 : Int)) with
    | false =>
      cases h5 : decide ((65 : Int) ≤ (b.toNat : Int)) with
      | false =>
        have h5n : decide (65 ≤ b.toNat) = false := by have hx := h5; simp only [decide_eq_false_iff_not] at hx ⊢; omega
        go_wp2_with fail
        go_ret
        exact ⟨ret_bool' _ _ (by rw [letter_ge]; simp only [*] <;> rfl), rfl⟩
      | true =>
        have h5n : decide (65 ≤ b.toNat) = true := by have hx := h5; simp only [decide_eq_true_eq] at hx ⊢; omega
        cases h6 : decide ((b.toNat : Int) ≤ (90 : Int)) with
        | false =>
          go_wp2_with fail
          go_ret
          exact ⟨ret_bool' _ _ (by rw [letter_ge]; simp only [*] <;> rfl), rfl⟩
        | true =>
          go_wp2_with fail
          go_ret
          exact ⟨ret_bool' _ _ (by rw [letter_ge]; simp only [*] <;> rfl), rfl⟩
    | true =>
      go_wp2_with fail
      go_ret
      exact ⟨ret_bool' _ _ (by rw [letter_ge]; simp only [*] <;> rfl), rfl⟩

theorem digit_byte (b : UInt8) (w : World) :
    Calls Try.prog 91 #[.int .u8 (b.toNat : Int)] w fun e w' => e = .returned (.bool (Tr.digit b)) ∧ w' = w := by
  go_enter Try.func91, Try.ntmps91
  cases h7 : decide ((48 : Int) ≤ (b.toNat : Int)) with
  | false =>
    have h7n : decide (48 ≤ b.toNat) = false := by have hx := h7; simp only [decide_eq_false_iff_not] at hx ⊢; omega
    go_wp2_with fail
    go_ret
    exact ⟨ret_bool' _ _ (by rw [digit_ge]; simp only [*] <;> rfl), rfl⟩
  | true =>
    have h7n : decide (48 ≤ b.toNat) = true := by have hx := h7; simp only [decide_eq_true_eq] at hx ⊢; omega
    cases h8 : decide ((b.toNat : Int) ≤ (57 : Int)) with
    | false =>
      go_wp2_with fail
      go_ret
      exact ⟨ret_bool' _ _ (by rw [digit_ge]; simp only [*] <;> rfl), rfl⟩
    | true =>
      go_wp2_with fail
      go_ret
      exact ⟨ret_bool' _ _ (by rw [digit_ge]; simp only [*] <;> rfl), rfl⟩

set_option maxHeartbeats 400000 in
theorem printable_any (s : ByteArray) (w : World) (hm : s.size ≤ 9223372036854775807) :
    Calls Try.prog 68 #[.string s] w fun e w' => e = .returned (.bool (s.data.toList.all plainB)) ∧ w' = w := by
  go_enter Try.func68, Try.ntmps68
  go_wp2_with fail
  go_loopw [3] (fun i wr => ∃ j : Nat, i = .int .i64 j ∧ j ≤ s.size ∧ Hid ((s.data.toList.take j).all plainB = true) ∧ wr = w) (fun i _ => s.size - (intOf i).toNat)
  case atStart => exact ⟨0, rfl, Nat.zero_le _, by simp [Hid], rfl⟩
  case round =>
    obtain ⟨j, rfl, hj, HA, rfl⟩ := hrel
    by_cases c1 : j < s.size
    · have d1 : decide ((j : Int) < (s.size : Int)) = true := by simp; omega
      have d1' : (j : Int) < (s.size : Int) := by omega
      obtain ⟨b, hb⟩ : ∃ b, s[j]'c1 = b := ⟨_, rfl⟩
      have hst := all_snoc' s.data.toList j (by simpa using c1) plainB
      have hno := all_no s.data.toList j (by simpa using c1) plainB
      have hbl : s.data.toList[j]'(by simpa using c1) = b := hb
      rw [hbl] at hst hno
      have HS := hid hst
      have HN := hid hno
      clear hst hno hbl
      cases h9 : decide ((b.toNat : Int) < (32 : Int)) with
      | false =>
        cases h10 : decide ((126 : Int) < (b.toNat : Int)) with
        | false =>
          have h10n : decide (126 < b.toNat) = false := by have hx := h10; simp only [decide_eq_false_iff_not] at hx ⊢; omega
          go_wp2_with fail
          go_roundw
          case rel => exact ⟨j + 1, by go_num, c1, by unfold Hid; rw [HS.out, HA.out]; rw [plain_or]; simp_all, trivial⟩
          case measure => simp [intOf]; omega
        | true =>
          have h10n : decide (126 < b.toNat) = true := by have hx := h10; simp only [decide_eq_true_eq] at hx ⊢; omega
          go_wp2_with fail
          go_ret
          exact ⟨by rw [HN.out (by rw [plain_or]; simp_all)]; rfl, rfl⟩
      | true =>
        go_wp2_with fail
        go_ret
        exact ⟨by rw [HN.out (by rw [plain_or]; simp_all)]; rfl, rfl⟩
    · have d1 : decide ((j : Int) < (s.size : Int)) = false := by simp; omega
      go_wp2_with fail
      go_ret
      exact ⟨by rw [all_end s plainB j hj c1 HA.out]; rfl, rfl⟩

def notB (c b : UInt8) : Bool := !(b == c)
theorem notB_int (c b : UInt8) : notB c b = !((b.toNat : Int) == (c.toNat : Int)) := by
  unfold notB
  congr 1
  rw [Bool.eq_iff_iff, beq_iff_eq, beq_iff_eq]
  constructor
  · rintro rfl; rfl
  · intro h; exact UInt8.toNat_inj.1 (by omega)
theorem has_not (l : List UInt8) (c : UInt8) : l.contains c = !(l.all (notB c)) := by
  induction l with
  | nil => rfl
  | cons b l ih =>
    rw [List.contains_cons, List.all_cons, ih]
    unfold notB
    rw [show (c == b) = (b == c) from by rw [Bool.eq_iff_iff, beq_iff_eq, beq_iff_eq]; exact eq_comm]
    cases b == c <;> simp
set_option maxHeartbeats 400000 in
theorem has_any (s : ByteArray) (c : UInt8) (w : World) (hm : s.size ≤ 9223372036854775807) :
    Calls Try.prog 71 #[.string s, .int .u8 (c.toNat : Int)] w fun e w' => e = .returned (.bool (s.data.toList.contains c)) ∧ w' = w := by
  rw [has_not]
  go_enter Try.func71, Try.ntmps71
  go_wp2_with fail
  go_loopw [5] (fun i wr => ∃ j : Nat, i = .int .i64 j ∧ j ≤ s.size ∧ Hid ((s.data.toList.take j).all (notB c) = true) ∧ wr = w) (fun i _ => s.size - (intOf i).toNat)
  case atStart => exact ⟨0, rfl, Nat.zero_le _, by simp [Hid], rfl⟩
  case round =>
    obtain ⟨j, rfl, hj, HA, rfl⟩ := hrel
    by_cases c1 : j < s.size
    · have d1 : decide ((j : Int) < (s.size : Int)) = true := by simp; omega
      have d1' : (j : Int) < (s.size : Int) := by omega
      obtain ⟨b, hb⟩ : ∃ b, s[j]'c1 = b := ⟨_, rfl⟩
      have hst := all_snoc' s.data.toList j (by simpa using c1) (notB c)
      have hno := all_no s.data.toList j (by simpa using c1) (notB c)
      have hbl : s.data.toList[j]'(by simpa using c1) = b := hb
      rw [hbl] at hst hno
      have HS := hid hst
      have HN := hid hno
      clear hst hno hbl
      cases h11 : ((b.toNat : Int) == (c.toNat : Int)) with
      | false =>
        have h11m : ((b.toNat : Int) != (c.toNat : Int)) = true := by rw [bne, h11]; rfl
        go_wp2_with fail
        go_roundw
        case rel => exact ⟨j + 1, by go_num, c1, by unfold Hid; rw [HS.out, HA.out]; rw [notB_int]; simp only [*] <;> rfl, trivial⟩
        case measure => simp [intOf]; omega
      | true =>
        have h11m : ((b.toNat : Int) != (c.toNat : Int)) = false := by rw [bne, h11]; rfl
        go_wp2_with fail
        go_ret
        exact ⟨by rw [HN.out (by rw [notB_int]; simp only [*] <;> rfl)]; rfl, rfl⟩
    · have d1 : decide ((j : Int) < (s.size : Int)) = false := by simp; omega
      go_wp2_with fail
      go_ret
      exact ⟨by rw [all_end s (notB c) j hj c1 HA.out]; rfl, rfl⟩

end Go.Proofs.Ytdacpbdamliafaa

/- The walks of the reference's predicates on texts and lists. -/
namespace Go.Proofs.Ytdacpbdamliafaa
open Go.RowKit

theorem character_byte (b : UInt8) (w : World) :
    Calls Try.prog 88 #[.int .u8 (b.toNat : Int)] w fun e w' => e = .returned (.bool (Tr.character b)) ∧ w' = w := by
  go_enter Try.func88, Try.ntmps88
  go_wp2_with fail
  refine Calls.mono (letter_byte b _) ?_
  rintro _ w1q ⟨rfl, hqw1⟩
  replace hqw1 := hqw1.symm
  subst hqw1
  cases h1 : (Tr.letter b) with
  | false =>
    go_wp2_with fail
    refine Calls.mono (has_any ⟨(Tr.signs).toArray⟩ b _ (by decide)) ?_
    rintro _ w2q ⟨rfl, hqw2⟩
    replace hqw2 := hqw2.symm
    subst hqw2
    cases h2 : (Tr.signs.contains b) with
    | false =>
      go_wp2_with fail
      go_ret
      exact ⟨ret_bool' _ _ (by unfold Tr.character; simp only [*] <;> rfl), rfl⟩
    | true =>
      go_wp2_with fail
      go_ret
      exact ⟨ret_bool' _ _ (by unfold Tr.character; simp only [*] <;> rfl), rfl⟩
  | true =>
    go_wp2_with fail
    go_ret
    exact ⟨ret_bool' _ _ (by unfold Tr.character; simp only [*] <;> rfl), rfl⟩

def strRow (l : List Tr.Bytes) : Array Value := (l.map fun s => Value.string ⟨s.toArray⟩).toArray
theorem strRow_get {l : List Tr.Bytes} {W : World} {g : Nat} (h : Blk W g 9 (strRow l)) (i : Nat) (hi : i < l.length) : W.cell? ⟨g, i, none⟩ = some (.string ⟨l[i].toArray⟩) := by
  rw [h.cell]
  simp [strRow, hi]

theorem keywords_any (w : World) : Calls Try.prog 90 #[] w fun e w' => e = .returned (.slice (some ⟨w.heap.size, 0, none⟩) 4 4) ∧ Fresh w w' ∧ Blk w' w.heap.size 9 (strRow Tr.keywords) := by
  go_enter Try.func90, Try.ntmps90
  go_wp2_with fail
  go_ret
  exact ⟨rfl, (Touch.refl _ _).alloc _, Blk.new _ _ _⟩
theorem accents_any (w : World) : Calls Try.prog 70 #[] w fun e w' => e = .returned (.slice (some ⟨w.heap.size, 0, none⟩) 6 6) ∧ Fresh w w' ∧ Blk w' w.heap.size 9 (strRow Tr.accents) := by
  go_enter Try.func70, Try.ntmps70
  go_wp2_with fail
  go_ret
  exact ⟨rfl, (Touch.refl _ _).alloc _, Blk.new _ _ _⟩

theorem contains_snoc (l : List Tr.Bytes) (x : Tr.Bytes) (j : Nat) (h : j < l.length) : (l.take (j + 1)).contains x = ((l.take j).contains x || (l[j] == x)) := by
  rw [List.take_succ_eq_append_getElem h]
  rw [Bool.eq_iff_iff]
  simp only [List.contains_iff_mem, List.mem_append, List.mem_singleton, Bool.or_eq_true, beq_iff_eq]
  rw [eq_comm (a := x)]
theorem contains_in (l : List Tr.Bytes) (x : Tr.Bytes) (j : Nat) (h : j < l.length) (e : (l[j] == x) = true) : l.contains x = true := by
  rw [List.contains_iff_mem]
  rw [beq_iff_eq] at e
  exact e ▸ List.getElem_mem h

set_option maxHeartbeats 1000000 in
theorem in_any (l : List Tr.Bytes) (s : ByteArray) (g : Nat) (w : World) (h : Blk w g 9 (strRow l)) (hl : l.length ≤ 1000) :
    Calls Try.prog 69 #[.slice (some ⟨g, 0, none⟩) l.length l.length, .string s] w fun e w' => e = .returned (.bool (l.contains s.data.toList)) ∧ w' = w := by
  have HG := hid h
  have hg := h.lt
  clear h
  go_enter Try.func69, Try.ntmps69
  go_wp2_with fail
  go_loopw [5] (fun i wr => ∃ j : Nat, i = .int .i64 j ∧ j ≤ l.length ∧ Hid ((l.take j).contains s.data.toList = false) ∧ wr = w) (fun i _ => l.length - (intOf i).toNat)
  case atStart => exact ⟨0, rfl, Nat.zero_le _, by simp [Hid], rfl⟩
  case round =>
    obtain ⟨j, rfl, hj, HA, rfl⟩ := hrel
    by_cases c1 : j < l.length
    · have d1 : decide ((j : Int) < (l.length : Int)) = true := by simp only [decide_eq_true_eq]; omega
      have d1n : decide (j < l.length) = true := by simp only [decide_eq_true_eq]; omega
      have d1' : (j : Int) < (l.length : Int) := by omega
      have q := strRow_get HG.out j c1
      have HS := hid (contains_snoc l s.data.toList j c1)
      have HN := hid (contains_in l s.data.toList j c1)
      generalize l[j] = x at *
      cases h1 : (x == s.data.toList) with
      | false =>
        have h1s : ((⟨x.toArray⟩ : ByteArray) == s) = false := by rw [str_eq']; exact h1
        have h1t : ((⟨x.toArray⟩ : ByteArray) != s) = true := by rw [bne, h1s]; rfl
        have h1v : (x == ByteArray.toList s) = false := by simp only [ByteArray.toList_eq]; exact h1
        go_wp2_with fail
        go_roundw
        case rel => exact ⟨j + 1, by go_num, c1, by unfold Hid; rw [HS.out, HA.out]; simp_all, trivial⟩
        case measure => simp [intOf]; omega
      | true =>
        have h1s : ((⟨x.toArray⟩ : ByteArray) == s) = true := by rw [str_eq']; exact h1
        have h1t : ((⟨x.toArray⟩ : ByteArray) != s) = false := by rw [bne, h1s]; rfl
        have h1v : (x == ByteArray.toList s) = true := by simp only [ByteArray.toList_eq]; exact h1
        go_wp2_with fail
        go_ret
        exact ⟨by rw [HN.out (by assumption)]; rfl, rfl⟩
    · have d1 : decide ((j : Int) < (l.length : Int)) = false := by simp only [decide_eq_false_iff_not]; omega
      have d1n : decide (j < l.length) = false := by simp only [decide_eq_false_iff_not]; omega
      obtain rfl : j = l.length := by omega
      go_wp2_with fail
      go_ret
      exact ⟨by have := HA.out; rw [List.take_length] at this; rw [this]; rfl, rfl⟩

theorem symbol_len (s : Tr.Bytes) (h : s.length ≠ 1) : Tr.symbol s = (s.all Tr.letter && decide (2 ≤ s.length) && decide (s.length ≤ 16) && !Tr.keywords.contains s && !Tr.accents.contains s) := by
  unfold Tr.symbol
  match s, h with
  | [], _ => rfl
  | [c], h => exact absurd rfl h
  | a :: b :: l, _ => rfl
set_option maxHeartbeats 1000000 in
theorem rSymbol_any (s : ByteArray) (w : World) (hm : s.size ≤ 9223372036854775807) :
    Calls Try.prog 66 #[.string s] w fun e w' => e = .returned (.bool (Tr.symbol s.data.toList)) ∧ Fresh w w' := by
  by_cases h1 : s.size = 1
  · obtain ⟨b, rfl⟩ := str_one s h1
    clear h1
    go_enter Try.func66, Try.ntmps66
    go_wp2_with fail
    refine Calls.mono (character_byte b _) ?_
    rintro _ _ ⟨rfl, rfl⟩
    go_wp2_with fail
    go_ret
    exact ⟨rfl, Touch.refl _ _⟩
  · have d1 : ((s.size : Int) == (1 : Int)) = false := by simp only [beq_eq_false_iff_ne]; omega
    have d1n : (s.size == 1) = false := by simp only [beq_eq_false_iff_ne]; omega
    have d1' : ¬ (s.size : Int) = 1 := by omega
    have HSY := hid (symbol_len s.data.toList (by simpa using h1))
    have hlen : s.data.toList.length = s.size := by simp
    clear h1
    rw [hlen] at HSY
    go_enter Try.func66, Try.ntmps66
    go_wp2_with fail
    go_loopw [3] (fun i wr => ∃ j : Nat, i = .int .i64 j ∧ j ≤ s.size ∧ Hid ((s.data.toList.take j).all Tr.letter = true) ∧ wr = w) (fun i _ => s.size - (intOf i).toNat)
    case atStart => exact ⟨0, rfl, Nat.zero_le _, by simp [Hid], rfl⟩
    case round =>
      obtain ⟨j, rfl, hj, HA, rfl⟩ := hrel
      by_cases c1 : j < s.size
      · have d1 : decide ((j : Int) < (s.size : Int)) = true := by simp; omega
        have d1' : (j : Int) < (s.size : Int) := by omega
        obtain ⟨b, hb⟩ : ∃ b, s[j]'c1 = b := ⟨_, rfl⟩
        have hst := all_snoc' s.data.toList j (by simpa using c1) Tr.letter
        have hno := all_no s.data.toList j (by simpa using c1) Tr.letter
        have hbl : s.data.toList[j]'(by simpa using c1) = b := hb
        rw [hbl] at hst hno
        have HS := hid hst
        have HN := hid hno
        clear hst hno hbl
        go_wp2_with fail
        refine Calls.mono (letter_byte b _) ?_
        rintro _ w1q ⟨rfl, hqw1⟩
        replace hqw1 := hqw1.symm
        subst hqw1
        cases h1 : (Tr.letter b) with
        | false =>
          go_wp2_with fail
          go_ret
          exact ⟨ret_bool' _ _ (by rw [HSY.out]; first | (have hn := HN.out (by assumption); simp_all) | (have ha := all_end s Tr.letter j hj c1 HA.out; simp_all <;> omega)), (Touch.refl _ _)⟩
        | true =>
          go_wp2_with fail
          go_roundw
          case rel => exact ⟨j + 1, by go_num, c1, by unfold Hid; rw [HS.out, HA.out]; simp only [*] <;> rfl, trivial⟩
          case measure => simp [intOf]; omega
      · have d1 : decide ((j : Int) < (s.size : Int)) = false := by simp; omega
        cases h2 : decide ((2 : Int) ≤ (s.size : Int)) with
        | false =>
          have h2n : decide (2 ≤ s.size) = false := by have hx := h2; simp only [decide_eq_false_iff_not] at hx ⊢; omega
          go_wp2_with fail
          go_ret
          exact ⟨ret_bool' _ _ (by rw [HSY.out]; first | (have hn := HN.out (by assumption); simp_all) | (have ha := all_end s Tr.letter j hj c1 HA.out; simp_all <;> omega)), (Touch.refl _ _)⟩
        | true =>
          have h2n : decide (2 ≤ s.size) = true := by have hx := h2; simp only [decide_eq_true_eq] at hx ⊢; omega
          cases h3 : decide ((s.size : Int) ≤ (16 : Int)) with
          | false =>
            go_wp2_with fail
            go_ret
            exact ⟨ret_bool' _ _ (by rw [HSY.out]; first | (have hn := HN.out (by assumption); simp_all) | (have ha := all_end s Tr.letter j hj c1 HA.out; simp_all <;> omega)), (Touch.refl _ _)⟩
          | true =>
            go_wp2_with fail
            refine Calls.mono (keywords_any _) ?_
            rintro _ w2 ⟨rfl, hfw2, hkw2⟩
            have HKW2 := hid hkw2
            clear hkw2
            have HF2 := hid (show Fresh wr w2 from by first | exact hfw2 | exact Touch.pre hfw2 | exact Touch.pre (Touch.pre hfw2) | exact Touch.ofN hfw2 | exact Touch.preN hfw2 | exact Touch.pre (Touch.pre (Touch.pre hfw2)))
            clear hfw2
            go_wp2_with fail
            refine Calls.mono (in_any Tr.keywords s _ _ HKW2.out (by decide)) ?_
            rintro _ w3q ⟨rfl, hqw3⟩
            replace hqw3 := hqw3.symm
            subst hqw3
            cases h4 : (Tr.keywords.contains s.data.toList) with
            | false =>
              go_wp2_with fail
              refine Calls.mono (accents_any _) ?_
              rintro _ w4 ⟨rfl, hfw4, hkw4⟩
              have HKW4 := hid hkw4
              clear hkw4
              have HF4 := hid (show Fresh w2 w4 from by first | exact hfw4 | exact Touch.pre hfw4 | exact Touch.pre (Touch.pre hfw4) | exact Touch.ofN hfw4 | exact Touch.preN hfw4 | exact Touch.pre (Touch.pre (Touch.pre hfw4)))
              clear hfw4
              go_wp2_with fail
              refine Calls.mono (in_any Tr.accents s _ _ HKW4.out (by decide)) ?_
              rintro _ w5q ⟨rfl, hqw5⟩
              replace hqw5 := hqw5.symm
              subst hqw5
              cases h5 : (Tr.accents.contains s.data.toList) with
              | false =>
                go_wp2_with fail
                go_ret
                exact ⟨ret_bool' _ _ (by rw [HSY.out]; first | (have hn := HN.out (by assumption); simp_all) | (have ha := all_end s Tr.letter j hj c1 HA.out; simp_all <;> omega)), (HF2.out.trans HF4.out)⟩
              | true =>
                go_wp2_with fail
                go_ret
                exact ⟨ret_bool' _ _ (by rw [HSY.out]; first | (have hn := HN.out (by assumption); simp_all) | (have ha := all_end s Tr.letter j hj c1 HA.out; simp_all <;> omega)), (HF2.out.trans HF4.out)⟩
            | true =>
              go_wp2_with fail
              go_ret
              exact ⟨ret_bool' _ _ (by rw [HSY.out]; first | (have hn := HN.out (by assumption); simp_all) | (have ha := all_end s Tr.letter j hj c1 HA.out; simp_all <;> omega)), HF2.out⟩
end Go.Proofs.Ytdacpbdamliafaa

/- The walks of the reference's Number, text and kids. -/
namespace Go.Proofs.Ytdacpbdamliafaa
open Go.RowKit

def pd (b : UInt8) : Bool := b == 46 || Tr.digit b
/-- What Number reports. -/
def numF (s : List UInt8) : Bool := decide (0 < s.length) && (decide (s.length ≤ 20) && (s.all pd && (!(s.head? == some 46) && (!(s.getLast? == some 46) && decide (s.count 46 ≤ 1)))))

theorem pd_no (l : List UInt8) (h : ∀ b ∈ l, b ≠ 46) : l.all pd = l.all Tr.digit ∧ l.count 46 = 0 := by
  induction l with
  | nil => exact ⟨rfl, rfl⟩
  | cons b l ih =>
    obtain ⟨h1, h2⟩ := ih fun x hx => h x (by simp [hx])
    have hb := h b (by simp)
    refine ⟨?_, ?_⟩
    · rw [List.all_cons, List.all_cons, h1]
      unfold pd
      rw [show (b == 46) = false from by simpa using hb, Bool.false_or]
    · rw [List.count_cons, h2, show (b == 46) = false from by simpa using hb]
      rfl
theorem pd_digit (l : List UInt8) (h : l.all Tr.digit = true) : ∀ b ∈ l, b ≠ 46 := fun b hb => digit_ne_point b (List.all_eq_true.1 h b hb)
theorem head_no (l : List UInt8) (h : ∀ b ∈ l, b ≠ 46) : (l.head? == some 46) = false := by
  rw [beq_eq_false_iff_ne]
  intro e
  exact h 46 (List.mem_of_head? e) rfl
theorem last_no (l : List UInt8) (h : ∀ b ∈ l, b ≠ 46) : (l.getLast? == some 46) = false := by
  rw [beq_eq_false_iff_ne]
  intro e
  exact h 46 (List.mem_of_getLast? e) rfl

theorem numF_isNum (s : List UInt8) : numF s = Tr.isNum s := by
  rw [isNum_cut]
  obtain ⟨⟨h1, h2⟩, h3⟩ := cut_span s
  have hs : (s.takeWhile (· ≠ 46)) ++ (s.dropWhile (· ≠ 46)) = s := List.takeWhile_append_dropWhile
  have hno : ∀ b ∈ (cutP s).1, b ≠ 46 := by
    rw [← h1]
    intro b hb
    have := List.all_eq_true.1 (List.all_takeWhile (p := fun b : UInt8 => decide (b ≠ 46)) (l := s)) b hb
    simpa using this
  rw [h1, h2] at hs
  clear h1 h2
  generalize cutP s = c at *
  obtain ⟨a, b, f⟩ := c
  simp only at *
  obtain ⟨e1, e2⟩ := pd_no a hno
  cases f with
  | false =>
    simp only [Bool.false_eq_true, if_false, List.append_nil] at hs
    subst hs
    unfold numF digitsNE
    rw [e1, e2, head_no a hno, last_no a hno]
    rw [Bool.eq_iff_iff]
    simp only [Bool.and_eq_true, decide_eq_true_eq, Bool.not_false, Bool.true_or, Bool.and_true, Nat.zero_le, decide_true, Bool.not_eq_true', beq_eq_false_iff_ne, List.length_pos_iff]
    constructor
    · rintro ⟨g1, g2, g3⟩; exact ⟨g2, g3, g1⟩
    · rintro ⟨g2, g3, g1⟩; exact ⟨g1, g2, g3⟩
  | true =>
    simp only [if_true] at hs
    subst hs
    unfold numF digitsNE
    rw [Bool.eq_iff_iff]
    simp only [Bool.and_eq_true, decide_eq_true_eq, Bool.not_true, Bool.false_or, Bool.not_eq_true', beq_eq_false_iff_ne, List.all_append, List.all_cons, List.count_append, List.count_cons, e1, e2]
    have hp : pd 46 = true := by decide
    constructor
    · rintro ⟨_, g2, ⟨g3, _, g4⟩, g5, g6, g7⟩
      have hc : b.count 46 = 0 := by simp at g7; omega
      have hb : ∀ x ∈ b, x ≠ 46 := fun x hx e => by
        have := List.count_pos_iff.2 (e ▸ hx)
        omega
      refine ⟨g2, ⟨g3, ?_⟩, (pd_no b hb).1 ▸ g4, ?_⟩
      · rintro rfl; exact g5 rfl
      · rintro rfl; exact g6 (by simp)
    · rintro ⟨g2, ⟨g3, g4⟩, g5, g6⟩
      have hb := pd_digit b g5
      obtain ⟨k1, k2⟩ := pd_no b hb
      refine ⟨by simp only [List.length_append, List.length_cons]; omega, g2, ⟨g3, hp, by rw [k1]; exact g5⟩, ?_, ?_, by rw [k2]; simp⟩
      · intro e
        cases a with
        | nil => exact g4 rfl
        | cons x a => simp at e; exact hno x (by simp) e
      · intro e
        have hl : (a ++ 46 :: b).getLast? = b.getLast? := by
          cases b with
          | nil => exact absurd rfl g6
          | cons y b => 
            obtain ⟨z, hz⟩ : ∃ z, (y :: b).getLast? = some z := ⟨_, List.getLast?_eq_some_getLast (by simp)⟩
            rw [List.getLast?_append, List.getLast?_cons_cons, hz]; rfl
        rw [hl] at e
        exact hb 46 (List.mem_of_getLast? e) rfl

theorem byte_int (b c : UInt8) : (b == c) = ((b.toNat : Int) == (c.toNat : Int)) := by
  rw [Bool.eq_iff_iff, beq_iff_eq, beq_iff_eq]
  constructor
  · rintro rfl; rfl
  · intro h; exact UInt8.toNat_inj.1 (by omega)

/-- What holds ahead of index j. -/
def numAt (s : List UInt8) (j : Nat) : Bool := (s.take j).all pd && ((j == 0 || !(s.head? == some 46)) && (decide (j < s.length) || !(s.getLast? == some 46)))
theorem numAt_zero (s : List UInt8) (h : 0 < s.length) : numAt s 0 = true := by simp [numAt, h]
theorem last_at (s : List UInt8) (j : Nat) (h : j < s.length) (hl : ¬ j + 1 < s.length) : s.getLast? = some s[j] := by
  rw [List.getLast?_eq_getElem?, List.getElem?_eq_getElem (by omega)]
  congr 2
  omega
theorem numAt_point (s : List UInt8) (j : Nat) (h : j < s.length) (hb : s[j] = 46) (h1 : 0 < j) (h2 : (j : Int) < (s.length : Int) - 1) (hn : numAt s j = true) : numAt s (j + 1) = true ∧ (s.take (j + 1)).count 46 = (s.take j).count 46 + 1 := by
  unfold numAt at hn ⊢
  rw [List.take_succ_eq_append_getElem h, hb]
  simp only [Bool.and_eq_true, Bool.or_eq_true, beq_iff_eq, Bool.not_eq_true', decide_eq_true_eq, List.all_append, List.count_append] at hn ⊢
  obtain ⟨g1, g2, g3⟩ := hn
  refine ⟨⟨⟨g1, by decide⟩, ?_, .inl (by omega)⟩, by simp⟩
  rcases g2 with g2 | g2
  · omega
  · exact .inr g2
theorem numAt_digit (s : List UInt8) (j : Nat) (h : j < s.length) (hb : Tr.digit s[j] = true) (hn : numAt s j = true) : numAt s (j + 1) = true ∧ (s.take (j + 1)).count 46 = (s.take j).count 46 := by
  have hne := digit_ne_point _ hb
  unfold numAt at hn ⊢
  rw [List.take_succ_eq_append_getElem h]
  simp only [Bool.and_eq_true, Bool.or_eq_true, beq_iff_eq, Bool.not_eq_true', decide_eq_true_eq, List.all_append, List.count_append, List.all_cons, List.all_nil, and_true] at hn ⊢
  obtain ⟨g1, g2, g3⟩ := hn
  refine ⟨⟨⟨g1, by simp [pd, hb]⟩, .inr ?_, ?_⟩, ?_⟩
  · rcases g2 with g2 | g2
    · subst g2
      rw [beq_eq_false_iff_ne]
      intro e
      rw [List.head?_eq_getElem?, List.getElem?_eq_getElem h] at e
      exact hne (by simpa using e)
    · exact g2
  · by_cases hl : j + 1 < s.length
    · exact .inl hl
    · refine .inr ?_
      rw [last_at s j h hl, beq_eq_false_iff_ne]
      intro e
      exact hne (by simpa using e)
  · rw [List.count_cons, show (s[j] == 46) = false from by simpa using hne]; simp
theorem numAt_no (s : List UInt8) (j : Nat) (h : j < s.length) (hd : Tr.digit s[j] = false) (hp : s[j] ≠ 46 ∨ j = 0 ∨ ¬ (j : Int) < (s.length : Int) - 1) : Tr.isNum s = false := by
  rw [← numF_isNum, ← Bool.not_eq_true]
  unfold numF
  simp only [Bool.and_eq_true, decide_eq_true_eq, Bool.not_eq_true', beq_eq_false_iff_ne]
  rintro ⟨_, _, g1, g2, g3, _⟩
  have hm := List.all_eq_true.1 g1 s[j] (List.getElem_mem h)
  unfold pd at hm
  rw [hd, Bool.or_false, beq_iff_eq] at hm
  rcases hp with hp | hp | hp
  · exact hp hm
  · subst hp
    exact g2 (by rw [List.head?_eq_getElem?, List.getElem?_eq_getElem h, hm])
  · exact g3 (by rw [last_at s j h (by omega), hm])
theorem numAt_end (s : List UInt8) (h : 0 < s.length → numAt s s.length = true) : Tr.isNum s = (decide (0 < s.length) && (decide (s.length ≤ 20) && decide (s.count 46 ≤ 1))) := by
  rw [← numF_isNum]
  unfold numF
  by_cases h0 : 0 < s.length
  · have h1 := h h0
    unfold numAt at h1
    rw [List.take_length] at h1
    simp only [Bool.and_eq_true, Bool.or_eq_true, beq_iff_eq, decide_eq_true_eq, Nat.lt_irrefl, false_or, Nat.ne_of_gt h0] at h1
    obtain ⟨g1, g2, g3⟩ := h1
    rw [g1, g2, g3]
    simp
  · simp [h0]

set_option maxRecDepth 100000 in
set_option maxHeartbeats 2000000 in
theorem rNumber_any (s : ByteArray) (w : World) (hm : s.size ≤ 9223372036854775807) :
    Calls Try.prog 67 #[.string s] w fun e w' => e = .returned (.bool (Tr.isNum s.data.toList)) ∧ w' = w := by
  have hlen : s.data.toList.length = s.size := by simp
  have HLEN := hid hlen
  clear hlen
  go_enter Try.func67, Try.ntmps67
  go_wp2_with fail
  go_loopw [3, 4] (fun p i wr => ∃ j : Nat, p = .int .i64 ((s.data.toList.take j).count 46 : Nat) ∧ i = .int .i64 j ∧ j ≤ s.size ∧ Hid (0 < s.size → numAt s.data.toList j = true) ∧ wr = w) (fun _ i _ => s.size - (intOf i).toNat)
  case atStart => exact ⟨0, rfl, rfl, Nat.zero_le _, fun h => numAt_zero _ (by rw [HLEN.out]; exact h), rfl⟩
  case round =>
    obtain ⟨j, rfl, rfl, hj, HA, rfl⟩ := hrel
    by_cases c1 : j < s.size
    · have d1 : decide ((j : Int) < (s.size : Int)) = true := by simp only [decide_eq_true_eq]; omega
      have d1n : decide (j < s.size) = true := by simp only [decide_eq_true_eq]; omega
      have d1' : (j : Int) < (s.size : Int) := by omega
      have c2 : j < s.data.toList.length := by rw [HLEN.out]; exact c1
      have hcm : (s.data.toList.take j).count 46 ≤ j := Nat.le_trans List.count_le_length (List.length_take_le _ _)
      have HP := hid (numAt_point s.data.toList j c2)
      have HD := hid (numAt_digit s.data.toList j c2)
      have HN := hid (numAt_no s.data.toList j c2)
      rw [HLEN.out] at HP HN
      obtain ⟨n, hn⟩ : ∃ n, (s.data.toList.take j).count 46 = n := ⟨_, rfl⟩
      rw [hn] at HP HD hcm ⊢
      clear hn
      obtain ⟨b, hb⟩ : ∃ b, s.data.toList[j]'c2 = b := ⟨_, rfl⟩
      have hsb : s[j]'c1 = b := hb
      rw [hb] at HP HD HN
      clear hb c2
      cases h1 : ((b.toNat : Int) == (46 : Int)) with
      | false =>
        have h1m : ((b.toNat : Int) != (46 : Int)) = true := by rw [bne, h1]; rfl
        go_wp2_with fail
        refine Calls.mono (digit_byte b _) ?_
        rintro _ w1q ⟨rfl, hqw1⟩
        replace hqw1 := hqw1.symm
        subst hqw1
        cases h2 : (Tr.digit b) with
        | false =>
          go_wp2_with fail
          go_ret
          exact ⟨ret_bool' _ _ (by rw [HN.out (by assumption) (.inl (by rw [ne_eq, ← beq_iff_eq, byte_int]; simp_all))]), rfl⟩
        | true =>
          go_wp2_with fail
          go_roundw
          case rel =>
            have hz := HD.out (by assumption) (HA.out (by omega))
            exact ⟨j + 1, by rw [hz.2] <;> go_num, by go_num, c1, fun _ => hz.1, trivial⟩
          case measure => simp [intOf]; omega
      | true =>
        have h1m : ((b.toNat : Int) != (46 : Int)) = false := by rw [bne, h1]; rfl
        cases h3 : decide ((0 : Int) < (j : Int)) with
        | false =>
          have h3n : decide (0 < j) = false := by have hx := h3; simp only [decide_eq_false_iff_not] at hx ⊢; omega
          go_wp2_with fail
          refine Calls.mono (digit_byte b _) ?_
          rintro _ w2q ⟨rfl, hqw2⟩
          replace hqw2 := hqw2.symm
          subst hqw2
          cases h4 : (Tr.digit b) with
          | false =>
            go_wp2_with fail
            go_ret
            exact ⟨ret_bool' _ _ (by rw [HN.out (by assumption) (.inr (.inl (by have := of_decide_eq_false (by assumption : decide ((0 : Int) < (j : Int)) = false); omega)))]), rfl⟩
          | true =>
            go_wp2_with fail
            go_roundw
            case rel =>
              have hz := HD.out (by assumption) (HA.out (by omega))
              exact ⟨j + 1, by rw [hz.2] <;> go_num, by go_num, c1, fun _ => hz.1, trivial⟩
            case measure => simp [intOf]; omega
        | true =>
          have h3n : decide (0 < j) = true := by have hx := h3; simp only [decide_eq_true_eq] at hx ⊢; omega
          cases h5 : decide ((j : Int) < ((s.size : Int) - (1 : Int))) with
          | false =>
            go_wp2_with fail
            refine Calls.mono (digit_byte b _) ?_
            rintro _ w3q ⟨rfl, hqw3⟩
            replace hqw3 := hqw3.symm
            subst hqw3
            cases h6 : (Tr.digit b) with
            | false =>
              go_wp2_with fail
              go_ret
              exact ⟨ret_bool' _ _ (by rw [HN.out (by assumption) (.inr (.inr (by have := of_decide_eq_false (by assumption : decide ((j : Int) < (s.size : Int) - (1 : Int)) = false); omega)))]), rfl⟩
            | true =>
              go_wp2_with fail
              go_roundw
              case rel =>
                have hz := HD.out (by assumption) (HA.out (by omega))
                exact ⟨j + 1, by rw [hz.2] <;> go_num, by go_num, c1, fun _ => hz.1, trivial⟩
              case measure => simp [intOf]; omega
          | true =>
            go_wp2_with fail
            go_roundw
            case rel =>
              have hz := HP.out (by rw [← beq_iff_eq, byte_int]; assumption) (by have := of_decide_eq_true (by assumption : decide ((0 : Int) < (j : Int)) = true); omega) (of_decide_eq_true (by assumption)) (HA.out (by omega))
              exact ⟨j + 1, by rw [hz.2] <;> go_num, by go_num, c1, fun _ => hz.1, trivial⟩
            case measure => simp [intOf]; omega
    · have d1 : decide ((j : Int) < (s.size : Int)) = false := by simp only [decide_eq_false_iff_not]; omega
      have d1n : decide (j < s.size) = false := by simp only [decide_eq_false_iff_not]; omega
      obtain rfl : j = s.size := by omega
      have htk : s.data.toList.take s.size = s.data.toList := List.take_of_length_le (by rw [HLEN.out]; exact Nat.le_refl _)
      have HE := hid (numAt_end s.data.toList (by rw [HLEN.out]; exact HA.out))
      rw [HLEN.out] at HE
      rw [htk]
      obtain ⟨n, hn⟩ : ∃ n, s.data.toList.count 46 = n := ⟨_, rfl⟩
      rw [hn] at HE ⊢
      clear hn htk
      cases h7 : decide ((0 : Int) < (s.size : Int)) with
      | false =>
        have h7n : decide (0 < s.size) = false := by have hx := h7; simp only [decide_eq_false_iff_not] at hx ⊢; omega
        go_wp2_with fail
        go_ret
        exact ⟨ret_bool' _ _ (by rw [HE.out]; simp_all <;> omega), rfl⟩
      | true =>
        have h7n : decide (0 < s.size) = true := by have hx := h7; simp only [decide_eq_true_eq] at hx ⊢; omega
        cases h8 : decide ((s.size : Int) ≤ (20 : Int)) with
        | false =>
          go_wp2_with fail
          go_ret
          exact ⟨ret_bool' _ _ (by rw [HE.out]; simp_all <;> omega), rfl⟩
        | true =>
          cases h9 : decide ((n : Int) ≤ (1 : Int)) with
          | false =>
            have h9n : decide (n ≤ 1) = false := by have hx := h9; simp only [decide_eq_false_iff_not] at hx ⊢; omega
            go_wp2_with fail
            go_ret
            exact ⟨ret_bool' _ _ (by rw [HE.out]; simp_all <;> omega), rfl⟩
          | true =>
            have h9n : decide (n ≤ 1) = true := by have hx := h9; simp only [decide_eq_true_eq] at hx ⊢; omega
            go_wp2_with fail
            go_ret
            exact ⟨ret_bool' _ _ (by rw [HE.out]; simp_all <;> omega), rfl⟩
end Go.Proofs.Ytdacpbdamliafaa

/- The walks of the reference's text and kids. -/
namespace Go.Proofs.Ytdacpbdamliafaa
open Go.RowKit

theorem byteSize (t : List UInt8) : (ByteArray.mk t.toArray).size = t.length := by show t.toArray.size = _; simp
theorem plainB_eq (t : List UInt8) : t.all plainB = Tr.printable t := by
  unfold Tr.printable
  congr 1
set_option maxRecDepth 100000 in
set_option maxHeartbeats 1000000 in
theorem text_plain (k : Int) (t : List UInt8) (cv sl : Value) (w : World) (h10 : (k == 10) = false) (h11 : (k == 11) = false) (hm : t.length ≤ 9223372036854775807) :
    Calls Try.prog 44 #[.agg #[.int .i64 k, .string ⟨t.toArray⟩, cv, sl]] w fun e w' => e = .returned (.bool (Tr.textOK k t)) ∧ Fresh w w' := by
  have hz : (ByteArray.mk t.toArray).size ≤ 9223372036854775807 := by rw [byteSize]; exact hm
  have HZ := hid hz
  clear hz
  go_enter Try.func44, Try.ntmps44
  cases h1 : (k == (2 : Int)) with
  | false =>
    have h1m : (k != (2 : Int)) = true := by rw [bne, h1]; rfl
    cases h2 : (k == (3 : Int)) with
    | false =>
      have h2m : (k != (3 : Int)) = true := by rw [bne, h2]; rfl
      cases h3 : (k == (4 : Int)) with
      | false =>
        have h3m : (k != (4 : Int)) = true := by rw [bne, h3]; rfl
        cases h4 : (t == ([] : List UInt8)) with
        | false =>
          have h4s : ((⟨t.toArray⟩ : ByteArray) == (⟨#[]⟩ : ByteArray)) = false := by rw [str_eq']; exact h4
          have h4t : ((⟨t.toArray⟩ : ByteArray) != (⟨#[]⟩ : ByteArray)) = true := by rw [bne, h4s]; rfl
          have h4e : (ByteArray.toList (⟨t.toArray⟩ : ByteArray)).isEmpty = false := by rw [isEmpty_str]; exact h4
          go_wp2_with fail
          go_ret
          exact ⟨ret_bool' _ _ (by unfold Tr.textOK; simp only [← plainB_eq]; simp_all <;> omega), (by first | exact (Touch.refl _ _) | exact (Touch.refl _ _).alloc _ | exact ((Touch.refl _ _).alloc _).alloc _ | exact (((Touch.refl _ _).alloc _).alloc _).alloc _ | exact (Touch.refl _ _).drewN _ | exact ((Touch.refl _ _).alloc _).drewN _ | exact (((Touch.refl _ _).alloc _).alloc _).drewN _)⟩
        | true =>
          have h4s : ((⟨t.toArray⟩ : ByteArray) == (⟨#[]⟩ : ByteArray)) = true := by rw [str_eq']; exact h4
          have h4t : ((⟨t.toArray⟩ : ByteArray) != (⟨#[]⟩ : ByteArray)) = false := by rw [bne, h4s]; rfl
          have h4e : (ByteArray.toList (⟨t.toArray⟩ : ByteArray)).isEmpty = true := by rw [isEmpty_str]; exact h4
          go_wp2_with fail
          go_ret
          exact ⟨ret_bool' _ _ (by unfold Tr.textOK; simp only [← plainB_eq]; simp_all <;> omega), (by first | exact (Touch.refl _ _) | exact (Touch.refl _ _).alloc _ | exact ((Touch.refl _ _).alloc _).alloc _ | exact (((Touch.refl _ _).alloc _).alloc _).alloc _ | exact (Touch.refl _ _).drewN _ | exact ((Touch.refl _ _).alloc _).drewN _ | exact (((Touch.refl _ _).alloc _).alloc _).drewN _)⟩
      | true =>
        have h3m : (k != (4 : Int)) = false := by rw [bne, h3]; rfl
        cases h5 : decide ((t.length : Int) ≤ (200 : Int)) with
        | false =>
          have h5n : decide (t.length ≤ 200) = false := by have hx := h5; simp only [decide_eq_false_iff_not] at hx ⊢; omega
          go_wp2_with fail
          go_ret
          exact ⟨ret_bool' _ _ (by unfold Tr.textOK; simp only [← plainB_eq]; simp_all <;> omega), (by first | exact (Touch.refl _ _) | exact (Touch.refl _ _).alloc _ | exact ((Touch.refl _ _).alloc _).alloc _ | exact (((Touch.refl _ _).alloc _).alloc _).alloc _ | exact (Touch.refl _ _).drewN _ | exact ((Touch.refl _ _).alloc _).drewN _ | exact (((Touch.refl _ _).alloc _).alloc _).drewN _)⟩
        | true =>
          have h5n : decide (t.length ≤ 200) = true := by have hx := h5; simp only [decide_eq_true_eq] at hx ⊢; omega
          go_wp2_with fail
          refine Calls.mono (printable_any ⟨t.toArray⟩ _ HZ.out) ?_
          rintro _ w1q ⟨rfl, hqw1⟩
          replace hqw1 := hqw1.symm
          subst hqw1
          cases h6 : (t.all plainB) with
          | false =>
            go_wp2_with fail
            go_ret
            exact ⟨ret_bool' _ _ (by unfold Tr.textOK; simp only [← plainB_eq]; simp_all <;> omega), (by first | exact (Touch.refl _ _) | exact (Touch.refl _ _).alloc _ | exact ((Touch.refl _ _).alloc _).alloc _ | exact (((Touch.refl _ _).alloc _).alloc _).alloc _ | exact (Touch.refl _ _).drewN _ | exact ((Touch.refl _ _).alloc _).drewN _ | exact (((Touch.refl _ _).alloc _).alloc _).drewN _)⟩
          | true =>
            go_wp2_with fail
            go_ret
            exact ⟨ret_bool' _ _ (by unfold Tr.textOK; simp only [← plainB_eq]; simp_all <;> omega), (by first | exact (Touch.refl _ _) | exact (Touch.refl _ _).alloc _ | exact ((Touch.refl _ _).alloc _).alloc _ | exact (((Touch.refl _ _).alloc _).alloc _).alloc _ | exact (Touch.refl _ _).drewN _ | exact ((Touch.refl _ _).alloc _).drewN _ | exact (((Touch.refl _ _).alloc _).alloc _).drewN _)⟩
    | true =>
      have h2m : (k != (3 : Int)) = false := by rw [bne, h2]; rfl
      go_wp2_with fail
      refine Calls.mono (rNumber_any ⟨t.toArray⟩ _ HZ.out) ?_
      rintro _ w2q ⟨rfl, hqw2⟩
      replace hqw2 := hqw2.symm
      subst hqw2
      cases h7 : (Tr.isNum t) with
      | false =>
        go_wp2_with fail
        go_ret
        exact ⟨ret_bool' _ _ (by unfold Tr.textOK; simp only [← plainB_eq]; simp_all <;> omega), (by first | exact (Touch.refl _ _) | exact (Touch.refl _ _).alloc _ | exact ((Touch.refl _ _).alloc _).alloc _ | exact (((Touch.refl _ _).alloc _).alloc _).alloc _ | exact (Touch.refl _ _).drewN _ | exact ((Touch.refl _ _).alloc _).drewN _ | exact (((Touch.refl _ _).alloc _).alloc _).drewN _)⟩
      | true =>
        go_wp2_with fail
        go_ret
        exact ⟨ret_bool' _ _ (by unfold Tr.textOK; simp only [← plainB_eq]; simp_all <;> omega), (by first | exact (Touch.refl _ _) | exact (Touch.refl _ _).alloc _ | exact ((Touch.refl _ _).alloc _).alloc _ | exact (((Touch.refl _ _).alloc _).alloc _).alloc _ | exact (Touch.refl _ _).drewN _ | exact ((Touch.refl _ _).alloc _).drewN _ | exact (((Touch.refl _ _).alloc _).alloc _).drewN _)⟩
  | true =>
    have h1m : (k != (2 : Int)) = false := by rw [bne, h1]; rfl
    go_wp2_with fail
    refine Calls.mono (rSymbol_any ⟨t.toArray⟩ _ HZ.out) ?_
    rintro _ w3 ⟨rfl, hfw3⟩
    have HF3 := hid (show Fresh w w3 from by first | exact hfw3 | exact Touch.pre hfw3 | exact Touch.pre (Touch.pre hfw3) | exact Touch.ofN hfw3 | exact Touch.preN hfw3 | exact Touch.pre (Touch.pre (Touch.pre hfw3)))
    have B0_w3 : Blk w3 (w.heap.size) 24 #[.int .i64 k, .string (⟨t.toArray⟩ : ByteArray), cv, sl] := Touch.blk hfw3 (by first | exact Blk.new _ _ _ | exact (Blk.new _ _ _).alloc _ | exact Blk.new2 _ _ _ _ | exact ((Blk.new _ _ _).alloc _).alloc _ | exact (Blk.new2 _ _ _ _).alloc _ | exact Blk.new3 _ _ _ _ _ | assumption | exact Blk.alloc (by assumption) _ | exact (Blk.alloc (Blk.alloc (by assumption) _) _)) (fun h => h)
    have q0_0_w3 : World.cell? w3 ⟨w.heap.size, 0, none⟩ = some (.int .i64 k) := Blk.cell B0_w3 0
    have q0_1_w3 : World.cell? w3 ⟨w.heap.size, 1, none⟩ = some (.string (⟨t.toArray⟩ : ByteArray)) := Blk.cell B0_w3 1
    have q0_2_w3 : World.cell? w3 ⟨w.heap.size, 2, none⟩ = some (cv) := Blk.cell B0_w3 2
    have q0_3_w3 : World.cell? w3 ⟨w.heap.size, 3, none⟩ = some (sl) := Blk.cell B0_w3 3
    clear hfw3
    cases h8 : (Tr.symbol t) with
    | false =>
      go_wp2_with fail
      go_ret
      exact ⟨ret_bool' _ _ (by unfold Tr.textOK; simp only [← plainB_eq]; simp_all <;> omega), (by first | exact HF3.out | exact HF3.out.alloc _ | exact (HF3.out.alloc _).alloc _ | exact ((HF3.out.alloc _).alloc _).alloc _ | exact HF3.out.drewN _ | exact (HF3.out.alloc _).drewN _ | exact ((HF3.out.alloc _).alloc _).drewN _)⟩
    | true =>
      go_wp2_with fail
      go_ret
      exact ⟨ret_bool' _ _ (by unfold Tr.textOK; simp only [← plainB_eq]; simp_all <;> omega), (by first | exact HF3.out | exact HF3.out.alloc _ | exact (HF3.out.alloc _).alloc _ | exact ((HF3.out.alloc _).alloc _).alloc _ | exact HF3.out.drewN _ | exact (HF3.out.alloc _).drewN _ | exact ((HF3.out.alloc _).alloc _).drewN _)⟩
set_option maxRecDepth 100000 in
set_option maxHeartbeats 1000000 in
theorem text_fence (k : Int) (hk : k = 11) (a b : UInt8) (cv sl : Value) (w : World) :
    Calls Try.prog 44 #[.agg #[.int .i64 k, .string ⟨#[a, b]⟩, cv, sl]] w fun e w' => e = .returned (.bool (Tr.textOK k [a, b])) ∧ Fresh w w' := by
  have hk0 : (k == 10) = false := by subst hk; rfl
  have hk1 : (k == 11) = true := by subst hk; rfl
  have hk2 : (k == 2) = false := by subst hk; rfl
  have hk3 : (k == 3) = false := by subst hk; rfl
  have hk4 : (k == 4) = false := by subst hk; rfl
  have HT := hid (show Tr.textOK k [a, b] = (Tr.delims.contains a && Tr.delims.contains b) by subst hk; rfl)
  have e0 : (ByteArray.mk #[a, b])[0]'(show 0 < 2 by decide) = a := rfl
  have e1 : (ByteArray.mk #[a, b])[1]'(show 1 < 2 by decide) = b := rfl
  have e2 : (ByteArray.mk #[a, b]).size = 2 := rfl
  clear hk
  go_enter Try.func44, Try.ntmps44
  go_wp2_with fail
  refine Calls.mono (has_any ⟨(Tr.delims).toArray⟩ a _ (by decide)) ?_
  rintro _ w1q ⟨rfl, hqw1⟩
  replace hqw1 := hqw1.symm
  subst hqw1
  cases h1 : (Tr.delims.contains a) with
  | false =>
    go_wp2_with fail
    go_ret
    exact ⟨ret_bool' _ _ (by rw [HT.out]; simp_all), (by first | exact (Touch.refl _ _) | exact (Touch.refl _ _).alloc _ | exact ((Touch.refl _ _).alloc _).alloc _ | exact (((Touch.refl _ _).alloc _).alloc _).alloc _ | exact (Touch.refl _ _).drewN _ | exact ((Touch.refl _ _).alloc _).drewN _ | exact (((Touch.refl _ _).alloc _).alloc _).drewN _)⟩
  | true =>
    go_wp2_with fail
    refine Calls.mono (has_any ⟨(Tr.delims).toArray⟩ b _ (by decide)) ?_
    rintro _ w2q ⟨rfl, hqw2⟩
    replace hqw2 := hqw2.symm
    subst hqw2
    cases h2 : (Tr.delims.contains b) with
    | false =>
      go_wp2_with fail
      go_ret
      exact ⟨ret_bool' _ _ (by rw [HT.out]; simp_all), (by first | exact (Touch.refl _ _) | exact (Touch.refl _ _).alloc _ | exact ((Touch.refl _ _).alloc _).alloc _ | exact (((Touch.refl _ _).alloc _).alloc _).alloc _ | exact (Touch.refl _ _).drewN _ | exact ((Touch.refl _ _).alloc _).drewN _ | exact (((Touch.refl _ _).alloc _).alloc _).drewN _)⟩
    | true =>
      go_wp2_with fail
      go_ret
      exact ⟨ret_bool' _ _ (by rw [HT.out]; simp_all), (by first | exact (Touch.refl _ _) | exact (Touch.refl _ _).alloc _ | exact ((Touch.refl _ _).alloc _).alloc _ | exact (((Touch.refl _ _).alloc _).alloc _).alloc _ | exact (Touch.refl _ _).drewN _ | exact ((Touch.refl _ _).alloc _).drewN _ | exact (((Touch.refl _ _).alloc _).alloc _).drewN _)⟩
set_option maxRecDepth 100000 in
set_option maxHeartbeats 1000000 in
theorem text_nofence (k : Int) (hk : k = 11) (t : List UInt8) (ht : t.length ≠ 2) (cv sl : Value) (w : World) :
    Calls Try.prog 44 #[.agg #[.int .i64 k, .string ⟨t.toArray⟩, cv, sl]] w fun e w' => e = .returned (.bool (Tr.textOK k t)) ∧ Fresh w w' := by
  have hk0 : (k == 10) = false := by subst hk; rfl
  have hk1 : (k == 11) = true := by subst hk; rfl
  have hk2 : (k == 2) = false := by subst hk; rfl
  have hk3 : (k == 3) = false := by subst hk; rfl
  have hk4 : (k == 4) = false := by subst hk; rfl
  have HT := hid (show Tr.textOK k t = false by
    subst hk
    show Tr.fence t = false
    match t, ht with
    | [], _ => rfl
    | [_], _ => rfl
    | [_, _], h => exact absurd rfl h
    | _ :: _ :: _ :: _, _ => rfl)
  have f1 : ((t.length : Int) == 2) = false := by rw [beq_eq_false_iff_ne]; omega
  have f2 : (t.length == 2) = false := by rw [beq_eq_false_iff_ne]; exact ht
  have f3 : ¬ (t.length : Int) = 2 := by omega
  clear hk ht
  go_enter Try.func44, Try.ntmps44
  go_wp2_with fail
  go_ret
  exact ⟨ret_bool' _ _ (by rw [HT.out]), (by first | exact (Touch.refl _ _) | exact (Touch.refl _ _).alloc _ | exact ((Touch.refl _ _).alloc _).alloc _ | exact (((Touch.refl _ _).alloc _).alloc _).alloc _ | exact (Touch.refl _ _).drewN _ | exact ((Touch.refl _ _).alloc _).drewN _ | exact (((Touch.refl _ _).alloc _).alloc _).drewN _)⟩
set_option maxRecDepth 100000 in
set_option maxHeartbeats 1000000 in
theorem text_accent (k : Int) (hk : k = 10) (t : List UInt8) (cv sl : Value) (w : World) :
    Calls Try.prog 44 #[.agg #[.int .i64 k, .string ⟨t.toArray⟩, cv, sl]] w fun e w' => e = .returned (.bool (Tr.textOK k t)) ∧ Fresh w w' := by
  have hk0 : (k == 10) = true := by subst hk; rfl
  have hk2 : (k == 2) = false := by subst hk; rfl
  have hk3 : (k == 3) = false := by subst hk; rfl
  have hk4 : (k == 4) = false := by subst hk; rfl
  have HT := hid (show Tr.textOK k t = Tr.accents.contains t by subst hk; rfl)
  clear hk
  go_enter Try.func44, Try.ntmps44
  go_wp2_with fail
  go_region_with (first
    | (go_at_call 70; refine (accents_any _).mono ?_; rintro _ w1 ⟨rfl, hf1, hb1⟩; have q1 := Blk.cell (Touch.blk hf1 (Blk.new _ _ _) (fun h => h)) 1; have hb2 : Blk w1 (w.heap.size + 1) 9 (strRow Tr.accents) := (by simpa using hb1); have HF1 := hid (Touch.trans (((Touch.refl _ w).alloc _).drew) hf1); clear hf1 hb1)
    | (go_at_call 69; refine (in_any Tr.accents ⟨t.toArray⟩ _ _ (by assumption) (by decide)).mono ?_; rintro _ _ ⟨rfl, rfl⟩))
  all_goals (go_wp2_with fail)
  all_goals go_ret
  all_goals exact ⟨ret_bool' _ _ (by rw [HT.out]; simp), HF1.out⟩

theorem text_any (k : Int) (t : List UInt8) (cv sl : Value) (w : World) (hm : t.length ≤ 9223372036854775807) :
    Calls Try.prog 44 #[.agg #[.int .i64 k, .string ⟨t.toArray⟩, cv, sl]] w fun e w' => e = .returned (.bool (Tr.textOK k t)) ∧ Fresh w w' := by
  by_cases h10 : k = 10
  · exact text_accent k h10 t cv sl w
  · by_cases h11 : k = 11
    · by_cases h2 : t.length = 2
      · match t, h2 with
        | [a, b], _ => exact text_fence k h11 a b cv sl w
      · exact text_nofence k h11 t h2 cv sl w
    · exact text_plain k t cv sl w (by simpa using h10) (by simpa using h11) hm

set_option maxRecDepth 100000 in
set_option maxHeartbeats 2000000 in
theorem kids_any (k c : Int) (n : Nat) (A : Option Addr) (cap : Nat) (tx : Value) (w : World) (hn : n ≤ 9223372036854775807) :
    Calls Try.prog 45 #[.agg #[.int .i64 k, tx, .int .i64 c, .slice A n cap]] w fun e w' => e = .returned (.bool (Tr.kidsOK k c n)) ∧ Fresh w w' := by
  go_enter Try.func45, Try.ntmps45
  cases h1 : (k == (12 : Int)) with
  | false =>
    have h1m : (k != (12 : Int)) = true := by rw [bne, h1]; rfl
    cases h2 : (c == (0 : Int)) with
    | false =>
      have h2m : (c != (0 : Int)) = true := by rw [bne, h2]; rfl
      go_wp2_with fail
      go_ret
      exact ⟨ret_bool' _ _ (by unfold Tr.kidsOK; simp_all <;> omega), (by first | exact (Touch.refl _ _) | exact (Touch.refl _ _).alloc _ | exact ((Touch.refl _ _).alloc _).alloc _ | exact (((Touch.refl _ _).alloc _).alloc _).alloc _ | exact (Touch.refl _ _).drewN _ | exact ((Touch.refl _ _).alloc _).drewN _ | exact (((Touch.refl _ _).alloc _).alloc _).drewN _)⟩
    | true =>
      have h2m : (c != (0 : Int)) = false := by rw [bne, h2]; rfl
      cases h3 : (k == (1 : Int)) with
      | false =>
        have h3m : (k != (1 : Int)) = true := by rw [bne, h3]; rfl
        cases h4 : (k == (2 : Int)) with
        | false =>
          have h4m : (k != (2 : Int)) = true := by rw [bne, h4]; rfl
          cases h5 : (k == (3 : Int)) with
          | false =>
            have h5m : (k != (3 : Int)) = true := by rw [bne, h5]; rfl
            cases h6 : (k == (4 : Int)) with
            | false =>
              have h6m : (k != (4 : Int)) = true := by rw [bne, h6]; rfl
              cases h7 : (k == (5 : Int)) with
              | false =>
                have h7m : (k != (5 : Int)) = true := by rw [bne, h7]; rfl
                cases h8 : (k == (6 : Int)) with
                | false =>
                  have h8m : (k != (6 : Int)) = true := by rw [bne, h8]; rfl
                  cases h9 : (k == (7 : Int)) with
                  | false =>
                    have h9m : (k != (7 : Int)) = true := by rw [bne, h9]; rfl
                    cases h10 : (k == (8 : Int)) with
                    | false =>
                      have h10m : (k != (8 : Int)) = true := by rw [bne, h10]; rfl
                      cases h11 : (k == (9 : Int)) with
                      | false =>
                        have h11m : (k != (9 : Int)) = true := by rw [bne, h11]; rfl
                        cases h12 : (k == (10 : Int)) with
                        | false =>
                          have h12m : (k != (10 : Int)) = true := by rw [bne, h12]; rfl
                          cases h13 : (k == (11 : Int)) with
                          | false =>
                            have h13m : (k != (11 : Int)) = true := by rw [bne, h13]; rfl
                            go_wp2_with fail
                            go_ret
                            exact ⟨ret_bool' _ _ (by unfold Tr.kidsOK; simp_all <;> omega), (by first | exact (Touch.refl _ _) | exact (Touch.refl _ _).alloc _ | exact ((Touch.refl _ _).alloc _).alloc _ | exact (((Touch.refl _ _).alloc _).alloc _).alloc _ | exact (Touch.refl _ _).drewN _ | exact ((Touch.refl _ _).alloc _).drewN _ | exact (((Touch.refl _ _).alloc _).alloc _).drewN _)⟩
                          | true =>
                            have h13m : (k != (11 : Int)) = false := by rw [bne, h13]; rfl
                            cases h14 : ((n : Int) == (1 : Int)) with
                            | false =>
                              have h14m : ((n : Int) != (1 : Int)) = true := by rw [bne, h14]; rfl
                              have h14n : (n == 1) = false := by have hx := h14; simp only [beq_eq_false_iff_ne, ne_eq] at hx ⊢; omega
                              go_wp2_with fail
                              go_ret
                              exact ⟨ret_bool' _ _ (by unfold Tr.kidsOK; simp_all <;> omega), (by first | exact (Touch.refl _ _) | exact (Touch.refl _ _).alloc _ | exact ((Touch.refl _ _).alloc _).alloc _ | exact (((Touch.refl _ _).alloc _).alloc _).alloc _ | exact (Touch.refl _ _).drewN _ | exact ((Touch.refl _ _).alloc _).drewN _ | exact (((Touch.refl _ _).alloc _).alloc _).drewN _)⟩
                            | true =>
                              have h14m : ((n : Int) != (1 : Int)) = false := by rw [bne, h14]; rfl
                              have h14n : (n == 1) = true := by have hx := h14; simp only [beq_iff_eq] at hx ⊢; omega
                              go_wp2_with fail
                              go_ret
                              exact ⟨ret_bool' _ _ (by unfold Tr.kidsOK; simp_all <;> omega), (by first | exact (Touch.refl _ _) | exact (Touch.refl _ _).alloc _ | exact ((Touch.refl _ _).alloc _).alloc _ | exact (((Touch.refl _ _).alloc _).alloc _).alloc _ | exact (Touch.refl _ _).drewN _ | exact ((Touch.refl _ _).alloc _).drewN _ | exact (((Touch.refl _ _).alloc _).alloc _).drewN _)⟩
                        | true =>
                          have h12m : (k != (10 : Int)) = false := by rw [bne, h12]; rfl
                          cases h15 : ((n : Int) == (1 : Int)) with
                          | false =>
                            have h15m : ((n : Int) != (1 : Int)) = true := by rw [bne, h15]; rfl
                            have h15n : (n == 1) = false := by have hx := h15; simp only [beq_eq_false_iff_ne, ne_eq] at hx ⊢; omega
                            go_wp2_with fail
                            go_ret
                            exact ⟨ret_bool' _ _ (by unfold Tr.kidsOK; simp_all <;> omega), (by first | exact (Touch.refl _ _) | exact (Touch.refl _ _).alloc _ | exact ((Touch.refl _ _).alloc _).alloc _ | exact (((Touch.refl _ _).alloc _).alloc _).alloc _ | exact (Touch.refl _ _).drewN _ | exact ((Touch.refl _ _).alloc _).drewN _ | exact (((Touch.refl _ _).alloc _).alloc _).drewN _)⟩
                          | true =>
                            have h15m : ((n : Int) != (1 : Int)) = false := by rw [bne, h15]; rfl
                            have h15n : (n == 1) = true := by have hx := h15; simp only [beq_iff_eq] at hx ⊢; omega
                            go_wp2_with fail
                            go_ret
                            exact ⟨ret_bool' _ _ (by unfold Tr.kidsOK; simp_all <;> omega), (by first | exact (Touch.refl _ _) | exact (Touch.refl _ _).alloc _ | exact ((Touch.refl _ _).alloc _).alloc _ | exact (((Touch.refl _ _).alloc _).alloc _).alloc _ | exact (Touch.refl _ _).drewN _ | exact ((Touch.refl _ _).alloc _).drewN _ | exact (((Touch.refl _ _).alloc _).alloc _).drewN _)⟩
                      | true =>
                        have h11m : (k != (9 : Int)) = false := by rw [bne, h11]; rfl
                        cases h16 : ((n : Int) == (3 : Int)) with
                        | false =>
                          have h16m : ((n : Int) != (3 : Int)) = true := by rw [bne, h16]; rfl
                          have h16n : (n == 3) = false := by have hx := h16; simp only [beq_eq_false_iff_ne, ne_eq] at hx ⊢; omega
                          go_wp2_with fail
                          go_ret
                          exact ⟨ret_bool' _ _ (by unfold Tr.kidsOK; simp_all <;> omega), (by first | exact (Touch.refl _ _) | exact (Touch.refl _ _).alloc _ | exact ((Touch.refl _ _).alloc _).alloc _ | exact (((Touch.refl _ _).alloc _).alloc _).alloc _ | exact (Touch.refl _ _).drewN _ | exact ((Touch.refl _ _).alloc _).drewN _ | exact (((Touch.refl _ _).alloc _).alloc _).drewN _)⟩
                        | true =>
                          have h16m : ((n : Int) != (3 : Int)) = false := by rw [bne, h16]; rfl
                          have h16n : (n == 3) = true := by have hx := h16; simp only [beq_iff_eq] at hx ⊢; omega
                          go_wp2_with fail
                          go_ret
                          exact ⟨ret_bool' _ _ (by unfold Tr.kidsOK; simp_all <;> omega), (by first | exact (Touch.refl _ _) | exact (Touch.refl _ _).alloc _ | exact ((Touch.refl _ _).alloc _).alloc _ | exact (((Touch.refl _ _).alloc _).alloc _).alloc _ | exact (Touch.refl _ _).drewN _ | exact ((Touch.refl _ _).alloc _).drewN _ | exact (((Touch.refl _ _).alloc _).alloc _).drewN _)⟩
                    | true =>
                      have h10m : (k != (8 : Int)) = false := by rw [bne, h10]; rfl
                      cases h17 : ((n : Int) == (2 : Int)) with
                      | false =>
                        have h17m : ((n : Int) != (2 : Int)) = true := by rw [bne, h17]; rfl
                        have h17n : (n == 2) = false := by have hx := h17; simp only [beq_eq_false_iff_ne, ne_eq] at hx ⊢; omega
                        go_wp2_with fail
                        go_ret
                        exact ⟨ret_bool' _ _ (by unfold Tr.kidsOK; simp_all <;> omega), (by first | exact (Touch.refl _ _) | exact (Touch.refl _ _).alloc _ | exact ((Touch.refl _ _).alloc _).alloc _ | exact (((Touch.refl _ _).alloc _).alloc _).alloc _ | exact (Touch.refl _ _).drewN _ | exact ((Touch.refl _ _).alloc _).drewN _ | exact (((Touch.refl _ _).alloc _).alloc _).drewN _)⟩
                      | true =>
                        have h17m : ((n : Int) != (2 : Int)) = false := by rw [bne, h17]; rfl
                        have h17n : (n == 2) = true := by have hx := h17; simp only [beq_iff_eq] at hx ⊢; omega
                        go_wp2_with fail
                        go_ret
                        exact ⟨ret_bool' _ _ (by unfold Tr.kidsOK; simp_all <;> omega), (by first | exact (Touch.refl _ _) | exact (Touch.refl _ _).alloc _ | exact ((Touch.refl _ _).alloc _).alloc _ | exact (((Touch.refl _ _).alloc _).alloc _).alloc _ | exact (Touch.refl _ _).drewN _ | exact ((Touch.refl _ _).alloc _).drewN _ | exact (((Touch.refl _ _).alloc _).alloc _).drewN _)⟩
                  | true =>
                    have h9m : (k != (7 : Int)) = false := by rw [bne, h9]; rfl
                    cases h18 : ((n : Int) == (2 : Int)) with
                    | false =>
                      have h18m : ((n : Int) != (2 : Int)) = true := by rw [bne, h18]; rfl
                      have h18n : (n == 2) = false := by have hx := h18; simp only [beq_eq_false_iff_ne, ne_eq] at hx ⊢; omega
                      go_wp2_with fail
                      go_ret
                      exact ⟨ret_bool' _ _ (by unfold Tr.kidsOK; simp_all <;> omega), (by first | exact (Touch.refl _ _) | exact (Touch.refl _ _).alloc _ | exact ((Touch.refl _ _).alloc _).alloc _ | exact (((Touch.refl _ _).alloc _).alloc _).alloc _ | exact (Touch.refl _ _).drewN _ | exact ((Touch.refl _ _).alloc _).drewN _ | exact (((Touch.refl _ _).alloc _).alloc _).drewN _)⟩
                    | true =>
                      have h18m : ((n : Int) != (2 : Int)) = false := by rw [bne, h18]; rfl
                      have h18n : (n == 2) = true := by have hx := h18; simp only [beq_iff_eq] at hx ⊢; omega
                      go_wp2_with fail
                      go_ret
                      exact ⟨ret_bool' _ _ (by unfold Tr.kidsOK; simp_all <;> omega), (by first | exact (Touch.refl _ _) | exact (Touch.refl _ _).alloc _ | exact ((Touch.refl _ _).alloc _).alloc _ | exact (((Touch.refl _ _).alloc _).alloc _).alloc _ | exact (Touch.refl _ _).drewN _ | exact ((Touch.refl _ _).alloc _).drewN _ | exact (((Touch.refl _ _).alloc _).alloc _).drewN _)⟩
                | true =>
                  have h8m : (k != (6 : Int)) = false := by rw [bne, h8]; rfl
                  cases h19 : ((n : Int) == (2 : Int)) with
                  | false =>
                    have h19m : ((n : Int) != (2 : Int)) = true := by rw [bne, h19]; rfl
                    have h19n : (n == 2) = false := by have hx := h19; simp only [beq_eq_false_iff_ne, ne_eq] at hx ⊢; omega
                    go_wp2_with fail
                    go_ret
                    exact ⟨ret_bool' _ _ (by unfold Tr.kidsOK; simp_all <;> omega), (by first | exact (Touch.refl _ _) | exact (Touch.refl _ _).alloc _ | exact ((Touch.refl _ _).alloc _).alloc _ | exact (((Touch.refl _ _).alloc _).alloc _).alloc _ | exact (Touch.refl _ _).drewN _ | exact ((Touch.refl _ _).alloc _).drewN _ | exact (((Touch.refl _ _).alloc _).alloc _).drewN _)⟩
                  | true =>
                    have h19m : ((n : Int) != (2 : Int)) = false := by rw [bne, h19]; rfl
                    have h19n : (n == 2) = true := by have hx := h19; simp only [beq_iff_eq] at hx ⊢; omega
                    go_wp2_with fail
                    go_ret
                    exact ⟨ret_bool' _ _ (by unfold Tr.kidsOK; simp_all <;> omega), (by first | exact (Touch.refl _ _) | exact (Touch.refl _ _).alloc _ | exact ((Touch.refl _ _).alloc _).alloc _ | exact (((Touch.refl _ _).alloc _).alloc _).alloc _ | exact (Touch.refl _ _).drewN _ | exact ((Touch.refl _ _).alloc _).drewN _ | exact (((Touch.refl _ _).alloc _).alloc _).drewN _)⟩
              | true =>
                have h7m : (k != (5 : Int)) = false := by rw [bne, h7]; rfl
                cases h20 : ((n : Int) == (2 : Int)) with
                | false =>
                  have h20m : ((n : Int) != (2 : Int)) = true := by rw [bne, h20]; rfl
                  have h20n : (n == 2) = false := by have hx := h20; simp only [beq_eq_false_iff_ne, ne_eq] at hx ⊢; omega
                  go_wp2_with fail
                  go_ret
                  exact ⟨ret_bool' _ _ (by unfold Tr.kidsOK; simp_all <;> omega), (by first | exact (Touch.refl _ _) | exact (Touch.refl _ _).alloc _ | exact ((Touch.refl _ _).alloc _).alloc _ | exact (((Touch.refl _ _).alloc _).alloc _).alloc _ | exact (Touch.refl _ _).drewN _ | exact ((Touch.refl _ _).alloc _).drewN _ | exact (((Touch.refl _ _).alloc _).alloc _).drewN _)⟩
                | true =>
                  have h20m : ((n : Int) != (2 : Int)) = false := by rw [bne, h20]; rfl
                  have h20n : (n == 2) = true := by have hx := h20; simp only [beq_iff_eq] at hx ⊢; omega
                  go_wp2_with fail
                  go_ret
                  exact ⟨ret_bool' _ _ (by unfold Tr.kidsOK; simp_all <;> omega), (by first | exact (Touch.refl _ _) | exact (Touch.refl _ _).alloc _ | exact ((Touch.refl _ _).alloc _).alloc _ | exact (((Touch.refl _ _).alloc _).alloc _).alloc _ | exact (Touch.refl _ _).drewN _ | exact ((Touch.refl _ _).alloc _).drewN _ | exact (((Touch.refl _ _).alloc _).alloc _).drewN _)⟩
            | true =>
              have h6m : (k != (4 : Int)) = false := by rw [bne, h6]; rfl
              cases h21 : ((n : Int) == (0 : Int)) with
              | false =>
                have h21m : ((n : Int) != (0 : Int)) = true := by rw [bne, h21]; rfl
                have h21n : (n == 0) = false := by have hx := h21; simp only [beq_eq_false_iff_ne, ne_eq] at hx ⊢; omega
                go_wp2_with fail
                go_ret
                exact ⟨ret_bool' _ _ (by unfold Tr.kidsOK; simp_all <;> omega), (by first | exact (Touch.refl _ _) | exact (Touch.refl _ _).alloc _ | exact ((Touch.refl _ _).alloc _).alloc _ | exact (((Touch.refl _ _).alloc _).alloc _).alloc _ | exact (Touch.refl _ _).drewN _ | exact ((Touch.refl _ _).alloc _).drewN _ | exact (((Touch.refl _ _).alloc _).alloc _).drewN _)⟩
              | true =>
                have h21m : ((n : Int) != (0 : Int)) = false := by rw [bne, h21]; rfl
                have h21n : (n == 0) = true := by have hx := h21; simp only [beq_iff_eq] at hx ⊢; omega
                go_wp2_with fail
                go_ret
                exact ⟨ret_bool' _ _ (by unfold Tr.kidsOK; simp_all <;> omega), (by first | exact (Touch.refl _ _) | exact (Touch.refl _ _).alloc _ | exact ((Touch.refl _ _).alloc _).alloc _ | exact (((Touch.refl _ _).alloc _).alloc _).alloc _ | exact (Touch.refl _ _).drewN _ | exact ((Touch.refl _ _).alloc _).drewN _ | exact (((Touch.refl _ _).alloc _).alloc _).drewN _)⟩
          | true =>
            have h5m : (k != (3 : Int)) = false := by rw [bne, h5]; rfl
            cases h22 : ((n : Int) == (0 : Int)) with
            | false =>
              have h22m : ((n : Int) != (0 : Int)) = true := by rw [bne, h22]; rfl
              have h22n : (n == 0) = false := by have hx := h22; simp only [beq_eq_false_iff_ne, ne_eq] at hx ⊢; omega
              go_wp2_with fail
              go_ret
              exact ⟨ret_bool' _ _ (by unfold Tr.kidsOK; simp_all <;> omega), (by first | exact (Touch.refl _ _) | exact (Touch.refl _ _).alloc _ | exact ((Touch.refl _ _).alloc _).alloc _ | exact (((Touch.refl _ _).alloc _).alloc _).alloc _ | exact (Touch.refl _ _).drewN _ | exact ((Touch.refl _ _).alloc _).drewN _ | exact (((Touch.refl _ _).alloc _).alloc _).drewN _)⟩
            | true =>
              have h22m : ((n : Int) != (0 : Int)) = false := by rw [bne, h22]; rfl
              have h22n : (n == 0) = true := by have hx := h22; simp only [beq_iff_eq] at hx ⊢; omega
              go_wp2_with fail
              go_ret
              exact ⟨ret_bool' _ _ (by unfold Tr.kidsOK; simp_all <;> omega), (by first | exact (Touch.refl _ _) | exact (Touch.refl _ _).alloc _ | exact ((Touch.refl _ _).alloc _).alloc _ | exact (((Touch.refl _ _).alloc _).alloc _).alloc _ | exact (Touch.refl _ _).drewN _ | exact ((Touch.refl _ _).alloc _).drewN _ | exact (((Touch.refl _ _).alloc _).alloc _).drewN _)⟩
        | true =>
          have h4m : (k != (2 : Int)) = false := by rw [bne, h4]; rfl
          cases h23 : ((n : Int) == (0 : Int)) with
          | false =>
            have h23m : ((n : Int) != (0 : Int)) = true := by rw [bne, h23]; rfl
            have h23n : (n == 0) = false := by have hx := h23; simp only [beq_eq_false_iff_ne, ne_eq] at hx ⊢; omega
            go_wp2_with fail
            go_ret
            exact ⟨ret_bool' _ _ (by unfold Tr.kidsOK; simp_all <;> omega), (by first | exact (Touch.refl _ _) | exact (Touch.refl _ _).alloc _ | exact ((Touch.refl _ _).alloc _).alloc _ | exact (((Touch.refl _ _).alloc _).alloc _).alloc _ | exact (Touch.refl _ _).drewN _ | exact ((Touch.refl _ _).alloc _).drewN _ | exact (((Touch.refl _ _).alloc _).alloc _).drewN _)⟩
          | true =>
            have h23m : ((n : Int) != (0 : Int)) = false := by rw [bne, h23]; rfl
            have h23n : (n == 0) = true := by have hx := h23; simp only [beq_iff_eq] at hx ⊢; omega
            go_wp2_with fail
            go_ret
            exact ⟨ret_bool' _ _ (by unfold Tr.kidsOK; simp_all <;> omega), (by first | exact (Touch.refl _ _) | exact (Touch.refl _ _).alloc _ | exact ((Touch.refl _ _).alloc _).alloc _ | exact (((Touch.refl _ _).alloc _).alloc _).alloc _ | exact (Touch.refl _ _).drewN _ | exact ((Touch.refl _ _).alloc _).drewN _ | exact (((Touch.refl _ _).alloc _).alloc _).drewN _)⟩
      | true =>
        have h3m : (k != (1 : Int)) = false := by rw [bne, h3]; rfl
        cases h24 : decide ((n : Int) ≤ (200 : Int)) with
        | false =>
          have h24n : decide (n ≤ 200) = false := by have hx := h24; simp only [decide_eq_false_iff_not] at hx ⊢; omega
          go_wp2_with fail
          go_ret
          exact ⟨ret_bool' _ _ (by unfold Tr.kidsOK; simp_all <;> omega), (by first | exact (Touch.refl _ _) | exact (Touch.refl _ _).alloc _ | exact ((Touch.refl _ _).alloc _).alloc _ | exact (((Touch.refl _ _).alloc _).alloc _).alloc _ | exact (Touch.refl _ _).drewN _ | exact ((Touch.refl _ _).alloc _).drewN _ | exact (((Touch.refl _ _).alloc _).alloc _).drewN _)⟩
        | true =>
          have h24p := of_decide_eq_true h24
          have h24n : decide (n ≤ 200) = true := by have hx := h24; simp only [decide_eq_true_eq] at hx ⊢; omega
          go_wp2_with fail
          go_ret
          exact ⟨ret_bool' _ _ (by unfold Tr.kidsOK; simp_all <;> omega), (by first | exact (Touch.refl _ _) | exact (Touch.refl _ _).alloc _ | exact ((Touch.refl _ _).alloc _).alloc _ | exact (((Touch.refl _ _).alloc _).alloc _).alloc _ | exact (Touch.refl _ _).drewN _ | exact ((Touch.refl _ _).alloc _).drewN _ | exact (((Touch.refl _ _).alloc _).alloc _).drewN _)⟩
  | true =>
    have h1m : (k != (12 : Int)) = false := by rw [bne, h1]; rfl
    cases h25 : decide ((1 : Int) ≤ c) with
    | false =>
      go_wp2_with fail
      go_ret
      exact ⟨ret_bool' _ _ (by unfold Tr.kidsOK; simp_all <;> omega), (by first | exact (Touch.refl _ _) | exact (Touch.refl _ _).alloc _ | exact ((Touch.refl _ _).alloc _).alloc _ | exact (((Touch.refl _ _).alloc _).alloc _).alloc _ | exact (Touch.refl _ _).drewN _ | exact ((Touch.refl _ _).alloc _).drewN _ | exact (((Touch.refl _ _).alloc _).alloc _).drewN _)⟩
    | true =>
      have h25p := of_decide_eq_true h25
      cases h26 : decide (c ≤ (16 : Int)) with
      | false =>
        go_wp2_with fail
        go_ret
        exact ⟨ret_bool' _ _ (by unfold Tr.kidsOK; simp_all <;> omega), (by first | exact (Touch.refl _ _) | exact (Touch.refl _ _).alloc _ | exact ((Touch.refl _ _).alloc _).alloc _ | exact (((Touch.refl _ _).alloc _).alloc _).alloc _ | exact (Touch.refl _ _).drewN _ | exact ((Touch.refl _ _).alloc _).drewN _ | exact (((Touch.refl _ _).alloc _).alloc _).drewN _)⟩
      | true =>
        have h26p := of_decide_eq_true h26
        cases h27 : decide ((1 : Int) ≤ (n : Int)) with
        | false =>
          have h27n : decide (1 ≤ n) = false := by have hx := h27; simp only [decide_eq_false_iff_not] at hx ⊢; omega
          go_wp2_with fail
          go_ret
          exact ⟨ret_bool' _ _ (by unfold Tr.kidsOK; simp_all <;> omega), (by first | exact (Touch.refl _ _) | exact (Touch.refl _ _).alloc _ | exact ((Touch.refl _ _).alloc _).alloc _ | exact (((Touch.refl _ _).alloc _).alloc _).alloc _ | exact (Touch.refl _ _).drewN _ | exact ((Touch.refl _ _).alloc _).drewN _ | exact (((Touch.refl _ _).alloc _).alloc _).drewN _)⟩
        | true =>
          have h27p := of_decide_eq_true h27
          have h27n : decide (1 ≤ n) = true := by have hx := h27; simp only [decide_eq_true_eq] at hx ⊢; omega
          cases h28 : decide ((n : Int) ≤ (256 : Int)) with
          | false =>
            have h28n : decide (n ≤ 256) = false := by have hx := h28; simp only [decide_eq_false_iff_not] at hx ⊢; omega
            go_wp2_with fail
            go_ret
            exact ⟨ret_bool' _ _ (by unfold Tr.kidsOK; simp_all <;> omega), (by first | exact (Touch.refl _ _) | exact (Touch.refl _ _).alloc _ | exact ((Touch.refl _ _).alloc _).alloc _ | exact (((Touch.refl _ _).alloc _).alloc _).alloc _ | exact (Touch.refl _ _).drewN _ | exact ((Touch.refl _ _).alloc _).drewN _ | exact (((Touch.refl _ _).alloc _).alloc _).drewN _)⟩
          | true =>
            have h28p := of_decide_eq_true h28
            have h28n : decide (n ≤ 256) = true := by have hx := h28; simp only [decide_eq_true_eq] at hx ⊢; omega
            cases h29 : (((n : Int) % c) == (0 : Int)) with
            | false =>
              have h29m : (((n : Int) % c) != (0 : Int)) = true := by rw [bne, h29]; rfl
              go_wp2_with fail
              go_ret
              exact ⟨ret_bool' _ _ (by unfold Tr.kidsOK; simp_all <;> omega), (by first | exact (Touch.refl _ _) | exact (Touch.refl _ _).alloc _ | exact ((Touch.refl _ _).alloc _).alloc _ | exact (((Touch.refl _ _).alloc _).alloc _).alloc _ | exact (Touch.refl _ _).drewN _ | exact ((Touch.refl _ _).alloc _).drewN _ | exact (((Touch.refl _ _).alloc _).alloc _).drewN _)⟩
            | true =>
              have h29m : (((n : Int) % c) != (0 : Int)) = false := by rw [bne, h29]; rfl
              go_wp2_with fail
              go_ret
              exact ⟨ret_bool' _ _ (by unfold Tr.kidsOK; simp_all <;> omega), (by first | exact (Touch.refl _ _) | exact (Touch.refl _ _).alloc _ | exact ((Touch.refl _ _).alloc _).alloc _ | exact (((Touch.refl _ _).alloc _).alloc _).alloc _ | exact (Touch.refl _ _).drewN _ | exact ((Touch.refl _ _).alloc _).drewN _ | exact (((Touch.refl _ _).alloc _).alloc _).drewN _)⟩
end Go.Proofs.Ytdacpbdamliafaa
