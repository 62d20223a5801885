/- Part 30 of 48 of a proof; its texts, joined: NqG. No condition. -/
import Derived.Test.YtncnoeoicaglaaaGreatVc29
import Derived.Test.YtncnoeoicaglaaaGreatVc12

/- The parser's script. -/
namespace Go.Proofs.YtncnoeoicaglaaaGreat
open Go.RowKit
open Tr (Nd)
open Lx (PTok)
open Np (R pRow pIn pScript pItem pPrim pArgs pName pCells pArg)
attribute [local go_sem] stillV stillUpon
theorem Ps.mv {c : Cf} {k : Nat} {op : List Nat} {w w' : World} {S : Nat → Prop} (h : Ps c k op w) (ht : Touch S w w') (hS : ∀ b, S b → b ≠ c.g ∧ c.W0.heap.size ≤ b ∧ ∃ t cs, t ≠ 3 ∧ Blk w b t cs) : Ps c k op w' := by
 obtain ⟨ov, hb, ho⟩ := h.box
 refine ⟨h.low.trans' ht fun i hi => .inr (hS i hi).2.1, ⟨ov, ht.blk hb fun hs => (hS _ hs).1 rfl, ownsRow_touch ho ht fun b hb' hs => ?_⟩, h.le⟩
 obtain ⟨_, cur, h2⟩ := owns_type ho hb'
 obtain ⟨t, cs, h3, h4⟩ := (hS b hs).2.2
 unfold Blk at h4
 rw [h4] at h2
 cases h2
 exact h3 rfl
abbrev zeroN : Array Value := #[.int .i64 0, .string ⟨#[]⟩, .int .i64 0, .slice none 0 0]
abbrev nodeC (n : Nd) (A : Option Addr) (cp : Nat) : Array Value := #[.int .i64 n.kind, .string ⟨n.text.toArray⟩, .int .i64 n.cols, .slice A n.kids.length cp]
set_option maxRecDepth 100000 in
set_option maxHeartbeats 400000 in
theorem script_n (c : Cf) (hc : c.Good) (f : Nat) (harg : ArgumentN c f) : ScriptN c (f + 1) := by
 intro k op b w h hop hne
 have HA := hid (fun (w' : World) (hf : Fresh w w') => at_any_n c hc k op b w' (h.fresh hf))
 have HARG := hid harg
 have htl := hc.tl
 have H := hid h
 have HOP := hid hop
 have hgl : c.g < w.heap.size := h.glt
 have HW0 := hid h.low.size
 have hr : pScript c.en (f + 1) b op (c.T.drop k) = if Np.isM b (c.T.drop k) then (pArg c.en f op (c.T.drop (k + 1))).map some else .ok none (c.T.drop k) := by rw [pScript, List.tail_drop]
 rw [hr] at hne ⊢
 have HNE := hid hne
 refine Calls.via fun Q hQ => ?_
 have HQ := hid hQ
 have hlt := @isM_lt c k b
 clear hne hr harg h hop hc hQ
 cases hm : Np.isM b (c.T.drop k) with
 | false =>
  rw [hm] at HQ HA
  rw [if_neg (by simp)] at HQ
  clear hm hlt HNE
  go_enter Tryz.func111, Tryz.ntmps111
  go_wp2_with fail
  refine (HA.out _ (((Touch.refl _ _).alloc _).alloc _)).mono ?_
  rintro _ w1 ⟨rfl, hf⟩
  have HF := hid (show Fresh w w1 from Touch.pre (Touch.pre hf))
  have HBN := hid (hf.blk ((Blk.new w 26 zeroN).alloc (.cells #[.int .i64 0, .int .i64 0] 56)) (fun h => h))
  have HBF := hid (hf.blk (Blk.new2 w (.cells zeroN 26) 56 #[.int .i64 0, .int .i64 0]) (fun h => h))
  obtain ⟨p0, p1, p2, p3, y0, y1, y2, y3, hlt0⟩ := Blk.four HBN.out
  obtain ⟨q0, q1, z0, z1, hlt1⟩ := Blk.two HBF.out
  clear hf
  go_wp2_with fail
  have n1 := HBN.out.self4 (.int .i64 0) (.string ⟨#[]⟩) (.int .i64 0) (.slice none 0 0)
  have hne : w.heap.size ≠ w.heap.size + 1 := by omega
  have n2 := HBF.out.far4 (Ne.symm hne) (.int .i64 0) (.string ⟨#[]⟩) (.int .i64 0) (.slice none 0 0)
  have n3 := n1.far2 hne (.int .i64 0) (.int .i64 0)
  have n4 := n2.self2 (.int .i64 0) (.int .i64 0)
  have hps := ((H.out.fresh HF.out).put4 HBN.out (by decide) (by omega) HW0.out (.int .i64 0) (.string ⟨#[]⟩) (.int .i64 0) (.slice none 0 0)).put2 n2 (by decide) (by omega) (by have := HW0.out; omega) (.int .i64 0) (.int .i64 0)
  have hm5 : Mp c.g c.W0.heap.size w _ := ((Mp.fresh HF.out).put4 (g := w.heap.size) (.inr (Nat.le_refl _)) (.int .i64 0) (.string ⟨#[]⟩) (.int .i64 0) (.slice none 0 0)).put2 (g := w.heap.size + 1) (.inr (by omega)) (.int .i64 0) (.int .i64 0)
  obtain ⟨g0, g1, g2, g3, _⟩ := Blk.four n3
  obtain ⟨f0, f1, _⟩ := Blk.two n4
  simp only [put2, put4] at g0 g1 g2 g3 f0 f1
  (try simp only [Exit.inBlock, Exit.then])
  refine bodyPost_ret (v := .tuple #[.agg zeroN, .bool false, failV 0 0]) (by simp [failV, results, Tryz.results111, go_sem, f0, f1, g0, g1, g2, g3]) rfl ?_
  exact HQ.out _ _ ⟨k, rfl, rfl, Nat.le_refl _, hps, hm5⟩
 | true =>
  have HK := hid (hlt hm)
  rw [hm] at HQ HA HNE
  rw [if_pos rfl] at HQ HNE
  clear hm hlt
  have e3 : ((k : Int) + 1) = ((k + 1 : Nat) : Int) := by simp
  have hk4 : k ≤ 100000 := by have := HK.out; omega
  have HE := hid e3
  clear e3
  unfold pp0 at HA
  go_enter Tryz.func111, Tryz.ntmps111
  unfold pp0
  go_wp2_with fail
  refine (HA.out _ (((Touch.refl _ _).alloc _).alloc _)).mono ?_
  rintro _ w1 ⟨rfl, hf⟩
  have HF := hid (show Fresh w w1 from Touch.pre (Touch.pre hf))
  have HBN := hid (hf.blk ((Blk.new w 26 zeroN).alloc (.cells #[.int .i64 0, .int .i64 0] 56)) (fun h => h))
  have HBF := hid (hf.blk (Blk.new2 w (.cells zeroN 26) 56 #[.int .i64 0, .int .i64 0]) (fun h => h))
  have HP1 := hid (H.out.fresh HF.out)
  obtain ⟨ov, hb, _⟩ := HP1.out.box
  have q1 := hb.cell 1
  have z1 := hb.frozen 1
  have hg1 := hb.lt
  clear hf hb
  go_wp2_with fail
  obtain ⟨n1, n2⟩ := HP1.out.next HK.out _ HE.out
  have HP2 := hid n1
  have HM2 := hid ((Mp.fresh HF.out).trans n2)
  have HBN2 := hid (HBN.out.far (p := ⟨c.g, 1, none⟩) (fun e => by have e' : w.heap.size = c.g := e; omega) (.int .i64 ((k : Int) + 1)))
  have HBF2 := hid (HBF.out.far (p := ⟨c.g, 1, none⟩) (fun e => by have e' : w.heap.size + 1 = c.g := e; omega) (.int .i64 ((k : Int) + 1)))
  have HL2 := hid (show w.heap.size + 1 < (w1.setCell ⟨c.g, 1, none⟩ (.int .i64 ((k : Int) + 1))).heap.size from HBF2.out.lt)
  generalize (w1.setCell ⟨c.g, 1, none⟩ (.int .i64 ((k : Int) + 1))) = w2 at HP2 HM2 HBN2 HBF2 HL2 ⊢
  clear n1 n2 q1 z1 hg1
  refine (HARG.out (k + 1) op _ HP2.out (by have := HOP.out; omega) (fun h => HNE.out (by rw [h]; rfl))).mono ?_
  intro e w3 hres
  generalize pArg c.en f op (c.T.drop (k + 1)) = r at HQ HNE hres
  cases r with
  | out => exact absurd rfl HNE.out
  | err i er =>
   obtain ⟨he0, n, A, cp, rfl, hm⟩ := hres
   have HE0 := hid he0
   have HM3 := hid (HM2.out.trans hm)
   have HBN3 := hid (hm.blk HBN2.out (by omega) (by decide))
   have HBF3 := hid (hm.blk HBF2.out (by omega) (by decide))
   obtain ⟨p0, p1, p2, p3, y0, y1, y2, y3, hlt0⟩ := Blk.four HBN3.out
   obtain ⟨q0, q1, z0, z1, hlt1⟩ := Blk.two HBF3.out
   clear hm he0
   unfold failV nodeV
   go_wp2_with fail
   have hne : w.heap.size ≠ w.heap.size + 1 := by omega
   have n1 := (HBN3.out.self4 (.int .i64 n.kind) (.string ⟨n.text.toArray⟩) (.int .i64 n.cols) (.slice A n.kids.length cp)).far2 hne (.int .i64 (i : Int)) (.int .i64 (er : Int))
   have n2 := (HBF3.out.far4 (Ne.symm hne) (.int .i64 n.kind) (.string ⟨n.text.toArray⟩) (.int .i64 n.cols) (.slice A n.kids.length cp)).self2 (.int .i64 (i : Int)) (.int .i64 (er : Int))
   have hm4 : Mp c.g c.W0.heap.size w (put2 (put4 w3 w.heap.size (.int .i64 n.kind) (.string ⟨n.text.toArray⟩) (.int .i64 n.cols) (.slice A n.kids.length cp)) (w.heap.size + 1) (.int .i64 (i : Int)) (.int .i64 (er : Int))) := (HM3.out.put4 (g := w.heap.size) (.inr (Nat.le_refl _)) (.int .i64 n.kind) (.string ⟨n.text.toArray⟩) (.int .i64 n.cols) (.slice A n.kids.length cp)).put2 (g := w.heap.size + 1) (.inr (by omega)) (.int .i64 (i : Int)) (.int .i64 (er : Int))
   have ht4 : Touch (fun k => k = w.heap.size ∨ k = w.heap.size + 1) w3 (put2 (put4 w3 w.heap.size (.int .i64 n.kind) (.string ⟨n.text.toArray⟩) (.int .i64 n.cols) (.slice A n.kids.length cp)) (w.heap.size + 1) (.int .i64 (i : Int)) (.int .i64 (er : Int))) := ((touch4 _ _ (.int .i64 n.kind) (.string ⟨n.text.toArray⟩) (.int .i64 n.cols) (.slice A n.kids.length cp)).mono fun _ h => .inl h).trans ((touch2 _ _ (.int .i64 (i : Int)) (.int .i64 (er : Int))).mono fun _ h => .inr h)
   simp only [put2, put4] at n1 n2 hm4 ht4
   generalize (World.setCell (World.setCell (World.setCell (World.setCell (World.setCell (World.setCell w3 ⟨w.heap.size, 0, none⟩ _) ⟨w.heap.size, 1, none⟩ _) ⟨w.heap.size, 2, none⟩ _) ⟨w.heap.size, 3, none⟩ _) ⟨w.heap.size + 1, 0, none⟩ _) ⟨w.heap.size + 1, 1, none⟩ _) = W4 at n1 n2 hm4 ht4 ⊢
   have HN1 := hid n1
   have HN2 := hid n2
   have HM4 := hid hm4
   have HT4 := hid ht4
   clear n1 n2 hm4 ht4 p0 p1 p2 p3 y0 y1 y2 y3 q0 q1 z0 z1
   refine wp_region_in (fun W => Blk W w.heap.size 26 (nodeC n A cp) ∧ Blk W (w.heap.size + 1) 56 #[.int .i64 (i : Int), .int .i64 (er : Int)] ∧ Touch (fun k => k = w.heap.size ∨ k = w.heap.size + 1) W4 W) [(0, true), (1, true), (2, false), (3, true), (4, false)] (by kernel_rfl) (fun _ _ d _ _ h => by cases d <;> exact h) (by kernel_rfl) ⟨HN1.out.drewN 1, HN2.out.drewN 1, (Touch.refl _ _).drewN 1⟩ ?_
   refine wpSeq_plain rfl (fun K hK => ?_)
   rw [if_pos (by rfl)]
   refine ⟨.agg (nodeC n A cp), fun W hW => ?_, hK _ ?_⟩
   ·obtain ⟨h1, _, _⟩ := hW
    obtain ⟨p0, p1, p2, p3, _⟩ := Blk.four h1
    go_simp
   clear hK K
   refine wpSeq_plain rfl (fun K hK => ?_)
   rw [if_pos (by rfl)]
   refine ⟨.agg #[.int .i64 (i : Int), .int .i64 (er : Int)], fun W hW => ?_, hK _ ?_⟩
   ·obtain ⟨_, h1, _⟩ := hW
    obtain ⟨p0, p1, _⟩ := Blk.two h1
    go_simp
   clear hK K
   obtain ⟨p0, p1, p2, p3, y0, y1, y2, y3, hlt0⟩ := Blk.four (HN1.out.drewN 1)
   obtain ⟨q0, q1, z0, z1, hlt1⟩ := Blk.two (HN2.out.drewN 1)
   refine wpSeq_lone rfl (fun K hK => ?_)
   go_wp2_with fail
   have hx := HM4.out.size
   have m1 := (HN1.out.drewN 1).self4 (.int .i64 n.kind) (.string ⟨n.text.toArray⟩) (.int .i64 n.cols) (.slice A n.kids.length cp)
   have m2 := (HN2.out.drewN 1).far4 (Ne.symm hne) (.int .i64 n.kind) (.string ⟨n.text.toArray⟩) (.int .i64 n.cols) (.slice A n.kids.length cp)
   have mt : Touch (fun k => k = w.heap.size ∨ k = w.heap.size + 1) W4 (put4 (W4.drewN 1) w.heap.size (.int .i64 n.kind) (.string ⟨n.text.toArray⟩) (.int .i64 n.cols) (.slice A n.kids.length cp)) := ((Touch.refl _ _).drewN 1).trans ((touch4 _ _ (.int .i64 n.kind) (.string ⟨n.text.toArray⟩) (.int .i64 n.cols) (.slice A n.kids.length cp)).mono fun _ h => .inl h)
   have mm : Mp c.g c.W0.heap.size w (put4 (W4.drewN 1) w.heap.size (.int .i64 n.kind) (.string ⟨n.text.toArray⟩) (.int .i64 n.cols) (.slice A n.kids.length cp)) := (HM4.out.drewN 1).put4 (g := w.heap.size) (.inr (Nat.le_refl _)) (.int .i64 n.kind) (.string ⟨n.text.toArray⟩) (.int .i64 n.cols) (.slice A n.kids.length cp)
   simp only [put4] at m1 m2 mt mm
   generalize (World.setCell (World.setCell (World.setCell (World.setCell (W4.drewN 1) ⟨w.heap.size, 0, none⟩ _) ⟨w.heap.size, 1, none⟩ _) ⟨w.heap.size, 2, none⟩ _) ⟨w.heap.size, 3, none⟩ _) = W5 at m1 m2 mt mm ⊢
   refine hK _ _ ⟨m1, m2, mt⟩ ?_
   have HN5 := hid m1
   have HF5 := hid m2
   have HT5 := hid mt
   have HM5 := hid mm
   clear hK K p0 p1 p2 p3 y0 y1 y2 y3 q0 q1 z0 z1 m1 m2 mt mm
   refine wpSeq_plain rfl (fun K hK => ?_)
   rw [if_pos (by rfl)]
   refine ⟨.bool true, fun W hW => ?_, hK _ ?_⟩
   ·go_simp
   clear hK K
   obtain ⟨q0, q1, z0, z1, hlt1⟩ := Blk.two HF5.out
   refine wpSeq_lone rfl (fun K hK => ?_)
   go_wp2_with fail
   have m1 := HN5.out.far2 hne (.int .i64 (i : Int)) (.int .i64 (er : Int))
   have m2 := HF5.out.self2 (.int .i64 (i : Int)) (.int .i64 (er : Int))
   have mt : Touch (fun k => k = w.heap.size ∨ k = w.heap.size + 1) W4 (put2 W5 (w.heap.size + 1) (.int .i64 (i : Int)) (.int .i64 (er : Int))) := HT5.out.trans ((touch2 _ _ (.int .i64 (i : Int)) (.int .i64 (er : Int))).mono fun _ h => .inr h)
   have mm : Mp c.g c.W0.heap.size w (put2 W5 (w.heap.size + 1) (.int .i64 (i : Int)) (.int .i64 (er : Int))) := HM5.out.put2 (g := w.heap.size + 1) (.inr (by omega)) (.int .i64 (i : Int)) (.int .i64 (er : Int))
   simp only [put2] at m1 m2 mt mm
   generalize (World.setCell (World.setCell W5 ⟨w.heap.size + 1, 0, none⟩ _) ⟨w.heap.size + 1, 1, none⟩ _) = W6 at m1 m2 mt mm ⊢
   refine hK _ _ ⟨m1, m2, mt⟩ ?_
   clear hK K q0 q1 z0 z1
   refine wpSeq_end ?_
   go_wp2_with fail
   obtain ⟨g0, g1, g2, g3, _⟩ := Blk.four m1
   obtain ⟨f0, f1, _⟩ := Blk.two m2
   (try simp only [Exit.inBlock, Exit.then])
   refine bodyPost_ret (v := .tuple #[nodeV n A cp, .bool true, failV i er]) (by simp [failV, nodeV, results, Tryz.results111, go_sem, f0, f1, g0, g1, g2, g3]) rfl ?_
   exact HQ.out _ _ ⟨HE0.out, n, A, cp, rfl, mm⟩
  | ok a rest =>
   obtain ⟨A, cp, k', rfl, htr, htx, hdr, hkk, hp, hm⟩ := hres
   have HTR := hid htr
   have HTX := hid htx
   have HDR := hid hdr
   have HKK := hid hkk
   have HP3 := hid hp
   have HM3 := hid (HM2.out.trans hm)
   have HBN3 := hid (hm.blk HBN2.out (by omega) (by decide))
   have HBF3 := hid (hm.blk HBF2.out (by omega) (by decide))
   obtain ⟨p0, p1, p2, p3, y0, y1, y2, y3, hlt0⟩ := Blk.four HBN3.out
   obtain ⟨q0, q1, z0, z1, hlt1⟩ := Blk.two HBF3.out
   clear hm htr htx hdr hkk hp
   unfold failV nodeV
   go_wp2_with fail
   have hne : w.heap.size ≠ w.heap.size + 1 := by omega
   have n1 := (HBN3.out.self4 (.int .i64 a.kind) (.string ⟨a.text.toArray⟩) (.int .i64 a.cols) (.slice A a.kids.length cp)).far2 hne (.int .i64 0) (.int .i64 0)
   have n2 := (HBF3.out.far4 (Ne.symm hne) (.int .i64 a.kind) (.string ⟨a.text.toArray⟩) (.int .i64 a.cols) (.slice A a.kids.length cp)).self2 (.int .i64 0) (.int .i64 0)
   have hm4 : Mp c.g c.W0.heap.size w (put2 (put4 w3 w.heap.size (.int .i64 a.kind) (.string ⟨a.text.toArray⟩) (.int .i64 a.cols) (.slice A a.kids.length cp)) (w.heap.size + 1) (.int .i64 0) (.int .i64 0)) := (HM3.out.put4 (g := w.heap.size) (.inr (Nat.le_refl _)) (.int .i64 a.kind) (.string ⟨a.text.toArray⟩) (.int .i64 a.cols) (.slice A a.kids.length cp)).put2 (g := w.heap.size + 1) (.inr (by omega)) (.int .i64 0) (.int .i64 0)
   have ht4 : Touch (fun k => k = w.heap.size ∨ k = w.heap.size + 1) w3 (put2 (put4 w3 w.heap.size (.int .i64 a.kind) (.string ⟨a.text.toArray⟩) (.int .i64 a.cols) (.slice A a.kids.length cp)) (w.heap.size + 1) (.int .i64 0) (.int .i64 0)) := ((touch4 _ _ (.int .i64 a.kind) (.string ⟨a.text.toArray⟩) (.int .i64 a.cols) (.slice A a.kids.length cp)).mono fun _ h => .inl h).trans ((touch2 _ _ (.int .i64 0) (.int .i64 0)).mono fun _ h => .inr h)
   simp only [put2, put4] at n1 n2 hm4 ht4
   generalize (World.setCell (World.setCell (World.setCell (World.setCell (World.setCell (World.setCell w3 ⟨w.heap.size, 0, none⟩ _) ⟨w.heap.size, 1, none⟩ _) ⟨w.heap.size, 2, none⟩ _) ⟨w.heap.size, 3, none⟩ _) ⟨w.heap.size + 1, 0, none⟩ _) ⟨w.heap.size + 1, 1, none⟩ _) = W4 at n1 n2 hm4 ht4 ⊢
   have HN1 := hid n1
   have HN2 := hid n2
   have HM4 := hid hm4
   have HT4 := hid ht4
   clear n1 n2 hm4 ht4 p0 p1 p2 p3 y0 y1 y2 y3 q0 q1 z0 z1
   refine wp_region_in (fun W => Blk W w.heap.size 26 (nodeC a A cp) ∧ Blk W (w.heap.size + 1) 56 #[.int .i64 0, .int .i64 0] ∧ Touch (fun k => k = w.heap.size ∨ k = w.heap.size + 1) W4 W) [(0, true), (1, true), (2, false), (3, true), (4, false)] (by kernel_rfl) (fun _ _ d _ _ h => by cases d <;> exact h) (by kernel_rfl) ⟨HN1.out.drewN 1, HN2.out.drewN 1, (Touch.refl _ _).drewN 1⟩ ?_
   refine wpSeq_plain rfl (fun K hK => ?_)
   rw [if_pos (by rfl)]
   refine ⟨.agg (nodeC a A cp), fun W hW => ?_, hK _ ?_⟩
   ·obtain ⟨h1, _, _⟩ := hW
    obtain ⟨p0, p1, p2, p3, _⟩ := Blk.four h1
    go_simp
   clear hK K
   refine wpSeq_plain rfl (fun K hK => ?_)
   rw [if_pos (by rfl)]
   refine ⟨.agg #[.int .i64 0, .int .i64 0], fun W hW => ?_, hK _ ?_⟩
   ·obtain ⟨_, h1, _⟩ := hW
    obtain ⟨p0, p1, _⟩ := Blk.two h1
    go_simp
   clear hK K
   obtain ⟨p0, p1, p2, p3, y0, y1, y2, y3, hlt0⟩ := Blk.four (HN1.out.drewN 1)
   obtain ⟨q0, q1, z0, z1, hlt1⟩ := Blk.two (HN2.out.drewN 1)
   refine wpSeq_lone rfl (fun K hK => ?_)
   go_wp2_with fail
   have hx := HM4.out.size
   have m1 := (HN1.out.drewN 1).self4 (.int .i64 a.kind) (.string ⟨a.text.toArray⟩) (.int .i64 a.cols) (.slice A a.kids.length cp)
   have m2 := (HN2.out.drewN 1).far4 (Ne.symm hne) (.int .i64 a.kind) (.string ⟨a.text.toArray⟩) (.int .i64 a.cols) (.slice A a.kids.length cp)
   have mt : Touch (fun k => k = w.heap.size ∨ k = w.heap.size + 1) W4 (put4 (W4.drewN 1) w.heap.size (.int .i64 a.kind) (.string ⟨a.text.toArray⟩) (.int .i64 a.cols) (.slice A a.kids.length cp)) := ((Touch.refl _ _).drewN 1).trans ((touch4 _ _ (.int .i64 a.kind) (.string ⟨a.text.toArray⟩) (.int .i64 a.cols) (.slice A a.kids.length cp)).mono fun _ h => .inl h)
   have mm : Mp c.g c.W0.heap.size w (put4 (W4.drewN 1) w.heap.size (.int .i64 a.kind) (.string ⟨a.text.toArray⟩) (.int .i64 a.cols) (.slice A a.kids.length cp)) := (HM4.out.drewN 1).put4 (g := w.heap.size) (.inr (Nat.le_refl _)) (.int .i64 a.kind) (.string ⟨a.text.toArray⟩) (.int .i64 a.cols) (.slice A a.kids.length cp)
   simp only [put4] at m1 m2 mt mm
   generalize (World.setCell (World.setCell (World.setCell (World.setCell (W4.drewN 1) ⟨w.heap.size, 0, none⟩ _) ⟨w.heap.size, 1, none⟩ _) ⟨w.heap.size, 2, none⟩ _) ⟨w.heap.size, 3, none⟩ _) = W5 at m1 m2 mt mm ⊢
   refine hK _ _ ⟨m1, m2, mt⟩ ?_
   have HN5 := hid m1
   have HF5 := hid m2
   have HT5 := hid mt
   have HM5 := hid mm
   clear hK K p0 p1 p2 p3 y0 y1 y2 y3 q0 q1 z0 z1 m1 m2 mt mm
   refine wpSeq_plain rfl (fun K hK => ?_)
   rw [if_pos (by rfl)]
   refine ⟨.bool true, fun W hW => ?_, hK _ ?_⟩
   ·go_simp
   clear hK K
   obtain ⟨q0, q1, z0, z1, hlt1⟩ := Blk.two HF5.out
   refine wpSeq_lone rfl (fun K hK => ?_)
   go_wp2_with fail
   have m1 := HN5.out.far2 hne (.int .i64 0) (.int .i64 0)
   have m2 := HF5.out.self2 (.int .i64 0) (.int .i64 0)
   have mt : Touch (fun k => k = w.heap.size ∨ k = w.heap.size + 1) W4 (put2 W5 (w.heap.size + 1) (.int .i64 0) (.int .i64 0)) := HT5.out.trans ((touch2 _ _ (.int .i64 0) (.int .i64 0)).mono fun _ h => .inr h)
   have mm : Mp c.g c.W0.heap.size w (put2 W5 (w.heap.size + 1) (.int .i64 0) (.int .i64 0)) := HM5.out.put2 (g := w.heap.size + 1) (.inr (by omega)) (.int .i64 0) (.int .i64 0)
   simp only [put2] at m1 m2 mt mm
   generalize (World.setCell (World.setCell W5 ⟨w.heap.size + 1, 0, none⟩ _) ⟨w.heap.size + 1, 1, none⟩ _) = W6 at m1 m2 mt mm ⊢
   refine hK _ _ ⟨m1, m2, mt⟩ ?_
   clear hK K q0 q1 z0 z1
   refine wpSeq_end ?_
   go_wp2_with fail
   obtain ⟨g0, g1, g2, g3, _⟩ := Blk.four m1
   obtain ⟨f0, f1, _⟩ := Blk.two m2
   (try simp only [Exit.inBlock, Exit.then])
   refine bodyPost_ret (v := .tuple #[nodeV a A cp, .bool true, failV 0 0]) (by simp [failV, nodeV, results, Tryz.results111, go_sem, f0, f1, g0, g1, g2, g3]) rfl ?_
   have ht6 := HT4.out.trans mt
   have hps := HP3.out.mv ht6 (fun b hb => by
    rcases hb with rfl | rfl
    ·exact ⟨by omega, HW0.out, _, _, (by decide), HBN3.out⟩
    ·exact ⟨by omega, by have := HW0.out; omega, _, _, (by decide), HBF3.out⟩)
   have htr := HTR.out.mv ht6 (fun b _ _ hb hB => by have := HL2.out; rcases hb with rfl | rfl <;> omega)
   exact HQ.out _ _ ⟨A, cp, k', rfl, htr.base HM2.out.size, HTX.out, HDR.out, by have := HKK.out; omega, hps, mm⟩
end Go.Proofs.YtncnoeoicaglaaaGreat
