/- Part 32 of 48 of a proof; its texts, joined: NqH. No condition. -/
import Derived.Test.YtncnoeoicaglaaaGreatVc31

/- The parser's with: arguments of an item. -/
namespace Go.Proofs.YtncnoeoicaglaaaGreat
open Go.RowKit
open Tr (Nd)
open Lx (PTok)
open Np (R pRow pIn pScript pItem pPrim pArgs pName pCells pArg)
attribute [local go_sem] stillV stillUpon
def WithN (c : Cf) (f n : Nat) : Prop := ∀ (k : Nat) (op : List Nat) (kd : Int) (tx : List UInt8) (ks0 : List Nd) (A0 : Option Addr) (B0 : Nat) (w : World), Ps c k op w → op.length ≤ k → tx.length ≤ maxLen → ks0.length ≤ 10 → B0 ≤ w.heap.size → TreT B0 w ks0 (.slice A0 ks0.length ks0.length) → pArgs c.en f n op (c.T.drop k) ≠ .out →
 Calls Tryz.prog 106 #[pp0 c, .agg #[.int .i64 kd, .string ⟨tx.toArray⟩, .int .i64 0, .slice A0 ks0.length ks0.length], .int .i64 (n : Int)] w fun e w' =>
  match pArgs c.en f n op (c.T.drop k) with
  | .ok ks rest => ∃ b k', e = .returned (.tuple #[.slice (some ⟨b, 0, none⟩) 1 1, failV 0 0]) ∧ TreT B0 w' [.mk kd tx 0 (ks0 ++ ks)] (.slice (some ⟨b, 0, none⟩) 1 1) ∧ c.T.drop k' = rest ∧ k ≤ k' ∧ Ps c k' op w' ∧ Mp c.g c.W0.heap.size w w'
  | .err i er => er ≠ 0 ∧ ∃ A n cp, e = .returned (.tuple #[.slice A n cp, failV i er]) ∧ Mp c.g c.W0.heap.size w w'
  | .out => True
theorem infoNodeN : (Tryz.prog.info? 26).map (fun i => (i.zero, i.size, i.bytes)) = some (some (.agg #[.int .i64 0, .string ⟨#[]⟩, .int .i64 0, .slice none 0 0]), 4, 56) := by kernel_rfl
set_option maxRecDepth 100000 in
set_option maxHeartbeats 400000 in
theorem with_n (c : Cf) (hc : c.Good) (F n : Nat) (hn : n ≤ 2) (harg : ∀ f', f' < F → ArgumentN c f') : WithN c F n := by
 intro k op kd tx ks0 A0 B0 w h hop htx hk0 hB0 htr hne
 obtain ⟨i, hi, hz0, hz1, hz2⟩ := info_parts infoNodeN
 have HARG := hid harg
 have htl := hc.tl
 have H := hid h
 have HOP := hid hop
 have HTX := hid htx
 have HTR := hid htr
 have HB0 := hid hB0
 have hgl : c.g < w.heap.size := h.glt
 have HW0 := hid h.low.size
 have HNE := hid hne
 refine Calls.via fun Q hQ => ?_
 have HQ := hid hQ
 clear hne harg h hop hc hQ htx htr hB0
 generalize hX : pArgs c.en F n op (c.T.drop k) = X at HNE HQ
 have HX := hid hX
 clear hX
 go_enter Tryz.func106, Tryz.ntmps106
 go_wp2_with fail
 have hf1 : Fresh w ((w.alloc (.cells #[.int .i64 kd, .string ⟨tx.toArray⟩, .int .i64 0, .slice A0 ks0.length ks0.length] 26)).alloc (.cells #[.int .i64 0, .int .i64 0] 56)) := ((Touch.refl _ _).alloc _).alloc _
 have hbn : Blk ((w.alloc (.cells #[.int .i64 kd, .string ⟨tx.toArray⟩, .int .i64 0, .slice A0 ks0.length ks0.length] 26)).alloc (.cells #[.int .i64 0, .int .i64 0] 56)) w.heap.size 26 #[.int .i64 kd, .string ⟨tx.toArray⟩, .int .i64 0, .slice A0 ks0.length ks0.length] := (Blk.new _ _ _).alloc _
 have hbf : Blk ((w.alloc (.cells #[.int .i64 kd, .string ⟨tx.toArray⟩, .int .i64 0, .slice A0 ks0.length ks0.length] 26)).alloc (.cells #[.int .i64 0, .int .i64 0] 56)) (w.heap.size + 1) 56 #[.int .i64 0, .int .i64 0] := Blk.new2 _ _ _ _
 have hsw1 : ((w.alloc (.cells #[.int .i64 kd, .string ⟨tx.toArray⟩, .int .i64 0, .slice A0 ks0.length ks0.length] 26)).alloc (.cells #[.int .i64 0, .int .i64 0] 56)).heap.size = w.heap.size + 2 := by simp
 generalize ((w.alloc (.cells #[.int .i64 kd, .string ⟨tx.toArray⟩, .int .i64 0, .slice A0 ks0.length ks0.length] 26)).alloc (.cells #[.int .i64 0, .int .i64 0] 56)) = W1 at hf1 hbn hbf hsw1 ⊢
 have HF1 := hid hf1
 have HSZ1 := hid hsw1
 have HBN1 := hid hbn
 have HBF1 := hid hbf
 clear hf1 hbn hbf hsw1
 go_loopw [11] (fun j wr => ∃ (m k1 : Nat) (ks : List Nd) (A : Option Addr) (cp : Nat), j = .int .i64 m ∧ m ≤ n ∧ ks.length = m ∧ Hid (Blk wr w.heap.size 26 #[.int .i64 kd, .string ⟨tx.toArray⟩, .int .i64 0, .slice A (ks0 ++ ks).length cp]) ∧ Hid (Blk wr (w.heap.size + 1) 56 #[.int .i64 0, .int .i64 0]) ∧ Hid ((m = 0 ∧ cp = (ks0 ++ ks).length ∧ Full (fun k => k = w.heap.size ∨ k = w.heap.size + 1) wr B0 (ks0 ++ ks) (.slice A (ks0 ++ ks).length cp)) ∨ Grow (fun k => k = w.heap.size ∨ k = w.heap.size + 1) wr B0 W1.heap.size (ks0 ++ ks) (.slice A (ks0 ++ ks).length cp)) ∧ Hid (Ps c k1 op wr) ∧ k ≤ k1 ∧ Hid (Mp c.g c.W0.heap.size w wr) ∧ W1.heap.size ≤ wr.heap.size ∧ Hid (X = (pArgs c.en (F - m) (n - m) op (c.T.drop k1)).map fun l => ks ++ l)) (fun j _ => n - (intOf j).toNat)
 case atStart =>
  refine ⟨0, k, [], A0, ks0.length, rfl, Nat.zero_le _, rfl, by rw [List.append_nil]; exact HBN1, HBF1, .inl ⟨rfl, by rw [List.append_nil], by rw [List.append_nil]; exact HTR.out.full HF1.out (fun k hk => by rcases hk with rfl | rfl <;> omega)⟩, H.out.fresh HF1.out, Nat.le_refl _, Mp.fresh HF1.out, Nat.le_refl _, ?_⟩
  unfold Hid
  rw [← HX.out, Nat.sub_zero, Nat.sub_zero]
  cases pArgs c.en F n op (c.T.drop k) <;> rfl
 case round =>
  obtain ⟨m, k1, ks, A, cp, rfl, hm, hks, HBN, HBF, HG, HP, hkk, HM, hsz, HXX⟩ := hrel
  have HKS := hid hks
  clear hks
  by_cases c1 : m < n
  ·have d1 : decide ((m : Int) < (n : Int)) = true := by simp; omega
   have d1n : decide (m < n) = true := by simp; omega
   have d1' : (m : Int) < (n : Int) := by omega
   obtain ⟨f', hf'⟩ : ∃ f', F - m = f' + 1 := by
    rcases Nat.eq_zero_or_pos (F - m) with h0 | h0
    ·exfalso
     have h1 := HXX.out
     rw [h0] at h1
     exact HNE.out (by rw [h1]; cases n - m <;> rfl)
    ·exact ⟨F - m - 1, by omega⟩
   obtain ⟨n', hn'⟩ : ∃ n', n - m = n' + 1 := ⟨n - m - 1, by omega⟩
   have HXS := hid (show X = ((pArg c.en f' op (c.T.drop k1)).bind fun a r => (pArgs c.en f' n' op r).map fun l => a :: l).map fun l => ks ++ l from by rw [HXX.out, hf', hn', pArgs])
   have HFF := hid (show f' < F ∧ f' = F - (m + 1) ∧ n' = n - (m + 1) from by omega)
   obtain ⟨p0, p1, p2, p3, y0, y1, y2, y3, hlt0⟩ := Blk.four HBN.out
   obtain ⟨q0, q1, z0, z1, hlt1⟩ := Blk.two HBF.out
   clear hf' hn' HXX
   go_wp2_with fail
   refine (HARG.out f' HFF.out.1 k1 op _ HP.out (by have := HOP.out; omega) (fun h => HNE.out (by rw [HXS.out, h]; rfl))).mono ?_
   intro e w2 hres
   generalize pArg c.en f' op (c.T.drop k1) = r at HXS hres
   cases r with
   | out => exact absurd (by rw [HXS.out]; rfl) HNE.out
   | err ei er =>
    obtain ⟨he0, nn, An, cn, rfl, hmv⟩ := hres
    have HE0 := hid he0
    have e0 := fail_ne he0
    have HM2 := hid (HM.out.trans hmv)
    have hbr2 := hmv.blk HBF.out (by omega) (by decide)
    have HBF2 := hid hbr2
    have HXE := hid (show X = .err ei er from HXS.out)
    have hsz2 := hmv.size
    clear hmv he0 hbr2 p0 p1 p2 p3 y0 y1 y2 y3 q0 q1 z0 z1
    unfold failV nodeV
    go_wp2_with fail
    have hbe : Blk ((w2.alloc (.cells #[.int .i64 nn.kind, .string ⟨nn.text.toArray⟩, .int .i64 nn.cols, .slice An nn.kids.length cn] 26)).alloc (.cells #[.int .i64 (ei : Int), .int .i64 (er : Int)] 56)) (w2.heap.size + 1) 56 #[.int .i64 (ei : Int), .int .i64 (er : Int)] := Blk.new2 _ _ _ _
    have hbr : Blk ((w2.alloc (.cells #[.int .i64 nn.kind, .string ⟨nn.text.toArray⟩, .int .i64 nn.cols, .slice An nn.kids.length cn] 26)).alloc (.cells #[.int .i64 (ei : Int), .int .i64 (er : Int)] 56)) (w.heap.size + 1) 56 #[.int .i64 0, .int .i64 0] := (HBF2.out.alloc _).alloc _
    have hmr : Mp c.g c.W0.heap.size w ((w2.alloc (.cells #[.int .i64 nn.kind, .string ⟨nn.text.toArray⟩, .int .i64 nn.cols, .slice An nn.kids.length cn] 26)).alloc (.cells #[.int .i64 (ei : Int), .int .i64 (er : Int)] 56)) := (HM2.out.alloc _).alloc _
    generalize ((w2.alloc (.cells #[.int .i64 nn.kind, .string ⟨nn.text.toArray⟩, .int .i64 nn.cols, .slice An nn.kids.length cn] 26)).alloc (.cells #[.int .i64 (ei : Int), .int .i64 (er : Int)] 56)) = W3 at hbe hbr hmr ⊢
    have r0 := cell_regrown (hbe.cell 0 |>.trans rfl)
    have r1 := cell_regrown (hbe.cell 1 |>.trans rfl)
    have hlt3 := hbe.lt
    have HBR := hid hbr
    have HMR := hid hmr
    clear hbe hbr hmr
    refine wp_region_mix [([(0, true), (1, true)], 2)] [] (by kernel_rfl) (fun _ _ d _ _ h => by cases d <;> exact h) (by kernel_rfl) ?_
    refine wpMix_seg ?_
    repeat (refine wpSeq_plain rfl (fun K hK => ?_); go_simp; refine hK _ ?_; clear hK K)
    obtain ⟨p0, p1, y0, y1, hlt⟩ := Blk.two (HBR.out.drewN 1)
    refine wpSeq_shut rfl (fun K hK => ?_)
    go_wp2_with fail
    refine wpMix_end ?_
    go_wp2_with fail
    have hb5 : Blk _ (w.heap.size + 1) 56 #[.int .i64 (ei : Int), .int .i64 (er : Int)] := ((HBR.out.drewN 1).put 0 (.int .i64 (ei : Int))).put 1 (.int .i64 (er : Int))
    have hm5 := ((HMR.out.drewN 1).setCell (p := ⟨w.heap.size + 1, 0, none⟩) (.inr (by show w.heap.size ≤ w.heap.size + 1; omega)) (.int .i64 (ei : Int))).setCell (p := ⟨w.heap.size + 1, 1, none⟩) (.inr (by show w.heap.size ≤ w.heap.size + 1; omega)) (.int .i64 (er : Int))
    obtain ⟨f0, f1, _⟩ := Blk.two hb5
    (try simp only [Exit.inBlock, Exit.then])
    refine bodyPost_ret (v := .tuple #[.slice none 0 0, failV ei er]) (by simp [failV, results, Tryz.results106, go_sem, f0, f1]) rfl ?_
    rw [HXE.out] at HQ
    exact HQ.out _ _ ⟨HE0.out, none, 0, 0, rfl, hm5⟩
   | ok a rest =>
    obtain ⟨A1, cp1, k', rfl, htr, htx, hdr, hkk2, hp, hm⟩ := hres
    have HTR := hid htr
    have HTX := hid htx
    have HDR := hid hdr
    have HP3 := hid hp
    have HM2 := hid (HM.out.trans hm)
    have HBN2 := hid (hm.blk HBN.out (by omega) (by decide))
    have HBF2 := hid (hm.blk HBF.out (by omega) (by decide))
    have hsz2 := hm.size
    have HTx := hid (show a.text.length ≤ maxLen from htx)
    have HMM := hid hm
    obtain ⟨p0, p1, p2, p3, y0, y1, y2, y3, hlt0⟩ := Blk.four HBN2.out
    clear htr htx hdr hp hm q0 q1 z0 z1
    unfold failV nodeV
    have HBB := hid (show B0 ≤ w.heap.size ∧ W1.heap.size ≤ wr.heap.size ∧ W1.heap.size = w.heap.size + 2 from by have := HB0.out; have := HSZ1.out; omega)
    rcases HG.out with ⟨rfl, rfl, hg⟩ | hg
    ·have HG2 := hid (show Full (fun k => k = w.heap.size ∨ k = w.heap.size + 1) w2 B0 ks0 (.slice A ks0.length ks0.length) from by
      have h0 : ks = [] := List.length_eq_zero_iff.1 HKS.out; subst h0; rw [List.append_nil] at hg; exact hg.mv HMM.out (fun k hk => .inr (.inr (.inr (PT.nty HP.out hk)))))
     have h0 : ks = [] := List.length_eq_zero_iff.1 HKS.out; subst h0; clear hg
     have HLN := hid (show ks0.length ≤ 10 from hk0)
     have FR := hid (show Fresh w2 (((w2.alloc (.cells #[.int .i64 a.kind, .string ⟨a.text.toArray⟩, .int .i64 a.cols, .slice A1 a.kids.length cp1] 26)).alloc (.cells #[.int .i64 0, .int .i64 0] 56)).alloc (.cells #[.int .i64 a.kind, .string ⟨a.text.toArray⟩, .int .i64 a.cols, .slice A1 a.kids.length cp1] 26)) from (((Touch.refl _ _).alloc _).alloc _).alloc _)
     have BL := hid (show Blk (((w2.alloc (.cells #[.int .i64 a.kind, .string ⟨a.text.toArray⟩, .int .i64 a.cols, .slice A1 a.kids.length cp1] 26)).alloc (.cells #[.int .i64 0, .int .i64 0] 56)).alloc (.cells #[.int .i64 a.kind, .string ⟨a.text.toArray⟩, .int .i64 a.cols, .slice A1 a.kids.length cp1] 26)) (w2.heap.size + 1 + 1) 26 #[.int .i64 a.kind, .string ⟨a.text.toArray⟩, .int .i64 a.cols, .slice A1 a.kids.length cp1] from by have := Blk.new ((w2.alloc (.cells #[.int .i64 a.kind, .string ⟨a.text.toArray⟩, .int .i64 a.cols, .slice A1 a.kids.length cp1] 26)).alloc (.cells #[.int .i64 0, .int .i64 0] 56)) 26 #[.int .i64 a.kind, .string ⟨a.text.toArray⟩, .int .i64 a.cols, .slice A1 a.kids.length cp1]; simpa using this)
     go_wp2_with (at_builtin; refine wpList_append_first rfl (.tmp 23) (.tmp 25) rfl i _ hi hz0 hz1 hz2 rfl (B0 := B0) (B := W1.heap.size) (B1 := wr.heap.size) (ks := ks0) (A0 := A) (HG2.out.fresh FR.out) (by simp [Act.eval]) a (.slice A1 a.kids.length cp1) ⟨w2.heap.size + 1 + 1, 0, none⟩ (by simp [Act.eval]) (fun j u hu => (Src.of_blk (size := 4) (m := 1) (c := 1) BL.out rfl).cells1 j u hu) (HTR.out.fresh FR.out) (by have := HBB.out; omega) (fun k hk => by have := HBB.out; rcases hk with rfl | rfl <;> omega) HTX.out (by have := HLN.out; omega) (by have := HBB.out; have := FR.out.size; omega) ?_; intro A8 cp8 W8 hg8 ht8; refine Stay.mk ?_)
     have HG8 := hid hg8
     have HB8 := hid (ht8.blk1 (FR.out.blk HBN2.out fun h => h) (by have := HBB.out; omega))
     have HF8 := hid (ht8.blk1 (FR.out.blk HBF2.out fun h => h) (by have := HBB.out; omega))
     have HP8 := hid (ht8.ps (HP3.out.fresh FR.out) (by have := HBB.out; have := HW0.out; omega) (by have := HBB.out; omega))
     have HM8 := hid (ht8.mp (HM2.out.trans (Mp.fresh FR.out)) (by have := HBB.out; omega))
     have HSZ8 := hid (show wr.heap.size ≤ W8.heap.size from by have := ht8.size; have := FR.out.size; omega)
     clear hg8 ht8 p0 p1 p2 p3 y0 y1 y2 y3 hlt0
     obtain ⟨p0, p1, p2, p3, y0, y1, y2, y3, hlt0⟩ := Blk.four HB8.out
     refine Stay.go ?_
     go_wp2_with fail
     have hb9 := HB8.out.put 3 (.slice A8 (ks0.length + 1) cp8)
     have hf9 := HF8.out.far (p := ⟨w.heap.size, 3, none⟩) (by simp) (.slice A8 (ks0.length + 1) cp8)
     have ht9 := (Touch.refl (fun b => b = w.heap.size) W8).setCell (p := ⟨w.heap.size, 3, none⟩) (.inl rfl) (.slice A8 (ks0.length + 1) cp8)
     have hm9 := HM8.out.setCell (p := ⟨w.heap.size, 3, none⟩) (.inr (Nat.le_refl _)) (.slice A8 (ks0.length + 1) cp8)
     generalize (World.setCell W8 ⟨w.heap.size, 3, none⟩ (.slice A8 (ks0.length + 1) cp8)) = W9 at hb9 hf9 ht9 hm9 ⊢
     have hlen : (ks0 ++ ([] ++ [a])).length = ks0.length + 1 := by simp
     have happ : ks0 ++ ([] ++ [a]) = ks0 ++ [a] := by simp
     have hgr9 : Grow (fun k => k = w.heap.size ∨ k = w.heap.size + 1) W9 B0 W1.heap.size (ks0 ++ ([] ++ [a])) (.slice A8 (ks0.length + 1) cp8) := by
      rw [happ]
      have := HG8.out.mv ht9 (by have := HBB.out; omega) (fun k hk => by have := HBB.out; rcases hk with rfl | rfl <;> omega) (fun k hk => .inl (.inl hk))
      exact this
     have hps9 := HP8.out.mv ht9 (fun b hb => by have := HW0.out; subst hb; exact ⟨by omega, HW0.out, _, _, (by decide), HB8.out⟩)
     refine ⟨⟨0 + 1, k', [] ++ [a], A8, cp8, by simp, by omega, by have := HKS.out; rfl, by rw [hlen]; exact hb9, hf9, .inr (by rw [hlen]; exact hgr9), hps9, by have := hkk2; omega, hm9, by have := ht9.size; have := HSZ8.out; have := HBB.out; omega, ?_⟩, by simp [intOf]; omega⟩
     unfold Hid
     rw [HXS.out, HDR.out, ← HFF.out.2.1, ← HFF.out.2.2]
     show ((pArgs c.en f' n' op rest).map fun l => a :: l).map (fun l => [] ++ l) = _
     cases pArgs c.en f' n' op rest <;> simp [Np.R.map, Np.R.bind]
    ·have HG2 := hid (show Grow (fun k => k = w.heap.size ∨ k = w.heap.size + 1) w2 B0 W1.heap.size (ks0 ++ ks) (.slice A (ks0 ++ ks).length cp) from by
      exact hg.mv HMM.out (by have := HBB.out; omega) (fun k hk => by have := HBB.out; rcases hk with rfl | rfl <;> omega) (fun k hk => .inr (.inr (PT.nty HP.out hk))))
     have HOB := hid (show ∀ k, (Value.slice A (ks0 ++ ks).length cp).ownBlock = some k → k < wr.heap.size from fun k hk => by obtain ⟨cs, h1, _⟩ := hg; obtain ⟨_, cur, h4⟩ := owns_type h1 hk; exact (Array.getElem?_eq_some_iff.1 h4).1)
     clear hg
     have HLN := hid (show ks0.length ≤ 10 ∧ ks.length ≤ 10 from ⟨hk0, by have := HKS.out; omega⟩)
     have FR := hid (show Fresh w2 (((w2.alloc (.cells #[.int .i64 a.kind, .string ⟨a.text.toArray⟩, .int .i64 a.cols, .slice A1 a.kids.length cp1] 26)).alloc (.cells #[.int .i64 0, .int .i64 0] 56)).alloc (.cells #[.int .i64 a.kind, .string ⟨a.text.toArray⟩, .int .i64 a.cols, .slice A1 a.kids.length cp1] 26)) from (((Touch.refl _ _).alloc _).alloc _).alloc _)
     have BL := hid (show Blk (((w2.alloc (.cells #[.int .i64 a.kind, .string ⟨a.text.toArray⟩, .int .i64 a.cols, .slice A1 a.kids.length cp1] 26)).alloc (.cells #[.int .i64 0, .int .i64 0] 56)).alloc (.cells #[.int .i64 a.kind, .string ⟨a.text.toArray⟩, .int .i64 a.cols, .slice A1 a.kids.length cp1] 26)) (w2.heap.size + 1 + 1) 26 #[.int .i64 a.kind, .string ⟨a.text.toArray⟩, .int .i64 a.cols, .slice A1 a.kids.length cp1] from by have := Blk.new ((w2.alloc (.cells #[.int .i64 a.kind, .string ⟨a.text.toArray⟩, .int .i64 a.cols, .slice A1 a.kids.length cp1] 26)).alloc (.cells #[.int .i64 0, .int .i64 0] 56)) 26 #[.int .i64 a.kind, .string ⟨a.text.toArray⟩, .int .i64 a.cols, .slice A1 a.kids.length cp1]; simpa using this)
     go_wp2_with (at_builtin; refine wpList_append_grow rfl (.tmp 23) (.tmp 25) rfl i _ hi hz0 hz1 hz2 rfl (B0 := B0) (B := W1.heap.size) (B1 := wr.heap.size) (ks := ks0 ++ ks) (v := .slice A (ks0 ++ ks).length cp) (y := .slice (some ⟨w2.heap.size + 1 + 1, 0, none⟩) 1 1) (HG2.out.fresh FR.out) (by simp [Act.eval]) a (.slice A1 a.kids.length cp1) (by simp [Act.eval]) (Src.of_blk (BL.out) rfl) (HTR.out.fresh FR.out) (by have := HBB.out; omega) (fun k hk => by have := HBB.out; rcases hk with rfl | rfl <;> omega) HOB.out HTX.out (by have := HLN.out; simp; omega) (by have := HBB.out; have := FR.out.size; omega) ?_; intro A8 cp8 W8 hg8 ht8; refine Stay.mk ?_)
     have HG8 := hid hg8
     have HB8 := hid (ht8.blk1 (FR.out.blk HBN2.out fun h => h) (by have := HBB.out; omega))
     have HF8 := hid (ht8.blk1 (FR.out.blk HBF2.out fun h => h) (by have := HBB.out; omega))
     have HP8 := hid (ht8.ps (HP3.out.fresh FR.out) (by have := HBB.out; have := HW0.out; omega) (by have := HBB.out; omega))
     have HM8 := hid (ht8.mp (HM2.out.trans (Mp.fresh FR.out)) (by have := HBB.out; omega))
     have HSZ8 := hid (show wr.heap.size ≤ W8.heap.size from by have := ht8.size; have := FR.out.size; omega)
     clear hg8 ht8 p0 p1 p2 p3 y0 y1 y2 y3 hlt0
     obtain ⟨p0, p1, p2, p3, y0, y1, y2, y3, hlt0⟩ := Blk.four HB8.out
     refine Stay.go ?_
     go_wp2_with fail
     have hb9 := HB8.out.put 3 (.slice A8 (ks0.length + ks.length + 1) cp8)
     have hf9 := HF8.out.far (p := ⟨w.heap.size, 3, none⟩) (by simp) (.slice A8 (ks0.length + ks.length + 1) cp8)
     have ht9 := (Touch.refl (fun b => b = w.heap.size) W8).setCell (p := ⟨w.heap.size, 3, none⟩) (.inl rfl) (.slice A8 (ks0.length + ks.length + 1) cp8)
     have hm9 := HM8.out.setCell (p := ⟨w.heap.size, 3, none⟩) (.inr (Nat.le_refl _)) (.slice A8 (ks0.length + ks.length + 1) cp8)
     generalize (World.setCell W8 ⟨w.heap.size, 3, none⟩ (.slice A8 (ks0.length + ks.length + 1) cp8)) = W9 at hb9 hf9 ht9 hm9 ⊢
     have hlen : (ks0 ++ (ks ++ [a])).length = ks0.length + ks.length + 1 := by simp; omega
     have happ : ks0 ++ (ks ++ [a]) = (ks0 ++ ks) ++ [a] := by simp
     have hgr9 : Grow (fun k => k = w.heap.size ∨ k = w.heap.size + 1) W9 B0 W1.heap.size (ks0 ++ (ks ++ [a])) (.slice A8 (ks0.length + ks.length + 1) cp8) := by
      rw [happ]
      have := HG8.out.mv ht9 (by have := HBB.out; omega) (fun k hk => by have := HBB.out; rcases hk with rfl | rfl <;> omega) (fun k hk => .inl (.inl hk))
      rw [List.length_append] at this; exact this
     have hps9 := HP8.out.mv ht9 (fun b hb => by have := HW0.out; subst hb; exact ⟨by omega, HW0.out, _, _, (by decide), HB8.out⟩)
     refine ⟨⟨m + 1, k', ks ++ [a], A8, cp8, by simp, by omega, by have := HKS.out; simp; omega, by rw [hlen]; exact hb9, hf9, .inr (by rw [hlen]; exact hgr9), hps9, by have := hkk2; omega, hm9, by have := ht9.size; have := HSZ8.out; have := HBB.out; omega, ?_⟩, by simp [intOf]; omega⟩
     unfold Hid
     rw [HXS.out, HDR.out, ← HFF.out.2.1, ← HFF.out.2.2]
     show ((pArgs c.en f' n' op rest).map fun l => a :: l).map (fun l => ks ++ l) = _
     cases pArgs c.en f' n' op rest <;> simp [Np.R.map, Np.R.bind]
  ·have hmn : m = n := by omega
   have HKS2 := hid (show ks.length = n by rw [HKS.out, hmn])
   have d1 : decide ((m : Int) < (n : Int)) = false := by simp; omega
   have d1n : decide (m < n) = false := by simp; omega
   have d1' : ¬ ((m : Int) < (n : Int)) := by omega
   obtain ⟨p0, p1, p2, p3, y0, y1, y2, y3, hlt0⟩ := Blk.four HBN.out
   obtain ⟨q0, q1, z0, z1, hlt1⟩ := Blk.two HBF.out
   have HMN := hid hmn
   clear hmn
   go_wp2_with fail
   have htr1 : TreT B0 wr (ks0 ++ ks) (.slice A (ks0 ++ ks).length cp) := by
    have h1 := HB0.out
    have h2 := HSZ1.out
    rcases HG.out with ⟨_, _, hg⟩ | hg
    ·exact hg.tree
    ·exact hg.tree (by omega)
   rw [List.length_append] at htr1
   have htw := (touch2 wr (w.heap.size + 1) (.int .i64 0) (.int .i64 0))
   have hmw : Mp c.g c.W0.heap.size w ((put2 wr (w.heap.size + 1) (.int .i64 0) (.int .i64 0)).alloc (.cells #[.int .i64 kd, .string ⟨tx.toArray⟩, .int .i64 0, .slice A (ks0.length + ks.length) cp] 26)) := (HM.out.put2 (g := w.heap.size + 1) (.inr (by omega)) (.int .i64 0) (.int .i64 0)).alloc _
   have htr2 := htr1.other HBF.out (by decide) htw
   have hps := (HP.out.mv htw (fun b hb => by have := HW0.out; subst hb; exact ⟨by omega, by omega, _, _, (by decide), HBF.out⟩)).fresh ((Touch.refl _ _).alloc (.cells #[.int .i64 kd, .string ⟨tx.toArray⟩, .int .i64 0, .slice A (ks0.length + ks.length) cp] 26))
   have hbq := ((HBF.out.self2 (.int .i64 0) (.int .i64 0)).alloc (.cells #[.int .i64 kd, .string ⟨tx.toArray⟩, .int .i64 0, .slice A (ks0.length + ks.length) cp] 26))
   have hone := TreT.lit (n := .mk kd tx 0 (ks0 ++ ks)) htr2 (by have := HB0.out; have := HSZ1.out; have := htw.size; omega) HTX.out
   have hszp : (put2 wr (w.heap.size + 1) (.int .i64 0) (.int .i64 0)).heap.size = wr.heap.size := by simp [put2]
   rw [hszp] at hone
   simp only [put2] at hmw hps hbq hone
   obtain ⟨f0, f1, _⟩ := Blk.two hbq
   (try simp only [Exit.inBlock, Exit.then])
   refine bodyPost_ret (v := .tuple #[.slice (some ⟨wr.heap.size, 0, none⟩) 1 1, failV 0 0]) (by simp [failV, results, Tryz.results106, go_sem, f0, f1]) rfl ?_
   obtain ⟨f', hf'⟩ : ∃ f', F - m = f' + 1 := by
    rcases Nat.eq_zero_or_pos (F - m) with h0 | h0
    ·exfalso
     have h1 := HXX.out
     rw [h0] at h1
     exact HNE.out (by rw [h1]; cases n - m <;> rfl)
    ·exact ⟨F - m - 1, by omega⟩
   have HXO : X = .ok ks (c.T.drop k1) := by
    rw [HXX.out, hf', HMN.out, Nat.sub_self, pArgs]
    simp [Np.R.map, Np.R.bind]
   rw [HXO] at HQ
   exact HQ.out _ _ ⟨wr.heap.size, k1, rfl, hone, rfl, hkk, hps, hmw⟩
end Go.Proofs.YtncnoeoicaglaaaGreat
