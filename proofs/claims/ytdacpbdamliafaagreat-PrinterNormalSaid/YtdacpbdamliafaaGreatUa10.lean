/- Part 10 of 12 of a proof; its texts, joined: NqP, NqQ, NqR, LxA, LxB, LxC, LxF. No condition. -/
import Derived.Test.YtdacpbdamliafaaGreatUa9
import Derived.WideMake
import Derived.Test.YtdacpbdamliafaaGreatUa3
import Derived.Deep.RegionWith

/- The parser's matrix. -/
namespace Go.Proofs.YtdacpbdamliafaaGreat
open Go.RowKit
open Tr (Nd)
open Lx (PTok)
open Np (R pRow pIn pScript pItem pPrim pArgs pName pCells pArg)
attribute [local go_sem] stillV stillUpon
theorem tok_kind (en : Nat) (l : List PTok) : ∃ (kd : Nat) (r1 r3 : Value) (fr : Nat), tokV en l = .agg #[.int .i64 (kd : Int), r1, .int .i64 (fr : Int), r3] ∧ fr = Np.place en l ∧ (kd == 8) = Np.isBreak l := by
 cases l with
 | nil => exact ⟨0, _, _, en, rfl, rfl, rfl⟩
 | cons t r => exact ⟨t.kind, _, _, t.from_, rfl, rfl, rfl⟩
theorem bind_ne {α β : Type} {x : R α} {k : α → List PTok → R β} (h : x.bind k ≠ .out) : x ≠ .out := fun e => h (by rw [e]; rfl)
set_option maxRecDepth 100000 in
set_option maxHeartbeats 3000000 in
theorem matrix_n (c : Cf) (hc : c.Good) (F : Nat) (hF : F ≤ 1000000) (hrow : ∀ f', f' < F → RowN c f') : MatrixN c F := by
 intro k op w h hop hk hne
 obtain ⟨i, hi, hz0, hz1, hz2⟩ := info_parts infoNodeN
 have htl := hc.tl
 have hk4 : k ≤ 100000 := by omega
 have HRO := hid hrow
 have HT := hid (fun (k' : Nat) (op' : List Nat) (w' : World) (hp : Ps c k' op' w') => tok_any_n c hc k' op' w' hp)
 have HA := hid (fun (b : UInt8) (k' : Nat) (op' : List Nat) (w' : World) (hp : Ps c k' op' w') => at_any_n c hc k' op' b w' hp)
 have HR := hid (fun (k' : Nat) (op' : List Nat) (w' : World) (hp : Ps c k' op' w') => refuse_any_n c hc k' op' w' hp)
 have HBE := hid (fun (k' : Nat) (w' : World) (hp : Ps c k' op w') (hk' : k' < c.T.length) => begin_any_n c hc k' op w' hp hk' (by omega))
 have HFI := hid (fun (k' x : Nat) (w' : World) (hp : Ps c k' (op ++ [x]) w') (hk' : k' < c.T.length ∨ Np.isM 125 (c.T.drop k') = false) => finish_any_n c hc k' op x 125 w' hp hk')
 have H := hid h
 have HOP := hid hop
 have HFF := hid hF
 have HW0 := hid h.low.size
 have HK := hid hk
 have hgl : c.g < w.heap.size := h.glt
 have HNE := hid hne
 obtain ⟨ov, hb, _⟩ := h.box
 have q1 := hb.cell 1
 have z1 := hb.frozen 1
 clear hb h hne hc hop hrow hF
 refine Calls.via fun Q hQ => ?_
 have HQ := hid hQ
 clear hQ
 unfold matrixR at HNE HQ
 unfold pp0
 have e1 : ((k : Int) + 1) = ((k + 1 : Nat) : Int) := by simp
 have HE := hid e1
 clear e1
 go_enter Tryz.func109, Tryz.ntmps109
 go_wp2_with fail
 have hn := H.out.next hk ((k : Int) + 1) HE.out
 have hs : (w.setCell ⟨c.g, 1, none⟩ (.int .i64 ((k : Int) + 1))).heap.size = w.heap.size := by simp
 generalize (w.setCell ⟨c.g, 1, none⟩ (.int .i64 ((k : Int) + 1))) = W1 at hn hs ⊢
 have hbf : Blk (W1.alloc (.cells #[.int .i64 0, .int .i64 0] 88)) W1.heap.size 88 #[.int .i64 0, .int .i64 0] := Blk.new _ _ _
 have hp2 := hn.1.fresh ((Touch.refl _ _).alloc (.cells #[.int .i64 0, .int .i64 0] 88))
 have hm2 := hn.2.trans (Mp.fresh ((Touch.refl _ W1).alloc (.cells #[.int .i64 0, .int .i64 0] 88)))
 have hs2 : (W1.alloc (.cells #[.int .i64 0, .int .i64 0] 88)).heap.size = w.heap.size + 1 := by simp [hs]
 rw [hs] at hbf
 generalize (W1.alloc (.cells #[.int .i64 0, .int .i64 0] 88)) = W2 at hbf hp2 hm2 hs2 ⊢
 (try rw [hs])
 have HP2 := hid hp2
 have HM2 := hid hm2
 have HS2 := hid hs2
 have HBF := hid hbf
 clear hn hs hbf hp2 hm2 q1 z1 hs2
 refine (HA.out 123 (k + 1) op W2 HP2.out).mono ?_
 rintro _ w3 ⟨rfl, hf⟩
 have HP3 := hid (HP2.out.fresh hf)
 have HM3' := hid (HM2.out.fr hf)
 have HBF3' := hid (hf.blk HBF.out fun h => h)
 have HS3 := hid (show w.heap.size + 1 ≤ w3.heap.size from by have := hf.size; have := HS2.out; omega)
 clear hf
 cases hm : Np.isM 123 (c.T.drop (k + 1)) with
 | false =>
  rw [if_neg (by simp [hm])] at HQ
  clear hm
  go_wp2_with fail
  refine (HR.out (k + 1) op w3 HP3.out).mono ?_
  rintro _ w9 ⟨rfl, hf⟩
  have HM3 := hid (HM3'.out.fr hf)
  have HBF3 := hid (hf.blk HBF3'.out fun h => h)
  clear hf
  simp only [Np.refuse] at HQ
  generalize Np.place c.en (c.T.drop (k + 1)) = pl at HQ ⊢
  obtain ⟨q0, q1, z0, z1, hlt3⟩ := Blk.two HBF3.out
  (try unfold failV)
  go_wp2_with fail
  have n1 := HBF3.out.self2 (.int .i64 (pl : Int)) (.int .i64 3)
  have hm4 : Mp c.g c.W0.heap.size w (put2 w9 (w.heap.size) (.int .i64 (pl : Int)) (.int .i64 3)) := HM3.out.put2 (g := w.heap.size) (.inr (by omega)) (.int .i64 (pl : Int)) (.int .i64 3)
  have ht4 := touch2 w9 (w.heap.size) (.int .i64 (pl : Int)) (.int .i64 3)
  simp only [put2] at n1 hm4 ht4
  generalize (World.setCell (World.setCell w9 ⟨w.heap.size, 0, none⟩ _) ⟨w.heap.size, 1, none⟩ _) = W4 at n1 hm4 ht4 ⊢
  obtain ⟨f0, f1, _⟩ := Blk.two n1
  (try simp only [Exit.inBlock, Exit.then])
  refine bodyPost_ret (v := .tuple #[.slice none 0 0, failV pl 3]) (by simp [failV, results, Tryz.results109, go_sem, f0, f1]) rfl ?_
  exact HQ.out _ _ ⟨by decide, none, 0, 0, rfl, hm4⟩
 | true =>
  rw [if_pos hm, List.tail_drop] at HQ HNE
  have hk1 := isM_lt hm
  have HK1 := hid hk1
  clear hm hk1
  generalize hpl : Np.place c.en (c.T.drop (k + 1)) = pl at HQ HNE
  go_wp2_with fail
  refine (HBE.out (k + 1) w3 HP3.out HK1.out).mono ?_
  rw [hpl]
  clear hpl
  rintro _ w4 ⟨rfl, hp4, hm4⟩
  have HBF4 := hid (hm4.blk HBF3'.out (by omega) (by decide))
  have HM4 := hid (HM3'.out.trans hm4)
  have HS4 := hid (show w.heap.size + 1 ≤ w4.heap.size from by have := HS3.out; have := hm4.size; omega)
  have HP4 := hid hp4
  clear hp4 hm4
  generalize hX : pCells c.en F (op ++ [pl]) [] 0 0 (c.T.drop (k + 1 + 1)) = X at HNE HQ
  have HX := hid hX
  clear hX
  go_wp2_with fail
  have hf1 : Fresh w4 (w4.alloc (.cells #[.int .i64 12, .string ⟨#[]⟩, .int .i64 0, .slice none 0 0] 24)) := (Touch.refl _ _).alloc _
  have hbm : Blk (w4.alloc (.cells #[.int .i64 12, .string ⟨#[]⟩, .int .i64 0, .slice none 0 0] 24)) w4.heap.size 24 #[.int .i64 12, .string ⟨#[]⟩, .int .i64 0, .slice none 0 0] := Blk.new _ _ _
  have hsw1 : (w4.alloc (.cells #[.int .i64 12, .string ⟨#[]⟩, .int .i64 0, .slice none 0 0] 24)).heap.size = w4.heap.size + 1 := by simp
  generalize (w4.alloc (.cells #[.int .i64 12, .string ⟨#[]⟩, .int .i64 0, .slice none 0 0] 24)) = W5 at hf1 hbm hsw1 ⊢
  have HF5 := hid hf1
  have HBM5 := hid hbm
  have HSZ5 := hid hsw1
  clear hf1 hbm hsw1
  go_loopw [5] (fun j wr => ∃ (k1 b cl : Nat) (ks : List Nd) (A : Option Addr) (cp : Nat), j = .int .i64 (b : Int) ∧ Hid (Blk wr w4.heap.size 24 #[.int .i64 12, .string ⟨#[]⟩, .int .i64 (cl : Int), .slice A ks.length cp]) ∧ Hid (Blk wr w.heap.size 88 #[.int .i64 0, .int .i64 0]) ∧ Hid (Grow (fun k => k = w4.heap.size) wr w.heap.size W5.heap.size ks (.slice A ks.length cp)) ∧ Hid (Ps c k1 (op ++ [pl]) wr) ∧ k + 2 ≤ k1 ∧ Hid (Mp c.g c.W0.heap.size w wr) ∧ W5.heap.size ≤ wr.heap.size ∧ ks.length ≤ F ∧ b ≤ ks.length ∧ Hid (X = pCells c.en (F - ks.length) (op ++ [pl]) ks b cl (c.T.drop k1))) (fun _ wr => F - slLen ((wr.cell? ⟨w4.heap.size, 3, none⟩).getD undef))
  case atStart =>
   refine ⟨k + 1 + 1, 0, 0, [], none, 0, rfl, HBM5, HF5.out.blk HBF4.out fun h => h, Grow.nil _ _ _ _, HP4.out.fresh HF5.out, by omega, HM4.out.fr HF5.out, Nat.le_refl _, Nat.zero_le _, Nat.zero_le _, ?_⟩
   unfold Hid
   rw [← HX.out, List.length_nil, Nat.sub_zero]
  case round =>
   obtain ⟨k1, b, cl, ks, A, cp, rfl, HBM, HBR, HG, HP, hkk, HM, hsz, hle, hble, HXX⟩ := hrel
   obtain ⟨f', hf'⟩ : ∃ f', F - ks.length = f' + 1 := by
    rcases Nat.eq_zero_or_pos (F - ks.length) with h0 | h0
    ·exfalso
     have h1 := HXX.out
     rw [h0, pCells] at h1
     exact HNE.out (by rw [h1]; rfl)
    ·exact ⟨F - ks.length - 1, by omega⟩
   have HXS := hid (show X = pCells c.en (f' + 1) (op ++ [pl]) ks b cl (c.T.drop k1) from by rw [HXX.out, hf'])
   rw [pCells] at HXS
   have HF' := hid hf'
   have HLE := hid hle
   have HBLE := hid hble
   have HKK := hid hkk
   have HSZ := hid hsz
   have HNX := hid (R.map_out HNE.out)
   clear HXX hf' hle hkk hsz hble
   go_wp2_with fail
   refine (HRO.out f' (by have := HF'.out; omega) k1 (op ++ [pl]) wr HP.out (by have := HOP.out; have := HKK.out; simp; omega) (fun h => HNX.out (by rw [HXS.out, h]; rfl))).mono ?_
   intro e w6 hres
   have hparts := hres.parts (fun h => HNX.out (by rw [HXS.out, h]; rfl))
   clear hres
   generalize pRow c.en f' (op ++ [pl]) (c.T.drop k1) = Y at HXS hparts
   obtain ⟨A1, n1, cp1, i1, er1, rfl, hm, hend⟩ := hparts
   have HMM := hid hm
   have HM6 := hid (HM.out.trans hm)
   have HBR6 := hid (hm.blk HBR.out (by omega) (by decide))
   have HBM6 := hid (hm.blk HBM.out (by have := HS4.out; omega) (by decide))
   clear hm
   rcases hend with ⟨items, rest, k', rfl, rfl, rfl, rfl, htr, rfl, hkk2, hp⟩ | ⟨rfl, he0⟩
   case inr =>
    have HE0 := hid he0
    have e0 := fail_ne he0
    clear he0
    have HXE := hid (show X = .err i1 er1 from HXS.out)
    rw [HXE.out] at HQ
    unfold failV
    go_wp2_with fail
    have hbe := Blk.new w6 88 #[.int .i64 (i1 : Int), .int .i64 (er1 : Int)]
    have hbr := HBR6.out.alloc (.cells #[.int .i64 (i1 : Int), .int .i64 (er1 : Int)] 88)
    have hmr := HM6.out.alloc (.cells #[.int .i64 (i1 : Int), .int .i64 (er1 : Int)] 88)
    generalize (w6.alloc (.cells #[.int .i64 (i1 : Int), .int .i64 (er1 : Int)] 88)) = W6 at hbe hbr hmr ⊢
    have r0 := cell_regrown (hbe.cell 0 |>.trans rfl)
    have r1 := cell_regrown (hbe.cell 1 |>.trans rfl)
    have hlt3 := hbe.lt
    have HBR := hid hbr
    have HMR := hid hmr
    clear hbe hbr hmr
    refine wp_region_mix [([(0, true), (1, true)], 2)] [] (by kernel_rfl) (fun _ _ d _ _ h => by cases d <;> exact h) (by kernel_rfl) ?_
    refine wpMix_seg ?_
    repeat (refine wpSeq_plain rfl (fun K hK => ?_); go_simp; refine hK _ ?_; clear hK K)
    obtain ⟨p0, p1, y0, y1, hlt⟩ := Blk.two (HBR.out.drewN 1)
    refine wpSeq_shut rfl (fun K hK => ?_)
    go_wp2_with fail
    refine wpMix_end ?_
    go_wp2_with fail
    have hb5 : Blk _ (w.heap.size) 88 #[.int .i64 (i1 : Int), .int .i64 (er1 : Int)] := ((HBR.out.drewN 1).put 0 (.int .i64 (i1 : Int))).put 1 (.int .i64 (er1 : Int))
    have hm5 := ((HMR.out.drewN 1).setCell (p := ⟨w.heap.size, 0, none⟩) (.inr (by show w.heap.size ≤ w.heap.size; omega)) (.int .i64 (i1 : Int))).setCell (p := ⟨w.heap.size, 1, none⟩) (.inr (by show w.heap.size ≤ w.heap.size; omega)) (.int .i64 (er1 : Int))
    obtain ⟨f0, f1, _⟩ := Blk.two hb5
    (try simp only [Exit.inBlock, Exit.then])
    refine bodyPost_ret (v := .tuple #[.slice none 0 0, failV i1 er1]) (by simp [failV, results, Tryz.results109, go_sem, f0, f1]) rfl ?_
    exact HQ.out _ _ ⟨HE0.out, none, 0, 0, rfl, hm5⟩
   have HTR := hid htr
   have HK2 := hid hkk2
   have HP6 := hid hp
   have HG6 := hid (show Grow (fun k => k = w4.heap.size) w6 w.heap.size W5.heap.size ks (.slice A ks.length cp) from HG.out.mv HMM.out (by have := HSZ5.out; have := HS4.out; omega) (fun k hk => by have := HSZ5.out; omega) (fun b hb => .inr (.inr (PT.nty HP.out hb))))
   have HOB := hid (show ∀ b, (Value.slice A ks.length cp).ownBlock = some b → b < wr.heap.size from fun b hb => by
    obtain ⟨cs, h1, _⟩ := HG.out
    obtain ⟨_, cur, h4⟩ := owns_type h1 hb
    exact (Array.getElem?_eq_some_iff.1 h4).1)
   clear htr hkk2 hp
   unfold failV
   go_wp2_with fail
   have hf7 : Fresh w6 (w6.alloc (.cells #[.int .i64 0, .int .i64 0] 88)) := (Touch.refl _ _).alloc _
   generalize (w6.alloc (.cells #[.int .i64 0, .int .i64 0] 88)) = W7 at hf7 ⊢
   have HF7 := hid hf7
   have HBM7 := hid (hf7.blk HBM6.out fun h => h)
   clear hf7
   have r3 := cell_regrown (HBM7.out.cell 3 |>.trans rfl)
   have hl7 := HBM7.out.lt
   refine wp_region_mix [([(0, true), (1, true), (2, true), (3, false), (4, false)], 5), ([(6, true)], 7)] [] (by kernel_rfl) (fun _ _ d _ _ h => by cases d <;> exact h) (by kernel_rfl) ?_
   refine wpMix_seg ?_
   repeat (refine wpSeq_plain rfl (fun K hK => ?_); go_simp; refine hK _ ?_; clear hK K)
   refine wpSeq_lone rfl (fun K hK => ?_)
   go_wp2_with fail
   refine (slot_any_n A1 items.length cp1 _).mono ?_
   rintro _ w8 ⟨rfl, hf⟩
   have HF8 := hid (show Fresh W7 w8 from Touch.ofN hf)
   clear hf
   go_wp2_with fail
   refine hK _ _ (growing_fresh HF8.out) ?_
   clear hK K
   refine wpSeq_lone rfl (fun K hK => ?_)
   go_wp2_with fail
   refine hK _ _ (growing_fresh (HF8.out.alloc _)) ?_
   clear hK K r3 hl7
   have hf9 := HF7.out.trans (HF8.out.alloc (.cells #[.int .i64 1, .string ⟨#[]⟩, .int .i64 0, .slice A1 items.length cp1] 24))
   have hb9 := Blk.new w8 24 #[.int .i64 1, .string ⟨#[]⟩, .int .i64 0, .slice A1 items.length cp1]
   generalize (w8.alloc (.cells #[.int .i64 1, .string ⟨#[]⟩, .int .i64 0, .slice A1 items.length cp1] 24)) = W9 at hf9 hb9 ⊢
   have HF9 := hid hf9
   have HB9 := hid hb9
   clear hf9 hb9
   have HTR9 := hid (HTR.out.fresh HF9.out)
   refine wpSeq_shut rfl (fun K hK => ?_)
   go_wp2_with (at_builtin; refine wpList_append_grow rfl (.tmp 34) (.tmp 37) rfl i _ hi hz0 hz1 hz2 rfl (B0 := w.heap.size) (B := W5.heap.size) (B1 := wr.heap.size) (ks := ks) (v := .slice A ks.length cp) (y := .slice (some ⟨w8.heap.size, 0, none⟩) 1 1) (HG6.out.fresh HF9.out) (by simp [Act.eval]) (Np.slot items) (.slice A1 items.length cp1) (by simp [Act.eval]) (show Src W9 4 _ 1 [.int .i64 (Np.slot items).kind, .string ⟨(Np.slot items).text.toArray⟩, .int .i64 (Np.slot items).cols, .slice A1 items.length cp1] from Src.of_blk HB9.out rfl) HTR9.out (by have := HSZ.out; have := HSZ5.out; have := HS4.out; omega) (fun k hk => by have := HSZ.out; have := HSZ5.out; omega) HOB.out (Nat.zero_le _) (by have := HFF.out; have := HLE.out; omega) (by have h1 := HSZ.out; have h2 := HMM.out.size; have h3 := HF9.out.size; omega) ?_; intro A8 cp8 W10 hg10 ht10; refine Stay.mk ?_)
   have hbm10 := ht10.blk1 (HF9.out.blk HBM6.out fun h => h) (by have := HSZ5.out; omega)
   have hbr10 := ht10.blk1 (HF9.out.blk HBR6.out fun h => h) (by have := HSZ5.out; have := HS4.out; omega)
   have hp10 := ht10.ps (HP6.out.fresh HF9.out) (by have := HSZ5.out; have := HS4.out; have := HW0.out; omega) (by have := HSZ5.out; have := HS4.out; omega)
   have hm10 := ht10.mp (HM6.out.fr HF9.out) (by have := HSZ5.out; have := HS4.out; omega)
   have hs10 : W5.heap.size ≤ W10.heap.size := by have h0 := ht10.size; have h1 := HSZ.out; have h2 := HMM.out.size; have h3 := HF9.out.size; omega
   have HBM10 := hid hbm10
   have HBR10 := hid hbr10
   have HP10 := hid hp10
   have HM10 := hid hm10
   have HG10 := hid hg10
   have HS10 := hid hs10
   clear hbm10 hbr10 hp10 hm10 hg10 hs10 ht10
   refine Stay.go ?_
   go_wp2_with fail
   refine wpMix_seg ?_
   repeat (refine wpSeq_plain rfl (fun K hK => ?_); go_simp; refine hK _ ?_; clear hK K)
   obtain ⟨p0, p1, p2, p3, y0, y1, y2, y3, hlt0⟩ := Blk.four HBM10.out
   refine wpSeq_shut rfl (fun K hK => ?_)
   go_wp2_with fail
   refine wpMix_end ?_
   have hbm11 : Blk _ w4.heap.size 24 #[.int .i64 12, .string ⟨#[]⟩, .int .i64 (cl : Int), .slice A8 (ks.length + 1) cp8] := HBM10.out.put 3 (.slice A8 (ks.length + 1) cp8)
   have hbr11 := HBR10.out.far (p := ⟨w4.heap.size, 3, none⟩) (by have := HS4.out; simp; omega) (.slice A8 (ks.length + 1) cp8)
   have ht11 := (Touch.refl (fun b => b = w4.heap.size) W10).setCell (p := ⟨w4.heap.size, 3, none⟩) (.inl rfl) (.slice A8 (ks.length + 1) cp8)
   have hg11 := HG10.out.mv ht11 (by have := HSZ5.out; have := HS4.out; omega) (fun k hk => by have := HSZ5.out; omega) (fun k hk => .inl hk)
   have hp11 := HP10.out.mv ht11 (fun b hb => by have := HW0.out; have := HS4.out; subst hb; exact ⟨by omega, by omega, _, _, (by decide), HBM10.out⟩)
   have hm11 : Mp c.g c.W0.heap.size w (W10.setCell ⟨w4.heap.size, 3, none⟩ (.slice A8 (ks.length + 1) cp8)) := HM10.out.setCell (p := ⟨w4.heap.size, 3, none⟩) (.inr (by show w.heap.size ≤ w4.heap.size; have := HS4.out; omega)) (.slice A8 (ks.length + 1) cp8)
   have hs11 : W5.heap.size ≤ (W10.setCell ⟨w4.heap.size, 3, none⟩ (.slice A8 (ks.length + 1) cp8)).heap.size := by have := HS10.out; simpa using this
   generalize (W10.setCell ⟨w4.heap.size, 3, none⟩ (.slice A8 (ks.length + 1) cp8)) = W11 at hbm11 hbr11 hg11 hp11 hm11 hs11 ⊢
   have HBM11 := hid hbm11
   have HBR11 := hid hbr11
   have HG11 := hid hg11
   have HP11 := hid hp11
   have HM11 := hid hm11
   have HS11 := hid hs11
   clear hbm11 hbr11 hg11 hp11 hm11 hs11 ht11 p0 p1 p2 p3 y0 y1 y2 y3 hlt0
   rw [R.bind_ok] at HXS
   have HLN := hid (show (ks ++ [Np.slot items]).length = ks.length + 1 from by simp)
   have HC0 := hid (HBM.out.cell 3)
   go_wp2_with fail
   refine (HA.out 38 k' (op ++ [pl]) W11 HP11.out).mono ?_
   rintro _ w12 ⟨rfl, hf⟩
   have HS12 := hid (Nat.le_trans HS11.out hf.size)
   have HBM12 := hid (hf.blk HBM11.out fun h => h)
   have HBR12 := hid (hf.blk HBR11.out fun h => h)
   have HG12 := hid (HG11.out.fresh hf)
   have HP12 := hid (HP11.out.fresh hf)
   have HM12 := hid (HM11.out.fr hf)
   clear hf
   cases m38 : Np.isM 38 (c.T.drop k') with
   | true =>
    rw [if_pos m38, List.tail_drop] at HXS
    have HKT := hid (isM_lt m38)
    have HMX := HM12
    clear m38
    obtain ⟨ov, hb, _⟩ := HP12.out.box
    have q1 := hb.cell 1
    have z1 := hb.frozen 1
    have hg1 := hb.lt
    have hkb : k' ≤ 100000 := by have := HKT.out; omega
    clear hb
    go_wp2_with fail
    have hn := HP12.out.next HKT.out ((k' : Int) + 1) (by simp)
    have hbm := HBM12.out.far (p := ⟨c.g, 1, none⟩) (by have := HS4.out; simp; omega) (.int .i64 ((k' : Int) + 1))
    have hbr := HBR12.out.far (p := ⟨c.g, 1, none⟩) (by simp; omega) (.int .i64 ((k' : Int) + 1))
    have hg := HG12.out.mv hn.2 (by have := HSZ5.out; have := HS4.out; omega) (fun k hk => by have := HSZ5.out; omega) (fun b hb => .inr (.inr (PT.nty HP12.out hb)))
    have hsz : W5.heap.size ≤ (w12.setCell ⟨c.g, 1, none⟩ (.int .i64 ((k' : Int) + 1))).heap.size := by have := HS12.out; simpa using this
    generalize (w12.setCell ⟨c.g, 1, none⟩ (.int .i64 ((k' : Int) + 1))) = W13 at hn hbm hbr hg hsz ⊢
    refine ⟨⟨k' + 1, b, cl, ks ++ [Np.slot items], A8, cp8, rfl, by rw [HLN.out]; exact hbm, hbr, by rw [HLN.out]; exact hg, hn.1, by have := HKK.out; have := HK2.out; omega, HMX.out.trans hn.2, hsz, by rw [HLN.out]; have := HF'.out; omega, by rw [HLN.out]; have := HBLE.out; omega, ?_⟩, ?_⟩
    ·unfold Hid
     rw [HLN.out, show F - (ks.length + 1) = f' from by have := HF'.out; omega]
     exact HXS.out
    ·have h1 := hbm.cell 3
     have h0 := HC0.out
     rw [h1, h0]
     simp [slLen]
     have := HF'.out
     omega
   | false =>
    rw [if_neg (by simp [m38])] at HXS
    clear m38
    obtain ⟨kd, r1, r3, fr, htok, hfr, hbrk⟩ := tok_kind c.en (c.T.drop k')
    have HTOK := hid htok
    have HFR := hid hfr
    have hfd := field_tok0
    have hfd2 := field_tok2
    clear htok hfr
    rw [← hbrk] at HXS
    go_wp2_with fail
    refine (HT.out k' (op ++ [pl]) w12 HP12.out).mono ?_
    rw [HTOK.out]
    rintro _ w13 ⟨rfl, hf⟩
    have HS13 := hid (Nat.le_trans HS12.out hf.size)
    have HBM13 := hid (hf.blk HBM12.out fun h => h)
    have HBR13 := hid (hf.blk HBR12.out fun h => h)
    have HG13 := hid (HG12.out.fresh hf)
    have HP13 := hid (HP12.out.fresh hf)
    have HM13 := hid (HM12.out.fr hf)
    clear hf
    by_cases h8 : kd = 8
    ·have e8 : ((kd : Int) == 8) = true := by rw [h8]; rfl
     have HKT := hid (show k' < c.T.length from drop_lt (fun e => by rw [e] at hbrk; rw [h8] at hbrk; cases hbrk))
     rw [show (kd == 8) = true by rw [h8]; rfl] at HXS hbrk
     rw [if_neg (by simp)] at HXS
     clear h8 hbrk
     by_cases hb0 : b = 0
     ·subst hb0
      rw [if_neg (by simp [Np.colN]), if_neg (by simp), List.tail_drop] at HXS
      simp only [Np.colN, if_true] at HXS
      have hnb : ks.length ≤ 1000000 := by have := HFF.out; have := HLE.out; omega
      have hgm : c.g < w4.heap.size := by have := HS4.out; omega
      obtain ⟨p0, p1, p2, p3, y0, y1, y2, y3, hlt0⟩ := Blk.four HBM13.out
      obtain ⟨ov, hb, _⟩ := HP13.out.box
      have q1 := hb.cell 1
      have z1 := hb.frozen 1
      have hg1 := hb.lt
      have hkb : k' ≤ 100000 := by have := HKT.out; omega
      clear hb
      go_wp2_with fail
      clear q1 z1 hg1 hkb hnb hgm e8
      clear p0 p1 p2 p3 y0 y1 y2 y3 hlt0
      have hbm : Blk _ w4.heap.size 24 #[.int .i64 12, .string ⟨#[]⟩, .int .i64 ((ks.length : Int) + 1), .slice A8 (ks.length + 1) cp8] := HBM13.out.put 2 (.int .i64 ((ks.length : Int) + 1))
      have hbr := HBR13.out.far (p := ⟨w4.heap.size, 2, none⟩) (by have := HS4.out; simp; omega) (.int .i64 ((ks.length : Int) + 1))
      have ht := (Touch.refl (fun b => b = w4.heap.size) w13).setCell (p := ⟨w4.heap.size, 2, none⟩) (.inl rfl) (.int .i64 ((ks.length : Int) + 1))
      have hg := HG13.out.mv ht (by have := HSZ5.out; have := HS4.out; omega) (fun k hk => by have := HSZ5.out; omega) (fun k hk => .inl hk)
      have hp := HP13.out.mv ht (fun b hb => by have := HW0.out; have := HS4.out; subst hb; exact ⟨by omega, by omega, _, _, (by decide), HBM13.out⟩)
      have hm : Mp c.g c.W0.heap.size w (w13.setCell ⟨w4.heap.size, 2, none⟩ (.int .i64 ((ks.length : Int) + 1))) := HM13.out.setCell (p := ⟨w4.heap.size, 2, none⟩) (.inr (by show w.heap.size ≤ w4.heap.size; have := HS4.out; omega)) (.int .i64 ((ks.length : Int) + 1))
      have hs : W5.heap.size ≤ (w13.setCell ⟨w4.heap.size, 2, none⟩ (.int .i64 ((ks.length : Int) + 1))).heap.size := by have := HS13.out; simpa using this
      generalize (w13.setCell ⟨w4.heap.size, 2, none⟩ (.int .i64 ((ks.length : Int) + 1))) = W14 at hbm hbr hg hp hm hs ⊢
      have HBM14 := hid hbm
      have HBR14 := hid hbr
      have HG14 := hid hg
      have HP14 := hid hp
      have HM14 := hid hm
      have HS14 := hid hs
      clear hbm hbr hg hp hm hs ht
      have hn := HP14.out.next HKT.out ((k' : Int) + 1) (by simp)
      have hbm := HBM14.out.far (p := ⟨c.g, 1, none⟩) (by have := HS4.out; simp; omega) (.int .i64 ((k' : Int) + 1))
      have hbr := HBR14.out.far (p := ⟨c.g, 1, none⟩) (by simp; omega) (.int .i64 ((k' : Int) + 1))
      have hg := HG14.out.mv hn.2 (by have := HSZ5.out; have := HS4.out; omega) (fun k hk => by have := HSZ5.out; omega) (fun b hb => .inr (.inr (PT.nty HP14.out hb)))
      have hsz : W5.heap.size ≤ (W14.setCell ⟨c.g, 1, none⟩ (.int .i64 ((k' : Int) + 1))).heap.size := by have := HS14.out; simpa using this
      generalize (W14.setCell ⟨c.g, 1, none⟩ (.int .i64 ((k' : Int) + 1))) = W15 at hn hbm hbr hg hsz ⊢
      have HMX := HM14
      refine ⟨⟨k' + 1, (ks.length + 1), (ks.length + 1), ks ++ [Np.slot items], A8, cp8, by simp, by rw [HLN.out]; exact hbm, hbr, by rw [HLN.out]; exact hg, hn.1, by have := HKK.out; have := HK2.out; omega, HMX.out.trans hn.2, hsz, by rw [HLN.out]; have := HF'.out; omega, by rw [HLN.out]; have := HBLE.out; omega, ?_⟩, ?_⟩
      ·unfold Hid
       rw [HLN.out, show F - (ks.length + 1) = f' from by have := HF'.out; omega]
       exact HXS.out
      ·have h1 := hbm.cell 3
       have h0 := HC0.out
       rw [h1, h0]
       simp [slLen]
       have := HF'.out
       omega
     ·by_cases hmis : ks.length + 1 - b ≠ cl
      ·skip
       rw [if_pos (by rw [Np.colN, if_neg hb0]; exact hmis)] at HXS
       have hnb : ks.length ≤ 1000000 := by have := HFF.out; have := HLE.out; omega
       have hbn : b ≤ ks.length := HBLE.out
       obtain ⟨m, hm⟩ : ∃ m, ks.length + 1 = b + m := ⟨ks.length + 1 - b, by omega⟩
       have t1 : (ks.length : Int) + 1 - (b : Int) = (m : Int) := by omega
       have t2 : ((m : Int) == (cl : Int)) = false := by rw [beq_eq_false_iff_ne]; omega
       have t3 : ((m : Int) != (cl : Int)) = true := by rw [bne_iff_ne]; omega
       have t4 : ((b : Int) == 0) = false := by rw [beq_eq_false_iff_ne]; omega
       have t5 : IntKind.i64.wrap (m : Int) = (m : Int) := IntWalk.i64_in _ (by omega)
       have t6 : ¬ (b : Int) = 0 := by omega
       clear hm
       obtain ⟨p0, p1, p2, p3, y0, y1, y2, y3, hlt0⟩ := Blk.four HBM13.out
       clear hmis hb0
       go_wp2_with fail
       clear t1 t2 t3 t4 t5 t6 hnb hbn
       clear p0 p1 p2 p3 y0 y1 y2 y3 hlt0
       refine (HT.out k' (op ++ [pl]) w13 HP13.out).mono ?_
       rw [HTOK.out]
       rintro _ w20 ⟨rfl, hf⟩
       have HBR20 := hid (hf.blk HBR13.out fun h => h)
       have HM20 := hid (HM13.out.fr hf)
       clear hf
       obtain ⟨p0, p1, y0, y1, hlt⟩ := Blk.two HBR20.out
       go_wp2_with fail
       have hb5 := HBR20.out.self2 (.int .i64 (fr : Int)) (.int .i64 3)
       have hm5 : Mp c.g c.W0.heap.size w _ := HM20.out.put2 (g := w.heap.size) (.inr (Nat.le_refl _)) (.int .i64 (fr : Int)) (.int .i64 3)
       obtain ⟨f0, f1, _⟩ := Blk.two hb5
       simp only [put2] at f0 f1 hm5
       (try simp only [Exit.inBlock, Exit.then])
       refine bodyPost_ret (v := .tuple #[.slice none 0 0, failV fr 3]) (by simp [failV, results, Tryz.results109, go_sem, f0, f1]) rfl ?_
       rw [HXS.out, ← HFR.out] at HQ
       exact HQ.out _ _ ⟨by decide, none, 0, 0, rfl, hm5⟩
      ·rw [if_neg (by rw [Np.colN, if_neg hb0]; exact hmis), if_neg (by simp), List.tail_drop] at HXS
       simp only [Np.colN, if_neg hb0] at HXS
       have hgm : c.g < w4.heap.size := by have := HS4.out; omega
       have hnb : ks.length ≤ 1000000 := by have := HFF.out; have := HLE.out; omega
       have hbn : b ≤ ks.length := HBLE.out
       have t1 : (ks.length : Int) + 1 - (b : Int) = (cl : Int) := by omega
       have t2 : ((cl : Int) == (cl : Int)) = true := by simp
       have t4 : ((b : Int) == 0) = false := by rw [beq_eq_false_iff_ne]; omega
       have t5 : IntKind.i64.wrap (cl : Int) = (cl : Int) := IntWalk.i64_in _ (by omega)
       have t6 : ¬ (b : Int) = 0 := by omega
       clear hmis
       obtain ⟨p0, p1, p2, p3, y0, y1, y2, y3, hlt0⟩ := Blk.four HBM13.out
       obtain ⟨ov, hb, _⟩ := HP13.out.box
       have q1 := hb.cell 1
       have z1 := hb.frozen 1
       have hg1 := hb.lt
       have hkb : k' ≤ 100000 := by have := HKT.out; omega
       clear hb
       clear hb0
       go_wp2_with fail
       clear q1 z1 hg1 hkb hgm e8
       clear t1 t2 t4 t5 t6 hnb hbn
       clear p0 p1 p2 p3 y0 y1 y2 y3 hlt0
       have hn := HP13.out.next HKT.out ((k' : Int) + 1) (by simp)
       have hbm := HBM13.out.far (p := ⟨c.g, 1, none⟩) (by have := HS4.out; simp; omega) (.int .i64 ((k' : Int) + 1))
       have hbr := HBR13.out.far (p := ⟨c.g, 1, none⟩) (by simp; omega) (.int .i64 ((k' : Int) + 1))
       have hg := HG13.out.mv hn.2 (by have := HSZ5.out; have := HS4.out; omega) (fun k hk => by have := HSZ5.out; omega) (fun b hb => .inr (.inr (PT.nty HP13.out hb)))
       have hsz : W5.heap.size ≤ (w13.setCell ⟨c.g, 1, none⟩ (.int .i64 ((k' : Int) + 1))).heap.size := by have := HS13.out; simpa using this
       generalize (w13.setCell ⟨c.g, 1, none⟩ (.int .i64 ((k' : Int) + 1))) = W15 at hn hbm hbr hg hsz ⊢
       have HMX := HM13
       refine ⟨⟨k' + 1, (ks.length + 1), cl, ks ++ [Np.slot items], A8, cp8, by simp, by rw [HLN.out]; exact hbm, hbr, by rw [HLN.out]; exact hg, hn.1, by have := HKK.out; have := HK2.out; omega, HMX.out.trans hn.2, hsz, by rw [HLN.out]; have := HF'.out; omega, by rw [HLN.out]; have := HBLE.out; omega, ?_⟩, ?_⟩
       ·unfold Hid
        rw [HLN.out, show F - (ks.length + 1) = f' from by have := HF'.out; omega]
        exact HXS.out
       ·have h1 := hbm.cell 3
        have h0 := HC0.out
        rw [h1, h0]
        simp [slLen]
        have := HF'.out
        omega
    ·have e8 : ((kd : Int) == 8) = false := by rw [beq_eq_false_iff_ne]; omega
     have e8p : ¬ (kd : Int) = 8 := by omega
     rw [show (kd == 8) = false by simpa using h8] at HXS hbrk
     clear h8 hbrk
     go_wp2_with fail
     refine (HA.out 125 k' (op ++ [pl]) w13 HP13.out).mono ?_
     rintro _ w14 ⟨rfl, hf⟩
     have HS14 := hid (Nat.le_trans HS13.out hf.size)
     have HBM14 := hid (hf.blk HBM13.out fun h => h)
     have HBR14 := hid (hf.blk HBR13.out fun h => h)
     have HG14 := hid (HG13.out.fresh hf)
     have HP14 := hid (HP13.out.fresh hf)
     have HM14 := hid (HM13.out.fr hf)
     clear hf
     cases m125 : Np.isM 125 (c.T.drop k') with
     | false =>
      rw [if_pos ⟨trivial, m125⟩] at HXS
      clear m125
      go_wp2_with fail
      refine (HR.out k' (op ++ [pl]) w14 HP14.out).mono ?_
      rintro _ w9 ⟨rfl, hf⟩
      have HM3 := hid (HM14.out.fr hf)
      have HBF3 := hid (hf.blk HBR14.out fun h => h)
      clear hf
      simp only [Np.refuse] at HXS
      rw [HXS.out] at HQ
      generalize Np.place c.en (c.T.drop k') = pl' at HQ ⊢
      obtain ⟨q0, q1, z0, z1, hlt3⟩ := Blk.two HBF3.out
      (try unfold failV)
      go_wp2_with fail
      have n1 := HBF3.out.self2 (.int .i64 (pl' : Int)) (.int .i64 3)
      have hm4 : Mp c.g c.W0.heap.size w (put2 w9 (w.heap.size) (.int .i64 (pl' : Int)) (.int .i64 3)) := HM3.out.put2 (g := w.heap.size) (.inr (by omega)) (.int .i64 (pl' : Int)) (.int .i64 3)
      have ht4 := touch2 w9 (w.heap.size) (.int .i64 (pl' : Int)) (.int .i64 3)
      simp only [put2] at n1 hm4 ht4
      generalize (World.setCell (World.setCell w9 ⟨w.heap.size, 0, none⟩ _) ⟨w.heap.size, 1, none⟩ _) = W4 at n1 hm4 ht4 ⊢
      obtain ⟨f0, f1, _⟩ := Blk.two n1
      (try simp only [Exit.inBlock, Exit.then])
      refine bodyPost_ret (v := .tuple #[.slice none 0 0, failV pl' 3]) (by simp [failV, results, Tryz.results109, go_sem, f0, f1]) rfl ?_
      exact HQ.out _ _ ⟨by decide, none, 0, 0, rfl, hm4⟩
     | true =>
      rw [if_neg (fun h => by rw [m125] at h; cases h.2)] at HXS
      have M125 := hid m125
      have HKT := hid (isM_lt m125)
      clear m125
      by_cases hb0 : b = 0
      ·subst hb0
       rw [if_neg (by simp [Np.colN]), if_pos trivial] at HXS
       simp only [Np.colN, if_true] at HXS
       have hnb : ks.length ≤ 1000000 := by have := HFF.out; have := HLE.out; omega
       obtain ⟨p0, p1, p2, p3, y0, y1, y2, y3, hlt0⟩ := Blk.four HBM14.out
       go_wp2_with fail
       clear hnb
       clear p0 p1 p2 p3 y0 y1 y2 y3 hlt0
       have hbm : Blk _ w4.heap.size 24 #[.int .i64 12, .string ⟨#[]⟩, .int .i64 ((ks.length : Int) + 1), .slice A8 (ks.length + 1) cp8] := HBM14.out.put 2 (.int .i64 ((ks.length : Int) + 1))
       have hbr := HBR14.out.far (p := ⟨w4.heap.size, 2, none⟩) (by have := HS4.out; simp; omega) (.int .i64 ((ks.length : Int) + 1))
       have ht := (Touch.refl (fun b => b = w4.heap.size) w14).setCell (p := ⟨w4.heap.size, 2, none⟩) (.inl rfl) (.int .i64 ((ks.length : Int) + 1))
       have hg := HG14.out.mv ht (by have := HSZ5.out; have := HS4.out; omega) (fun k hk => by have := HSZ5.out; omega) (fun k hk => .inl hk)
       have hp := HP14.out.mv ht (fun b hb => by have := HW0.out; have := HS4.out; subst hb; exact ⟨by omega, by omega, _, _, (by decide), HBM14.out⟩)
       have hm : Mp c.g c.W0.heap.size w (w14.setCell ⟨w4.heap.size, 2, none⟩ (.int .i64 ((ks.length : Int) + 1))) := HM14.out.setCell (p := ⟨w4.heap.size, 2, none⟩) (.inr (by show w.heap.size ≤ w4.heap.size; have := HS4.out; omega)) (.int .i64 ((ks.length : Int) + 1))
       have hs : W5.heap.size ≤ (w14.setCell ⟨w4.heap.size, 2, none⟩ (.int .i64 ((ks.length : Int) + 1))).heap.size := by have := HS14.out; simpa using this
       generalize (w14.setCell ⟨w4.heap.size, 2, none⟩ (.int .i64 ((ks.length : Int) + 1))) = W15 at hbm hbr hg hp hm hs ⊢
       have HBM15 := hid hbm
       have HBR15 := hid hbr
       have HG15 := hid hg
       have HP15 := hid hp
       have HM15 := hid hm
       have HS15 := hid hs
       clear hbm hbr hg hp hm hs ht
       have htk := HG15.out.tree (by have := HSZ5.out; have := HS4.out; omega)
       have HTK := hid htk
       clear htk
       rw [HXS.out] at HQ
       refine wp_region_plan_in (fun X => Blk X w4.heap.size 24 #[.int .i64 12, .string ⟨#[]⟩, .int .i64 ((ks.length + 1) : Int), .slice A8 (ks.length + 1) cp8]) (.plain 0 (.plain 2 (.fork 1 (.lone 3 (.plain 4 (.lone 5 .nil))) 3 (.lone 1 (.plain 4 (.lone 5 .nil)))))) [0, 1, 2, 3, 4, 5] #[true, true, true, true, true, true] (by kernel_rfl) (fun _ _ d _ _ h => by cases d <;> exact h) (by kernel_rfl) (HBM15.out.drewN 1) ?_
       refine wpPlan_plain rfl (fun K hK => ?_)
       rw [if_pos (by rfl)]
       refine ⟨.agg #[.int .i64 12, .string ⟨#[]⟩, .int .i64 ((ks.length + 1) : Int), .slice A8 (ks.length + 1) cp8], fun X hX => ?_, hK _ ?_⟩
       ·obtain ⟨p0, p1, p2, p3, _⟩ := Blk.four hX
        go_simp
       clear hK K
       refine wpPlan_plain rfl (fun K hK => ?_)
       rw [if_pos (by rfl)]
       refine ⟨.pointer (some ⟨c.g, 0, none⟩), fun X hX => ?_, hK _ ?_⟩
       ·go_simp
       clear hK K
       refine wpPlan_fork ?_ ?_
       ·have hfa : Fresh W15 ((W15.drewN 1).alloc (.cells #[.int .i64 12, .string ⟨#[]⟩, .int .i64 ((ks.length + 1) : Int), .slice A8 (ks.length + 1) cp8] 24)) := ((Touch.refl _ _).drewN 1).alloc _
        have hta : TreT w.heap.size ((W15.drewN 1).alloc (.cells #[.int .i64 12, .string ⟨#[]⟩, .int .i64 ((ks.length + 1) : Int), .slice A8 (ks.length + 1) cp8] 24)) [(Nd.mk 12 [] ((ks.length + 1) : Nat) (ks ++ [Np.slot items]))] (.slice (some ⟨(W15.drewN 1).heap.size, 0, none⟩) 1 1) :=
         TreT.lit (n := (Nd.mk 12 [] ((ks.length + 1) : Nat) (ks ++ [Np.slot items]))) (HTK.out.fresh ((Touch.refl _ W15).drewN 1)) HM15.out.size (Nat.zero_le _)
        refine wpPlan_lone rfl (fun K hK => ?_)
        go_wp2_with fail
        change TreT w.heap.size ((W15.drewN 1).alloc (.cells #[.int .i64 12, .string ⟨#[]⟩, .int .i64 ((ks.length + 1) : Int), .slice A8 (ks.length + 1) cp8] 24)) [(Nd.mk 12 [] ((ks.length + 1) : Nat) (ks ++ [Np.slot items]))] (.slice (some ⟨W15.heap.size, 0, none⟩) 1 1) at hta
        generalize ((W15.drewN 1).alloc (.cells #[.int .i64 12, .string ⟨#[]⟩, .int .i64 ((ks.length + 1) : Int), .slice A8 (ks.length + 1) cp8] 24)) = WA at hfa hta ⊢
        have HFA := hid hfa
        have HTA := hid hta
        have HPA := hid (HP15.out.fresh hfa)
        have HBA := hid (hfa.blk HBR15.out fun h => h)
        have HMA := hid (HM15.out.fr hfa)
        refine hK _ _ (hfa.blk HBM15.out fun h => h) ?_
        have HBC := hid (hfa.blk HBM15.out fun h => h)
        clear hK K hfa hta
        refine wpPlan_lone rfl (fun K hK => ?_)
        go_wp2_with fail
        refine (HFI.out k' pl WA HPA.out (.inl HKT.out)).mono ?_
        rintro _ w21 (⟨_, rfl, hp, hm⟩ | ⟨hx, _⟩)
        case inr => rw [M125.out] at hx; cases hx
        have HP21 := hid hp
        have HB21 := hid (hm.blk HBA.out (by omega) (by decide))
        have HM21 := hid (HMA.out.trans hm)
        have HT21 := hid (HTA.out.mp hm HPA.out)
        unfold failV
        go_wp2_with fail
        refine hK _ _ (hm.blk HBC.out (by have := HS4.out; omega) (by decide)) ?_
        have HC21 := hid (hm.blk HBC.out (by have := HS4.out; omega) (by decide))
        clear hK K hp hm
        refine wpPlan_plain rfl (fun K hK => ?_)
        rw [if_pos (by rfl)]
        refine ⟨.slice (some ⟨W15.heap.size, 0, none⟩) 1 1, fun X hX => ?_, hK _ ?_⟩
        ·go_simp
        clear hK K
        skip
        obtain ⟨p0, p1, y0, y1, hlt⟩ := Blk.two HB21.out
        refine wpPlan_lone rfl (fun K hK => ?_)
        go_wp2_with fail
        have hb5 := HB21.out.self2 (.int .i64 0) (.int .i64 0)
        have hc5 := HC21.out.far2 (L := w4.heap.size) (g := w.heap.size) (by have := HS4.out; omega) (.int .i64 0) (.int .i64 0)
        have hps := HP21.out.put2 HB21.out (by decide) (by omega) HW0.out (.int .i64 0) (.int .i64 0)
        have htr := HT21.out.other HB21.out (by decide) (touch2 w21 w.heap.size (.int .i64 0) (.int .i64 0))
        have hm5 : Mp c.g c.W0.heap.size w _ := HM21.out.put2 (g := w.heap.size) (.inr (Nat.le_refl _)) (.int .i64 0) (.int .i64 0)
        simp only [put2] at hb5 hc5 hps htr hm5
        generalize World.setCell (World.setCell w21 ⟨w.heap.size, 0, none⟩ _) ⟨w.heap.size, 1, none⟩ _ = W22 at hb5 hc5 hps htr hm5 ⊢
        refine hK _ _ hc5 ?_
        clear hK K p0 p1 y0 y1 hlt
        refine wpPlan_nil ?_
        go_wp2_with fail
        obtain ⟨f0, f1, _⟩ := Blk.two hb5
        (try simp only [Exit.inBlock, Exit.then])
        refine bodyPost_ret (v := .tuple #[.slice (some ⟨W15.heap.size, 0, none⟩) 1 1, failV 0 0]) (by simp [failV, results, Tryz.results109, go_sem, f0, f1]) rfl ?_
        exact HQ.out _ _ ⟨_, 1, k' + 1, rfl, htr, (List.tail_drop ..).symm, by have := HKK.out; have := HK2.out; omega, hps, hm5⟩
       ·refine wpPlan_lone rfl (fun K hK => ?_)
        go_wp2_with fail
        refine (HFI.out k' pl _ (HP15.out.fresh ((Touch.refl _ _).drewN 1)) (.inl HKT.out)).mono ?_
        rintro _ wb (⟨_, rfl, hp, hm⟩ | ⟨hx, _⟩)
        case inr => rw [M125.out] at hx; cases hx
        have hm' : Mp c.g c.W0.heap.size W15 wb := (Mp.fresh ((Touch.refl _ W15).drewN 1)).trans hm
        have HPB := hid hp
        have HBB := hid (hm'.blk HBR15.out (by omega) (by decide))
        have HCB := hid (hm'.blk HBM15.out (by have := HS4.out; omega) (by decide))
        have HMB := hid (HM15.out.trans hm')
        have HTB := hid (HTK.out.mp hm' HP15.out)
        unfold failV
        go_wp2_with fail
        refine hK _ _ HCB.out ?_
        clear hK K hp hm hm'
        have hfa : Fresh wb (wb.alloc (.cells #[.int .i64 12, .string ⟨#[]⟩, .int .i64 ((ks.length + 1) : Int), .slice A8 (ks.length + 1) cp8] 24)) := (Touch.refl _ _).alloc _
        have hta : TreT w.heap.size (wb.alloc (.cells #[.int .i64 12, .string ⟨#[]⟩, .int .i64 ((ks.length + 1) : Int), .slice A8 (ks.length + 1) cp8] 24)) [(Nd.mk 12 [] ((ks.length + 1) : Nat) (ks ++ [Np.slot items]))] (.slice (some ⟨wb.heap.size, 0, none⟩) 1 1) :=
         TreT.lit (n := (Nd.mk 12 [] ((ks.length + 1) : Nat) (ks ++ [Np.slot items]))) HTB.out HMB.out.size (Nat.zero_le _)
        refine wpPlan_lone rfl (fun K hK => ?_)
        go_wp2_with fail
        generalize (wb.alloc (.cells #[.int .i64 12, .string ⟨#[]⟩, .int .i64 ((ks.length + 1) : Int), .slice A8 (ks.length + 1) cp8] 24)) = w21 at hfa hta ⊢
        have HP21 := hid (HPB.out.fresh hfa)
        have HB21 := hid (hfa.blk HBB.out fun h => h)
        have HM21 := hid (HMB.out.fr hfa)
        have HT21 := hid hta
        have HC21 := hid (hfa.blk HCB.out fun h => h)
        refine hK _ _ HC21.out ?_
        clear hK K hfa hta
        refine wpPlan_plain rfl (fun K hK => ?_)
        rw [if_pos (by rfl)]
        refine ⟨.slice (some ⟨wb.heap.size, 0, none⟩) 1 1, fun X hX => ?_, hK _ ?_⟩
        ·go_simp
        clear hK K
        obtain ⟨p0, p1, y0, y1, hlt⟩ := Blk.two HB21.out
        refine wpPlan_lone rfl (fun K hK => ?_)
        go_wp2_with fail
        have hb5 := HB21.out.self2 (.int .i64 0) (.int .i64 0)
        have hc5 := HC21.out.far2 (L := w4.heap.size) (g := w.heap.size) (by have := HS4.out; omega) (.int .i64 0) (.int .i64 0)
        have hps := HP21.out.put2 HB21.out (by decide) (by omega) HW0.out (.int .i64 0) (.int .i64 0)
        have htr := HT21.out.other HB21.out (by decide) (touch2 w21 w.heap.size (.int .i64 0) (.int .i64 0))
        have hm5 : Mp c.g c.W0.heap.size w _ := HM21.out.put2 (g := w.heap.size) (.inr (Nat.le_refl _)) (.int .i64 0) (.int .i64 0)
        simp only [put2] at hb5 hc5 hps htr hm5
        generalize World.setCell (World.setCell w21 ⟨w.heap.size, 0, none⟩ _) ⟨w.heap.size, 1, none⟩ _ = W22 at hb5 hc5 hps htr hm5 ⊢
        refine hK _ _ hc5 ?_
        clear hK K p0 p1 y0 y1 hlt
        refine wpPlan_nil ?_
        go_wp2_with fail
        obtain ⟨f0, f1, _⟩ := Blk.two hb5
        (try simp only [Exit.inBlock, Exit.then])
        refine bodyPost_ret (v := .tuple #[.slice (some ⟨wb.heap.size, 0, none⟩) 1 1, failV 0 0]) (by simp [failV, results, Tryz.results109, go_sem, f0, f1]) rfl ?_
        exact HQ.out _ _ ⟨_, 1, k' + 1, rfl, htr, (List.tail_drop ..).symm, by have := HKK.out; have := HK2.out; omega, hps, hm5⟩
      ·by_cases hmis : ks.length + 1 - b ≠ cl
       ·skip
        rw [if_pos (by rw [Np.colN, if_neg hb0]; exact hmis)] at HXS
        have hnb : ks.length ≤ 1000000 := by have := HFF.out; have := HLE.out; omega
        have hbn : b ≤ ks.length := HBLE.out
        obtain ⟨m, hm⟩ : ∃ m, ks.length + 1 = b + m := ⟨ks.length + 1 - b, by omega⟩
        have t1 : (ks.length : Int) + 1 - (b : Int) = (m : Int) := by omega
        have t2 : ((m : Int) == (cl : Int)) = false := by rw [beq_eq_false_iff_ne]; omega
        have t3 : ((m : Int) != (cl : Int)) = true := by rw [bne_iff_ne]; omega
        have t4 : ((b : Int) == 0) = false := by rw [beq_eq_false_iff_ne]; omega
        have t5 : IntKind.i64.wrap (m : Int) = (m : Int) := IntWalk.i64_in _ (by omega)
        have t6 : ¬ (b : Int) = 0 := by omega
        clear hm
        obtain ⟨p0, p1, p2, p3, y0, y1, y2, y3, hlt0⟩ := Blk.four HBM14.out
        clear hmis hb0
        go_wp2_with fail
        clear t1 t2 t3 t4 t5 t6 hnb hbn
        clear p0 p1 p2 p3 y0 y1 y2 y3 hlt0
        refine (HT.out k' (op ++ [pl]) w14 HP14.out).mono ?_
        rw [HTOK.out]
        rintro _ w20 ⟨rfl, hf⟩
        have HBR20 := hid (hf.blk HBR14.out fun h => h)
        have HM20 := hid (HM14.out.fr hf)
        clear hf
        obtain ⟨p0, p1, y0, y1, hlt⟩ := Blk.two HBR20.out
        go_wp2_with fail
        have hb5 := HBR20.out.self2 (.int .i64 (fr : Int)) (.int .i64 3)
        have hm5 : Mp c.g c.W0.heap.size w _ := HM20.out.put2 (g := w.heap.size) (.inr (Nat.le_refl _)) (.int .i64 (fr : Int)) (.int .i64 3)
        obtain ⟨f0, f1, _⟩ := Blk.two hb5
        simp only [put2] at f0 f1 hm5
        (try simp only [Exit.inBlock, Exit.then])
        refine bodyPost_ret (v := .tuple #[.slice none 0 0, failV fr 3]) (by simp [failV, results, Tryz.results109, go_sem, f0, f1]) rfl ?_
        rw [HXS.out, ← HFR.out] at HQ
        exact HQ.out _ _ ⟨by decide, none, 0, 0, rfl, hm5⟩
       ·rw [if_neg (by rw [Np.colN, if_neg hb0]; exact hmis), if_pos trivial] at HXS
        simp only [Np.colN, if_neg hb0] at HXS
        have hnb : ks.length ≤ 1000000 := by have := HFF.out; have := HLE.out; omega
        have hbn : b ≤ ks.length := HBLE.out
        have t1 : (ks.length : Int) + 1 - (b : Int) = (cl : Int) := by omega
        have t2 : ((cl : Int) == (cl : Int)) = true := by simp
        have t4 : ((b : Int) == 0) = false := by rw [beq_eq_false_iff_ne]; omega
        have t5 : IntKind.i64.wrap (cl : Int) = (cl : Int) := IntWalk.i64_in _ (by omega)
        have t6 : ¬ (b : Int) = 0 := by omega
        clear hmis
        obtain ⟨p0, p1, p2, p3, y0, y1, y2, y3, hlt0⟩ := Blk.four HBM14.out
        clear hb0
        go_wp2_with fail
        clear t1 t2 t4 t5 t6 hnb hbn
        clear p0 p1 p2 p3 y0 y1 y2 y3 hlt0
        have htk := HG14.out.tree (by have := HSZ5.out; have := HS4.out; omega)
        have HTK := hid htk
        clear htk
        rw [HXS.out] at HQ
        refine wp_region_plan_in (fun X => Blk X w4.heap.size 24 #[.int .i64 12, .string ⟨#[]⟩, .int .i64 (cl : Int), .slice A8 (ks.length + 1) cp8]) (.plain 0 (.plain 2 (.fork 1 (.lone 3 (.plain 4 (.lone 5 .nil))) 3 (.lone 1 (.plain 4 (.lone 5 .nil)))))) [0, 1, 2, 3, 4, 5] #[true, true, true, true, true, true] (by kernel_rfl) (fun _ _ d _ _ h => by cases d <;> exact h) (by kernel_rfl) (HBM14.out.drewN 1) ?_
        refine wpPlan_plain rfl (fun K hK => ?_)
        rw [if_pos (by rfl)]
        refine ⟨.agg #[.int .i64 12, .string ⟨#[]⟩, .int .i64 (cl : Int), .slice A8 (ks.length + 1) cp8], fun X hX => ?_, hK _ ?_⟩
        ·obtain ⟨p0, p1, p2, p3, _⟩ := Blk.four hX
         go_simp
        clear hK K
        refine wpPlan_plain rfl (fun K hK => ?_)
        rw [if_pos (by rfl)]
        refine ⟨.pointer (some ⟨c.g, 0, none⟩), fun X hX => ?_, hK _ ?_⟩
        ·go_simp
        clear hK K
        refine wpPlan_fork ?_ ?_
        ·have hfa : Fresh w14 ((w14.drewN 1).alloc (.cells #[.int .i64 12, .string ⟨#[]⟩, .int .i64 (cl : Int), .slice A8 (ks.length + 1) cp8] 24)) := ((Touch.refl _ _).drewN 1).alloc _
         have hta : TreT w.heap.size ((w14.drewN 1).alloc (.cells #[.int .i64 12, .string ⟨#[]⟩, .int .i64 (cl : Int), .slice A8 (ks.length + 1) cp8] 24)) [(Nd.mk 12 [] (cl : Nat) (ks ++ [Np.slot items]))] (.slice (some ⟨(w14.drewN 1).heap.size, 0, none⟩) 1 1) :=
          TreT.lit (n := (Nd.mk 12 [] (cl : Nat) (ks ++ [Np.slot items]))) (HTK.out.fresh ((Touch.refl _ w14).drewN 1)) HM14.out.size (Nat.zero_le _)
         refine wpPlan_lone rfl (fun K hK => ?_)
         go_wp2_with fail
         change TreT w.heap.size ((w14.drewN 1).alloc (.cells #[.int .i64 12, .string ⟨#[]⟩, .int .i64 (cl : Int), .slice A8 (ks.length + 1) cp8] 24)) [(Nd.mk 12 [] (cl : Nat) (ks ++ [Np.slot items]))] (.slice (some ⟨w14.heap.size, 0, none⟩) 1 1) at hta
         generalize ((w14.drewN 1).alloc (.cells #[.int .i64 12, .string ⟨#[]⟩, .int .i64 (cl : Int), .slice A8 (ks.length + 1) cp8] 24)) = WA at hfa hta ⊢
         have HFA := hid hfa
         have HTA := hid hta
         have HPA := hid (HP14.out.fresh hfa)
         have HBA := hid (hfa.blk HBR14.out fun h => h)
         have HMA := hid (HM14.out.fr hfa)
         refine hK _ _ (hfa.blk HBM14.out fun h => h) ?_
         have HBC := hid (hfa.blk HBM14.out fun h => h)
         clear hK K hfa hta
         refine wpPlan_lone rfl (fun K hK => ?_)
         go_wp2_with fail
         refine (HFI.out k' pl WA HPA.out (.inl HKT.out)).mono ?_
         rintro _ w21 (⟨_, rfl, hp, hm⟩ | ⟨hx, _⟩)
         case inr => rw [M125.out] at hx; cases hx
         have HP21 := hid hp
         have HB21 := hid (hm.blk HBA.out (by omega) (by decide))
         have HM21 := hid (HMA.out.trans hm)
         have HT21 := hid (HTA.out.mp hm HPA.out)
         unfold failV
         go_wp2_with fail
         refine hK _ _ (hm.blk HBC.out (by have := HS4.out; omega) (by decide)) ?_
         have HC21 := hid (hm.blk HBC.out (by have := HS4.out; omega) (by decide))
         clear hK K hp hm
         refine wpPlan_plain rfl (fun K hK => ?_)
         rw [if_pos (by rfl)]
         refine ⟨.slice (some ⟨w14.heap.size, 0, none⟩) 1 1, fun X hX => ?_, hK _ ?_⟩
         ·go_simp
         clear hK K
         skip
         obtain ⟨p0, p1, y0, y1, hlt⟩ := Blk.two HB21.out
         refine wpPlan_lone rfl (fun K hK => ?_)
         go_wp2_with fail
         have hb5 := HB21.out.self2 (.int .i64 0) (.int .i64 0)
         have hc5 := HC21.out.far2 (L := w4.heap.size) (g := w.heap.size) (by have := HS4.out; omega) (.int .i64 0) (.int .i64 0)
         have hps := HP21.out.put2 HB21.out (by decide) (by omega) HW0.out (.int .i64 0) (.int .i64 0)
         have htr := HT21.out.other HB21.out (by decide) (touch2 w21 w.heap.size (.int .i64 0) (.int .i64 0))
         have hm5 : Mp c.g c.W0.heap.size w _ := HM21.out.put2 (g := w.heap.size) (.inr (Nat.le_refl _)) (.int .i64 0) (.int .i64 0)
         simp only [put2] at hb5 hc5 hps htr hm5
         generalize World.setCell (World.setCell w21 ⟨w.heap.size, 0, none⟩ _) ⟨w.heap.size, 1, none⟩ _ = W22 at hb5 hc5 hps htr hm5 ⊢
         refine hK _ _ hc5 ?_
         clear hK K p0 p1 y0 y1 hlt
         refine wpPlan_nil ?_
         go_wp2_with fail
         obtain ⟨f0, f1, _⟩ := Blk.two hb5
         (try simp only [Exit.inBlock, Exit.then])
         refine bodyPost_ret (v := .tuple #[.slice (some ⟨w14.heap.size, 0, none⟩) 1 1, failV 0 0]) (by simp [failV, results, Tryz.results109, go_sem, f0, f1]) rfl ?_
         exact HQ.out _ _ ⟨_, 1, k' + 1, rfl, htr, (List.tail_drop ..).symm, by have := HKK.out; have := HK2.out; omega, hps, hm5⟩
        ·refine wpPlan_lone rfl (fun K hK => ?_)
         go_wp2_with fail
         refine (HFI.out k' pl _ (HP14.out.fresh ((Touch.refl _ _).drewN 1)) (.inl HKT.out)).mono ?_
         rintro _ wb (⟨_, rfl, hp, hm⟩ | ⟨hx, _⟩)
         case inr => rw [M125.out] at hx; cases hx
         have hm' : Mp c.g c.W0.heap.size w14 wb := (Mp.fresh ((Touch.refl _ w14).drewN 1)).trans hm
         have HPB := hid hp
         have HBB := hid (hm'.blk HBR14.out (by omega) (by decide))
         have HCB := hid (hm'.blk HBM14.out (by have := HS4.out; omega) (by decide))
         have HMB := hid (HM14.out.trans hm')
         have HTB := hid (HTK.out.mp hm' HP14.out)
         unfold failV
         go_wp2_with fail
         refine hK _ _ HCB.out ?_
         clear hK K hp hm hm'
         have hfa : Fresh wb (wb.alloc (.cells #[.int .i64 12, .string ⟨#[]⟩, .int .i64 (cl : Int), .slice A8 (ks.length + 1) cp8] 24)) := (Touch.refl _ _).alloc _
         have hta : TreT w.heap.size (wb.alloc (.cells #[.int .i64 12, .string ⟨#[]⟩, .int .i64 (cl : Int), .slice A8 (ks.length + 1) cp8] 24)) [(Nd.mk 12 [] (cl : Nat) (ks ++ [Np.slot items]))] (.slice (some ⟨wb.heap.size, 0, none⟩) 1 1) :=
          TreT.lit (n := (Nd.mk 12 [] (cl : Nat) (ks ++ [Np.slot items]))) HTB.out HMB.out.size (Nat.zero_le _)
         refine wpPlan_lone rfl (fun K hK => ?_)
         go_wp2_with fail
         generalize (wb.alloc (.cells #[.int .i64 12, .string ⟨#[]⟩, .int .i64 (cl : Int), .slice A8 (ks.length + 1) cp8] 24)) = w21 at hfa hta ⊢
         have HP21 := hid (HPB.out.fresh hfa)
         have HB21 := hid (hfa.blk HBB.out fun h => h)
         have HM21 := hid (HMB.out.fr hfa)
         have HT21 := hid hta
         have HC21 := hid (hfa.blk HCB.out fun h => h)
         refine hK _ _ HC21.out ?_
         clear hK K hfa hta
         refine wpPlan_plain rfl (fun K hK => ?_)
         rw [if_pos (by rfl)]
         refine ⟨.slice (some ⟨wb.heap.size, 0, none⟩) 1 1, fun X hX => ?_, hK _ ?_⟩
         ·go_simp
         clear hK K
         obtain ⟨p0, p1, y0, y1, hlt⟩ := Blk.two HB21.out
         refine wpPlan_lone rfl (fun K hK => ?_)
         go_wp2_with fail
         have hb5 := HB21.out.self2 (.int .i64 0) (.int .i64 0)
         have hc5 := HC21.out.far2 (L := w4.heap.size) (g := w.heap.size) (by have := HS4.out; omega) (.int .i64 0) (.int .i64 0)
         have hps := HP21.out.put2 HB21.out (by decide) (by omega) HW0.out (.int .i64 0) (.int .i64 0)
         have htr := HT21.out.other HB21.out (by decide) (touch2 w21 w.heap.size (.int .i64 0) (.int .i64 0))
         have hm5 : Mp c.g c.W0.heap.size w _ := HM21.out.put2 (g := w.heap.size) (.inr (Nat.le_refl _)) (.int .i64 0) (.int .i64 0)
         simp only [put2] at hb5 hc5 hps htr hm5
         generalize World.setCell (World.setCell w21 ⟨w.heap.size, 0, none⟩ _) ⟨w.heap.size, 1, none⟩ _ = W22 at hb5 hc5 hps htr hm5 ⊢
         refine hK _ _ hc5 ?_
         clear hK K p0 p1 y0 y1 hlt
         refine wpPlan_nil ?_
         go_wp2_with fail
         obtain ⟨f0, f1, _⟩ := Blk.two hb5
         (try simp only [Exit.inBlock, Exit.then])
         refine bodyPost_ret (v := .tuple #[.slice (some ⟨wb.heap.size, 0, none⟩) 1 1, failV 0 0]) (by simp [failV, results, Tryz.results109, go_sem, f0, f1]) rfl ?_
         exact HQ.out _ _ ⟨_, 1, k' + 1, rfl, htr, (List.tail_drop ..).symm, by have := HKK.out; have := HK2.out; omega, hps, hm5⟩
end Go.Proofs.YtdacpbdamliafaaGreat

/- The parser's methods, by induction on the fuel of the plain reader; a new parser. -/
namespace Go.Proofs.YtdacpbdamliafaaGreat
open Go.RowKit
open Tr (Nd)
open Lx (PTok)
open Np (R pRow pIn pScript pItem pPrim pArgs pName pCells pArg)
theorem zero_row (c : Cf) : RowN c 0 := fun k op w _ _ hne => absurd (by rw [pRow]) hne
theorem zero_in (c : Cf) : EnclosedN c 0 := fun k op b w _ _ _ hne => absurd (by rw [pIn]) hne
theorem zero_arg (c : Cf) : ArgumentN c 0 := fun k op w _ _ hne => absurd (by rw [pArg]) hne
theorem zero_script (c : Cf) : ScriptN c 0 := fun k op b w _ _ hne => absurd (by rw [pScript]) hne
theorem zero_item (c : Cf) : ItemN c 0 := fun k op w _ _ hne => absurd (by rw [pItem]) hne
theorem zero_prim (c : Cf) : PrimaryN c 0 := fun k op w _ _ hne => absurd (by rw [pPrim]) hne
theorem zero_name (c : Cf) : NameN c 0 := fun k op t r w _ _ _ hne => absurd (by rw [pName]) hne
structure AllN (c : Cf) (f : Nat) : Prop where
 row : RowN c f
 enc : EnclosedN c f
 arg : ArgumentN c f
 scr : ScriptN c f
 item : ItemN c f
 prim : PrimaryN c f
 name : NameN c f
theorem name_one (c : Cf) (hc : c.Good) (bm : Nat) (hnm : c.Named bm) : NameN c 1 :=
 name_n c hc bm hnm 0 (fraction_n c hc 0 (with_n c hc 0 2 (by omega) fun f' h => by omega)) (root_n c hc 0 (with_n c hc 0 1 (by omega) fun f' h => by omega) (zero_in c))
  (matrix_n c hc 0 (by omega) fun f' h => by omega) (accent_n c hc 0 (with_n c hc 0 1 (by omega) fun f' h => by omega))
theorem all_upto (c : Cf) (hc : c.Good) (bm : Nat) (hnm : c.Named bm) : ∀ F, F ≤ 1000000 → ∀ f, f ≤ F → AllN c f
 | 0, _, f, hf => by
  obtain rfl : f = 0 := by omega
  exact ⟨zero_row c, zero_in c, zero_arg c, zero_script c, zero_item c, zero_prim c, zero_name c⟩
 | F + 1, hF, f, hf => by
  have ih := all_upto c hc bm hnm F (by omega)
  rcases Nat.lt_or_ge f (F + 1) with h | h
  ·exact ih f (by omega)
  ·obtain rfl : f = F + 1 := by omega
   have h0 := ih F (Nat.le_refl _)
   have harg : ∀ f', f' < F → ArgumentN c f' := fun f' h => (ih f' (by omega)).arg
   have w1 := with_n c hc F 1 (by omega) harg
   have w2 := with_n c hc F 2 (by omega) harg
   exact ⟨row_n c hc (F + 1) hF fun f' h => (ih f' (by omega)).item, enclosed_n c hc F h0.row, argument_n c hc bm hnm F h0.enc (name_one c hc bm hnm), script_n c hc F h0.arg, item_n c hc F h0.prim h0.scr, primary_n c hc F h0.name w1 h0.enc,
    name_n c hc bm hnm F (fraction_n c hc F w2) (root_n c hc F w1 h0.enc) (matrix_n c hc F (by omega) fun f' h => (ih f' (by omega)).row) (accent_n c hc F w1)⟩
theorem row_any_n (c : Cf) (hc : c.Good) (bm : Nat) (hnm : c.Named bm) (F : Nat) (hF : F ≤ 1000000) : RowN c F := (all_upto c hc bm hnm F hF F (Nat.le_refl _)).row
def mwE (g n : Nat) : List MapEntry := (namedEs g).take n
theorem putObj_alloc (w : World) (o o' : Obj) : { w.alloc o with heap := (w.alloc o).heap.setIfInBounds w.heap.size o' } = w.alloc o' := by
 simp only [World.alloc]
 congr 1
 apply Array.ext'
 rw [Array.toList_setIfInBounds, Array.toList_push, Array.toList_push, show w.heap.size = w.heap.toList.length from (Array.length_toList).symm, List.set_append_right _ _ (Nat.le_refl _), Nat.sub_self]
 rfl
theorem run_insert_new (w : World) (es : List MapEntry) (n : Nat) (s : List UInt8) (v : Value) (hf : Instr.findNow .string (.string ⟨s.toArray⟩) es 0 = some none) :
  (Instr.mapUpdate 128 (.map (some w.heap.size)) (.string ⟨s.toArray⟩) v).run Tryz.prog (w.alloc (.map es.toArray n)) = .ok () (w.alloc (.map (es ++ [(⟨.string ⟨s.toArray⟩, v, n⟩ : MapEntry)]).toArray (n + 1))) := by
 have hb : (w.alloc (.map es.toArray n)).heap[w.heap.size]? = some (.map es.toArray n) := heap_alloc_new w _
 have hc : (Instr.checkKey false 10000 9 (.string ⟨s.toArray⟩)).run Tryz.prog (w.alloc (.map es.toArray n)) = .ok () (w.alloc (.map es.toArray n)) := MapKept.run_checkKey (k := .string ⟨s.toArray⟩) Tryz.underlying9 (by simp [MapKept.IsKey]) false 9999
 simp [Instr.mapUpdate, run_underlying Tryz.underlying128, MapKept.run_getObj_map hb, hc, MapKept.run_findKey Tryz.underlying9 hf, MapKept.run_setObj_map _ hb, Result.andThen]
 exact putObj_alloc w _ _
theorem ins_n (w : World) (g : Nat) (n : Nat) (s : List UInt8) (F : FuncId) (hn : (namedL[n]?) = some (s, F)) (hf : Instr.findNow .string (.string ⟨s.toArray⟩) (mwE g n) 0 = some none) :
  (Instr.mapUpdate 128 (.map (some w.heap.size)) (.string ⟨s.toArray⟩) (.func (.func F) #[.pointer (some ⟨g, 0, none⟩)] #[])).run Tryz.prog (w.alloc (.map (mwE g n).toArray n)) = .ok () (w.alloc (.map (mwE g (n + 1)).toArray (n + 1))) := by
 rw [run_insert_new w (mwE g n) n s _ hf]
 have hg : (namedEs g)[n]? = some ⟨.string ⟨s.toArray⟩, methodV g F, n⟩ := by
  unfold namedEs
  rw [List.getElem?_map, List.getElem?_zipIdx, hn]
  simp
 have e : mwE g n ++ [⟨.string ⟨s.toArray⟩, .func (.func F) #[.pointer (some ⟨g, 0, none⟩)] #[], n⟩] = mwE g (n + 1) := by
  unfold mwE
  rw [List.take_add_one, hg]
  rfl
 rw [e]
end Go.Proofs.YtdacpbdamliafaaGreat

/- A new parser. -/
namespace Go.Proofs.YtdacpbdamliafaaGreat
open Go.RowKit
open Tr (Nd)
open Lx (PTok)
set_option maxRecDepth 100000 in
set_option maxHeartbeats 1000000 in
theorem new_any_n (A : Option Addr) (n cp en : Nat) (w : World) : Calls Tryz.prog 80 #[.slice A n cp, .int .i64 (en : Int), .pointer none, .int .i64 0] w fun e w' =>
  e = .returned (.pointer (some ⟨w.heap.size, 0, none⟩)) ∧ Fresh w w' ∧ Blk w' w.heap.size 130 #[.slice A n cp, .int .i64 0, .int .i64 (en : Int), .slice none 0 0, .pointer none, .int .i64 0, .map (some (w.heap.size + 1)), .int .i64 0, .bool false] ∧ w'.heap[w.heap.size + 1]? = some (.map (namedEs w.heap.size).toArray 9) := by
 have hmf : ∀ (fn : Fn) (first cap : Array Value) (w : World), (Instr.makeFunc fn first cap).run Tryz.prog w = .ok (.func fn first cap) w := fun _ _ _ _ => rfl
 have hmm : ∀ W : World, (Instr.makeMap 128 none).run Tryz.prog W = .ok (.map (some W.heap.size)) (W.alloc (.map #[] 0)) := fun W => run_makeMap_plain W 128
 have hsz : (w.alloc (.cells #[.slice A n cp, .int .i64 0, .int .i64 (en : Int), .slice none 0 0, .pointer none, .int .i64 0, .map none, .int .i64 0, .bool false] 130)).heap.size = w.heap.size + 1 := by simp
 have h0 : (Instr.mapUpdate 128 (.map (some (w.heap.size + 1))) (.string ⟨#[102, 114, 97, 99]⟩) (.func (.func 107) #[.pointer (some ⟨w.heap.size, 0, none⟩)] #[])).run Tryz.prog ((w.alloc (.cells #[.slice A n cp, .int .i64 0, .int .i64 (en : Int), .slice none 0 0, .pointer none, .int .i64 0, .map none, .int .i64 0, .bool false] 130)).alloc (.map #[] 0)) = .ok () ((w.alloc (.cells #[.slice A n cp, .int .i64 0, .int .i64 (en : Int), .slice none 0 0, .pointer none, .int .i64 0, .map none, .int .i64 0, .bool false] 130)).alloc (.map (mwE w.heap.size 1).toArray 1)) := by
  have := ins_n (w.alloc (.cells #[.slice A n cp, .int .i64 0, .int .i64 (en : Int), .slice none 0 0, .pointer none, .int .i64 0, .map none, .int .i64 0, .bool false] 130)) w.heap.size 0 [102, 114, 97, 99] 107 rfl rfl
  rw [hsz] at this
  exact this
 have h1 : (Instr.mapUpdate 128 (.map (some (w.heap.size + 1))) (.string ⟨#[114, 111, 111, 116]⟩) (.func (.func 108) #[.pointer (some ⟨w.heap.size, 0, none⟩)] #[])).run Tryz.prog ((w.alloc (.cells #[.slice A n cp, .int .i64 0, .int .i64 (en : Int), .slice none 0 0, .pointer none, .int .i64 0, .map none, .int .i64 0, .bool false] 130)).alloc (.map (mwE w.heap.size 1).toArray 1)) = .ok () ((w.alloc (.cells #[.slice A n cp, .int .i64 0, .int .i64 (en : Int), .slice none 0 0, .pointer none, .int .i64 0, .map none, .int .i64 0, .bool false] 130)).alloc (.map (mwE w.heap.size 2).toArray 2)) := by
  have := ins_n (w.alloc (.cells #[.slice A n cp, .int .i64 0, .int .i64 (en : Int), .slice none 0 0, .pointer none, .int .i64 0, .map none, .int .i64 0, .bool false] 130)) w.heap.size 1 [114, 111, 111, 116] 108 rfl rfl
  rw [hsz] at this
  exact this
 have h2 : (Instr.mapUpdate 128 (.map (some (w.heap.size + 1))) (.string ⟨#[109, 97, 116, 114, 105, 120]⟩) (.func (.func 109) #[.pointer (some ⟨w.heap.size, 0, none⟩)] #[])).run Tryz.prog ((w.alloc (.cells #[.slice A n cp, .int .i64 0, .int .i64 (en : Int), .slice none 0 0, .pointer none, .int .i64 0, .map none, .int .i64 0, .bool false] 130)).alloc (.map (mwE w.heap.size 2).toArray 2)) = .ok () ((w.alloc (.cells #[.slice A n cp, .int .i64 0, .int .i64 (en : Int), .slice none 0 0, .pointer none, .int .i64 0, .map none, .int .i64 0, .bool false] 130)).alloc (.map (mwE w.heap.size 3).toArray 3)) := by
  have := ins_n (w.alloc (.cells #[.slice A n cp, .int .i64 0, .int .i64 (en : Int), .slice none 0 0, .pointer none, .int .i64 0, .map none, .int .i64 0, .bool false] 130)) w.heap.size 2 [109, 97, 116, 114, 105, 120] 109 rfl rfl
  rw [hsz] at this
  exact this
 have h3 : (Instr.mapUpdate 128 (.map (some (w.heap.size + 1))) (.string ⟨#[104, 97, 116]⟩) (.func (.func 110) #[.pointer (some ⟨w.heap.size, 0, none⟩)] #[])).run Tryz.prog ((w.alloc (.cells #[.slice A n cp, .int .i64 0, .int .i64 (en : Int), .slice none 0 0, .pointer none, .int .i64 0, .map none, .int .i64 0, .bool false] 130)).alloc (.map (mwE w.heap.size 3).toArray 3)) = .ok () ((w.alloc (.cells #[.slice A n cp, .int .i64 0, .int .i64 (en : Int), .slice none 0 0, .pointer none, .int .i64 0, .map none, .int .i64 0, .bool false] 130)).alloc (.map (mwE w.heap.size 4).toArray 4)) := by
  have := ins_n (w.alloc (.cells #[.slice A n cp, .int .i64 0, .int .i64 (en : Int), .slice none 0 0, .pointer none, .int .i64 0, .map none, .int .i64 0, .bool false] 130)) w.heap.size 3 [104, 97, 116] 110 rfl rfl
  rw [hsz] at this
  exact this
 have h4 : (Instr.mapUpdate 128 (.map (some (w.heap.size + 1))) (.string ⟨#[98, 97, 114]⟩) (.func (.func 110) #[.pointer (some ⟨w.heap.size, 0, none⟩)] #[])).run Tryz.prog ((w.alloc (.cells #[.slice A n cp, .int .i64 0, .int .i64 (en : Int), .slice none 0 0, .pointer none, .int .i64 0, .map none, .int .i64 0, .bool false] 130)).alloc (.map (mwE w.heap.size 4).toArray 4)) = .ok () ((w.alloc (.cells #[.slice A n cp, .int .i64 0, .int .i64 (en : Int), .slice none 0 0, .pointer none, .int .i64 0, .map none, .int .i64 0, .bool false] 130)).alloc (.map (mwE w.heap.size 5).toArray 5)) := by
  have := ins_n (w.alloc (.cells #[.slice A n cp, .int .i64 0, .int .i64 (en : Int), .slice none 0 0, .pointer none, .int .i64 0, .map none, .int .i64 0, .bool false] 130)) w.heap.size 4 [98, 97, 114] 110 rfl rfl
  rw [hsz] at this
  exact this
 have h5 : (Instr.mapUpdate 128 (.map (some (w.heap.size + 1))) (.string ⟨#[118, 101, 99]⟩) (.func (.func 110) #[.pointer (some ⟨w.heap.size, 0, none⟩)] #[])).run Tryz.prog ((w.alloc (.cells #[.slice A n cp, .int .i64 0, .int .i64 (en : Int), .slice none 0 0, .pointer none, .int .i64 0, .map none, .int .i64 0, .bool false] 130)).alloc (.map (mwE w.heap.size 5).toArray 5)) = .ok () ((w.alloc (.cells #[.slice A n cp, .int .i64 0, .int .i64 (en : Int), .slice none 0 0, .pointer none, .int .i64 0, .map none, .int .i64 0, .bool false] 130)).alloc (.map (mwE w.heap.size 6).toArray 6)) := by
  have := ins_n (w.alloc (.cells #[.slice A n cp, .int .i64 0, .int .i64 (en : Int), .slice none 0 0, .pointer none, .int .i64 0, .map none, .int .i64 0, .bool false] 130)) w.heap.size 5 [118, 101, 99] 110 rfl rfl
  rw [hsz] at this
  exact this
 have h6 : (Instr.mapUpdate 128 (.map (some (w.heap.size + 1))) (.string ⟨#[100, 111, 116]⟩) (.func (.func 110) #[.pointer (some ⟨w.heap.size, 0, none⟩)] #[])).run Tryz.prog ((w.alloc (.cells #[.slice A n cp, .int .i64 0, .int .i64 (en : Int), .slice none 0 0, .pointer none, .int .i64 0, .map none, .int .i64 0, .bool false] 130)).alloc (.map (mwE w.heap.size 6).toArray 6)) = .ok () ((w.alloc (.cells #[.slice A n cp, .int .i64 0, .int .i64 (en : Int), .slice none 0 0, .pointer none, .int .i64 0, .map none, .int .i64 0, .bool false] 130)).alloc (.map (mwE w.heap.size 7).toArray 7)) := by
  have := ins_n (w.alloc (.cells #[.slice A n cp, .int .i64 0, .int .i64 (en : Int), .slice none 0 0, .pointer none, .int .i64 0, .map none, .int .i64 0, .bool false] 130)) w.heap.size 6 [100, 111, 116] 110 rfl rfl
  rw [hsz] at this
  exact this
 have h7 : (Instr.mapUpdate 128 (.map (some (w.heap.size + 1))) (.string ⟨#[116, 105, 108, 100, 101]⟩) (.func (.func 110) #[.pointer (some ⟨w.heap.size, 0, none⟩)] #[])).run Tryz.prog ((w.alloc (.cells #[.slice A n cp, .int .i64 0, .int .i64 (en : Int), .slice none 0 0, .pointer none, .int .i64 0, .map none, .int .i64 0, .bool false] 130)).alloc (.map (mwE w.heap.size 7).toArray 7)) = .ok () ((w.alloc (.cells #[.slice A n cp, .int .i64 0, .int .i64 (en : Int), .slice none 0 0, .pointer none, .int .i64 0, .map none, .int .i64 0, .bool false] 130)).alloc (.map (mwE w.heap.size 8).toArray 8)) := by
  have := ins_n (w.alloc (.cells #[.slice A n cp, .int .i64 0, .int .i64 (en : Int), .slice none 0 0, .pointer none, .int .i64 0, .map none, .int .i64 0, .bool false] 130)) w.heap.size 7 [116, 105, 108, 100, 101] 110 rfl rfl
  rw [hsz] at this
  exact this
 have h8 : (Instr.mapUpdate 128 (.map (some (w.heap.size + 1))) (.string ⟨#[99, 104, 101, 99, 107]⟩) (.func (.func 110) #[.pointer (some ⟨w.heap.size, 0, none⟩)] #[])).run Tryz.prog ((w.alloc (.cells #[.slice A n cp, .int .i64 0, .int .i64 (en : Int), .slice none 0 0, .pointer none, .int .i64 0, .map none, .int .i64 0, .bool false] 130)).alloc (.map (mwE w.heap.size 8).toArray 8)) = .ok () ((w.alloc (.cells #[.slice A n cp, .int .i64 0, .int .i64 (en : Int), .slice none 0 0, .pointer none, .int .i64 0, .map none, .int .i64 0, .bool false] 130)).alloc (.map (mwE w.heap.size 9).toArray 9)) := by
  have := ins_n (w.alloc (.cells #[.slice A n cp, .int .i64 0, .int .i64 (en : Int), .slice none 0 0, .pointer none, .int .i64 0, .map none, .int .i64 0, .bool false] 130)) w.heap.size 8 [99, 104, 101, 99, 107] 110 rfl rfl
  rw [hsz] at this
  exact this
 clear hsz
 go_enter Tryz.func80, Tryz.ntmps80
 go_wp2_with fail
 go_ret
 refine ⟨rfl, ((Touch.refl _ w).alloc _).alloc _, (Blk.new w 130 #[.slice A n cp, .int .i64 0, .int .i64 (en : Int), .slice none 0 0, .pointer none, .int .i64 0, .map (some (w.heap.size + 1)), .int .i64 0, .bool false]).alloc _, ?_⟩
 have := heap_alloc_new (w.alloc (.cells #[.slice A n cp, .int .i64 0, .int .i64 (en : Int), .slice none 0 0, .pointer none, .int .i64 0, .map (some (w.heap.size + 1)), .int .i64 0, .bool false] 130)) (.map (mwE w.heap.size 9).toArray 9)
 rw [show (w.alloc (.cells #[.slice A n cp, .int .i64 0, .int .i64 (en : Int), .slice none 0 0, .pointer none, .int .i64 0, .map (some (w.heap.size + 1)), .int .i64 0, .bool false] 130)).heap.size = w.heap.size + 1 by simp] at this
 exact this
end Go.Proofs.YtdacpbdamliafaaGreat

/- The walks of the lexer's small methods: fail, is, run, token. -/
namespace Go.Proofs.YtdacpbdamliafaaGreat
open Go.RowKit
def lexCells (s : ByteArray) (a p e : Int) : Array Value :=
 (Array.ofFn (n := 256) fun i => Value.int .u8 (Lx.cls i.1 : Nat)) ++ #[.string s, .int .i64 a, .int .i64 p, .int .i64 e]
def LexAt (w : World) (L : Nat) (s : ByteArray) (a p e : Int) : Prop := Blk w L 160 (lexCells s a p e)
theorem lexCells_cls (s : ByteArray) (a p e : Int) (i : Nat) (h : i < 256) : (lexCells s a p e)[i]? = some (.int .u8 (Lx.cls i : Nat)) := by
 unfold lexCells
 rw [Array.getElem?_append_left (by simpa using h)]
 simp [h]
theorem lexCells_hi (s : ByteArray) (a p e : Int) (i : Nat) : (lexCells s a p e)[256 + i]? = (#[Value.string s, .int .i64 a, .int .i64 p, .int .i64 e] : Array Value)[i]? := by
 unfold lexCells
 rw [Array.getElem?_append_right (by simp)]
 simp
theorem lexCells_set (s : ByteArray) (a p e : Int) (i : Nat) (u : Value) : (lexCells s a p e).setIfInBounds (256 + i) u = (Array.ofFn (n := 256) fun i => Value.int .u8 (Lx.cls i.1 : Nat)) ++ (#[Value.string s, .int .i64 a, .int .i64 p, .int .i64 e].setIfInBounds i u) := by
 unfold lexCells
 rw [Array.setIfInBounds_append_right (by simp)]
 simp
section
variable {w : World} {L : Nat} {s : ByteArray} {a p e : Int}
theorem LexAt.text (h : LexAt w L s a p e) : w.cell? ⟨L, 256, none⟩ = some (.string s) := (Blk.cell h 256).trans (lexCells_hi s a p e 0)
theorem LexAt.at_ (h : LexAt w L s a p e) : w.cell? ⟨L, 257, none⟩ = some (.int .i64 a) := (Blk.cell h 257).trans (lexCells_hi s a p e 1)
theorem LexAt.place (h : LexAt w L s a p e) : w.cell? ⟨L, 258, none⟩ = some (.int .i64 p) := (Blk.cell h 258).trans (lexCells_hi s a p e 2)
theorem LexAt.err (h : LexAt w L s a p e) : w.cell? ⟨L, 259, none⟩ = some (.int .i64 e) := (Blk.cell h 259).trans (lexCells_hi s a p e 3)
theorem LexAt.cls (h : LexAt w L s a p e) (i : Nat) (hi : i < 256) : w.cell? ⟨L, i, none⟩ = some (.int .u8 (Lx.cls i : Nat)) := (Blk.cell h i).trans (lexCells_cls s a p e i hi)
theorem LexAt.drewN (h : LexAt w L s a p e) (n : Nat) : LexAt (w.drewN n) L s a p e := h
theorem LexAt.alloc (h : LexAt w L s a p e) (o : Obj) : LexAt (w.alloc o) L s a p e := Blk.alloc h o
theorem LexAt.setAt (h : LexAt w L s a p e) (x : Int) : LexAt (w.setCell ⟨L, 257, none⟩ (.int .i64 x)) L s x p e := by
 have := Blk.put h 257 (.int .i64 x)
 rw [show (257 : Nat) = 256 + 1 from rfl, lexCells_set] at this
 exact this
theorem LexAt.setPlace (h : LexAt w L s a p e) (x : Int) : LexAt (w.setCell ⟨L, 258, none⟩ (.int .i64 x)) L s a x e := by
 have := Blk.put h 258 (.int .i64 x)
 rw [show (258 : Nat) = 256 + 2 from rfl, lexCells_set] at this
 exact this
theorem LexAt.setErr (h : LexAt w L s a p e) (x : Int) : LexAt (w.setCell ⟨L, 259, none⟩ (.int .i64 x)) L s a p x := by
 have := Blk.put h 259 (.int .i64 x)
 rw [show (259 : Nat) = 256 + 3 from rfl, lexCells_set] at this
 exact this
theorem LexAt.touch {S : Nat → Prop} {w' : World} (h : LexAt w L s a p e) (ht : Touch S w w') (hn : ¬ S L) : LexAt w' L s a p e := ht.blk h hn
theorem LexAt.lt (h : LexAt w L s a p e) : L < w.heap.size := Blk.lt h
end
theorem lex_reads {w : World} {L : Nat} {s : ByteArray} {a p e : Int} (h : LexAt w L s a p e) : w.cell? ⟨L, 256, none⟩ = some (.string s) ∧ w.cell? ⟨L, 257, none⟩ = some (.int .i64 a) ∧ w.cell? ⟨L, 258, none⟩ = some (.int .i64 p) ∧ w.cell? ⟨L, 259, none⟩ = some (.int .i64 e) ∧
  w.frozen? ⟨L, 257, none⟩ = false ∧ w.frozen? ⟨L, 258, none⟩ = false ∧ w.frozen? ⟨L, 259, none⟩ = false ∧ L < w.heap.size :=
 ⟨h.text, h.at_, h.place, h.err, Blk.frozen h _, Blk.frozen h _, Blk.frozen h _, h.lt⟩
set_option maxHeartbeats 400000 in
theorem fail_any (L : Nat) (s : ByteArray) (a p e pl er : Int) (w : World) (h : LexAt w L s a p e) :
  Calls Tryz.prog 179 #[.pointer (some ⟨L, 0, none⟩), .int .i64 pl, .int .i64 er] w fun e' w' => e' = .returned (.tuple #[.agg #[.int .i64 0, .string ByteArray.empty, .int .i64 0, .int .i64 0], .bool false]) ∧ LexAt w' L s a pl er ∧ Touch (· = L) w w' := by
 obtain ⟨h1, h2, h3, h4, f1, f2, f3, hL⟩ := lex_reads h
 have H := hid h
 clear h
 go_enter Tryz.func179, Tryz.ntmps179
 go_wp2
 refine bodyPost_ret (v := .tuple #[.agg #[.int .i64 0, .string ByteArray.empty, .int .i64 0, .int .i64 0], .bool false]) (by simp [results, Tryz.results179, go_sem]; rfl) rfl ⟨rfl, ?_, ?_⟩
 ·exact ((H.out.setPlace pl).setErr er).alloc _
 ·exact (((Touch.refl (· = L) w).setCell (p := ⟨L, 258, none⟩) (.inl rfl) _).setCell (p := ⟨L, 259, none⟩) (.inl rfl) _).alloc _
set_option maxHeartbeats 400000 in
theorem is_any (L : Nat) (s : ByteArray) (a p e : Int) (x c : Int) (w : World) (h : LexAt w L s a p e) (hx : 0 ≤ x) (hc : 0 ≤ c) :
  Calls Tryz.prog 174 #[.pointer (some ⟨L, 0, none⟩), .int .i64 x, .int .u8 c] w fun e' w' => e' = .returned (.bool (Lx.clsI s.data.toList x.toNat == c)) ∧ ∃ n, w' = w.drewN n := by
 obtain ⟨k, rfl⟩ := Int.eq_ofNat_of_zero_le hx
 have h1 := h.text
 simp only [Int.toNat_natCast]
 by_cases hk : k < s.size
 ·have hcl := h.cls s[k].toNat s[k].toNat_lt
  have hr : (Lx.clsI s.data.toList k == c) = (((Lx.cls s[k].toNat : Nat) : Int) == c) := by rw [Lx.clsI_lt _ _ (by simpa using hk)]; rfl
  rw [hr]
  clear hr h
  have hd : decide ((k : Int) < (s.size : Int)) = true := by simp; omega
  have h256 : (s[k].toNat : Int) < 256 := by have := s[k].toNat_lt; omega
  have hk2 : (k : Int) < (s.size : Int) := by omega
  have hk0 : (0 : Int) ≤ (k : Int) := by omega
  go_enter Tryz.func174, Tryz.ntmps174
  go_wp2
  go_quiet (fail)
  go_wp2
  go_ret
  exact ⟨rfl, _, rfl⟩
 ·have hr : (Lx.clsI s.data.toList k == c) = false := by rw [Lx.clsI_ge _ _ (by simp; omega)]; simp; omega
  rw [hr]
  clear hr h
  have hd : decide ((k : Int) < (s.size : Int)) = false := by simp; omega
  go_enter Tryz.func174, Tryz.ntmps174
  go_wp2
  go_quiet (fail)
  go_wp2
  go_ret
  exact ⟨rfl, _, rfl⟩
set_option maxHeartbeats 400000 in
theorem run_any (L : Nat) (s : ByteArray) (a p e : Int) (x c : Int) (w : World) (h : LexAt w L s a p e) (hx : 0 ≤ x) (hc : 0 ≤ c) (hm : s.size ≤ maxLen) :
  Calls Tryz.prog 148 #[.pointer (some ⟨L, 0, none⟩), .int .i64 x, .int .u8 c] w fun e' w' => e' = .returned (.int .i64 (x.toNat + Lx.runI c s.data.toList x.toNat : Nat)) ∧ ∃ n, w' = w.drewN n := by
 obtain ⟨k, rfl⟩ := Int.eq_ofNat_of_zero_le hx
 simp only [Int.toNat_natCast]
 unfold maxLen at hm
 have H := hid h
 clear h hx
 go_enter Tryz.func148, Tryz.ntmps148
 go_wp2
 go_loopw [1] (fun i wr => ∃ j : Nat, i = .int .i64 j ∧ Hid (j + Lx.runI c s.data.toList j = k + Lx.runI c s.data.toList k) ∧ ∃ n, wr = w.drewN n) (fun i _ => s.size - (intOf i).toNat)
 case atStart => exact ⟨k, rfl, rfl, 0, rfl⟩
 case round =>
  obtain ⟨j, rfl, hj, n, rfl⟩ := hrel
  by_cases ht : Lx.clsI s.data.toList j = c
  ·obtain ⟨hlt, hs⟩ := Lx.runI_yes c _ j hc ht
   have hlt2 : j < s.size := by simpa using hlt
   have hb : (Lx.clsI s.data.toList j == c) = true := by simpa using ht
   have HS := hid hs
   clear hs ht hlt
   go_wp2_with (go_at_call 174; refine (is_any L s a p e _ _ _ (H.out.drewN _) (by omega) hc).mono ?_; rintro e' w' ⟨rfl, n2, rfl⟩)
   go_roundw
   case rel => exact ⟨j + 1, by go_num, HS.out.trans hj, n + n2, rfl⟩
   case measure => simp [intOf]; omega
  ·have hz := Lx.runI_no c _ j ht
   have hb : (Lx.clsI s.data.toList j == c) = false := by simpa using ht
   have HZ := hid hz
   clear hz ht
   go_wp2_with (go_at_call 174; refine (is_any L s a p e _ _ _ (H.out.drewN _) (by omega) hc).mono ?_; rintro e' w' ⟨rfl, n2, rfl⟩)
   go_ret
   exact ⟨ret_int (by rw [← hj.out, HZ.out]; simp), n + n2, rfl⟩
end Go.Proofs.YtdacpbdamliafaaGreat

/- The walks of the lexer's methods token, number. -/
namespace Go.Proofs.YtdacpbdamliafaaGreat
open Go.RowKit
def Means (r : Lx.Res) (a : Nat) (p e : Int) (k : Int) (tx : ByteArray) (f t : Int) (b : Bool) (a' p' e' : Int) : Prop :=
 match r with
 | .ok tk n => k = tk.kind ∧ tx = ⟨tk.text.toArray⟩ ∧ f = a ∧ t = (a + n : Nat) ∧ b = true ∧ a' = (a + n : Nat) ∧ p' = p ∧ e' = e
 | .err i er => k = 0 ∧ tx = ByteArray.empty ∧ f = 0 ∧ t = 0 ∧ b = false ∧ a' = a ∧ p' = (a + i : Nat) ∧ e' = er
def LexRes (w : World) (L : Nat) (s : ByteArray) (a : Nat) (p e : Int) (r : Lx.Res) (e' : Ending) (w' : World) : Prop :=
 ∃ (k : Int) (tx : ByteArray) (f t : Int) (b : Bool) (a' p' e2 : Int), e' = .returned (.tuple #[.agg #[.int .i64 k, .string tx, .int .i64 f, .int .i64 t], .bool b]) ∧
  LexAt w' L s a' p' e2 ∧ Touch (· = L) w w' ∧ Means r a p e k tx f t b a' p' e2
theorem LexRes.drewN {w w' : World} {L : Nat} {s : ByteArray} {a : Nat} {p e : Int} {r : Lx.Res} {e' : Ending} (h : LexRes w L s a p e r e' w') (n : Nat) : LexRes w L s a p e r e' (w'.drewN n) := by
 obtain ⟨k, tx, f, t, b, a', p', e2, rfl, h1, h2, h3⟩ := h
 exact ⟨k, tx, f, t, b, a', p', e2, rfl, h1.drewN n, h2.drewN n, h3⟩
theorem LexRes.close {w w' : World} {L : Nat} {s : ByteArray} {a : Nat} {p e : Int} {r : Lx.Res} {k : Int} {tx : ByteArray} {f t : Int} {b : Bool} {a' p' e2 : Int} (hL : L < w.heap.size)
  (h1 : LexAt w' L s a' p' e2) (h2 : Touch (· = L) w w') (h3 : Means r a p e k tx f t b a' p' e2) :
  LexRes w L s a p e r (.returned (.tuple #[.agg #[.int .i64 k, .string tx, .int .i64 f, .int .i64 t], .bool b])) (put4 w' w.heap.size (.int .i64 k) (.string tx) (.int .i64 f) (.int .i64 t)) :=
 ⟨k, tx, f, t, b, a', p', e2, rfl, Blk.far4 h1 (by omega) _ _ _ _, h2.put4 (.inr (Nat.le_refl _)) _ _ _ _, h3⟩
set_option maxHeartbeats 400000 in
theorem token_any (L : Nat) (s : ByteArray) (a : Nat) (p e : Int) (k : Int) (kd : Nat) (text : ByteArray) (to_ : Int) (n most : Nat) (mostI : Int) (w : World) (h : LexAt w L s a p e) (hk : k = kd) (ht : to_ = (a + n : Nat)) (hmost : mostI = most) :
  Calls Tryz.prog 176 #[.pointer (some ⟨L, 0, none⟩), .int .i64 k, .string text, .int .i64 to_, .int .i64 mostI] w (LexRes w L s a p e (Lx.lim most ⟨kd, text.data.toList⟩ n)) := by
 obtain ⟨h1, h2, h3, h4, f1, f2, f3, hL⟩ := lex_reads h
 have H := hid h
 have HK := hid hk
 have HT := hid ht
 clear h hk ht
 by_cases hl : mostI < text.size
 ·have hr : Lx.lim most ⟨kd, text.data.toList⟩ n = .err 0 6 := by unfold Lx.lim; rw [if_pos (by simp; omega)]
  rw [hr]
  clear hr hmost
  go_enter Tryz.func176, Tryz.ntmps176
  go_wp2_with (go_at_call 179; refine (fail_any L s a p e _ _ _ (H.out.alloc _)).mono ?_; rintro e' w' ⟨rfl, hx, ht⟩; obtain ⟨q0, q1, q2, q3, z0, z1, z2, z3, hg⟩ := Blk.four (ht.blk (Blk.new w _ _) (by omega)); have HX := hid hx; have HT := hid ht; clear hx ht)
  (try simp only [Exit.inBlock, Exit.then])
  refine bodyPost_ret (v := .tuple #[.agg #[.int .i64 0, .string ByteArray.empty, .int .i64 0, .int .i64 0], .bool false]) (by simp [results, Tryz.results176, go_sem, q0, q1, q2, q3]) rfl ?_
  exact LexRes.close hL HX.out HT.out.pre ⟨rfl, rfl, rfl, rfl, rfl, rfl, rfl, rfl⟩
 ·have hr : Lx.lim most ⟨kd, text.data.toList⟩ n = .ok ⟨kd, text.data.toList⟩ n := by unfold Lx.lim; rw [if_neg (by simp; omega)]
  rw [hr]
  clear hr hmost
  go_enter Tryz.func176, Tryz.ntmps176
  go_wp2
  refine bodyPost_ret (v := .tuple #[.agg #[.int .i64 k, .string text, .int .i64 a, .int .i64 to_], .bool true]) (by simp [results, Tryz.results176, go_sem]) rfl ?_
  refine ⟨_, _, _, _, _, to_, p, e, rfl, ?_, ?_, HK.out, rfl, rfl, HT.out, rfl, HT.out, rfl, rfl⟩
  ·exact (LexAt.setAt H.out to_).alloc _
  ·exact ((Touch.refl (· = L) w).setCell (p := ⟨L, 257, none⟩) (.inl rfl) _).alloc _
end Go.Proofs.YtdacpbdamliafaaGreat

/- The walk of the lexer's method number. -/
namespace Go.Proofs.YtdacpbdamliafaaGreat
open Go.RowKit
theorem num_i (l : Lx.Bytes) (a m : Nat) (hm : m = a + Lx.runI 2 l a) : Lx.numLen (l.drop a) = if l[m]? = some 46 ∧ Lx.clsI l (m + 1) = 2 then m + 1 + Lx.runI 2 l (m + 1) - a else m - a := by
 subst hm
 have h0 : ∀ k, Lx.runLen 2 (l.drop k) = Lx.runI 2 l k := fun k => by
  unfold Lx.runLen Lx.runI
  have : (Lx.isB 2) = fun b : UInt8 => ((Lx.cls b.toNat : Int) == 2) := by
   funext b
   unfold Lx.isB
   rw [Bool.eq_iff_iff]; simp; omega
  rw [this]
 have h1 : ∀ k, (Lx.isAt 2 (l.drop a) k = true) ↔ Lx.clsI l (a + k) = 2 := fun k => by
  unfold Lx.isAt Lx.clsI
  rw [List.getElem?_drop]
  cases l[a + k]? with
  | none => simp
  | some b => simp [Lx.isB]; omega
 unfold Lx.numLen
 rw [h0, List.getElem?_drop, List.drop_drop, h0]
 simp only [h1, Nat.add_assoc]
 split <;> omega
set_option maxHeartbeats 400000 in
theorem number_any (L : Nat) (s : ByteArray) (a : Nat) (p e : Int) (w : World) (h : LexAt w L s a p e) (hm : s.size ≤ maxLen) (ha : a < s.size) :
  Calls Tryz.prog 175 #[.pointer (some ⟨L, 0, none⟩)] w (LexRes w L s a p e (Lx.number (s.data.toList.drop a))) := by
 obtain ⟨g1, g2, g3, g4, f1, f2, f3, hL⟩ := lex_reads h
 have HM := hm
 unfold maxLen at hm
 have H := hid h
 clear h
 have hle := Lx.runI_le 2 s.data.toList a
 have hll : s.data.toList.length = s.size := by simp
 rw [hll] at hle
 obtain ⟨m, hmd⟩ : ∃ m, m = a + Lx.runI 2 s.data.toList a := ⟨_, rfl⟩
 have HN := hid (num_i s.data.toList a m hmd)
 have HD := hid hmd
 have am : a ≤ m := by omega
 have ms : m ≤ s.size := by omega
 clear hmd hle
 have fin : ∀ (n : Nat), a ≤ n → n ≤ s.size → Lx.numLen (s.data.toList.drop a) = n - a →
   Lx.lim 20 ⟨2, (s.extract a n).data.toList⟩ (n - a) = Lx.number (s.data.toList.drop a) := fun n hn1 hn2 hnum => by
  unfold Lx.number
  rw [hnum]
  congr 2
  simp [ByteArray.data_extract, Array.toList_extract, List.extract_eq_take_drop]
 by_cases c1 : m < s.size
 ·have t1 : decide ((m : Int) < (s.size : Int)) = true := by simp; omega
  have t1' : (m : Int) < (s.size : Int) := by omega
  have t1'' : (0 : Int) ≤ (m : Int) := by omega
  have hlm : s.data.toList[m]? = some s[m] := by rw [List.getElem?_eq_getElem (by omega)]; rfl
  by_cases c2 : s[m] = 46
  ·have t2 : ((s[m].toNat : Int) == 46) = true := by rw [c2]; rfl
   by_cases c3 : Lx.clsI s.data.toList (m + 1) = 2
   ·have t3 : (Lx.clsI s.data.toList (m + 1) == 2) = true := by simpa using c3
    have hle2 := Lx.runI_le 2 s.data.toList (m + 1)
    have hy := (Lx.runI_yes 2 s.data.toList (m + 1) (by omega) c3).1
    rw [hll] at hle2 hy
    obtain ⟨m2, hm2⟩ : ∃ m2, m2 = m + 1 + Lx.runI 2 s.data.toList (m + 1) := ⟨_, rfl⟩
    have HM2 := hid hm2
    have hn : Lx.numLen (s.data.toList.drop a) = m2 - a := by
     rw [HN.out, if_pos ⟨by rw [hlm, c2], c3⟩, ← hm2]
    have am2 : a ≤ m2 := by omega
    have ms2 : m2 ≤ s.size := by omega
    have hfin := hid (fin m2 am2 ms2 hn)
    clear hlm c2 c3 hll hy hm2 hle2
    clear fin hn
    go_enter Tryz.func175, Tryz.ntmps175
    go_wp2_with fail
    refine (run_any L s a p e _ 2 _ (H.out.alloc _) (by omega) (by omega) HM).mono ?_
    rintro e' w' ⟨rfl, n1, rfl⟩
    rw [Int.toNat_natCast, ← HD.out]
    go_wp2_with fail
    refine (is_any L s a p e _ 2 _ ((H.out.alloc _).drewN _) (by omega) (by omega)).mono ?_
    rintro e' w' ⟨rfl, n2, rfl⟩
    rw [show ((m : Int) + 1).toNat = m + 1 from by omega]
    go_wp2_with fail
    refine (run_any L s a p e _ 2 _ ((H.out.alloc _).drewN _) (by omega) (by omega) HM).mono ?_
    rintro e' w' ⟨rfl, n3, rfl⟩
    rw [show ((m : Int) + 1).toNat = m + 1 from by omega, ← HM2.out]
    go_wp2_with fail
    refine wp_region_segs [([0,1,2,3,4,5,6,7,8,9,10,11],12), ([13,14],15)] [16] (by kernel_rfl) (by kernel_rfl) ?_
    simp only [wpSegs, pick, List.getElem?_cons_zero, List.getElem?_cons_succ]
    repeat (quiet_step (fail))
    refine wpQuiet_nil ?_
    rintro _ ⟨nq, rfl⟩
    go_wp2_with fail
    refine (token_any L s a p e _ 2 _ _ (m2 - a) 20 _ _ ((H.out.alloc _).drewN _) rfl (by rw [Nat.add_sub_cancel' (by omega)]) rfl).mono ?_
    rintro e' w' ⟨k, tx, f, t, b, a', p', e2, rfl, hx, ht, hmn⟩
    obtain ⟨q0, q1, q2, q3, z0, z1, z2, z3, hg⟩ := Blk.four (ht.blk ((Blk.new w _ _).drewN _) (by omega))
    have HX := hid hx
    have HT2 := hid ht
    have HMN := hid hmn
    clear hx ht hmn
    go_wp2_with fail
    repeat (quiet_step (fail))
    refine wpQuiet_nil ?_
    rintro _ ⟨nq2, rfl⟩
    go_wp2
    repeat (quiet_step (fail))
    refine wpQuiet_nil ?_
    rintro _ ⟨nq3, rfl⟩
    go_wp2
    (try simp only [Exit.inBlock, Exit.then])
    refine bodyPost_ret (v := .tuple #[.agg #[.int .i64 k, .string tx, .int .i64 f, .int .i64 t], .bool b]) (by simp [results, Tryz.results175, go_sem, q0, q1, q2, q3]) rfl ?_
    rw [← hfin.out]
    exact (LexRes.close hL (HX.out.drewN _) (HT2.out.preN.drewN _) HMN.out).drewN _
   ·have t3 : (Lx.clsI s.data.toList (m + 1) == 2) = false := by simpa using c3
    have hn : Lx.numLen (s.data.toList.drop a) = m - a := by
     rw [HN.out, if_neg (fun hx => c3 hx.2)]
    have hfin := hid (fin m am ms hn)
    clear hlm c2 c3 hll
    clear fin hn
    go_enter Tryz.func175, Tryz.ntmps175
    go_wp2_with fail
    refine (run_any L s a p e _ 2 _ (H.out.alloc _) (by omega) (by omega) HM).mono ?_
    rintro e' w' ⟨rfl, n1, rfl⟩
    rw [Int.toNat_natCast, ← HD.out]
    go_wp2_with fail
    refine (is_any L s a p e _ 2 _ ((H.out.alloc _).drewN _) (by omega) (by omega)).mono ?_
    rintro e' w' ⟨rfl, n2, rfl⟩
    rw [show ((m : Int) + 1).toNat = m + 1 from by omega]
    go_wp2_with fail
    refine wp_region_segs [([0,1,2,3,4,5,6,7,8,9,10,11],12), ([13,14],15)] [16] (by kernel_rfl) (by kernel_rfl) ?_
    simp only [wpSegs, pick, List.getElem?_cons_zero, List.getElem?_cons_succ]
    repeat (quiet_step (fail))
    refine wpQuiet_nil ?_
    rintro _ ⟨nq, rfl⟩
    go_wp2_with fail
    refine (token_any L s a p e _ 2 _ _ (m - a) 20 _ _ ((H.out.alloc _).drewN _) rfl (by rw [Nat.add_sub_cancel' (by omega)]) rfl).mono ?_
    rintro e' w' ⟨k, tx, f, t, b, a', p', e2, rfl, hx, ht, hmn⟩
    obtain ⟨q0, q1, q2, q3, z0, z1, z2, z3, hg⟩ := Blk.four (ht.blk ((Blk.new w _ _).drewN _) (by omega))
    have HX := hid hx
    have HT2 := hid ht
    have HMN := hid hmn
    clear hx ht hmn
    go_wp2_with fail
    repeat (quiet_step (fail))
    refine wpQuiet_nil ?_
    rintro _ ⟨nq2, rfl⟩
    go_wp2
    repeat (quiet_step (fail))
    refine wpQuiet_nil ?_
    rintro _ ⟨nq3, rfl⟩
    go_wp2
    (try simp only [Exit.inBlock, Exit.then])
    refine bodyPost_ret (v := .tuple #[.agg #[.int .i64 k, .string tx, .int .i64 f, .int .i64 t], .bool b]) (by simp [results, Tryz.results175, go_sem, q0, q1, q2, q3]) rfl ?_
    rw [← hfin.out]
    exact (LexRes.close hL (HX.out.drewN _) (HT2.out.preN.drewN _) HMN.out).drewN _
  ·have t2 : ((s[m].toNat : Int) == 46) = false := by
    rw [beq_eq_false_iff_ne]; intro hx; exact c2 (UInt8.toNat_inj.1 (by simp; omega))
   have hn : Lx.numLen (s.data.toList.drop a) = m - a := by
    rw [HN.out, if_neg (fun hx => c2 (by rw [hlm] at hx; simpa using hx.1))]
   have hfin := hid (fin m am ms hn)
   clear hlm c2 hll
   clear fin hn
   go_enter Tryz.func175, Tryz.ntmps175
   go_wp2_with fail
   refine (run_any L s a p e _ 2 _ (H.out.alloc _) (by omega) (by omega) HM).mono ?_
   rintro e' w' ⟨rfl, n1, rfl⟩
   rw [Int.toNat_natCast, ← HD.out]
   go_wp2_with fail
   refine wp_region_segs [([0,1,2,3,4,5,6,7,8,9,10,11],12), ([13,14],15)] [16] (by kernel_rfl) (by kernel_rfl) ?_
   simp only [wpSegs, pick, List.getElem?_cons_zero, List.getElem?_cons_succ]
   repeat (quiet_step (fail))
   refine wpQuiet_nil ?_
   rintro _ ⟨nq, rfl⟩
   go_wp2_with fail
   refine (token_any L s a p e _ 2 _ _ (m - a) 20 _ _ ((H.out.alloc _).drewN _) rfl (by rw [Nat.add_sub_cancel' (by omega)]) rfl).mono ?_
   rintro e' w' ⟨k, tx, f, t, b, a', p', e2, rfl, hx, ht, hmn⟩
   obtain ⟨q0, q1, q2, q3, z0, z1, z2, z3, hg⟩ := Blk.four (ht.blk ((Blk.new w _ _).drewN _) (by omega))
   have HX := hid hx
   have HT2 := hid ht
   have HMN := hid hmn
   clear hx ht hmn
   go_wp2_with fail
   repeat (quiet_step (fail))
   refine wpQuiet_nil ?_
   rintro _ ⟨nq2, rfl⟩
   go_wp2
   repeat (quiet_step (fail))
   refine wpQuiet_nil ?_
   rintro _ ⟨nq3, rfl⟩
   go_wp2
   (try simp only [Exit.inBlock, Exit.then])
   refine bodyPost_ret (v := .tuple #[.agg #[.int .i64 k, .string tx, .int .i64 f, .int .i64 t], .bool b]) (by simp [results, Tryz.results175, go_sem, q0, q1, q2, q3]) rfl ?_
   rw [← hfin.out]
   exact (LexRes.close hL (HX.out.drewN _) (HT2.out.preN.drewN _) HMN.out).drewN _
 ·have hn : Lx.numLen (s.data.toList.drop a) = m - a := by
   rw [HN.out, if_neg]
   rintro ⟨h1, _⟩
   rw [List.getElem?_eq_none (by omega)] at h1
   cases h1
  have hfin := hid (fin m am ms hn)
  have t1 : decide ((m : Int) < (s.size : Int)) = false := by simp; omega
  clear hll
  clear fin hn
  go_enter Tryz.func175, Tryz.ntmps175
  go_wp2_with fail
  refine (run_any L s a p e _ 2 _ (H.out.alloc _) (by omega) (by omega) HM).mono ?_
  rintro e' w' ⟨rfl, n1, rfl⟩
  rw [Int.toNat_natCast, ← HD.out]
  go_wp2_with fail
  refine wp_region_segs [([0,1,2,3,4,5,6,7,8,9,10,11],12), ([13,14],15)] [16] (by kernel_rfl) (by kernel_rfl) ?_
  simp only [wpSegs, pick, List.getElem?_cons_zero, List.getElem?_cons_succ]
  repeat (quiet_step (fail))
  refine wpQuiet_nil ?_
  rintro _ ⟨nq, rfl⟩
  go_wp2_with fail
  refine (token_any L s a p e _ 2 _ _ (m - a) 20 _ _ ((H.out.alloc _).drewN _) rfl (by rw [Nat.add_sub_cancel' (by omega)]) rfl).mono ?_
  rintro e' w' ⟨k, tx, f, t, b, a', p', e2, rfl, hx, ht, hmn⟩
  obtain ⟨q0, q1, q2, q3, z0, z1, z2, z3, hg⟩ := Blk.four (ht.blk ((Blk.new w _ _).drewN _) (by omega))
  have HX := hid hx
  have HT2 := hid ht
  have HMN := hid hmn
  clear hx ht hmn
  go_wp2_with fail
  repeat (quiet_step (fail))
  refine wpQuiet_nil ?_
  rintro _ ⟨nq2, rfl⟩
  go_wp2
  repeat (quiet_step (fail))
  refine wpQuiet_nil ?_
  rintro _ ⟨nq3, rfl⟩
  go_wp2
  (try simp only [Exit.inBlock, Exit.then])
  refine bodyPost_ret (v := .tuple #[.agg #[.int .i64 k, .string tx, .int .i64 f, .int .i64 t], .bool b]) (by simp [results, Tryz.results175, go_sem, q0, q1, q2, q3]) rfl ?_
  rw [← hfin.out]
  exact (LexRes.close hL (HX.out.drewN _) (HT2.out.preN.drewN _) HMN.out).drewN _
end Go.Proofs.YtdacpbdamliafaaGreat

/- The walk of the lexer's method next. -/
namespace Go.Proofs.YtdacpbdamliafaaGreat
open Go.RowKit
theorem token_as (L : Nat) (s : ByteArray) (a : Nat) (p e : Int) (k : Int) (kd : Nat) (text : ByteArray) (to_ : Int) (n most : Nat) (mostI : Int) (w : World) (r : Lx.Res) (hr : Lx.lim most ⟨kd, text.data.toList⟩ n = r) (h : LexAt w L s a p e) (hk : k = kd) (ht : to_ = (a + n : Nat)) (hmost : mostI = most) :
  Calls Tryz.prog 176 #[.pointer (some ⟨L, 0, none⟩), .int .i64 k, .string text, .int .i64 to_, .int .i64 mostI] w (LexRes w L s a p e r) := by
 subst hr
 exact token_any L s a p e k kd text to_ n most mostI w h hk ht hmost
theorem fail_as (L : Nat) (s : ByteArray) (a : Nat) (p e : Int) (pl er : Int) (i erN : Nat) (w : World) (r : Lx.Res) (hr : Lx.Res.err i erN = r) (h : LexAt w L s a p e) (hp : pl = (a + i : Nat)) (he : er = erN) :
  Calls Tryz.prog 179 #[.pointer (some ⟨L, 0, none⟩), .int .i64 pl, .int .i64 er] w (LexRes w L s a p e r) := by
 subst hr hp he
 exact (fail_any L s a p e _ _ w h).mono fun e' w' ⟨h1, h2, h3⟩ => ⟨_, _, _, _, _, _, _, _, h1, h2, h3, rfl, rfl, rfl, rfl, rfl, rfl, rfl, rfl⟩
theorem one_byte (s : ByteArray) (a : Nat) (h : a < s.size) : (s.extract a (a + 1)).data.toList = [s[a]] := by
 have h1 : s.data.toList.drop a = s[a] :: s.data.toList.drop (a + 1) := List.drop_eq_getElem_cons (by simpa using h)
 simp [ByteArray.data_extract, Array.toList_extract, List.extract_eq_take_drop, h1]
theorem one_byte_eq (s : ByteArray) (a : Nat) (h : a < s.size) (x : UInt8) : ((s.extract a (a + 1)).toList == [x]) = (s[a] == x) := by
 have h1 : (s.extract a (a + 1)).toList = [s[a]] := by rw [ByteArray.toList_eq]; exact one_byte s a h
 rw [h1]
 simp
theorem utf8_digit (d : UInt8) (h1 : 49 ≤ d.toNat) (h2 : d.toNat ≤ 52) : (Utf8.encode (d.toNat : Int)).data.toList = [d] := by
 have : d.toNat = 49 ∨ d.toNat = 50 ∨ d.toNat = 51 ∨ d.toNat = 52 := by omega
 rcases this with h | h | h | h <;> (have hd := UInt8.toNat_inj.1 (show d.toNat = (UInt8.ofNat d.toNat).toNat by simp); rw [h] at hd; subst hd; decide +kernel)
set_option maxRecDepth 100000 in
set_option maxHeartbeats 400000 in
theorem next_number (L : Nat) (s : ByteArray) (a : Nat) (p e : Int) (w : World) (h : LexAt w L s a p e) (hm : s.size ≤ maxLen) (ha : a < s.size) (r : Lx.Res) (F2 : (Lx.clsI s.data.toList a == 2) = true) (hr : Lx.number (s.data.toList.drop a) = r) :
  Calls Tryz.prog 149 #[.pointer (some ⟨L, 0, none⟩)] w (LexRes w L s a p e r) := by
 obtain ⟨g1, g2, g3, g4, f1, f2, f3, hL⟩ := lex_reads h
 have HM := hm
 have _ha := ha
 unfold maxLen at hm
 have H := hid h
 clear h
 have a0 : (0 : Int) ≤ (a : Int) := by omega
 have a1 : (a : Int) < (s.size : Int) := by omega
 have a2 : (a : Int) + 1 ≤ (s.size : Int) := by omega
 go_enter Tryz.func149, Tryz.ntmps149
 go_wp2_with (go_at_call 174; refine (is_any L s a p e _ _ _ (by first | exact H.out.alloc _ | exact (H.out.alloc _).drewN _) (by omega) (by omega)).mono ?_; rintro e' w' ⟨rfl, n, rfl⟩)
 all_goals
  refine ((hr ▸ number_any L s a p e _ ((H.out.alloc _).drewN _) HM ha)).mono ?_
  rintro e' w' ⟨k, tx, f, t, b, a', p', e2, rfl, hx, ht, hmn⟩
  obtain ⟨q0, q1, q2, q3, z0, z1, z2, z3, hg⟩ := Blk.four (ht.blk ((Blk.new w _ _).drewN _) (by omega))
  have HX := hid hx
  have HT := hid ht
  have HMN := hid hmn
  clear hx ht hmn
  go_wp2_with fail
  (try simp only [Exit.inBlock, Exit.then])
  refine bodyPost_ret (v := .tuple #[.agg #[.int .i64 k, .string tx, .int .i64 f, .int .i64 t], .bool b]) (by simp [results, Tryz.results149, go_sem, q0, q1, q2, q3]) rfl ?_
  exact LexRes.close hL HX.out HT.out.preN HMN.out
set_option maxRecDepth 100000 in
set_option maxHeartbeats 400000 in
theorem next_mark (L : Nat) (s : ByteArray) (a : Nat) (p e : Int) (w : World) (h : LexAt w L s a p e) (hm : s.size ≤ maxLen) (ha : a < s.size) (r : Lx.Res) (F2 : (Lx.clsI s.data.toList a == 2) = false) (F5 : (Lx.clsI s.data.toList a == 5) = true) (hr : Lx.lim 1 ⟨7, (s.extract a (a + 1)).data.toList⟩ 1 = r) :
  Calls Tryz.prog 149 #[.pointer (some ⟨L, 0, none⟩)] w (LexRes w L s a p e r) := by
 obtain ⟨g1, g2, g3, g4, f1, f2, f3, hL⟩ := lex_reads h
 have HM := hm
 have _ha := ha
 unfold maxLen at hm
 have H := hid h
 clear h
 have a0 : (0 : Int) ≤ (a : Int) := by omega
 have a1 : (a : Int) < (s.size : Int) := by omega
 have a2 : (a : Int) + 1 ≤ (s.size : Int) := by omega
 go_enter Tryz.func149, Tryz.ntmps149
 go_wp2_with (go_at_call 174; refine (is_any L s a p e _ _ _ (by first | exact H.out.alloc _ | exact (H.out.alloc _).drewN _) (by omega) (by omega)).mono ?_; rintro e' w' ⟨rfl, n, rfl⟩)
 all_goals
  refine (token_as L s a p e _ 7 _ _ 1 1 _ _ r hr ((H.out.alloc _).drewN _) rfl rfl rfl).mono ?_
  rintro e' w' ⟨k, tx, f, t, b, a', p', e2, rfl, hx, ht, hmn⟩
  obtain ⟨q0, q1, q2, q3, z0, z1, z2, z3, hg⟩ := Blk.four (ht.blk ((Blk.new w _ _).drewN _) (by omega))
  have HX := hid hx
  have HT := hid ht
  have HMN := hid hmn
  clear hx ht hmn
  go_wp2_with fail
  (try simp only [Exit.inBlock, Exit.then])
  refine bodyPost_ret (v := .tuple #[.agg #[.int .i64 k, .string tx, .int .i64 f, .int .i64 t], .bool b]) (by simp [results, Tryz.results149, go_sem, q0, q1, q2, q3]) rfl ?_
  exact LexRes.close hL HX.out HT.out.preN HMN.out
set_option maxRecDepth 100000 in
set_option maxHeartbeats 400000 in
theorem next_quoted (L : Nat) (s : ByteArray) (a : Nat) (p e : Int) (w : World) (h : LexAt w L s a p e) (hm : s.size ≤ maxLen) (ha : a < s.size) (r : Lx.Res) (F2 : (Lx.clsI s.data.toList a == 2) = false) (F5 : (Lx.clsI s.data.toList a == 5) = false) (C34 : ((s.extract a (a + 1)).toList == [34]) = true) (hq : ∀ w : World, LexAt w L s a p e → Calls Tryz.prog 177 #[.pointer (some ⟨L, 0, none⟩)] w (LexRes w L s a p e r)) :
  Calls Tryz.prog 149 #[.pointer (some ⟨L, 0, none⟩)] w (LexRes w L s a p e r) := by
 obtain ⟨g1, g2, g3, g4, f1, f2, f3, hL⟩ := lex_reads h
 have HM := hm
 have _ha := ha
 unfold maxLen at hm
 have H := hid h
 clear h
 have a0 : (0 : Int) ≤ (a : Int) := by omega
 have a1 : (a : Int) < (s.size : Int) := by omega
 have a2 : (a : Int) + 1 ≤ (s.size : Int) := by omega
 have HQ := hid hq
 clear hq
 go_enter Tryz.func149, Tryz.ntmps149
 go_wp2_with (go_at_call 174; refine (is_any L s a p e _ _ _ (by first | exact H.out.alloc _ | exact (H.out.alloc _).drewN _) (by omega) (by omega)).mono ?_; rintro e' w' ⟨rfl, n, rfl⟩)
 all_goals
  refine (HQ.out _ ((H.out.alloc _).drewN _)).mono ?_
  rintro e' w' ⟨k, tx, f, t, b, a', p', e2, rfl, hx, ht, hmn⟩
  obtain ⟨q0, q1, q2, q3, z0, z1, z2, z3, hg⟩ := Blk.four (ht.blk ((Blk.new w _ _).drewN _) (by omega))
  have HX := hid hx
  have HT := hid ht
  have HMN := hid hmn
  clear hx ht hmn
  go_wp2_with fail
  (try simp only [Exit.inBlock, Exit.then])
  refine bodyPost_ret (v := .tuple #[.agg #[.int .i64 k, .string tx, .int .i64 f, .int .i64 t], .bool b]) (by simp [results, Tryz.results149, go_sem, q0, q1, q2, q3]) rfl ?_
  exact LexRes.close hL HX.out HT.out.preN HMN.out
set_option maxRecDepth 100000 in
set_option maxHeartbeats 400000 in
theorem next_break (L : Nat) (s : ByteArray) (a : Nat) (p e : Int) (w : World) (h : LexAt w L s a p e) (hm : s.size ≤ maxLen) (ha : a < s.size) (r : Lx.Res) (F2 : (Lx.clsI s.data.toList a == 2) = false) (F5 : (Lx.clsI s.data.toList a == 5) = false) (C34 : ((s.extract a (a + 1)).toList == [34]) = false) (C92 : ((s.extract a (a + 1)).toList == [92]) = true) (hs : a + 1 < s.size) (De92 : (((s[a + 1]'hs).toNat : Int) == 92) = true) (hr : Lx.lim 2 ⟨8, (⟨#[92, 92]⟩ : ByteArray).data.toList⟩ 2 = r) :
  Calls Tryz.prog 149 #[.pointer (some ⟨L, 0, none⟩)] w (LexRes w L s a p e r) := by
 obtain ⟨g1, g2, g3, g4, f1, f2, f3, hL⟩ := lex_reads h
 have HM := hm
 have _ha := ha
 unfold maxLen at hm
 have H := hid h
 clear h
 have a0 : (0 : Int) ≤ (a : Int) := by omega
 have a1 : (a : Int) < (s.size : Int) := by omega
 have a2 : (a : Int) + 1 ≤ (s.size : Int) := by omega
 have S1 : decide ((a : Int) + 1 < (s.size : Int)) = true := by simp; omega
 have S2 : (a : Int) + 1 < (s.size : Int) := by omega
 have S3 : (0 : Int) ≤ (a : Int) + 1 := by omega
 go_enter Tryz.func149, Tryz.ntmps149
 go_wp2_with (go_at_call 174; refine (is_any L s a p e _ _ _ (by first | exact H.out.alloc _ | exact (H.out.alloc _).drewN _) (by omega) (by omega)).mono ?_; rintro e' w' ⟨rfl, n, rfl⟩)
 all_goals
  refine (token_as L s a p e _ 8 _ _ 2 2 _ _ r hr ((H.out.alloc _).drewN _) rfl rfl rfl).mono ?_
  rintro e' w' ⟨k, tx, f, t, b, a', p', e2, rfl, hx, ht, hmn⟩
  obtain ⟨q0, q1, q2, q3, z0, z1, z2, z3, hg⟩ := Blk.four (ht.blk ((Blk.new w _ _).drewN _) (by omega))
  have HX := hid hx
  have HT := hid ht
  have HMN := hid hmn
  clear hx ht hmn
  go_wp2_with fail
  (try simp only [Exit.inBlock, Exit.then])
  refine bodyPost_ret (v := .tuple #[.agg #[.int .i64 k, .string tx, .int .i64 f, .int .i64 t], .bool b]) (by simp [results, Tryz.results149, go_sem, q0, q1, q2, q3]) rfl ?_
  exact LexRes.close hL HX.out HT.out.preN HMN.out
set_option maxRecDepth 100000 in
set_option maxHeartbeats 400000 in
theorem next_name (L : Nat) (s : ByteArray) (a : Nat) (p e : Int) (w : World) (h : LexAt w L s a p e) (hm : s.size ≤ maxLen) (ha : a < s.size) (r : Lx.Res) (F2 : (Lx.clsI s.data.toList a == 2) = false) (F5 : (Lx.clsI s.data.toList a == 5) = false) (C34 : ((s.extract a (a + 1)).toList == [34]) = false) (C92 : ((s.extract a (a + 1)).toList == [92]) = true) (hs : a + 1 < s.size) (De92 : (((s[a + 1]'hs).toNat : Int) == 92) = false) (N3 : (Lx.clsI s.data.toList (a + 1) == 3) = true) (hq : ∀ w : World, LexAt w L s a p e → Calls Tryz.prog 178 #[.pointer (some ⟨L, 0, none⟩)] w (LexRes w L s a p e r)) :
  Calls Tryz.prog 149 #[.pointer (some ⟨L, 0, none⟩)] w (LexRes w L s a p e r) := by
 obtain ⟨g1, g2, g3, g4, f1, f2, f3, hL⟩ := lex_reads h
 have HM := hm
 have _ha := ha
 unfold maxLen at hm
 have H := hid h
 clear h
 have a0 : (0 : Int) ≤ (a : Int) := by omega
 have a1 : (a : Int) < (s.size : Int) := by omega
 have a2 : (a : Int) + 1 ≤ (s.size : Int) := by omega
 have S1 : decide ((a : Int) + 1 < (s.size : Int)) = true := by simp; omega
 have S2 : (a : Int) + 1 < (s.size : Int) := by omega
 have S3 : (0 : Int) ≤ (a : Int) + 1 := by omega
 have N3' : (Lx.clsI s.data.toList ((a : Int) + 1).toNat == 3) = true := by rw [show ((a : Int) + 1).toNat = a + 1 from by omega]; exact N3
 have HQ := hid hq
 clear hq
 go_enter Tryz.func149, Tryz.ntmps149
 go_wp2_with (go_at_call 174; refine (is_any L s a p e _ _ _ (by first | exact H.out.alloc _ | exact (H.out.alloc _).drewN _) (by omega) (by omega)).mono ?_; rintro e' w' ⟨rfl, n, rfl⟩)
 all_goals
  refine (HQ.out _ ((H.out.alloc _).drewN _)).mono ?_
  rintro e' w' ⟨k, tx, f, t, b, a', p', e2, rfl, hx, ht, hmn⟩
  obtain ⟨q0, q1, q2, q3, z0, z1, z2, z3, hg⟩ := Blk.four (ht.blk ((Blk.new w _ _).drewN _) (by omega))
  have HX := hid hx
  have HT := hid ht
  have HMN := hid hmn
  clear hx ht hmn
  go_wp2_with fail
  (try simp only [Exit.inBlock, Exit.then])
  refine bodyPost_ret (v := .tuple #[.agg #[.int .i64 k, .string tx, .int .i64 f, .int .i64 t], .bool b]) (by simp [results, Tryz.results149, go_sem, q0, q1, q2, q3]) rfl ?_
  exact LexRes.close hL HX.out HT.out.preN HMN.out
set_option maxRecDepth 100000 in
set_option maxHeartbeats 400000 in
theorem next_slash_a (L : Nat) (s : ByteArray) (a : Nat) (p e : Int) (w : World) (h : LexAt w L s a p e) (hm : s.size ≤ maxLen) (ha : a < s.size) (r : Lx.Res) (F2 : (Lx.clsI s.data.toList a == 2) = false) (F5 : (Lx.clsI s.data.toList a == 5) = false) (C34 : ((s.extract a (a + 1)).toList == [34]) = false) (C92 : ((s.extract a (a + 1)).toList == [92]) = true) (C35 : ((s.extract a (a + 1)).toList == [35]) = false) (hs : a + 1 < s.size) (De92 : (((s[a + 1]'hs).toNat : Int) == 92) = false) (N3 : (Lx.clsI s.data.toList (a + 1) == 3) = false) (F3 : (Lx.clsI s.data.toList a == 3) = false) (F4 : (Lx.clsI s.data.toList a == 4) = false) (hr : Lx.Res.err 0 3 = r) :
  Calls Tryz.prog 149 #[.pointer (some ⟨L, 0, none⟩)] w (LexRes w L s a p e r) := by
 obtain ⟨g1, g2, g3, g4, f1, f2, f3, hL⟩ := lex_reads h
 have HM := hm
 have _ha := ha
 unfold maxLen at hm
 have H := hid h
 clear h
 have a0 : (0 : Int) ≤ (a : Int) := by omega
 have a1 : (a : Int) < (s.size : Int) := by omega
 have a2 : (a : Int) + 1 ≤ (s.size : Int) := by omega
 have S1 : decide ((a : Int) + 1 < (s.size : Int)) = true := by simp; omega
 have S2 : (a : Int) + 1 < (s.size : Int) := by omega
 have S3 : (0 : Int) ≤ (a : Int) + 1 := by omega
 have N3' : (Lx.clsI s.data.toList ((a : Int) + 1).toNat == 3) = false := by rw [show ((a : Int) + 1).toNat = a + 1 from by omega]; exact N3
 go_enter Tryz.func149, Tryz.ntmps149
 go_wp2_with (go_at_call 174; refine (is_any L s a p e _ _ _ (by first | exact H.out.alloc _ | exact (H.out.alloc _).drewN _) (by omega) (by omega)).mono ?_; rintro e' w' ⟨rfl, n, rfl⟩)
 all_goals
  refine (fail_as L s a p e _ _ 0 3 _ r hr ((H.out.alloc _).drewN _) rfl rfl).mono ?_
  rintro e' w' ⟨k, tx, f, t, b, a', p', e2, rfl, hx, ht, hmn⟩
  obtain ⟨q0, q1, q2, q3, z0, z1, z2, z3, hg⟩ := Blk.four (ht.blk ((Blk.new w _ _).drewN _) (by omega))
  have HX := hid hx
  have HT := hid ht
  have HMN := hid hmn
  clear hx ht hmn
  go_wp2_with fail
  (try simp only [Exit.inBlock, Exit.then])
  refine bodyPost_ret (v := .tuple #[.agg #[.int .i64 k, .string tx, .int .i64 f, .int .i64 t], .bool b]) (by simp [results, Tryz.results149, go_sem, q0, q1, q2, q3]) rfl ?_
  exact LexRes.close hL HX.out HT.out.preN HMN.out
set_option maxRecDepth 100000 in
set_option maxHeartbeats 400000 in
theorem next_slash_b (L : Nat) (s : ByteArray) (a : Nat) (p e : Int) (w : World) (h : LexAt w L s a p e) (hm : s.size ≤ maxLen) (ha : a < s.size) (r : Lx.Res) (F2 : (Lx.clsI s.data.toList a == 2) = false) (F5 : (Lx.clsI s.data.toList a == 5) = false) (C34 : ((s.extract a (a + 1)).toList == [34]) = false) (C92 : ((s.extract a (a + 1)).toList == [92]) = true) (C35 : ((s.extract a (a + 1)).toList == [35]) = false) (hs : ¬ a + 1 < s.size) (N3 : (Lx.clsI s.data.toList (a + 1) == 3) = false) (F3 : (Lx.clsI s.data.toList a == 3) = false) (F4 : (Lx.clsI s.data.toList a == 4) = false) (hr : Lx.Res.err 0 3 = r) :
  Calls Tryz.prog 149 #[.pointer (some ⟨L, 0, none⟩)] w (LexRes w L s a p e r) := by
 obtain ⟨g1, g2, g3, g4, f1, f2, f3, hL⟩ := lex_reads h
 have HM := hm
 have _ha := ha
 unfold maxLen at hm
 have H := hid h
 clear h
 have a0 : (0 : Int) ≤ (a : Int) := by omega
 have a1 : (a : Int) < (s.size : Int) := by omega
 have a2 : (a : Int) + 1 ≤ (s.size : Int) := by omega
 have S1 : decide ((a : Int) + 1 < (s.size : Int)) = false := by simp; omega
 have N3' : (Lx.clsI s.data.toList ((a : Int) + 1).toNat == 3) = false := by rw [show ((a : Int) + 1).toNat = a + 1 from by omega]; exact N3
 go_enter Tryz.func149, Tryz.ntmps149
 go_wp2_with (go_at_call 174; refine (is_any L s a p e _ _ _ (by first | exact H.out.alloc _ | exact (H.out.alloc _).drewN _) (by omega) (by omega)).mono ?_; rintro e' w' ⟨rfl, n, rfl⟩)
 all_goals
  refine (fail_as L s a p e _ _ 0 3 _ r hr ((H.out.alloc _).drewN _) rfl rfl).mono ?_
  rintro e' w' ⟨k, tx, f, t, b, a', p', e2, rfl, hx, ht, hmn⟩
  obtain ⟨q0, q1, q2, q3, z0, z1, z2, z3, hg⟩ := Blk.four (ht.blk ((Blk.new w _ _).drewN _) (by omega))
  have HX := hid hx
  have HT := hid ht
  have HMN := hid hmn
  clear hx ht hmn
  go_wp2_with fail
  (try simp only [Exit.inBlock, Exit.then])
  refine bodyPost_ret (v := .tuple #[.agg #[.int .i64 k, .string tx, .int .i64 f, .int .i64 t], .bool b]) (by simp [results, Tryz.results149, go_sem, q0, q1, q2, q3]) rfl ?_
  exact LexRes.close hL HX.out HT.out.preN HMN.out
set_option maxRecDepth 100000 in
set_option maxHeartbeats 400000 in
theorem next_param (L : Nat) (s : ByteArray) (a : Nat) (p e : Int) (w : World) (h : LexAt w L s a p e) (hm : s.size ≤ maxLen) (ha : a < s.size) (r : Lx.Res) (F2 : (Lx.clsI s.data.toList a == 2) = false) (F5 : (Lx.clsI s.data.toList a == 5) = false) (C34 : ((s.extract a (a + 1)).toList == [34]) = false) (C92 : ((s.extract a (a + 1)).toList == [92]) = false) (C35 : ((s.extract a (a + 1)).toList == [35]) = true) (hs : a + 1 < s.size) (Dg49 : decide (49 ≤ ((s[a + 1]'hs).toNat : Int)) = true) (Dl52 : decide (((s[a + 1]'hs).toNat : Int) ≤ 52) = true) (hr : Lx.lim 1 ⟨6, (Utf8.encode (wrap32 ((s[a + 1]'hs).toNat : Int))).data.toList⟩ 2 = r) :
  Calls Tryz.prog 149 #[.pointer (some ⟨L, 0, none⟩)] w (LexRes w L s a p e r) := by
 obtain ⟨g1, g2, g3, g4, f1, f2, f3, hL⟩ := lex_reads h
 have HM := hm
 have _ha := ha
 unfold maxLen at hm
 have H := hid h
 clear h
 have a0 : (0 : Int) ≤ (a : Int) := by omega
 have a1 : (a : Int) < (s.size : Int) := by omega
 have a2 : (a : Int) + 1 ≤ (s.size : Int) := by omega
 have S1 : decide ((a : Int) + 1 < (s.size : Int)) = true := by simp; omega
 have S2 : (a : Int) + 1 < (s.size : Int) := by omega
 have S3 : (0 : Int) ≤ (a : Int) + 1 := by omega
 go_enter Tryz.func149, Tryz.ntmps149
 go_wp2_with (go_at_call 174; refine (is_any L s a p e _ _ _ (by first | exact H.out.alloc _ | exact (H.out.alloc _).drewN _) (by omega) (by omega)).mono ?_; rintro e' w' ⟨rfl, n, rfl⟩)
 all_goals
  generalize Utf8.encode (wrap32 ((s[a + 1]'hs).toNat : Int)) = tx0 at hr ⊢
  refine (token_as L s a p e _ 6 _ _ 2 1 _ _ r hr ((H.out.alloc _).drewN _) rfl rfl rfl).mono ?_
  rintro e' w' ⟨k, tx, f, t, b, a', p', e2, rfl, hx, ht, hmn⟩
  obtain ⟨q0, q1, q2, q3, z0, z1, z2, z3, hg⟩ := Blk.four (ht.blk ((Blk.new w _ _).drewN _) (by omega))
  have HX := hid hx
  have HT := hid ht
  have HMN := hid hmn
  clear hx ht hmn
  go_wp2_with fail
  (try simp only [Exit.inBlock, Exit.then])
  refine bodyPost_ret (v := .tuple #[.agg #[.int .i64 k, .string tx, .int .i64 f, .int .i64 t], .bool b]) (by simp [results, Tryz.results149, go_sem, q0, q1, q2, q3]) rfl ?_
  exact LexRes.close hL HX.out HT.out.preN HMN.out
set_option maxRecDepth 100000 in
set_option maxHeartbeats 400000 in
theorem next_hash_a (L : Nat) (s : ByteArray) (a : Nat) (p e : Int) (w : World) (h : LexAt w L s a p e) (hm : s.size ≤ maxLen) (ha : a < s.size) (r : Lx.Res) (F2 : (Lx.clsI s.data.toList a == 2) = false) (F5 : (Lx.clsI s.data.toList a == 5) = false) (C34 : ((s.extract a (a + 1)).toList == [34]) = false) (C92 : ((s.extract a (a + 1)).toList == [92]) = false) (C35 : ((s.extract a (a + 1)).toList == [35]) = true) (hs : a + 1 < s.size) (Dg49 : decide (49 ≤ ((s[a + 1]'hs).toNat : Int)) = false) (F3 : (Lx.clsI s.data.toList a == 3) = false) (F4 : (Lx.clsI s.data.toList a == 4) = false) (hr : Lx.Res.err 0 3 = r) :
  Calls Tryz.prog 149 #[.pointer (some ⟨L, 0, none⟩)] w (LexRes w L s a p e r) := by
 obtain ⟨g1, g2, g3, g4, f1, f2, f3, hL⟩ := lex_reads h
 have HM := hm
 have _ha := ha
 unfold maxLen at hm
 have H := hid h
 clear h
 have a0 : (0 : Int) ≤ (a : Int) := by omega
 have a1 : (a : Int) < (s.size : Int) := by omega
 have a2 : (a : Int) + 1 ≤ (s.size : Int) := by omega
 have S1 : decide ((a : Int) + 1 < (s.size : Int)) = true := by simp; omega
 have S2 : (a : Int) + 1 < (s.size : Int) := by omega
 have S3 : (0 : Int) ≤ (a : Int) + 1 := by omega
 go_enter Tryz.func149, Tryz.ntmps149
 go_wp2_with (go_at_call 174; refine (is_any L s a p e _ _ _ (by first | exact H.out.alloc _ | exact (H.out.alloc _).drewN _) (by omega) (by omega)).mono ?_; rintro e' w' ⟨rfl, n, rfl⟩)
 all_goals
  refine (fail_as L s a p e _ _ 0 3 _ r hr ((H.out.alloc _).drewN _) rfl rfl).mono ?_
  rintro e' w' ⟨k, tx, f, t, b, a', p', e2, rfl, hx, ht, hmn⟩
  obtain ⟨q0, q1, q2, q3, z0, z1, z2, z3, hg⟩ := Blk.four (ht.blk ((Blk.new w _ _).drewN _) (by omega))
  have HX := hid hx
  have HT := hid ht
  have HMN := hid hmn
  clear hx ht hmn
  go_wp2_with fail
  (try simp only [Exit.inBlock, Exit.then])
  refine bodyPost_ret (v := .tuple #[.agg #[.int .i64 k, .string tx, .int .i64 f, .int .i64 t], .bool b]) (by simp [results, Tryz.results149, go_sem, q0, q1, q2, q3]) rfl ?_
  exact LexRes.close hL HX.out HT.out.preN HMN.out
set_option maxRecDepth 100000 in
set_option maxHeartbeats 400000 in
theorem next_hash_b (L : Nat) (s : ByteArray) (a : Nat) (p e : Int) (w : World) (h : LexAt w L s a p e) (hm : s.size ≤ maxLen) (ha : a < s.size) (r : Lx.Res) (F2 : (Lx.clsI s.data.toList a == 2) = false) (F5 : (Lx.clsI s.data.toList a == 5) = false) (C34 : ((s.extract a (a + 1)).toList == [34]) = false) (C92 : ((s.extract a (a + 1)).toList == [92]) = false) (C35 : ((s.extract a (a + 1)).toList == [35]) = true) (hs : a + 1 < s.size) (Dg49 : decide (49 ≤ ((s[a + 1]'hs).toNat : Int)) = true) (Dl52 : decide (((s[a + 1]'hs).toNat : Int) ≤ 52) = false) (F3 : (Lx.clsI s.data.toList a == 3) = false) (F4 : (Lx.clsI s.data.toList a == 4) = false) (hr : Lx.Res.err 0 3 = r) :
  Calls Tryz.prog 149 #[.pointer (some ⟨L, 0, none⟩)] w (LexRes w L s a p e r) := by
 obtain ⟨g1, g2, g3, g4, f1, f2, f3, hL⟩ := lex_reads h
 have HM := hm
 have _ha := ha
 unfold maxLen at hm
 have H := hid h
 clear h
 have a0 : (0 : Int) ≤ (a : Int) := by omega
 have a1 : (a : Int) < (s.size : Int) := by omega
 have a2 : (a : Int) + 1 ≤ (s.size : Int) := by omega
 have S1 : decide ((a : Int) + 1 < (s.size : Int)) = true := by simp; omega
 have S2 : (a : Int) + 1 < (s.size : Int) := by omega
 have S3 : (0 : Int) ≤ (a : Int) + 1 := by omega
 go_enter Tryz.func149, Tryz.ntmps149
 go_wp2_with (go_at_call 174; refine (is_any L s a p e _ _ _ (by first | exact H.out.alloc _ | exact (H.out.alloc _).drewN _) (by omega) (by omega)).mono ?_; rintro e' w' ⟨rfl, n, rfl⟩)
 all_goals
  refine (fail_as L s a p e _ _ 0 3 _ r hr ((H.out.alloc _).drewN _) rfl rfl).mono ?_
  rintro e' w' ⟨k, tx, f, t, b, a', p', e2, rfl, hx, ht, hmn⟩
  obtain ⟨q0, q1, q2, q3, z0, z1, z2, z3, hg⟩ := Blk.four (ht.blk ((Blk.new w _ _).drewN _) (by omega))
  have HX := hid hx
  have HT := hid ht
  have HMN := hid hmn
  clear hx ht hmn
  go_wp2_with fail
  (try simp only [Exit.inBlock, Exit.then])
  refine bodyPost_ret (v := .tuple #[.agg #[.int .i64 k, .string tx, .int .i64 f, .int .i64 t], .bool b]) (by simp [results, Tryz.results149, go_sem, q0, q1, q2, q3]) rfl ?_
  exact LexRes.close hL HX.out HT.out.preN HMN.out
set_option maxRecDepth 100000 in
set_option maxHeartbeats 400000 in
theorem next_hash_c (L : Nat) (s : ByteArray) (a : Nat) (p e : Int) (w : World) (h : LexAt w L s a p e) (hm : s.size ≤ maxLen) (ha : a < s.size) (r : Lx.Res) (F2 : (Lx.clsI s.data.toList a == 2) = false) (F5 : (Lx.clsI s.data.toList a == 5) = false) (C34 : ((s.extract a (a + 1)).toList == [34]) = false) (C92 : ((s.extract a (a + 1)).toList == [92]) = false) (C35 : ((s.extract a (a + 1)).toList == [35]) = true) (hs : ¬ a + 1 < s.size) (F3 : (Lx.clsI s.data.toList a == 3) = false) (F4 : (Lx.clsI s.data.toList a == 4) = false) (hr : Lx.Res.err 0 3 = r) :
  Calls Tryz.prog 149 #[.pointer (some ⟨L, 0, none⟩)] w (LexRes w L s a p e r) := by
 obtain ⟨g1, g2, g3, g4, f1, f2, f3, hL⟩ := lex_reads h
 have HM := hm
 have _ha := ha
 unfold maxLen at hm
 have H := hid h
 clear h
 have a0 : (0 : Int) ≤ (a : Int) := by omega
 have a1 : (a : Int) < (s.size : Int) := by omega
 have a2 : (a : Int) + 1 ≤ (s.size : Int) := by omega
 have S1 : decide ((a : Int) + 1 < (s.size : Int)) = false := by simp; omega
 go_enter Tryz.func149, Tryz.ntmps149
 go_wp2_with (go_at_call 174; refine (is_any L s a p e _ _ _ (by first | exact H.out.alloc _ | exact (H.out.alloc _).drewN _) (by omega) (by omega)).mono ?_; rintro e' w' ⟨rfl, n, rfl⟩)
 all_goals
  refine (fail_as L s a p e _ _ 0 3 _ r hr ((H.out.alloc _).drewN _) rfl rfl).mono ?_
  rintro e' w' ⟨k, tx, f, t, b, a', p', e2, rfl, hx, ht, hmn⟩
  obtain ⟨q0, q1, q2, q3, z0, z1, z2, z3, hg⟩ := Blk.four (ht.blk ((Blk.new w _ _).drewN _) (by omega))
  have HX := hid hx
  have HT := hid ht
  have HMN := hid hmn
  clear hx ht hmn
  go_wp2_with fail
  (try simp only [Exit.inBlock, Exit.then])
  refine bodyPost_ret (v := .tuple #[.agg #[.int .i64 k, .string tx, .int .i64 f, .int .i64 t], .bool b]) (by simp [results, Tryz.results149, go_sem, q0, q1, q2, q3]) rfl ?_
  exact LexRes.close hL HX.out HT.out.preN HMN.out
set_option maxRecDepth 100000 in
set_option maxHeartbeats 400000 in
theorem next_letter (L : Nat) (s : ByteArray) (a : Nat) (p e : Int) (w : World) (h : LexAt w L s a p e) (hm : s.size ≤ maxLen) (ha : a < s.size) (r : Lx.Res) (F2 : (Lx.clsI s.data.toList a == 2) = false) (F5 : (Lx.clsI s.data.toList a == 5) = false) (C34 : ((s.extract a (a + 1)).toList == [34]) = false) (C92 : ((s.extract a (a + 1)).toList == [92]) = false) (C35 : ((s.extract a (a + 1)).toList == [35]) = false) (F3 : (Lx.clsI s.data.toList a == 3) = true) (hr : Lx.lim 1 ⟨1, (s.extract a (a + 1)).data.toList⟩ 1 = r) :
  Calls Tryz.prog 149 #[.pointer (some ⟨L, 0, none⟩)] w (LexRes w L s a p e r) := by
 obtain ⟨g1, g2, g3, g4, f1, f2, f3, hL⟩ := lex_reads h
 have HM := hm
 have _ha := ha
 unfold maxLen at hm
 have H := hid h
 clear h
 have a0 : (0 : Int) ≤ (a : Int) := by omega
 have a1 : (a : Int) < (s.size : Int) := by omega
 have a2 : (a : Int) + 1 ≤ (s.size : Int) := by omega
 go_enter Tryz.func149, Tryz.ntmps149
 go_wp2_with (go_at_call 174; refine (is_any L s a p e _ _ _ (by first | exact H.out.alloc _ | exact (H.out.alloc _).drewN _) (by omega) (by omega)).mono ?_; rintro e' w' ⟨rfl, n, rfl⟩)
 all_goals
  refine (token_as L s a p e _ 1 _ _ 1 1 _ _ r hr ((H.out.alloc _).drewN _) rfl rfl rfl).mono ?_
  rintro e' w' ⟨k, tx, f, t, b, a', p', e2, rfl, hx, ht, hmn⟩
  obtain ⟨q0, q1, q2, q3, z0, z1, z2, z3, hg⟩ := Blk.four (ht.blk ((Blk.new w _ _).drewN _) (by omega))
  have HX := hid hx
  have HT := hid ht
  have HMN := hid hmn
  clear hx ht hmn
  go_wp2_with fail
  (try simp only [Exit.inBlock, Exit.then])
  refine bodyPost_ret (v := .tuple #[.agg #[.int .i64 k, .string tx, .int .i64 f, .int .i64 t], .bool b]) (by simp [results, Tryz.results149, go_sem, q0, q1, q2, q3]) rfl ?_
  exact LexRes.close hL HX.out HT.out.preN HMN.out
set_option maxRecDepth 100000 in
set_option maxHeartbeats 400000 in
theorem next_sign (L : Nat) (s : ByteArray) (a : Nat) (p e : Int) (w : World) (h : LexAt w L s a p e) (hm : s.size ≤ maxLen) (ha : a < s.size) (r : Lx.Res) (F2 : (Lx.clsI s.data.toList a == 2) = false) (F5 : (Lx.clsI s.data.toList a == 5) = false) (C34 : ((s.extract a (a + 1)).toList == [34]) = false) (C92 : ((s.extract a (a + 1)).toList == [92]) = false) (C35 : ((s.extract a (a + 1)).toList == [35]) = false) (F3 : (Lx.clsI s.data.toList a == 3) = false) (F4 : (Lx.clsI s.data.toList a == 4) = true) (hr : Lx.lim 1 ⟨1, (s.extract a (a + 1)).data.toList⟩ 1 = r) :
  Calls Tryz.prog 149 #[.pointer (some ⟨L, 0, none⟩)] w (LexRes w L s a p e r) := by
 obtain ⟨g1, g2, g3, g4, f1, f2, f3, hL⟩ := lex_reads h
 have HM := hm
 have _ha := ha
 unfold maxLen at hm
 have H := hid h
 clear h
 have a0 : (0 : Int) ≤ (a : Int) := by omega
 have a1 : (a : Int) < (s.size : Int) := by omega
 have a2 : (a : Int) + 1 ≤ (s.size : Int) := by omega
 go_enter Tryz.func149, Tryz.ntmps149
 go_wp2_with (go_at_call 174; refine (is_any L s a p e _ _ _ (by first | exact H.out.alloc _ | exact (H.out.alloc _).drewN _) (by omega) (by omega)).mono ?_; rintro e' w' ⟨rfl, n, rfl⟩)
 all_goals
  refine (token_as L s a p e _ 1 _ _ 1 1 _ _ r hr ((H.out.alloc _).drewN _) rfl rfl rfl).mono ?_
  rintro e' w' ⟨k, tx, f, t, b, a', p', e2, rfl, hx, ht, hmn⟩
  obtain ⟨q0, q1, q2, q3, z0, z1, z2, z3, hg⟩ := Blk.four (ht.blk ((Blk.new w _ _).drewN _) (by omega))
  have HX := hid hx
  have HT := hid ht
  have HMN := hid hmn
  clear hx ht hmn
  go_wp2_with fail
  (try simp only [Exit.inBlock, Exit.then])
  refine bodyPost_ret (v := .tuple #[.agg #[.int .i64 k, .string tx, .int .i64 f, .int .i64 t], .bool b]) (by simp [results, Tryz.results149, go_sem, q0, q1, q2, q3]) rfl ?_
  exact LexRes.close hL HX.out HT.out.preN HMN.out
set_option maxRecDepth 100000 in
set_option maxHeartbeats 400000 in
theorem next_none (L : Nat) (s : ByteArray) (a : Nat) (p e : Int) (w : World) (h : LexAt w L s a p e) (hm : s.size ≤ maxLen) (ha : a < s.size) (r : Lx.Res) (F2 : (Lx.clsI s.data.toList a == 2) = false) (F5 : (Lx.clsI s.data.toList a == 5) = false) (C34 : ((s.extract a (a + 1)).toList == [34]) = false) (C92 : ((s.extract a (a + 1)).toList == [92]) = false) (C35 : ((s.extract a (a + 1)).toList == [35]) = false) (F3 : (Lx.clsI s.data.toList a == 3) = false) (F4 : (Lx.clsI s.data.toList a == 4) = false) (hr : Lx.Res.err 0 3 = r) :
  Calls Tryz.prog 149 #[.pointer (some ⟨L, 0, none⟩)] w (LexRes w L s a p e r) := by
 obtain ⟨g1, g2, g3, g4, f1, f2, f3, hL⟩ := lex_reads h
 have HM := hm
 have _ha := ha
 unfold maxLen at hm
 have H := hid h
 clear h
 have a0 : (0 : Int) ≤ (a : Int) := by omega
 have a1 : (a : Int) < (s.size : Int) := by omega
 have a2 : (a : Int) + 1 ≤ (s.size : Int) := by omega
 go_enter Tryz.func149, Tryz.ntmps149
 go_wp2_with (go_at_call 174; refine (is_any L s a p e _ _ _ (by first | exact H.out.alloc _ | exact (H.out.alloc _).drewN _) (by omega) (by omega)).mono ?_; rintro e' w' ⟨rfl, n, rfl⟩)
 all_goals
  refine (fail_as L s a p e _ _ 0 3 _ r hr ((H.out.alloc _).drewN _) rfl rfl).mono ?_
  rintro e' w' ⟨k, tx, f, t, b, a', p', e2, rfl, hx, ht, hmn⟩
  obtain ⟨q0, q1, q2, q3, z0, z1, z2, z3, hg⟩ := Blk.four (ht.blk ((Blk.new w _ _).drewN _) (by omega))
  have HX := hid hx
  have HT := hid ht
  have HMN := hid hmn
  clear hx ht hmn
  go_wp2_with fail
  (try simp only [Exit.inBlock, Exit.then])
  refine bodyPost_ret (v := .tuple #[.agg #[.int .i64 k, .string tx, .int .i64 f, .int .i64 t], .bool b]) (by simp [results, Tryz.results149, go_sem, q0, q1, q2, q3]) rfl ?_
  exact LexRes.close hL HX.out HT.out.preN HMN.out
end Go.Proofs.YtdacpbdamliafaaGreat
