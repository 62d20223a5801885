/- Part 31 of 42 of a proof; its texts, joined: NyP. No condition. -/
import Derived.Test.YtomibmenojdieaaGreatXx30
import Derived.Test.YtomibmenojdieaaGreatXx6
set_option maxRecDepth 100000
set_option maxHeartbeats 3000000
namespace Go.Proofs.YtomibmenojdieaaGreat
open Go.RowKit
open Tr (Nd)
open Lx (PTok)
open Mcr (R pRow pIn pScript pItem pPrim pArgs pName pCells pArg)
attribute [local go_sem] stillV stillUpon
def slLen : Value → Nat
 | .slice _ n _ => n
 | _ => 0
theorem tok_kind (en : Nat) (l : List PTok) : ∃ (kd : Nat) (r1 r3 : Value) (fr : Nat), tokV en l = .agg #[.int .i64 (kd : Int), r1, .int .i64 (fr : Int), r3] ∧ fr = Np.place en l ∧ (kd == 8) = Np.isBreak l := by
 cases l with
 | nil => exact ⟨0, _, _, en, rfl, rfl, rfl⟩
 | cons t r => exact ⟨t.kind, _, _, t.from_, rfl, rfl, rfl⟩
theorem matrix_n (c : Cf) (hc : c.Good) (F : Nat) (hF : F ≤ 1000000) (hrow : ∀ f', f' < F → RowN c f') : MatrixN c F := by
 intro k op w h hop hk hne;obtain ⟨i, hi, hz0, hz1, hz2⟩ := info_parts infoNodeN;have htl := hc.tl;have hk4 : k.p ≤ 100000 := by omega
 have HRO := hid hrow;have HT := hid (fun (k' : Kp) (op' : List Nat) (w' : World) (hp : Ps c k' op' w') => tok_any_n c hc k' op' w' hp);have HA := hid (fun (b : UInt8) (k' : Kp) (op' : List Nat) (w' : World) (hp : Ps c k' op' w') => at_any_n c hc k' op' b w' hp);have HR := hid (fun (k' : Kp) (op' : List Nat) (w' : World) (hp : Ps c k' op' w') => refuse_any_n c hc k' op' w' hp);have HBE := hid (fun (k' : Kp) (w' : World) (hp : Ps c k' op w') (hk' : k'.p < c.T.length) => begin_any_n c hc k' op w' hp hk' (by omega));have HFI := hid (fun (k' : Kp) (x : Nat) (w' : World) (hp : Ps c k' (op ++ [x]) w') (hk' : k'.p < c.T.length ∨ Np.isM 125 (c.at k').l = false) => finish_any_n c hc k' op x 125 w' hp hk');have H := hid h;have HOP := hid hop;have HFF := hid hF;have HW0 := hid h.low.size;have HK := hid hk;have hgl : c.g < w.heap.size := h.glt;have HNE := hid hne;obtain ⟨ov, hb, _⟩ := h.box;have q1 := hb.cell 1;have z1 := hb.frozen 1;clear hb h hne hc hop hrow hF;refine Calls.via fun Q hQ => ?_
 have HQ := hid hQ;clear hQ;unfold matrixR at HNE HQ;unfold pp0;have e1 : ((k.p : Int) + 1) = ((k.p + 1 : Nat) : Int) := by simp
 have HE := hid e1;clear e1;go_enter Tryz.func44, Tryz.ntmps44;go_wp2_with fail
 have hn := H.out.next hk ((k.p : Int) + 1) HE.out;have hs : (w.setCell ⟨c.g, 1, none⟩ (.int .i64 ((k.p : Int) + 1))).heap.size = w.heap.size := by simp
 generalize (w.setCell ⟨c.g, 1, none⟩ (.int .i64 ((k.p : Int) + 1))) = W1 at hn hs ⊢;have hbf : Blk (W1.alloc (.cells #[.int .i64 0, .int .i64 0] 48)) W1.heap.size 48 #[.int .i64 0, .int .i64 0] := Blk.new _ _ _;have hp2 := hn.1.fresh ((Touch.refl _ _).alloc (.cells #[.int .i64 0, .int .i64 0] 48));have hm2 := hn.2.trans (Mp.fresh ((Touch.refl _ W1).alloc (.cells #[.int .i64 0, .int .i64 0] 48)));have hs2 : (W1.alloc (.cells #[.int .i64 0, .int .i64 0] 48)).heap.size = w.heap.size + 1 := by simp [hs]
 rw [hs] at hbf;generalize (W1.alloc (.cells #[.int .i64 0, .int .i64 0] 48)) = W2 at hbf hp2 hm2 hs2 ⊢
 (try rw [hs])
 have HP2 := hid hp2;have HM2 := hid hm2;have HS2 := hid hs2;have HBF := hid hbf;clear hn hs hbf hp2 hm2 q1 z1 hs2;refine (HA.out 123 k.up op W2 HP2.out).mono ?_;rintro _ w3 ⟨rfl, hf⟩;have HP3 := hid (HP2.out.fresh hf);have HM3' := hid (HM2.out.fr hf);have HBF3' := hid (hf.blk HBF.out fun h => h);have HS3 := hid (show w.heap.size + 1 ≤ w3.heap.size from by have := hf.size; have := HS2.out; omega);clear hf;cases hm : Np.isM 123 (c.at k.up).l with
 | false =>
  rw [if_neg (by simp [hm])] at HQ;clear hm;go_wp2_with fail
  refine (HR.out k.up op w3 HP3.out).mono ?_;rintro _ w9 ⟨rfl, hf⟩;have HM3 := hid (HM3'.out.fr hf);have HBF3 := hid (hf.blk HBF3'.out fun h => h);clear hf;replace HQ := hid (show ∀ (e : Ending) (w' : World), ItemsE c k op (.err (Np.place c.en (c.at k.up).l) 3) w e w' → Q e w' from HQ.out);generalize Np.place c.en (c.at k.up).l = pl at HQ ⊢;obtain ⟨q0, q1, z0, z1, hlt3⟩ := Blk.two HBF3.out
  (try unfold failV)
  go_wp2_with fail
  have n1 := HBF3.out.self2 (.int .i64 (pl : Int)) (.int .i64 3);have hm4 : Mp c.g c.W0.heap.size w (put2 w9 (w.heap.size) (.int .i64 (pl : Int)) (.int .i64 3)) := HM3.out.put2 (g := w.heap.size) (.inr (by omega)) (.int .i64 (pl : Int)) (.int .i64 3);have ht4 := touch2 w9 (w.heap.size) (.int .i64 (pl : Int)) (.int .i64 3);simp only [put2] at n1 hm4 ht4;generalize (World.setCell (World.setCell w9 ⟨w.heap.size, 0, none⟩ _) ⟨w.heap.size, 1, none⟩ _) = W4 at n1 hm4 ht4 ⊢;obtain ⟨f0, f1, _⟩ := Blk.two n1
  (try simp only [Exit.inBlock, Exit.then])
  refine bodyPost_ret (v := .tuple #[.slice none 0 0, failV pl 3]) (by simp [failV, results, Tryz.results44, go_sem, f0, f1]) rfl ?_;exact HQ.out _ _ ⟨by decide, none, 0, 0, rfl, hm4⟩
 | true =>
  rw [if_pos hm, Cf.at_up] at HQ HNE;have hk1 := isM_lt hm;have HK1 := hid hk1;clear hm hk1;generalize hpl : Np.place c.en (c.at k.up).l = pl at HQ HNE;go_wp2_with fail
  refine (HBE.out k.up w3 HP3.out HK1.out).mono ?_;rw [hpl];clear hpl;rintro _ w4 ⟨rfl, hp4, hm4⟩;have HBF4 := hid (hm4.blk HBF3'.out (by omega) (by decide));have HM4 := hid (HM3'.out.trans hm4);have HS4 := hid (show w.heap.size + 1 ≤ w4.heap.size from by have := HS3.out; have := hm4.size; omega);have HP4 := hid hp4;clear hp4 hm4;generalize hX : pCells c.E F (op ++ [pl]) [] 0 0 (c.at k.up.up) = X at HNE HQ;have HX := hid hX;clear hX;go_wp2_with fail
  have hf1 : Fresh w4 (w4.alloc (.cells #[.int .i64 12, .string ⟨#[]⟩, .int .i64 0, .slice none 0 0] 35)) := (Touch.refl _ _).alloc _;have hbm : Blk (w4.alloc (.cells #[.int .i64 12, .string ⟨#[]⟩, .int .i64 0, .slice none 0 0] 35)) w4.heap.size 35 #[.int .i64 12, .string ⟨#[]⟩, .int .i64 0, .slice none 0 0] := Blk.new _ _ _;have hsw1 : (w4.alloc (.cells #[.int .i64 12, .string ⟨#[]⟩, .int .i64 0, .slice none 0 0] 35)).heap.size = w4.heap.size + 1 := by simp
  generalize (w4.alloc (.cells #[.int .i64 12, .string ⟨#[]⟩, .int .i64 0, .slice none 0 0] 35)) = W5 at hf1 hbm hsw1 ⊢;have HF5 := hid hf1;have HBM5 := hid hbm;have HSZ5 := hid hsw1;clear hf1 hbm hsw1
  go_loopw [5] (fun j wr => ∃ (k1 : Kp) (b cl : Nat) (ks : List Nd) (A : Option Addr) (cp : Nat), j = .int .i64 (b : Int) ∧ Hid (Blk wr w4.heap.size 35 #[.int .i64 12, .string ⟨#[]⟩, .int .i64 (cl : Int), .slice A ks.length cp]) ∧ Hid (Blk wr w.heap.size 48 #[.int .i64 0, .int .i64 0]) ∧ Hid (Grow (fun k => k = w4.heap.size) wr w.heap.size W5.heap.size ks (.slice A ks.length cp)) ∧ Hid (Ps c k1 (op ++ [pl]) wr) ∧ k.p + 2 ≤ k1.p ∧ Hid (Mp c.g c.W0.heap.size w wr) ∧ W5.heap.size ≤ wr.heap.size ∧ ks.length ≤ F ∧ b ≤ ks.length ∧ Hid (X = pCells c.E (F - ks.length) (op ++ [pl]) ks b cl (c.at k1))) (fun _ wr => F - slLen ((wr.cell? ⟨w4.heap.size, 3, none⟩).getD undef))
  case atStart =>
   refine ⟨k.up.up, 0, 0, [], none, 0, rfl, HBM5, HF5.out.blk HBF4.out fun h => h, Grow.nil _ _ _ _, HP4.out.fresh HF5.out, Nat.le_refl _, HM4.out.fr HF5.out, Nat.le_refl _, Nat.zero_le _, Nat.zero_le _, ?_⟩;unfold Hid;rw [← HX.out, List.length_nil, Nat.sub_zero]
  case round =>
   obtain ⟨k1, b, cl, ks, A, cp, rfl, HBM, HBR, HG, HP, hkk, HM, hsz, hle, hble, HXX⟩ := hrel
   obtain ⟨f', hf'⟩ : ∃ f', F - ks.length = f' + 1 := by
    rcases Nat.eq_zero_or_pos (F - ks.length) with h0 | h0
    ·exfalso
     have h1 := HXX.out;rw [h0, pCells] at h1;exact HNE.out (by rw [h1]; rfl)
    ·exact ⟨F - ks.length - 1, by omega⟩
   have HXS := hid (show X = pCells c.E (f' + 1) (op ++ [pl]) ks b cl (c.at k1) from by rw [HXX.out, hf']);rw [pCells] at HXS;have HF' := hid hf';have HLE := hid hle;have HBLE := hid hble;have HKK := hid hkk;have HSZ := hid hsz;have HNX := hid (R.map_out HNE.out);clear HXX hf' hle hkk hsz hble;go_wp2_with fail
   refine (HRO.out f' (by have := HF'.out; omega) k1 (op ++ [pl]) wr HP.out (by have := HOP.out; have := HKK.out; simp; omega) (fun h => HNX.out (by rw [HXS.out, h]; rfl))).mono ?_;intro e w6 hres;have hparts := hres.parts (fun h => HNX.out (by rw [HXS.out, h]; rfl));clear hres;generalize pRow c.E f' (op ++ [pl]) (c.at k1) = Y at HXS hparts;obtain ⟨A1, n1, cp1, i1, er1, rfl, hm, hend⟩ := hparts;have HMM := hid hm;have HM6 := hid (HM.out.trans hm);have HBR6 := hid (hm.blk HBR.out (by omega) (by decide));have HBM6 := hid (hm.blk HBM.out (by have := HS4.out; omega) (by decide));clear hm
   rcases hend with ⟨items, rest, k', rfl, rfl, rfl, rfl, htr, rfl, hkk2, hp⟩ | ⟨rfl, he0⟩
   case inr =>
    have HE0 := hid he0;have e0 := fail_ne he0;clear he0;have HXE := hid (show X = .err i1 er1 from HXS.out);rw [HXE.out] at HQ;unfold failV;go_wp2_with fail
    have hbe := Blk.new w6 48 #[.int .i64 (i1 : Int), .int .i64 (er1 : Int)];have hbr := HBR6.out.alloc (.cells #[.int .i64 (i1 : Int), .int .i64 (er1 : Int)] 48);have hmr := HM6.out.alloc (.cells #[.int .i64 (i1 : Int), .int .i64 (er1 : Int)] 48);generalize (w6.alloc (.cells #[.int .i64 (i1 : Int), .int .i64 (er1 : Int)] 48)) = W6 at hbe hbr hmr ⊢;have r0 := cR (hbe.cell 0 |>.trans rfl);have r1 := cR (hbe.cell 1 |>.trans rfl);have hlt3 := hbe.lt;have HBR := hid hbr;have HMR := hid hmr;clear hbe hbr hmr;refine wp_region_mix [([(0, true), (1, true)], 2)] [] (by kernel_rfl) (fun _ _ d _ _ h => by cases d <;> exact h) (by kernel_rfl) ?_;refine wpMix_seg ?_
    repeat (refine wpSeq_plain rfl (fun K hK => ?_); go_simp; refine hK _ ?_; clear hK K)
    obtain ⟨p0, p1, y0, y1, hlt⟩ := Blk.two (HBR.out.drewN 1);refine wpSeq_shut rfl (fun K hK => ?_);go_wp2_with fail
    refine wpMix_end ?_;go_wp2_with fail
    have hb5 : Blk _ (w.heap.size) 48 #[.int .i64 (i1 : Int), .int .i64 (er1 : Int)] := ((HBR.out.drewN 1).put 0 (.int .i64 (i1 : Int))).put 1 (.int .i64 (er1 : Int));have hm5 := ((HMR.out.drewN 1).setCell (p := ⟨w.heap.size, 0, none⟩) (.inr (by show w.heap.size ≤ w.heap.size; omega)) (.int .i64 (i1 : Int))).setCell (p := ⟨w.heap.size, 1, none⟩) (.inr (by show w.heap.size ≤ w.heap.size; omega)) (.int .i64 (er1 : Int));obtain ⟨f0, f1, _⟩ := Blk.two hb5
    (try simp only [Exit.inBlock, Exit.then])
    refine bodyPost_ret (v := .tuple #[.slice none 0 0, failV i1 er1]) (by simp [failV, results, Tryz.results44, go_sem, f0, f1]) rfl ?_;exact HQ.out _ _ ⟨HE0.out, none, 0, 0, rfl, hm5⟩
   have HTR := hid htr;have HK2 := hid hkk2;have HP6 := hid hp;have HG6 := hid (show Grow (fun k => k = w4.heap.size) w6 w.heap.size W5.heap.size ks (.slice A ks.length cp) from HG.out.mv HMM.out (by have := HSZ5.out; have := HS4.out; omega) (fun k hk => by have := HSZ5.out; omega) (fun b hb => .inr (.inr (PT.nty HP.out hb))))
   have HOB := hid (show ∀ b, (Value.slice A ks.length cp).ownBlock = some b → b < wr.heap.size from fun b hb => by
    obtain ⟨cs, h1, _⟩ := HG.out;obtain ⟨_, cur, h4⟩ := owns_type h1 hb;exact (Array.getElem?_eq_some_iff.1 h4).1)
   clear htr hkk2 hp;unfold failV;go_wp2_with fail
   have hf7 : Fresh w6 (w6.alloc (.cells #[.int .i64 0, .int .i64 0] 48)) := (Touch.refl _ _).alloc _;generalize (w6.alloc (.cells #[.int .i64 0, .int .i64 0] 48)) = W7 at hf7 ⊢;have HF7 := hid hf7;have HBM7 := hid (hf7.blk HBM6.out fun h => h);clear hf7;have r3 := cR (HBM7.out.cell 3 |>.trans rfl);have hl7 := HBM7.out.lt;refine wp_region_mix [([(0, true), (1, true), (2, true), (3, false), (4, false)], 5), ([(6, true)], 7)] [] (by kernel_rfl) (fun _ _ d _ _ h => by cases d <;> exact h) (by kernel_rfl) ?_;refine wpMix_seg ?_
   repeat (refine wpSeq_plain rfl (fun K hK => ?_); go_simp; refine hK _ ?_; clear hK K)
   refine wpSeq_lone rfl (fun K hK => ?_);go_wp2_with fail
   refine (slot_any_n A1 items.length cp1 _).mono ?_;rintro _ w8 ⟨rfl, hf⟩;have HF8 := hid (show Fresh W7 w8 from Touch.ofN hf);clear hf;go_wp2_with fail
   refine hK _ _ (growing_fresh HF8.out) ?_;clear hK K;refine wpSeq_lone rfl (fun K hK => ?_);go_wp2_with fail
   refine hK _ _ (growing_fresh (HF8.out.alloc _)) ?_;clear hK K r3 hl7;have hf9 := HF7.out.trans (HF8.out.alloc (.cells #[.int .i64 1, .string ⟨#[]⟩, .int .i64 0, .slice A1 items.length cp1] 35));have hb9 := Blk.new w8 35 #[.int .i64 1, .string ⟨#[]⟩, .int .i64 0, .slice A1 items.length cp1];generalize (w8.alloc (.cells #[.int .i64 1, .string ⟨#[]⟩, .int .i64 0, .slice A1 items.length cp1] 35)) = W9 at hf9 hb9 ⊢;have HF9 := hid hf9;have HB9 := hid hb9;clear hf9 hb9;have HTR9 := hid (HTR.out.fresh HF9.out);refine wpSeq_shut rfl (fun K hK => ?_)
   go_wp2_with (at_builtin; refine wpList_append_grow rfl (.tmp 34) (.tmp 37) rfl i _ hi hz0 hz1 hz2 rfl (B0 := w.heap.size) (B := W5.heap.size) (B1 := wr.heap.size) (ks := ks) (v := .slice A ks.length cp) (y := .slice (some ⟨w8.heap.size, 0, none⟩) 1 1) (HG6.out.fresh HF9.out) (by simp [Act.eval]) (Np.slot items) (.slice A1 items.length cp1) (by simp [Act.eval]) (show Src W9 4 _ 1 [.int .i64 (Np.slot items).kind, .string ⟨(Np.slot items).text.toArray⟩, .int .i64 (Np.slot items).cols, .slice A1 items.length cp1] from Src.of_blk HB9.out rfl) HTR9.out (by have := HSZ.out; have := HSZ5.out; have := HS4.out; omega) (fun k hk => by have := HSZ.out; have := HSZ5.out; omega) HOB.out (Nat.zero_le _) (by have := HFF.out; have := HLE.out; omega) (by have h1 := HSZ.out; have h2 := HMM.out.size; have h3 := HF9.out.size; omega) ?_; intro A8 cp8 W10 hg10 ht10; refine Stay.mk ?_)
   have hbm10 := ht10.blk1 (HF9.out.blk HBM6.out fun h => h) (by have := HSZ5.out; omega);have hbr10 := ht10.blk1 (HF9.out.blk HBR6.out fun h => h) (by have := HSZ5.out; have := HS4.out; omega);have hp10 := ht10.ps (HP6.out.fresh HF9.out) (by have := HSZ5.out; have := HS4.out; have := HW0.out; omega) (by have := HSZ5.out; have := HS4.out; omega);have hm10 := ht10.mp (HM6.out.fr HF9.out) (by have := HSZ5.out; have := HS4.out; omega);have hs10 : W5.heap.size ≤ W10.heap.size := by have h0 := ht10.size; have h1 := HSZ.out; have h2 := HMM.out.size; have h3 := HF9.out.size; omega
   have HBM10 := hid hbm10;have HBR10 := hid hbr10;have HP10 := hid hp10;have HM10 := hid hm10;have HG10 := hid hg10;have HS10 := hid hs10;clear hbm10 hbr10 hp10 hm10 hg10 hs10 ht10;refine Stay.go ?_;go_wp2_with fail
   refine wpMix_seg ?_
   repeat (refine wpSeq_plain rfl (fun K hK => ?_); go_simp; refine hK _ ?_; clear hK K)
   obtain ⟨p0, p1, p2, p3, y0, y1, y2, y3, hlt0⟩ := Blk.four HBM10.out;refine wpSeq_shut rfl (fun K hK => ?_);go_wp2_with fail
   refine wpMix_end ?_;have hbm11 : Blk _ w4.heap.size 35 #[.int .i64 12, .string ⟨#[]⟩, .int .i64 (cl : Int), .slice A8 (ks.length + 1) cp8] := HBM10.out.put 3 (.slice A8 (ks.length + 1) cp8);have hbr11 := HBR10.out.far (p := ⟨w4.heap.size, 3, none⟩) (by have := HS4.out; simp; omega) (.slice A8 (ks.length + 1) cp8);have ht11 := (Touch.refl (fun b => b = w4.heap.size) W10).setCell (p := ⟨w4.heap.size, 3, none⟩) (.inl rfl) (.slice A8 (ks.length + 1) cp8);have hg11 := HG10.out.mv ht11 (by have := HSZ5.out; have := HS4.out; omega) (fun k hk => by have := HSZ5.out; omega) (fun k hk => .inl hk);have hp11 := HP10.out.mv ht11 (fun b hb => by have := HW0.out; have := HS4.out; subst hb; exact ⟨by omega, by omega, _, _, (by decide), HBM10.out⟩);have hm11 : Mp c.g c.W0.heap.size w (W10.setCell ⟨w4.heap.size, 3, none⟩ (.slice A8 (ks.length + 1) cp8)) := HM10.out.setCell (p := ⟨w4.heap.size, 3, none⟩) (.inr (by show w.heap.size ≤ w4.heap.size; have := HS4.out; omega)) (.slice A8 (ks.length + 1) cp8);have hs11 : W5.heap.size ≤ (W10.setCell ⟨w4.heap.size, 3, none⟩ (.slice A8 (ks.length + 1) cp8)).heap.size := by have := HS10.out; simpa using this
   generalize (W10.setCell ⟨w4.heap.size, 3, none⟩ (.slice A8 (ks.length + 1) cp8)) = W11 at hbm11 hbr11 hg11 hp11 hm11 hs11 ⊢;have HBM11 := hid hbm11;have HBR11 := hid hbr11;have HG11 := hid hg11;have HP11 := hid hp11;have HM11 := hid hm11;have HS11 := hid hs11;clear hbm11 hbr11 hg11 hp11 hm11 hs11 ht11 p0 p1 p2 p3 y0 y1 y2 y3 hlt0;rw [R.bind_ok] at HXS;have HLN := hid (show (ks ++ [Np.slot items]).length = ks.length + 1 from by simp);have HC0 := hid (HBM.out.cell 3);go_wp2_with fail
   refine (HA.out 38 k' (op ++ [pl]) W11 HP11.out).mono ?_;rintro _ w12 ⟨rfl, hf⟩;have HS12 := hid (Nat.le_trans HS11.out hf.size);have HBM12 := hid (hf.blk HBM11.out fun h => h);have HBR12 := hid (hf.blk HBR11.out fun h => h);have HG12 := hid (HG11.out.fresh hf);have HP12 := hid (HP11.out.fresh hf);have HM12 := hid (HM11.out.fr hf);clear hf;cases m38 : Np.isM 38 (c.at k').l with
   | true =>
    rw [if_pos m38, Cf.at_up] at HXS;have HKT := hid (isM_lt m38);have HMX := HM12;clear m38;obtain ⟨ov, hb, _⟩ := HP12.out.box;have q1 := hb.cell 1;have z1 := hb.frozen 1;have hg1 := hb.lt;have hkb : k'.p ≤ 100000 := by have := HKT.out; omega
    clear hb;go_wp2_with fail
    have hn := HP12.out.next HKT.out ((k'.p : Int) + 1) (by simp);have hbm := HBM12.out.far (p := ⟨c.g, 1, none⟩) (by have := HS4.out; simp; omega) (.int .i64 ((k'.p : Int) + 1));have hbr := HBR12.out.far (p := ⟨c.g, 1, none⟩) (by simp; omega) (.int .i64 ((k'.p : Int) + 1));have hg := HG12.out.mv hn.2 (by have := HSZ5.out; have := HS4.out; omega) (fun k hk => by have := HSZ5.out; omega) (fun b hb => .inr (.inr (PT.nty HP12.out hb)));have hsz : W5.heap.size ≤ (w12.setCell ⟨c.g, 1, none⟩ (.int .i64 ((k'.p : Int) + 1))).heap.size := by have := HS12.out; simpa using this
    generalize (w12.setCell ⟨c.g, 1, none⟩ (.int .i64 ((k'.p : Int) + 1))) = W13 at hn hbm hbr hg hsz ⊢;refine ⟨⟨k'.up, b, cl, ks ++ [Np.slot items], A8, cp8, rfl, by rw [HLN.out]; exact hbm, hbr, by rw [HLN.out]; exact hg, hn.1, by have := HKK.out; have := HK2.out; (try simp only [Kp.up_p] at *); omega, HMX.out.trans hn.2, hsz, by rw [HLN.out]; have := HF'.out; omega, by rw [HLN.out]; have := HBLE.out; omega, ?_⟩, ?_⟩
    ·unfold Hid
     rw [HLN.out, show F - (ks.length + 1) = f' from by have := HF'.out; omega];exact HXS.out
    ·have h1 := hbm.cell 3
     have h0 := HC0.out;rw [h1, h0];simp [slLen]
     have := HF'.out;omega
   | false =>
    rw [if_neg (by simp [m38])] at HXS;clear m38;obtain ⟨kd, r1, r3, fr, htok, hfr, hbrk⟩ := tok_kind c.en (c.at k').l;have HTOK := hid htok;have HFR := hid hfr;have hfd := field_tok0;have hfd2 := field_tok2;clear htok hfr;rw [← hbrk] at HXS;go_wp2_with fail
    refine (HT.out k' (op ++ [pl]) w12 HP12.out).mono ?_;rw [HTOK.out];rintro _ w13 ⟨rfl, hf⟩;have HS13 := hid (Nat.le_trans HS12.out hf.size);have HBM13 := hid (hf.blk HBM12.out fun h => h);have HBR13 := hid (hf.blk HBR12.out fun h => h);have HG13 := hid (HG12.out.fresh hf);have HP13 := hid (HP12.out.fresh hf);have HM13 := hid (HM12.out.fr hf);clear hf
    by_cases h8 : kd = 8
    ·have e8 : ((kd : Int) == 8) = true := by rw [h8]; rfl
     have HKT := hid (show k'.p < c.T.length from drop_lt (fun e => by rw [e] at hbrk; rw [h8] at hbrk; cases hbrk));rw [show (kd == 8) = true by rw [h8]; rfl] at HXS hbrk;rw [if_neg (by simp)] at HXS;clear h8 hbrk
     by_cases hb0 : b = 0
     ·subst hb0
      rw [if_neg (by simp [Np.colN]), if_neg (by simp), Cf.at_up] at HXS;simp only [Np.colN, if_true] at HXS;have hnb : ks.length ≤ 1000000 := by have := HFF.out; have := HLE.out; omega
      have hgm : c.g < w4.heap.size := by have := HS4.out; omega
      obtain ⟨p0, p1, p2, p3, y0, y1, y2, y3, hlt0⟩ := Blk.four HBM13.out;obtain ⟨ov, hb, _⟩ := HP13.out.box;have q1 := hb.cell 1;have z1 := hb.frozen 1;have hg1 := hb.lt;have hkb : k'.p ≤ 100000 := by have := HKT.out; omega
      clear hb;go_wp2_with fail
      clear q1 z1 hg1 hkb hnb hgm e8;clear p0 p1 p2 p3 y0 y1 y2 y3 hlt0;have hbm : Blk _ w4.heap.size 35 #[.int .i64 12, .string ⟨#[]⟩, .int .i64 ((ks.length : Int) + 1), .slice A8 (ks.length + 1) cp8] := HBM13.out.put 2 (.int .i64 ((ks.length : Int) + 1));have hbr := HBR13.out.far (p := ⟨w4.heap.size, 2, none⟩) (by have := HS4.out; simp; omega) (.int .i64 ((ks.length : Int) + 1));have ht := (Touch.refl (fun b => b = w4.heap.size) w13).setCell (p := ⟨w4.heap.size, 2, none⟩) (.inl rfl) (.int .i64 ((ks.length : Int) + 1));have hg := HG13.out.mv ht (by have := HSZ5.out; have := HS4.out; omega) (fun k hk => by have := HSZ5.out; omega) (fun k hk => .inl hk);have hp := HP13.out.mv ht (fun b hb => by have := HW0.out; have := HS4.out; subst hb; exact ⟨by omega, by omega, _, _, (by decide), HBM13.out⟩);have hm : Mp c.g c.W0.heap.size w (w13.setCell ⟨w4.heap.size, 2, none⟩ (.int .i64 ((ks.length : Int) + 1))) := HM13.out.setCell (p := ⟨w4.heap.size, 2, none⟩) (.inr (by show w.heap.size ≤ w4.heap.size; have := HS4.out; omega)) (.int .i64 ((ks.length : Int) + 1));have hs : W5.heap.size ≤ (w13.setCell ⟨w4.heap.size, 2, none⟩ (.int .i64 ((ks.length : Int) + 1))).heap.size := by have := HS13.out; simpa using this
      generalize (w13.setCell ⟨w4.heap.size, 2, none⟩ (.int .i64 ((ks.length : Int) + 1))) = W14 at hbm hbr hg hp hm hs ⊢;have HBM14 := hid hbm;have HBR14 := hid hbr;have HG14 := hid hg;have HP14 := hid hp;have HM14 := hid hm;have HS14 := hid hs;clear hbm hbr hg hp hm hs ht;have hn := HP14.out.next HKT.out ((k'.p : Int) + 1) (by simp);have hbm := HBM14.out.far (p := ⟨c.g, 1, none⟩) (by have := HS4.out; simp; omega) (.int .i64 ((k'.p : Int) + 1));have hbr := HBR14.out.far (p := ⟨c.g, 1, none⟩) (by simp; omega) (.int .i64 ((k'.p : Int) + 1));have hg := HG14.out.mv hn.2 (by have := HSZ5.out; have := HS4.out; omega) (fun k hk => by have := HSZ5.out; omega) (fun b hb => .inr (.inr (PT.nty HP14.out hb)));have hsz : W5.heap.size ≤ (W14.setCell ⟨c.g, 1, none⟩ (.int .i64 ((k'.p : Int) + 1))).heap.size := by have := HS14.out; simpa using this
      generalize (W14.setCell ⟨c.g, 1, none⟩ (.int .i64 ((k'.p : Int) + 1))) = W15 at hn hbm hbr hg hsz ⊢;have HMX := HM14;refine ⟨⟨k'.up, (ks.length + 1), (ks.length + 1), ks ++ [Np.slot items], A8, cp8, by simp, by rw [HLN.out]; exact hbm, hbr, by rw [HLN.out]; exact hg, hn.1, by have := HKK.out; have := HK2.out; (try simp only [Kp.up_p] at *); omega, HMX.out.trans hn.2, hsz, by rw [HLN.out]; have := HF'.out; omega, by rw [HLN.out]; have := HBLE.out; omega, ?_⟩, ?_⟩
      ·unfold Hid
       rw [HLN.out, show F - (ks.length + 1) = f' from by have := HF'.out; omega];exact HXS.out
      ·have h1 := hbm.cell 3
       have h0 := HC0.out;rw [h1, h0];simp [slLen]
       have := HF'.out;omega
     ·by_cases hmis : ks.length + 1 - b ≠ cl
      ·skip
       rw [if_pos (by rw [Np.colN, if_neg hb0]; exact hmis)] at HXS;have hnb : ks.length ≤ 1000000 := by have := HFF.out; have := HLE.out; omega
       have hbn : b ≤ ks.length := HBLE.out;obtain ⟨m, hm⟩ : ∃ m, ks.length + 1 = b + m := ⟨ks.length + 1 - b, by omega⟩;have t1 : (ks.length : Int) + 1 - (b : Int) = (m : Int) := by omega
       have t2 : ((m : Int) == (cl : Int)) = false := by rw [beq_eq_false_iff_ne]; omega
       have t3 : ((m : Int) != (cl : Int)) = true := by rw [bne_iff_ne]; omega
       have t4 : ((b : Int) == 0) = false := by rw [beq_eq_false_iff_ne]; omega
       have t5 : IntKind.i64.wrap (m : Int) = (m : Int) := IntWalk.i64_in _ (by omega);have t6 : ¬ (b : Int) = 0 := by omega
       clear hm;obtain ⟨p0, p1, p2, p3, y0, y1, y2, y3, hlt0⟩ := Blk.four HBM13.out;clear hmis hb0;go_wp2_with fail
       clear t1 t2 t3 t4 t5 t6 hnb hbn;clear p0 p1 p2 p3 y0 y1 y2 y3 hlt0;refine (HT.out k' (op ++ [pl]) w13 HP13.out).mono ?_;rw [HTOK.out];rintro _ w20 ⟨rfl, hf⟩;have HBR20 := hid (hf.blk HBR13.out fun h => h);have HM20 := hid (HM13.out.fr hf);clear hf;obtain ⟨p0, p1, y0, y1, hlt⟩ := Blk.two HBR20.out;go_wp2_with fail
       have hb5 := HBR20.out.self2 (.int .i64 (fr : Int)) (.int .i64 3);have hm5 : Mp c.g c.W0.heap.size w _ := HM20.out.put2 (g := w.heap.size) (.inr (Nat.le_refl _)) (.int .i64 (fr : Int)) (.int .i64 3);obtain ⟨f0, f1, _⟩ := Blk.two hb5;simp only [put2] at f0 f1 hm5
       (try simp only [Exit.inBlock, Exit.then])
       refine bodyPost_ret (v := .tuple #[.slice none 0 0, failV fr 3]) (by simp [failV, results, Tryz.results44, go_sem, f0, f1]) rfl ?_;rw [HXS.out, ← HFR.out] at HQ;exact HQ.out _ _ ⟨by decide, none, 0, 0, rfl, hm5⟩
      ·rw [if_neg (by rw [Np.colN, if_neg hb0]; exact hmis), if_neg (by simp), Cf.at_up] at HXS
       simp only [Np.colN, if_neg hb0] at HXS;have hgm : c.g < w4.heap.size := by have := HS4.out; omega
       have hnb : ks.length ≤ 1000000 := by have := HFF.out; have := HLE.out; omega
       have hbn : b ≤ ks.length := HBLE.out;have t1 : (ks.length : Int) + 1 - (b : Int) = (cl : Int) := by omega
       have t2 : ((cl : Int) == (cl : Int)) = true := by simp
       have t4 : ((b : Int) == 0) = false := by rw [beq_eq_false_iff_ne]; omega
       have t5 : IntKind.i64.wrap (cl : Int) = (cl : Int) := IntWalk.i64_in _ (by omega);have t6 : ¬ (b : Int) = 0 := by omega
       clear hmis;obtain ⟨p0, p1, p2, p3, y0, y1, y2, y3, hlt0⟩ := Blk.four HBM13.out;obtain ⟨ov, hb, _⟩ := HP13.out.box;have q1 := hb.cell 1;have z1 := hb.frozen 1;have hg1 := hb.lt;have hkb : k'.p ≤ 100000 := by have := HKT.out; omega
       clear hb;clear hb0;go_wp2_with fail
       clear q1 z1 hg1 hkb hgm e8;clear t1 t2 t4 t5 t6 hnb hbn;clear p0 p1 p2 p3 y0 y1 y2 y3 hlt0;have hn := HP13.out.next HKT.out ((k'.p : Int) + 1) (by simp);have hbm := HBM13.out.far (p := ⟨c.g, 1, none⟩) (by have := HS4.out; simp; omega) (.int .i64 ((k'.p : Int) + 1));have hbr := HBR13.out.far (p := ⟨c.g, 1, none⟩) (by simp; omega) (.int .i64 ((k'.p : Int) + 1));have hg := HG13.out.mv hn.2 (by have := HSZ5.out; have := HS4.out; omega) (fun k hk => by have := HSZ5.out; omega) (fun b hb => .inr (.inr (PT.nty HP13.out hb)));have hsz : W5.heap.size ≤ (w13.setCell ⟨c.g, 1, none⟩ (.int .i64 ((k'.p : Int) + 1))).heap.size := by have := HS13.out; simpa using this
       generalize (w13.setCell ⟨c.g, 1, none⟩ (.int .i64 ((k'.p : Int) + 1))) = W15 at hn hbm hbr hg hsz ⊢;have HMX := HM13;refine ⟨⟨k'.up, (ks.length + 1), cl, ks ++ [Np.slot items], A8, cp8, by simp, by rw [HLN.out]; exact hbm, hbr, by rw [HLN.out]; exact hg, hn.1, by have := HKK.out; have := HK2.out; (try simp only [Kp.up_p] at *); omega, HMX.out.trans hn.2, hsz, by rw [HLN.out]; have := HF'.out; omega, by rw [HLN.out]; have := HBLE.out; omega, ?_⟩, ?_⟩
       ·unfold Hid
        rw [HLN.out, show F - (ks.length + 1) = f' from by have := HF'.out; omega];exact HXS.out
       ·have h1 := hbm.cell 3
        have h0 := HC0.out;rw [h1, h0];simp [slLen]
        have := HF'.out;omega
    ·have e8 : ((kd : Int) == 8) = false := by rw [beq_eq_false_iff_ne]; omega
     have e8p : ¬ (kd : Int) = 8 := by omega
     rw [show (kd == 8) = false by simpa using h8] at HXS hbrk;clear h8 hbrk;go_wp2_with fail
     refine (HA.out 125 k' (op ++ [pl]) w13 HP13.out).mono ?_;rintro _ w14 ⟨rfl, hf⟩;have HS14 := hid (Nat.le_trans HS13.out hf.size);have HBM14 := hid (hf.blk HBM13.out fun h => h);have HBR14 := hid (hf.blk HBR13.out fun h => h);have HG14 := hid (HG13.out.fresh hf);have HP14 := hid (HP13.out.fresh hf);have HM14 := hid (HM13.out.fr hf);clear hf;cases m125 : Np.isM 125 (c.at k').l with
     | false =>
      rw [if_pos ⟨trivial, m125⟩] at HXS;clear m125;go_wp2_with fail
      refine (HR.out k' (op ++ [pl]) w14 HP14.out).mono ?_;rintro _ w9 ⟨rfl, hf⟩;have HM3 := hid (HM14.out.fr hf);have HBF3 := hid (hf.blk HBR14.out fun h => h);clear hf;replace HXS := hid (show X = .err (Np.place c.en (c.at k').l) 3 from HXS.out);rw [HXS.out] at HQ;generalize Np.place c.en (c.at k').l = pl' at HQ ⊢;obtain ⟨q0, q1, z0, z1, hlt3⟩ := Blk.two HBF3.out
      (try unfold failV)
      go_wp2_with fail
      have n1 := HBF3.out.self2 (.int .i64 (pl' : Int)) (.int .i64 3);have hm4 : Mp c.g c.W0.heap.size w (put2 w9 (w.heap.size) (.int .i64 (pl' : Int)) (.int .i64 3)) := HM3.out.put2 (g := w.heap.size) (.inr (by omega)) (.int .i64 (pl' : Int)) (.int .i64 3);have ht4 := touch2 w9 (w.heap.size) (.int .i64 (pl' : Int)) (.int .i64 3);simp only [put2] at n1 hm4 ht4;generalize (World.setCell (World.setCell w9 ⟨w.heap.size, 0, none⟩ _) ⟨w.heap.size, 1, none⟩ _) = W4 at n1 hm4 ht4 ⊢;obtain ⟨f0, f1, _⟩ := Blk.two n1
      (try simp only [Exit.inBlock, Exit.then])
      refine bodyPost_ret (v := .tuple #[.slice none 0 0, failV pl' 3]) (by simp [failV, results, Tryz.results44, go_sem, f0, f1]) rfl ?_;exact HQ.out _ _ ⟨by decide, none, 0, 0, rfl, hm4⟩
     | true =>
      rw [if_neg (fun h => by rw [m125] at h; cases h.2)] at HXS;have M125 := hid m125;have HKT := hid (isM_lt m125);clear m125
      by_cases hb0 : b = 0
      ·subst hb0
       rw [if_neg (by simp [Np.colN]), if_pos trivial] at HXS;simp only [Np.colN, if_true] at HXS;have hnb : ks.length ≤ 1000000 := by have := HFF.out; have := HLE.out; omega
       obtain ⟨p0, p1, p2, p3, y0, y1, y2, y3, hlt0⟩ := Blk.four HBM14.out;go_wp2_with fail
       clear hnb;clear p0 p1 p2 p3 y0 y1 y2 y3 hlt0;have hbm : Blk _ w4.heap.size 35 #[.int .i64 12, .string ⟨#[]⟩, .int .i64 ((ks.length : Int) + 1), .slice A8 (ks.length + 1) cp8] := HBM14.out.put 2 (.int .i64 ((ks.length : Int) + 1));have hbr := HBR14.out.far (p := ⟨w4.heap.size, 2, none⟩) (by have := HS4.out; simp; omega) (.int .i64 ((ks.length : Int) + 1));have ht := (Touch.refl (fun b => b = w4.heap.size) w14).setCell (p := ⟨w4.heap.size, 2, none⟩) (.inl rfl) (.int .i64 ((ks.length : Int) + 1));have hg := HG14.out.mv ht (by have := HSZ5.out; have := HS4.out; omega) (fun k hk => by have := HSZ5.out; omega) (fun k hk => .inl hk);have hp := HP14.out.mv ht (fun b hb => by have := HW0.out; have := HS4.out; subst hb; exact ⟨by omega, by omega, _, _, (by decide), HBM14.out⟩);have hm : Mp c.g c.W0.heap.size w (w14.setCell ⟨w4.heap.size, 2, none⟩ (.int .i64 ((ks.length : Int) + 1))) := HM14.out.setCell (p := ⟨w4.heap.size, 2, none⟩) (.inr (by show w.heap.size ≤ w4.heap.size; have := HS4.out; omega)) (.int .i64 ((ks.length : Int) + 1));have hs : W5.heap.size ≤ (w14.setCell ⟨w4.heap.size, 2, none⟩ (.int .i64 ((ks.length : Int) + 1))).heap.size := by have := HS14.out; simpa using this
       generalize (w14.setCell ⟨w4.heap.size, 2, none⟩ (.int .i64 ((ks.length : Int) + 1))) = W15 at hbm hbr hg hp hm hs ⊢;have HBM15 := hid hbm;have HBR15 := hid hbr;have HG15 := hid hg;have HP15 := hid hp;have HM15 := hid hm;have HS15 := hid hs;clear hbm hbr hg hp hm hs ht;have htk := HG15.out.tree (by have := HSZ5.out; have := HS4.out; omega);have HTK := hid htk;clear htk;rw [HXS.out] at HQ;refine wp_region_plan_in (fun X => Blk X w4.heap.size 35 #[.int .i64 12, .string ⟨#[]⟩, .int .i64 ((ks.length + 1) : Int), .slice A8 (ks.length + 1) cp8]) (.plain 0 (.plain 2 (.fork 1 (.lone 3 (.plain 4 (.lone 5 .nil))) 3 (.lone 1 (.plain 4 (.lone 5 .nil)))))) [0, 1, 2, 3, 4, 5] #[true, true, true, true, true, true] (by kernel_rfl) (fun _ _ d _ _ h => by cases d <;> exact h) (by kernel_rfl) (HBM15.out.drewN 1) ?_;refine wpPlan_plain rfl (fun K hK => ?_);rw [if_pos (by rfl)];refine ⟨.agg #[.int .i64 12, .string ⟨#[]⟩, .int .i64 ((ks.length + 1) : Int), .slice A8 (ks.length + 1) cp8], fun X hX => ?_, hK _ ?_⟩
       ·obtain ⟨p0, p1, p2, p3, _⟩ := Blk.four hX
        go_simp
       clear hK K;refine wpPlan_plain rfl (fun K hK => ?_);rw [if_pos (by rfl)];refine ⟨.pointer (some ⟨c.g, 0, none⟩), fun X hX => ?_, hK _ ?_⟩
       ·go_simp
       clear hK K;refine wpPlan_fork ?_ ?_
       ·have hfa : Fresh W15 ((W15.drewN 1).alloc (.cells #[.int .i64 12, .string ⟨#[]⟩, .int .i64 ((ks.length + 1) : Int), .slice A8 (ks.length + 1) cp8] 35)) := ((Touch.refl _ _).drewN 1).alloc _
        have hta : TreT w.heap.size ((W15.drewN 1).alloc (.cells #[.int .i64 12, .string ⟨#[]⟩, .int .i64 ((ks.length + 1) : Int), .slice A8 (ks.length + 1) cp8] 35)) [(Nd.mk 12 [] ((ks.length + 1) : Nat) (ks ++ [Np.slot items]))] (.slice (some ⟨(W15.drewN 1).heap.size, 0, none⟩) 1 1) :=
         TreT.lit (n := (Nd.mk 12 [] ((ks.length + 1) : Nat) (ks ++ [Np.slot items]))) (HTK.out.fresh ((Touch.refl _ W15).drewN 1)) HM15.out.size (Nat.zero_le _)
        refine wpPlan_lone rfl (fun K hK => ?_);go_wp2_with fail
        change TreT w.heap.size ((W15.drewN 1).alloc (.cells #[.int .i64 12, .string ⟨#[]⟩, .int .i64 ((ks.length + 1) : Int), .slice A8 (ks.length + 1) cp8] 35)) [(Nd.mk 12 [] ((ks.length + 1) : Nat) (ks ++ [Np.slot items]))] (.slice (some ⟨W15.heap.size, 0, none⟩) 1 1) at hta
        generalize ((W15.drewN 1).alloc (.cells #[.int .i64 12, .string ⟨#[]⟩, .int .i64 ((ks.length + 1) : Int), .slice A8 (ks.length + 1) cp8] 35)) = WA at hfa hta ⊢;have HFA := hid hfa;have HTA := hid hta;have HPA := hid (HP15.out.fresh hfa);have HBA := hid (hfa.blk HBR15.out fun h => h);have HMA := hid (HM15.out.fr hfa);refine hK _ _ (hfa.blk HBM15.out fun h => h) ?_;have HBC := hid (hfa.blk HBM15.out fun h => h);clear hK K hfa hta;refine wpPlan_lone rfl (fun K hK => ?_);go_wp2_with fail
        refine (HFI.out k' pl WA HPA.out (.inl HKT.out)).mono ?_;rintro _ w21 (⟨_, rfl, hp, hm⟩ | ⟨hx, _⟩)
        case inr => rw [M125.out] at hx; cases hx
        have HP21 := hid hp;have HB21 := hid (hm.blk HBA.out (by omega) (by decide));have HM21 := hid (HMA.out.trans hm);have HT21 := hid (HTA.out.mp hm HPA.out);unfold failV;go_wp2_with fail
        refine hK _ _ (hm.blk HBC.out (by have := HS4.out; omega) (by decide)) ?_;have HC21 := hid (hm.blk HBC.out (by have := HS4.out; omega) (by decide));clear hK K hp hm;refine wpPlan_plain rfl (fun K hK => ?_);rw [if_pos (by rfl)];refine ⟨.slice (some ⟨W15.heap.size, 0, none⟩) 1 1, fun X hX => ?_, hK _ ?_⟩
        ·go_simp
        clear hK K
        skip
        obtain ⟨p0, p1, y0, y1, hlt⟩ := Blk.two HB21.out;refine wpPlan_lone rfl (fun K hK => ?_);go_wp2_with fail
        have hb5 := HB21.out.self2 (.int .i64 0) (.int .i64 0);have hc5 := HC21.out.far2 (L := w4.heap.size) (g := w.heap.size) (by have := HS4.out; omega) (.int .i64 0) (.int .i64 0);have hps := HP21.out.put2 HB21.out (by decide) (by omega) HW0.out (.int .i64 0) (.int .i64 0);have htr := HT21.out.other HB21.out (by decide) (touch2 w21 w.heap.size (.int .i64 0) (.int .i64 0));have hm5 : Mp c.g c.W0.heap.size w _ := HM21.out.put2 (g := w.heap.size) (.inr (Nat.le_refl _)) (.int .i64 0) (.int .i64 0);simp only [put2] at hb5 hc5 hps htr hm5;generalize World.setCell (World.setCell w21 ⟨w.heap.size, 0, none⟩ _) ⟨w.heap.size, 1, none⟩ _ = W22 at hb5 hc5 hps htr hm5 ⊢;refine hK _ _ hc5 ?_;clear hK K p0 p1 y0 y1 hlt;refine wpPlan_nil ?_;go_wp2_with fail
        obtain ⟨f0, f1, _⟩ := Blk.two hb5
        (try simp only [Exit.inBlock, Exit.then])
        refine bodyPost_ret (v := .tuple #[.slice (some ⟨W15.heap.size, 0, none⟩) 1 1, failV 0 0]) (by simp [failV, results, Tryz.results44, go_sem, f0, f1]) rfl ?_;exact HQ.out _ _ ⟨_, 1, k'.up, rfl, htr, (Cf.at_up ..).symm, by have := HKK.out; have := HK2.out; (try simp only [Kp.up_p] at *); omega, hps, hm5⟩
       ·refine wpPlan_lone rfl (fun K hK => ?_)
        go_wp2_with fail
        refine (HFI.out k' pl _ (HP15.out.fresh ((Touch.refl _ _).drewN 1)) (.inl HKT.out)).mono ?_;rintro _ wb (⟨_, rfl, hp, hm⟩ | ⟨hx, _⟩)
        case inr => rw [M125.out] at hx; cases hx
        have hm' : Mp c.g c.W0.heap.size W15 wb := (Mp.fresh ((Touch.refl _ W15).drewN 1)).trans hm;have HPB := hid hp;have HBB := hid (hm'.blk HBR15.out (by omega) (by decide));have HCB := hid (hm'.blk HBM15.out (by have := HS4.out; omega) (by decide));have HMB := hid (HM15.out.trans hm');have HTB := hid (HTK.out.mp hm' HP15.out);unfold failV;go_wp2_with fail
        refine hK _ _ HCB.out ?_;clear hK K hp hm hm';have hfa : Fresh wb (wb.alloc (.cells #[.int .i64 12, .string ⟨#[]⟩, .int .i64 ((ks.length + 1) : Int), .slice A8 (ks.length + 1) cp8] 35)) := (Touch.refl _ _).alloc _
        have hta : TreT w.heap.size (wb.alloc (.cells #[.int .i64 12, .string ⟨#[]⟩, .int .i64 ((ks.length + 1) : Int), .slice A8 (ks.length + 1) cp8] 35)) [(Nd.mk 12 [] ((ks.length + 1) : Nat) (ks ++ [Np.slot items]))] (.slice (some ⟨wb.heap.size, 0, none⟩) 1 1) :=
         TreT.lit (n := (Nd.mk 12 [] ((ks.length + 1) : Nat) (ks ++ [Np.slot items]))) HTB.out HMB.out.size (Nat.zero_le _)
        refine wpPlan_lone rfl (fun K hK => ?_);go_wp2_with fail
        generalize (wb.alloc (.cells #[.int .i64 12, .string ⟨#[]⟩, .int .i64 ((ks.length + 1) : Int), .slice A8 (ks.length + 1) cp8] 35)) = w21 at hfa hta ⊢;have HP21 := hid (HPB.out.fresh hfa);have HB21 := hid (hfa.blk HBB.out fun h => h);have HM21 := hid (HMB.out.fr hfa);have HT21 := hid hta;have HC21 := hid (hfa.blk HCB.out fun h => h);refine hK _ _ HC21.out ?_;clear hK K hfa hta;refine wpPlan_plain rfl (fun K hK => ?_);rw [if_pos (by rfl)];refine ⟨.slice (some ⟨wb.heap.size, 0, none⟩) 1 1, fun X hX => ?_, hK _ ?_⟩
        ·go_simp
        clear hK K;obtain ⟨p0, p1, y0, y1, hlt⟩ := Blk.two HB21.out;refine wpPlan_lone rfl (fun K hK => ?_);go_wp2_with fail
        have hb5 := HB21.out.self2 (.int .i64 0) (.int .i64 0);have hc5 := HC21.out.far2 (L := w4.heap.size) (g := w.heap.size) (by have := HS4.out; omega) (.int .i64 0) (.int .i64 0);have hps := HP21.out.put2 HB21.out (by decide) (by omega) HW0.out (.int .i64 0) (.int .i64 0);have htr := HT21.out.other HB21.out (by decide) (touch2 w21 w.heap.size (.int .i64 0) (.int .i64 0));have hm5 : Mp c.g c.W0.heap.size w _ := HM21.out.put2 (g := w.heap.size) (.inr (Nat.le_refl _)) (.int .i64 0) (.int .i64 0);simp only [put2] at hb5 hc5 hps htr hm5;generalize World.setCell (World.setCell w21 ⟨w.heap.size, 0, none⟩ _) ⟨w.heap.size, 1, none⟩ _ = W22 at hb5 hc5 hps htr hm5 ⊢;refine hK _ _ hc5 ?_;clear hK K p0 p1 y0 y1 hlt;refine wpPlan_nil ?_;go_wp2_with fail
        obtain ⟨f0, f1, _⟩ := Blk.two hb5
        (try simp only [Exit.inBlock, Exit.then])
        refine bodyPost_ret (v := .tuple #[.slice (some ⟨wb.heap.size, 0, none⟩) 1 1, failV 0 0]) (by simp [failV, results, Tryz.results44, go_sem, f0, f1]) rfl ?_;exact HQ.out _ _ ⟨_, 1, k'.up, rfl, htr, (Cf.at_up ..).symm, by have := HKK.out; have := HK2.out; (try simp only [Kp.up_p] at *); omega, hps, hm5⟩
      ·by_cases hmis : ks.length + 1 - b ≠ cl
       ·skip
        rw [if_pos (by rw [Np.colN, if_neg hb0]; exact hmis)] at HXS;have hnb : ks.length ≤ 1000000 := by have := HFF.out; have := HLE.out; omega
        have hbn : b ≤ ks.length := HBLE.out;obtain ⟨m, hm⟩ : ∃ m, ks.length + 1 = b + m := ⟨ks.length + 1 - b, by omega⟩;have t1 : (ks.length : Int) + 1 - (b : Int) = (m : Int) := by omega
        have t2 : ((m : Int) == (cl : Int)) = false := by rw [beq_eq_false_iff_ne]; omega
        have t3 : ((m : Int) != (cl : Int)) = true := by rw [bne_iff_ne]; omega
        have t4 : ((b : Int) == 0) = false := by rw [beq_eq_false_iff_ne]; omega
        have t5 : IntKind.i64.wrap (m : Int) = (m : Int) := IntWalk.i64_in _ (by omega);have t6 : ¬ (b : Int) = 0 := by omega
        clear hm;obtain ⟨p0, p1, p2, p3, y0, y1, y2, y3, hlt0⟩ := Blk.four HBM14.out;clear hmis hb0;go_wp2_with fail
        clear t1 t2 t3 t4 t5 t6 hnb hbn;clear p0 p1 p2 p3 y0 y1 y2 y3 hlt0;refine (HT.out k' (op ++ [pl]) w14 HP14.out).mono ?_;rw [HTOK.out];rintro _ w20 ⟨rfl, hf⟩;have HBR20 := hid (hf.blk HBR14.out fun h => h);have HM20 := hid (HM14.out.fr hf);clear hf;obtain ⟨p0, p1, y0, y1, hlt⟩ := Blk.two HBR20.out;go_wp2_with fail
        have hb5 := HBR20.out.self2 (.int .i64 (fr : Int)) (.int .i64 3);have hm5 : Mp c.g c.W0.heap.size w _ := HM20.out.put2 (g := w.heap.size) (.inr (Nat.le_refl _)) (.int .i64 (fr : Int)) (.int .i64 3);obtain ⟨f0, f1, _⟩ := Blk.two hb5;simp only [put2] at f0 f1 hm5
        (try simp only [Exit.inBlock, Exit.then])
        refine bodyPost_ret (v := .tuple #[.slice none 0 0, failV fr 3]) (by simp [failV, results, Tryz.results44, go_sem, f0, f1]) rfl ?_;rw [HXS.out, ← HFR.out] at HQ;exact HQ.out _ _ ⟨by decide, none, 0, 0, rfl, hm5⟩
       ·rw [if_neg (by rw [Np.colN, if_neg hb0]; exact hmis), if_pos trivial] at HXS
        simp only [Np.colN, if_neg hb0] at HXS;have hnb : ks.length ≤ 1000000 := by have := HFF.out; have := HLE.out; omega
        have hbn : b ≤ ks.length := HBLE.out;have t1 : (ks.length : Int) + 1 - (b : Int) = (cl : Int) := by omega
        have t2 : ((cl : Int) == (cl : Int)) = true := by simp
        have t4 : ((b : Int) == 0) = false := by rw [beq_eq_false_iff_ne]; omega
        have t5 : IntKind.i64.wrap (cl : Int) = (cl : Int) := IntWalk.i64_in _ (by omega);have t6 : ¬ (b : Int) = 0 := by omega
        clear hmis;obtain ⟨p0, p1, p2, p3, y0, y1, y2, y3, hlt0⟩ := Blk.four HBM14.out;clear hb0;go_wp2_with fail
        clear t1 t2 t4 t5 t6 hnb hbn;clear p0 p1 p2 p3 y0 y1 y2 y3 hlt0;have htk := HG14.out.tree (by have := HSZ5.out; have := HS4.out; omega);have HTK := hid htk;clear htk;rw [HXS.out] at HQ;refine wp_region_plan_in (fun X => Blk X w4.heap.size 35 #[.int .i64 12, .string ⟨#[]⟩, .int .i64 (cl : Int), .slice A8 (ks.length + 1) cp8]) (.plain 0 (.plain 2 (.fork 1 (.lone 3 (.plain 4 (.lone 5 .nil))) 3 (.lone 1 (.plain 4 (.lone 5 .nil)))))) [0, 1, 2, 3, 4, 5] #[true, true, true, true, true, true] (by kernel_rfl) (fun _ _ d _ _ h => by cases d <;> exact h) (by kernel_rfl) (HBM14.out.drewN 1) ?_;refine wpPlan_plain rfl (fun K hK => ?_);rw [if_pos (by rfl)];refine ⟨.agg #[.int .i64 12, .string ⟨#[]⟩, .int .i64 (cl : Int), .slice A8 (ks.length + 1) cp8], fun X hX => ?_, hK _ ?_⟩
        ·obtain ⟨p0, p1, p2, p3, _⟩ := Blk.four hX
         go_simp
        clear hK K;refine wpPlan_plain rfl (fun K hK => ?_);rw [if_pos (by rfl)];refine ⟨.pointer (some ⟨c.g, 0, none⟩), fun X hX => ?_, hK _ ?_⟩
        ·go_simp
        clear hK K;refine wpPlan_fork ?_ ?_
        ·have hfa : Fresh w14 ((w14.drewN 1).alloc (.cells #[.int .i64 12, .string ⟨#[]⟩, .int .i64 (cl : Int), .slice A8 (ks.length + 1) cp8] 35)) := ((Touch.refl _ _).drewN 1).alloc _
         have hta : TreT w.heap.size ((w14.drewN 1).alloc (.cells #[.int .i64 12, .string ⟨#[]⟩, .int .i64 (cl : Int), .slice A8 (ks.length + 1) cp8] 35)) [(Nd.mk 12 [] (cl : Nat) (ks ++ [Np.slot items]))] (.slice (some ⟨(w14.drewN 1).heap.size, 0, none⟩) 1 1) :=
          TreT.lit (n := (Nd.mk 12 [] (cl : Nat) (ks ++ [Np.slot items]))) (HTK.out.fresh ((Touch.refl _ w14).drewN 1)) HM14.out.size (Nat.zero_le _)
         refine wpPlan_lone rfl (fun K hK => ?_);go_wp2_with fail
         change TreT w.heap.size ((w14.drewN 1).alloc (.cells #[.int .i64 12, .string ⟨#[]⟩, .int .i64 (cl : Int), .slice A8 (ks.length + 1) cp8] 35)) [(Nd.mk 12 [] (cl : Nat) (ks ++ [Np.slot items]))] (.slice (some ⟨w14.heap.size, 0, none⟩) 1 1) at hta
         generalize ((w14.drewN 1).alloc (.cells #[.int .i64 12, .string ⟨#[]⟩, .int .i64 (cl : Int), .slice A8 (ks.length + 1) cp8] 35)) = WA at hfa hta ⊢;have HFA := hid hfa;have HTA := hid hta;have HPA := hid (HP14.out.fresh hfa);have HBA := hid (hfa.blk HBR14.out fun h => h);have HMA := hid (HM14.out.fr hfa);refine hK _ _ (hfa.blk HBM14.out fun h => h) ?_;have HBC := hid (hfa.blk HBM14.out fun h => h);clear hK K hfa hta;refine wpPlan_lone rfl (fun K hK => ?_);go_wp2_with fail
         refine (HFI.out k' pl WA HPA.out (.inl HKT.out)).mono ?_;rintro _ w21 (⟨_, rfl, hp, hm⟩ | ⟨hx, _⟩)
         case inr => rw [M125.out] at hx; cases hx
         have HP21 := hid hp;have HB21 := hid (hm.blk HBA.out (by omega) (by decide));have HM21 := hid (HMA.out.trans hm);have HT21 := hid (HTA.out.mp hm HPA.out);unfold failV;go_wp2_with fail
         refine hK _ _ (hm.blk HBC.out (by have := HS4.out; omega) (by decide)) ?_;have HC21 := hid (hm.blk HBC.out (by have := HS4.out; omega) (by decide));clear hK K hp hm;refine wpPlan_plain rfl (fun K hK => ?_);rw [if_pos (by rfl)];refine ⟨.slice (some ⟨w14.heap.size, 0, none⟩) 1 1, fun X hX => ?_, hK _ ?_⟩
         ·go_simp
         clear hK K
         skip
         obtain ⟨p0, p1, y0, y1, hlt⟩ := Blk.two HB21.out;refine wpPlan_lone rfl (fun K hK => ?_);go_wp2_with fail
         have hb5 := HB21.out.self2 (.int .i64 0) (.int .i64 0);have hc5 := HC21.out.far2 (L := w4.heap.size) (g := w.heap.size) (by have := HS4.out; omega) (.int .i64 0) (.int .i64 0);have hps := HP21.out.put2 HB21.out (by decide) (by omega) HW0.out (.int .i64 0) (.int .i64 0);have htr := HT21.out.other HB21.out (by decide) (touch2 w21 w.heap.size (.int .i64 0) (.int .i64 0));have hm5 : Mp c.g c.W0.heap.size w _ := HM21.out.put2 (g := w.heap.size) (.inr (Nat.le_refl _)) (.int .i64 0) (.int .i64 0);simp only [put2] at hb5 hc5 hps htr hm5;generalize World.setCell (World.setCell w21 ⟨w.heap.size, 0, none⟩ _) ⟨w.heap.size, 1, none⟩ _ = W22 at hb5 hc5 hps htr hm5 ⊢;refine hK _ _ hc5 ?_;clear hK K p0 p1 y0 y1 hlt;refine wpPlan_nil ?_;go_wp2_with fail
         obtain ⟨f0, f1, _⟩ := Blk.two hb5
         (try simp only [Exit.inBlock, Exit.then])
         refine bodyPost_ret (v := .tuple #[.slice (some ⟨w14.heap.size, 0, none⟩) 1 1, failV 0 0]) (by simp [failV, results, Tryz.results44, go_sem, f0, f1]) rfl ?_;exact HQ.out _ _ ⟨_, 1, k'.up, rfl, htr, (Cf.at_up ..).symm, by have := HKK.out; have := HK2.out; (try simp only [Kp.up_p] at *); omega, hps, hm5⟩
        ·refine wpPlan_lone rfl (fun K hK => ?_)
         go_wp2_with fail
         refine (HFI.out k' pl _ (HP14.out.fresh ((Touch.refl _ _).drewN 1)) (.inl HKT.out)).mono ?_;rintro _ wb (⟨_, rfl, hp, hm⟩ | ⟨hx, _⟩)
         case inr => rw [M125.out] at hx; cases hx
         have hm' : Mp c.g c.W0.heap.size w14 wb := (Mp.fresh ((Touch.refl _ w14).drewN 1)).trans hm;have HPB := hid hp;have HBB := hid (hm'.blk HBR14.out (by omega) (by decide));have HCB := hid (hm'.blk HBM14.out (by have := HS4.out; omega) (by decide));have HMB := hid (HM14.out.trans hm');have HTB := hid (HTK.out.mp hm' HP14.out);unfold failV;go_wp2_with fail
         refine hK _ _ HCB.out ?_;clear hK K hp hm hm';have hfa : Fresh wb (wb.alloc (.cells #[.int .i64 12, .string ⟨#[]⟩, .int .i64 (cl : Int), .slice A8 (ks.length + 1) cp8] 35)) := (Touch.refl _ _).alloc _
         have hta : TreT w.heap.size (wb.alloc (.cells #[.int .i64 12, .string ⟨#[]⟩, .int .i64 (cl : Int), .slice A8 (ks.length + 1) cp8] 35)) [(Nd.mk 12 [] (cl : Nat) (ks ++ [Np.slot items]))] (.slice (some ⟨wb.heap.size, 0, none⟩) 1 1) :=
          TreT.lit (n := (Nd.mk 12 [] (cl : Nat) (ks ++ [Np.slot items]))) HTB.out HMB.out.size (Nat.zero_le _)
         refine wpPlan_lone rfl (fun K hK => ?_);go_wp2_with fail
         generalize (wb.alloc (.cells #[.int .i64 12, .string ⟨#[]⟩, .int .i64 (cl : Int), .slice A8 (ks.length + 1) cp8] 35)) = w21 at hfa hta ⊢;have HP21 := hid (HPB.out.fresh hfa);have HB21 := hid (hfa.blk HBB.out fun h => h);have HM21 := hid (HMB.out.fr hfa);have HT21 := hid hta;have HC21 := hid (hfa.blk HCB.out fun h => h);refine hK _ _ HC21.out ?_;clear hK K hfa hta;refine wpPlan_plain rfl (fun K hK => ?_);rw [if_pos (by rfl)];refine ⟨.slice (some ⟨wb.heap.size, 0, none⟩) 1 1, fun X hX => ?_, hK _ ?_⟩
         ·go_simp
         clear hK K;obtain ⟨p0, p1, y0, y1, hlt⟩ := Blk.two HB21.out;refine wpPlan_lone rfl (fun K hK => ?_);go_wp2_with fail
         have hb5 := HB21.out.self2 (.int .i64 0) (.int .i64 0);have hc5 := HC21.out.far2 (L := w4.heap.size) (g := w.heap.size) (by have := HS4.out; omega) (.int .i64 0) (.int .i64 0);have hps := HP21.out.put2 HB21.out (by decide) (by omega) HW0.out (.int .i64 0) (.int .i64 0);have htr := HT21.out.other HB21.out (by decide) (touch2 w21 w.heap.size (.int .i64 0) (.int .i64 0));have hm5 : Mp c.g c.W0.heap.size w _ := HM21.out.put2 (g := w.heap.size) (.inr (Nat.le_refl _)) (.int .i64 0) (.int .i64 0);simp only [put2] at hb5 hc5 hps htr hm5;generalize World.setCell (World.setCell w21 ⟨w.heap.size, 0, none⟩ _) ⟨w.heap.size, 1, none⟩ _ = W22 at hb5 hc5 hps htr hm5 ⊢;refine hK _ _ hc5 ?_;clear hK K p0 p1 y0 y1 hlt;refine wpPlan_nil ?_;go_wp2_with fail
         obtain ⟨f0, f1, _⟩ := Blk.two hb5
         (try simp only [Exit.inBlock, Exit.then])
         refine bodyPost_ret (v := .tuple #[.slice (some ⟨wb.heap.size, 0, none⟩) 1 1, failV 0 0]) (by simp [failV, results, Tryz.results44, go_sem, f0, f1]) rfl ?_;exact HQ.out _ _ ⟨_, 1, k'.up, rfl, htr, (Cf.at_up ..).symm, by have := HKK.out; have := HK2.out; (try simp only [Kp.up_p] at *); omega, hps, hm5⟩
end Go.Proofs.YtomibmenojdieaaGreat
