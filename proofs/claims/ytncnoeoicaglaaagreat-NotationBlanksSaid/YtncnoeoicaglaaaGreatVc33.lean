/- Part 33 of 48 of a proof; its texts, joined: NqI. No condition. -/
import Derived.Test.YtncnoeoicaglaaaGreatVc32

/- The parser's fraction, accent and root. -/
namespace Go.Proofs.YtncnoeoicaglaaaGreat
open Go.RowKit
open Tr (Nd)
open Lx (PTok)
open Np (R pRow pIn pScript pItem pPrim pArgs pName pCells pArg)
attribute [local go_sem] stillV stillUpon
theorem R.map_out {α β : Type} {f : α → β} {r : R α} (h : r.map f ≠ .out) : r ≠ .out := fun e => h (by rw [e]; rfl)
theorem R.map_ok {α β : Type} {f : α → β} {a : α} {l : List PTok} : (R.ok a l).map f = .ok (f a) l := rfl
theorem R.map_err {α β : Type} {f : α → β} {i e : Nat} : (R.err i e : R α).map f = .err i e := rfl
def FractionN (c : Cf) (f : Nat) : Prop := ∀ (k : Nat) (op : List Nat) (w : World), Ps c k op w → op.length ≤ k → k < c.T.length → pArgs c.en f 2 op (c.T.drop (k + 1)) ≠ .out →
 Calls Tryz.prog 69 #[pp0 c] w (ItemsE c k op ((pArgs c.en f 2 op (c.T.drop (k + 1))).map fun ks => [.mk 5 [] 0 ks]) w)
set_option maxRecDepth 100000 in
set_option maxHeartbeats 400000 in
theorem fraction_n (c : Cf) (hc : c.Good) (f : Nat) (hwith : WithN c f 2) : FractionN c f := by
 intro k op w h hop hk hne
 have htl := hc.tl
 have hk4 : k ≤ 100000 := by omega
 have HW := hid hwith
 have H := hid h
 have HOP := hid hop
 have HNE := hid hne
 have HW0 := hid h.low.size
 have HK := hid hk
 have hgl : c.g < w.heap.size := h.glt
 obtain ⟨ov, hb, _⟩ := h.box
 have q1 := hb.cell 1
 have z1 := hb.frozen 1
 clear hb h hne hwith hc hop
 refine Calls.via fun Q hQ => ?_
 have HQ := hid hQ
 clear hQ
 unfold pp0
 have e1 : ((k : Int) + 1) = ((k + 1 : Nat) : Int) := by simp
 have HE := hid e1
 clear e1
 go_enter Tryz.func69, Tryz.ntmps69
 go_wp2_with fail
 have hn := H.out.next hk ((k : Int) + 1) HE.out
 have hs : (w.setCell ⟨c.g, 1, none⟩ (.int .i64 ((k : Int) + 1))).heap.size = w.heap.size := by simp
 generalize (w.setCell ⟨c.g, 1, none⟩ (.int .i64 ((k : Int) + 1))) = W1 at hn hs ⊢
 have hbf : Blk (W1.alloc (.cells #[.int .i64 0, .int .i64 0] 56)) W1.heap.size 56 #[.int .i64 0, .int .i64 0] := Blk.new _ _ _
 have hp2 := hn.1.fresh ((Touch.refl _ _).alloc (.cells #[.int .i64 0, .int .i64 0] 56))
 have hm2 := hn.2.trans (Mp.fresh ((Touch.refl _ W1).alloc (.cells #[.int .i64 0, .int .i64 0] 56)))
 have hs2 : (W1.alloc (.cells #[.int .i64 0, .int .i64 0] 56)).heap.size = w.heap.size + 1 := by simp [hs]
 rw [hs] at hbf
 generalize (W1.alloc (.cells #[.int .i64 0, .int .i64 0] 56)) = W2 at hbf hp2 hm2 hs2 ⊢
 (try rw [hs])
 have HP2 := hid hp2
 have HM2 := hid hm2
 have HS2 := hid hs2
 have HBF := hid hbf
 clear hn hs hbf hp2 hm2 q1 z1 hs2
 refine (HW.out (k + 1) op 5 [] [] none w.heap.size W2 HP2.out (by have := HOP.out; omega) (by simp [maxLen]) (by simp) (by have := HS2.out; omega) (.nil _ _) HNE.out).mono ?_
 intro e w3 hres
 generalize pArgs c.en f 2 op (c.T.drop (k + 1)) = r at HNE HQ hres
 cases r with
 | out => exact absurd rfl HNE.out
 | err i er =>
  obtain ⟨he0, A, n, cp, rfl, hm⟩ := hres
  have HM3 := hid (HM2.out.trans hm)
  have HBF3 := hid (hm.blk HBF.out (by omega) (by decide))
  have HE0 := hid he0
  clear hm he0
  obtain ⟨q0, q1, z0, z1, hlt3⟩ := Blk.two HBF3.out
  unfold failV
  go_wp2_with fail
  have n1 := HBF3.out.self2 (.int .i64 (i : Int)) (.int .i64 (er : Int))
  have hm4 : Mp c.g c.W0.heap.size w (put2 w3 w.heap.size (.int .i64 (i : Int)) (.int .i64 (er : Int))) := HM3.out.put2 (g := w.heap.size) (.inr (Nat.le_refl _)) (.int .i64 (i : Int)) (.int .i64 (er : Int))
  have ht4 := touch2 w3 w.heap.size (.int .i64 (i : Int)) (.int .i64 (er : Int))
  simp only [put2] at n1 hm4 ht4
  generalize (World.setCell (World.setCell w3 ⟨w.heap.size, 0, none⟩ _) ⟨w.heap.size, 1, none⟩ _) = W4 at n1 hm4 ht4 ⊢
  obtain ⟨f0, f1, _⟩ := Blk.two n1
  (try simp only [Exit.inBlock, Exit.then])
  refine bodyPost_ret (v := .tuple #[.slice A n cp, failV i er]) (by simp [failV, results, Tryz.results69, go_sem, f0, f1]) rfl ?_
  exact HQ.out _ _ ⟨HE0.out, A, n, cp, rfl, hm4⟩
 | ok ks rest =>
  obtain ⟨b, k', rfl, htr, hdr, hkk, hp, hm⟩ := hres
  have HM3 := hid (HM2.out.trans hm)
  have HBF3 := hid (hm.blk HBF.out (by omega) (by decide))
  have HTR := hid htr
  have HDR := hid hdr
  have HKK := hid hkk
  have HP3 := hid hp
  clear hm htr hdr hkk hp
  obtain ⟨q0, q1, z0, z1, hlt3⟩ := Blk.two HBF3.out
  unfold failV
  go_wp2_with fail
  have n1 := HBF3.out.self2 (.int .i64 0) (.int .i64 0)
  have hm4 : Mp c.g c.W0.heap.size w (put2 w3 w.heap.size (.int .i64 0) (.int .i64 0)) := HM3.out.put2 (g := w.heap.size) (.inr (Nat.le_refl _)) (.int .i64 0) (.int .i64 0)
  have ht4 := touch2 w3 w.heap.size (.int .i64 0) (.int .i64 0)
  simp only [put2] at n1 hm4 ht4
  generalize (World.setCell (World.setCell w3 ⟨w.heap.size, 0, none⟩ _) ⟨w.heap.size, 1, none⟩ _) = W4 at n1 hm4 ht4 ⊢
  obtain ⟨f0, f1, _⟩ := Blk.two n1
  (try simp only [Exit.inBlock, Exit.then])
  refine bodyPost_ret (v := .tuple #[.slice (some ⟨b, 0, none⟩) 1 1, failV 0 0]) (by simp [failV, results, Tryz.results69, go_sem, f0, f1]) rfl ?_
  have hps := HP3.out.mv ht4 (fun b hb => by have := HW0.out; subst hb; exact ⟨by omega, by omega, _, _, (by decide), HBF3.out⟩)
  exact HQ.out _ _ ⟨_, 1, k', rfl, HTR.out.other HBF3.out (by decide) ht4, HDR.out, by have := HKK.out; omega, hps, hm4⟩
def AccentN (c : Cf) (f : Nat) : Prop := ∀ (k : Nat) (op : List Nat) (t : PTok) (r : List PTok) (w : World), Ps c k op w → op.length ≤ k → c.T.drop k = t :: r → pArgs c.en f 1 op (c.T.drop (k + 1)) ≠ .out →
 Calls Tryz.prog 72 #[pp0 c] w (ItemsE c k op ((pArgs c.en f 1 op (c.T.drop (k + 1))).map fun ks => [.mk 10 t.text 0 ks]) w)
set_option maxRecDepth 100000 in
set_option maxHeartbeats 400000 in
theorem accent_n (c : Cf) (hc : c.Good) (f : Nat) (hwith : WithN c f 1) : AccentN c f := by
 intro k op t r w h hop hl hne
 have htl := hc.tl
 have hk := drop_lt (c := c) (k := k) (by rw [hl]; exact List.cons_ne_nil _ _)
 have hk4 : k ≤ 100000 := by omega
 have HT := hid (fun (w' : World) (hf : Fresh w w') => tok_any_n c hc k op w' (h.fresh hf))
 have htx := hc.txt t (List.mem_of_mem_drop (i := k) (by rw [hl]; simp))
 have HTX := hid htx
 rw [hl] at HT
 unfold tokV at HT
 clear hl htx
 have HW := hid hwith
 have H := hid h
 have HOP := hid hop
 have HNE := hid hne
 have HW0 := hid h.low.size
 have HK := hid hk
 have hgl : c.g < w.heap.size := h.glt
 obtain ⟨ov, hb, _⟩ := h.box
 have HB := hid hb
 have q1 := hb.cell 1
 have z1 := hb.frozen 1
 clear hb h hne hwith hc hop
 refine Calls.via fun Q hQ => ?_
 have HQ := hid hQ
 clear hQ
 unfold pp0
 have e1 : ((k : Int) + 1) = ((k + 1 : Nat) : Int) := by simp
 have HE := hid e1
 clear e1
 go_enter Tryz.func72, Tryz.ntmps72
 go_wp2_with fail
 refine (HT.out _ ((Touch.refl _ _).alloc _)).mono ?_
 rintro _ w1 ⟨rfl, hf⟩
 have hf1 : Fresh w w1 := (((Touch.refl _ _).alloc _).trans hf)
 have hb1 := hf1.blk HB.out (fun h => h)
 have hbf1 : Blk w1 w.heap.size 56 #[.int .i64 0, .int .i64 0] := hf.blk (Blk.new _ _ _) (fun h => h)
 clear hf q1 z1
 have q1 := hb1.cell 1
 have z1 := hb1.frozen 1
 have hg1 := hb1.lt
 have HF1 := hid hf1
 have HBF1 := hid hbf1
 clear hf1 hb1 hbf1
 have r1 := field_tok1 (.int .i64 (t.kind : Int)) (.string ⟨t.text.toArray⟩) (.int .i64 (t.from_ : Int)) (.int .i64 (t.to_ : Int)) w1
 go_wp2_with fail
 clear r1
 have hp1 := H.out.fresh HF1.out
 have hn := hp1.next hk ((k : Int) + 1) HE.out
 have hs2 : (w1.setCell ⟨c.g, 1, none⟩ (.int .i64 ((k : Int) + 1))).heap.size = w1.heap.size := by simp
 have hbf := HBF1.out.far (p := ⟨c.g, 1, none⟩) (by simp; omega) (.int .i64 ((k : Int) + 1))
 generalize (w1.setCell ⟨c.g, 1, none⟩ (.int .i64 ((k : Int) + 1))) = W2 at hn hbf hs2 ⊢
 have HP2 := hid hn.1
 have HM2 := hid ((Mp.fresh HF1.out).trans hn.2)
 have HS2 := hid (show w.heap.size < W2.heap.size from hbf.lt)
 have HBF := hid hbf
 clear hn hbf hp1 q1 z1 hs2 hg1
 refine (HW.out (k + 1) op 10 t.text [] none w.heap.size W2 HP2.out (by have := HOP.out; omega) HTX.out (by simp) (by have := HS2.out; omega) (.nil _ _) HNE.out).mono ?_
 intro e w3 hres
 generalize pArgs c.en f 1 op (c.T.drop (k + 1)) = r at HNE HQ hres
 cases r with
 | out => exact absurd rfl HNE.out
 | err i er =>
  obtain ⟨he0, A, n, cp, rfl, hm⟩ := hres
  have HM3 := hid (HM2.out.trans hm)
  have HBF3 := hid (hm.blk HBF.out (by omega) (by decide))
  have HE0 := hid he0
  clear hm he0
  obtain ⟨q0, q1, z0, z1, hlt3⟩ := Blk.two HBF3.out
  unfold failV
  go_wp2_with fail
  have n1 := HBF3.out.self2 (.int .i64 (i : Int)) (.int .i64 (er : Int))
  have hm4 : Mp c.g c.W0.heap.size w (put2 w3 w.heap.size (.int .i64 (i : Int)) (.int .i64 (er : Int))) := HM3.out.put2 (g := w.heap.size) (.inr (Nat.le_refl _)) (.int .i64 (i : Int)) (.int .i64 (er : Int))
  have ht4 := touch2 w3 w.heap.size (.int .i64 (i : Int)) (.int .i64 (er : Int))
  simp only [put2] at n1 hm4 ht4
  generalize (World.setCell (World.setCell w3 ⟨w.heap.size, 0, none⟩ _) ⟨w.heap.size, 1, none⟩ _) = W4 at n1 hm4 ht4 ⊢
  obtain ⟨f0, f1, _⟩ := Blk.two n1
  (try simp only [Exit.inBlock, Exit.then])
  refine bodyPost_ret (v := .tuple #[.slice A n cp, failV i er]) (by simp [failV, results, Tryz.results72, go_sem, f0, f1]) rfl ?_
  exact HQ.out _ _ ⟨HE0.out, A, n, cp, rfl, hm4⟩
 | ok ks rest =>
  obtain ⟨b, k', rfl, htr, hdr, hkk, hp, hm⟩ := hres
  have HM3 := hid (HM2.out.trans hm)
  have HBF3 := hid (hm.blk HBF.out (by omega) (by decide))
  have HTR := hid htr
  have HDR := hid hdr
  have HKK := hid hkk
  have HP3 := hid hp
  clear hm htr hdr hkk hp
  obtain ⟨q0, q1, z0, z1, hlt3⟩ := Blk.two HBF3.out
  unfold failV
  go_wp2_with fail
  have n1 := HBF3.out.self2 (.int .i64 0) (.int .i64 0)
  have hm4 : Mp c.g c.W0.heap.size w (put2 w3 w.heap.size (.int .i64 0) (.int .i64 0)) := HM3.out.put2 (g := w.heap.size) (.inr (Nat.le_refl _)) (.int .i64 0) (.int .i64 0)
  have ht4 := touch2 w3 w.heap.size (.int .i64 0) (.int .i64 0)
  simp only [put2] at n1 hm4 ht4
  generalize (World.setCell (World.setCell w3 ⟨w.heap.size, 0, none⟩ _) ⟨w.heap.size, 1, none⟩ _) = W4 at n1 hm4 ht4 ⊢
  obtain ⟨f0, f1, _⟩ := Blk.two n1
  (try simp only [Exit.inBlock, Exit.then])
  refine bodyPost_ret (v := .tuple #[.slice (some ⟨b, 0, none⟩) 1 1, failV 0 0]) (by simp [failV, results, Tryz.results72, go_sem, f0, f1]) rfl ?_
  have hps := HP3.out.mv ht4 (fun b hb => by have := HW0.out; subst hb; exact ⟨by omega, by omega, _, _, (by decide), HBF3.out⟩)
  exact HQ.out _ _ ⟨_, 1, k', rfl, HTR.out.other HBF3.out (by decide) ht4, HDR.out, by have := HKK.out; omega, hps, hm4⟩
def rootR (c : Cf) (f : Nat) (op : List Nat) (r : List PTok) : R (List Nd) :=
 if Np.isM 91 r then (pIn c.en f 93 op r).bind fun d r' => (pArgs c.en f 1 op r').map fun ks => [.mk 6 [] 0 (Np.slot d :: ks)] else (pArgs c.en f 1 op r).map fun ks => [.mk 6 [] 0 (Np.slot [] :: ks)]
def RootN (c : Cf) (f : Nat) : Prop := ∀ (k : Nat) (op : List Nat) (w : World), Ps c k op w → op.length ≤ k → k < c.T.length → rootR c f op (c.T.drop (k + 1)) ≠ .out →
 Calls Tryz.prog 70 #[pp0 c] w (ItemsE c k op (rootR c f op (c.T.drop (k + 1))) w)
set_option maxRecDepth 100000 in
set_option maxHeartbeats 400000 in
theorem root_n (c : Cf) (hc : c.Good) (f : Nat) (hwith : WithN c f 1) (henc : EnclosedN c f) : RootN c f := by
 intro k op w h hop hk hne
 have htl := hc.tl
 have hk4 : k ≤ 100000 := by omega
 have HAT := hid (fun (w' : World) (hp : Ps c (k + 1) op w') => at_any_n c hc (k + 1) op 91 w' hp)
 have HENC := hid henc
 have HW := hid hwith
 have H := hid h
 have HOP := hid hop
 have HNE := hid hne
 have HW0 := hid h.low.size
 have HK := hid hk
 have hgl : c.g < w.heap.size := h.glt
 obtain ⟨ov, hb, _⟩ := h.box
 have q1 := hb.cell 1
 have z1 := hb.frozen 1
 clear hb h hne hwith hc hop
 refine Calls.via fun Q hQ => ?_
 have HQ := hid hQ
 clear hQ
 unfold pp0
 have e1 : ((k : Int) + 1) = ((k + 1 : Nat) : Int) := by simp
 have HE := hid e1
 clear e1
 go_enter Tryz.func70, Tryz.ntmps70
 go_wp2_with fail
 have hn := H.out.next hk ((k : Int) + 1) HE.out
 have hs : (w.setCell ⟨c.g, 1, none⟩ (.int .i64 ((k : Int) + 1))).heap.size = w.heap.size := by simp
 generalize (w.setCell ⟨c.g, 1, none⟩ (.int .i64 ((k : Int) + 1))) = W1 at hn hs ⊢
 have hbf : Blk (W1.alloc (.cells #[.int .i64 0, .int .i64 0] 56)) W1.heap.size 56 #[.int .i64 0, .int .i64 0] := Blk.new _ _ _
 have hp2 := hn.1.fresh ((Touch.refl _ _).alloc (.cells #[.int .i64 0, .int .i64 0] 56))
 have hm2 := hn.2.trans (Mp.fresh ((Touch.refl _ W1).alloc (.cells #[.int .i64 0, .int .i64 0] 56)))
 have hs2 : (W1.alloc (.cells #[.int .i64 0, .int .i64 0] 56)).heap.size = w.heap.size + 1 := by simp [hs]
 rw [hs] at hbf
 generalize (W1.alloc (.cells #[.int .i64 0, .int .i64 0] 56)) = W2 at hbf hp2 hm2 hs2 ⊢
 (try rw [hs])
 have HP2 := hid hp2
 have HM2 := hid hm2
 have HS2 := hid hs2
 have HBF := hid hbf
 clear hn hs hbf hp2 hm2 q1 z1 hs2
 refine (HAT.out _ HP2.out).mono ?_
 rintro _ w1 ⟨rfl, hf⟩
 have HF1 := hid hf
 clear hf
 unfold rootR at HNE HQ
 cases hat : Np.isM 91 (c.T.drop (k + 1)) with
 | false =>
  rw [hat, if_neg Bool.false_ne_true] at HNE HQ
  clear hat
  have HNE := hid (R.map_out HNE.out)
  go_wp2_with fail
  refine (slot_any_n none (0) 0 _).mono ?_
  rintro _ w4 ⟨rfl, hf4⟩
  have hff := (HF1.out.trans hf4).alloc (.cells #[.int .i64 1, .string ⟨#[]⟩, .int .i64 0, .slice none 0 0] 26)
  have hlit : TreT w.heap.size (w4.alloc (.cells #[.int .i64 1, .string ⟨#[]⟩, .int .i64 0, .slice none 0 0] 26)) [Np.slot []] (.slice (some ⟨w4.heap.size, 0, none⟩) 1 1) := TreT.lit (n := Np.slot []) (TreT.nil _ _) (by have := (HF1.out.trans hf4).size; have := HS2.out; omega) (by simp [Np.slot, maxLen, Nd.text])
  go_wp2_with fail
  generalize (w4.alloc (.cells #[.int .i64 1, .string ⟨#[]⟩, .int .i64 0, .slice none 0 0] 26)) = W5 at hff hlit ⊢
  generalize w4.heap.size = b4 at hlit ⊢
  have HP2' := hid (HP2.out.fresh hff)
  have HM2' := hid (HM2.out.trans (Mp.fresh hff))
  have hbf5 := hff.blk HBF.out (fun h => h)
  have HBF' := hid hbf5
  have HS2' := hid (show w.heap.size < W5.heap.size from hbf5.lt)
  have HLIT := hid hlit
  clear hff hlit hbf5 HP2 HM2 HBF HS2 hf4
  have HP2 := HP2'
  have HM2 := HM2'
  have HBF := HBF'
  have HS2 := HS2'
  clear HP2' HM2' HBF' HS2'
  refine (HW.out (k + 1) op 6 [] [Np.slot []] (some ⟨b4, 0, none⟩) w.heap.size W5 HP2.out (by have := HOP.out; omega) (by simp [maxLen]) (by simp) (by have := HS2.out; omega) HLIT.out HNE.out).mono ?_
  intro e w3 hres
  generalize pArgs c.en f 1 op (c.T.drop (k + 1)) = r at HNE HQ hres
  cases r with
  | out => exact absurd rfl HNE.out
  | err i er =>
   obtain ⟨he0, A, n, cp, rfl, hm⟩ := hres
   have HM3 := hid (HM2.out.trans hm)
   have HBF3 := hid (hm.blk HBF.out (by omega) (by decide))
   have HE0 := hid he0
   clear hm he0
   obtain ⟨q0, q1, z0, z1, hlt3⟩ := Blk.two HBF3.out
   unfold failV
   go_wp2_with fail
   have n1 := HBF3.out.self2 (.int .i64 (i : Int)) (.int .i64 (er : Int))
   have hm4 : Mp c.g c.W0.heap.size w (put2 w3 w.heap.size (.int .i64 (i : Int)) (.int .i64 (er : Int))) := HM3.out.put2 (g := w.heap.size) (.inr (Nat.le_refl _)) (.int .i64 (i : Int)) (.int .i64 (er : Int))
   have ht4 := touch2 w3 w.heap.size (.int .i64 (i : Int)) (.int .i64 (er : Int))
   simp only [put2] at n1 hm4 ht4
   generalize (World.setCell (World.setCell w3 ⟨w.heap.size, 0, none⟩ _) ⟨w.heap.size, 1, none⟩ _) = W4 at n1 hm4 ht4 ⊢
   obtain ⟨f0, f1, _⟩ := Blk.two n1
   (try simp only [Exit.inBlock, Exit.then])
   refine bodyPost_ret (v := .tuple #[.slice A n cp, failV i er]) (by simp [failV, results, Tryz.results70, go_sem, f0, f1]) rfl ?_
   exact HQ.out _ _ ⟨HE0.out, A, n, cp, rfl, hm4⟩
  | ok ks rest =>
   obtain ⟨b, k', rfl, htr, hdr, hkk, hp, hm⟩ := hres
   have HM3 := hid (HM2.out.trans hm)
   have HBF3 := hid (hm.blk HBF.out (by omega) (by decide))
   have HTR := hid htr
   have HDR := hid hdr
   have HKK := hid hkk
   have HP3 := hid hp
   clear hm htr hdr hkk hp
   obtain ⟨q0, q1, z0, z1, hlt3⟩ := Blk.two HBF3.out
   unfold failV
   go_wp2_with fail
   have n1 := HBF3.out.self2 (.int .i64 0) (.int .i64 0)
   have hm4 : Mp c.g c.W0.heap.size w (put2 w3 w.heap.size (.int .i64 0) (.int .i64 0)) := HM3.out.put2 (g := w.heap.size) (.inr (Nat.le_refl _)) (.int .i64 0) (.int .i64 0)
   have ht4 := touch2 w3 w.heap.size (.int .i64 0) (.int .i64 0)
   simp only [put2] at n1 hm4 ht4
   generalize (World.setCell (World.setCell w3 ⟨w.heap.size, 0, none⟩ _) ⟨w.heap.size, 1, none⟩ _) = W4 at n1 hm4 ht4 ⊢
   obtain ⟨f0, f1, _⟩ := Blk.two n1
   (try simp only [Exit.inBlock, Exit.then])
   refine bodyPost_ret (v := .tuple #[.slice (some ⟨b, 0, none⟩) 1 1, failV 0 0]) (by simp [failV, results, Tryz.results70, go_sem, f0, f1]) rfl ?_
   have hps := HP3.out.mv ht4 (fun b hb => by have := HW0.out; subst hb; exact ⟨by omega, by omega, _, _, (by decide), HBF3.out⟩)
   exact HQ.out _ _ ⟨_, 1, k', rfl, HTR.out.other HBF3.out (by decide) ht4, HDR.out, by have := HKK.out; omega, hps, hm4⟩
 | true =>
  have HLT := hid (isM_lt hat)
  rw [hat, if_pos rfl] at HNE HQ
  clear hat
  go_wp2_with fail
  have hf5 := HF1.out.alloc (.cells #[.int .i64 0, .int .i64 0] 56)
  have hb5 := hf5.blk HBF.out (fun h => h)
  have hx5 := Blk.new w1 56 #[.int .i64 0, .int .i64 0]
  have hz5 : (w1.alloc (.cells #[.int .i64 0, .int .i64 0] 56)).heap.size = w1.heap.size + 1 := by simp
  generalize (w1.alloc (.cells #[.int .i64 0, .int .i64 0] 56)) = W5 at hf5 hb5 hx5 hz5 ⊢
  have HSX := hid (show w.heap.size < w1.heap.size from by have := HF1.out.size; have := HS2.out; omega)
  have HP5 := hid (HP2.out.fresh hf5)
  have HM5 := hid (HM2.out.trans (Mp.fresh hf5))
  have HB5 := hid hb5
  have HX5 := hid hx5
  clear hf5 hb5 hx5
  refine (HENC.out (k + 1) op 93 W5 HP5.out (by have := HOP.out; omega) HLT.out (fun h => HNE.out (by rw [h]; rfl))).mono ?_
  intro e w3 hres
  generalize pIn c.en f 93 op (c.T.drop (k + 1)) = X at HNE HQ hres
  cases X with
  | out => exact absurd rfl HNE.out
  | err i er =>
   obtain ⟨he0, A, n, cp, rfl, hm⟩ := hres
   have HE0 := hid he0
   have e0 := fail_ne he0
   have HM6 := hid (HM5.out.trans hm)
   have HB6 := hid (hm.blk HB5.out (by omega) (by decide))
   have HX6 := hid (hm.blk HX5.out (by have := HSX.out; omega) (by decide))
   obtain ⟨q0, q1, z0, z1, hlt3⟩ := Blk.two HX6.out
   clear hm he0
   unfold failV
   go_wp2_with fail
   have hne : w.heap.size ≠ w1.heap.size := by have := HSX.out; omega
   have hbe := HX6.out.self2 (.int .i64 (i : Int)) (.int .i64 (er : Int))
   have hbr := HB6.out.far2 hne (.int .i64 (i : Int)) (.int .i64 (er : Int))
   have hmr : Mp c.g c.W0.heap.size w (put2 w3 w1.heap.size (.int .i64 (i : Int)) (.int .i64 (er : Int))) := HM6.out.put2 (g := w1.heap.size) (.inr (by have := HSX.out; omega)) (.int .i64 (i : Int)) (.int .i64 (er : Int))
   clear q0 q1 z0 z1 hlt3
   simp only [put2] at hbe hbr hmr
   generalize (World.setCell (World.setCell w3 ⟨w1.heap.size, 0, none⟩ _) ⟨w1.heap.size, 1, none⟩ _) = W3 at hbe hbr hmr ⊢
   have r0 := cell_regrown (hbe.cell 0 |>.trans rfl)
   have r1 := cell_regrown (hbe.cell 1 |>.trans rfl)
   have hlt3 := hbe.lt
   have HBR := hid hbr
   have HMR := hid hmr
   clear hbe hbr hmr
   refine wp_region_mix [([(0, true), (1, true)], 2)] [] (by kernel_rfl) (fun _ _ d _ _ h => by cases d <;> exact h) (by kernel_rfl) ?_
   refine wpMix_seg ?_
   repeat (refine wpSeq_plain rfl (fun K hK => ?_); go_simp; refine hK _ ?_; clear hK K)
   obtain ⟨p0, p1, y0, y1, hlt⟩ := Blk.two (HBR.out.drewN 1)
   refine wpSeq_shut rfl (fun K hK => ?_)
   go_wp2_with fail
   refine wpMix_end ?_
   go_wp2_with fail
   have hb5 : Blk _ (w.heap.size) 56 #[.int .i64 (i : Int), .int .i64 (er : Int)] := ((HBR.out.drewN 1).put 0 (.int .i64 (i : Int))).put 1 (.int .i64 (er : Int))
   have hm5 := ((HMR.out.drewN 1).setCell (p := ⟨w.heap.size, 0, none⟩) (.inr (by show w.heap.size ≤ w.heap.size; omega)) (.int .i64 (i : Int))).setCell (p := ⟨w.heap.size, 1, none⟩) (.inr (by show w.heap.size ≤ w.heap.size; omega)) (.int .i64 (er : Int))
   obtain ⟨f0, f1, _⟩ := Blk.two hb5
   (try simp only [Exit.inBlock, Exit.then])
   refine bodyPost_ret (v := .tuple #[.slice none 0 0, failV i er]) (by simp [failV, results, Tryz.results70, go_sem, f0, f1]) rfl ?_
   exact HQ.out _ _ ⟨HE0.out, none, 0, 0, rfl, hm5⟩
  | ok d rest =>
   obtain ⟨A, cp, k2, rfl, htr, rfl, hkk, hp, hm⟩ := hres
   have HTR6 := hid htr
   have HKK6 := hid hkk
   have HP6 := hid hp
   have HM6 := hid (HM5.out.trans hm)
   have HB6 := hid (hm.blk HB5.out (by omega) (by decide))
   have HX6 := hid (hm.blk HX5.out (by have := HSX.out; omega) (by decide))
   obtain ⟨q0, q1, z0, z1, hlt3⟩ := Blk.two HX6.out
   have HZ6 := hid (show w.heap.size < W5.heap.size from by have := HSX.out; omega)
   clear hm htr hkk hp
   unfold failV
   go_wp2_with fail
   have hne : w.heap.size ≠ w1.heap.size := by have := HSX.out; omega
   have hw6 := touch2 w3 w1.heap.size (.int .i64 0) (.int .i64 0)
   have hb7 := HB6.out.far2 hne (.int .i64 0) (.int .i64 0)
   have hp7 := HP6.out.mv hw6 (fun b hb => by have := HSX.out; have := HW0.out; subst hb; exact ⟨by omega, by omega, _, _, (by decide), HX6.out⟩)
   have hm7 : Mp c.g c.W0.heap.size w (put2 w3 w1.heap.size (.int .i64 0) (.int .i64 0)) := HM6.out.put2 (g := w1.heap.size) (.inr (by have := HSX.out; omega)) (.int .i64 0) (.int .i64 0)
   have ht7 := (HTR6.out.base (Nat.le_of_lt HZ6.out)).other HX6.out (by decide) hw6
   clear q0 q1 z0 z1 hlt3
   simp only [put2] at hw6 hb7 hp7 hm7 ht7
   generalize (World.setCell (World.setCell w3 ⟨w1.heap.size, 0, none⟩ _) ⟨w1.heap.size, 1, none⟩ _) = W2' at hw6 hb7 hp7 hm7 ht7 ⊢
   clear HP2 HM2 HBF HS2
   have HP2 := hid hp7
   have HM2 := hid hm7
   have HBF := hid hb7
   have HS2 := hid (show W2'.heap.size ≥ w.heap.size + 1 from by have := hb7.lt; omega)
   have HT7 := hid ht7
   clear hw6 hb7 hp7 hm7 ht7
   have HNE := hid (show pArgs c.en f 1 op (c.T.drop k2) ≠ .out from R.map_out HNE.out)
   have HQ := hid (show ∀ e w', ItemsE c k op ((pArgs c.en f 1 op (c.T.drop k2)).map fun ks => [.mk 6 [] 0 (Np.slot d :: ks)]) w e w' → Q e w' from HQ.out)
   refine (slot_any_n A (d.length) cp _).mono ?_
   rintro _ w4 ⟨rfl, hf4⟩
   have hff := ((Touch.refl _ _ : Fresh W2' W2').trans hf4).alloc (.cells #[.int .i64 1, .string ⟨#[]⟩, .int .i64 0, .slice A d.length cp] 26)
   have hlit : TreT w.heap.size (w4.alloc (.cells #[.int .i64 1, .string ⟨#[]⟩, .int .i64 0, .slice A d.length cp] 26)) [Np.slot d] (.slice (some ⟨w4.heap.size, 0, none⟩) 1 1) := TreT.lit (n := Np.slot d) (HT7.out.fresh ((Touch.refl _ _ : Fresh W2' W2').trans hf4)) (by have := ((Touch.refl _ _ : Fresh W2' W2').trans hf4).size; have := HS2.out; omega) (by simp [Np.slot, maxLen, Nd.text])
   go_wp2_with fail
   generalize (w4.alloc (.cells #[.int .i64 1, .string ⟨#[]⟩, .int .i64 0, .slice A d.length cp] 26)) = W5 at hff hlit ⊢
   generalize w4.heap.size = b4 at hlit ⊢
   have HP2' := hid (HP2.out.fresh hff)
   have HM2' := hid (HM2.out.trans (Mp.fresh hff))
   have hbf5 := hff.blk HBF.out (fun h => h)
   have HBF' := hid hbf5
   have HS2' := hid (show w.heap.size < W5.heap.size from hbf5.lt)
   have HLIT := hid hlit
   clear hff hlit hbf5 HP2 HM2 HBF HS2 hf4
   have HP2 := HP2'
   have HM2 := HM2'
   have HBF := HBF'
   have HS2 := HS2'
   clear HP2' HM2' HBF' HS2'
   refine (HW.out (k2) op 6 [] [Np.slot d] (some ⟨b4, 0, none⟩) w.heap.size W5 HP2.out (by have := HOP.out; have := HKK6.out; omega) (by simp [maxLen]) (by simp) (by have := HS2.out; omega) HLIT.out HNE.out).mono ?_
   intro e w3 hres
   generalize pArgs c.en f 1 op (c.T.drop (k2)) = r at HNE HQ hres
   cases r with
   | out => exact absurd rfl HNE.out
   | err i er =>
    obtain ⟨he0, A, n, cp, rfl, hm⟩ := hres
    have HM3 := hid (HM2.out.trans hm)
    have HBF3 := hid (hm.blk HBF.out (by omega) (by decide))
    have HE0 := hid he0
    clear hm he0
    obtain ⟨q0, q1, z0, z1, hlt3⟩ := Blk.two HBF3.out
    unfold failV
    go_wp2_with fail
    have n1 := HBF3.out.self2 (.int .i64 (i : Int)) (.int .i64 (er : Int))
    have hm4 : Mp c.g c.W0.heap.size w (put2 w3 w.heap.size (.int .i64 (i : Int)) (.int .i64 (er : Int))) := HM3.out.put2 (g := w.heap.size) (.inr (Nat.le_refl _)) (.int .i64 (i : Int)) (.int .i64 (er : Int))
    have ht4 := touch2 w3 w.heap.size (.int .i64 (i : Int)) (.int .i64 (er : Int))
    simp only [put2] at n1 hm4 ht4
    generalize (World.setCell (World.setCell w3 ⟨w.heap.size, 0, none⟩ _) ⟨w.heap.size, 1, none⟩ _) = W4 at n1 hm4 ht4 ⊢
    obtain ⟨f0, f1, _⟩ := Blk.two n1
    (try simp only [Exit.inBlock, Exit.then])
    refine bodyPost_ret (v := .tuple #[.slice A n cp, failV i er]) (by simp [failV, results, Tryz.results70, go_sem, f0, f1]) rfl ?_
    exact HQ.out _ _ ⟨HE0.out, A, n, cp, rfl, hm4⟩
   | ok ks rest =>
    obtain ⟨b, k', rfl, htr, hdr, hkk, hp, hm⟩ := hres
    have HM3 := hid (HM2.out.trans hm)
    have HBF3 := hid (hm.blk HBF.out (by omega) (by decide))
    have HTR := hid htr
    have HDR := hid hdr
    have HKK := hid hkk
    have HP3 := hid hp
    clear hm htr hdr hkk hp
    obtain ⟨q0, q1, z0, z1, hlt3⟩ := Blk.two HBF3.out
    unfold failV
    go_wp2_with fail
    have n1 := HBF3.out.self2 (.int .i64 0) (.int .i64 0)
    have hm4 : Mp c.g c.W0.heap.size w (put2 w3 w.heap.size (.int .i64 0) (.int .i64 0)) := HM3.out.put2 (g := w.heap.size) (.inr (Nat.le_refl _)) (.int .i64 0) (.int .i64 0)
    have ht4 := touch2 w3 w.heap.size (.int .i64 0) (.int .i64 0)
    simp only [put2] at n1 hm4 ht4
    generalize (World.setCell (World.setCell w3 ⟨w.heap.size, 0, none⟩ _) ⟨w.heap.size, 1, none⟩ _) = W4 at n1 hm4 ht4 ⊢
    obtain ⟨f0, f1, _⟩ := Blk.two n1
    (try simp only [Exit.inBlock, Exit.then])
    refine bodyPost_ret (v := .tuple #[.slice (some ⟨b, 0, none⟩) 1 1, failV 0 0]) (by simp [failV, results, Tryz.results70, go_sem, f0, f1]) rfl ?_
    have hps := HP3.out.mv ht4 (fun b hb => by have := HW0.out; subst hb; exact ⟨by omega, by omega, _, _, (by decide), HBF3.out⟩)
    exact HQ.out _ _ ⟨_, 1, k', rfl, HTR.out.other HBF3.out (by decide) ht4, HDR.out, by have := HKK.out; have := HKK6.out; omega, hps, hm4⟩
end Go.Proofs.YtncnoeoicaglaaaGreat
