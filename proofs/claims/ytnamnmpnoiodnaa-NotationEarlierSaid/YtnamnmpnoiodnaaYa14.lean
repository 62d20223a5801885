/- Part 14 of 31 of a proof; its texts, joined: NyC, NyD, NyE. No condition. -/
import Derived.Test.YtnamnmpnoiodnaaYa13
import Derived.Test.YtnamnmpnoiodnaaYa3
set_option maxRecDepth 100000
set_option maxHeartbeats 400000
namespace Go.Proofs.Ytnamnmpnoiodnaa
open Go.RowKit
open Tr (Nd)
open Lx (PTok)
attribute [local go_sem] stillV stillUpon
theorem own_slc {W : World} {B e size n : Nat} {v : Value} {xs : List Value} (h : W.ownsRow B e size v n xs) : ∃ A c, v = .slice A n c := by
 rcases h.2 with ⟨h1, h2⟩ | ⟨g, cap, cur, h1, _⟩
 ·exact ⟨none, 0, by rw [h1, h2]⟩
 ·exact ⟨_, _, h1⟩
theorem own_shrink {W : World} {B e g n cap : Nat} {xs : List Value} {u : Value} (h : W.ownsRow B e 1 (.slice (some ⟨g, 0, none⟩) (n + 1) cap) (n + 1) (xs ++ [u])) : W.ownsRow B e 1 (.slice (some ⟨g, 0, none⟩) n cap) n xs := by
 have hl := h.1;rw [List.length_append, List.length_singleton] at hl;refine ⟨by omega, ?_⟩
 rcases h.2 with ⟨h1, _⟩ | ⟨g', cap', cur, h1, h2, h3, h4, h5, h6, h7⟩
 ·cases h1
 ·cases h1
  refine .inr ⟨g, cap, cur, rfl, h2, h3, by omega, h5, h6, ?_⟩;have h8 : (cur.toList.take ((n + 1) * 1)).take (n * 1) = (xs ++ [u]).take (n * 1) := by rw [h7]
  rw [List.take_take, show min (n * 1) ((n + 1) * 1) = n * 1 by omega] at h8;rw [h8, List.take_append_of_le_length (by omega), List.take_of_length_le (by omega)]
theorem Ps.put {c : Cf} {k : Kp} {op : List Nat} {w : World} (h : Ps c k op w) {b : Nat} {t : TypeId} {cs : Array Value} (hb : Blk w b t cs) (ht : t ≠ 3) (hne : b ≠ c.g) (hB : c.W0.heap.size ≤ b) (i : Nat) (v : Value) : Ps c k op (w.setCell ⟨b, i, none⟩ v) := by
 obtain ⟨ov, hbx, ho⟩ := h.box;refine ⟨h.low.setCell (p := ⟨b, i, none⟩) (.inr hB) v, ⟨ov, hbx.far (p := ⟨b, i, none⟩) (fun e => hne e.symm) v, ownsRow_touch ho ((Touch.refl (fun k => k = b) w).setCell (p := ⟨b, i, none⟩) (.inl rfl) v) fun k hk e => ?_⟩, h.le, h.nl⟩;obtain ⟨_, cur, h2⟩ := owns_type ho hk;subst e;unfold Blk at hb;rw [hb] at h2;cases h2;exact ht rfl
theorem up_snoc' (L : List Nat) (x : Nat) : intVs (up L) ++ [.int .i64 (x : Int)] = intVs (up (L ++ [x])) := by simp
theorem begin_any_n (c : Cf) (hc : c.Good) (k : Kp) (op : List Nat) (w : World) (h : Ps c k op w) (hk : k.p < c.T.length) (hop : op.length ≤ 100000) :
  Calls Try.prog 61 #[pp0 c] w fun e w' => e = .returned (.tuple #[]) ∧ Ps c k.up (op ++ [Np.place c.en (c.at k).l]) w' ∧ Mp c.g c.W0.heap.size w w' := by
 obtain ⟨i, hi, hz0, hz1, hz2⟩ := info_parts infoInt;have HT := hid (fun (w' : World) (hf : Fresh w w') => tok_any_n c hc k op w' (h.fresh hf));obtain ⟨ov, hb, ho⟩ := h.box
 obtain ⟨Ao, co, rfl⟩ : ∃ A cp, ov = .slice A op.length cp := by
  rcases ho.2 with ⟨h1, h2⟩ | ⟨g, cap, cur, h1, _⟩
  ·exact ⟨none, 0, by rw [h1, h2]⟩
  ·exact ⟨_, _, h1⟩
 have htl := hc.tl;have hk4 : k.p ≤ 100000 := by omega
 have hgw := hb.lt
 have hne : ∀ b, (Value.slice Ao op.length co).ownBlock = some b → b ≠ c.g := fun b hb' => by
  obtain ⟨h1, cur, h2⟩ := owns_type ho hb';intro e;subst e;unfold Blk at hb;rw [hb] at h2;cases h2
 have H := hid h;have HB := hid hb;have HO := hid ho;have HNE := hid hne;have HOP := hid hop;have HK := hid hk;have hW0 := hid (show c.W0.heap.size ≤ w.heap.size from h.low.size);clear hc hb ho h hne;generalize (c.at k).l = l at HT ⊢;obtain ⟨r0, r1, r3, r2, hr, hp⟩ := tok_place c.en l;rw [← hp];rw [hr] at HT;clear hr hp;have hfd := field_tok2;have r3' := cR ((HB.out.cell 3).trans rfl);have e1 : ((k.p : Int) + 1) = ((k.p + 1 : Nat) : Int) := by simp
 have HE := hid e1;clear e1;unfold pp0 at HT ⊢;go_enter Try.func61, Try.ntmps61;go_wp2_with fail
 refine wp_region_pre [0] [([(1, true), (2, true), (3, true), (4, true), (5, true), (6, false), (7, true), (8, false)], 9), ([(10, true), (11, true)], 12)] [] (by kernel_rfl) (fun _ _ d _ _ h => by cases d <;> exact h) (by kernel_rfl) ?_
 repeat (refine wpPre_step rfl (fun K hK => ?_); go_simp; refine hK _ ?_; clear hK K)
 refine wpPre_end ?_;refine wpMix_seg ?_
 repeat (refine wpSeq_plain rfl (fun K hK => ?_); go_simp; refine hK _ ?_; clear hK K)
 refine wpSeq_lone rfl (fun K hK => ?_);go_wp2_with fail
 refine (HT.out _ ((Touch.refl _ _).drewN _)).mono ?_;rintro _ w1 ⟨rfl, hf⟩;have HF1 := hid (show Fresh w w1 from Touch.ofN hf);clear hf r3';go_wp2_with fail
 refine hK _ _ (growing_fresh HF1.out) ?_;clear hK K
 repeat (refine wpSeq_plain rfl (fun K hK => ?_); go_simp; refine hK _ ?_; clear hK K)
 refine wpSeq_lone rfl (fun K hK => ?_);go_wp2_with fail
 refine hK _ _ (growing_fresh (HF1.out.alloc _)) ?_;clear hK K;refine wpSeq_shut rfl (fun K hK => ?_)
 go_wp2_with (at_builtin; refine wpList_append_src _ rfl (.tmp 6) (.tmp 10) 73 rfl c.W0.heap.size 3 i _ 1 8 rfl hi hz0 hz1 hz2 rfl (by decide) (.slice Ao op.length co) op.length (intVs (up op)) (by simp [Act.eval]) (ownsRow_touch HO.out (HF1.out.alloc _) (fun _ _ h => h)) (.slice (some ⟨w1.heap.size, 0, none⟩) 1 1) 1 [.int .i64 (r2 : Int)] (by simp [Act.eval]) (Src.of_blk (Blk.new _ _ _) rfl) (by intro u hu; simp at hu; rw [hu]; rfl) (by have := HOP.out; unfold maxLen; omega) (by have := HOP.out; omega) (by have h1 := hW0.out; have h2 := HF1.out.size; simp; omega) ?_; intro v8 W8 ho8 hg8 hv8; refine Stay.mk ?_)
 have HM8 := hid (show Mp c.g c.W0.heap.size w W8 from Mp.grown (Mp.fresh (HF1.out.alloc _)) (ownsRow_touch HO.out (HF1.out.alloc _) (fun _ _ h => h)) hg8)
 have HLOW8 := hid (show Touch (fun b => b = c.g) c.W0 W8 from ((H.out.low.trans ((HF1.out.alloc _).mono fun _ h => h.elim)).grown hg8 fun b hb => .inr (by
  have := (HO.out.lt b hb).1;exact this)))
 have HB8 := hid (show Blk W8 c.g 76 #[c.tv, .int .i64 (k.p : Int), .int .i64 (c.en : Int), .slice Ao op.length co, c.tp, .int .i64 (c.P : Int), c.mv, .int .i64 (k.n : Int), .bool k.b] from
  ((Touch.refl (fun b => (Value.slice Ao op.length co).ownBlock = some b) _).grown hg8 fun b hb => .inl hb).blk ((HF1.out.alloc _).blk HB.out (fun h => h)) fun hb => HNE.out _ hb rfl)
 rw [up_snoc'] at ho8;have HO8 := hid (show W8.ownsRow c.W0.heap.size 3 1 v8 (op ++ [r2]).length (intVs (up (op ++ [r2]))) from by rw [List.length_append]; exact ho8);obtain ⟨A8, c8, rfl⟩ := own_slc ho8;clear ho8 hg8 hv8;refine Stay.go ?_;go_wp2_with fail
 refine wpMix_seg ?_
 repeat (refine wpSeq_plain rfl (fun K hK => ?_); go_simp; refine hK _ ?_; clear hK K)
 have z3 := HB8.out.frozen 3;have y3 := HB8.out.cell 3;have hg8 := HB8.out.lt;refine wpSeq_shut rfl (fun K hK => ?_);go_wp2_with fail
 refine wpMix_end ?_
 have hne8 : ∀ b, (Value.slice A8 (op.length + 1) c8).ownBlock = some b → b ≠ c.g := fun b hb' => by
  obtain ⟨h1, cur, h2⟩ := owns_type HO8.out hb';intro e;subst e;have hb := HB8.out;unfold Blk at hb;rw [hb] at h2;cases h2
 have HP9 := hid (show Ps c k (op ++ [r2]) (W8.setCell ⟨c.g, 3, none⟩ (.slice A8 (op.length + 1) c8)) from
  ⟨HLOW8.out.setCell (p := ⟨c.g, 3, none⟩) (.inl rfl) _, ⟨.slice A8 (op.length + 1) c8, HB8.out.put 3 _, ownsRow_touch HO8.out ((Touch.refl (fun b => b = c.g) W8).setCell (p := ⟨c.g, 3, none⟩) (.inl rfl) _) hne8⟩, H.out.le, H.out.nl⟩)
 have HM9 := hid (show Mp c.g c.W0.heap.size w (W8.setCell ⟨c.g, 3, none⟩ (.slice A8 (op.length + 1) c8)) from HM8.out.trans (Mp.put W8 3 _));generalize (W8.setCell ⟨c.g, 3, none⟩ (.slice A8 (op.length + 1) c8)) = W9 at HP9 HM9 ⊢;obtain ⟨ov9, hb9, _⟩ := HP9.out.box;have q1 := hb9.cell 1;have z1 := hb9.frozen 1;have hg9 := hb9.lt;clear hb9 z3 y3 hg8 hne8;go_wp2_with fail
 obtain ⟨n1, n2⟩ := HP9.out.next HK.out _ HE.out
 (try simp only [Exit.inBlock, Exit.then])
 first | go_end0 | refine bodyPost_ret (v := .tuple #[]) (results_none rfl _ _ _) rfl ?_
 exact ⟨rfl, n1, HM9.out.trans n2⟩
theorem finish_any_n (c : Cf) (hc : c.Good) (k : Kp) (op : List Nat) (x : Nat) (b : UInt8) (w : World) (h : Ps c k (op ++ [x]) w) (hk : k.p < c.T.length ∨ Np.isM b (c.at k).l = false) :
  Calls Try.prog 62 #[pp0 c, .string ⟨#[b]⟩] w fun e w' =>
   (Np.isM b (c.at k).l = true ∧ e = .returned (failV 0 0) ∧ Ps c k.up op w' ∧ Mp c.g c.W0.heap.size w w') ∨
   (Np.isM b (c.at k).l = false ∧ e = .returned (failV (Np.place c.en (c.at k).l) 3) ∧ Mp c.g c.W0.heap.size w w') := by
 have HA := hid (fun (w' : World) (hf : Fresh w w') => at_any_n c hc k (op ++ [x]) b w' (h.fresh hf));have HR := hid (fun (w' : World) (hf : Fresh w w') => refuse_any_n c hc k (op ++ [x]) w' (h.fresh hf));have H := hid h;have htl := hc.tl;clear hc h;generalize hm : Np.isM b (c.at k).l = mb at HA hk ⊢;generalize Np.place c.en (c.at k).l = pl at HR ⊢;clear hm;cases mb with
 | false =>
  go_enter Try.func62, Try.ntmps62;go_wp2_with fail
  refine (HA.out _ ((Touch.refl _ _).alloc _)).mono ?_;rintro _ w1 ⟨rfl, hf⟩;have HF1 := hid (show Fresh w w1 from Touch.pre hf);have HB1 := hid (hf.blk (Blk.new w 56 #[.int .i64 0, .int .i64 0]) (fun h => h));clear hf;go_wp2_with fail
  refine (HR.out _ HF1.out).mono ?_;rintro _ w2 ⟨rfl, hf⟩;have HF2 := hid (HF1.out.trans hf);obtain ⟨p0, p1, z0, z1, hlt⟩ := Blk.two (hf.blk HB1.out (fun h => h));clear hf;unfold failV;go_wp2_with fail
  (try simp only [Exit.inBlock, Exit.then])
  refine bodyPost_ret (v := failV pl 3) (by simp [failV, results, Try.results62, go_sem, p0, p1]) rfl ?_;refine .inr ⟨trivial, rfl, Mp.fresh ((HF2.out.setCell (p := ⟨w.heap.size, 0, none⟩) (.inr (Nat.le_refl _)) _).setCell (p := ⟨w.heap.size, 1, none⟩) (.inr (Nat.le_refl _)) _)⟩
 | true =>
  have hk1 : k.p < c.T.length := by
   rcases hk with hk | hk
   ·exact hk
   ·cases hk
  have HK1 := hid hk1;clear hk;have hk4 : k.p ≤ 100000 := by omega
  go_enter Try.func62, Try.ntmps62;go_wp2_with fail
  refine (HA.out _ ((Touch.refl _ _).alloc _)).mono ?_;rintro _ w1 ⟨rfl, hf⟩;have HF1 := hid (show Fresh w w1 from Touch.pre hf);have HB1 := hid (hf.blk (Blk.new w 56 #[.int .i64 0, .int .i64 0]) (fun h => h));clear hf;have HP1 := hid (H.out.fresh HF1.out);obtain ⟨ov, hb1, ho1⟩ := HP1.out.box;have HBP := hid hb1;have HOV := hid ho1
  obtain ⟨go, co, rfl, hco⟩ : ∃ go cp, ov = .slice (some ⟨go, 0, none⟩) (op.length + 1) cp ∧ op.length + 1 ≤ cp := by
   rcases ho1.2 with ⟨_, h2⟩ | ⟨g, cap, cur, h1, _, _, h2, _⟩
   ·simp at h2
   ·rw [List.length_append, List.length_singleton] at h1 h2
    exact ⟨_, _, h1, h2⟩
  have hne : go ≠ c.g := fun e => by
   obtain ⟨h1, cur, h2⟩ := owns_type ho1 (g := go) rfl;subst e;unfold Blk at hb1;rw [hb1] at h2;cases h2
  have hmax : op.length + 1 ≤ maxLen := by
   rcases ho1.2 with ⟨_, h2⟩ | ⟨g, cap, cur, _, _, _, h2, h3, _⟩
   ·simp at h2
   ·rw [List.length_append, List.length_singleton] at h2
    exact Nat.le_trans h2 h3
  unfold maxLen at hmax;have HNE := hid hne;have r3 := cR ((hb1.cell 3).trans rfl);have e1 : ((op.length : Int) + 1) - 1 = (op.length : Int) := by omega
  have e2 : IntKind.i64.wrap ((op.length : Int)) = (op.length : Int) := IntWalk.i64_in _ (by omega);have hcl : op.length ≤ co := by omega
  have hgp := hb1.lt;have z3 := hb1.frozen 3;have y3 := hb1.cell 3;clear hb1 ho1 hne;unfold pp0 at HA HR ⊢;go_wp2_with fail
  refine wp_region_mix [([(0, true), (1, true), (2, true), (3, true), (4, true), (5, true), (6, true), (7, true), (8, true), (9, true), (10, true), (11, true), (12, true), (13, true)], 14)] [] (by kernel_rfl) (fun _ _ d _ _ h => by cases d <;> exact h) (by kernel_rfl) ?_;refine wpMix_seg ?_
  repeat (refine wpSeq_plain rfl (fun K hK => ?_); go_simp; refine hK _ ?_; clear hK K)
  clear r3;have y3' : (w1.drewN 1).cell? ⟨c.g, 3, none⟩ = some (.slice (some ⟨go, 0, none⟩) (op.length + 1) co) := y3.trans rfl;have z3' : (w1.drewN 1).frozen? ⟨c.g, 3, none⟩ = false := z3;refine wpSeq_shut rfl (fun K hK => ?_);go_wp2_with fail
  refine wpMix_end ?_
  have HP2 := hid (show Ps c k op ((w1.drewN 1).setCell ⟨c.g, 3, none⟩ (.slice (some ⟨go, 0, none⟩) op.length co)) from
   ⟨(HP1.out.low.drewN 1).setCell (p := ⟨c.g, 3, none⟩) (.inl rfl) _, ⟨_, (HBP.out.drewN 1).put 3 _, ownsRow_touch (own_shrink (by
    have h1 := HOV.out;rw [List.length_append, List.length_singleton] at h1;have e : intVs (up (op ++ [x])) = intVs (up op) ++ [.int .i64 (x : Int)] := by simp
    rw [e] at h1
    exact h1)) (((Touch.refl (fun b => b = c.g) w1).drewN 1).setCell (p := ⟨c.g, 3, none⟩) (.inl rfl) _) (fun b hb => by
     simp only [Value.ownBlock, Option.some.injEq] at hb;rw [← hb];exact HNE.out)⟩, HP1.out.le, HP1.out.nl⟩)
  have HM2 := hid (show Mp c.g c.W0.heap.size w ((w1.drewN 1).setCell ⟨c.g, 3, none⟩ (.slice (some ⟨go, 0, none⟩) op.length co)) from (Mp.fresh (HF1.out.drewN 1)).trans (Mp.put _ 3 _));have HBF := hid (show Blk ((w1.drewN 1).setCell ⟨c.g, 3, none⟩ (.slice (some ⟨go, 0, none⟩) op.length co)) w.heap.size 56 #[.int .i64 0, .int .i64 0] from (HB1.out.drewN 1).far (p := ⟨c.g, 3, none⟩) (fun e => by have h1 := H.out.glt; have h2 : w.heap.size = c.g := e; omega) _);generalize ((w1.drewN 1).setCell ⟨c.g, 3, none⟩ (.slice (some ⟨go, 0, none⟩) op.length co)) = W2 at HP2 HM2 HBF ⊢;obtain ⟨ov2, hb2, _⟩ := HP2.out.box;have q1 := hb2.cell 1;have z1 := hb2.frozen 1;have hg2 := hb2.lt;have e3 : ((k.p : Int) + 1) = ((k.p + 1 : Nat) : Int) := by simp
  have HE := hid e3;obtain ⟨p0, p1, y0, y1, hlt⟩ := Blk.two HBF.out;have hgl : c.g < w.heap.size := H.out.glt;clear hb2 e3 y3 z3 y3' z3' e1 e2;go_wp2_with fail
  obtain ⟨n1, n2⟩ := HP2.out.next HK1.out _ HE.out;have hbf3 := HBF.out.far (p := ⟨c.g, 1, none⟩) (fun e => by have h2 : w.heap.size = c.g := e; omega) (.int .i64 ((k.p : Int) + 1));have hne3 : w.heap.size ≠ c.g := fun e => by omega
  have hB3 : c.W0.heap.size ≤ w.heap.size := H.out.low.size;have hp4 := n1.put hbf3 (by decide) hne3 hB3 0 (.int .i64 0);have hb4 := hbf3.put 0 (.int .i64 0);have hp5 := hp4.put hb4 (by decide) hne3 hB3 1 (.int .i64 0);have hb5 : Blk _ _ 56 #[.int .i64 0, .int .i64 0] := hb4.put 1 (.int .i64 0);have hm5 := (HM2.out.trans n2).setCell (p := ⟨w.heap.size, 0, none⟩) (.inr (Nat.le_refl _)) (.int .i64 0) |>.setCell (p := ⟨w.heap.size, 1, none⟩) (.inr (Nat.le_refl _)) (.int .i64 0)
  obtain ⟨f0, f1, _⟩ := Blk.two hb5
  (try simp only [Exit.inBlock, Exit.then])
  refine bodyPost_ret (v := failV 0 0) (by simp [failV, results, Try.results62, go_sem, f0, f1]) rfl ?_;exact .inl ⟨trivial, rfl, hp5, hm5⟩
end Go.Proofs.Ytnamnmpnoiodnaa
namespace Go.Proofs.Ytnamnmpnoiodnaa
open Go.RowKit
open Tr (Nd)
open Lx (PTok)
def namedL : List (List UInt8 × FuncId) := [(Tr.sFrac, 39), (Tr.sRoot, 40), (Tr.sMatrix, 41), ([104, 97, 116], 42), ([98, 97, 114], 42), ([118, 101, 99], 42), ([100, 111, 116], 42), ([116, 105, 108, 100, 101], 42), ([99, 104, 101, 99, 107], 42)]
def methodV (g : Nat) (f : FuncId) : Value := .func (.func f) #[.pointer (some ⟨g, 0, none⟩)] #[]
def namedF (s : List UInt8) : Option FuncId := (namedL.find? fun x => x.1 == s).map (·.2)
def namedEs (g : Nat) : List MapEntry := namedL.zipIdx.map fun x => ⟨.string ⟨x.1.1.toArray⟩, methodV g x.1.2, x.2⟩
theorem findNow_str (s : List UInt8) : ∀ (l : List ((List UInt8 × Value) × Nat)) (i : Nat), ∃ j, Instr.findNow .string (.string ⟨s.toArray⟩) (l.map fun x => ⟨.string ⟨x.1.1.toArray⟩, x.1.2, x.2⟩) i = some ((l.find? fun x => x.1.1 == s).map fun x => (j, x.1.2))
 | [], i => ⟨0, rfl⟩
 | x :: l, i => by
  rw [List.map_cons, Instr.findNow, List.find?_cons]
  have hs : Instr.sameNow .string (.string ⟨s.toArray⟩) (.string ⟨x.1.1.toArray⟩) = some (x.1.1 == s) := by
   show some ((⟨s.toArray⟩ : ByteArray) == (⟨x.1.1.toArray⟩ : ByteArray)) = _;rw [str_eq']
   congr 1
   by_cases h : s = x.1.1
   ·rw [h]
   ·rw [beq_eq_false_iff_ne.2 h, beq_eq_false_iff_ne.2 (fun e => h e.symm)]
  simp only [hs];cases h : (x.1.1 == s) with
  | true => exact ⟨i, rfl⟩
  | false => exact findNow_str s l (i + 1)
theorem findNow_named (g : Nat) (s : List UInt8) : ∃ j, Instr.findNow .string (.string ⟨s.toArray⟩) (namedEs g) 0 = some ((namedF s).map fun f => (j, methodV g f)) := by
 have h := findNow_str s (namedL.zipIdx.map fun x => ((x.1.1, methodV g x.1.2), x.2)) 0;obtain ⟨j, h⟩ := h;refine ⟨j, ?_⟩;have e : (namedL.zipIdx.map fun x => ((x.1.1, methodV g x.1.2), x.2)).map (fun x => (⟨.string ⟨x.1.1.toArray⟩, x.1.2, x.2⟩ : MapEntry)) = namedEs g := by rw [List.map_map]; rfl
 rw [e] at h;rw [h]
 congr 1
 unfold namedF;rw [List.find?_map];simp only [Option.map_map]
 have e2 : ∀ (l : List (List UInt8 × FuncId)) (n : Nat), ((l.zipIdx n).find? fun x => x.1.1 == s).map (fun x => (j, methodV g x.1.2)) = (l.find? fun x => x.1 == s).map fun x => (j, methodV g x.2) := by
  intro l
  induction l with
  | nil => intro n; rfl
  | cons y l ih =>
   intro n;rw [List.zipIdx_cons, List.find?_cons, List.find?_cons];cases hy : (y.1 == s) with
   | true => rfl
   | false => exact ih (n + 1)
 exact e2 namedL 0
theorem zero_method (w : World) : (zeroValue 72).run Try.prog w = .ok .nilFunc w := by
 have := Try.zeroValue72 w;exact this
theorem check_str (e : Bool) (s : ByteArray) (w : World) : (Instr.checkKey e 10000 9 (.string s)).run Try.prog w = .ok () w := by
 rw [show (10000 : Nat) = 9999 + 1 from rfl];unfold Instr.checkKey;simp [run_underlying Try.underlying9]
theorem findKey_named (g : Nat) (s : List UInt8) (w : World) : ∃ j, (Instr.findKey 9 (.string ⟨s.toArray⟩) (namedEs g)).run Try.prog w = .ok ((namedF s).map fun f => (j, methodV g f)) w := by
 obtain ⟨j, hj⟩ := findNow_named g s;refine ⟨j, ?_⟩;unfold Instr.findKey;simp [run_underlying Try.underlying9, hj]
theorem run_named {w : World} {bm g clock : Nat} (hb : w.heap[bm]? = some (.map (namedEs g).toArray clock)) (s : List UInt8) (ok : Bool) :
  (Instr.lookup 74 (.map (some bm)) (.string ⟨s.toArray⟩) ok).run Try.prog w = .ok (match namedF s with
   | some f => if ok then .tuple #[methodV g f, .bool true] else methodV g f
   | none => if ok then .tuple #[.nilFunc, .bool false] else .nilFunc) w := by
 obtain ⟨j, hj⟩ := findKey_named g s w;have hg : (getObj bm).run Try.prog w = .ok (.map (namedEs g).toArray clock) w := by simp [getObj, Sem.run, hb]
 have hc := check_str;have hz := zero_method w;unfold Instr.lookup;cases hf : namedF s with
 | none =>
  rw [hf] at hj;cases ok <;> simp [run_underlying Try.underlying74, hg, hc, hj, hz]
 | some f =>
  rw [hf] at hj;cases ok <;> simp [run_underlying Try.underlying74, hg, hc, hj]
def Cf.Named (c : Cf) (bm : Nat) : Prop := c.mv = .map (some bm) ∧ c.W0.heap[bm]? = some (.map (namedEs c.g).toArray 9) ∧ bm ≠ c.g
theorem Cf.Named.at {c : Cf} {bm : Nat} (h : c.Named bm) {k : Kp} {op : List Nat} {w : World} (hp : Ps c k op w) : w.heap[bm]? = some (.map (namedEs c.g).toArray 9) :=
 (hp.low.block bm (Array.getElem?_eq_some_iff.1 h.2.1).1 h.2.2).trans h.2.1
theorem namedF_eq (s : List UInt8) : namedF s = if s = Tr.sFrac then some 39 else if s = Tr.sRoot then some 40 else if s = Tr.sMatrix then some 41 else if Np.accented s = true then some 42 else none := by
 by_cases h1 : s = Tr.sFrac
 ·subst h1; rfl
 ·by_cases h2 : s = Tr.sRoot
  ·subst h2; rfl
  ·by_cases h3 : s = Tr.sMatrix
   ·subst h3; rfl
   ·rw [if_neg h1, if_neg h2, if_neg h3]
    have b1 : (Tr.sFrac == s) = false := by simpa using fun e => h1 e.symm
    have b2 : (Tr.sRoot == s) = false := by simpa using fun e => h2 e.symm
    have b3 : (Tr.sMatrix == s) = false := by simpa using fun e => h3 e.symm
    unfold namedF namedL Np.accented Tr.accents;simp only [List.find?_cons, b1, b2, b3, List.contains_cons, List.find?_nil, List.contains_nil]
    have hc : ∀ x : List UInt8, (x == s) = (s == x) := fun x => by
     by_cases e : x = s
     ·subst e; simp
     ·rw [beq_eq_false_iff_ne.2 e, beq_eq_false_iff_ne.2 (fun h => e h.symm)]
    simp only [hc];cases (s == ([104, 97, 116] : List UInt8)) <;> cases (s == ([98, 97, 114] : List UInt8)) <;> cases (s == ([118, 101, 99] : List UInt8)) <;> cases (s == ([100, 111, 116] : List UInt8)) <;> cases (s == ([116, 105, 108, 100, 101] : List UInt8)) <;> cases (s == ([99, 104, 101, 99, 107] : List UInt8)) <;> rfl
theorem namedF_special (s : List UInt8) : namedF s = none ↔ Np.special s = false := by
 rw [namedF_eq];unfold Np.special
 by_cases h1 : s = Tr.sFrac
 ·rw [if_pos h1]
  exact ⟨fun h => (by cases h), fun h => by rw [h1] at h; revert h; decide⟩
 ·by_cases h2 : s = Tr.sRoot
  ·rw [if_neg h1, if_pos h2]
   exact ⟨fun h => (by cases h), fun h => by rw [h2] at h; revert h; decide⟩
  ·by_cases h3 : s = Tr.sMatrix
   ·rw [if_neg h1, if_neg h2, if_pos h3]
    exact ⟨fun h => (by cases h), fun h => by rw [h3] at h; revert h; decide⟩
   ·have b1 : (s == Tr.sFrac) = false := by simpa using h1
    have b2 : (s == Tr.sRoot) = false := by simpa using h2
    have b3 : (s == Tr.sMatrix) = false := by simpa using h3
    rw [if_neg h1, if_neg h2, if_neg h3, b1, b2, b3];cases Np.accented s <;> simp
end Go.Proofs.Ytnamnmpnoiodnaa
namespace Go.Proofs.Ytnamnmpnoiodnaa
open Go.RowKit
open Tr (Nd)
open Lx (PTok)
attribute [local go_sem] stillV stillUpon
def leafO (P : Nat) : List PTok → Option Nd
 | [] => none
 | t :: _ => Mcr.leafP P t
theorem leafP_some {P : Nat} {t : PTok} {x : Nd} (h : Np.leafOf t = some x) : Mcr.leafP P t = some x := by unfold Mcr.leafP; rw [h]
theorem leafP_no {P : Nat} {t : PTok} (h : Np.leafOf t = none) (h6 : t.kind ≠ 6) : Mcr.leafP P t = none := by
 unfold Mcr.leafP;rw [h];exact if_neg fun e => h6 e.1
theorem leafP_par {P : Nat} {t : PTok} {b : UInt8} (h : Np.leafOf t = none) (h6 : t.kind = 6) (ht : t.text = [b]) : Mcr.leafP P t = if b.toNat ≤ P + 48 then some (.mk 2 [35, b] 0 []) else none := by
 unfold Mcr.leafP;rw [h, ht]
 by_cases hb : b.toNat ≤ P + 48
 ·rw [if_pos hb]
  exact if_pos ⟨h6, hb⟩
 ·rw [if_neg hb]
  exact if_neg fun e => hb e.2
def SimpleE (c : Cf) (k : Kp) (op : List Nat) (w : World) (e : Ending) (w' : World) : Prop :=
 (∃ x b, leafO c.P (c.at k).l = some x ∧ e = .returned (.tuple #[.slice (some ⟨b, 0, none⟩) 1 1, .bool true]) ∧ TreT w.heap.size w' [x] (.slice (some ⟨b, 0, none⟩) 1 1) ∧ Ps c k.up op w' ∧ Mp c.g c.W0.heap.size w w') ∨
 (leafO c.P (c.at k).l = none ∧ e = .returned (.tuple #[.slice none 0 0, .bool false]) ∧ Fresh w w')
theorem kind_is (n m : Nat) (h : n = m) : ((n : Int) == (m : Int)) = true := by rw [h]; simp
theorem kind_no (n m : Nat) (h : n ≠ m) : ((n : Int) == (m : Int)) = false := by rw [beq_eq_false_iff_ne]; omega
theorem simple_any_n (c : Cf) (hc : c.Good) (k : Kp) (op : List Nat) (w : World) (h : Ps c k op w) :
  Calls Try.prog 76 #[pp0 c] w (SimpleE c k op w) := by
 have HT := hid (fun (w' : World) (hf : Fresh w w') => tok_any_n c hc k op w' (h.fresh hf));have HS := hid (fun (w' : World) (hf : Fresh w w') (kd : Int) (tx : List UInt8) (hk : k.p < c.T.length) (htx : tx.length ≤ maxLen) => single_any_n c hc k op kd tx w' (h.fresh hf) hk htx);have HTX := hid hc.txt;have HPA := hid hc.par;obtain ⟨ov, hb, _⟩ := h.box;have HB := hid hb;unfold SimpleE;have H := hid h;clear h hb hc;cases hl : (c.at k).l with
 | nil =>
  rw [hl] at HT;unfold tokV at HT;clear hl;go_enter Try.func76, Try.ntmps76;go_wp2_with fail
  refine (HT.out _ (Touch.refl _ _)).mono ?_;rintro _ w1 ⟨rfl, hf⟩;have HF := hid hf;clear hf;go_wp2_with fail
  go_quiet (fail)
  go_wp2_with fail
  go_ret2;exact .inr ⟨rfl, rfl, HF.out.alloc _ |>.drewN _⟩
 | cons t r =>
  rw [hl] at HT;unfold tokV at HT
  have hk : k.p < c.T.length := by
   rcases Nat.lt_or_ge k.p c.T.length with h | h
   ·exact h
   ·rw [Cf.at_l, List.drop_eq_nil_of_le h] at hl; cases hl
  have hmem : t ∈ c.T := List.mem_of_mem_drop (i := k.p) (by rw [← Cf.at_l, hl]; simp);have HK := hid hk;have HX := hid (HTX.out t hmem);have HP := hid (HPA.out t hmem);clear hmem HTX HPA hl hk;go_enter Try.func76, Try.ntmps76;go_wp2_with fail
  refine (HT.out _ (Touch.refl _ _)).mono ?_;rintro _ w1 ⟨rfl, hf⟩;have HF := hid hf;have HSZ := hid (show w.heap.size ≤ (w1.alloc (.cells #[.int .i64 t.kind, .string ⟨t.text.toArray⟩, .int .i64 (t.from_ : Int), .int .i64 (t.to_ : Int)] 107)).heap.size from (hf.alloc _).size);clear hf
  by_cases h1 : t.kind = 1
  ·have e1 := kind_is _ 1 h1
   have HL := hid (show leafO c.P (t :: r) = some (.mk 2 t.text 0 []) from leafP_some (by unfold Np.leafOf; rw [if_pos h1]));clear  h1;go_wp2_with fail
   refine (HS.out _ (HF.out.alloc _) 2 t.text HK.out HX.out).mono ?_;rintro _ w2 ⟨b, rfl, htr, hp, hm⟩;have HTR := hid htr;have HP2 := hid hp;have HM2 := hid ((Mp.fresh (HF.out.alloc _)).trans hm);clear htr hp hm;unfold failV;go_wp2_with fail
   go_ret2;exact .inl ⟨_, b, HL.out, rfl, HTR.out.base HSZ.out, HP2.out, HM2.out⟩
  ·by_cases h2 : t.kind = 2
   ·have e1 := kind_no _ 1 h1
    have e2 := kind_is _ 2 h2;have HL := hid (show leafO c.P (t :: r) = some (.mk 3 t.text 0 []) from leafP_some (by unfold Np.leafOf; rw [if_neg h1, if_pos h2]));clear h1 h2;go_wp2_with fail
    refine (HS.out _ (HF.out.alloc _) 3 t.text HK.out HX.out).mono ?_;rintro _ w2 ⟨b, rfl, htr, hp, hm⟩;have HTR := hid htr;have HP2 := hid hp;have HM2 := hid ((Mp.fresh (HF.out.alloc _)).trans hm);clear htr hp hm;unfold failV;go_wp2_with fail
    go_ret2;exact .inl ⟨_, b, HL.out, rfl, HTR.out.base HSZ.out, HP2.out, HM2.out⟩
   ·by_cases h3 : t.kind = 3
    ·have e1 := kind_no _ 1 h1
     have e2 := kind_no _ 2 h2;have e3 := kind_is _ 3 h3;have HL := hid (show leafO c.P (t :: r) = some (.mk 4 t.text 0 []) from leafP_some (by unfold Np.leafOf; rw [if_neg h1, if_neg h2, if_pos h3]));clear h1 h2 h3;go_wp2_with fail
     refine (HS.out _ (HF.out.alloc _) 4 t.text HK.out HX.out).mono ?_;rintro _ w2 ⟨b, rfl, htr, hp, hm⟩;have HTR := hid htr;have HP2 := hid hp;have HM2 := hid ((Mp.fresh (HF.out.alloc _)).trans hm);clear htr hp hm;unfold failV;go_wp2_with fail
     go_ret2;exact .inl ⟨_, b, HL.out, rfl, HTR.out.base HSZ.out, HP2.out, HM2.out⟩
    ·have HL0 := hid (show Np.leafOf t = none from by unfold Np.leafOf; rw [if_neg h1, if_neg h2, if_neg h3])
     have e1 := kind_no _ 1 h1;have e2 := kind_no _ 2 h2;have e3 := kind_no _ 3 h3;clear h1 h2 h3;have HPS := hid (H.out.fresh (HF.out.alloc (.cells #[.int .i64 t.kind, .string ⟨t.text.toArray⟩, .int .i64 (t.from_ : Int), .int .i64 (t.to_ : Int)] 107)));go_wp2_with fail
     have hf2 := HF.out.alloc (.cells #[.int .i64 t.kind, .string ⟨t.text.toArray⟩, .int .i64 (t.from_ : Int), .int .i64 (t.to_ : Int)] 107);have hb2 : Blk (w1.alloc (.cells #[.int .i64 t.kind, .string ⟨t.text.toArray⟩, .int .i64 (t.from_ : Int), .int .i64 (t.to_ : Int)] 107)) w1.heap.size 107 #[.int .i64 t.kind, .string ⟨t.text.toArray⟩, .int .i64 (t.from_ : Int), .int .i64 (t.to_ : Int)] := Blk.new _ _ _;generalize (w1.alloc (.cells #[.int .i64 t.kind, .string ⟨t.text.toArray⟩, .int .i64 (t.from_ : Int), .int .i64 (t.to_ : Int)] 107)) = W2 at HPS hf2 hb2 ⊢;have HF2 := hid hf2;have HBK := hid hb2;obtain ⟨p0, p1, p2, p3, _, _, _, _, hlt⟩ := Blk.four hb2;have r0 := cR p0;have r1 := cR p1;obtain ⟨ov2, hbx, _⟩ := HPS.out.box;have r5 := cR ((hbx.cell 5).trans rfl);have hgx := hbx.lt;clear hf2 hb2 p0 p1 p2 p3 hbx
     by_cases h6 : t.kind = 6
     ·obtain ⟨b, hb, hb1, hb2⟩ := HP.out h6
      have H6 := hid (show (t.kind : Int) = 6 by omega);have HLP := hid (leafP_par (P := c.P) HL0.out h6 hb);rw [h6, show ((6 : Nat) : Int) = 6 from rfl] at r0;clear h6;rw [hb] at r1;unfold pp0;have hbr : 49 ≤ b.toNat ∧ b.toNat ≤ 57 := ⟨UInt8.le_iff_toNat_le.1 hb1, UInt8.le_iff_toNat_le.1 hb2⟩;obtain ⟨m, hm, hm2⟩ : ∃ m, b.toNat = m + 48 ∧ 1 ≤ m ∧ m ≤ 9 := ⟨b.toNat - 48, by omega, by omega, by omega⟩;have e1' : ((b.toNat : Nat) : Int) - 48 = (m : Int) := by omega
      have w1' : IntKind.u8.wrap (m : Int) = (m : Int) := by
       exact IntWalk.u8_in _ (by omega)
      have wr : IntKind.i64.wrap (IntKind.u8.wrap ((b.toNat : Int) - 48)) = (m : Int) := by rw [e1', w1', IntWalk.i64_in _ (by omega)]
      have HWR := hid wr;clear e1' w1' hbr wr
      by_cases hle : b.toNat ≤ c.P + 48
      ·rw [if_pos hle] at HLP
       have hwr : decide (IntKind.i64.wrap (IntKind.u8.wrap ((b.toNat : Int) - 48)) ≤ (c.P : Int)) = true := by rw [HWR.out]; exact decide_eq_true (by omega)
       have hwr' : IntKind.i64.wrap (IntKind.u8.wrap ((b.toNat : Int) - 48)) ≤ (c.P : Int) := of_decide_eq_true hwr;have hadd := fun W : World => run_string_add_lists (P := Try.prog) W [35] [b] (by simp) (by simp)
       rw [show ([35] : List UInt8).toArray = #[35] from rfl, show ([b] : List UInt8).toArray = #[b] from rfl, show ([35] ++ [b] : List UInt8).toArray = #[35, b] from rfl] at hadd
       have HT2 := hid (show Blk W2 w1.heap.size 107 #[.int .i64 6, .string ⟨#[b]⟩, .int .i64 (t.from_ : Int), .int .i64 (t.to_ : Int)] from by
        have h := HBK.out;rw [H6.out, hb] at h;exact h)
       clear hm hm2 hle;refine wp_region_mix [] [(0, true), (1, true), (2, true), (3, true), (4, true), (5, true), (6, true), (7, true), (8, true), (9, true), (10, true), (11, true), (12, true), (13, true), (14, true), (15, true)] (by kernel_rfl) (fun _ _ d _ _ h => by cases d <;> exact h) (by kernel_rfl) ?_;refine wpMix_last ?_
       repeat (refine wpSeq_plain rfl (fun K hK => ?_); go_simp; refine hK _ ?_; clear hK K)
       refine wpSeq_end ?_;simp only [show ∀ h : 0 < (⟨#[b]⟩ : ByteArray).size, (⟨#[b]⟩ : ByteArray)[0]'h = b from fun _ => rfl, hwr', decide_true];clear r0 r1 r5;obtain ⟨p0, p1, p2, p3, _, _, _, _, hlt2⟩ := Blk.four (HT2.out.drewN 1);go_wp2_with fail
       refine (HS.out _ (HF2.out.drewN 1) 2 [35, b] HK.out (by simp [maxLen])).mono ?_;rintro _ w2 ⟨b', rfl, htr, hp, hm⟩;have HTR := hid htr;have HP2 := hid hp;have HM2 := hid ((Mp.fresh (HF2.out.drewN 1)).trans hm);clear htr hp hm;unfold failV;go_wp2_with fail
       go_ret2;exact .inl ⟨_, b', HLP.out, rfl, HTR.out.base (HF2.out.drewN 1).size, HP2.out, HM2.out⟩
      ·rw [if_neg hle] at HLP
       have hwr : decide (IntKind.i64.wrap (IntKind.u8.wrap ((b.toNat : Int) - 48)) ≤ (c.P : Int)) = false := by rw [HWR.out]; exact decide_eq_false (by omega)
       have hwr' : ¬ (IntKind.i64.wrap (IntKind.u8.wrap ((b.toNat : Int) - 48)) ≤ (c.P : Int)) := of_decide_eq_false hwr;clear hm hm2 hle;refine wp_region_mix [] [(0, true), (1, true), (2, true), (3, true), (4, true), (5, true), (6, true), (7, true), (8, true), (9, true), (10, true), (11, true), (12, true), (13, true), (14, true), (15, true)] (by kernel_rfl) (fun _ _ d _ _ h => by cases d <;> exact h) (by kernel_rfl) ?_;refine wpMix_last ?_
       repeat (refine wpSeq_plain rfl (fun K hK => ?_); go_simp; refine hK _ ?_; clear hK K)
       refine wpSeq_end ?_;go_wp2_with fail
       go_ret2;exact .inr ⟨HLP.out, rfl, HF2.out.drewN _⟩
     ·have HLN := hid (show leafO c.P (t :: r) = none from leafP_no HL0.out h6)
      have e6 : ¬ ((t.kind : Int) = 6) := by omega
      clear h6;refine wp_region_mix [] [(0, true), (1, true), (2, true), (3, true), (4, true), (5, true), (6, true), (7, true), (8, true), (9, true), (10, true), (11, true), (12, true), (13, true), (14, true), (15, true)] (by kernel_rfl) (fun _ _ d _ _ h => by cases d <;> exact h) (by kernel_rfl) ?_;refine wpMix_last ?_
      repeat (refine wpSeq_plain rfl (fun K hK => ?_); go_simp; refine hK _ ?_; clear hK K)
      refine wpSeq_end ?_;go_wp2_with fail
      go_ret2;exact .inr ⟨HLN.out, rfl, HF2.out.drewN _⟩
end Go.Proofs.Ytnamnmpnoiodnaa
