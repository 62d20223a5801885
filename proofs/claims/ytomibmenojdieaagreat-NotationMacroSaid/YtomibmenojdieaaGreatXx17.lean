/- Part 17 of 42 of a proof; its texts, joined: LxUb. No condition. -/
import Derived.Test.YtomibmenojdieaaGreatXx16
import Derived.Test.YtomibmenojdieaaGreatXx6
set_option maxRecDepth 100000
set_option maxHeartbeats 1000000
namespace Go.Proofs.YtomibmenojdieaaGreat
open Go.RowKit
attribute [local go_sem] Oper.semAt_some
def TokCut (w : World) (W : World) : Prop := ∃ p : Nat, Blk W w.heap.size 68 #[.slice none 0 0] ∧ Blk W (w.heap.size + 1) 3 #[.int .i64 p] ∧ Blk W (w.heap.size + 1 + 1) 28 #[.int .i64 6] ∧ Fresh w W
theorem TokCut.touch {S : Nat → Prop} {w W W' : World} (h : TokCut w W) (ht : Touch S W W') (hS : ∀ k, S k → w.heap.size + 1 + 1 < k) : TokCut w W' := by
 obtain ⟨p, h1, h2, h3, h4⟩ := h;exact ⟨p, ht.blk h1 (fun hk => by have := hS _ hk; omega), ht.blk h2 (fun hk => by have := hS _ hk; omega), ht.blk h3 (fun hk => by have := hS _ hk; omega), h4.trans' ht (fun k hk => .inr (by have := hS _ hk; omega))⟩
theorem cut_stores {w W : World} {B : Nat} {pre : List Lx.PTok} {v : Value} (h : TokInv w B pre v W) (p : Nat) :
  TokCut w (((W.setCell ⟨w.heap.size, 0, none⟩ (.slice none 0 0)).setCell ⟨w.heap.size + 1, 0, none⟩ (.int .i64 p)).setCell ⟨w.heap.size + 1 + 1, 0, none⟩ (.int .i64 6)) ∧
  Touch (fun k => k = w.heap.size ∨ k = w.heap.size + 1 ∨ k = w.heap.size + 1 + 1) W (((W.setCell ⟨w.heap.size, 0, none⟩ (.slice none 0 0)).setCell ⟨w.heap.size + 1, 0, none⟩ (.int .i64 p)).setCell ⟨w.heap.size + 1 + 1, 0, none⟩ (.int .i64 6)) := by
 have t1 := (((Touch.refl (fun k => k = w.heap.size ∨ k = w.heap.size + 1 ∨ k = w.heap.size + 1 + 1) W).setCell (p := ⟨w.heap.size, 0, none⟩) (.inl (.inl rfl)) (.slice none 0 0)).setCell (p := ⟨w.heap.size + 1, 0, none⟩) (.inl (.inr (.inl rfl))) (.int .i64 p)).setCell (p := ⟨w.heap.size + 1 + 1, 0, none⟩) (.inl (.inr (.inr rfl))) (.int .i64 6);have b1 := ((h.toks.put 0 (.slice none 0 0)).far (p := ⟨w.heap.size + 1, 0, none⟩) (by simp) (.int .i64 p)).far (p := ⟨w.heap.size + 1 + 1, 0, none⟩) (by simp; omega) (.int .i64 6);have b2 := ((h.at_.far (p := ⟨w.heap.size, 0, none⟩) (by simp) (.slice none 0 0)).put 0 (.int .i64 p)).far (p := ⟨w.heap.size + 1 + 1, 0, none⟩) (by simp) (.int .i64 6);have b3 := ((h.err.far (p := ⟨w.heap.size, 0, none⟩) (by simp; omega) (.slice none 0 0)).far (p := ⟨w.heap.size + 1, 0, none⟩) (by simp) (.int .i64 p)).put 0 (.int .i64 6);exact ⟨⟨p, b1, b2, b3, h.fresh.trans' t1 (fun k hk => .inr (by omega))⟩, t1⟩
theorem Tokens_over (s : ByteArray) (w : World) (hm : s.size ≤ 140737488355328) (hcount : 8000 < (Lx.lexAll s.data.toList).1.length) :
  Calls Tryz.prog 26 #[.string s] w (fun e w' => Fresh w w' ∧ ∃ p : Nat, e = .returned (.tuple #[.slice none 0 0, .int .i64 p, .int .i64 6])) := by
 obtain ⟨i0, hi, hz0, hz1, hz2⟩ := info_parts infoTok;refine callsIn_wide.1 (callsIn_of_wp_marks (F := Fence.wide) (n := 4) Tryz.func26 rfl trivial ?_ rfl);simp only [Tryz.ntmps26, List.size_toArray, List.length_cons, List.length_nil, Nat.reduceAdd, Nat.reduceSub, Array.replicate_succ, Array.replicate_zero, List.push_toArray, List.append_toArray, List.nil_append, List.cons_append];refine wpIn_wide.2 ?_;go_wp2_with fail
 refine (classes_any _).mono ?_;rintro e1 w1 ⟨rfl, hf1⟩;have hsz1 := hf1.size;simp only [World.size_alloc] at hsz1;have hT1 := hf1.blk ((Blk.new w 68 #[.slice none 0 0]).alloc _ |>.alloc _) (fun h => h);have hA1 := hf1.blk ((Blk.new2 w (.cells #[.slice none 0 0] 68) 3 #[.int .i64 0]).alloc _) (fun h => h);have hE1 : Blk w1 (w.heap.size + 1 + 1) 28 #[.int .i64 0] := hf1.blk (by have := Blk.new2 (w.alloc (.cells #[.slice none 0 0] 68)) (.cells #[.int .i64 0] 3) 28 #[.int .i64 0]; simpa using this) (fun h => h);have hfw : Fresh w w1 := (((Touch.refl (fun _ => False) w).alloc _).alloc _ |>.alloc _).trans hf1;have HT1 := hid hT1;have HA1 := hid hA1;have HE1 := hid hE1;have HFW := hid hfw;clear hf1 hT1 hA1 hE1 hfw
 go_wp2_with (refine wpList_build_lex s rfl _ _ rfl rfl rfl ?_)
 refine (tokens_any _ _).mono ?_;rintro e2 w2 ⟨rfl, rfl⟩;go_wp2_with fail
 obtain ⟨W0, hW0⟩ : ∃ W0, (w1.alloc (.cells (lexCells s 0 0 0) 102)).alloc (.cells #[.pointer (some ⟨w1.heap.size, 0, none⟩)] 98) = W0 := ⟨_, rfl⟩;rw [hW0];have hs0 : W0.heap.size ≤ w1.heap.size + 2 := by rw [← hW0]; simp
 have hs0' : w1.heap.size + 2 ≤ W0.heap.size := by rw [← hW0]; simp
 have hc0 : W0.cell? ⟨w1.heap.size + 1, 0, none⟩ = some (.pointer (some ⟨w1.heap.size, 0, none⟩)) := by rw [← hW0]; exact (Blk.new2 w1 _ 98 #[.pointer (some ⟨w1.heap.size, 0, none⟩)]).cell 0
 have hl0 : LexAt W0 w1.heap.size s 0 0 0 := by rw [← hW0]; exact (Blk.new w1 102 (lexCells s 0 0 0)).alloc _
 have hi0 : TokInv w (W0.heap.size + 2) [] (.slice none 0 0) W0 := by
  rw [← hW0];exact ⟨(HT1.out.alloc _).alloc _, (HA1.out.alloc _).alloc _, (HE1.out.alloc _).alloc _, World.ownsRow_nil _ _ _ _, (HFW.out.alloc _).alloc _⟩
 refine wp_range_cut (L := w1.heap.size) (c := w1.heap.size + 1) (s := s) rfl hm (by omega) hc0 hl0 (fun pre W => pre.length ≤ 8000 ∧ ∃ v, TokInv w (W0.heap.size + 2) pre v W) (TokCut w) (fun W W' h ht => h.touch ht (fun k hk => by omega)) ?_ ⟨Nat.zero_le _, _, hi0⟩ ?_ ?_ ?_
 ·rintro pre W W' ⟨hle, v, hv⟩ ht
  exact ⟨hle, v, hv.touch ht (fun k hk => by omega)⟩
 ·rintro pre x W ⟨hle, v, hv⟩ hsz hpre
  have HV := hid hv;clear hv hc0 hl0 hi0 HT1 HA1 HE1 HFW hW0;simp only [ptokV, List.setIfInBounds_toArray, List.set_cons_succ, List.set_cons_zero]
  gi_wp2
  refine ⟨((Touch.refl _ W).alloc _), ?_⟩;intro W2 ht2 hs2;have hv2 : TokInv w (W0.heap.size + 2) pre v W2 := ((HV.out.touch ((Touch.refl (fun _ => False) W).alloc _) (fun k hk => hk.elim)).touch ht2 (fun k hk => by omega));have htk : Blk W2 W.heap.size 107 #[.int .i64 x.kind, .string ⟨x.text.toArray⟩, .int .i64 x.from_, .int .i64 x.to_] := ht2.blk (Blk.new _ _ _) (by omega);have hln : pre.length + 1 ≤ (Lx.lexAll s.data.toList).1.length := by have := hpre.length_le; simpa using this
  obtain ⟨A, cap, rfl⟩ : ∃ A cap, v = .slice A pre.length cap := by
   rcases hv2.own.2 with ⟨h1, h2⟩ | ⟨g, cap, cur, h1, _⟩
   ·exact ⟨none, 0, by rw [h1, h2]⟩
   ·exact ⟨_, _, h1⟩
  have c1 := hv2.toks.cell 0;have f1 := hv2.toks.frozen 0;simp only [List.getElem?_toArray, List.getElem?_cons_zero] at c1;obtain ⟨q0, q1, q2, q3, z0, z1, z2, z3, hg⟩ := Blk.four htk;have hown := hv2.own;have hTl := hv2.toks.lt;have HV2 := hid hv2;have HTK := hid htk;have HT2 := hid ht2;have hs2' : W2.heap.size = W.heap.size + 1 := by simpa using hs2
  have HS2 := hid hs2';clear hv2 htk ht2 hs2 hs2' hpre
  by_cases h8 : pre.length = 8000
  ·have b1 : ((pre.length : Int) == 8000) = true := by rw [beq_iff_eq]; omega
   have c2 := HV2.out.at_.cell 0;have c3 := HV2.out.err.cell 0;have f4 := HV2.out.at_.frozen 0;have f5 := HV2.out.err.frozen 0;have l1 := HV2.out.toks.lt;have l2 := HV2.out.at_.lt;have l3 := HV2.out.err.lt;simp only [List.getElem?_toArray, List.getElem?_cons_zero] at c2 c3;obtain ⟨hcs, hct⟩ := cut_stores (W := W2.drew) (HV2.out.touch (S := fun _ => False) (Touch.refl _ W2).drew (fun k hk => hk.elim)) x.from_;have hct' := ((Touch.refl (fun k => k = w.heap.size ∨ k = w.heap.size + 1 ∨ k = w.heap.size + 1 + 1) W2).drew).trans hct;have HCS := hid hcs;have HCT := hid (hct'.mono (S' := NotOurs w1.heap.size (w1.heap.size + 1) W0.heap.size) (fun k hk => by unfold NotOurs; omega));clear hcs hct hct'
   gi_wp2
   refine wpIn_region_orders (by kernel_rfl) [[0, 1, 2, 3, 4], [0, 2, 1, 3, 4], [2, 0, 1, 3, 4]] (by kernel_rfl) ?_;intro od hod;simp only [List.mem_cons, List.not_mem_nil, or_false] at hod
   rcases hod with rfl | rfl | rfl
   all_goals
    simp only [List.filterMap_cons, List.filterMap_nil, List.getElem?_cons_zero, List.getElem?_cons_succ]
    gi_wp2
    exact ⟨HCT.out, HCS.out⟩
  have b1 : ((pre.length : Int) == 8000) = false := by rw [beq_eq_false_iff_ne]; omega
  gi_wp2_with (gi_at_builtin; refine wpListIn_append_own _ rfl _ _ 68 rfl (W0.heap.size + 2) 107 i0 _ 4 40 Tryz.underlying68 hi hz0 hz1 hz2 rfl (by decide) _ _ _ rfl (hown.alloc _) ⟨W2.heap.size, 0, none⟩ 1 1 (ptokCells x) rfl rfl ?c1 ?c2 ?c3 ?c4 ?c5 ?_)
  case c1 => exact news_of_blk (cs := (ptokCells x).toArray) (Blk.new W2 107 _)
  case c2 => intro u hu; simp only [ptokCells, List.mem_cons, List.not_mem_nil, or_false] at hu; rcases hu with rfl | rfl | rfl | rfl <;> rfl
  case c3 => unfold maxLen; omega
  case c4 => omega
  case c5 => have := HS2.out; simp; omega
  intro v' W3 hown' hgrow _;have ht3 : Touch (fun k => (Value.slice A pre.length cap).ownBlock = some k) W2 W3 := ((Touch.refl _ W2).alloc _).grown hgrow (fun g hg => .inl hg);have hbl : ∀ k, (Value.slice A pre.length cap).ownBlock = some k → W0.heap.size + 2 ≤ k := fun k hk => (hown.lt k hk).1
  have hT3 : Blk W3 w.heap.size 68 #[.slice A pre.length cap] := ht3.blk HV2.out.toks (fun hk => by have := hbl _ hk; omega);have d1 := hT3.cell 0;have e1 := hT3.frozen 0;simp only [List.getElem?_toArray, List.getElem?_cons_zero] at d1
  obtain ⟨g, cap', rfl⟩ : ∃ g cap', v' = .slice (some ⟨g, 0, none⟩) (pre.length + 1) cap' := by
   rcases hown'.2 with ⟨_, h0⟩ | ⟨g, cap', cur, hv, _⟩
   ·omega
   ·exact ⟨g, cap', hv⟩
  have hgl := (hown'.lt g rfl).1;have HO := hid hown';have HT3 := hid hT3;have HTT := hid ht3;have HBL := hid hbl;clear hown' hT3 ht3 hbl hown hgrow
  gi_wp2
  refine ⟨?_, ?_⟩
  ·refine Touch.setCell ?_ (p := ⟨w.heap.size, 0, none⟩) (.inl ⟨by simp; omega, by simp; omega, by simp; omega, by simp; omega⟩) _
   exact HTT.out.mono (fun k hk => by have := HBL.out k hk; exact ⟨by omega, by omega, by omega, by omega⟩)
  ·refine ⟨by simp; omega, .slice (some ⟨g, 0, none⟩) (pre.length + 1) cap', ?_, ?_, ?_, ?_, ?_⟩
   ·exact HT3.out.put 0 _
   ·exact (HTT.out.blk HV2.out.at_ (fun hk => by have := HBL.out _ hk; omega)).far (p := ⟨w.heap.size, 0, none⟩) (by simp) _
   ·exact (HTT.out.blk HV2.out.err (fun hk => by have := HBL.out _ hk; omega)).far (p := ⟨w.heap.size, 0, none⟩) (by simp; omega) _
   ·rw [List.length_append, List.flatMap_append]
    refine ownsRow_touch (S := (· = w.heap.size)) ?_ ((Touch.refl (· = w.heap.size) W3).setCell (p := ⟨w.heap.size, 0, none⟩) (.inl rfl) _) (fun k hk hs => by simp [Value.ownBlock] at hk; omega);simpa using HO.out
   ·exact (HV2.out.fresh.trans' HTT.out (fun k hk => .inr (by have := HBL.out k hk; omega))).setCell (p := ⟨w.heap.size, 0, none⟩) (.inr (Nat.le_refl _)) _
 ·rintro W ⟨hle, _⟩ _ _ _
  omega
 ·rintro W hX hd hsz
  obtain ⟨p, h1, h2, h3, h4⟩ := hX.touch (putObj_touch W W0.heap.size (.deferred none)) (fun k hk => by omega);have r1 := h1.cell 0;have r2 := h2.cell 0;have r3 := h3.cell 0;simp only [List.getElem?_toArray, List.getElem?_cons_zero] at r1 r2 r3;simp only [Exit.inBlock, Exit.then];refine ⟨by simp, .inl ⟨_, _, rfl, run_takeDeferred (b := W0.heap.size) (ds := []) hd, ?_⟩⟩;refine ⟨.tuple #[.slice none 0 0, .int .i64 p, .int .i64 6], by simp [results, Tryz.results26, go_sem, r1, r2, r3], ?_⟩;exact ⟨h4, p, rfl⟩
end Go.Proofs.YtomibmenojdieaaGreat
