/- Part 37 of 42 of a proof; its texts, joined: NyT, NzE, NzA, NzB, NzC, NzD. No condition. -/
import Derived.Test.YtomibmenojdieaaGreatXx36
import Derived.Test.YtomibmenojdieaaGreatXx22
import Derived.Test.YtomibmenojdieaaGreatXx34
import Derived.Test.YtomibmenojdieaaGreatXx30
import Derived.Test.YtomibmenojdieaaGreatXx8
set_option maxRecDepth 100000
set_option maxHeartbeats 4000000
namespace Go.Proofs.YtomibmenojdieaaGreat
open Go.RowKit
open Tr (Nd)
open Lx (PTok)
open Mcr (R)
attribute [local go_sem] stillV stillUpon
def ParseXE (w : World) (X : Nd × Nat × Nat) (e : Ending) (w' : World) : Prop := ∃ A cp, e = .returned (.tuple #[nv X.1 (.slice A X.1.kids.length cp), .int .i64 (X.2.1 : Int), .int .i64 (X.2.2 : Int)]) ∧ TreT w.heap.size w' X.1.kids (.slice A X.1.kids.length cp) ∧ Fresh w w'
theorem parseX_any (s : ByteArray) (tb : Mcr.Table) (tp : Option Addr) (w : World) (hT : TabV w w.heap.size tb (.pointer tp)) (hm : s.size ≤ 140737488355328) (hc : (Lx.lexAll s.data.toList).1.length ≤ 8000) : Calls Tryz.prog 7 #[.string s, .pointer tp] w fun e w' => ParseXE w (Mcr.parseF tb s.data.toList) e w' ∧ ∀ i er, Mcr.readS 0 tb s.data.toList = .err i er → er ≠ 0 := by
 have HP := hid (fun w' (hf : Fresh w w') => parse_any s 0 (by omega) tb tp w' ((hT.up hf.size).fresh hf) hm hc);have HN := hid (Mcr.readS_ends 0 tb s.data.toList);obtain ⟨R9, hR9⟩ : ∃ R9, R9 = Mcr.parseF tb s.data.toList := ⟨_, rfl⟩;rw [← hR9];unfold Mcr.parseF at hR9;have HPF := hid hR9;clear hR9;clear hm hc hT;refine Calls.via fun Q hQ => ?_
 have HQ := hid hQ;clear hQ;go_enter Tryz.func7, Tryz.ntmps7;go_wp2_with fail
 refine (HP.out _ ((Touch.refl _ _).alloc _)).mono ?_;intro e w2 hres;rw [HPF.out] at HQ;generalize Mcr.readS 0 tb s.data.toList = X at HQ HN hres;clear HP HPF;cases X with
 | out => exact absurd rfl HN.out
 | err i er =>
  obtain ⟨he0, rfl, hf⟩ := hres;have HE0 := hid he0;have e0 := fail_ne he0;have hb2 := hf.blk (Blk.new w 35 #[.int .i64 0, .string ⟨#[]⟩, .int .i64 0, .slice none 0 0]) (fun h => h);have hf2 : Fresh w w2 := Touch.pre hf;clear hf he0;unfold failV zeroN;go_wp2_with fail
  have hb3 := (hb2.alloc (.cells #[.int .i64 0, .string ⟨#[]⟩, .int .i64 0, .slice none 0 0] 35)).alloc (.cells #[.int .i64 (i : Int), .int .i64 (er : Int)] 48);have hf3 := (hf2.alloc (.cells #[.int .i64 0, .string ⟨#[]⟩, .int .i64 0, .slice none 0 0] 35)).alloc (.cells #[.int .i64 (i : Int), .int .i64 (er : Int)] 48);have h93 : Blk ((w2.alloc (.cells #[.int .i64 0, .string ⟨#[]⟩, .int .i64 0, .slice none 0 0] 35)).alloc (.cells #[.int .i64 (i : Int), .int .i64 (er : Int)] 48)) (w2.heap.size + 1) 48 #[.int .i64 (i : Int), .int .i64 (er : Int)] := Blk.new2 _ _ _ _;generalize ((w2.alloc (.cells #[.int .i64 0, .string ⟨#[]⟩, .int .i64 0, .slice none 0 0] 35)).alloc (.cells #[.int .i64 (i : Int), .int .i64 (er : Int)] 48)) = W3 at hb3 hf3 h93 ⊢;have HS2 := hid (show w.heap.size < w2.heap.size from hb2.lt);have HB3 := hid hb3;have HF3 := hid hf3;have H93 := hid h93;clear hb2 hf2 hb3 hf3 h93;refine wp_region_in (fun W => Blk W (w2.heap.size + 1) 48 #[.int .i64 (i : Int), .int .i64 (er : Int)] ∧ Blk W w.heap.size 35 #[.int .i64 0, .string ⟨#[]⟩, .int .i64 0, .slice none 0 0]) [(0, true), (1, true), (2, true), (3, true), (4, true), (5, false), (6, true), (7, true)] (by kernel_rfl) (fun _ _ d _ _ h => by cases d <;> exact h) (by kernel_rfl) ⟨H93.out.drewN 1, HB3.out.drewN 1⟩ ?_;refine wpSeq_plain rfl (fun K hK => ?_);rw [if_pos (by rfl)];refine ⟨.agg #[.int .i64 0, .string ⟨#[]⟩, .int .i64 0, .slice none 0 0], fun W hW => ?_, hK _ ?_⟩
  ·go_simp
  clear hK K;refine wpSeq_plain rfl (fun K hK => ?_);rw [if_pos (by rfl)];refine ⟨.pointer (some ⟨w2.heap.size + 1, 0, none⟩), fun W hW => ?_, hK _ ?_⟩
  ·go_simp
  clear hK K;refine wpSeq_plain rfl (fun K hK => ?_);rw [if_pos (by rfl)];refine ⟨.int .i64 (i : Int), fun W hW => ?_, hK _ ?_⟩
  ·obtain ⟨h1, _⟩ := hW
   obtain ⟨p0, p1, _⟩ := Blk.two h1;go_simp
  clear hK K;refine wpSeq_plain rfl (fun K hK => ?_);rw [if_pos (by rfl)];refine ⟨.pointer (some ⟨w2.heap.size + 1, 1, none⟩), fun W hW => ?_, hK _ ?_⟩
  ·go_simp
  clear hK K;refine wpSeq_plain rfl (fun K hK => ?_);rw [if_pos (by rfl)];refine ⟨.int .i64 (er : Int), fun W hW => ?_, hK _ ?_⟩
  ·obtain ⟨h1, _⟩ := hW
   obtain ⟨p0, p1, _⟩ := Blk.two h1;go_simp
  clear hK K;obtain ⟨p0, p1, p2, p3, y0, y1, y2, y3, hlt0⟩ := Blk.four (HB3.out.drewN 1);refine wpSeq_lone rfl (fun K hK => ?_);go_wp2_with fail
  have n1 := (HB3.out.drewN 1).self4 (.int .i64 0) (.string ⟨#[]⟩) (.int .i64 0) (.slice none 0 0);have n2 := (H93.out.drewN 1).far4 (L := w2.heap.size + 1) (g := w.heap.size) (by have := HS2.out; omega) (.int .i64 0) (.string ⟨#[]⟩) (.int .i64 0) (.slice none 0 0);have hm7 : Fresh w _ := (HF3.out.drewN 1).put4 (g := w.heap.size) (.inr (Nat.le_refl _)) (.int .i64 0) (.string ⟨#[]⟩) (.int .i64 0) (.slice none 0 0);simp only [put4] at n1 n2 hm7;generalize (World.setCell (World.setCell (World.setCell (World.setCell (W3.drewN 1) ⟨w.heap.size, 0, none⟩ _) ⟨w.heap.size, 1, none⟩ _) ⟨w.heap.size, 2, none⟩ _) ⟨w.heap.size, 3, none⟩ _) = W7 at n1 n2 hm7 ⊢;refine hK _ _ ⟨n2, n1⟩ ?_;clear hK K p0 p1 p2 p3 y0 y1 y2 y3 hlt0;refine wpSeq_plain rfl (fun K hK => ?_);rw [if_pos (by rfl)];refine ⟨.int .i64 (i : Int), fun W hW => ?_, hK _ ?_⟩
  ·go_simp
  clear hK K;refine wpSeq_plain rfl (fun K hK => ?_);rw [if_pos (by rfl)];refine ⟨.int .i64 (er : Int), fun W hW => ?_, hK _ ?_⟩
  ·go_simp
  clear hK K;refine wpSeq_end ?_;go_wp2_with fail
  obtain ⟨g0, g1, g2, g3, _⟩ := Blk.four n1
  (try simp only [Exit.inBlock, Exit.then])
  refine bodyPost_ret (v := .tuple #[.agg zeroN, .int .i64 (i : Int), .int .i64 (er : Int)]) (by simp [results, Tryz.results7, go_sem, g0, g1, g2, g3]) rfl ?_;exact HQ.out _ _ ⟨⟨none, 0, rfl, .nil _ _, hm7⟩, fun i er h => by cases h; exact HE0.out⟩
 | ok x rest =>
  obtain ⟨items, fits⟩ := x;simp only at HQ;obtain ⟨A, cp, rfl, htr, hf⟩ := hres;have hb2 := hf.blk (Blk.new w 35 #[.int .i64 0, .string ⟨#[]⟩, .int .i64 0, .slice none 0 0]) (fun h => h);have hf2 : Fresh w w2 := Touch.pre hf;have htr2 : TreT (w.heap.size + 1) w2 items (.slice A items.length cp) := htr.base (by simp);have HS2 := hid (show w.heap.size < w2.heap.size from hb2.lt);have hb3 := (hb2.alloc (.cells #[.int .i64 1, .string ⟨#[]⟩, .int .i64 0, .slice A items.length cp] 35)).alloc (.cells #[.int .i64 0, .int .i64 0] 48);have hf3 := (hf2.alloc (.cells #[.int .i64 1, .string ⟨#[]⟩, .int .i64 0, .slice A items.length cp] 35)).alloc (.cells #[.int .i64 0, .int .i64 0] 48);have h73 : Blk ((w2.alloc (.cells #[.int .i64 1, .string ⟨#[]⟩, .int .i64 0, .slice A items.length cp] 35)).alloc (.cells #[.int .i64 0, .int .i64 0] 48)) w2.heap.size 35 #[.int .i64 1, .string ⟨#[]⟩, .int .i64 0, .slice A items.length cp] := (Blk.new _ _ _).alloc _;have ht3 := htr2.fresh (((Touch.refl _ w2).alloc (.cells #[.int .i64 1, .string ⟨#[]⟩, .int .i64 0, .slice A items.length cp] 35)).alloc (.cells #[.int .i64 0, .int .i64 0] 48));have HB3 := hid hb3;have HF3 := hid hf3;have H73 := hid h73;have HT3 := hid ht3;clear hf htr hb2 hf2 htr2 hb3 hf3 h73 ht3;unfold failV;cases fits with
  | false =>
  obtain ⟨p0, p1, p2, p3, y0, y1, y2, y3, hlt0⟩ := Blk.four HB3.out;rw [if_pos (.inl rfl)] at HQ;go_wp2_with fail
  have n1 := HB3.out.self4 (.int .i64 0) (.string ⟨#[]⟩) (.int .i64 0) (.slice none 0 0);have hm7 : Fresh w _ := HF3.out.put4 (g := w.heap.size) (.inr (Nat.le_refl _)) (.int .i64 0) (.string ⟨#[]⟩) (.int .i64 0) (.slice none 0 0);obtain ⟨g0, g1, g2, g3, _⟩ := Blk.four n1;simp only [put4] at g0 g1 g2 g3 hm7
  (try simp only [Exit.inBlock, Exit.then])
  refine bodyPost_ret (v := .tuple #[.agg zeroN, .int .i64 0, .int .i64 6]) (by simp [results, Tryz.results7, go_sem, g0, g1, g2, g3]) rfl ?_;exact HQ.out _ _ ⟨⟨none, 0, rfl, .nil _ _, hm7⟩, fun i er h => by cases h⟩
  | true =>
  go_wp2_with fail
  generalize ((w2.alloc (.cells #[.int .i64 1, .string ⟨#[]⟩, .int .i64 0, .slice A items.length cp] 35)).alloc (.cells #[.int .i64 0, .int .i64 0] 48)) = W3 at HB3 HF3 H73 HT3 ⊢;refine (valid_all (Np.slot items) (.slice A items.length cp) W3 HT3.out.rep (Nat.zero_le _)).mono ?_;rintro _ w4 ⟨rfl, hf⟩;have HB4 := hid (hf.blk HB3.out fun h => h);have HF4 := hid (HF3.out.trans hf);have H74 := hid (hf.blk H73.out fun h => h);have HT4 := hid (HT3.out.fresh hf);clear hf;obtain ⟨p0, p1, p2, p3, y0, y1, y2, y3, hlt0⟩ := Blk.four HB4.out;cases hv : Tr.valid (Np.slot items) with
  | false =>
   go_wp2_with fail
   have n1 := HB4.out.self4 (.int .i64 0) (.string ⟨#[]⟩) (.int .i64 0) (.slice none 0 0);have hm7 : Fresh w _ := HF4.out.put4 (g := w.heap.size) (.inr (Nat.le_refl _)) (.int .i64 0) (.string ⟨#[]⟩) (.int .i64 0) (.slice none 0 0);obtain ⟨g0, g1, g2, g3, _⟩ := Blk.four n1;simp only [put4] at g0 g1 g2 g3 hm7
   (try simp only [Exit.inBlock, Exit.then])
   refine bodyPost_ret (v := .tuple #[.agg zeroN, .int .i64 0, .int .i64 6]) (by simp [results, Tryz.results7, go_sem, g0, g1, g2, g3]) rfl ?_;rw [if_pos (.inr hv)] at HQ;exact HQ.out _ _ ⟨⟨none, 0, rfl, .nil _ _, hm7⟩, fun i er h => by cases h⟩
  | true =>
   obtain ⟨s0, s1, s2, s3, _, _, _, _, hlt7⟩ := Blk.four H74.out;go_wp2_with fail
   have n1 := HB4.out.self4 (.int .i64 1) (.string ⟨#[]⟩) (.int .i64 0) (.slice A items.length cp);have hm7 : Fresh w _ := HF4.out.put4 (g := w.heap.size) (.inr (Nat.le_refl _)) (.int .i64 1) (.string ⟨#[]⟩) (.int .i64 0) (.slice A items.length cp);have htt := HT4.out.far (touch4 w4 w.heap.size (.int .i64 1) (.string ⟨#[]⟩) (.int .i64 0) (.slice A items.length cp)) (by omega);obtain ⟨g0, g1, g2, g3, _⟩ := Blk.four n1;simp only [put4] at g0 g1 g2 g3 hm7 htt
   (try simp only [Exit.inBlock, Exit.then])
   refine bodyPost_ret (v := .tuple #[.agg #[.int .i64 1, .string ⟨#[]⟩, .int .i64 0, .slice A items.length cp], .int .i64 0, .int .i64 0]) (by simp [results, Tryz.results7, go_sem, g0, g1, g2, g3]) rfl ?_;rw [if_neg (fun h => by rcases h with h | h; cases h; rw [hv] at h; cases h)] at HQ;exact HQ.out _ _ ⟨⟨A, cp, rfl, htt.base (by omega), hm7⟩, fun i er h => by cases h⟩
end Go.Proofs.YtomibmenojdieaaGreat
namespace Go.Proofs.YtomibmenojdieaaGreat
open Go.RowKit
open Tr (Nd)
def bothTree' : Nd := .mk 1 [] 0 [.mk 9 [] 0 [.mk 1 [] 0 [.mk 2 [120] 0 []], .mk 1 [] 0 [.mk 3 [49] 0 []], .mk 1 [] 0 [.mk 3 [50] 0 []]]]
theorem both_parse : Mcr.parseF [] [120, 94, 50, 95, 49] = (bothTree', 0, 0) := by kernel_rfl
theorem open_parse : Mcr.parseF [] [40, 97, 93] = (Mcr.nilNd, 2, 3) := by kernel_rfl
theorem both_dump : dumpT bothTree' = [114, 111, 119, 40, 98, 111, 116, 104, 40, 114, 111, 119, 40, 115, 121, 109, 58, 34, 120, 34, 41, 32, 114, 111, 119, 40, 110, 117, 109, 58, 34, 49, 34, 41, 32, 114, 111, 119, 40, 110, 117, 109, 58, 34, 50, 34, 41, 41, 41] := by kernel_rfl
theorem both_ok : dumpOK bothTree' = true := by kernel_rfl
theorem both_first (w : World) : Calls Tryz.prog 7 #[.string ⟨#[120, 94, 50, 95, 49]⟩, .pointer none] w fun e w' =>
  ∃ A cap, e = .returned (.tuple #[.agg #[.int .i64 1, .string ⟨#[]⟩, .int .i64 0, .slice A 1 cap], .int .i64 0, .int .i64 0]) ∧ RepL w' bothTree'.kids (.slice A 1 cap) ∧ Fresh w w' := by
 have h := parseX_any ⟨#[120, 94, 50, 95, 49]⟩ [] none w (.inl ⟨rfl, rfl⟩) (by decide) (by show (Lx.lexAll [120, 94, 50, 95, 49]).1.length ≤ 8000; decide +kernel);have e0 : (⟨#[120, 94, 50, 95, 49]⟩ : ByteArray).data.toList = [120, 94, 50, 95, 49] := rfl;rw [e0, both_parse] at h;refine h.mono ?_;rintro _ w' ⟨⟨A, cap, rfl, ht, hf⟩, _⟩;exact ⟨A, cap, rfl, ht.rep, hf⟩
theorem both_second (w : World) : Calls Tryz.prog 7 #[.string ⟨#[40, 97, 93]⟩, .pointer none] w fun e w' =>
  ∃ A cap, e = .returned (.tuple #[.agg #[.int .i64 0, .string ⟨#[]⟩, .int .i64 0, .slice A 0 cap], .int .i64 2, .int .i64 3]) ∧ Fresh w w' := by
 have h := parseX_any ⟨#[40, 97, 93]⟩ [] none w (.inl ⟨rfl, rfl⟩) (by decide) (by show (Lx.lexAll [40, 97, 93]).1.length ≤ 8000; decide +kernel);have e0 : (⟨#[40, 97, 93]⟩ : ByteArray).data.toList = [40, 97, 93] := rfl;rw [e0, open_parse] at h;refine h.mono ?_;rintro _ w' ⟨⟨A, cap, rfl, _, hf⟩, _⟩;exact ⟨A, cap, rfl, hf⟩
theorem awake20_any (w : World) : Calls Tryz.prog 4 #[] w fun e w' => e = .returned (.bool true) ∧ Fresh w w' := by
 go_enter Tryz.func4, Tryz.ntmps4;go_wp2_with fail
 refine (both_first _).mono ?_;rintro _ w1 ⟨A, cap, rfl, hr, hf1⟩;have HF1 := hid hf1;have HR1 := hid hr;have HB1 := hid (Blk.new w1 35 #[.int .i64 1, .string ⟨#[]⟩, .int .i64 0, .slice A 1 cap]);clear hf1 hr;go_wp2_with fail
 refine (both_second _).mono ?_;rintro _ w2 ⟨B, cap2, rfl, hf2⟩;have HF2 := hid ((HF1.out.alloc (.cells #[.int .i64 1, .string ⟨#[]⟩, .int .i64 0, .slice A 1 cap] 35)).trans hf2);have HR2 := hid (HR1.out.fresh (((Touch.refl _ w1).alloc (.cells #[.int .i64 1, .string ⟨#[]⟩, .int .i64 0, .slice A 1 cap] 35)).trans hf2));have HB2 := hid (hf2.blk HB1.out fun h => h);clear hf2 HB1 HF1 HR1;obtain ⟨p0, p1, p2, p3, _, _, _, _, hlt⟩ := Blk.four HB2.out;go_wp2_with fail
 refine (dump_any _ bothTree' _ _ (Nat.le_refl _) (HR2.out.fresh ((Touch.refl _ _).alloc _)) both_ok (by rw [both_dump]; decide)).mono ?_;rintro _ w3 ⟨rfl, hf3⟩;have HF3 := hid ((HF2.out.alloc _).trans hf3);rw [both_dump];clear hf3 p0 p1 p2 p3 hlt;go_wp2_with fail
 go_ret;exact ⟨rfl, HF3.out⟩
end Go.Proofs.YtomibmenojdieaaGreat
namespace Go.Proofs.YtomibmenojdieaaGreat
open Go.RowKit
open Tr (Nd)
open Lx (PTok)
attribute [local go_sem] stillV stillUpon
theorem infoStrA : (Tryz.prog.info? 9).map (fun i => (i.zero, i.size, i.bytes)) = some (some (.string ⟨#[]⟩), 1, 16) := by kernel_rfl
def nameVs (tb : Mcr.Table) : List Value := tb.map fun m => .string ⟨m.name.toArray⟩
structure TabO (W0 W : World) (tb : Mcr.Table) (gt bm : Nat) (nv : Value) (sls : Nat → Value) : Prop where
 tab : TabAt W (gt + bm + 1) tb gt bm nv sls
 own : W.ownsRow W0.heap.size 9 1 nv tb.length (nameVs tb)
 fr : Fresh W0 W
 g0 : W0.heap.size ≤ gt
 b0 : W0.heap.size ≤ bm
theorem TabO.fresh {W0 W W' : World} {tb : Mcr.Table} {gt bm : Nat} {nv : Value} {sls : Nat → Value} (h : TabO W0 W tb gt bm nv sls) (hf : Fresh W W') : TabO W0 W' tb gt bm nv sls :=
 ⟨h.tab.fresh hf, ownsRow_touch h.own hf (fun _ _ h => h), h.fr.trans hf, h.g0, h.b0⟩
theorem TabO.val {W0 W : World} {tb : Mcr.Table} {gt bm : Nat} {nv : Value} {sls : Nat → Value} (h : TabO W0 W tb gt bm nv sls) : TabV W W.heap.size tb (.pointer (some ⟨gt, 0, none⟩)) :=
 .inr ⟨gt, bm, nv, sls, rfl, h.tab.blk, h.tab.map, h.tab.tree, h.tab.txt, Nat.ne_of_lt h.tab.blk.lt, Nat.ne_of_lt (Array.getElem?_eq_some_iff.1 h.tab.map).1⟩
theorem newTab_any (w : World) : Calls Tryz.prog 12 #[] w fun e w' => ∃ gt bm, e = .returned (.pointer (some ⟨gt, 0, none⟩)) ∧ TabO w w' [] gt bm (.slice none 0 0) (fun _ => .slice none 0 0) := by
 have hmm : ∀ W : World, (Instr.makeMap 55 none).run Tryz.prog W = .ok (.map (some W.heap.size)) (W.alloc (.map #[] 0)) := fun W => run_makeMap_plain W 55
 go_enter Tryz.func12, Tryz.ntmps12;go_wp2_with fail
 go_ret;refine ⟨w.heap.size + 1, w.heap.size, by simp, ⟨Blk.new2 w (.map #[] 0) 57 #[.slice none 0 0, .map (some w.heap.size)], ?_, fun i hi => absurd hi (Nat.not_lt_zero _), fun m hm => (by cases hm), by omega, by omega⟩, World.ownsRow_nil _ _ _ _, ((Touch.refl _ w).alloc _).alloc _, by omega, Nat.le_refl _⟩;rw [heap_alloc_old _ _ (by simp)];exact heap_alloc_new w _
theorem run_insert_mac {w : World} {bm : Nat} {tb : Mcr.Table} {sls : Nat → Value} (hb : w.heap[bm]? = some (.map (macEs tb sls).toArray tb.length)) (m : Mcr.Mac) (sl : Value) (hn : Mcr.getF tb m.name = none) :
  (Instr.mapUpdate 55 (.map (some bm)) (.string ⟨m.name.toArray⟩) (macV m sl)).run Tryz.prog w = .ok () { w with heap := w.heap.setIfInBounds bm (.map (macEs (tb ++ [m]) fun i => if i < tb.length then sls i else sl).toArray (tb ++ [m]).length) } := by
 have hc : (Instr.checkKey false 10000 9 (.string ⟨m.name.toArray⟩)).run Tryz.prog w = .ok () w := MapKept.run_checkKey (k := .string ⟨m.name.toArray⟩) Tryz.underlying9 (by simp [MapKept.IsKey]) false 9999;obtain ⟨j, hj⟩ := findNow_mac m.name tb sls;have hz := find_zip m.name tb 0;rw [hn] at hz
 have hx : (tb.zipIdx.find? fun x => x.1.name == m.name) = none := by
  cases h : tb.zipIdx.find? fun x => x.1.name == m.name with
  | none => rfl
  | some x => rw [h] at hz; cases hz
 rw [hx] at hj
 have he : macEs tb sls ++ [(⟨.string ⟨m.name.toArray⟩, macV m sl, tb.length⟩ : MapEntry)] = macEs (tb ++ [m]) fun i => if i < tb.length then sls i else sl := by
  unfold macEs;rw [List.zipIdx_append, List.map_append];refine congr (congrArg HAppend.hAppend ?_) ?_
  ·apply List.map_congr_left
   intro x hx;obtain ⟨hi, _⟩ := zip_mem hx;show _ = (⟨_, macV x.1 (if x.2 < tb.length then sls x.2 else sl), _⟩ : MapEntry);rw [if_pos hi]
  ·simp
 simp [Instr.mapUpdate, run_underlying Tryz.underlying55, MapKept.run_getObj_map hb, hc, MapKept.run_findKey Tryz.underlying9 hj, MapKept.run_setObj_map _ hb, Result.andThen]
 rw [← he]
theorem touch_obj (w : World) (b : Nat) (o : Obj) : Touch (fun k => k = b) w { w with heap := w.heap.setIfInBounds b o } :=
 ⟨rfl, rfl, rfl, by simp, fun k hk hn => by
  show (w.heap.setIfInBounds b o)[k]? = _;rw [Array.getElem?_setIfInBounds_ne (fun h => hn h.symm)]⟩
theorem obj_at {w : World} {b : Nat} (o : Obj) (hb : b < w.heap.size) : ({ w with heap := w.heap.setIfInBounds b o } : World).heap[b]? = some o := by
 show (w.heap.setIfInBounds b o)[b]? = _;rw [Array.getElem?_setIfInBounds_self, if_pos hb]
theorem TabAt.ne {W : World} {g gt bm : Nat} {tb : Mcr.Table} {nv : Value} {sls : Nat → Value} (h : TabAt W g tb gt bm nv sls) : bm ≠ gt := fun e => by
 have h1 := h.map;have h2 := h.blk;unfold Blk at h2;rw [e, h2] at h1;cases h1
theorem own_tab {W : World} {g gt bm B n : Nat} {tb : Mcr.Table} {nv v : Value} {xs : List Value} {sls : Nat → Value} (h : TabAt W g tb gt bm nv sls) (ho : W.ownsRow B 9 1 v n xs) : ∀ b, v.ownBlock = some b → b ≠ gt ∧ b ≠ bm := fun b hb => by
 obtain ⟨_, cur, h2⟩ := owns_type ho hb;refine ⟨fun e => ?_, fun e => ?_⟩
 ·have h1 := h.blk
  unfold Blk at h1;rw [← e, h2] at h1;cases h1
 ·have h1 := h.map
  rw [← e, h2] at h1;cases h1
theorem TabAt.grown {W W2 : World} {g gt bm B n : Nat} {tb : Mcr.Table} {nv v : Value} {xs : List Value} {sls : Nat → Value} (h : TabAt W g tb gt bm nv sls) (ho : W.ownsRow B 9 1 v n xs) (hg : W.grownBy W2 v.ownBlock) : TabAt W2 g tb gt bm nv sls :=
 h.mv ((Touch.refl (fun b => v.ownBlock = some b) _).grown hg fun b hb => .inl hb) (fun hs => (own_tab h ho _ hs).1 rfl) (fun hs => (own_tab h ho _ hs).2 rfl) (fun k cs fr hk e => by
  obtain ⟨_, cur, h2⟩ := owns_type ho hk;rw [h2] at e;cases e) h.ng h.nm
theorem TabAt.put0 {W : World} {g gt bm : Nat} {tb : Mcr.Table} {nv : Value} {sls : Nat → Value} (h : TabAt W g tb gt bm nv sls) (v : Value) : TabAt (W.setCell ⟨gt, 0, none⟩ v) g tb gt bm v sls := by
 have ht : Touch (fun k => k = gt) W (W.setCell ⟨gt, 0, none⟩ v) := (Touch.refl (fun k => k = gt) W).setCell (p := ⟨gt, 0, none⟩) (.inl rfl) _;refine ⟨h.blk.put 0 v, (ht.block bm (Array.getElem?_eq_some_iff.1 h.map).1 h.ne).trans h.map, fun i hi => (h.tree i hi).mv ht fun k cs fr hk _ e => ?_, h.txt, h.ng, h.nm⟩;have h2 := h.blk;unfold Blk at h2;rw [show k = gt from hk, h2] at e;cases e
theorem TabAt.insert {W : World} {g gt bm : Nat} {tb : Mcr.Table} {nv : Value} {sls : Nat → Value} (h : TabAt W g tb gt bm nv sls) (m : Mcr.Mac) (sl : Value) (ht : TreT 0 W m.tree.kids sl) (hm : m.tree.text.length ≤ maxLen ∧ m.params ≤ 4 ∧ Tr.count m.tree ≤ 1000) :
  TabAt { W with heap := W.heap.setIfInBounds bm (.map (macEs (tb ++ [m]) fun i => if i < tb.length then sls i else sl).toArray (tb ++ [m]).length) } g (tb ++ [m]) gt bm nv (fun i => if i < tb.length then sls i else sl) := by
 have hT := touch_obj W bm (.map (macEs (tb ++ [m]) fun i => if i < tb.length then sls i else sl).toArray (tb ++ [m]).length)
 have hN : ∀ k cs fr, k = bm → 0 ≤ k → W.heap[k]? ≠ some (.cells cs 35 fr) := fun k cs fr hk _ e => by
  rw [hk, h.map] at e;cases e
 refine ⟨hT.blk h.blk h.ne.symm, obj_at _ (Array.getElem?_eq_some_iff.1 h.map).1, fun i hi => ?_, fun x hx => ?_, h.ng, h.nm⟩
 ·by_cases hl : i < tb.length
  ·rw [List.getElem_append_left hl]
   show TreT 0 _ _ (if i < tb.length then sls i else sl);rw [if_pos hl];exact (h.tree i hl).mv hT hN
  ·rw [List.getElem_append_right (by omega)]
   show TreT 0 _ _ (if i < tb.length then sls i else sl);rw [if_neg hl];simp only [List.getElem_singleton];exact ht.mv hT hN
 ·rcases List.mem_append.1 hx with h1 | h1
  ·exact h.txt x h1
  ·rw [List.mem_singleton.1 h1]; exact hm
end Go.Proofs.YtomibmenojdieaaGreat
namespace Go.Proofs.YtomibmenojdieaaGreat
open Go.RowKit
open Tr (Nd)
open Lx (PTok)
open Mcr (templF addF)
attribute [local go_sem] stillV stillUpon
theorem map_eql (bm : Nat) (W : World) : (binOp .eql 55 (.map (some bm)) (.map none)).run Tryz.prog W = .ok (.bool false) W := by
 first | kernel_rfl | simp [binOp, run_underlying Tryz.underlying55]
def AddE (W0 : World) (gt bm : Nat) (X : Mcr.Table × Nat) (e : Ending) (W' : World) : Prop := e = .returned (.int .i64 (X.2 : Int)) ∧ ∃ nv sls, TabO W0 W' X.1 gt bm nv sls
theorem add_any (W0 W : World) (tb : Mcr.Table) (gt bm : Nat) (nr : Value) (sls : Nat → Value) (h : TabO W0 W tb gt bm nr sls) (s : ByteArray) (P : Nat) (hP : P ≤ 4) (n : Nd) (sl : Value) (hr : TreT 0 W n.kids sl) (ht : n.text.length ≤ maxLen) (hs : s.size ≤ 140737488355328) :
  Calls Tryz.prog 25 #[.pointer (some ⟨gt, 0, none⟩), .string s, .int .i64 (P : Int), nv n sl] W (AddE W0 gt bm (addF tb s.data.toList P n)) := by
 obtain ⟨A, cap, rfl⟩ := hr.slice;obtain ⟨An, cn, rfl⟩ := own_slc h.own;have hsz : s.data.toList.length = s.size := by simp
 have HADD := hid (show addF tb s.data.toList P n = if s.data.toList.length < 2 ∨ Tr.symbol s.data.toList = false ∨ templF n P = false then (tb, 1) else if (Mcr.getF tb s.data.toList).isSome then (tb, 9) else if 64 ≤ tb.length then (tb, 6) else (tb ++ [⟨s.data.toList, P, n⟩], 0) from rfl);have HF0 := hid ((Touch.refl (fun _ => False) W).alloc (.cells #[.int .i64 n.kind, .string ⟨n.text.toArray⟩, .int .i64 n.cols, .slice A n.kids.length cap] 35));have HB0 := hid (Blk.new W 35 #[.int .i64 n.kind, .string ⟨n.text.toArray⟩, .int .i64 n.cols, .slice A n.kids.length cap]);have HTB := hid (h.fresh HF0.out);have HR := hid (hr.fresh HF0.out);have HSY := hid (fun W' => symbol_any s W' (by omega));have HTE := hid (fun W' (hr : RepL W' n.kids (.slice A n.kids.length cap)) => templ_any n _ P W' hr ht);have HTL := hid ht;have HSZ := hid hs;have HPP := hid hP;have hgl := HTB.out.tab.blk.lt;have hgO := h.g0;have hbO := h.b0;rw [hsz] at HADD;clear h hr ht;unfold nv;refine Calls.via fun Q hQ => ?_
 have HQ := hid hQ;clear hQ
 by_cases c1 : s.size < 2
 ·have d1 : decide ((s.size : Int) < 2) = true := dT (by omega)
  have d1n : decide (s.size < 2) = true := dT c1;have d1' : (s.size : Int) < 2 := by omega
  rw [HADD.out, if_pos (.inl c1)] at HQ;go_enter Tryz.func25, Tryz.ntmps25;go_wp2_with fail
  exact HQ.out _ _ ⟨rfl, _, _, HTB.out⟩
 have d1 : decide ((s.size : Int) < 2) = false := dF (by omega);have d1n : decide (s.size < 2) = false := dF c1;have d1' : ¬ (s.size : Int) < 2 := by omega
 go_enter Tryz.func25, Tryz.ntmps25;go_wp2_with fail
 refine (HSY.out _).mono ?_;rintro _ W1 ⟨rfl, rfl⟩;cases hy : Tr.symbol s.data.toList with
 | false =>
  rw [HADD.out, if_pos (.inr (.inl hy))] at HQ;go_wp2_with fail
  exact HQ.out _ _ ⟨rfl, _, _, HTB.out⟩
 | true =>
  obtain ⟨p0, p1, p2, p3, _, _, _, _, hlt⟩ := Blk.four HB0.out;go_wp2_with fail
  refine (HTE.out _ HR.out.rep).mono ?_;rintro _ W1 ⟨rfl, hf1⟩;have HTB1 := hid (HTB.out.fresh hf1);have HR1 := hid (HR.out.fresh hf1);have HB1 := hid (hf1.blk HB0.out fun h => h);clear hf1 HTB HR HB0 p0 p1 p2 p3 hlt;cases ht : templF n P with
  | false =>
   rw [HADD.out, if_pos (.inr (.inr ht))] at HQ;go_wp2_with fail
   exact HQ.out _ _ ⟨rfl, _, _, HTB1.out⟩
  | true =>
   have HCN := hid (show Tr.count n ≤ 1000 from Mcr.templ_cnt ht);rw [if_neg (by rintro (h | h | h); exact c1 h; rw [hy] at h; cases h; rw [ht] at h; cases h)] at HADD;have q0 := HTB1.out.tab.blk.cell 0;have q1 := HTB1.out.tab.blk.cell 1;have hlg := HTB1.out.tab.blk.lt
   rcases run_macro HTB1.out.tab s.data.toList with ⟨m, i, e1, hi, e2, e3⟩ | ⟨e1, e3⟩
   ·rw [show (⟨s.data.toList.toArray⟩ : ByteArray) = s by simp] at e3
    have HX := hid (show addF tb s.data.toList P n = (tb, 9) from by rw [HADD.out, e1]; rfl);rw [HX.out] at HQ;unfold macV at e3;have htr := HTB1.out.tab.tree i hi;rw [e2] at htr;obtain ⟨A6, c6, hsl⟩ := htr.slice;rw [hsl] at e3;clear e1 e2 htr hsl;go_wp2_with fail
    exact HQ.out _ _ ⟨rfl, _, _, HTB1.out.fresh ((Touch.refl _ _).alloc _)⟩
   ·rw [show (⟨s.data.toList.toArray⟩ : ByteArray) = s by simp] at e3
    rw [e1] at HADD;have hbm := map_eql bm
    by_cases c2 : 64 ≤ tb.length
    ·have d2 : decide ((64 : Int) ≤ (tb.length : Int)) = true := dT (by omega)
     have d2n : decide (64 ≤ tb.length) = true := dT c2;have d2' : (64 : Int) ≤ (tb.length : Int) := by omega
     have HX := hid (show addF tb s.data.toList P n = (tb, 6) from by rw [HADD.out]; exact if_pos c2);rw [HX.out] at HQ;go_wp2_with fail
     exact HQ.out _ _ ⟨rfl, _, _, HTB1.out.fresh ((Touch.refl _ _).alloc _)⟩
    ·have d2 : decide ((64 : Int) ≤ (tb.length : Int)) = false := dF (by omega)
     have d2n : decide (64 ≤ tb.length) = false := dF c2;have d2' : ¬ (64 : Int) ≤ (tb.length : Int) := by omega
     have HX := hid (show addF tb s.data.toList P n = (tb ++ [⟨s.data.toList, P, n⟩], 0) from by rw [HADD.out]; exact if_neg c2);rw [HX.out] at HQ;have HNO := hid e1;obtain ⟨i, hi, hz0, hz1, hz2⟩ := info_parts infoStrA;have HF2 := hid (show Fresh W1 ((W1.alloc (.cells #[.int .i64 0, .int .i64 0, .string ⟨#[]⟩, .int .i64 0, .slice none 0 0] 53)).alloc (.cells #[.string s] 9)) from ((Touch.refl _ W1).alloc _).alloc _);have HTB2 := hid (HTB1.out.fresh HF2.out);have HBS := hid (Blk.new2 W1 (.cells #[.int .i64 0, .int .i64 0, .string ⟨#[]⟩, .int .i64 0, .slice none 0 0] 53) 9 #[.string s]);have HL := hid (show tb.length < 64 by omega)
     go_wp2_with (at_builtin; go_loud (refine wpList_append_src _ rfl (.tmp 56) (.tmp 58) 23 rfl W0.heap.size 9 i _ 1 16 rfl hi hz0 hz1 hz2 rfl (by decide) (.slice An tb.length cn) tb.length (nameVs tb) (by simp [Act.eval]) HTB2.out.own (.slice (some ⟨W1.heap.size + 1, 0, none⟩) 1 1) 1 [.string s] (by simp [Act.eval]) (Src.of_blk HBS.out rfl) (by intro u hu; simp at hu; rw [hu]; rfl) (by have := HL.out; unfold maxLen; omega) (by have := HL.out; omega) HTB2.out.fr.size ?_); intro v8 W8 ho8 hg8 hv8; refine Stay.mk ?_)
     have HA8 := hid (HTB2.out.tab.grown HTB2.out.own hg8);have HO8 := hid ho8;have HT8 := hid (show Touch (fun b => (Value.slice An tb.length cn).ownBlock = some b) W1 W8 from (HF2.out.mono fun _ h => h.elim).trans ((Touch.refl (fun b => (Value.slice An tb.length cn).ownBlock = some b) _).grown hg8 fun b hb => .inl hb));have HFR8 := hid (show Fresh W0 W8 from HTB2.out.fr.grown hg8 fun b hb => .inr (HTB2.out.own.lt b hb).1)
     have HTY := hid (show ∀ b, (Value.slice An tb.length cn).ownBlock = some b → ∀ cs fr, W1.heap[b]? ≠ some (.cells cs 35 fr) from fun b hb cs fr e => by
      obtain ⟨_, cur, h2⟩ := owns_type HTB1.out.own hb;rw [h2] at e;cases e)
     have HB8 := hid (HT8.out.blk HB1.out fun hb => HTY.out _ hb _ _ HB1.out);have HR8 := hid (HR1.out.mv HT8.out fun b cs fr hb _ e => HTY.out _ hb _ _ e);obtain ⟨A8, c8, rfl⟩ := own_slc ho8;clear ho8 hg8 hv8 HT8 HTY HB1 HR1 HTB1 HTB2 HF2 HBS q0 q1 hlg;have q0 := HA8.out.blk.cell 0;have q1 := HA8.out.blk.cell 1;have z0 := HA8.out.blk.frozen 0;have hlg := HA8.out.blk.lt;refine Stay.go ?_;go_wp2_with fail
     have ht9 : Touch (fun k => k = gt) W8 (W8.setCell ⟨gt, 0, none⟩ (.slice A8 (tb.length + 1) c8)) := (Touch.refl (fun k => k = gt) W8).setCell (p := ⟨gt, 0, none⟩) (.inl rfl) _;have HA9 := hid (HA8.out.put0 (.slice A8 (tb.length + 1) c8));have HO9 := hid (ownsRow_touch HO8.out ht9 fun b hb hs => (own_tab HA8.out HO8.out b hb).1 hs);have HFR9 := hid (HFR8.out.trans' ht9 fun k hk => .inr (by rw [show k = gt from hk]; exact hgO))
     have HTY := hid (show ∀ k, k = gt → ∀ cs fr, W8.heap[k]? ≠ some (.cells cs 35 fr) from fun k hk cs fr e => by
      have h2 := HA8.out.blk;unfold Blk at h2;rw [hk, h2] at e;cases e)
     have HB9 := hid (ht9.blk HB8.out fun hk => HTY.out _ hk _ _ HB8.out);have HR9 := hid (HR8.out.mv ht9 fun b cs fr hb _ e => HTY.out _ hb _ _ e);clear ht9 HTY q0 q1 z0 hlg HA8 HO8 HFR8 HB8 HR8;generalize W8.setCell ⟨gt, 0, none⟩ (.slice A8 (tb.length + 1) c8) = W9 at HA9 HO9 HFR9 HB9 HR9 ⊢;obtain ⟨p0, p1, p2, p3, _, _, _, _, hlt⟩ := Blk.four HB9.out;have q1 := HA9.out.blk.cell 1;have hlg := HA9.out.blk.lt;have r0 := cR (p0.trans rfl);have r1 := cR (p1.trans rfl);have r2 := cR (p2.trans rfl);have r3 := cR (p3.trans rfl);have r4 := cR (q1.trans rfl);clear p0 p1 p2 p3 q1;refine wp_region_mix [([(0, true), (1, true), (2, true), (3, true), (4, true), (5, true), (6, true), (7, false), (8, true)], 9)] [] (by kernel_rfl) (fun _ _ d _ _ h => by cases d <;> exact h) (by kernel_rfl) ?_;refine wpMix_seg ?_
     repeat (refine wpSeq_plain rfl (fun K hK => ?_); go_simp; refine hK _ ?_; clear hK K)
     refine wpSeq_lone rfl (fun K hK => ?_);go_wp2_with fail
     refine (dnode_any n (.slice A n.kids.length cap) (W9.drewN 1) (by have := HCN.out; omega) (HR9.out.rep.fresh ((Touch.refl _ W9).drewN 1))).mono ?_;rintro _ wa ⟨sl2, rfl, ht2, hf2⟩;have hf := Touch.ofN hf2;have HAa := hid (HA9.out.fresh hf);have HOa := hid (ownsRow_touch HO9.out hf fun _ _ h => h);have HFRa := hid (HFR9.out.trans hf);have HTa := hid (ht2.base (B' := 0) (Nat.zero_le _));obtain ⟨A2, c2, rfl⟩ := ht2.slice;have hfk := growing_fresh hf;clear ht2 hf2 hf;unfold nv;go_wp2_with fail
     refine hK _ _ hfk ?_;clear hK K hfk r0 r1 r2 r3 r4 hlt hlg
     repeat (refine wpSeq_plain rfl (fun K hK => ?_); go_simp; refine hK _ ?_; clear hK K)
     have hins := run_insert_mac HAa.out.map ⟨s.data.toList, P, n⟩ (.slice A2 n.kids.length c2) HNO.out;unfold macV at hins;simp only at hins;rw [show (⟨s.data.toList.toArray⟩ : ByteArray) = s by simp] at hins;have HAb := hid (HAa.out.insert ⟨s.data.toList, P, n⟩ (.slice A2 n.kids.length c2) HTa.out ⟨HTL.out, HPP.out, HCN.out⟩);have htb := touch_obj wa bm (.map (macEs (tb ++ [⟨s.data.toList, P, n⟩]) fun i => if i < tb.length then sls i else .slice A2 n.kids.length c2).toArray (tb ++ [(⟨s.data.toList, P, n⟩ : Mcr.Mac)]).length);have HOb := hid (ownsRow_touch HOa.out htb fun b hb hs => (own_tab HAa.out HOa.out b hb).2 hs);have HFRb := hid (HFRa.out.trans' htb fun k hk => .inr (by rw [show k = bm from hk]; exact hbO));clear htb;generalize ({ wa with heap := wa.heap.setIfInBounds bm (.map (macEs (tb ++ [⟨s.data.toList, P, n⟩]) fun i => if i < tb.length then sls i else .slice A2 n.kids.length c2).toArray (tb ++ [(⟨s.data.toList, P, n⟩ : Mcr.Mac)]).length) } : World) = wb at hins HAb HOb HFRb;refine wpSeq_shut rfl (fun K hK => ?_);go_wp2_with fail
     refine wpMix_end ?_;go_wp2_with fail
     refine HQ.out _ _ ⟨rfl, _, _, HAb.out, ?_, HFRb.out, hgO, hbO⟩;have h := HOb.out;rw [show (tb ++ [(⟨s.data.toList, P, n⟩ : Mcr.Mac)]).length = tb.length + 1 by simp];unfold nameVs at h ⊢;rw [List.map_append];simp only [List.map_cons, List.map_nil];rw [show (⟨s.data.toList.toArray⟩ : ByteArray) = s by simp];exact h
end Go.Proofs.YtomibmenojdieaaGreat
namespace Go.Proofs.YtomibmenojdieaaGreat
open Go.RowKit
open Tr (Nd)
open Lx (PTok)
open Mcr (templF addF R)
attribute [local go_sem] stillV stillUpon
theorem Blk.three {w : World} {g : Nat} {t : TypeId} {x0 x1 x2 : Value} (h : Blk w g t #[x0, x1, x2]) :
  w.cell? ⟨g, 0, none⟩ = some x0 ∧ w.cell? ⟨g, 1, none⟩ = some x1 ∧ w.cell? ⟨g, 2, none⟩ = some x2 ∧ g < w.heap.size := ⟨h.cell 0, h.cell 1, h.cell 2, h.lt⟩
def DefineE (W0 : World) (gt bm : Nat) (X : Option Mcr.Table) (e : Ending) (W' : World) : Prop :=
 match X with
 | some tb => e = .returned (.tuple #[.int .i64 0, .int .i64 0]) ∧ ∃ nv sls, TabO W0 W' tb gt bm nv sls
 | none => ∃ i er : Int, er ≠ 0 ∧ e = .returned (.tuple #[.int .i64 i, .int .i64 er]) ∧ Fresh W0 W'
theorem define_any (W0 W : World) (tb : Mcr.Table) (gt bm : Nat) (nr : Value) (sls : Nat → Value) (h : TabO W0 W tb gt bm nr sls) (s : ByteArray) (p : Int) (b : ByteArray) (hs : s.size ≤ 140737488355328) (hb : b.size ≤ 140737488355328) (hc : (Lx.lexAll b.data.toList).1.length ≤ 8000) :
  Calls Tryz.prog 13 #[.pointer (some ⟨gt, 0, none⟩), .agg #[.string s, .int .i64 p, .string b]] W (DefineE W0 gt bm (Mcr.defineF tb ⟨s.data.toList, p, b.data.toList⟩)) := by
 have HDF := hid (show Mcr.defineF tb ⟨s.data.toList, p, b.data.toList⟩ = if p < 0 ∨ 4 < p then none else match Mcr.readS p.toNat tb b.data.toList with
  | .ok (ks, fits) _ => if fits = false ∨ templF (Np.slot ks) p.toNat = false then none
   else if (addF tb s.data.toList p.toNat (Np.slot ks)).2 = 0 then some (addF tb s.data.toList p.toNat (Np.slot ks)).1 else none
  | _ => none from rfl)
 have HF0 := hid ((Touch.refl (fun _ => False) W).alloc (.cells #[.string s, .int .i64 p, .string b] 32));have HB0 := hid (Blk.new W 32 #[.string s, .int .i64 p, .string b]);have HTB := hid (h.fresh HF0.out);have HSZ := hid hs;have hgl := HTB.out.tab.blk.lt;have HG0 := hid h.g0;clear h;refine Calls.via fun Q hQ => ?_
 have HQ := hid hQ;clear hQ
 by_cases c1 : p < 0
 ·have d1 : decide (p < (0 : Int)) = true := dT c1
  rw [HDF.out, if_pos (.inl c1)] at HQ;go_enter Tryz.func13, Tryz.ntmps13;go_wp2_with fail
  exact HQ.out _ _ ⟨0, 1, by decide, rfl, HTB.out.fr⟩
 have d1 : decide (p < (0 : Int)) = false := dF c1
 by_cases c2 : 4 < p
 ·have d2 : decide ((4 : Int) < p) = true := dT c2
  rw [HDF.out, if_pos (.inr c2)] at HQ;go_enter Tryz.func13, Tryz.ntmps13;go_wp2_with fail
  exact HQ.out _ _ ⟨0, 1, by decide, rfl, HTB.out.fr⟩
 have d2 : decide ((4 : Int) < p) = false := dF c2;obtain ⟨P, rfl⟩ : ∃ P : Nat, p = (P : Int) := ⟨p.toNat, by omega⟩;have HP := hid (show P ≤ 4 by omega);rw [if_neg (by omega), show (P : Int).toNat = P from rfl] at HDF;have HPA := hid (parse_any b P HP.out tb (some ⟨gt, 0, none⟩) _ HTB.out.val hb hc);have HN := hid (Mcr.readS_ends P tb b.data.toList);clear hb hc hs;go_enter Tryz.func13, Tryz.ntmps13;obtain ⟨p0, p1, p2, hlt⟩ := Blk.three HB0.out;go_wp2_with fail
 refine HPA.out.mono ?_;intro e w2 hres;clear HPA;generalize Mcr.readS P tb b.data.toList = X at HN HDF hres;cases X with
 | out => exact absurd rfl HN.out
 | err i er =>
  obtain ⟨he0, rfl, hf⟩ := hres;have e0 := fail_ne he0;have HE0 := hid he0;rw [HDF.out] at HQ;have HFR := hid (HTB.out.fr.trans hf);clear hf he0 p0 p1 p2 hlt;unfold failV zeroN;go_wp2_with fail
  have hbe := Blk.new2 w2 (.cells #[.int .i64 0, .string ⟨#[]⟩, .int .i64 0, .slice none 0 0] 35) 48 #[.int .i64 (i : Int), .int .i64 (er : Int)];have hfe := (HFR.out.alloc (.cells #[.int .i64 0, .string ⟨#[]⟩, .int .i64 0, .slice none 0 0] 35)).alloc (.cells #[.int .i64 (i : Int), .int .i64 (er : Int)] 48);generalize ((w2.alloc (.cells #[.int .i64 0, .string ⟨#[]⟩, .int .i64 0, .slice none 0 0] 35)).alloc (.cells #[.int .i64 (i : Int), .int .i64 (er : Int)] 48)) = W3 at hbe hfe ⊢;have HFE := hid hfe;obtain ⟨q0, q1, _, _, hlt⟩ := Blk.two hbe;have r0 := cR (q0.trans rfl);have r1 := cR (q1.trans rfl);clear q0 q1 hbe hfe;refine wp_region_mix [] [(0, true), (1, true), (2, true), (3, true), (4, true), (5, true)] (by kernel_rfl) (fun _ _ d _ _ h => by cases d <;> exact h) (by kernel_rfl) ?_;refine wpMix_last ?_
  repeat (refine wpSeq_plain rfl (fun K hK => ?_); go_simp; refine hK _ ?_; clear hK K)
  refine wpSeq_end ?_;go_wp2_with fail
  exact HQ.out _ _ ⟨i, er, by have := HE0.out; omega, rfl, HFE.out.drewN 1⟩
 | ok x rest =>
  obtain ⟨items, fits⟩ := x;obtain ⟨A, cp, rfl, htr, hf⟩ := hres;simp only at HDF htr;have HTB2 := hid (HTB.out.fresh hf);have HB2 := hid (hf.blk HB0.out fun h => h);have HTR2 := hid (htr.base (B' := 0) (Nat.zero_le _));clear htr hf p0 p1 p2 hlt;unfold failV;obtain ⟨p0, p1, p2, hlt⟩ := Blk.three HB2.out;cases fits with
  | false =>
   rw [if_pos (.inl rfl)] at HDF;rw [HDF.out] at HQ;go_wp2_with fail
   exact HQ.out _ _ ⟨0, 6, by decide, rfl, (HTB2.out.fr.alloc _).alloc _⟩
  | true =>
   go_wp2_with fail
   have HF3 := hid (((Touch.refl (fun _ => False) w2).alloc (.cells #[.int .i64 1, .string ⟨#[]⟩, .int .i64 0, .slice A items.length cp] 35)).alloc (.cells #[.int .i64 0, .int .i64 0] 48));have HTB3 := hid (HTB2.out.fresh HF3.out);have HB3 := hid (HF3.out.blk HB2.out fun h => h);have HTR3 := hid (HTR2.out.fresh HF3.out);have HBN3 := hid ((Blk.new w2 35 #[.int .i64 1, .string ⟨#[]⟩, .int .i64 0, .slice A items.length cp]).alloc (.cells #[.int .i64 0, .int .i64 0] 48));clear p0 p1 p2 hlt HTB2 HB2 HTR2 HF3;generalize ((w2.alloc (.cells #[.int .i64 1, .string ⟨#[]⟩, .int .i64 0, .slice A items.length cp] 35)).alloc (.cells #[.int .i64 0, .int .i64 0] 48)) = W3 at HTB3 HB3 HTR3 HBN3 ⊢;refine (templ_any (Np.slot items) (.slice A items.length cp) P W3 HTR3.out.rep (Nat.zero_le _)).mono ?_;rintro _ W4 ⟨rfl, hf⟩;have HTB4 := hid (HTB3.out.fresh hf);have HB4 := hid (hf.blk HB3.out fun h => h);have HTR4 := hid (HTR3.out.fresh hf);have HBN4 := hid (hf.blk HBN3.out fun h => h);clear hf HTB3 HB3 HTR3 HBN3;obtain ⟨p0, p1, p2, hlt⟩ := Blk.three HB4.out;obtain ⟨g0, g1, g2, g3, _, _, _, _, hlg⟩ := Blk.four HBN4.out;cases ht : templF (Np.slot items) P with
   | false =>
    rw [if_pos (.inr ht)] at HDF;rw [HDF.out] at HQ;go_wp2_with fail
    exact HQ.out _ _ ⟨0, 6, by decide, rfl, HTB4.out.fr⟩
   | true =>
    rw [if_neg (by rintro (h | h); cases h; rw [ht] at h; cases h)] at HDF;have HAD := hid (add_any W0 W4 tb gt bm nr sls HTB4.out s P HP.out (Np.slot items) (.slice A items.length cp) HTR4.out (Nat.zero_le _) HSZ.out);rw [HDF.out] at HQ;generalize addF tb s.data.toList P (Np.slot items) = Y at HQ HAD;obtain ⟨tb2, e2⟩ := Y;go_wp2_with fail
    refine HAD.out.mono ?_;rintro _ W5 ⟨rfl, nv5, sls5, h5⟩;go_wp2_with fail
    by_cases he : e2 = 0
    ·subst he
     rw [if_pos rfl] at HQ;exact HQ.out _ _ ⟨rfl, nv5, sls5, h5⟩
    ·rw [if_neg he] at HQ
     exact HQ.out _ _ ⟨0, e2, by omega, rfl, h5.fr⟩
end Go.Proofs.YtomibmenojdieaaGreat
namespace Go.Proofs.YtomibmenojdieaaGreat
open Go.RowKit
open Tr (Nd)
open Lx (PTok)
attribute [local go_sem] stillV stillUpon
abbrev MacD := ByteArray × Int × ByteArray
def defOf (m : MacD) : Mcr.Def := ⟨m.1.data.toList, m.2.1, m.2.2.data.toList⟩
def MacRow (W : World) (A : Option Addr) (l : List MacD) : Prop := ∀ i (hi : i < l.length), ∃ g f, A = some ⟨g, f, none⟩ ∧ g < W.heap.size ∧ W.cell? ⟨g, f + i * 3, none⟩ = some (.string l[i].1) ∧ W.cell? ⟨g, f + i * 3 + 1, none⟩ = some (.int .i64 l[i].2.1) ∧ W.cell? ⟨g, f + i * 3 + 2, none⟩ = some (.string l[i].2.2)
theorem MacRow.fresh {W W' : World} {A : Option Addr} {l : List MacD} (h : MacRow W A l) (hf : Fresh W W') : MacRow W' A l := fun i hi => by
 obtain ⟨g, f, h1, h2, h3, h4, h5⟩ := h i hi;exact ⟨g, f, h1, Nat.lt_of_lt_of_le h2 hf.size, hf.cell h3 (fun h => h), hf.cell h4 (fun h => h), hf.cell h5 (fun h => h)⟩
theorem MacRow.take {W : World} {A : Option Addr} {l : List MacD} (h : MacRow W A l) (n : Nat) : MacRow W A (l.take n) := fun i hi => by
 rw [List.length_take] at hi;obtain ⟨g, f, h1, h2, h3, h4, h5⟩ := h i (by omega);rw [List.getElem_take];exact ⟨g, f, h1, h2, h3, h4, h5⟩
def LoadE (W : World) (X : Option Mcr.Table) (e : Ending) (W' : World) : Prop :=
 match X with
 | some tb => ∃ gt bm nv sls, e = .returned (.tuple #[.pointer (some ⟨gt, 0, none⟩), .int .i64 0, .int .i64 0, .int .i64 0]) ∧ TabO W W' tb gt bm nv sls
 | none => ∃ i k er : Int, er ≠ 0 ∧ e = .returned (.tuple #[.pointer none, .int .i64 i, .int .i64 k, .int .i64 er]) ∧ Fresh W W'
theorem load_any (l : List MacD) (A : Option Addr) (cp : Nat) (w : World) (h : MacRow w A l) (hl : l.length ≤ 1000000) (hb : ∀ m ∈ l, m.1.size ≤ 140737488355328 ∧ m.2.2.size ≤ 140737488355328 ∧ (Lx.lexAll m.2.2.data.toList).1.length ≤ 8000) :
  Calls Tryz.prog 6 #[.slice A l.length cp] w (LoadE w (Mcr.loadF [] (l.map defOf))) := by
 have H := hid h;have HB := hid hb;have HL := hid hl;clear h hb hl;refine Calls.via fun Q hQ => ?_
 have HQ := hid hQ;clear hQ;obtain ⟨X, hX⟩ : ∃ X, X = Mcr.loadF [] (l.map defOf) := ⟨_, rfl⟩;rw [← hX] at HQ;have HX := hid hX;clear hX;obtain ⟨n, hn⟩ : ∃ n, n = l.length := ⟨_, rfl⟩;have HN := hid hn;rw [← hn];clear hn;go_enter Tryz.func6, Tryz.ntmps6;go_wp2_with fail
 refine (newTab_any w).mono ?_;rintro _ W1 ⟨gt, bm, rfl, h1⟩;have HT := hid h1;clear h1;go_wp2_with fail
 go_loopw [14] (fun i wr0 => ∃ (wr : World) (q : Nat) (tb : Mcr.Table) (nr : Value) (sls : Nat → Value), wr = wr0 ∧ i = .int .i64 q ∧ q ≤ n ∧ Hid (TabO w wr tb gt bm nr sls) ∧ Hid (X = Mcr.loadF tb ((l.drop q).map defOf))) (fun i _ => n - (intOf i).toNat)
 case atStart => exact ⟨_, 0, [], _, _, rfl, rfl, Nat.zero_le _, HT, HX⟩
 case round =>
  clear HT HX;obtain ⟨wr, q, tb, nr, sls, rfl, rfl, hq, HT, HX⟩ := hrel
  by_cases c1 : q < n
  ·have d1 : decide ((q : Int) < (n : Int)) = true := dT (by omega)
   have d1n : decide (q < n) = true := dT c1;have d1' : (q : Int) < (n : Int) := by omega
   have hql : q < l.length := by have := HN.out; omega
   have hnl : n ≤ 1000000 := by have := HN.out; have := HL.out; omega
   obtain ⟨g, f, rfl, hg, q0, q1, q2⟩ := (H.out.fresh HT.out.fr) q hql;have HXS := hid (show X = Mcr.loadF tb (defOf l[q] :: (l.drop (q + 1)).map defOf) from by rw [HX.out, List.drop_eq_getElem_cons hql]; rfl);have HMB := hid (HB.out l[q] (List.getElem_mem hql));generalize l[q] = m at q0 q1 q2 HXS HMB;obtain ⟨ms, mp, mb⟩ := m;simp only at q0 q1 q2;go_wp2_with fail
   have HTA := hid (HT.out.fresh ((Touch.refl (fun _ => False) wr).alloc (.cells #[.string ms, .int .i64 mp, .string mb] 32)));have HDE := hid (define_any w _ tb gt bm nr sls HTA.out ms mp mb HMB.out.1 HMB.out.2.1 HMB.out.2.2);have HLO := hid (show X = match Mcr.defineF tb (defOf (ms, mp, mb)) with | some tb' => Mcr.loadF tb' ((l.drop (q + 1)).map defOf) | none => none from HXS.out);unfold defOf at HLO;simp only at HLO;generalize Mcr.defineF tb ⟨ms.data.toList, mp, mb.data.toList⟩ = Y at HDE HLO;clear HTA HX HXS q0 q1 q2 HT;refine HDE.out.mono ?_;intro e w5 hres;cases Y with
   | none =>
    obtain ⟨i, er, he, rfl, hf⟩ := hres;have e0 : (er == (0 : Int)) = false := by simpa using he
    have HFR := hid hf;have HE := hid he;clear hf he HDE;go_wp2_with fail
    refine bodyPost_ret (v := .tuple #[.pointer none, .int .i64 q, .int .i64 i, .int .i64 er]) (by simp [results, Tryz.results6, go_sem]) rfl ?_;rw [HLO.out] at HQ;exact HQ.out _ _ ⟨_, _, _, HE.out, rfl, HFR.out⟩
   | some tb2 =>
    obtain ⟨rfl, nv2, sls2, h2⟩ := hres;have HT2 := hid h2;clear h2 HDE;go_wp2_with fail
    exact ⟨⟨_, q + 1, tb2, nv2, sls2, rfl, by simp, by omega, HT2, HLO⟩, by simp [intOf]; omega⟩
  ·have d1 : decide ((q : Int) < (n : Int)) = false := dF (by omega)
   have d1n : decide (q < n) = false := dF c1;have d1' : ¬ (q : Int) < (n : Int) := by omega
   obtain rfl : q = n := by omega
   have HXE := hid (show X = some tb from by rw [HX.out, List.drop_eq_nil_of_le (by have := HN.out; omega)]; rfl);rw [HXE.out] at HQ;go_wp2_with fail
   refine bodyPost_ret (v := .tuple #[.pointer (some ⟨gt, 0, none⟩), .int .i64 0, .int .i64 0, .int .i64 0]) (by simp [results, Tryz.results6, go_sem]) rfl ?_;exact HQ.out _ _ ⟨gt, bm, nr, sls, rfl, HT.out⟩
end Go.Proofs.YtomibmenojdieaaGreat
