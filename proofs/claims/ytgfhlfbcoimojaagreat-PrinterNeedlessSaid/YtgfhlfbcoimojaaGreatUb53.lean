/- Part 53 of 53 of a proof; its texts, joined: NqU, NuK. No condition. -/
import Derived.Test.YtgfhlfbcoimojaaGreatUb52
import Derived.Test.YtgfhlfbcoimojaaGreatUb26

/- parse and Parse of a text with more than 8000 tokens: an error. -/
namespace Go.Proofs.YtgfhlfbcoimojaaGreat
open Go.RowKit
open Tr (Nd)
open Lx (PTok)
open Np (R)
attribute [local go_sem] stillV stillUpon
set_option maxRecDepth 100000 in
set_option maxHeartbeats 2000000 in
theorem parse_over (s : ByteArray) (w : World) (hm : s.size ≤ 1000000000) (hc : 8000 < (Lx.lexAll s.data.toList).1.length) : Calls Tryz.prog 25 #[.string s, .pointer none, .int .i64 0] w (fun e w' => ∃ p, ParseE w (.err p 6) e w') := by
 have HER := hid (show (6 : Nat) ≠ 0 by decide)
 have HTK := hid (fun (w' : World) => Tokens_over s w' hm hc)
 clear hm hc
 refine Calls.via fun Q hQ => ?_
 have HQ := hid hQ
 clear hQ
 go_enter Tryz.func25, Tryz.ntmps25
 go_wp2_with fail
 refine (HTK.out _).mono ?_
 rintro _ w1 ⟨hf, p, rfl⟩
 have HF := hid (Touch.pre (Touch.pre hf))
 have HBN := hid (hf.blk ((Blk.new w 26 zeroN).alloc (.cells #[.int .i64 0, .int .i64 0] 61)) (fun h => h))
 have HBF := hid (hf.blk (Blk.new2 w (.cells zeroN 26) 61 #[.int .i64 0, .int .i64 0]) (fun h => h))
 clear hf
 obtain ⟨p0, p1, p2, p3, y0, y1, y2, y3, hlt0⟩ := Blk.four HBN.out
 obtain ⟨q0, q1, z0, z1, hlt1⟩ := Blk.two HBF.out
 go_wp2_with fail
 have hne : w.heap.size ≠ w.heap.size + 1 := by omega
 have n1 := (HBN.out.self4 (.int .i64 0) (.string ⟨#[]⟩) (.int .i64 0) (.slice none 0 0)).far2 hne (.int .i64 (p : Int)) (.int .i64 6)
 have n2 := (HBF.out.far4 (Ne.symm hne) (.int .i64 0) (.string ⟨#[]⟩) (.int .i64 0) (.slice none 0 0)).self2 (.int .i64 (p : Int)) (.int .i64 6)
 have hf5 : Fresh w _ := (HF.out.put4 (g := w.heap.size) (.inr (Nat.le_refl _)) (.int .i64 0) (.string ⟨#[]⟩) (.int .i64 0) (.slice none 0 0)).put2 (g := w.heap.size + 1) (.inr (by omega)) (.int .i64 (p : Int)) (.int .i64 6)
 obtain ⟨g0, g1, g2, g3, _⟩ := Blk.four n1
 obtain ⟨f0, f1, _⟩ := Blk.two n2
 simp only [put2, put4] at g0 g1 g2 g3 f0 f1 hf5
 (try simp only [Exit.inBlock, Exit.then])
 refine bodyPost_ret (v := .tuple #[.agg zeroN, .bool false, failV p 6]) (by simp [failV, results, Tryz.results25, go_sem, f0, f1, g0, g1, g2, g3]) rfl ?_
 exact HQ.out _ _ ⟨p, HER.out, rfl, hf5⟩
set_option maxRecDepth 100000 in
set_option maxHeartbeats 1000000 in
theorem parseX_over (s : ByteArray) (w : World) (hm : s.size ≤ 1000000000) (hc : 8000 < (Lx.lexAll s.data.toList).1.length) : Calls Tryz.prog 8 #[.string s, .pointer none] w (fun e w' => ∃ p, ParseXE w (.err p 6) e w') := by
 have HP := hid (fun w' => parse_over s w' hm hc)
 clear hm hc
 refine Calls.via fun Q hQ => ?_
 have HQ := hid hQ
 clear hQ
 go_enter Tryz.func8, Tryz.ntmps8
 go_wp2_with fail
 refine (HP.out _).mono ?_
 rintro _ w2 ⟨i, he0, rfl, hf⟩
 have HE0 := hid he0
 have e0 := fail_ne he0
 have hb2 := hf.blk (Blk.new w 26 #[.int .i64 0, .string ⟨#[]⟩, .int .i64 0, .slice none 0 0]) (fun h => h)
 have hf2 : Fresh w w2 := Touch.pre hf
 clear hf he0
 unfold failV zeroN
 go_wp2_with fail
 have hb3 := (hb2.alloc (.cells #[.int .i64 0, .string ⟨#[]⟩, .int .i64 0, .slice none 0 0] 26)).alloc (.cells #[.int .i64 (i : Int), .int .i64 6] 61)
 have hf3 := (hf2.alloc (.cells #[.int .i64 0, .string ⟨#[]⟩, .int .i64 0, .slice none 0 0] 26)).alloc (.cells #[.int .i64 (i : Int), .int .i64 6] 61)
 have h93 : Blk ((w2.alloc (.cells #[.int .i64 0, .string ⟨#[]⟩, .int .i64 0, .slice none 0 0] 26)).alloc (.cells #[.int .i64 (i : Int), .int .i64 6] 61)) (w2.heap.size + 1) 61 #[.int .i64 (i : Int), .int .i64 6] := Blk.new2 _ _ _ _
 generalize ((w2.alloc (.cells #[.int .i64 0, .string ⟨#[]⟩, .int .i64 0, .slice none 0 0] 26)).alloc (.cells #[.int .i64 (i : Int), .int .i64 6] 61)) = W3 at hb3 hf3 h93 ⊢
 have HS2 := hid (show w.heap.size < w2.heap.size from hb2.lt)
 have HB3 := hid hb3
 have HF3 := hid hf3
 have H93 := hid h93
 clear hb2 hf2 hb3 hf3 h93
 refine wp_region_in (fun W => Blk W (w2.heap.size + 1) 61 #[.int .i64 (i : Int), .int .i64 6] ∧ Blk W w.heap.size 26 #[.int .i64 0, .string ⟨#[]⟩, .int .i64 0, .slice none 0 0]) [(0, true), (1, true), (2, true), (3, true), (4, true), (5, false), (6, true), (7, true)] (by kernel_rfl) (fun _ _ d _ _ h => by cases d <;> exact h) (by kernel_rfl) ⟨H93.out.drewN 1, HB3.out.drewN 1⟩ ?_
 refine wpSeq_plain rfl (fun K hK => ?_)
 rw [if_pos (by rfl)]
 refine ⟨.agg #[.int .i64 0, .string ⟨#[]⟩, .int .i64 0, .slice none 0 0], fun W hW => ?_, hK _ ?_⟩
 ·go_simp
 clear hK K
 refine wpSeq_plain rfl (fun K hK => ?_)
 rw [if_pos (by rfl)]
 refine ⟨.pointer (some ⟨w2.heap.size + 1, 0, none⟩), fun W hW => ?_, hK _ ?_⟩
 ·go_simp
 clear hK K
 refine wpSeq_plain rfl (fun K hK => ?_)
 rw [if_pos (by rfl)]
 refine ⟨.int .i64 (i : Int), fun W hW => ?_, hK _ ?_⟩
 ·obtain ⟨h1, _⟩ := hW
  obtain ⟨p0, p1, _⟩ := Blk.two h1
  go_simp
 clear hK K
 refine wpSeq_plain rfl (fun K hK => ?_)
 rw [if_pos (by rfl)]
 refine ⟨.pointer (some ⟨w2.heap.size + 1, 1, none⟩), fun W hW => ?_, hK _ ?_⟩
 ·go_simp
 clear hK K
 refine wpSeq_plain rfl (fun K hK => ?_)
 rw [if_pos (by rfl)]
 refine ⟨.int .i64 6, fun W hW => ?_, hK _ ?_⟩
 ·obtain ⟨h1, _⟩ := hW
  obtain ⟨p0, p1, _⟩ := Blk.two h1
  go_simp
 clear hK K
 obtain ⟨p0, p1, p2, p3, y0, y1, y2, y3, hlt0⟩ := Blk.four (HB3.out.drewN 1)
 refine wpSeq_lone rfl (fun K hK => ?_)
 go_wp2_with fail
 have n1 := (HB3.out.drewN 1).self4 (.int .i64 0) (.string ⟨#[]⟩) (.int .i64 0) (.slice none 0 0)
 have n2 := (H93.out.drewN 1).far4 (L := w2.heap.size + 1) (g := w.heap.size) (by have := HS2.out; omega) (.int .i64 0) (.string ⟨#[]⟩) (.int .i64 0) (.slice none 0 0)
 have hm7 : Fresh w _ := (HF3.out.drewN 1).put4 (g := w.heap.size) (.inr (Nat.le_refl _)) (.int .i64 0) (.string ⟨#[]⟩) (.int .i64 0) (.slice none 0 0)
 simp only [put4] at n1 n2 hm7
 generalize (World.setCell (World.setCell (World.setCell (World.setCell (W3.drewN 1) ⟨w.heap.size, 0, none⟩ _) ⟨w.heap.size, 1, none⟩ _) ⟨w.heap.size, 2, none⟩ _) ⟨w.heap.size, 3, none⟩ _) = W7 at n1 n2 hm7 ⊢
 refine hK _ _ ⟨n2, n1⟩ ?_
 clear hK K p0 p1 p2 p3 y0 y1 y2 y3 hlt0
 refine wpSeq_plain rfl (fun K hK => ?_)
 rw [if_pos (by rfl)]
 refine ⟨.int .i64 (i : Int), fun W hW => ?_, hK _ ?_⟩
 ·go_simp
 clear hK K
 refine wpSeq_plain rfl (fun K hK => ?_)
 rw [if_pos (by rfl)]
 refine ⟨.int .i64 6, fun W hW => ?_, hK _ ?_⟩
 ·go_simp
 clear hK K
 refine wpSeq_end ?_
 go_wp2_with fail
 obtain ⟨g0, g1, g2, g3, _⟩ := Blk.four n1
 (try simp only [Exit.inBlock, Exit.then])
 refine bodyPost_ret (v := .tuple #[.agg zeroN, .int .i64 (i : Int), .int .i64 6]) (by simp [results, Tryz.results8, go_sem, g0, g1, g2, g3]) rfl ?_
 exact HQ.out _ _ ⟨i, HE0.out, rfl, hm7⟩
end Go.Proofs.YtgfhlfbcoimojaaGreat

/- The statement PrinterNeedless: for all trees and numbers the law returns true, and the tree reads as it did. No condition. -/
namespace Go.Proofs.YtgfhlfbcoimojaaGreat
open Go.ChangeShapes Go.WideShapes Go.ChangeAt Go.RowKit
open Go.ChangeMaps (open_string shut_string)
open Tr (Nd)
open Np (R)
attribute [local go_sem] stillV stillUpon
theorem cut_text (l : List UInt8) (i : Nat) : (⟨l.toArray⟩ : ByteArray).extract 0 i ++ (⟨l.toArray⟩ : ByteArray).extract (i + 1) (⟨l.toArray⟩ : ByteArray).size = ⟨(l.eraseIdx i).toArray⟩ := by
 apply ByteArray.ext
 apply Array.toList_inj.1
 rw [ByteArray.data_append, Array.toList_append]
 simp only [ByteArray.data_extract, Array.toList_extract, List.extract_eq_take_drop]
 rw [List.eraseIdx_eq_take_drop_succ]
 have h : (⟨l.toArray⟩ : ByteArray).size = l.length := by simp [ByteArray.size]
 rw [h]
 simp
 rw [List.take_of_length_le (by simp)]
theorem u16_range {k : Int} (h : (Lit.int .u16 k).wf = true) : 0 ≤ k ∧ k < 65536 := by
 simp [Lit.wf] at h
 have e1 : IntKind.u16.min = 0 := by decide
 have e2 : IntKind.u16.max = 65535 := by decide
 omega
theorem parse_cut (n : Nd) (i : Nat) (w : World) (hv : Tr.valid n = true) (hc : Tr.count n ≤ 300) (hi : i < (printS n).length) : Calls Tryz.prog 8 #[.string ⟨((printS n).eraseIdx i).toArray⟩, .pointer none] w fun e w' =>
  ∃ (m : Nd) (pi pe : Nat) (A : Option Addr) (cap : Nat), e = .returned (.tuple #[nv m (.slice A m.kids.length cap), .int .i64 (pi : Int), .int .i64 (pe : Int)]) ∧ TreT w.heap.size w' m.kids (.slice A m.kids.length cap) ∧ Fresh w w' ∧ ((pe : Int) = 0 → Tr.eqN m n = false) := by
 have hr := Tr.valid_row n hv
 have hp : printS n = Tr.wtext (Tr.rowT n.kids) := by unfold printS; rw [if_pos hv]
 have hl := printed_len n hr
 rw [← hp] at hl
 have hl2 : ((printS n).eraseIdx i).length ≤ 1000000 := by rw [List.length_eraseIdx]; split <;> omega
 have hs : (⟨((printS n).eraseIdx i).toArray⟩ : ByteArray).size ≤ 1000000000 := by
  show ((printS n).eraseIdx i).toArray.size ≤ _
  rw [List.size_toArray]; omega
 by_cases ht : (Lx.lexAll ((printS n).eraseIdx i)).1.length ≤ 8000
 ·have hne := parseS_ends ((printS n).eraseIdx i)
  have h := needless_eq n hv i hi
  refine (parseX_any ⟨((printS n).eraseIdx i).toArray⟩ w hs ht).mono ?_
  intro e w' hres
  have e0 : (⟨((printS n).eraseIdx i).toArray⟩ : ByteArray).data.toList = (printS n).eraseIdx i := rfl
  rw [e0] at hres
  generalize parseS ((printS n).eraseIdx i) = X at h hne hres
  cases X with
  | out => exact absurd rfl hne
  | err p er =>
   obtain ⟨h0, rfl, hf⟩ := hres
   exact ⟨noNd, p, er, none, 0, rfl, .nil _ _, hf, fun e => absurd (by omega) h0⟩
  | ok items rest =>
   rcases hres with ⟨hv', A, cp, rfl, htr, hf⟩ | ⟨hv', rfl, hf⟩
   ·refine ⟨Np.slot items, 0, 0, A, cp, rfl, htr, hf, fun _ => ?_⟩
    have := h (by simp [pE, hv'])
    simpa [pN, hv'] using this
   ·exact ⟨noNd, 0, 6, none, 0, rfl, .nil _ _, hf, fun e => by cases e⟩
 ·refine (parseX_over ⟨((printS n).eraseIdx i).toArray⟩ w hs (by show 8000 < (Lx.lexAll ((printS n).eraseIdx i)).1.length; omega)).mono ?_
  rintro e w' ⟨p, he, rfl, hf⟩
  exact ⟨noNd, p, 6, none, 0, rfl, .nil _ _, hf, fun h => by cases h⟩
set_option maxRecDepth 100000 in
set_option maxHeartbeats 2000000 in
theorem needless_any (n : Nd) (sl : Value) (k : Int) (w : World) (hr : RepL w n.kids sl) (ht : n.text.length ≤ maxLen) (hk : 0 ≤ k ∧ k < 65536) :
  Calls Tryz.prog 5 #[nv n sl, .int .u16 k] w fun e w' => e = .returned (.bool true) ∧ Fresh w w' := by
 have HR := hid hr
 have HP := hid (fun (w : World) (hr : RepL w n.kids sl) (hc : (Tr.count n : Int) ≤ 300) => print_any n sl w hr ht (by omega))
 have HQ := hid (fun (w : World) (i : Nat) (hv : Tr.valid n = true) (hc : (Tr.count n : Int) ≤ 300) (hi : i < (printS n).length) => parse_cut n i w hv (by omega) hi)
 obtain ⟨A, cap, rfl⟩ := hr.slice
 clear hr ht
 go_enter Tryz.func5, Tryz.ntmps5
 go_wp2_with fail
 have hb0 := Blk.new w 26 #[.int .i64 n.kind, .string ⟨n.text.toArray⟩, .int .i64 n.cols, .slice A n.kids.length cap]
 refine (awake21_any _).mono ?_
 rintro _ w1 ⟨rfl, hf1⟩
 have HF1 := hid (Touch.pre hf1)
 have HB1 := hid (hf1.blk hb0 fun h => h)
 obtain ⟨p0, p1, p2, p3, _, _, _, _, hlt⟩ := Blk.four HB1.out
 clear hf1 hb0
 go_wp2_with fail
 refine (few21_any n (.slice A n.kids.length cap) _ (HR.out.fresh HF1.out)).mono ?_
 rintro _ w2 ⟨rfl, hf2⟩
 have HF2 := hid (HF1.out.trans hf2)
 have HB2 := hid (hf2.blk HB1.out fun h => h)
 clear hf2 p0 p1 p2 p3 hlt
 obtain ⟨p0, p1, p2, p3, _, _, _, _, hlt⟩ := Blk.four HB2.out
 cases h1 : decide ((Tr.count n : Int) ≤ 300) with
 | false =>
  go_wp2_with fail
  refine (awake21_any _).mono ?_
  rintro _ w3 ⟨rfl, hf3⟩
  have HF3 := hid (HF2.out.trans hf3)
  clear hf3
  go_wp2_with fail
  go_ret
  exact ⟨rfl, HF3.out⟩
 | true =>
  have h1p := of_decide_eq_true h1
  go_wp2_with fail
  refine (HP.out _ (HR.out.fresh HF2.out) h1p).mono ?_
  rintro _ w3 ⟨rfl, hf3⟩
  have HF3 := hid (HF2.out.trans hf3)
  have HB3 := hid (hf3.blk HB2.out fun h => h)
  clear hf3 p0 p1 p2 p3 hlt
  obtain ⟨p0, p1, p2, p3, _, _, _, _, hlt⟩ := Blk.four HB3.out
  cases hv : Tr.valid n with
  | false =>
   have e1 : printE n = 1 := by unfold printE; rw [if_neg (by simp [hv])]
   have e2 : printS n = [] := by unfold printS; rw [if_neg (by simp [hv])]
   rw [e1, e2]
   go_wp2_with fail
   go_ret
   exact ⟨rfl, HF3.out⟩
  | true =>
   have e1 : printE n = 0 := by unfold printE; rw [if_pos hv]
   rw [e1]
   clear e1
   have hpl : (printS n).length ≤ 1000000 := by
    have h2 := printed_len n (Tr.valid_row n hv)
    have hp : printS n = Tr.wtext (Tr.rowT n.kids) := by unfold printS; rw [if_pos hv]
    rw [← hp] at h2; omega
   have hsz : (⟨(printS n).toArray⟩ : ByteArray).size = (printS n).length := by simp [ByteArray.size]
   by_cases h0 : (printS n).length = 0
   ·have z1 : (((⟨(printS n).toArray⟩ : ByteArray).size : Int) == 0) = true := by rw [hsz, beq_iff_eq]; omega
    go_wp2_with fail
    go_ret
    exact ⟨rfl, HF3.out⟩
   ·have z1 : (((⟨(printS n).toArray⟩ : ByteArray).size : Int) == 0) = false := by rw [hsz, beq_eq_false_iff_ne]; omega
    have HSZ := hid hsz
    have HPL := hid hpl
    go_wp2_with fail
    obtain ⟨i, hi, hil⟩ : ∃ i : Nat, k % ((printS n).length : Int) = i ∧ i < (printS n).length := ⟨(k % ((printS n).length : Int)).toNat, by have := Int.emod_nonneg k (b := ((printS n).length : Int)) (by omega); omega, by have h1 := Int.emod_nonneg k (b := ((printS n).length : Int)) (by omega); have h2 := Int.emod_lt_of_pos k (b := ((printS n).length : Int)) (by omega); omega⟩
    rw [hi]
    have HI := hid hil
    have HCT := hid (show (⟨(printS n).toArray⟩ : ByteArray).extract 0 i ++ (⟨(printS n).toArray⟩ : ByteArray).extract (i + 1) (printS n).length = ⟨((printS n).eraseIdx i).toArray⟩ from by have := cut_text (printS n) i; rwa [HSZ.out] at this)
    have u1 : (0 : Int) ≤ (i : Int) := by omega
    have u2 : (i : Int) ≤ ((printS n).length : Int) := by omega
    have u3 : (0 : Int) ≤ (i : Int) + 1 := by omega
    have u4 : (i : Int) + 1 ≤ ((printS n).length : Int) := by omega
    have u5 : IntKind.i64.wrap ((i : Int) + 1) = (i : Int) + 1 := IntWalk.i64_in _ (by omega)
    have u6 : ((i : Int) + 1).toNat = i + 1 := by omega
    clear hi p0 p1 p2 p3 hlt
    refine wp_region_plan_in (fun _ => True) (.plain 0 (.plain 1 (.plain 2 (.plain 3 (.plain 4 (.plain 5 (.plain 6 (.plain 7 (.fork 8 (.plain 9 (.plain 10 (.plain 11 (.plain 12 (.lone 13 (.lone 14 (.plain 15 (.plain 16 .nil)))))))) 13 (.lone 8 (.plain 9 (.plain 10 (.plain 11 (.plain 12 (.lone 14 (.plain 15 (.plain 16 .nil))))))))))))))))) [0, 1, 2, 3, 4, 5, 6, 7, 8, 9, 10, 11, 12, 13, 14, 15, 16] #[true, true, true, true, true, true, true, true, true, true, true, true, true, true, true, true, true] (by kernel_rfl) (fun _ _ d _ _ h => by cases d <;> exact h) (by kernel_rfl) trivial ?_
    refine wpPlan_plain rfl (fun K hK => ?_)
    rw [if_pos (by rfl)]
    refine ⟨.string (⟨(printS n).toArray⟩ : ByteArray), fun X hX => ?_, hK _ ?_⟩
    ·go_simp
    clear hK K
    refine wpPlan_plain rfl (fun K hK => ?_)
    rw [if_pos (by rfl)]
    refine ⟨.int .i64 (i : Int), fun X hX => ?_, hK _ ?_⟩
    ·go_simp
    clear hK K
    refine wpPlan_plain rfl (fun K hK => ?_)
    rw [if_pos (by rfl)]
    refine ⟨.string ((⟨(printS n).toArray⟩ : ByteArray).extract 0 i), fun X hX => ?_, hK _ ?_⟩
    ·go_simp
    clear hK K
    refine wpPlan_plain rfl (fun K hK => ?_)
    rw [if_pos (by rfl)]
    refine ⟨.string (⟨(printS n).toArray⟩ : ByteArray), fun X hX => ?_, hK _ ?_⟩
    ·go_simp
    clear hK K
    refine wpPlan_plain rfl (fun K hK => ?_)
    rw [if_pos (by rfl)]
    refine ⟨.int .i64 (i : Int), fun X hX => ?_, hK _ ?_⟩
    ·go_simp
    clear hK K
    refine wpPlan_plain rfl (fun K hK => ?_)
    rw [if_pos (by rfl)]
    refine ⟨.int .i64 ((i : Int) + 1), fun X hX => ?_, hK _ ?_⟩
    ·go_simp
    clear hK K
    refine wpPlan_plain rfl (fun K hK => ?_)
    rw [if_pos (by rfl)]
    refine ⟨.string ((⟨(printS n).toArray⟩ : ByteArray).extract (i + 1) (⟨(printS n).toArray⟩ : ByteArray).size), fun X hX => ?_, hK _ ?_⟩
    ·go_simp
    clear hK K
    refine wpPlan_plain rfl (fun K hK => ?_)
    rw [if_pos (by rfl)]
    refine ⟨.string ⟨((printS n).eraseIdx i).toArray⟩, fun X hX => ?_, hK _ ?_⟩
    ·go_simp
     rw [if_neg (by have := HPL.out; omega), HCT.out]
     exact ⟨rfl, rfl⟩
    clear hK K
    refine wpPlan_fork ?_ ?_
    ·refine wpPlan_lone rfl (fun K hK => ?_)
     go_wp2_with fail
     refine (HQ.out _ i hv h1p HI.out).mono ?_
     rintro _ w4 ⟨m, pi, pe, A4, cap4, rfl, ht4, hf4, hne⟩
     have HF4 := hid ((HF3.out.drewN 1).trans hf4)
     have HB4 := hid (hf4.blk (HB3.out.drewN 1) fun h => h)
     have HR4 := hid ht4.rep
     have HN4 := hid hne
     clear ht4 hf4 hne
     go_wp2_with fail
     refine hK _ _ trivial ?_
     clear hK K
     refine wpPlan_plain rfl (fun K hK => ?_)
     rw [if_pos (by rfl)]
     refine ⟨.tuple #[nv m (.slice A4 m.kids.length cap4), .int .i64 (pi : Int), .int .i64 (pe : Int)], fun X hX => ?_, hK _ ?_⟩
     ·go_simp
     clear hK K
     refine wpPlan_plain rfl (fun K hK => ?_)
     rw [if_pos (by rfl)]
     refine ⟨nv m (.slice A4 m.kids.length cap4), fun X hX => ?_, hK _ ?_⟩
     ·go_simp
     clear hK K
     refine wpPlan_plain rfl (fun K hK => ?_)
     rw [if_pos (by rfl)]
     refine ⟨.int .i64 (pi : Int), fun X hX => ?_, hK _ ?_⟩
     ·go_simp
     clear hK K
     refine wpPlan_plain rfl (fun K hK => ?_)
     rw [if_pos (by rfl)]
     refine ⟨.int .i64 (pe : Int), fun X hX => ?_, hK _ ?_⟩
     ·go_simp
     clear hK K
     refine wpPlan_lone rfl (fun K hK => ?_)
     go_wp2_with fail
     refine hK _ _ trivial ?_
     clear hK K
     refine wpPlan_lone rfl (fun K hK => ?_)
     go_wp2_with fail
     refine hK _ _ trivial ?_
     clear hK K
     have HB5 := hid (HB4.out.alloc (.cells #[.int .i64 m.kind, .string ⟨m.text.toArray⟩, .int .i64 m.cols, .slice A4 m.kids.length cap4] 26))
     have HC5 := hid (Blk.new w4 26 #[.int .i64 m.kind, .string ⟨m.text.toArray⟩, .int .i64 m.cols, .slice A4 m.kids.length cap4])
     have HF5 := hid (HF4.out.alloc (.cells #[.int .i64 m.kind, .string ⟨m.text.toArray⟩, .int .i64 m.cols, .slice A4 m.kids.length cap4] 26))
     have HR5 := hid (HR4.out.fresh ((Touch.refl _ _).alloc (.cells #[.int .i64 m.kind, .string ⟨m.text.toArray⟩, .int .i64 m.cols, .slice A4 m.kids.length cap4] 26)))
     generalize (w4.alloc (.cells #[.int .i64 m.kind, .string ⟨m.text.toArray⟩, .int .i64 m.cols, .slice A4 m.kids.length cap4] 26)) = W5 at HB5 HC5 HF5 HR5 ⊢
     refine wpPlan_plain rfl (fun K hK => ?_)
     rw [if_pos (by rfl)]
     refine ⟨.int .i64 (pi : Int), fun X hX => ?_, hK _ ?_⟩
     ·go_simp
     clear hK K
     refine wpPlan_plain rfl (fun K hK => ?_)
     rw [if_pos (by rfl)]
     refine ⟨.int .i64 (pe : Int), fun X hX => ?_, hK _ ?_⟩
     ·go_simp
     clear hK K
     refine wpPlan_nil ?_
     by_cases hp : pe = 0
     ·subst hp
      obtain ⟨p0, p1, p2, p3, _, _, _, _, hlt⟩ := Blk.four HB5.out
      obtain ⟨c0, c1, c2, c3, _, _, _, _, hlc⟩ := Blk.four HC5.out
      go_wp2_with fail
      refine (equal_any _ m n _ _ _ (Nat.le_refl _) HR5.out (HR.out.fresh HF5.out)).mono ?_
      rintro _ w6 ⟨rfl, hf6⟩
      rw [HN4.out rfl]
      go_wp2_with fail
      go_ret
      exact ⟨rfl, HF5.out.trans hf6⟩
     ·have q1 : ((pe : Int) != 0) = true := by rw [bne_iff_ne]; omega
      go_wp2_with fail
      go_ret
      exact ⟨rfl, HF5.out⟩
    ·refine wpPlan_lone rfl (fun K hK => ?_)
     go_wp2_with fail
     have HZZ := hid (Blk.new (w3.drewN 1) 26 #[.int .i64 0, .string ⟨#[]⟩, .int .i64 0, .slice none 0 0])
     have HBZ := hid ((HB3.out.drewN 1).alloc (.cells #[.int .i64 0, .string ⟨#[]⟩, .int .i64 0, .slice none 0 0] 26))
     have HFZ := hid ((HF3.out.drewN 1).alloc (.cells #[.int .i64 0, .string ⟨#[]⟩, .int .i64 0, .slice none 0 0] 26))
     have HLZ := hid (show w3.heap.size < ((w3.drewN 1).alloc (.cells #[.int .i64 0, .string ⟨#[]⟩, .int .i64 0, .slice none 0 0] 26)).heap.size from by simp)
     have HNZ := hid (show w.heap.size < w3.heap.size from HB3.out.lt)
     change Hid (Blk ((w3.drewN 1).alloc (.cells #[.int .i64 0, .string ⟨#[]⟩, .int .i64 0, .slice none 0 0] 26)) w3.heap.size 26 #[.int .i64 0, .string ⟨#[]⟩, .int .i64 0, .slice none 0 0]) at HZZ
     generalize ((w3.drewN 1).alloc (.cells #[.int .i64 0, .string ⟨#[]⟩, .int .i64 0, .slice none 0 0] 26)) = WZ at HZZ HBZ HFZ HLZ ⊢
     refine hK _ _ trivial ?_
     clear hK K
     refine wpPlan_lone rfl (fun K hK => ?_)
     go_wp2_with fail
     refine (HQ.out _ i hv h1p HI.out).mono ?_
     rintro _ w4 ⟨m, pi, pe, A4, cap4, rfl, ht4, hf4, hne⟩
     have HF4 := hid (HFZ.out.trans hf4)
     have HB4 := hid (hf4.blk HBZ.out fun h => h)
     have HZ4 := hid (hf4.blk HZZ.out fun h => h)
     have HT4 := hid ht4
     have HN4 := hid hne
     clear ht4 hf4 hne
     go_wp2_with fail
     refine hK _ _ trivial ?_
     clear hK K
     refine wpPlan_plain rfl (fun K hK => ?_)
     rw [if_pos (by rfl)]
     refine ⟨.tuple #[nv m (.slice A4 m.kids.length cap4), .int .i64 (pi : Int), .int .i64 (pe : Int)], fun X hX => ?_, hK _ ?_⟩
     ·go_simp
     clear hK K
     refine wpPlan_plain rfl (fun K hK => ?_)
     rw [if_pos (by rfl)]
     refine ⟨nv m (.slice A4 m.kids.length cap4), fun X hX => ?_, hK _ ?_⟩
     ·go_simp
     clear hK K
     refine wpPlan_plain rfl (fun K hK => ?_)
     rw [if_pos (by rfl)]
     refine ⟨.int .i64 (pi : Int), fun X hX => ?_, hK _ ?_⟩
     ·go_simp
     clear hK K
     refine wpPlan_plain rfl (fun K hK => ?_)
     rw [if_pos (by rfl)]
     refine ⟨.int .i64 (pe : Int), fun X hX => ?_, hK _ ?_⟩
     ·go_simp
     clear hK K
     refine wpPlan_lone rfl (fun K hK => ?_)
     obtain ⟨s0, s1, s2, s3, y0, y1, y2, y3, hls⟩ := Blk.four HZ4.out
     go_wp2_with fail
     have HC5 := hid (HZ4.out.self4 (.int .i64 m.kind) (.string ⟨m.text.toArray⟩) (.int .i64 m.cols) (.slice A4 m.kids.length cap4))
     have HB5 := hid (HB4.out.far4 (L := w.heap.size) (g := w3.heap.size) (by have := HNZ.out; omega) (.int .i64 m.kind) (.string ⟨m.text.toArray⟩) (.int .i64 m.cols) (.slice A4 m.kids.length cap4))
     have HF5 := hid (HF4.out.put4 (g := w3.heap.size) (.inr (by have := HNZ.out; omega)) (.int .i64 m.kind) (.string ⟨m.text.toArray⟩) (.int .i64 m.cols) (.slice A4 m.kids.length cap4))
     have HR5 := hid (HT4.out.far (touch4 w4 w3.heap.size (.int .i64 m.kind) (.string ⟨m.text.toArray⟩) (.int .i64 m.cols) (.slice A4 m.kids.length cap4)) HLZ.out).rep
     simp only [put4] at HC5 HB5 HF5 HR5
     generalize (World.setCell (World.setCell (World.setCell (World.setCell w4 ⟨w3.heap.size, 0, none⟩ _) ⟨w3.heap.size, 1, none⟩ _) ⟨w3.heap.size, 2, none⟩ _) ⟨w3.heap.size, 3, none⟩ _) = W5 at HC5 HB5 HF5 HR5 ⊢
     refine hK _ _ trivial ?_
     clear hK K s0 s1 s2 s3 y0 y1 y2 y3 hls
     refine wpPlan_plain rfl (fun K hK => ?_)
     rw [if_pos (by rfl)]
     refine ⟨.int .i64 (pi : Int), fun X hX => ?_, hK _ ?_⟩
     ·go_simp
     clear hK K
     refine wpPlan_plain rfl (fun K hK => ?_)
     rw [if_pos (by rfl)]
     refine ⟨.int .i64 (pe : Int), fun X hX => ?_, hK _ ?_⟩
     ·go_simp
     clear hK K
     refine wpPlan_nil ?_
     by_cases hp : pe = 0
     ·subst hp
      obtain ⟨p0, p1, p2, p3, _, _, _, _, hlt⟩ := Blk.four HB5.out
      obtain ⟨c0, c1, c2, c3, _, _, _, _, hlc⟩ := Blk.four HC5.out
      go_wp2_with fail
      refine (equal_any _ m n _ _ _ (Nat.le_refl _) HR5.out (HR.out.fresh HF5.out)).mono ?_
      rintro _ w6 ⟨rfl, hf6⟩
      rw [HN4.out rfl]
      go_wp2_with fail
      go_ret
      exact ⟨rfl, HF5.out.trans hf6⟩
     ·have q1 : ((pe : Int) != 0) = true := by rw [bne_iff_ne]; omega
      go_wp2_with fail
      go_ret
      exact ⟨rfl, HF5.out⟩
set_option maxRecDepth 100000 in
theorem printerNeedless_lifted (os : Os) (started : os.Started) (H : Type) (enc : TypeId × Value → H) :
  ReturnsInHanded {} Tryz.checked os 5 .any (Rows.printerNeedlessSpec.pre6 enc Tryz.prog Tryz.f5 Rows.printerNeedlessRow.domain false) (Rows.printerNeedlessSpec.post enc Tryz.prog Tryz.f5 false true false false) := by
 refine returnsInHanded_of_change (C := Tryz.checked) Tryz.ownKnob started (by kernel_rfl) Tryz.func5
  (ChangeSpec.witness6 (enc := enc) (C := Tryz.checked) false ⟨#[], #[.agg #[.int .i64 0, .string ⟨#[]⟩, .int .i64 0, .slice none 0 0], .int .u16 0], []⟩ 8 (by kernel_rfl) (by kernel_rfl) (by kernel_rfl) (by kernel_rfl)) ?_
 intro W base args ds gs before hval0 hW hcnd _
 have hval : ∀ (j : Nat) t v, Tryz.f5.params[j]? = some t → args[j]? = some v → Value.okWide Tryz.prog W .any base t v := hval0
 have hW' := hW
 obtain ⟨p, q, hA0, hV, rfl, hfz, hnd⟩ := hW
 have hA : DataW.TrodAll enc Tryz.prog W 0 (fun _ => true) true Tryz.f5.params.toList args.toList ds p := hA0
 rw [Tryz.params5] at hA hval
 obtain ⟨v0, v1, d0, d1, p0, p1, rfl, rfl, rfl, h0, h1⟩ := trodAll_two hA
 obtain ⟨rfl, rfl⟩ := trodVars_none hV
 obtain ⟨n0, ⟨s0, rfl, r0⟩, t0⟩ := open_node (hval 0 26 v0 rfl rfl) h0
 obtain ⟨k1, rfl, _, _, g1⟩ := open_int Tryz.underlying43 (hval 1 43 v1 rfl rfl) h1
 refine (needless_any n0 s0 k1 W r0 t0 (u16_range g1)).mono fun e W' ⟨he, hw⟩ => ?_
 exact ⟨_, he, post_true Tryz.laidOut Tryz.underlying4 (by kernel_rfl) (by kernel_rfl) rfl rfl hW' hw⟩
theorem PrinterNeedless_holds : Rows.PrinterNeedlessSaid :=
 OpenClaim.holds_of_wide 5 Tryz.f5 rfl rfl rfl rfl rfl rfl rfl ⟨rfl, rfl, rfl, rfl, rfl⟩ rfl rfl rfl rfl rfl (by kernel_rfl) Tryz.func5 (by kernel_rfl)
  (of_decide_eq_true (by kernel_rfl)) (by unfold Func.isWrapper; first | (rw [if_pos (by decide +kernel)]; kernel_rfl) | (rw [if_neg (by decide +kernel)]; exact ⟨rfl, rfl⟩))
  (fun os started H enc _ => printerNeedless_lifted os started H enc)
end Go.Proofs.YtgfhlfbcoimojaaGreat
