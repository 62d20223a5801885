/- Part 42 of 48 of a proof; its texts, joined: NqT, NuP, NvE, NuM. No condition. -/
import Derived.Test.YtncnoeoicaglaaaGreatVc41
import Derived.Test.YtncnoeoicaglaaaGreatVc3
import Derived.Test.YtncnoeoicaglaaaGreatVc26
import Derived.Test.YtncnoeoicaglaaaGreatVc4

/- The notation's Parse, of a text without macros. -/
namespace Go.Proofs.YtncnoeoicaglaaaGreat
open Go.RowKit
open Tr (Nd)
open Lx (PTok)
open Np (R)
attribute [local go_sem] stillV stillUpon
def ParseXE (w : World) (X : R (List Nd)) (e : Ending) (w' : World) : Prop :=
 match X with
 | .ok items _ => (Tr.valid (Np.slot items) = true ∧ ∃ A cp, e = .returned (.tuple #[.agg #[.int .i64 1, .string ⟨#[]⟩, .int .i64 0, .slice A items.length cp], .int .i64 0, .int .i64 0]) ∧ TreT w.heap.size w' items (.slice A items.length cp) ∧ Fresh w w') ∨
   (Tr.valid (Np.slot items) = false ∧ e = .returned (.tuple #[.agg zeroN, .int .i64 0, .int .i64 6]) ∧ Fresh w w')
 | .err i er => er ≠ 0 ∧ e = .returned (.tuple #[.agg zeroN, .int .i64 (i : Int), .int .i64 (er : Int)]) ∧ Fresh w w'
 | .out => True
theorem parseS_ends (l : List UInt8) : parseS l ≠ .out := by
 unfold parseS
 split
 ·exact Np.parseT_ends _ _
 ·intro h; cases h
set_option maxRecDepth 100000 in
set_option maxHeartbeats 1000000 in
theorem parseX_any (s : ByteArray) (w : World) (hm : s.size ≤ 1000000000) (hc : (Lx.lexAll s.data.toList).1.length ≤ 8000) : Calls Tryz.prog 6 #[.string s, .pointer none] w (ParseXE w (parseS s.data.toList)) := by
 have HP := hid (fun w' => parse_any s w' hm hc)
 have HN := hid (parseS_ends s.data.toList)
 clear hm hc
 refine Calls.via fun Q hQ => ?_
 have HQ := hid hQ
 clear hQ
 go_enter Tryz.func6, Tryz.ntmps6
 go_wp2_with fail
 refine (HP.out _).mono ?_
 intro e w2 hres
 generalize parseS s.data.toList = X at HQ HN hres
 clear HP
 cases X with
 | out => exact absurd rfl HN.out
 | err i er =>
  obtain ⟨he0, rfl, hf⟩ := hres
  have HE0 := hid he0
  have e0 := fail_ne he0
  have hb2 := hf.blk (Blk.new w 26 #[.int .i64 0, .string ⟨#[]⟩, .int .i64 0, .slice none 0 0]) (fun h => h)
  have hf2 : Fresh w w2 := Touch.pre hf
  clear hf he0
  unfold failV zeroN
  go_wp2_with fail
  have hb3 := (hb2.alloc (.cells #[.int .i64 0, .string ⟨#[]⟩, .int .i64 0, .slice none 0 0] 26)).alloc (.cells #[.int .i64 (i : Int), .int .i64 (er : Int)] 56)
  have hf3 := (hf2.alloc (.cells #[.int .i64 0, .string ⟨#[]⟩, .int .i64 0, .slice none 0 0] 26)).alloc (.cells #[.int .i64 (i : Int), .int .i64 (er : Int)] 56)
  have h93 : Blk ((w2.alloc (.cells #[.int .i64 0, .string ⟨#[]⟩, .int .i64 0, .slice none 0 0] 26)).alloc (.cells #[.int .i64 (i : Int), .int .i64 (er : Int)] 56)) (w2.heap.size + 1) 56 #[.int .i64 (i : Int), .int .i64 (er : Int)] := Blk.new2 _ _ _ _
  generalize ((w2.alloc (.cells #[.int .i64 0, .string ⟨#[]⟩, .int .i64 0, .slice none 0 0] 26)).alloc (.cells #[.int .i64 (i : Int), .int .i64 (er : Int)] 56)) = W3 at hb3 hf3 h93 ⊢
  have HS2 := hid (show w.heap.size < w2.heap.size from hb2.lt)
  have HB3 := hid hb3
  have HF3 := hid hf3
  have H93 := hid h93
  clear hb2 hf2 hb3 hf3 h93
  refine wp_region_in (fun W => Blk W (w2.heap.size + 1) 56 #[.int .i64 (i : Int), .int .i64 (er : Int)] ∧ Blk W w.heap.size 26 #[.int .i64 0, .string ⟨#[]⟩, .int .i64 0, .slice none 0 0]) [(0, true), (1, true), (2, true), (3, true), (4, true), (5, false), (6, true), (7, true)] (by kernel_rfl) (fun _ _ d _ _ h => by cases d <;> exact h) (by kernel_rfl) ⟨H93.out.drewN 1, HB3.out.drewN 1⟩ ?_
  refine wpSeq_plain rfl (fun K hK => ?_)
  rw [if_pos (by rfl)]
  refine ⟨.agg #[.int .i64 0, .string ⟨#[]⟩, .int .i64 0, .slice none 0 0], fun W hW => ?_, hK _ ?_⟩
  ·go_simp
  clear hK K
  refine wpSeq_plain rfl (fun K hK => ?_)
  rw [if_pos (by rfl)]
  refine ⟨.pointer (some ⟨w2.heap.size + 1, 0, none⟩), fun W hW => ?_, hK _ ?_⟩
  ·go_simp
  clear hK K
  refine wpSeq_plain rfl (fun K hK => ?_)
  rw [if_pos (by rfl)]
  refine ⟨.int .i64 (i : Int), fun W hW => ?_, hK _ ?_⟩
  ·obtain ⟨h1, _⟩ := hW
   obtain ⟨p0, p1, _⟩ := Blk.two h1
   go_simp
  clear hK K
  refine wpSeq_plain rfl (fun K hK => ?_)
  rw [if_pos (by rfl)]
  refine ⟨.pointer (some ⟨w2.heap.size + 1, 1, none⟩), fun W hW => ?_, hK _ ?_⟩
  ·go_simp
  clear hK K
  refine wpSeq_plain rfl (fun K hK => ?_)
  rw [if_pos (by rfl)]
  refine ⟨.int .i64 (er : Int), fun W hW => ?_, hK _ ?_⟩
  ·obtain ⟨h1, _⟩ := hW
   obtain ⟨p0, p1, _⟩ := Blk.two h1
   go_simp
  clear hK K
  obtain ⟨p0, p1, p2, p3, y0, y1, y2, y3, hlt0⟩ := Blk.four (HB3.out.drewN 1)
  refine wpSeq_lone rfl (fun K hK => ?_)
  go_wp2_with fail
  have n1 := (HB3.out.drewN 1).self4 (.int .i64 0) (.string ⟨#[]⟩) (.int .i64 0) (.slice none 0 0)
  have n2 := (H93.out.drewN 1).far4 (L := w2.heap.size + 1) (g := w.heap.size) (by have := HS2.out; omega) (.int .i64 0) (.string ⟨#[]⟩) (.int .i64 0) (.slice none 0 0)
  have hm7 : Fresh w _ := (HF3.out.drewN 1).put4 (g := w.heap.size) (.inr (Nat.le_refl _)) (.int .i64 0) (.string ⟨#[]⟩) (.int .i64 0) (.slice none 0 0)
  simp only [put4] at n1 n2 hm7
  generalize (World.setCell (World.setCell (World.setCell (World.setCell (W3.drewN 1) ⟨w.heap.size, 0, none⟩ _) ⟨w.heap.size, 1, none⟩ _) ⟨w.heap.size, 2, none⟩ _) ⟨w.heap.size, 3, none⟩ _) = W7 at n1 n2 hm7 ⊢
  refine hK _ _ ⟨n2, n1⟩ ?_
  clear hK K p0 p1 p2 p3 y0 y1 y2 y3 hlt0
  refine wpSeq_plain rfl (fun K hK => ?_)
  rw [if_pos (by rfl)]
  refine ⟨.int .i64 (i : Int), fun W hW => ?_, hK _ ?_⟩
  ·go_simp
  clear hK K
  refine wpSeq_plain rfl (fun K hK => ?_)
  rw [if_pos (by rfl)]
  refine ⟨.int .i64 (er : Int), fun W hW => ?_, hK _ ?_⟩
  ·go_simp
  clear hK K
  refine wpSeq_end ?_
  go_wp2_with fail
  obtain ⟨g0, g1, g2, g3, _⟩ := Blk.four n1
  (try simp only [Exit.inBlock, Exit.then])
  refine bodyPost_ret (v := .tuple #[.agg zeroN, .int .i64 (i : Int), .int .i64 (er : Int)]) (by simp [results, Tryz.results6, go_sem, g0, g1, g2, g3]) rfl ?_
  exact HQ.out _ _ ⟨HE0.out, rfl, hm7⟩
 | ok items rest =>
  obtain ⟨A, cp, rfl, htr, hf⟩ := hres
  have hb2 := hf.blk (Blk.new w 26 #[.int .i64 0, .string ⟨#[]⟩, .int .i64 0, .slice none 0 0]) (fun h => h)
  have hf2 : Fresh w w2 := Touch.pre hf
  have htr2 : TreT (w.heap.size + 1) w2 items (.slice A items.length cp) := htr.base (by simp)
  have HS2 := hid (show w.heap.size < w2.heap.size from hb2.lt)
  have hb3 := (hb2.alloc (.cells #[.int .i64 1, .string ⟨#[]⟩, .int .i64 0, .slice A items.length cp] 26)).alloc (.cells #[.int .i64 0, .int .i64 0] 56)
  have hf3 := (hf2.alloc (.cells #[.int .i64 1, .string ⟨#[]⟩, .int .i64 0, .slice A items.length cp] 26)).alloc (.cells #[.int .i64 0, .int .i64 0] 56)
  have h73 : Blk ((w2.alloc (.cells #[.int .i64 1, .string ⟨#[]⟩, .int .i64 0, .slice A items.length cp] 26)).alloc (.cells #[.int .i64 0, .int .i64 0] 56)) w2.heap.size 26 #[.int .i64 1, .string ⟨#[]⟩, .int .i64 0, .slice A items.length cp] := (Blk.new _ _ _).alloc _
  have ht3 := htr2.fresh (((Touch.refl _ w2).alloc (.cells #[.int .i64 1, .string ⟨#[]⟩, .int .i64 0, .slice A items.length cp] 26)).alloc (.cells #[.int .i64 0, .int .i64 0] 56))
  have HB3 := hid hb3
  have HF3 := hid hf3
  have H73 := hid h73
  have HT3 := hid ht3
  clear hf htr hb2 hf2 htr2 hb3 hf3 h73 ht3
  unfold failV
  go_wp2_with fail
  generalize ((w2.alloc (.cells #[.int .i64 1, .string ⟨#[]⟩, .int .i64 0, .slice A items.length cp] 26)).alloc (.cells #[.int .i64 0, .int .i64 0] 56)) = W3 at HB3 HF3 H73 HT3 ⊢
  refine (valid_all (Np.slot items) (.slice A items.length cp) W3 HT3.out.rep (Nat.zero_le _)).mono ?_
  rintro _ w4 ⟨rfl, hf⟩
  have HB4 := hid (hf.blk HB3.out fun h => h)
  have HF4 := hid (HF3.out.trans hf)
  have H74 := hid (hf.blk H73.out fun h => h)
  have HT4 := hid (HT3.out.fresh hf)
  clear hf
  obtain ⟨p0, p1, p2, p3, y0, y1, y2, y3, hlt0⟩ := Blk.four HB4.out
  cases hv : Tr.valid (Np.slot items) with
  | false =>
   go_wp2_with fail
   have n1 := HB4.out.self4 (.int .i64 0) (.string ⟨#[]⟩) (.int .i64 0) (.slice none 0 0)
   have hm7 : Fresh w _ := HF4.out.put4 (g := w.heap.size) (.inr (Nat.le_refl _)) (.int .i64 0) (.string ⟨#[]⟩) (.int .i64 0) (.slice none 0 0)
   obtain ⟨g0, g1, g2, g3, _⟩ := Blk.four n1
   simp only [put4] at g0 g1 g2 g3 hm7
   (try simp only [Exit.inBlock, Exit.then])
   refine bodyPost_ret (v := .tuple #[.agg zeroN, .int .i64 0, .int .i64 6]) (by simp [results, Tryz.results6, go_sem, g0, g1, g2, g3]) rfl ?_
   exact HQ.out _ _ (.inr ⟨hv, rfl, hm7⟩)
  | true =>
   obtain ⟨s0, s1, s2, s3, _, _, _, _, hlt7⟩ := Blk.four H74.out
   go_wp2_with fail
   have n1 := HB4.out.self4 (.int .i64 1) (.string ⟨#[]⟩) (.int .i64 0) (.slice A items.length cp)
   have hm7 : Fresh w _ := HF4.out.put4 (g := w.heap.size) (.inr (Nat.le_refl _)) (.int .i64 1) (.string ⟨#[]⟩) (.int .i64 0) (.slice A items.length cp)
   have htt := HT4.out.far (touch4 w4 w.heap.size (.int .i64 1) (.string ⟨#[]⟩) (.int .i64 0) (.slice A items.length cp)) (by omega)
   obtain ⟨g0, g1, g2, g3, _⟩ := Blk.four n1
   simp only [put4] at g0 g1 g2 g3 hm7 htt
   (try simp only [Exit.inBlock, Exit.then])
   refine bodyPost_ret (v := .tuple #[.agg #[.int .i64 1, .string ⟨#[]⟩, .int .i64 0, .slice A items.length cp], .int .i64 0, .int .i64 0]) (by simp [results, Tryz.results6, go_sem, g0, g1, g2, g3]) rfl ?_
   exact HQ.out _ _ (.inl ⟨hv, A, cp, rfl, htt.base (by omega), hm7⟩)
end Go.Proofs.YtncnoeoicaglaaaGreat

/- Parse in one form. -/
namespace Go.Proofs.YtncnoeoicaglaaaGreat
open Go.RowKit
open Tr (Nd)
open Np (R)
def noNd : Nd := .mk 0 [] 0 []
def pN : R (List Nd) → Nd
 | .ok items _ => if Tr.valid (Np.slot items) then Np.slot items else noNd
 | _ => noNd
def pI : R (List Nd) → Nat
 | .err i _ => i
 | _ => 0
def pE : R (List Nd) → Nat
 | .ok items _ => if Tr.valid (Np.slot items) then 0 else 6
 | .err _ e => e
 | .out => 0
theorem pN_text (X : R (List Nd)) : (pN X).text.length ≤ maxLen := by
 unfold pN
 split
 ·split <;> exact Nat.zero_le _
 ·exact Nat.zero_le _
theorem parse_call (s : ByteArray) (w : World) (hm : s.size ≤ 1000000000) (hc : (Lx.lexAll s.data.toList).1.length ≤ 8000) : Calls Tryz.prog 6 #[.string s, .pointer none] w fun e w' =>
  ∃ A cap, e = .returned (.tuple #[nv (pN (parseS s.data.toList)) (.slice A (pN (parseS s.data.toList)).kids.length cap), .int .i64 (pI (parseS s.data.toList) : Int), .int .i64 (pE (parseS s.data.toList) : Int)]) ∧ RepL w' (pN (parseS s.data.toList)).kids (.slice A (pN (parseS s.data.toList)).kids.length cap) ∧ Fresh w w' := by
 refine (parseX_any s w hm hc).mono ?_
 intro e w' h
 have hne := parseS_ends s.data.toList
 generalize parseS s.data.toList = X at h hne
 cases X with
 | out => exact absurd rfl hne
 | err i er =>
  obtain ⟨_, rfl, hf⟩ := h
  exact ⟨none, 0, rfl, .nil _ _, hf⟩
 | ok items rest =>
  rcases h with ⟨hv, A, cp, rfl, htr, hf⟩ | ⟨hv, rfl, hf⟩
  ·have e1 : pN (.ok items rest) = Np.slot items := by simp [pN, hv]
   have e2 : pE (.ok items rest) = 0 := by simp [pE, hv]
   rw [e1, e2]
   exact ⟨A, cp, rfl, htr.rep, hf⟩
  ·have e1 : pN (.ok items rest) = noNd := by simp [pN, hv]
   have e2 : pE (.ok items rest) = 6 := by simp [pE, hv]
   rw [e1, e2]
   exact ⟨none, 0, rfl, .nil _ _, hf⟩
theorem count_rep {n : Nd} : Tr.eqN n n = true := (Tr.eqN_iff n n).2 rfl
theorem pE_valid {X : R (List Nd)} (h : pE X = 0) (hne : X ≠ .out) (he : ∀ i e, X = .err i e → e ≠ 0) : Tr.valid (pN X) = true := by
 cases X with
 | out => exact absurd rfl hne
 | err i e => exact absurd h (he i e rfl)
 | ok items r =>
  cases hv : Tr.valid (Np.slot items) with
  | true => simp [pN, hv]
  | false => simp [pE, hv] at h
theorem valid_count {n : Nd} (h : Tr.valid n = true) : Tr.count n ≤ 1000 := by
 unfold Tr.valid at h
 simp only [Bool.and_eq_true, decide_eq_true_eq] at h
 exact h.1.2
theorem pN_count (X : R (List Nd)) : Tr.count (pN X) ≤ 1000 := by
 unfold pN
 split
 ·split
  ·rename_i hv; exact valid_count hv
  ·decide
 ·decide
end Go.Proofs.YtncnoeoicaglaaaGreat

/- The statements' own example: awake of layer 20. -/
namespace Go.Proofs.YtncnoeoicaglaaaGreat
open Go.RowKit
open Tr (Nd)
open Np (R)
def bothTree : Nd := .mk 1 [] 0 [.mk 9 [] 0 [.mk 1 [] 0 [.mk 2 [120] 0 []], .mk 1 [] 0 [.mk 3 [50] 0 []], .mk 1 [] 0 [.mk 3 [49] 0 []]]]
def bothTree' : Nd := .mk 1 [] 0 [.mk 9 [] 0 [.mk 1 [] 0 [.mk 2 [120] 0 []], .mk 1 [] 0 [.mk 3 [49] 0 []], .mk 1 [] 0 [.mk 3 [50] 0 []]]]
theorem both_parse : parseS [120, 94, 50, 95, 49] = .ok bothTree'.kids [] := by kernel_rfl
theorem open_parse : parseS [40, 97, 93] = .err 2 3 := by kernel_rfl
theorem both_valid : Tr.valid (Np.slot bothTree'.kids) = true := by kernel_rfl
theorem both_dump : dumpT bothTree' = [114, 111, 119, 40, 98, 111, 116, 104, 40, 114, 111, 119, 40, 115, 121, 109, 58, 34, 120, 34, 41, 32, 114, 111, 119, 40, 110, 117, 109, 58, 34, 49, 34, 41, 32, 114, 111, 119, 40, 110, 117, 109, 58, 34, 50, 34, 41, 41, 41] := by kernel_rfl
theorem both_ok : dumpOK bothTree' = true := by kernel_rfl
theorem both_first (w : World) : Calls Tryz.prog 6 #[.string ⟨#[120, 94, 50, 95, 49]⟩, .pointer none] w fun e w' =>
  ∃ A cap, e = .returned (.tuple #[.agg #[.int .i64 1, .string ⟨#[]⟩, .int .i64 0, .slice A 1 cap], .int .i64 0, .int .i64 0]) ∧ RepL w' bothTree'.kids (.slice A 1 cap) ∧ Fresh w w' := by
 have h := parse_call ⟨#[120, 94, 50, 95, 49]⟩ w (by decide) (by show (Lx.lexAll [120, 94, 50, 95, 49]).1.length ≤ 8000; decide +kernel)
 have e0 : (⟨#[120, 94, 50, 95, 49]⟩ : ByteArray).data.toList = [120, 94, 50, 95, 49] := rfl
 have e1 : pN (.ok bothTree'.kids []) = Np.slot bothTree'.kids := by simp only [pN, both_valid, if_true]
 have e2 : pE (.ok bothTree'.kids []) = 0 := by simp only [pE, both_valid, if_true]
 rw [e0, both_parse, e1, e2] at h
 exact h
theorem both_second (w : World) : Calls Tryz.prog 6 #[.string ⟨#[40, 97, 93]⟩, .pointer none] w fun e w' =>
  ∃ A cap, e = .returned (.tuple #[.agg #[.int .i64 0, .string ⟨#[]⟩, .int .i64 0, .slice A 0 cap], .int .i64 2, .int .i64 3]) ∧ Fresh w w' := by
 have h := parse_call ⟨#[40, 97, 93]⟩ w (by decide) (by show (Lx.lexAll [40, 97, 93]).1.length ≤ 8000; decide +kernel)
 have e0 : (⟨#[40, 97, 93]⟩ : ByteArray).data.toList = [40, 97, 93] := rfl
 rw [e0, open_parse] at h
 refine h.mono ?_
 rintro _ w' ⟨A, cap, rfl, _, hf⟩
 exact ⟨A, cap, rfl, hf⟩
set_option maxRecDepth 100000 in
set_option maxHeartbeats 1000000 in
theorem awake20_any (w : World) : Calls Tryz.prog 5 #[] w fun e w' => e = .returned (.bool true) ∧ Fresh w w' := by
 go_enter Tryz.func5, Tryz.ntmps5
 go_wp2_with fail
 refine (both_first _).mono ?_
 rintro _ w1 ⟨A, cap, rfl, hr, hf1⟩
 have HF1 := hid hf1
 have HR1 := hid hr
 have HB1 := hid (Blk.new w1 26 #[.int .i64 1, .string ⟨#[]⟩, .int .i64 0, .slice A 1 cap])
 clear hf1 hr
 go_wp2_with fail
 refine (both_second _).mono ?_
 rintro _ w2 ⟨B, cap2, rfl, hf2⟩
 have HF2 := hid ((HF1.out.alloc (.cells #[.int .i64 1, .string ⟨#[]⟩, .int .i64 0, .slice A 1 cap] 26)).trans hf2)
 have HR2 := hid (HR1.out.fresh (((Touch.refl _ w1).alloc (.cells #[.int .i64 1, .string ⟨#[]⟩, .int .i64 0, .slice A 1 cap] 26)).trans hf2))
 have HB2 := hid (hf2.blk HB1.out fun h => h)
 clear hf2 HB1 HF1 HR1
 obtain ⟨p0, p1, p2, p3, _, _, _, _, hlt⟩ := Blk.four HB2.out
 go_wp2_with fail
 refine (dump_any _ bothTree' _ _ (Nat.le_refl _) (HR2.out.fresh ((Touch.refl _ _).alloc _)) both_ok (by rw [both_dump]; decide)).mono ?_
 rintro _ w3 ⟨rfl, hf3⟩
 have HF3 := hid ((HF2.out.alloc _).trans hf3)
 rw [both_dump]
 clear hf3 p0 p1 p2 p3 hlt
 go_wp2_with fail
 go_ret
 exact ⟨rfl, HF3.out⟩
end Go.Proofs.YtncnoeoicaglaaaGreat

/- Readers with more fuel; one step of the lexer. No program in sight. -/
namespace Go.Proofs.YtncnoeoicaglaaaGreat.Np
open Lx (PTok Tok)
open Tr (Nd)
theorem R.bind_mono {α β : Type} {x x' : R α} {k k' : α → List PTok → R β} (hx : x ≠ .out → x' = x) (hk : ∀ a r, k a r ≠ .out → k' a r = k a r) (h : x.bind k ≠ .out) : x'.bind k' = x.bind k := by
 have hx' : x ≠ .out := fun e => h (by rw [e]; rfl)
 rw [hx hx']
 cases x with
 | ok a r => exact hk a r h
 | err i e => rfl
 | out => exact absurd rfl hx'
theorem R.map_mono {α β : Type} {x x' : R α} {k : α → β} (hx : x ≠ .out → x' = x) (h : x.map k ≠ .out) : x'.map k = x.map k := R.bind_mono hx (fun _ _ _ => rfl) h
theorem ite_mono {α : Type} {c : Prop} [Decidable c] {a a' b b' : R α} (ha : a ≠ .out → a' = a) (hb : b ≠ .out → b' = b) (h : (if c then a else b) ≠ .out) : (if c then a' else b') = if c then a else b := by
 by_cases hc : c
 ·rw [if_pos hc] at h ⊢; rw [if_pos hc]; exact ha h
 ·rw [if_neg hc] at h ⊢; rw [if_neg hc]; exact hb h
structure Mono (en f : Nat) : Prop where
 row : ∀ op l, pRow en f op l ≠ .out → pRow en (f + 1) op l = pRow en f op l
 within : ∀ b op l, pIn en f b op l ≠ .out → pIn en (f + 1) b op l = pIn en f b op l
 arg : ∀ op l, pArg en f op l ≠ .out → pArg en (f + 1) op l = pArg en f op l
 args : ∀ n op l, pArgs en f n op l ≠ .out → pArgs en (f + 1) n op l = pArgs en f n op l
 script : ∀ b op l, pScript en f b op l ≠ .out → pScript en (f + 1) b op l = pScript en f b op l
 item : ∀ op l, pItem en f op l ≠ .out → pItem en (f + 1) op l = pItem en f op l
 prim : ∀ op l, pPrim en f op l ≠ .out → pPrim en (f + 1) op l = pPrim en f op l
 name : ∀ op t r, pName en f op t r ≠ .out → pName en (f + 1) op t r = pName en f op t r
 cells : ∀ op ks b c l, pCells en f op ks b c l ≠ .out → pCells en (f + 1) op ks b c l = pCells en f op ks b c l
theorem mono (en : Nat) : ∀ f, Mono en f
 | 0 => by
  constructor
  ·intro op l h; exact absurd (by rw [pRow]) h
  ·intro b op l h; exact absurd (by rw [pIn]) h
  ·intro op l h; exact absurd (by rw [pArg]) h
  ·intro n op l h; exact absurd (by rw [pArgs]) h
  ·intro b op l h; exact absurd (by rw [pScript]) h
  ·intro op l h; exact absurd (by rw [pItem]) h
  ·intro op l h; exact absurd (by rw [pPrim]) h
  ·intro op t r h; exact absurd (by rw [pName]) h
  ·intro op ks b c l h; exact absurd (by rw [pCells]) h
 | f + 1 => by
  have ih := mono en f
  constructor
  ·intro op l h
   rw [pRow] at h
   rw [pRow, pRow]
   exact ite_mono (fun _ => rfl) (fun h => ite_mono (fun _ => rfl) (fun h => R.bind_mono (ih.item op l) (fun a r h => R.map_mono (ih.row op r) h) h) h) h
  ·intro b op l h
   rw [pIn] at h
   rw [pIn, pIn]
   exact R.bind_mono (ih.row _ _) (fun _ _ _ => rfl) h
  ·intro op l h
   cases l with
   | nil => rw [pArg, pArg]
   | cons t r =>
    rw [pArg] at h
    rw [pArg, pArg]
    cases hl : leafOf t with
    | some x => rfl
    | none =>
     rw [hl] at h
     exact ite_mono (fun h => R.map_mono (ih.within _ _ _) h) (fun h => ite_mono (fun _ => rfl) (fun _ => rfl) h) h
  ·intro n op l h
   cases n with
   | zero => rw [pArgs, pArgs]
   | succ n =>
    rw [pArgs] at h
    rw [pArgs, pArgs]
    exact R.bind_mono (ih.arg op l) (fun a r h => R.map_mono (ih.args n op r) h) h
  ·intro b op l h
   rw [pScript] at h
   rw [pScript, pScript]
   exact ite_mono (fun h => R.map_mono (ih.arg op _) h) (fun _ => rfl) h
  ·intro op l h
   rw [pItem] at h
   rw [pItem, pItem]
   exact R.bind_mono (ih.prim op l) (fun a r h => R.bind_mono (ih.script 95 op r) (fun sub r h => R.bind_mono (ih.script 94 op r) (fun sup r h => ite_mono (fun h => R.bind_mono (ih.script 95 op r) (fun _ _ _ => rfl) h) (fun _ => rfl) h) h) h) h
  ·intro op l h
   cases l with
   | nil => rw [pPrim, pPrim]
   | cons t r =>
    rw [pPrim] at h
    rw [pPrim, pPrim]
    cases hl : leafOf t with
    | some x => rfl
    | none =>
     rw [hl] at h
     exact ite_mono (ih.name op t r) (fun h => ite_mono (fun h => R.map_mono (ih.args 1 op r) h) (fun h => ite_mono (fun h => R.map_mono (ih.within _ _ _) h) (fun h => ite_mono (fun h => R.map_mono (ih.within _ _ _) h) (fun h => ite_mono (ih.within _ _ _) (fun _ => rfl) h) h) h) h) h
  ·intro op t r h
   rw [pName] at h
   rw [pName, pName]
   exact ite_mono (fun h => R.map_mono (ih.args 2 op r) h) (fun h => ite_mono (fun h => ite_mono (fun h => R.bind_mono (ih.within _ _ _) (fun d r h => R.map_mono (ih.args 1 op r) h) h) (fun h => R.map_mono (ih.args 1 op r) h) h)
    (fun h => ite_mono (fun h => ite_mono (fun h => R.map_mono (ih.cells _ _ _ _ _) h) (fun _ => rfl) h) (fun h => ite_mono (fun h => R.map_mono (ih.args 1 op r) h) (fun _ => rfl) h) h) h) h
  ·intro op ks b c l h
   rw [pCells] at h
   rw [pCells, pCells]
   exact R.bind_mono (ih.row op l) (fun items r h => ite_mono (ih.cells _ _ _ _ _) (fun h => ite_mono (fun _ => rfl) (fun h => ite_mono (fun _ => rfl) (fun h => ite_mono (fun _ => rfl) (ih.cells _ _ _ _ _) h) h) h) h) h
theorem row_mono (en : Nat) (op : List Nat) (l : List PTok) (f : Nat) (h : pRow en f op l ≠ .out) : ∀ n, pRow en (f + n) op l = pRow en f op l
 | 0 => rfl
 | n + 1 => by
  rw [← Nat.add_assoc, (mono en (f + n)).row op l (by rw [row_mono en op l f h n]; exact h), row_mono en op l f h n]
theorem parseT_of (en : Nat) (l : List PTok) (ks : List Nd) (h : Tr.Ev fun F => pRow en F [] l = .ok ks []) : parseT en l = .ok ks [] := by
 obtain ⟨F, h⟩ := h
 have hg := (good en (8 * l.length + 8)).row [] l (by omega)
 have hne : pRow en (8 * l.length + 8) [] l ≠ .out := fun e => by rw [e] at hg; exact hg
 have h1 := row_mono en [] l _ hne F
 rw [h _ (by omega)] at h1
 unfold parseT
 rw [← h1]
 rfl
end Go.Proofs.YtncnoeoicaglaaaGreat.Np
namespace Go.Proofs.YtncnoeoicaglaaaGreat.Lx
theorem drop_runLen (k : Nat) (r : Bytes) : headNot k (r.drop (runLen k r)) := by
 obtain ⟨y, _, _, h, e⟩ := runLen_split k r
 rw [← e]; exact h
theorem next_munch (r : Bytes) (t : Tok) (n : Nat) (h : next r = .ok t n) : (t.kind = 2 → headNot 2 (r.drop n)) ∧ (t.kind = 4 → headNot 3 (r.drop n)) := by
 cases r with
 | nil => cases h
 | cons c q =>
  rw [next] at h
  split at h
  ·obtain ⟨rfl, rfl⟩ := lim_ok h
   refine ⟨fun _ => ?_, fun hk => by simp only at hk; omega⟩
   unfold numLen
   split
   ·rw [← List.drop_drop]
    exact drop_runLen 2 _
   ·exact drop_runLen 2 _
  ·split at h
   ·cases h
    exact ⟨fun hk => by simp only at hk; omega, fun hk => by simp only at hk; omega⟩
   ·split at h
    ·have := (quo_spell _ _ _ _ _ h).1
     exact ⟨fun hk => by omega, fun hk => by omega⟩
    ·split at h
     ·cases h
      exact ⟨fun hk => by simp only at hk; omega, fun hk => by simp only at hk; omega⟩
     ·split at h
      ·unfold name at h
       simp only at h
       split at h
       ·obtain ⟨rfl, rfl⟩ := lim_ok h
        refine ⟨fun hk => by simp only at hk; omega, fun _ => ?_⟩
        rw [← List.drop_drop]
        exact drop_runLen 3 _
       ·split at h
        ·cases h
         exact ⟨fun hk => by simp only at hk; omega, fun hk => by simp only at hk; omega⟩
        ·cases h
      ·split at h
       ·cases h
        exact ⟨fun hk => by simp only at hk; omega, fun hk => by simp only at hk; omega⟩
       ·split at h
        ·cases h
         exact ⟨fun hk => by simp only at hk; omega, fun hk => by simp only at hk; omega⟩
        ·cases h
theorem skip_at (l p sp y : Bytes) (hl : l = p ++ (sp ++ y)) (hsp : sp.all (isB 1) = true) (hy : headNot 1 y) : skip l p.length = p.length + sp.length := by
 unfold skip
 rw [runI_isB, hl, List.drop_left, runLen_app 1 sp y hsp hy]
theorem lex_step (l p sp : Bytes) (c : UInt8) (y : Bytes) (hl : l = p ++ (sp ++ c :: y)) (hsp : sp.all (isB 1) = true) (hc : isB 1 c = false) (hok : (lexFrom l p.length).2 = none) :
  ∃ t n, next (c :: y) = .ok t n ∧ (lexFrom l p.length).1.map tok = t :: (lexFrom l (p.length + sp.length + n)).1.map tok ∧ (lexFrom l (p.length + sp.length + n)).2 = none := by
 have hs : skip l p.length = p.length + sp.length := skip_at l p sp (c :: y) hl hsp (fun x hx => by cases hx; exact hc)
 have hlt : skip l p.length < l.length := by rw [hs, hl]; simp
 have hd : l.drop (skip l p.length) = c :: y := by
  rw [hs, hl, ← List.append_assoc]
  exact List.drop_left' (by simp)
 cases hn : next (l.drop (skip l p.length)) with
 | err i e => rw [lexFrom_err l _ i e hlt hn] at hok; cases hok
 | ok t n =>
  rw [lexFrom_ok l _ n t hlt hn] at hok ⊢
  rw [hd] at hn
  rw [hs] at hok ⊢
  exact ⟨t, n, hn, rfl, hok⟩
end Go.Proofs.YtncnoeoicaglaaaGreat.Lx
namespace Go.Proofs.YtncnoeoicaglaaaGreat.Np
open Lx (Tok TokOK PTok isB headNot spell flat lexFrom)
theorem take_spell {r : List UInt8} {t : Tok} {n : Nat} (h : Lx.next r = .ok t n) : r.take n = spell t ∧ n = (spell t).length := by
 have h1 := Lx.next_spell r t n h
 have h2 := Lx.next_pos r t n h
 refine ⟨h1, ?_⟩
 have := congrArg List.length h1
 rw [List.length_take] at this
 have e : (Lx.spellL t.kind t.text).length = (spell t).length := rfl
 omega
end Go.Proofs.YtncnoeoicaglaaaGreat.Np
