/- The reference printer: Print and Tokens. -/
import Derived.Test.YtilgpmpiidccjaaPqI
import Derived.Test.YtilgpmpiidccjaaPqG
import Derived.Test.YtilgpmpiidccjaaPp10
namespace Go.Proofs.Ytilgpmpiidccjaa
open Go.RowKit
open Tr (Nd rowT)

/-- A token at the place zero. -/
def pz (t : Lx.Tok) : Lx.PTok := ⟨t.kind, t.text, 0, 0⟩
theorem pz_tok (l : List Lx.Tok) : (l.map pz).map Lx.tok = l := by
  induction l with
  | nil => rfl
  | cons x l ih => rw [List.map_cons, List.map_cons, ih]; rfl
theorem pz_cells (l : List Lx.Tok) : l.flatMap tokC = (l.map pz).flatMap ptokCells := by
  induction l with
  | nil => rfl
  | cons x l ih => rw [List.flatMap_cons, List.map_cons, List.flatMap_cons, ih]; rfl
theorem pz_row {W : World} {B : Nat} {v : Value} {l : List Lx.Tok} (h : W.ownsRow B 73 4 v l.length (l.flatMap tokC)) : TokRow W v (l.map pz) := by
  refine owns_row (B := B) (e := 73) ?_
  rw [List.length_map, ← pz_cells]
  exact h
theorem pz_text (n : Nd) (h : Tr.valid n = true) : ∀ t ∈ (rowT n.kids).map pz, t.text.length ≤ 1000 := by
  intro t ht
  obtain ⟨x, hx, rfl⟩ := List.mem_map.1 ht
  exact Nat.le_trans (ok_text x (Tr.row_ok n (Tr.valid_row n h) x hx)) (by decide)
theorem pz_len (n : Nd) (h : Tr.valid n = true) (hc : Tr.count n ≤ 800) : ((rowT n.kids).map pz).length ≤ 4000 := by
  rw [List.length_map]
  have := row_len n (Tr.valid_row n h)
  omega

set_option maxRecDepth 100000 in
set_option maxHeartbeats 1000000 in
theorem rprint_any (n : Nd) (sl : Value) (w : World) (hr : RepL w n.kids sl) (ht : n.text.length ≤ maxLen) (hc : Tr.count n ≤ 800) :
    Calls Try.prog 12 #[nv n sl] w fun e w' => e = .returned (.tuple #[.string ⟨(printS n).toArray⟩, .int .i64 (printE n)]) ∧ Fresh w w' := by
  have HV := hid (fun (w : World) (hr : RepL w n.kids sl) => rValid_any n sl w hr ht (by omega))
  have HR := hid hr
  have HC := hid hc
  clear hr hc
  cases hv : Tr.valid n with
  | false =>
    have HS := hid (show printS n = [] from by unfold printS; rw [hv]; rfl)
    have HE := hid (show printE n = 1 from by unfold printE; rw [hv]; rfl)
    rw [HS.out, HE.out]
    go_enter Try.func12, Try.ntmps12
    go_wp2_with fail
    refine (HV.out _ (HR.out.fresh ((Touch.refl _ _).alloc _))).mono ?_
    rintro _ w1 ⟨rfl, hf⟩
    have HF := hid (Touch.pre hf)
    clear hf
    go_wp2_with fail
    go_ret2
    exact ⟨rfl, HF.out⟩
  | true =>
    have HS := hid (show printS n = Tr.wtext (((rowT n.kids).map pz).map Lx.tok) from by unfold printS; rw [hv, pz_tok]; rfl)
    have HE := hid (show printE n = 0 from by unfold printE; rw [hv]; rfl)
    have HROW := hid (rowR n (Tr.valid_row n hv) (by have := HC.out; omega))
    have HX := hid (pz_text n hv)
    have HL := hid (pz_len n hv HC.out)
    rw [HS.out, HE.out]
    go_enter Try.func12, Try.ntmps12
    go_wp2_with fail
    refine (HV.out _ (HR.out.fresh ((Touch.refl _ _).alloc _))).mono ?_
    rintro _ w1 ⟨rfl, hf⟩
    have HF := hid (Touch.pre hf)
    have hb1 := hf.blk (Blk.new _ _ _) (fun h => h)
    obtain ⟨q0, q1, q2, q3, _, _, _, _, hg⟩ := Blk.four hb1
    clear hf hb1
    go_wp2_with fail
    refine (HROW.out _ _ (HR.out.fresh HF.out)).mono ?_
    rintro _ w2 ⟨v, rfl, ho, hf⟩
    have HF2 := hid (HF.out.trans hf)
    have HT := hid (pz_row ho)
    clear hf ho q0 q1 q2 q3
    go_wp2_with fail
    refine (rwrite_any _ v _ HT.out HL.out HX.out).mono ?_
    rintro _ w3 ⟨rfl, hf⟩
    have HF3 := hid (HF2.out.trans hf)
    clear hf
    go_wp2_with fail
    go_ret2
    exact ⟨by rw [List.map_map]; rfl, HF3.out⟩

/-- How the reference's Tokens ends. -/
def RTokensOf (n : Nd) (w : World) (e : Ending) (w' : World) : Prop := ∃ v, e = .returned (.tuple #[v, .int .i64 (printE n)]) ∧ TokRow w' v (printT n) ∧ Fresh w w'

set_option maxRecDepth 100000 in
set_option maxHeartbeats 1000000 in
theorem rtokens_any (n : Nd) (sl : Value) (w : World) (hr : RepL w n.kids sl) (ht : n.text.length ≤ maxLen) (hc : Tr.count n ≤ 800) :
    Calls Try.prog 14 #[nv n sl] w (RTokensOf n w) := by
  have HV := hid (fun (w : World) (hr : RepL w n.kids sl) => rValid_any n sl w hr ht (by omega))
  have HR := hid hr
  have HC := hid hc
  clear hr hc
  cases hv : Tr.valid n with
  | false =>
    have HS := hid (show printT n = [] from by unfold printT; rw [hv]; rfl)
    have HE := hid (show printE n = 1 from by unfold printE; rw [hv]; rfl)
    go_enter Try.func14, Try.ntmps14
    go_wp2_with fail
    refine (HV.out _ (HR.out.fresh ((Touch.refl _ _).alloc _))).mono ?_
    rintro _ w1 ⟨rfl, hf⟩
    have HF := hid (Touch.pre hf)
    clear hf
    go_wp2_with fail
    go_ret2
    exact ⟨.slice none 0 0, by rw [HE.out]; rfl, by rw [HS.out]; exact TokRow.nil _, HF.out⟩
  | true =>
    have HS := hid (show printT n = (aT ((rowT n.kids).map pz) ((rowT n.kids).map pz).length).1 from by unfold printT; rw [hv, aT_all, pz_tok]; rfl)
    have HE := hid (show printE n = 0 from by unfold printE; rw [hv]; rfl)
    have HROW := hid (rowR n (Tr.valid_row n hv) (by have := HC.out; omega))
    have HX := hid (pz_text n hv)
    have HL := hid (pz_len n hv HC.out)
    go_enter Try.func14, Try.ntmps14
    go_wp2_with fail
    refine (HV.out _ (HR.out.fresh ((Touch.refl _ _).alloc _))).mono ?_
    rintro _ w1 ⟨rfl, hf⟩
    have HF := hid (Touch.pre hf)
    have hb1 := hf.blk (Blk.new _ _ _) (fun h => h)
    obtain ⟨q0, q1, q2, q3, _, _, _, _, hg⟩ := Blk.four hb1
    clear hf hb1
    go_wp2_with fail
    refine (HROW.out _ _ (HR.out.fresh HF.out)).mono ?_
    rintro _ w2 ⟨v, rfl, ho, hf⟩
    have HF2 := hid (HF.out.trans hf)
    have HT := hid (pz_row ho)
    clear hf ho q0 q1 q2 q3
    go_wp2_with fail
    refine (rplace_any _ v _ HT.out HL.out HX.out).mono ?_
    rintro _ w3 ⟨v3, rfl, ho3, hf⟩
    have HF3 := hid (HF2.out.trans hf)
    have HT3 := hid (owns_row ho3)
    clear hf ho3
    go_wp2_with fail
    go_ret2
    exact ⟨v3, by rw [HE.out]; rfl, by rw [HS.out]; exact HT3.out, HF3.out⟩
end Go.Proofs.Ytilgpmpiidccjaa
