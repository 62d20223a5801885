/- The reference printer's Item: a fraction, an accent, a fence. -/
import Derived.Test.YtilgpmpiidccjaaPqD
namespace Go.Proofs.Ytilgpmpiidccjaa
open Go.RowKit
open Tr (Nd argT baseT rowT itemT cellsT)

theorem own_tok1d {B i : Nat} (W : World) (t : Lx.Tok) (hi : W.heap.size = i) (hB : B ≤ W.heap.size) : ((W.alloc (.cells #[.int .i64 t.kind, .string ⟨t.text.toArray⟩, .int .i64 0, .int .i64 0] 73)).drew).ownsRow B 73 4 (.slice (some ⟨i, 0, none⟩) 1 1) [t].length ([t].flatMap tokC) := own_tok1 W t hi hB

set_option maxRecDepth 100000 in
set_option maxHeartbeats 2000000 in
theorem item_frac_r (tx cl : Value) (a b : Nd) (ha : ArgR a) (hb : ArgR b) (hl : (argT a ++ argT b).length ≤ 50000) (w : World) (sl : Value) (hsl : RepL w [a, b] sl) : Calls Try.prog 53 #[.agg #[.int .i64 5, tx, cl, sl]] w (TokRes w ([Tr.name Tr.sFrac] ++ (argT a ++ argT b))) := by
  obtain ⟨g, o, cap, sa, sb, rfl, a0, a1, a2, a3, hra, b0, b1, b2, b3, hrb⟩ := hsl.two
  obtain ⟨i0, hi, hz0, hz1, hz2⟩ := info_parts infoRTok
  have ARGa := hid ha
  have ARGb := hid hb
  have HLEN := hid hl
  clear ha hb hl
  have HRa := hid hra
  have HRb := hid hrb
  clear hsl hra hrb
  have XA0 := hid a0
  have XA1 := hid a1
  have XA2 := hid a2
  have XA3 := hid a3
  have XB0 := hid b0
  have XB1 := hid b1
  have XB2 := hid b2
  have XB3 := hid b3
  clear a0 a1 a2 a3 b0 b1 b2 b3
  go_enter Try.func53, Try.ntmps53
  go_wp2_with fail
  refine forget_world (fun W => Fresh w W ∧ Blk W w.heap.size 24 #[.int .i64 5, tx, cl, .slice (some ⟨g, o, none⟩) 2 cap]) ⟨(Touch.refl _ _).alloc _, Blk.new _ _ _⟩ ?_
  rintro W0 ⟨hf0, hb0⟩
  have HF0 := hid hf0
  have HB0 := hid hb0
  have hsz0 : w.heap.size ≤ W0.heap.size := Touch.size hf0
  have hltb0 : w.heap.size < W0.heap.size := Blk.lt hb0
  clear hf0 hb0
  have KP := hid (fun (W' : World) (ht : Touch (PR w W0) W0 W') => (⟨(PR.blk ht HB0.out (by decide)).cell 3, PR.old ht HF0.out XA0.out, PR.old ht HF0.out XA1.out, PR.old ht HF0.out XA2.out, PR.old ht HF0.out XA3.out⟩ : W'.cell? ⟨w.heap.size, 3, none⟩ = some (.slice (some ⟨g, o, none⟩) 2 cap) ∧ W'.cell? ⟨g, o, none⟩ = some (.int .i64 a.kind) ∧ W'.cell? ⟨g, o + 1, none⟩ = some (.string (⟨a.text.toArray⟩ : ByteArray)) ∧ W'.cell? ⟨g, o + 2, none⟩ = some (.int .i64 a.cols) ∧ W'.cell? ⟨g, o + 3, none⟩ = some (sa)))
  have hb_W0 := PR.blk (Touch.refl (PR w W0) W0) HB0.out (by decide)
  have q0_W0 : World.cell? W0 ⟨w.heap.size, 0, none⟩ = some (.int .i64 5) := Blk.cell hb_W0 0
  have q1_W0 : World.cell? W0 ⟨w.heap.size, 1, none⟩ = some (tx) := Blk.cell hb_W0 1
  have q2_W0 : World.cell? W0 ⟨w.heap.size, 2, none⟩ = some (cl) := Blk.cell hb_W0 2
  have q3_W0 : World.cell? W0 ⟨w.heap.size, 3, none⟩ = some (.slice (some ⟨g, o, none⟩) 2 cap) := Blk.cell hb_W0 3
  have hltb_W0 : w.heap.size < W0.heap.size := Blk.lt hb_W0
  have ya0_W0 : World.cell? W0 ⟨g, o, none⟩ = some (.int .i64 a.kind) := PR.old (Touch.refl (PR w W0) W0) HF0.out XA0.out
  have ya1_W0 : World.cell? W0 ⟨g, o + 1, none⟩ = some (.string (⟨a.text.toArray⟩ : ByteArray)) := PR.old (Touch.refl (PR w W0) W0) HF0.out XA1.out
  have ya2_W0 : World.cell? W0 ⟨g, o + 2, none⟩ = some (.int .i64 a.cols) := PR.old (Touch.refl (PR w W0) W0) HF0.out XA2.out
  have ya3_W0 : World.cell? W0 ⟨g, o + 3, none⟩ = some (sa) := PR.old (Touch.refl (PR w W0) W0) HF0.out XA3.out
  have yb0_W0 : World.cell? W0 ⟨g, o + 4, none⟩ = some (.int .i64 b.kind) := PR.old (Touch.refl (PR w W0) W0) HF0.out XB0.out
  have yb1_W0 : World.cell? W0 ⟨g, o + 4 + 1, none⟩ = some (.string (⟨b.text.toArray⟩ : ByteArray)) := PR.old (Touch.refl (PR w W0) W0) HF0.out XB1.out
  have yb2_W0 : World.cell? W0 ⟨g, o + 4 + 2, none⟩ = some (.int .i64 b.cols) := PR.old (Touch.refl (PR w W0) W0) HF0.out XB2.out
  have yb3_W0 : World.cell? W0 ⟨g, o + 4 + 3, none⟩ = some (sb) := PR.old (Touch.refl (PR w W0) W0) HF0.out XB3.out
  have hltg_W0 : g < W0.heap.size := block_lt_of_cell ya0_W0
  go_region_held3 (fun w' => w'.cell? ⟨w.heap.size, 3, none⟩ = some (.slice (some ⟨g, o, none⟩) 2 cap) ∧ w'.cell? ⟨g, o, none⟩ = some (.int .i64 a.kind) ∧ w'.cell? ⟨g, o + 1, none⟩ = some (.string (⟨a.text.toArray⟩ : ByteArray)) ∧ w'.cell? ⟨g, o + 2, none⟩ = some (.int .i64 a.cols) ∧ w'.cell? ⟨g, o + 3, none⟩ = some (sa)) (first | with_reducible exact KP.out _ HTa.out | with_reducible exact KP.out _ (Touch.alloc HTa.out _) | with_reducible exact KP.out _ HTb.out | with_reducible exact KP.out _ (Touch.alloc HTb.out _) | with_reducible exact KP.out _ HTd.out | with_reducible exact KP.out _ (Touch.alloc HTd.out _) | with_reducible exact KP.out _ (Touch.drew (Touch.refl (PR w W0) W0)) | with_reducible exact KP.out _ (Touch.drew (Touch.alloc (Touch.refl (PR w W0) W0) _)) | go_keep)
      (first
        | (go_simp; go_at_call 86; refine (rname_any [102, 114, 97, 99] _).mono ?_; rintro _ wa ⟨rfl, hfa⟩; have HTa := hid (PR.then (Touch.drew (Touch.refl (PR w W0) W0)) hfa); have hsza : w.heap.size ≤ wa.heap.size := Touch.size (PR.all HTa.out HF0.out); clear hfa)
        | (go_simp; go_at_call 87; refine (ARGa.out _ _ (HRa.out.fresh (PR.all (Touch.alloc HTa.out _) HF0.out))).mono ?_; rintro _ wb ⟨vb, rfl, hob, hfb⟩; have HTb := hid (PR.then (Touch.alloc HTa.out _) hfb); have hszb : w.heap.size ≤ wb.heap.size := Touch.size (PR.all HTb.out HF0.out); have HOb := hid (ownsRow_base (B' := w.heap.size) hob (Touch.size (PR.all (Touch.alloc HTa.out _) HF0.out))); have HOl := hid (ownsRow_touch (own_tok1 (B := w.heap.size) (i := wa.heap.size) _ (⟨4, [102, 114, 97, 99]⟩ : Lx.Tok) (by simp) (by first | exact hsza)) hfb (fun _ _ h => h)); clear hob hfb)
        | (go_simp; go_at_call 87; refine (ARGa.out _ _ (HRa.out.fresh (PR.all HTa.out HF0.out))).mono ?_; rintro _ wb ⟨vb, rfl, hob, hfb⟩; have HTb := hid (PR.then HTa.out hfb); have hszb : w.heap.size ≤ wb.heap.size := Touch.size (PR.all HTb.out HF0.out); have HOb := hid (ownsRow_base (B' := w.heap.size) hob (Touch.size (PR.all HTa.out HF0.out))); clear hob hfb)
        | (refine step_append_src _ rfl (.tmp 36) (.tmp 41) 34 rfl w.heap.size 73 i0 _ 4 40 Try.underlying34 hi hz0 hz1 hz2 rfl (by decide) (.slice (some ⟨wa.heap.size, 0, none⟩) 1 1) (([(⟨4, [102, 114, 97, 99]⟩ : Lx.Tok)] : List Lx.Tok)).length ((([(⟨4, [102, 114, 97, 99]⟩ : Lx.Tok)] : List Lx.Tok)).flatMap tokC) (by simp [Act.eval]) HOl.out (vb) (argT a).length ((argT a).flatMap tokC) (by simp [Act.eval]) (Src.of_own HOb.out) (tok_one _) (by have := HLEN.out; unfold maxLen; (try simp at this); (try simp); omega) (by have := HLEN.out; (try simp at this); (try simp); omega) (by first | assumption | (simp only [World.size_alloc]; omega)) ?_; intro vd wd ho hg _; rw [← List.length_append, ← List.flatMap_append] at ho; have HTd := hid (PR.grown HTb.out HOl.out hg); have hszd : w.heap.size ≤ wd.heap.size := Touch.size (PR.all HTd.out HF0.out); have HOd := hid ho; clear ho hg)
        | (refine step_append_src _ rfl (.tmp 36) (.tmp 41) 34 rfl w.heap.size 73 i0 _ 4 40 Try.underlying34 hi hz0 hz1 hz2 rfl (by decide) (.slice (some ⟨wb.heap.size, 0, none⟩) 1 1) (([(⟨4, [102, 114, 97, 99]⟩ : Lx.Tok)] : List Lx.Tok)).length ((([(⟨4, [102, 114, 97, 99]⟩ : Lx.Tok)] : List Lx.Tok)).flatMap tokC) (by simp [Act.eval]) (own_tok1 (B := w.heap.size) (i := wb.heap.size) _ (⟨4, [102, 114, 97, 99]⟩ : Lx.Tok) (by simp) (by first | exact hszb)) (vb) (argT a).length ((argT a).flatMap tokC) (by simp [Act.eval]) (Src.of_own (World.ownsRow.alloc HOb.out _)) (tok_one _) (by have := HLEN.out; unfold maxLen; (try simp at this); (try simp); omega) (by have := HLEN.out; (try simp at this); (try simp); omega) (by first | assumption | (simp only [World.size_alloc]; omega)) ?_; intro vd wd ho hg _; rw [← List.length_append, ← List.flatMap_append] at ho; have HTd := hid (PR.grown (Touch.alloc HTb.out _) (own_tok1 (B := w.heap.size) (i := wb.heap.size) _ (⟨4, [102, 114, 97, 99]⟩ : Lx.Tok) (by simp) (by first | exact hszb)) hg); have hszd : w.heap.size ≤ wd.heap.size := Touch.size (PR.all HTd.out HF0.out); have HOd := hid ho; clear ho hg))
  all_goals
    clear hb_W0 q0_W0 q1_W0 q2_W0 q3_W0 ya0_W0 ya1_W0 ya2_W0 ya3_W0 yb0_W0 yb1_W0 yb2_W0 yb3_W0
    have hb_wd := PR.blk HTd.out HB0.out (by decide)
    have q0_wd : World.cell? wd ⟨w.heap.size, 0, none⟩ = some (.int .i64 5) := Blk.cell hb_wd 0
    have q1_wd : World.cell? wd ⟨w.heap.size, 1, none⟩ = some (tx) := Blk.cell hb_wd 1
    have q2_wd : World.cell? wd ⟨w.heap.size, 2, none⟩ = some (cl) := Blk.cell hb_wd 2
    have q3_wd : World.cell? wd ⟨w.heap.size, 3, none⟩ = some (.slice (some ⟨g, o, none⟩) 2 cap) := Blk.cell hb_wd 3
    have hltb_wd : w.heap.size < wd.heap.size := Blk.lt hb_wd
    have ya0_wd : World.cell? wd ⟨g, o, none⟩ = some (.int .i64 a.kind) := PR.old HTd.out HF0.out XA0.out
    have ya1_wd : World.cell? wd ⟨g, o + 1, none⟩ = some (.string (⟨a.text.toArray⟩ : ByteArray)) := PR.old HTd.out HF0.out XA1.out
    have ya2_wd : World.cell? wd ⟨g, o + 2, none⟩ = some (.int .i64 a.cols) := PR.old HTd.out HF0.out XA2.out
    have ya3_wd : World.cell? wd ⟨g, o + 3, none⟩ = some (sa) := PR.old HTd.out HF0.out XA3.out
    have yb0_wd : World.cell? wd ⟨g, o + 4, none⟩ = some (.int .i64 b.kind) := PR.old HTd.out HF0.out XB0.out
    have yb1_wd : World.cell? wd ⟨g, o + 4 + 1, none⟩ = some (.string (⟨b.text.toArray⟩ : ByteArray)) := PR.old HTd.out HF0.out XB1.out
    have yb2_wd : World.cell? wd ⟨g, o + 4 + 2, none⟩ = some (.int .i64 b.cols) := PR.old HTd.out HF0.out XB2.out
    have yb3_wd : World.cell? wd ⟨g, o + 4 + 3, none⟩ = some (sb) := PR.old HTd.out HF0.out XB3.out
    have hltg_wd : g < wd.heap.size := block_lt_of_cell ya0_wd
    go_wp2_with fail
    refine Calls.mono (ARGb.out _ _ (HRb.out.fresh (PR.all HTd.out HF0.out))) ?_
    rintro _ we ⟨ve, rfl, hoe, hfe⟩
    have HTe := hid (PR.then HTd.out hfe)
    have hsze : w.heap.size ≤ we.heap.size := Touch.size (PR.all HTe.out HF0.out)
    have HOe := hid (ownsRow_base (B' := w.heap.size) hoe hszd)
    have HOd2 := hid (ownsRow_touch HOd.out hfe (fun _ _ h => h))
    clear hoe hfe
    go_wp2_with (at_builtin; refine wpList_append_src _ rfl (.tmp 43) (.tmp 48) 34 rfl w.heap.size 73 i0 _ 4 40 Try.underlying34 hi hz0 hz1 hz2 rfl (by decide) vd (([(⟨4, [102, 114, 97, 99]⟩ : Lx.Tok)] ++ argT a)).length (([(⟨4, [102, 114, 97, 99]⟩ : Lx.Tok)] ++ argT a).flatMap tokC) (by simp [Act.eval]) HOd2.out ve (argT b).length ((argT b).flatMap tokC) (by simp [Act.eval]) (Src.of_own HOe.out) (tok_one _) (by have := HLEN.out; unfold maxLen; (try simp at this); (try simp); omega) (by have := HLEN.out; (try simp at this); (try simp); omega) hsze ?_; intro vz wz ho hg _; refine Stay.mk ?_)
    rw [← List.length_append, ← List.flatMap_append] at ho
    have HTz := hid (PR.grown HTe.out HOd2.out hg)
    have HOz := hid ho
    clear ho hg
    refine Stay.go ?_
    go_wp2_with fail
    go_ret
    exact ⟨vz, rfl, ownCast HOz.out (by first | rfl | (simp only [List.append_assoc] <;> rfl) | (simp <;> rfl)), PR.all HTz.out HF0.out⟩

set_option maxRecDepth 100000 in
set_option maxHeartbeats 2000000 in
theorem item_accent_r (t : List UInt8) (cl : Value) (a : Nd) (ha : ArgR a) (hl : (argT a).length ≤ 50000) (w : World) (sl : Value) (hsl : RepL w [a] sl) : Calls Try.prog 53 #[.agg #[.int .i64 10, .string ⟨t.toArray⟩, cl, sl]] w (TokRes w ([Tr.name t] ++ argT a)) := by
  obtain ⟨g, o, cap, sa, rfl, a0, a1, a2, a3, hra⟩ := hsl.one
  obtain ⟨i0, hi, hz0, hz1, hz2⟩ := info_parts infoRTok
  have ARGa := hid ha
  have HLEN := hid hl
  clear ha hl
  have HRa := hid hra
  clear hsl hra
  have XA0 := hid a0
  have XA1 := hid a1
  have XA2 := hid a2
  have XA3 := hid a3
  clear a0 a1 a2 a3
  go_enter Try.func53, Try.ntmps53
  go_wp2_with fail
  refine forget_world (fun W => Fresh w W ∧ Blk W w.heap.size 24 #[.int .i64 10, .string ⟨t.toArray⟩, cl, .slice (some ⟨g, o, none⟩) 1 cap]) ⟨(Touch.refl _ _).alloc _, Blk.new _ _ _⟩ ?_
  rintro W0 ⟨hf0, hb0⟩
  have HF0 := hid hf0
  have HB0 := hid hb0
  have hsz0 : w.heap.size ≤ W0.heap.size := Touch.size hf0
  have hltb0 : w.heap.size < W0.heap.size := Blk.lt hb0
  clear hf0 hb0
  have KP := hid (fun (W' : World) (ht : Touch (PR w W0) W0 W') => (⟨(PR.blk ht HB0.out (by decide)).cell 1, (PR.blk ht HB0.out (by decide)).cell 3, PR.old ht HF0.out XA0.out, PR.old ht HF0.out XA1.out, PR.old ht HF0.out XA2.out, PR.old ht HF0.out XA3.out⟩ : W'.cell? ⟨w.heap.size, 1, none⟩ = some (.string ⟨t.toArray⟩) ∧ W'.cell? ⟨w.heap.size, 3, none⟩ = some (.slice (some ⟨g, o, none⟩) 1 cap) ∧ W'.cell? ⟨g, o, none⟩ = some (.int .i64 a.kind) ∧ W'.cell? ⟨g, o + 1, none⟩ = some (.string (⟨a.text.toArray⟩ : ByteArray)) ∧ W'.cell? ⟨g, o + 2, none⟩ = some (.int .i64 a.cols) ∧ W'.cell? ⟨g, o + 3, none⟩ = some (sa)))
  have hb_W0 := PR.blk (Touch.refl (PR w W0) W0) HB0.out (by decide)
  have q0_W0 : World.cell? W0 ⟨w.heap.size, 0, none⟩ = some (.int .i64 10) := Blk.cell hb_W0 0
  have q1_W0 : World.cell? W0 ⟨w.heap.size, 1, none⟩ = some (.string ⟨t.toArray⟩) := Blk.cell hb_W0 1
  have q2_W0 : World.cell? W0 ⟨w.heap.size, 2, none⟩ = some (cl) := Blk.cell hb_W0 2
  have q3_W0 : World.cell? W0 ⟨w.heap.size, 3, none⟩ = some (.slice (some ⟨g, o, none⟩) 1 cap) := Blk.cell hb_W0 3
  have hltb_W0 : w.heap.size < W0.heap.size := Blk.lt hb_W0
  have ya0_W0 : World.cell? W0 ⟨g, o, none⟩ = some (.int .i64 a.kind) := PR.old (Touch.refl (PR w W0) W0) HF0.out XA0.out
  have ya1_W0 : World.cell? W0 ⟨g, o + 1, none⟩ = some (.string (⟨a.text.toArray⟩ : ByteArray)) := PR.old (Touch.refl (PR w W0) W0) HF0.out XA1.out
  have ya2_W0 : World.cell? W0 ⟨g, o + 2, none⟩ = some (.int .i64 a.cols) := PR.old (Touch.refl (PR w W0) W0) HF0.out XA2.out
  have ya3_W0 : World.cell? W0 ⟨g, o + 3, none⟩ = some (sa) := PR.old (Touch.refl (PR w W0) W0) HF0.out XA3.out
  have hltg_W0 : g < W0.heap.size := block_lt_of_cell ya0_W0
  go_region_held3 (fun w' => w'.cell? ⟨w.heap.size, 1, none⟩ = some (.string ⟨t.toArray⟩) ∧ w'.cell? ⟨w.heap.size, 3, none⟩ = some (.slice (some ⟨g, o, none⟩) 1 cap) ∧ w'.cell? ⟨g, o, none⟩ = some (.int .i64 a.kind) ∧ w'.cell? ⟨g, o + 1, none⟩ = some (.string (⟨a.text.toArray⟩ : ByteArray)) ∧ w'.cell? ⟨g, o + 2, none⟩ = some (.int .i64 a.cols) ∧ w'.cell? ⟨g, o + 3, none⟩ = some (sa)) (first | with_reducible exact KP.out _ HTa.out | with_reducible exact KP.out _ (Touch.alloc HTa.out _) | with_reducible exact KP.out _ HTb.out | with_reducible exact KP.out _ (Touch.alloc HTb.out _) | with_reducible exact KP.out _ HTd.out | with_reducible exact KP.out _ (Touch.alloc HTd.out _) | with_reducible exact KP.out _ (Touch.drew (Touch.refl (PR w W0) W0)) | with_reducible exact KP.out _ (Touch.drew (Touch.alloc (Touch.refl (PR w W0) W0) _)) | go_keep)
      (first
        | (go_simp; go_at_call 86; refine (rname_any t _).mono ?_; rintro _ wa ⟨rfl, hfa⟩; have HTa := hid (PR.then (Touch.drew (Touch.refl (PR w W0) W0)) hfa); have hsza : w.heap.size ≤ wa.heap.size := Touch.size (PR.all HTa.out HF0.out); clear hfa)
        | (go_simp; go_at_call 87; refine (ARGa.out _ _ (HRa.out.fresh (PR.all (Touch.alloc HTa.out _) HF0.out))).mono ?_; rintro _ wb ⟨vb, rfl, hob, hfb⟩; have HTb := hid (PR.then (Touch.alloc HTa.out _) hfb); have hszb : w.heap.size ≤ wb.heap.size := Touch.size (PR.all HTb.out HF0.out); have HOb := hid (ownsRow_base (B' := w.heap.size) hob (Touch.size (PR.all (Touch.alloc HTa.out _) HF0.out))); have HOl := hid (ownsRow_touch (own_tok1 (B := w.heap.size) (i := wa.heap.size) _ (⟨4, t⟩ : Lx.Tok) (by simp) (by first | exact hsza)) hfb (fun _ _ h => h)); clear hob hfb)
        | (go_simp; go_at_call 87; refine (ARGa.out _ _ (HRa.out.fresh (PR.all HTa.out HF0.out))).mono ?_; rintro _ wb ⟨vb, rfl, hob, hfb⟩; have HTb := hid (PR.then HTa.out hfb); have hszb : w.heap.size ≤ wb.heap.size := Touch.size (PR.all HTb.out HF0.out); have HOb := hid (ownsRow_base (B' := w.heap.size) hob (Touch.size (PR.all HTa.out HF0.out))); clear hob hfb)
        | (refine step_append_src _ rfl (.tmp 81) (.tmp 86) 34 rfl w.heap.size 73 i0 _ 4 40 Try.underlying34 hi hz0 hz1 hz2 rfl (by decide) (.slice (some ⟨wa.heap.size, 0, none⟩) 1 1) (([(⟨4, t⟩ : Lx.Tok)] : List Lx.Tok)).length ((([(⟨4, t⟩ : Lx.Tok)] : List Lx.Tok)).flatMap tokC) (by simp [Act.eval]) HOl.out (vb) (argT a).length ((argT a).flatMap tokC) (by simp [Act.eval]) (Src.of_own HOb.out) (tok_one _) (by have := HLEN.out; unfold maxLen; (try simp at this); (try simp); omega) (by have := HLEN.out; (try simp at this); (try simp); omega) (by first | assumption | (simp only [World.size_alloc]; omega)) ?_; intro vd wd ho hg _; rw [← List.length_append, ← List.flatMap_append] at ho; have HTd := hid (PR.grown HTb.out HOl.out hg); have hszd : w.heap.size ≤ wd.heap.size := Touch.size (PR.all HTd.out HF0.out); have HOd := hid ho; clear ho hg)
        | (refine step_append_src _ rfl (.tmp 81) (.tmp 86) 34 rfl w.heap.size 73 i0 _ 4 40 Try.underlying34 hi hz0 hz1 hz2 rfl (by decide) (.slice (some ⟨wb.heap.size, 0, none⟩) 1 1) (([(⟨4, t⟩ : Lx.Tok)] : List Lx.Tok)).length ((([(⟨4, t⟩ : Lx.Tok)] : List Lx.Tok)).flatMap tokC) (by simp [Act.eval]) (own_tok1 (B := w.heap.size) (i := wb.heap.size) _ (⟨4, t⟩ : Lx.Tok) (by simp) (by first | exact hszb)) (vb) (argT a).length ((argT a).flatMap tokC) (by simp [Act.eval]) (Src.of_own (World.ownsRow.alloc HOb.out _)) (tok_one _) (by have := HLEN.out; unfold maxLen; (try simp at this); (try simp); omega) (by have := HLEN.out; (try simp at this); (try simp); omega) (by first | assumption | (simp only [World.size_alloc]; omega)) ?_; intro vd wd ho hg _; rw [← List.length_append, ← List.flatMap_append] at ho; have HTd := hid (PR.grown (Touch.alloc HTb.out _) (own_tok1 (B := w.heap.size) (i := wb.heap.size) _ (⟨4, t⟩ : Lx.Tok) (by simp) (by first | exact hszb)) hg); have hszd : w.heap.size ≤ wd.heap.size := Touch.size (PR.all HTd.out HF0.out); have HOd := hid ho; clear ho hg))
  all_goals
    go_wp2_with fail
    go_ret
    exact ⟨vd, rfl, ownCast HOd.out (by first | rfl | (simp only [List.append_assoc] <;> rfl) | (simp <;> rfl)), PR.all HTd.out HF0.out⟩

set_option maxRecDepth 100000 in
set_option maxHeartbeats 2000000 in
theorem item_fence_r (t : List UInt8) (h1 : t ≠ [40, 41]) (h2 : t ≠ [91, 93]) (cl : Value) (a : Nd) (ha : ArgR a) (hl : (argT a).length ≤ 50000) (w : World) (sl : Value) (hsl : RepL w [a] sl) : Calls Try.prog 53 #[.agg #[.int .i64 11, .string ⟨t.toArray⟩, cl, sl]] w (TokRes w ([⟨5, t⟩] ++ argT a)) := by
  obtain ⟨g, o, cap, sa, rfl, a0, a1, a2, a3, hra⟩ := hsl.one
  obtain ⟨i0, hi, hz0, hz1, hz2⟩ := info_parts infoRTok
  have t1 : (ByteArray.toList ⟨t.toArray⟩ == [40, 41]) = false := by rw [ByteArray.toList_eq]; simpa using h1
  have t2 : (ByteArray.toList ⟨t.toArray⟩ == [91, 93]) = false := by rw [ByteArray.toList_eq]; simpa using h2
  have s1 : ((⟨t.toArray⟩ : ByteArray) == (⟨#[40, 41]⟩ : ByteArray)) = false := by rw [str_eq']; simpa using h1
  have s2 : ((⟨t.toArray⟩ : ByteArray) == (⟨#[91, 93]⟩ : ByteArray)) = false := by rw [str_eq']; simpa using h2
  have u1 : (t == [40, 41]) = false := by simpa using h1
  have u2 : (t == [91, 93]) = false := by simpa using h2
  have ARGa := hid ha
  have HLEN := hid hl
  clear ha hl
  have HRa := hid hra
  clear hsl hra
  have XA0 := hid a0
  have XA1 := hid a1
  have XA2 := hid a2
  have XA3 := hid a3
  clear a0 a1 a2 a3
  go_enter Try.func53, Try.ntmps53
  go_wp2_with fail
  refine forget_world (fun W => Fresh w W ∧ Blk W w.heap.size 24 #[.int .i64 11, .string ⟨t.toArray⟩, cl, .slice (some ⟨g, o, none⟩) 1 cap]) ⟨(Touch.refl _ _).alloc _, Blk.new _ _ _⟩ ?_
  rintro W0 ⟨hf0, hb0⟩
  have HF0 := hid hf0
  have HB0 := hid hb0
  have hsz0 : w.heap.size ≤ W0.heap.size := Touch.size hf0
  have hltb0 : w.heap.size < W0.heap.size := Blk.lt hb0
  clear hf0 hb0
  have KP := hid (fun (W' : World) (ht : Touch (PR w W0) W0 W') => (⟨(PR.blk ht HB0.out (by decide)).cell 1, (PR.blk ht HB0.out (by decide)).cell 3, PR.old ht HF0.out XA0.out, PR.old ht HF0.out XA1.out, PR.old ht HF0.out XA2.out, PR.old ht HF0.out XA3.out⟩ : W'.cell? ⟨w.heap.size, 1, none⟩ = some (.string ⟨t.toArray⟩) ∧ W'.cell? ⟨w.heap.size, 3, none⟩ = some (.slice (some ⟨g, o, none⟩) 1 cap) ∧ W'.cell? ⟨g, o, none⟩ = some (.int .i64 a.kind) ∧ W'.cell? ⟨g, o + 1, none⟩ = some (.string (⟨a.text.toArray⟩ : ByteArray)) ∧ W'.cell? ⟨g, o + 2, none⟩ = some (.int .i64 a.cols) ∧ W'.cell? ⟨g, o + 3, none⟩ = some (sa)))
  have hb_W0 := PR.blk (Touch.refl (PR w W0) W0) HB0.out (by decide)
  have q0_W0 : World.cell? W0 ⟨w.heap.size, 0, none⟩ = some (.int .i64 11) := Blk.cell hb_W0 0
  have q1_W0 : World.cell? W0 ⟨w.heap.size, 1, none⟩ = some (.string ⟨t.toArray⟩) := Blk.cell hb_W0 1
  have q2_W0 : World.cell? W0 ⟨w.heap.size, 2, none⟩ = some (cl) := Blk.cell hb_W0 2
  have q3_W0 : World.cell? W0 ⟨w.heap.size, 3, none⟩ = some (.slice (some ⟨g, o, none⟩) 1 cap) := Blk.cell hb_W0 3
  have hltb_W0 : w.heap.size < W0.heap.size := Blk.lt hb_W0
  have ya0_W0 : World.cell? W0 ⟨g, o, none⟩ = some (.int .i64 a.kind) := PR.old (Touch.refl (PR w W0) W0) HF0.out XA0.out
  have ya1_W0 : World.cell? W0 ⟨g, o + 1, none⟩ = some (.string (⟨a.text.toArray⟩ : ByteArray)) := PR.old (Touch.refl (PR w W0) W0) HF0.out XA1.out
  have ya2_W0 : World.cell? W0 ⟨g, o + 2, none⟩ = some (.int .i64 a.cols) := PR.old (Touch.refl (PR w W0) W0) HF0.out XA2.out
  have ya3_W0 : World.cell? W0 ⟨g, o + 3, none⟩ = some (sa) := PR.old (Touch.refl (PR w W0) W0) HF0.out XA3.out
  have hltg_W0 : g < W0.heap.size := block_lt_of_cell ya0_W0
  go_region_held3 (fun w' => w'.cell? ⟨w.heap.size, 1, none⟩ = some (.string ⟨t.toArray⟩) ∧ w'.cell? ⟨w.heap.size, 3, none⟩ = some (.slice (some ⟨g, o, none⟩) 1 cap) ∧ w'.cell? ⟨g, o, none⟩ = some (.int .i64 a.kind) ∧ w'.cell? ⟨g, o + 1, none⟩ = some (.string (⟨a.text.toArray⟩ : ByteArray)) ∧ w'.cell? ⟨g, o + 2, none⟩ = some (.int .i64 a.cols) ∧ w'.cell? ⟨g, o + 3, none⟩ = some (sa)) (first | with_reducible exact KP.out _ HTb.out | with_reducible exact KP.out _ (Touch.alloc HTb.out _) | with_reducible exact KP.out _ HTd.out | with_reducible exact KP.out _ (Touch.alloc HTd.out _) | with_reducible exact KP.out _ (Touch.drew (Touch.refl (PR w W0) W0)) | with_reducible exact KP.out _ (Touch.drew (Touch.alloc (Touch.refl (PR w W0) W0) _)) | go_keep)
      (first
        | (go_simp; go_at_call 87; refine (ARGa.out _ _ (HRa.out.fresh (PR.all (Touch.drew (Touch.alloc (Touch.refl (PR w W0) W0) _)) HF0.out))).mono ?_; rintro _ wb ⟨vb, rfl, hob, hfb⟩; have HTb := hid (PR.then (Touch.drew (Touch.alloc (Touch.refl (PR w W0) W0) _)) hfb); have hszb : w.heap.size ≤ wb.heap.size := Touch.size (PR.all HTb.out HF0.out); have HOb := hid (ownsRow_base (B' := w.heap.size) hob (Touch.size (PR.all (Touch.drew (Touch.alloc (Touch.refl (PR w W0) W0) _)) HF0.out))); have HOl := hid (ownsRow_touch (own_tok1d (B := w.heap.size) (i := W0.heap.size) _ (⟨5, t⟩ : Lx.Tok) (by simp) (by first | exact hsz0)) hfb (fun _ _ h => h)); clear hob hfb)
        | (go_simp; go_at_call 87; refine (ARGa.out _ _ (HRa.out.fresh (PR.all (Touch.drew (Touch.refl (PR w W0) W0)) HF0.out))).mono ?_; rintro _ wb ⟨vb, rfl, hob, hfb⟩; have HTb := hid (PR.then (Touch.drew (Touch.refl (PR w W0) W0)) hfb); have hszb : w.heap.size ≤ wb.heap.size := Touch.size (PR.all HTb.out HF0.out); have HOb := hid (ownsRow_base (B' := w.heap.size) hob (Touch.size (PR.all (Touch.drew (Touch.refl (PR w W0) W0)) HF0.out))); clear hob hfb)
        | (refine step_append_src _ rfl (.tmp 113) (.tmp 118) 34 rfl w.heap.size 73 i0 _ 4 40 Try.underlying34 hi hz0 hz1 hz2 rfl (by decide) (.slice (some ⟨W0.heap.size, 0, none⟩) 1 1) (([(⟨5, t⟩ : Lx.Tok)] : List Lx.Tok)).length ((([(⟨5, t⟩ : Lx.Tok)] : List Lx.Tok)).flatMap tokC) (by simp [Act.eval]) HOl.out (vb) (argT a).length ((argT a).flatMap tokC) (by simp [Act.eval]) (Src.of_own HOb.out) (tok_one _) (by have := HLEN.out; unfold maxLen; (try simp at this); (try simp); omega) (by have := HLEN.out; (try simp at this); (try simp); omega) (by first | assumption | (simp only [World.size_alloc]; omega)) ?_; intro vd wd ho hg _; rw [← List.length_append, ← List.flatMap_append] at ho; have HTd := hid (PR.grown HTb.out HOl.out hg); have hszd : w.heap.size ≤ wd.heap.size := Touch.size (PR.all HTd.out HF0.out); have HOd := hid ho; clear ho hg)
        | (refine step_append_src _ rfl (.tmp 113) (.tmp 118) 34 rfl w.heap.size 73 i0 _ 4 40 Try.underlying34 hi hz0 hz1 hz2 rfl (by decide) (.slice (some ⟨wb.heap.size, 0, none⟩) 1 1) (([(⟨5, t⟩ : Lx.Tok)] : List Lx.Tok)).length ((([(⟨5, t⟩ : Lx.Tok)] : List Lx.Tok)).flatMap tokC) (by simp [Act.eval]) (own_tok1 (B := w.heap.size) (i := wb.heap.size) _ (⟨5, t⟩ : Lx.Tok) (by simp) (by first | exact hszb)) (vb) (argT a).length ((argT a).flatMap tokC) (by simp [Act.eval]) (Src.of_own (World.ownsRow.alloc HOb.out _)) (tok_one _) (by have := HLEN.out; unfold maxLen; (try simp at this); (try simp); omega) (by have := HLEN.out; (try simp at this); (try simp); omega) (by first | assumption | (simp only [World.size_alloc]; omega)) ?_; intro vd wd ho hg _; rw [← List.length_append, ← List.flatMap_append] at ho; have HTd := hid (PR.grown (Touch.alloc HTb.out _) (own_tok1 (B := w.heap.size) (i := wb.heap.size) _ (⟨5, t⟩ : Lx.Tok) (by simp) (by first | exact hszb)) hg); have hszd : w.heap.size ≤ wd.heap.size := Touch.size (PR.all HTd.out HF0.out); have HOd := hid ho; clear ho hg))
  all_goals
    go_wp2_with fail
    go_ret
    exact ⟨vd, rfl, ownCast HOd.out (by first | rfl | (simp only [List.append_assoc] <;> rfl) | (simp <;> rfl)), PR.all HTd.out HF0.out⟩

set_option maxRecDepth 100000 in
set_option maxHeartbeats 2000000 in
theorem item_round_r (cl : Value) (a : Nd) (ha : RowR a) (hl : (rowT a.kids).length ≤ 50000) (w : World) (sl : Value) (hsl : RepL w [a] sl) : Calls Try.prog 53 #[.agg #[.int .i64 11, .string ⟨#[40, 41]⟩, cl, sl]] w (TokRes w ([Tr.mk7 40] ++ (rowT a.kids ++ [Tr.mk7 41]))) := by
  obtain ⟨g, o, cap, sa, rfl, a0, a1, a2, a3, hra⟩ := hsl.one
  obtain ⟨i0, hi, hz0, hz1, hz2⟩ := info_parts infoRTok
  have e1 : (⟨#[40, 41]⟩ : ByteArray).extract 0 1 = ⟨#[40]⟩ := by decide
  have e2 : (⟨#[40, 41]⟩ : ByteArray).extract 1 2 = ⟨#[41]⟩ := by decide
  have e3 : (⟨#[40, 41]⟩ : ByteArray).toList = [40, 41] := by rw [ByteArray.toList_eq]
  have e4 : (⟨#[40, 41]⟩ : ByteArray).size = 2 := rfl
  have ROWa := hid ha
  have HLEN := hid hl
  clear ha hl
  have HRa := hid hra
  clear hsl hra
  have XA0 := hid a0
  have XA1 := hid a1
  have XA2 := hid a2
  have XA3 := hid a3
  clear a0 a1 a2 a3
  go_enter Try.func53, Try.ntmps53
  go_wp2_with fail
  refine forget_world (fun W => Fresh w W ∧ Blk W w.heap.size 24 #[.int .i64 11, .string ⟨#[40, 41]⟩, cl, .slice (some ⟨g, o, none⟩) 1 cap]) ⟨(Touch.refl _ _).alloc _, Blk.new _ _ _⟩ ?_
  rintro W0 ⟨hf0, hb0⟩
  have HF0 := hid hf0
  have HB0 := hid hb0
  have hsz0 : w.heap.size ≤ W0.heap.size := Touch.size hf0
  have hltb0 : w.heap.size < W0.heap.size := Blk.lt hb0
  clear hf0 hb0
  have KP := hid (fun (W' : World) (ht : Touch (PR w W0) W0 W') => (⟨(PR.blk ht HB0.out (by decide)).cell 1, (PR.blk ht HB0.out (by decide)).cell 3, PR.old ht HF0.out XA0.out, PR.old ht HF0.out XA1.out, PR.old ht HF0.out XA2.out, PR.old ht HF0.out XA3.out⟩ : W'.cell? ⟨w.heap.size, 1, none⟩ = some (.string ⟨#[40, 41]⟩) ∧ W'.cell? ⟨w.heap.size, 3, none⟩ = some (.slice (some ⟨g, o, none⟩) 1 cap) ∧ W'.cell? ⟨g, o, none⟩ = some (.int .i64 a.kind) ∧ W'.cell? ⟨g, o + 1, none⟩ = some (.string (⟨a.text.toArray⟩ : ByteArray)) ∧ W'.cell? ⟨g, o + 2, none⟩ = some (.int .i64 a.cols) ∧ W'.cell? ⟨g, o + 3, none⟩ = some (sa)))
  have hb_W0 := PR.blk (Touch.refl (PR w W0) W0) HB0.out (by decide)
  have q0_W0 : World.cell? W0 ⟨w.heap.size, 0, none⟩ = some (.int .i64 11) := Blk.cell hb_W0 0
  have q1_W0 : World.cell? W0 ⟨w.heap.size, 1, none⟩ = some (.string ⟨#[40, 41]⟩) := Blk.cell hb_W0 1
  have q2_W0 : World.cell? W0 ⟨w.heap.size, 2, none⟩ = some (cl) := Blk.cell hb_W0 2
  have q3_W0 : World.cell? W0 ⟨w.heap.size, 3, none⟩ = some (.slice (some ⟨g, o, none⟩) 1 cap) := Blk.cell hb_W0 3
  have hltb_W0 : w.heap.size < W0.heap.size := Blk.lt hb_W0
  have ya0_W0 : World.cell? W0 ⟨g, o, none⟩ = some (.int .i64 a.kind) := PR.old (Touch.refl (PR w W0) W0) HF0.out XA0.out
  have ya1_W0 : World.cell? W0 ⟨g, o + 1, none⟩ = some (.string (⟨a.text.toArray⟩ : ByteArray)) := PR.old (Touch.refl (PR w W0) W0) HF0.out XA1.out
  have ya2_W0 : World.cell? W0 ⟨g, o + 2, none⟩ = some (.int .i64 a.cols) := PR.old (Touch.refl (PR w W0) W0) HF0.out XA2.out
  have ya3_W0 : World.cell? W0 ⟨g, o + 3, none⟩ = some (sa) := PR.old (Touch.refl (PR w W0) W0) HF0.out XA3.out
  have hltg_W0 : g < W0.heap.size := block_lt_of_cell ya0_W0
  go_region_held3 (fun w' => w'.cell? ⟨w.heap.size, 1, none⟩ = some (.string ⟨#[40, 41]⟩) ∧ w'.cell? ⟨w.heap.size, 3, none⟩ = some (.slice (some ⟨g, o, none⟩) 1 cap) ∧ w'.cell? ⟨g, o, none⟩ = some (.int .i64 a.kind) ∧ w'.cell? ⟨g, o + 1, none⟩ = some (.string (⟨a.text.toArray⟩ : ByteArray)) ∧ w'.cell? ⟨g, o + 2, none⟩ = some (.int .i64 a.cols) ∧ w'.cell? ⟨g, o + 3, none⟩ = some (sa)) (first | with_reducible exact KP.out _ HTb.out | with_reducible exact KP.out _ (Touch.alloc HTb.out _) | with_reducible exact KP.out _ HTd.out | with_reducible exact KP.out _ (Touch.alloc HTd.out _) | with_reducible exact KP.out _ (Touch.drew (Touch.refl (PR w W0) W0)) | with_reducible exact KP.out _ (Touch.drew (Touch.alloc (Touch.refl (PR w W0) W0) _)) | go_keep)
      (first
        | (go_simp; go_at_call 34; refine (ROWa.out _ _ (HRa.out.fresh (PR.all (Touch.drew (Touch.refl (PR w W0) W0)) HF0.out))).mono ?_; rintro _ wb ⟨vb, rfl, hob, hfb⟩; have HTb := hid (PR.then (Touch.drew (Touch.refl (PR w W0) W0)) hfb); have hszb : w.heap.size ≤ wb.heap.size := Touch.size (PR.all HTb.out HF0.out); have HOb := hid (ownsRow_base (B' := w.heap.size) hob (Touch.size (PR.all (Touch.drew (Touch.refl (PR w W0) W0)) HF0.out))); clear hob hfb)
        | (go_simp; go_at_call 88; refine (rin_any [40] [41] (rowT a.kids) _ _ (Src.of_own HOb.out) (by have := HLEN.out; omega)).mono ?_; rintro _ wd ⟨vd, rfl, ho, hf⟩; have HTd := hid (PR.then HTb.out hf); have HOd := hid (ownsRow_base (B' := w.heap.size) ho hszb); clear ho hf))
  all_goals
    go_wp2_with fail
    go_ret
    exact ⟨vd, rfl, ownCast HOd.out (by first | rfl | (simp only [List.append_assoc] <;> rfl) | (simp <;> rfl)), PR.all HTd.out HF0.out⟩

set_option maxRecDepth 100000 in
set_option maxHeartbeats 2000000 in
theorem item_square_r (cl : Value) (a : Nd) (ha : RowR a) (hl : (rowT a.kids).length ≤ 50000) (w : World) (sl : Value) (hsl : RepL w [a] sl) : Calls Try.prog 53 #[.agg #[.int .i64 11, .string ⟨#[91, 93]⟩, cl, sl]] w (TokRes w ([Tr.mk7 91] ++ (rowT a.kids ++ [Tr.mk7 93]))) := by
  obtain ⟨g, o, cap, sa, rfl, a0, a1, a2, a3, hra⟩ := hsl.one
  obtain ⟨i0, hi, hz0, hz1, hz2⟩ := info_parts infoRTok
  have e1 : (⟨#[91, 93]⟩ : ByteArray).extract 0 1 = ⟨#[91]⟩ := by decide
  have e2 : (⟨#[91, 93]⟩ : ByteArray).extract 1 2 = ⟨#[93]⟩ := by decide
  have e3 : (⟨#[91, 93]⟩ : ByteArray).toList = [91, 93] := by rw [ByteArray.toList_eq]
  have e4 : (⟨#[91, 93]⟩ : ByteArray).size = 2 := rfl
  have ROWa := hid ha
  have HLEN := hid hl
  clear ha hl
  have HRa := hid hra
  clear hsl hra
  have XA0 := hid a0
  have XA1 := hid a1
  have XA2 := hid a2
  have XA3 := hid a3
  clear a0 a1 a2 a3
  go_enter Try.func53, Try.ntmps53
  go_wp2_with fail
  refine forget_world (fun W => Fresh w W ∧ Blk W w.heap.size 24 #[.int .i64 11, .string ⟨#[91, 93]⟩, cl, .slice (some ⟨g, o, none⟩) 1 cap]) ⟨(Touch.refl _ _).alloc _, Blk.new _ _ _⟩ ?_
  rintro W0 ⟨hf0, hb0⟩
  have HF0 := hid hf0
  have HB0 := hid hb0
  have hsz0 : w.heap.size ≤ W0.heap.size := Touch.size hf0
  have hltb0 : w.heap.size < W0.heap.size := Blk.lt hb0
  clear hf0 hb0
  have KP := hid (fun (W' : World) (ht : Touch (PR w W0) W0 W') => (⟨(PR.blk ht HB0.out (by decide)).cell 1, (PR.blk ht HB0.out (by decide)).cell 3, PR.old ht HF0.out XA0.out, PR.old ht HF0.out XA1.out, PR.old ht HF0.out XA2.out, PR.old ht HF0.out XA3.out⟩ : W'.cell? ⟨w.heap.size, 1, none⟩ = some (.string ⟨#[91, 93]⟩) ∧ W'.cell? ⟨w.heap.size, 3, none⟩ = some (.slice (some ⟨g, o, none⟩) 1 cap) ∧ W'.cell? ⟨g, o, none⟩ = some (.int .i64 a.kind) ∧ W'.cell? ⟨g, o + 1, none⟩ = some (.string (⟨a.text.toArray⟩ : ByteArray)) ∧ W'.cell? ⟨g, o + 2, none⟩ = some (.int .i64 a.cols) ∧ W'.cell? ⟨g, o + 3, none⟩ = some (sa)))
  have hb_W0 := PR.blk (Touch.refl (PR w W0) W0) HB0.out (by decide)
  have q0_W0 : World.cell? W0 ⟨w.heap.size, 0, none⟩ = some (.int .i64 11) := Blk.cell hb_W0 0
  have q1_W0 : World.cell? W0 ⟨w.heap.size, 1, none⟩ = some (.string ⟨#[91, 93]⟩) := Blk.cell hb_W0 1
  have q2_W0 : World.cell? W0 ⟨w.heap.size, 2, none⟩ = some (cl) := Blk.cell hb_W0 2
  have q3_W0 : World.cell? W0 ⟨w.heap.size, 3, none⟩ = some (.slice (some ⟨g, o, none⟩) 1 cap) := Blk.cell hb_W0 3
  have hltb_W0 : w.heap.size < W0.heap.size := Blk.lt hb_W0
  have ya0_W0 : World.cell? W0 ⟨g, o, none⟩ = some (.int .i64 a.kind) := PR.old (Touch.refl (PR w W0) W0) HF0.out XA0.out
  have ya1_W0 : World.cell? W0 ⟨g, o + 1, none⟩ = some (.string (⟨a.text.toArray⟩ : ByteArray)) := PR.old (Touch.refl (PR w W0) W0) HF0.out XA1.out
  have ya2_W0 : World.cell? W0 ⟨g, o + 2, none⟩ = some (.int .i64 a.cols) := PR.old (Touch.refl (PR w W0) W0) HF0.out XA2.out
  have ya3_W0 : World.cell? W0 ⟨g, o + 3, none⟩ = some (sa) := PR.old (Touch.refl (PR w W0) W0) HF0.out XA3.out
  have hltg_W0 : g < W0.heap.size := block_lt_of_cell ya0_W0
  go_region_held3 (fun w' => w'.cell? ⟨w.heap.size, 1, none⟩ = some (.string ⟨#[91, 93]⟩) ∧ w'.cell? ⟨w.heap.size, 3, none⟩ = some (.slice (some ⟨g, o, none⟩) 1 cap) ∧ w'.cell? ⟨g, o, none⟩ = some (.int .i64 a.kind) ∧ w'.cell? ⟨g, o + 1, none⟩ = some (.string (⟨a.text.toArray⟩ : ByteArray)) ∧ w'.cell? ⟨g, o + 2, none⟩ = some (.int .i64 a.cols) ∧ w'.cell? ⟨g, o + 3, none⟩ = some (sa)) (first | with_reducible exact KP.out _ HTb.out | with_reducible exact KP.out _ (Touch.alloc HTb.out _) | with_reducible exact KP.out _ HTd.out | with_reducible exact KP.out _ (Touch.alloc HTd.out _) | with_reducible exact KP.out _ (Touch.drew (Touch.refl (PR w W0) W0)) | with_reducible exact KP.out _ (Touch.drew (Touch.alloc (Touch.refl (PR w W0) W0) _)) | go_keep)
      (first
        | (go_simp; go_at_call 34; refine (ROWa.out _ _ (HRa.out.fresh (PR.all (Touch.drew (Touch.refl (PR w W0) W0)) HF0.out))).mono ?_; rintro _ wb ⟨vb, rfl, hob, hfb⟩; have HTb := hid (PR.then (Touch.drew (Touch.refl (PR w W0) W0)) hfb); have hszb : w.heap.size ≤ wb.heap.size := Touch.size (PR.all HTb.out HF0.out); have HOb := hid (ownsRow_base (B' := w.heap.size) hob (Touch.size (PR.all (Touch.drew (Touch.refl (PR w W0) W0)) HF0.out))); clear hob hfb)
        | (go_simp; go_at_call 88; refine (rin_any [91] [93] (rowT a.kids) _ _ (Src.of_own HOb.out) (by have := HLEN.out; omega)).mono ?_; rintro _ wd ⟨vd, rfl, ho, hf⟩; have HTd := hid (PR.then HTb.out hf); have HOd := hid (ownsRow_base (B' := w.heap.size) ho hszb); clear ho hf))
  all_goals
    go_wp2_with fail
    go_ret
    exact ⟨vd, rfl, ownCast HOd.out (by first | rfl | (simp only [List.append_assoc] <;> rfl) | (simp <;> rfl)), PR.all HTd.out HF0.out⟩

end Go.Proofs.Ytilgpmpiidccjaa
