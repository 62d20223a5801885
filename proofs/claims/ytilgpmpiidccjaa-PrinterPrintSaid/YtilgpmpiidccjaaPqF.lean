/- The reference printer's Item: a matrix; scripts. -/
import Derived.Test.YtilgpmpiidccjaaPqE
namespace Go.Proofs.Ytilgpmpiidccjaa
open Go.RowKit
open Tr (Nd argT baseT rowT itemT cellsT)

set_option maxRecDepth 100000 in
set_option maxHeartbeats 2000000 in
theorem item_matrix_r (tx : Value) (c : Int) (ks : List Nd) (hc : 1 ≤ c) (hcu : c ≤ 1000000) (hi : ∀ x ∈ ks, RowR x) (hl : (cellsT c 0 ks).length ≤ 50000) (w : World) (sl : Value) (hsl : RepL w ks sl) : Calls Try.prog 53 #[.agg #[.int .i64 12, tx, .int .i64 c, sl]] w (TokRes w ([Tr.name Tr.sMatrix] ++ ([Tr.mk7 123] ++ (cellsT c 0 ks ++ [Tr.mk7 125])))) := by
  obtain ⟨A, cap, rfl⟩ := hsl.slice
  have hlen := hsl.len
  unfold maxLen at hlen
  have HI := hid hi
  clear hi
  obtain ⟨i0, hi, hz0, hz1, hz2⟩ := info_parts infoRTok
  have HRS := hid hsl
  have HLEN := hid hl
  clear hsl hl
  go_enter Try.func53, Try.ntmps53
  go_wp2_with fail
  refine forget_world (fun W => Fresh w W ∧ Blk W w.heap.size 24 #[.int .i64 12, tx, .int .i64 c, .slice A ks.length cap]) ⟨(Touch.refl _ _).alloc _, Blk.new _ _ _⟩ ?_
  rintro W0 ⟨hf0, hb0⟩
  have HF0 := hid hf0
  have HB0 := hid hb0
  have hsz0 : w.heap.size ≤ W0.heap.size := Touch.size hf0
  have hltb0 : w.heap.size < W0.heap.size := Blk.lt hb0
  clear hf0 hb0
  have KP := hid (fun (W' : World) (ht : Touch (PR w W0) W0 W') => (⟨(PR.blk ht HB0.out (by decide)).cell 0, (PR.blk ht HB0.out (by decide)).cell 1, (PR.blk ht HB0.out (by decide)).cell 2, (PR.blk ht HB0.out (by decide)).cell 3⟩ : W'.cell? ⟨w.heap.size, 0, none⟩ = some (.int .i64 12) ∧ W'.cell? ⟨w.heap.size, 1, none⟩ = some (tx) ∧ W'.cell? ⟨w.heap.size, 2, none⟩ = some (.int .i64 c) ∧ W'.cell? ⟨w.heap.size, 3, none⟩ = some (.slice A ks.length cap)))
  have hb_W0 := PR.blk (Touch.refl (PR w W0) W0) HB0.out (by decide)
  have q0_W0 : World.cell? W0 ⟨w.heap.size, 0, none⟩ = some (.int .i64 12) := Blk.cell hb_W0 0
  have q1_W0 : World.cell? W0 ⟨w.heap.size, 1, none⟩ = some (tx) := Blk.cell hb_W0 1
  have q2_W0 : World.cell? W0 ⟨w.heap.size, 2, none⟩ = some (.int .i64 c) := Blk.cell hb_W0 2
  have q3_W0 : World.cell? W0 ⟨w.heap.size, 3, none⟩ = some (.slice A ks.length cap) := Blk.cell hb_W0 3
  have hltb_W0 : w.heap.size < W0.heap.size := Blk.lt hb_W0
  go_region_held3 (fun w' => w'.cell? ⟨w.heap.size, 0, none⟩ = some (.int .i64 12) ∧ w'.cell? ⟨w.heap.size, 1, none⟩ = some (tx) ∧ w'.cell? ⟨w.heap.size, 2, none⟩ = some (.int .i64 c) ∧ w'.cell? ⟨w.heap.size, 3, none⟩ = some (.slice A ks.length cap)) (first | with_reducible exact KP.out _ HTa.out | with_reducible exact KP.out _ (Touch.alloc HTa.out _) | with_reducible exact KP.out _ HTb.out | with_reducible exact KP.out _ (Touch.alloc HTb.out _) | with_reducible exact KP.out _ HTc.out | with_reducible exact KP.out _ (Touch.alloc HTc.out _) | with_reducible exact KP.out _ HTd.out | with_reducible exact KP.out _ (Touch.alloc HTd.out _) | with_reducible exact KP.out _ (Touch.drew (Touch.refl (PR w W0) W0)) | with_reducible exact KP.out _ (Touch.drew (Touch.alloc (Touch.refl (PR w W0) W0) _)) | go_keep)
      (first
        | (go_simp; go_at_call 86; refine (rname_any [109, 97, 116, 114, 105, 120] _).mono ?_; rintro _ wa ⟨rfl, hfa⟩; have HTa := hid (PR.then (Touch.drew (Touch.refl (PR w W0) W0)) hfa); have hsza : w.heap.size ≤ wa.heap.size := Touch.size (PR.all HTa.out HF0.out); clear hfa)
        | (go_simp; go_at_call 89; refine (rmatrix_any _ _ c ks hc hcu HI.out HLEN.out _ _ (HRS.out.fresh (PR.all (Touch.alloc HTa.out _) HF0.out))).mono ?_; rintro _ wb ⟨vb, rfl, hob, hfb⟩; have HTb := hid (PR.then (Touch.alloc HTa.out _) hfb); have hszb : w.heap.size ≤ wb.heap.size := Touch.size (PR.all HTb.out HF0.out); have HOb := hid (ownsRow_base (B' := w.heap.size) hob (Touch.size (PR.all (Touch.alloc HTa.out _) HF0.out))); have HOl := hid (ownsRow_touch (own_tok1 (B := w.heap.size) (i := wa.heap.size) _ (⟨4, [109, 97, 116, 114, 105, 120]⟩ : Lx.Tok) (by simp) (by first | exact hsza)) hfb (fun _ _ h => h)); clear hob hfb)
        | (go_simp; go_at_call 89; refine (rmatrix_any _ _ c ks hc hcu HI.out HLEN.out _ _ (HRS.out.fresh (PR.all HTa.out HF0.out))).mono ?_; rintro _ wb ⟨vb, rfl, hob, hfb⟩; have HTb := hid (PR.then HTa.out hfb); have hszb : w.heap.size ≤ wb.heap.size := Touch.size (PR.all HTb.out HF0.out); have HOb := hid (ownsRow_base (B' := w.heap.size) hob (Touch.size (PR.all HTa.out HF0.out))); clear hob hfb)
        | (go_simp; go_at_call 88; refine (rin_any [123] [125] (cellsT c 0 ks) _ _ (Src.of_own (World.ownsRow.alloc HOb.out _)) (by have := HLEN.out; omega)).mono ?_; rintro _ wc ⟨vc, rfl, hoc, hfc⟩; have HTc := hid (PR.then (Touch.alloc HTb.out _) hfc); have hszc : w.heap.size ≤ wc.heap.size := Touch.size (PR.all HTc.out HF0.out); have HOc := hid (ownsRow_base (B' := w.heap.size) hoc (Touch.size (PR.all (Touch.alloc HTb.out _) HF0.out))); have HOl := hid (ownsRow_touch (own_tok1 (B := w.heap.size) (i := wb.heap.size) _ (⟨4, [109, 97, 116, 114, 105, 120]⟩ : Lx.Tok) (by simp) (by first | exact hszb)) hfc (fun _ _ h => h)); clear hoc hfc)
        | (go_simp; go_at_call 88; refine (rin_any [123] [125] (cellsT c 0 ks) _ _ (Src.of_own HOb.out) (by have := HLEN.out; omega)).mono ?_; rintro _ wc ⟨vc, rfl, hoc, hfc⟩; have HTc := hid (PR.then HTb.out hfc); have hszc : w.heap.size ≤ wc.heap.size := Touch.size (PR.all HTc.out HF0.out); have HOc := hid (ownsRow_base (B' := w.heap.size) hoc (Touch.size (PR.all HTb.out HF0.out))); (first | have HOl := hid (ownsRow_touch HOl.out hfc (fun _ _ h => h)) | skip); clear hoc hfc)
        | (refine step_append_src _ rfl (.tmp 123) (.tmp 126) 34 rfl w.heap.size 73 i0 _ 4 40 Try.underlying34 hi hz0 hz1 hz2 rfl (by decide) (.slice (some ⟨wa.heap.size, 0, none⟩) 1 1) (([(⟨4, [109, 97, 116, 114, 105, 120]⟩ : Lx.Tok)] : List Lx.Tok)).length ((([(⟨4, [109, 97, 116, 114, 105, 120]⟩ : Lx.Tok)] : List Lx.Tok)).flatMap tokC) (by simp [Act.eval]) HOl.out (vc) ((([⟨7, [123]⟩] : List Lx.Tok) ++ (cellsT c 0 ks ++ ([⟨7, [125]⟩] : List Lx.Tok)))).length (((([⟨7, [123]⟩] : List Lx.Tok) ++ (cellsT c 0 ks ++ ([⟨7, [125]⟩] : List Lx.Tok)))).flatMap tokC) (by simp [Act.eval]) (Src.of_own HOc.out) (tok_one _) (by have := HLEN.out; unfold maxLen; (try simp at this); (try simp); omega) (by have := HLEN.out; (try simp at this); (try simp); omega) (by first | assumption | (simp only [World.size_alloc]; omega)) ?_; intro vd wd ho hg _; rw [← List.length_append, ← List.flatMap_append] at ho; have HTd := hid (PR.grown HTc.out HOl.out hg); have hszd : w.heap.size ≤ wd.heap.size := Touch.size (PR.all HTd.out HF0.out); have HOd := hid ho; clear ho hg)
        | (refine step_append_src _ rfl (.tmp 123) (.tmp 126) 34 rfl w.heap.size 73 i0 _ 4 40 Try.underlying34 hi hz0 hz1 hz2 rfl (by decide) (.slice (some ⟨wb.heap.size, 0, none⟩) 1 1) (([(⟨4, [109, 97, 116, 114, 105, 120]⟩ : Lx.Tok)] : List Lx.Tok)).length ((([(⟨4, [109, 97, 116, 114, 105, 120]⟩ : Lx.Tok)] : List Lx.Tok)).flatMap tokC) (by simp [Act.eval]) HOl.out (vc) ((([⟨7, [123]⟩] : List Lx.Tok) ++ (cellsT c 0 ks ++ ([⟨7, [125]⟩] : List Lx.Tok)))).length (((([⟨7, [123]⟩] : List Lx.Tok) ++ (cellsT c 0 ks ++ ([⟨7, [125]⟩] : List Lx.Tok)))).flatMap tokC) (by simp [Act.eval]) (Src.of_own HOc.out) (tok_one _) (by have := HLEN.out; unfold maxLen; (try simp at this); (try simp); omega) (by have := HLEN.out; (try simp at this); (try simp); omega) (by first | assumption | (simp only [World.size_alloc]; omega)) ?_; intro vd wd ho hg _; rw [← List.length_append, ← List.flatMap_append] at ho; have HTd := hid (PR.grown HTc.out HOl.out hg); have hszd : w.heap.size ≤ wd.heap.size := Touch.size (PR.all HTd.out HF0.out); have HOd := hid ho; clear ho hg)
        | (refine step_append_src _ rfl (.tmp 123) (.tmp 126) 34 rfl w.heap.size 73 i0 _ 4 40 Try.underlying34 hi hz0 hz1 hz2 rfl (by decide) (.slice (some ⟨wc.heap.size, 0, none⟩) 1 1) (([(⟨4, [109, 97, 116, 114, 105, 120]⟩ : Lx.Tok)] : List Lx.Tok)).length ((([(⟨4, [109, 97, 116, 114, 105, 120]⟩ : Lx.Tok)] : List Lx.Tok)).flatMap tokC) (by simp [Act.eval]) (own_tok1 (B := w.heap.size) (i := wc.heap.size) _ (⟨4, [109, 97, 116, 114, 105, 120]⟩ : Lx.Tok) (by simp) (by first | exact hszc)) (vc) ((([⟨7, [123]⟩] : List Lx.Tok) ++ (cellsT c 0 ks ++ ([⟨7, [125]⟩] : List Lx.Tok)))).length (((([⟨7, [123]⟩] : List Lx.Tok) ++ (cellsT c 0 ks ++ ([⟨7, [125]⟩] : List Lx.Tok)))).flatMap tokC) (by simp [Act.eval]) (Src.of_own (World.ownsRow.alloc HOc.out _)) (tok_one _) (by have := HLEN.out; unfold maxLen; (try simp at this); (try simp); omega) (by have := HLEN.out; (try simp at this); (try simp); omega) (by first | assumption | (simp only [World.size_alloc]; omega)) ?_; intro vd wd ho hg _; rw [← List.length_append, ← List.flatMap_append] at ho; have HTd := hid (PR.grown (Touch.alloc HTc.out _) (own_tok1 (B := w.heap.size) (i := wc.heap.size) _ (⟨4, [109, 97, 116, 114, 105, 120]⟩ : Lx.Tok) (by simp) (by first | exact hszc)) hg); have hszd : w.heap.size ≤ wd.heap.size := Touch.size (PR.all HTd.out HF0.out); have HOd := hid ho; clear ho hg))
  all_goals
    go_wp2_with fail
    go_ret
    exact ⟨vd, rfl, ownCast HOd.out (by first | rfl | (simp only [List.append_assoc] <;> rfl) | (simp <;> rfl)), PR.all HTd.out HF0.out⟩

set_option maxRecDepth 100000 in
set_option maxHeartbeats 2000000 in
theorem rscripts_7 (tx cl : Value) (a b : Nd) (ha : BaseR a) (hb : ArgR b) (hl : (baseT a ++ (argT b)).length ≤ 50000) (w : World) (sl : Value) (hsl : RepL w [a, b] sl) : Calls Try.prog 90 #[.agg #[.int .i64 7, tx, cl, sl]] w (TokRes w (baseT a ++ ([Tr.mk7 95] ++ argT b))) := by
  obtain ⟨g, o, cap, sa, sb, rfl, a0, a1, a2, a3, hra, b0, b1, b2, b3, hrb⟩ := hsl.two
  obtain ⟨i0, hi, hz0, hz1, hz2⟩ := info_parts infoRTok
  have BASa := hid ha
  have ARGb := hid hb
  have HLEN := hid hl
  have HRa := hid hra
  have HRb := hid hrb
  clear ha hl hsl hb hra hrb
  have XA0 := hid a0
  have XA1 := hid a1
  have XA2 := hid a2
  have XA3 := hid a3
  have XB0 := hid b0
  have XB1 := hid b1
  have XB2 := hid b2
  have XB3 := hid b3
  clear a0 a1 a2 a3 b0 b1 b2 b3
  have xa0_w : World.cell? w ⟨g, o, none⟩ = some (.int .i64 a.kind) := XA0.out
  have xa1_w : World.cell? w ⟨g, o + 1, none⟩ = some (.string (⟨a.text.toArray⟩ : ByteArray)) := XA1.out
  have xa2_w : World.cell? w ⟨g, o + 2, none⟩ = some (.int .i64 a.cols) := XA2.out
  have xa3_w : World.cell? w ⟨g, o + 3, none⟩ = some (sa) := XA3.out
  have xb0_w : World.cell? w ⟨g, o + 4, none⟩ = some (.int .i64 b.kind) := XB0.out
  have xb1_w : World.cell? w ⟨g, o + 4 + 1, none⟩ = some (.string (⟨b.text.toArray⟩ : ByteArray)) := XB1.out
  have xb2_w : World.cell? w ⟨g, o + 4 + 2, none⟩ = some (.int .i64 b.cols) := XB2.out
  have xb3_w : World.cell? w ⟨g, o + 4 + 3, none⟩ = some (sb) := XB3.out
  have hlt_g_w : g < w.heap.size := block_lt_of_cell xa0_w
  go_enter Try.func90, Try.ntmps90
  go_wp2_with fail
  refine Calls.mono (BASa.out _ _ (HRa.out.fresh ((Touch.refl _ _).alloc _))) ?_
  rintro _ W0 ⟨vo, rfl, hoo, hfo⟩
  have HF0 := hid (show Fresh w W0 from Touch.pre hfo)
  have HB0 := hid (hfo.blk (Blk.new _ _ _) (fun h => h))
  have hsz0 : w.heap.size ≤ W0.heap.size := Touch.size HF0.out
  have hltb0 : w.heap.size < W0.heap.size := Blk.lt HB0.out
  have HOo := hid (ownsRow_base (B' := w.heap.size) hoo (by simp only [World.size_alloc]; omega))
  clear hoo hfo xa0_w xa1_w xa2_w xa3_w xb0_w xb1_w xb2_w xb3_w hlt_g_w
  have hb_W0 := PR.blk (Touch.refl (PR w W0) W0) HB0.out (by decide)
  have q0_W0 : World.cell? W0 ⟨w.heap.size, 0, none⟩ = some (.int .i64 7) := Blk.cell hb_W0 0
  have q1_W0 : World.cell? W0 ⟨w.heap.size, 1, none⟩ = some (tx) := Blk.cell hb_W0 1
  have q2_W0 : World.cell? W0 ⟨w.heap.size, 2, none⟩ = some (cl) := Blk.cell hb_W0 2
  have q3_W0 : World.cell? W0 ⟨w.heap.size, 3, none⟩ = some (.slice (some ⟨g, o, none⟩) 2 cap) := Blk.cell hb_W0 3
  have hltb_W0 : w.heap.size < W0.heap.size := Blk.lt hb_W0
  have ya0_W0 : World.cell? W0 ⟨g, o, none⟩ = some (.int .i64 a.kind) := PR.old (Touch.refl (PR w W0) W0) HF0.out XA0.out
  have ya1_W0 : World.cell? W0 ⟨g, o + 1, none⟩ = some (.string (⟨a.text.toArray⟩ : ByteArray)) := PR.old (Touch.refl (PR w W0) W0) HF0.out XA1.out
  have ya2_W0 : World.cell? W0 ⟨g, o + 2, none⟩ = some (.int .i64 a.cols) := PR.old (Touch.refl (PR w W0) W0) HF0.out XA2.out
  have ya3_W0 : World.cell? W0 ⟨g, o + 3, none⟩ = some (sa) := PR.old (Touch.refl (PR w W0) W0) HF0.out XA3.out
  have yb0_W0 : World.cell? W0 ⟨g, o + 4, none⟩ = some (.int .i64 b.kind) := PR.old (Touch.refl (PR w W0) W0) HF0.out XB0.out
  have yb1_W0 : World.cell? W0 ⟨g, o + 4 + 1, none⟩ = some (.string (⟨b.text.toArray⟩ : ByteArray)) := PR.old (Touch.refl (PR w W0) W0) HF0.out XB1.out
  have yb2_W0 : World.cell? W0 ⟨g, o + 4 + 2, none⟩ = some (.int .i64 b.cols) := PR.old (Touch.refl (PR w W0) W0) HF0.out XB2.out
  have yb3_W0 : World.cell? W0 ⟨g, o + 4 + 3, none⟩ = some (sb) := PR.old (Touch.refl (PR w W0) W0) HF0.out XB3.out
  have hltg_W0 : g < W0.heap.size := block_lt_of_cell ya0_W0
  go_wp2_with fail
  have KP1 := hid (fun (W' : World) (ht : Touch (PR w W0) W0 W') => (⟨(PR.blk ht HB0.out (by decide)).cell 3, PR.old ht HF0.out XB0.out, PR.old ht HF0.out XB1.out, PR.old ht HF0.out XB2.out, PR.old ht HF0.out XB3.out⟩ : W'.cell? ⟨w.heap.size, 3, none⟩ = some (.slice (some ⟨g, o, none⟩) 2 cap) ∧ W'.cell? ⟨g, o + 4, none⟩ = some (.int .i64 b.kind) ∧ W'.cell? ⟨g, o + 4 + 1, none⟩ = some (.string (⟨b.text.toArray⟩ : ByteArray)) ∧ W'.cell? ⟨g, o + 4 + 2, none⟩ = some (.int .i64 b.cols) ∧ W'.cell? ⟨g, o + 4 + 3, none⟩ = some (sb)))
  go_region_held3 (fun w' => w'.cell? ⟨w.heap.size, 3, none⟩ = some (.slice (some ⟨g, o, none⟩) 2 cap) ∧ w'.cell? ⟨g, o + 4, none⟩ = some (.int .i64 b.kind) ∧ w'.cell? ⟨g, o + 4 + 1, none⟩ = some (.string (⟨b.text.toArray⟩ : ByteArray)) ∧ w'.cell? ⟨g, o + 4 + 2, none⟩ = some (.int .i64 b.cols) ∧ w'.cell? ⟨g, o + 4 + 3, none⟩ = some (sb)) (first | with_reducible exact KP1.out _ (Touch.drew (Touch.refl (PR w W0) W0)) | with_reducible exact KP1.out _ HTa.out | with_reducible exact KP1.out _ (Touch.alloc HTa.out _) | with_reducible exact KP1.out _ HTb.out | with_reducible exact KP1.out _ (Touch.alloc HTb.out _) | with_reducible exact KP1.out _ HTc.out | with_reducible exact KP1.out _ (Touch.alloc HTc.out _) | with_reducible exact KP1.out _ HTd.out | with_reducible exact KP1.out _ (Touch.alloc HTd.out _) | go_keep)
      (first
        | (go_simp; go_at_call 127; refine (rmark_any [95] _).mono ?_; rintro _ wa ⟨rfl, hfa⟩; have HTa := hid (PR.then (Touch.drew (Touch.refl (PR w W0) W0)) hfa); have hsza : w.heap.size ≤ wa.heap.size := Touch.size (PR.all HTa.out HF0.out); have HOa := hid (ownsRow_touch (w := World.drew W0) HOo.out hfa (fun _ _ h => h)); clear hfa)
        | (refine step_append_src _ rfl (.tmp 13) (.tmp 15) 34 rfl w.heap.size 73 i0 _ 4 40 Try.underlying34 hi hz0 hz1 hz2 rfl (by decide) (vo) (baseT a).length ((baseT a).flatMap tokC) (by simp [Act.eval]) (World.ownsRow.alloc HOa.out _) (.slice (some ⟨wa.heap.size, 0, none⟩) 1 1) (([(⟨7, [95]⟩ : Lx.Tok)] : List Lx.Tok)).length ((([(⟨7, [95]⟩ : Lx.Tok)] : List Lx.Tok)).flatMap tokC) (by simp [Act.eval]) (Src.of_own (own_tok1 (B := w.heap.size) (i := wa.heap.size) _ (⟨7, [95]⟩ : Lx.Tok) (by simp) (by first | exact hsza))) (tok_one _) (by have := HLEN.out; unfold maxLen; (try simp at this); (try simp); omega) (by have := HLEN.out; (try simp at this); (try simp); omega) (by first | assumption | (simp only [World.size_alloc]; omega)) ?_; intro vb wb ho hg _; rw [← List.length_append, ← List.flatMap_append] at ho; have HTb := hid (PR.grown (Touch.alloc HTa.out _) (World.ownsRow.alloc HOa.out _) hg); have hszb : w.heap.size ≤ wb.heap.size := Touch.size (PR.all HTb.out HF0.out); have HOb := hid ho; clear ho hg)
        | (go_simp; go_at_call 87; refine (ARGb.out _ _ (HRb.out.fresh (PR.all HTb.out HF0.out))).mono ?_; rintro _ wc ⟨vc, rfl, hob, hfb⟩; have HTc := hid (PR.then HTb.out hfb); have hszc : w.heap.size ≤ wc.heap.size := Touch.size (PR.all HTc.out HF0.out); have HOc := hid (ownsRow_base (B' := w.heap.size) hob hszb); have HOQb := hid (ownsRow_touch HOb.out hfb (fun _ _ h => h)); clear hob hfb)
        | (refine step_append_src _ rfl (.tmp 16) (.tmp 22) 34 rfl w.heap.size 73 i0 _ 4 40 Try.underlying34 hi hz0 hz1 hz2 rfl (by decide) (vb) ((baseT a ++ ([(⟨7, [95]⟩ : Lx.Tok)] : List Lx.Tok))).length (((baseT a ++ ([(⟨7, [95]⟩ : Lx.Tok)] : List Lx.Tok))).flatMap tokC) (by simp [Act.eval]) HOQb.out (vc) (argT b).length ((argT b).flatMap tokC) (by simp [Act.eval]) (Src.of_own HOc.out) (tok_one _) (by have := HLEN.out; unfold maxLen; (try simp at this); (try simp); omega) (by have := HLEN.out; (try simp at this); (try simp); omega) (by first | assumption | (simp only [World.size_alloc]; omega)) ?_; intro vd wd ho hg _; rw [← List.length_append, ← List.flatMap_append] at ho; have HTd := hid (PR.grown HTc.out HOQb.out hg); have hszd : w.heap.size ≤ wd.heap.size := Touch.size (PR.all HTd.out HF0.out); have HOd := hid ho; clear ho hg))
  clear hb_W0 q0_W0 q1_W0 q2_W0 q3_W0 ya0_W0 ya1_W0 ya2_W0 ya3_W0 yb0_W0 yb1_W0 yb2_W0 yb3_W0
  have hb_wd := PR.blk HTd.out HB0.out (by decide)
  have q0_wd : World.cell? wd ⟨w.heap.size, 0, none⟩ = some (.int .i64 7) := Blk.cell hb_wd 0
  have q1_wd : World.cell? wd ⟨w.heap.size, 1, none⟩ = some (tx) := Blk.cell hb_wd 1
  have q2_wd : World.cell? wd ⟨w.heap.size, 2, none⟩ = some (cl) := Blk.cell hb_wd 2
  have q3_wd : World.cell? wd ⟨w.heap.size, 3, none⟩ = some (.slice (some ⟨g, o, none⟩) 2 cap) := Blk.cell hb_wd 3
  have hltb_wd : w.heap.size < wd.heap.size := Blk.lt hb_wd
  have ya0_wd : World.cell? wd ⟨g, o, none⟩ = some (.int .i64 a.kind) := PR.old HTd.out HF0.out XA0.out
  have ya1_wd : World.cell? wd ⟨g, o + 1, none⟩ = some (.string (⟨a.text.toArray⟩ : ByteArray)) := PR.old HTd.out HF0.out XA1.out
  have ya2_wd : World.cell? wd ⟨g, o + 2, none⟩ = some (.int .i64 a.cols) := PR.old HTd.out HF0.out XA2.out
  have ya3_wd : World.cell? wd ⟨g, o + 3, none⟩ = some (sa) := PR.old HTd.out HF0.out XA3.out
  have yb0_wd : World.cell? wd ⟨g, o + 4, none⟩ = some (.int .i64 b.kind) := PR.old HTd.out HF0.out XB0.out
  have yb1_wd : World.cell? wd ⟨g, o + 4 + 1, none⟩ = some (.string (⟨b.text.toArray⟩ : ByteArray)) := PR.old HTd.out HF0.out XB1.out
  have yb2_wd : World.cell? wd ⟨g, o + 4 + 2, none⟩ = some (.int .i64 b.cols) := PR.old HTd.out HF0.out XB2.out
  have yb3_wd : World.cell? wd ⟨g, o + 4 + 3, none⟩ = some (sb) := PR.old HTd.out HF0.out XB3.out
  have hltg_wd : g < wd.heap.size := block_lt_of_cell ya0_wd
  go_wp2_with fail
  go_ret
  exact ⟨vd, rfl, ownCast HOd.out (by first | rfl | (simp only [List.append_assoc] <;> rfl) | (simp <;> rfl)), PR.all HTd.out HF0.out⟩

set_option maxRecDepth 100000 in
set_option maxHeartbeats 2000000 in
theorem rscripts_8 (tx cl : Value) (a b : Nd) (ha : BaseR a) (hb : ArgR b) (hl : (baseT a ++ (argT b)).length ≤ 50000) (w : World) (sl : Value) (hsl : RepL w [a, b] sl) : Calls Try.prog 90 #[.agg #[.int .i64 8, tx, cl, sl]] w (TokRes w (baseT a ++ ([Tr.mk7 94] ++ argT b))) := by
  obtain ⟨g, o, cap, sa, sb, rfl, a0, a1, a2, a3, hra, b0, b1, b2, b3, hrb⟩ := hsl.two
  obtain ⟨i0, hi, hz0, hz1, hz2⟩ := info_parts infoRTok
  have BASa := hid ha
  have ARGb := hid hb
  have HLEN := hid hl
  have HRa := hid hra
  have HRb := hid hrb
  clear ha hl hsl hb hra hrb
  have XA0 := hid a0
  have XA1 := hid a1
  have XA2 := hid a2
  have XA3 := hid a3
  have XB0 := hid b0
  have XB1 := hid b1
  have XB2 := hid b2
  have XB3 := hid b3
  clear a0 a1 a2 a3 b0 b1 b2 b3
  have xa0_w : World.cell? w ⟨g, o, none⟩ = some (.int .i64 a.kind) := XA0.out
  have xa1_w : World.cell? w ⟨g, o + 1, none⟩ = some (.string (⟨a.text.toArray⟩ : ByteArray)) := XA1.out
  have xa2_w : World.cell? w ⟨g, o + 2, none⟩ = some (.int .i64 a.cols) := XA2.out
  have xa3_w : World.cell? w ⟨g, o + 3, none⟩ = some (sa) := XA3.out
  have xb0_w : World.cell? w ⟨g, o + 4, none⟩ = some (.int .i64 b.kind) := XB0.out
  have xb1_w : World.cell? w ⟨g, o + 4 + 1, none⟩ = some (.string (⟨b.text.toArray⟩ : ByteArray)) := XB1.out
  have xb2_w : World.cell? w ⟨g, o + 4 + 2, none⟩ = some (.int .i64 b.cols) := XB2.out
  have xb3_w : World.cell? w ⟨g, o + 4 + 3, none⟩ = some (sb) := XB3.out
  have hlt_g_w : g < w.heap.size := block_lt_of_cell xa0_w
  go_enter Try.func90, Try.ntmps90
  go_wp2_with fail
  refine Calls.mono (BASa.out _ _ (HRa.out.fresh ((Touch.refl _ _).alloc _))) ?_
  rintro _ W0 ⟨vo, rfl, hoo, hfo⟩
  have HF0 := hid (show Fresh w W0 from Touch.pre hfo)
  have HB0 := hid (hfo.blk (Blk.new _ _ _) (fun h => h))
  have hsz0 : w.heap.size ≤ W0.heap.size := Touch.size HF0.out
  have hltb0 : w.heap.size < W0.heap.size := Blk.lt HB0.out
  have HOo := hid (ownsRow_base (B' := w.heap.size) hoo (by simp only [World.size_alloc]; omega))
  clear hoo hfo xa0_w xa1_w xa2_w xa3_w xb0_w xb1_w xb2_w xb3_w hlt_g_w
  have hb_W0 := PR.blk (Touch.refl (PR w W0) W0) HB0.out (by decide)
  have q0_W0 : World.cell? W0 ⟨w.heap.size, 0, none⟩ = some (.int .i64 8) := Blk.cell hb_W0 0
  have q1_W0 : World.cell? W0 ⟨w.heap.size, 1, none⟩ = some (tx) := Blk.cell hb_W0 1
  have q2_W0 : World.cell? W0 ⟨w.heap.size, 2, none⟩ = some (cl) := Blk.cell hb_W0 2
  have q3_W0 : World.cell? W0 ⟨w.heap.size, 3, none⟩ = some (.slice (some ⟨g, o, none⟩) 2 cap) := Blk.cell hb_W0 3
  have hltb_W0 : w.heap.size < W0.heap.size := Blk.lt hb_W0
  have ya0_W0 : World.cell? W0 ⟨g, o, none⟩ = some (.int .i64 a.kind) := PR.old (Touch.refl (PR w W0) W0) HF0.out XA0.out
  have ya1_W0 : World.cell? W0 ⟨g, o + 1, none⟩ = some (.string (⟨a.text.toArray⟩ : ByteArray)) := PR.old (Touch.refl (PR w W0) W0) HF0.out XA1.out
  have ya2_W0 : World.cell? W0 ⟨g, o + 2, none⟩ = some (.int .i64 a.cols) := PR.old (Touch.refl (PR w W0) W0) HF0.out XA2.out
  have ya3_W0 : World.cell? W0 ⟨g, o + 3, none⟩ = some (sa) := PR.old (Touch.refl (PR w W0) W0) HF0.out XA3.out
  have yb0_W0 : World.cell? W0 ⟨g, o + 4, none⟩ = some (.int .i64 b.kind) := PR.old (Touch.refl (PR w W0) W0) HF0.out XB0.out
  have yb1_W0 : World.cell? W0 ⟨g, o + 4 + 1, none⟩ = some (.string (⟨b.text.toArray⟩ : ByteArray)) := PR.old (Touch.refl (PR w W0) W0) HF0.out XB1.out
  have yb2_W0 : World.cell? W0 ⟨g, o + 4 + 2, none⟩ = some (.int .i64 b.cols) := PR.old (Touch.refl (PR w W0) W0) HF0.out XB2.out
  have yb3_W0 : World.cell? W0 ⟨g, o + 4 + 3, none⟩ = some (sb) := PR.old (Touch.refl (PR w W0) W0) HF0.out XB3.out
  have hltg_W0 : g < W0.heap.size := block_lt_of_cell ya0_W0
  go_wp2_with fail
  have KP1 := hid (fun (W' : World) (ht : Touch (PR w W0) W0 W') => (⟨(PR.blk ht HB0.out (by decide)).cell 3, PR.old ht HF0.out XB0.out, PR.old ht HF0.out XB1.out, PR.old ht HF0.out XB2.out, PR.old ht HF0.out XB3.out⟩ : W'.cell? ⟨w.heap.size, 3, none⟩ = some (.slice (some ⟨g, o, none⟩) 2 cap) ∧ W'.cell? ⟨g, o + 4, none⟩ = some (.int .i64 b.kind) ∧ W'.cell? ⟨g, o + 4 + 1, none⟩ = some (.string (⟨b.text.toArray⟩ : ByteArray)) ∧ W'.cell? ⟨g, o + 4 + 2, none⟩ = some (.int .i64 b.cols) ∧ W'.cell? ⟨g, o + 4 + 3, none⟩ = some (sb)))
  go_region_held3 (fun w' => w'.cell? ⟨w.heap.size, 3, none⟩ = some (.slice (some ⟨g, o, none⟩) 2 cap) ∧ w'.cell? ⟨g, o + 4, none⟩ = some (.int .i64 b.kind) ∧ w'.cell? ⟨g, o + 4 + 1, none⟩ = some (.string (⟨b.text.toArray⟩ : ByteArray)) ∧ w'.cell? ⟨g, o + 4 + 2, none⟩ = some (.int .i64 b.cols) ∧ w'.cell? ⟨g, o + 4 + 3, none⟩ = some (sb)) (first | with_reducible exact KP1.out _ (Touch.drew (Touch.refl (PR w W0) W0)) | with_reducible exact KP1.out _ HTa.out | with_reducible exact KP1.out _ (Touch.alloc HTa.out _) | with_reducible exact KP1.out _ HTb.out | with_reducible exact KP1.out _ (Touch.alloc HTb.out _) | with_reducible exact KP1.out _ HTc.out | with_reducible exact KP1.out _ (Touch.alloc HTc.out _) | with_reducible exact KP1.out _ HTd.out | with_reducible exact KP1.out _ (Touch.alloc HTd.out _) | go_keep)
      (first
        | (go_simp; go_at_call 127; refine (rmark_any [94] _).mono ?_; rintro _ wa ⟨rfl, hfa⟩; have HTa := hid (PR.then (Touch.drew (Touch.refl (PR w W0) W0)) hfa); have hsza : w.heap.size ≤ wa.heap.size := Touch.size (PR.all HTa.out HF0.out); have HOa := hid (ownsRow_touch (w := World.drew W0) HOo.out hfa (fun _ _ h => h)); clear hfa)
        | (refine step_append_src _ rfl (.tmp 29) (.tmp 31) 34 rfl w.heap.size 73 i0 _ 4 40 Try.underlying34 hi hz0 hz1 hz2 rfl (by decide) (vo) (baseT a).length ((baseT a).flatMap tokC) (by simp [Act.eval]) (World.ownsRow.alloc HOa.out _) (.slice (some ⟨wa.heap.size, 0, none⟩) 1 1) (([(⟨7, [94]⟩ : Lx.Tok)] : List Lx.Tok)).length ((([(⟨7, [94]⟩ : Lx.Tok)] : List Lx.Tok)).flatMap tokC) (by simp [Act.eval]) (Src.of_own (own_tok1 (B := w.heap.size) (i := wa.heap.size) _ (⟨7, [94]⟩ : Lx.Tok) (by simp) (by first | exact hsza))) (tok_one _) (by have := HLEN.out; unfold maxLen; (try simp at this); (try simp); omega) (by have := HLEN.out; (try simp at this); (try simp); omega) (by first | assumption | (simp only [World.size_alloc]; omega)) ?_; intro vb wb ho hg _; rw [← List.length_append, ← List.flatMap_append] at ho; have HTb := hid (PR.grown (Touch.alloc HTa.out _) (World.ownsRow.alloc HOa.out _) hg); have hszb : w.heap.size ≤ wb.heap.size := Touch.size (PR.all HTb.out HF0.out); have HOb := hid ho; clear ho hg)
        | (go_simp; go_at_call 87; refine (ARGb.out _ _ (HRb.out.fresh (PR.all HTb.out HF0.out))).mono ?_; rintro _ wc ⟨vc, rfl, hob, hfb⟩; have HTc := hid (PR.then HTb.out hfb); have hszc : w.heap.size ≤ wc.heap.size := Touch.size (PR.all HTc.out HF0.out); have HOc := hid (ownsRow_base (B' := w.heap.size) hob hszb); have HOQb := hid (ownsRow_touch HOb.out hfb (fun _ _ h => h)); clear hob hfb)
        | (refine step_append_src _ rfl (.tmp 32) (.tmp 38) 34 rfl w.heap.size 73 i0 _ 4 40 Try.underlying34 hi hz0 hz1 hz2 rfl (by decide) (vb) ((baseT a ++ ([(⟨7, [94]⟩ : Lx.Tok)] : List Lx.Tok))).length (((baseT a ++ ([(⟨7, [94]⟩ : Lx.Tok)] : List Lx.Tok))).flatMap tokC) (by simp [Act.eval]) HOQb.out (vc) (argT b).length ((argT b).flatMap tokC) (by simp [Act.eval]) (Src.of_own HOc.out) (tok_one _) (by have := HLEN.out; unfold maxLen; (try simp at this); (try simp); omega) (by have := HLEN.out; (try simp at this); (try simp); omega) (by first | assumption | (simp only [World.size_alloc]; omega)) ?_; intro vd wd ho hg _; rw [← List.length_append, ← List.flatMap_append] at ho; have HTd := hid (PR.grown HTc.out HOQb.out hg); have hszd : w.heap.size ≤ wd.heap.size := Touch.size (PR.all HTd.out HF0.out); have HOd := hid ho; clear ho hg))
  go_wp2_with fail
  go_ret
  exact ⟨vd, rfl, ownCast HOd.out (by first | rfl | (simp only [List.append_assoc] <;> rfl) | (simp <;> rfl)), PR.all HTd.out HF0.out⟩

set_option maxRecDepth 100000 in
set_option maxHeartbeats 2000000 in
theorem rscripts_9 (tx cl : Value) (a b d : Nd) (ha : BaseR a) (hb : ArgR b) (hd : ArgR d) (hl : (baseT a ++ (argT b ++ argT d)).length ≤ 50000) (w : World) (sl : Value) (hsl : RepL w [a, b, d] sl) : Calls Try.prog 90 #[.agg #[.int .i64 9, tx, cl, sl]] w (TokRes w (baseT a ++ ([Tr.mk7 95] ++ (argT b ++ ([Tr.mk7 94] ++ argT d))))) := by
  obtain ⟨g, o, cap, sa, sb, sd, rfl, a0, a1, a2, a3, hra, b0, b1, b2, b3, hrb, d0, d1, d2, d3, hrd⟩ := hsl.three
  obtain ⟨i0, hi, hz0, hz1, hz2⟩ := info_parts infoRTok
  have BASa := hid ha
  have ARGb := hid hb
  have ARGd := hid hd
  have HLEN := hid hl
  have HRa := hid hra
  have HRb := hid hrb
  have HRd := hid hrd
  clear ha hl hsl hb hd hra hrb hrd
  have XA0 := hid a0
  have XA1 := hid a1
  have XA2 := hid a2
  have XA3 := hid a3
  have XB0 := hid b0
  have XB1 := hid b1
  have XB2 := hid b2
  have XB3 := hid b3
  have XD0 := hid d0
  have XD1 := hid d1
  have XD2 := hid d2
  have XD3 := hid d3
  clear a0 a1 a2 a3 b0 b1 b2 b3 d0 d1 d2 d3
  have xa0_w : World.cell? w ⟨g, o, none⟩ = some (.int .i64 a.kind) := XA0.out
  have xa1_w : World.cell? w ⟨g, o + 1, none⟩ = some (.string (⟨a.text.toArray⟩ : ByteArray)) := XA1.out
  have xa2_w : World.cell? w ⟨g, o + 2, none⟩ = some (.int .i64 a.cols) := XA2.out
  have xa3_w : World.cell? w ⟨g, o + 3, none⟩ = some (sa) := XA3.out
  have xb0_w : World.cell? w ⟨g, o + 4, none⟩ = some (.int .i64 b.kind) := XB0.out
  have xb1_w : World.cell? w ⟨g, o + 4 + 1, none⟩ = some (.string (⟨b.text.toArray⟩ : ByteArray)) := XB1.out
  have xb2_w : World.cell? w ⟨g, o + 4 + 2, none⟩ = some (.int .i64 b.cols) := XB2.out
  have xb3_w : World.cell? w ⟨g, o + 4 + 3, none⟩ = some (sb) := XB3.out
  have xd0_w : World.cell? w ⟨g, o + 8, none⟩ = some (.int .i64 d.kind) := XD0.out
  have xd1_w : World.cell? w ⟨g, o + 8 + 1, none⟩ = some (.string (⟨d.text.toArray⟩ : ByteArray)) := XD1.out
  have xd2_w : World.cell? w ⟨g, o + 8 + 2, none⟩ = some (.int .i64 d.cols) := XD2.out
  have xd3_w : World.cell? w ⟨g, o + 8 + 3, none⟩ = some (sd) := XD3.out
  have hlt_g_w : g < w.heap.size := block_lt_of_cell xa0_w
  go_enter Try.func90, Try.ntmps90
  go_wp2_with fail
  refine Calls.mono (BASa.out _ _ (HRa.out.fresh ((Touch.refl _ _).alloc _))) ?_
  rintro _ W0 ⟨vo, rfl, hoo, hfo⟩
  have HF0 := hid (show Fresh w W0 from Touch.pre hfo)
  have HB0 := hid (hfo.blk (Blk.new _ _ _) (fun h => h))
  have hsz0 : w.heap.size ≤ W0.heap.size := Touch.size HF0.out
  have hltb0 : w.heap.size < W0.heap.size := Blk.lt HB0.out
  have HOo := hid (ownsRow_base (B' := w.heap.size) hoo (by simp only [World.size_alloc]; omega))
  clear hoo hfo xa0_w xa1_w xa2_w xa3_w xb0_w xb1_w xb2_w xb3_w xd0_w xd1_w xd2_w xd3_w hlt_g_w
  have hb_W0 := PR.blk (Touch.refl (PR w W0) W0) HB0.out (by decide)
  have q0_W0 : World.cell? W0 ⟨w.heap.size, 0, none⟩ = some (.int .i64 9) := Blk.cell hb_W0 0
  have q1_W0 : World.cell? W0 ⟨w.heap.size, 1, none⟩ = some (tx) := Blk.cell hb_W0 1
  have q2_W0 : World.cell? W0 ⟨w.heap.size, 2, none⟩ = some (cl) := Blk.cell hb_W0 2
  have q3_W0 : World.cell? W0 ⟨w.heap.size, 3, none⟩ = some (.slice (some ⟨g, o, none⟩) 3 cap) := Blk.cell hb_W0 3
  have hltb_W0 : w.heap.size < W0.heap.size := Blk.lt hb_W0
  have ya0_W0 : World.cell? W0 ⟨g, o, none⟩ = some (.int .i64 a.kind) := PR.old (Touch.refl (PR w W0) W0) HF0.out XA0.out
  have ya1_W0 : World.cell? W0 ⟨g, o + 1, none⟩ = some (.string (⟨a.text.toArray⟩ : ByteArray)) := PR.old (Touch.refl (PR w W0) W0) HF0.out XA1.out
  have ya2_W0 : World.cell? W0 ⟨g, o + 2, none⟩ = some (.int .i64 a.cols) := PR.old (Touch.refl (PR w W0) W0) HF0.out XA2.out
  have ya3_W0 : World.cell? W0 ⟨g, o + 3, none⟩ = some (sa) := PR.old (Touch.refl (PR w W0) W0) HF0.out XA3.out
  have yb0_W0 : World.cell? W0 ⟨g, o + 4, none⟩ = some (.int .i64 b.kind) := PR.old (Touch.refl (PR w W0) W0) HF0.out XB0.out
  have yb1_W0 : World.cell? W0 ⟨g, o + 4 + 1, none⟩ = some (.string (⟨b.text.toArray⟩ : ByteArray)) := PR.old (Touch.refl (PR w W0) W0) HF0.out XB1.out
  have yb2_W0 : World.cell? W0 ⟨g, o + 4 + 2, none⟩ = some (.int .i64 b.cols) := PR.old (Touch.refl (PR w W0) W0) HF0.out XB2.out
  have yb3_W0 : World.cell? W0 ⟨g, o + 4 + 3, none⟩ = some (sb) := PR.old (Touch.refl (PR w W0) W0) HF0.out XB3.out
  have yd0_W0 : World.cell? W0 ⟨g, o + 8, none⟩ = some (.int .i64 d.kind) := PR.old (Touch.refl (PR w W0) W0) HF0.out XD0.out
  have yd1_W0 : World.cell? W0 ⟨g, o + 8 + 1, none⟩ = some (.string (⟨d.text.toArray⟩ : ByteArray)) := PR.old (Touch.refl (PR w W0) W0) HF0.out XD1.out
  have yd2_W0 : World.cell? W0 ⟨g, o + 8 + 2, none⟩ = some (.int .i64 d.cols) := PR.old (Touch.refl (PR w W0) W0) HF0.out XD2.out
  have yd3_W0 : World.cell? W0 ⟨g, o + 8 + 3, none⟩ = some (sd) := PR.old (Touch.refl (PR w W0) W0) HF0.out XD3.out
  have hltg_W0 : g < W0.heap.size := block_lt_of_cell ya0_W0
  go_wp2_with fail
  have KP1 := hid (fun (W' : World) (ht : Touch (PR w W0) W0 W') => (⟨(PR.blk ht HB0.out (by decide)).cell 3, PR.old ht HF0.out XB0.out, PR.old ht HF0.out XB1.out, PR.old ht HF0.out XB2.out, PR.old ht HF0.out XB3.out⟩ : W'.cell? ⟨w.heap.size, 3, none⟩ = some (.slice (some ⟨g, o, none⟩) 3 cap) ∧ W'.cell? ⟨g, o + 4, none⟩ = some (.int .i64 b.kind) ∧ W'.cell? ⟨g, o + 4 + 1, none⟩ = some (.string (⟨b.text.toArray⟩ : ByteArray)) ∧ W'.cell? ⟨g, o + 4 + 2, none⟩ = some (.int .i64 b.cols) ∧ W'.cell? ⟨g, o + 4 + 3, none⟩ = some (sb)))
  go_region_held3 (fun w' => w'.cell? ⟨w.heap.size, 3, none⟩ = some (.slice (some ⟨g, o, none⟩) 3 cap) ∧ w'.cell? ⟨g, o + 4, none⟩ = some (.int .i64 b.kind) ∧ w'.cell? ⟨g, o + 4 + 1, none⟩ = some (.string (⟨b.text.toArray⟩ : ByteArray)) ∧ w'.cell? ⟨g, o + 4 + 2, none⟩ = some (.int .i64 b.cols) ∧ w'.cell? ⟨g, o + 4 + 3, none⟩ = some (sb)) (first | with_reducible exact KP1.out _ (Touch.drew (Touch.refl (PR w W0) W0)) | with_reducible exact KP1.out _ HTa.out | with_reducible exact KP1.out _ (Touch.alloc HTa.out _) | with_reducible exact KP1.out _ HTb.out | with_reducible exact KP1.out _ (Touch.alloc HTb.out _) | with_reducible exact KP1.out _ HTc.out | with_reducible exact KP1.out _ (Touch.alloc HTc.out _) | with_reducible exact KP1.out _ HTd.out | with_reducible exact KP1.out _ (Touch.alloc HTd.out _) | go_keep)
      (first
        | (go_simp; go_at_call 127; refine (rmark_any [95] _).mono ?_; rintro _ wa ⟨rfl, hfa⟩; have HTa := hid (PR.then (Touch.drew (Touch.refl (PR w W0) W0)) hfa); have hsza : w.heap.size ≤ wa.heap.size := Touch.size (PR.all HTa.out HF0.out); have HOa := hid (ownsRow_touch (w := World.drew W0) HOo.out hfa (fun _ _ h => h)); clear hfa)
        | (refine step_append_src _ rfl (.tmp 13) (.tmp 15) 34 rfl w.heap.size 73 i0 _ 4 40 Try.underlying34 hi hz0 hz1 hz2 rfl (by decide) (vo) (baseT a).length ((baseT a).flatMap tokC) (by simp [Act.eval]) (World.ownsRow.alloc HOa.out _) (.slice (some ⟨wa.heap.size, 0, none⟩) 1 1) (([(⟨7, [95]⟩ : Lx.Tok)] : List Lx.Tok)).length ((([(⟨7, [95]⟩ : Lx.Tok)] : List Lx.Tok)).flatMap tokC) (by simp [Act.eval]) (Src.of_own (own_tok1 (B := w.heap.size) (i := wa.heap.size) _ (⟨7, [95]⟩ : Lx.Tok) (by simp) (by first | exact hsza))) (tok_one _) (by have := HLEN.out; unfold maxLen; (try simp at this); (try simp); omega) (by have := HLEN.out; (try simp at this); (try simp); omega) (by first | assumption | (simp only [World.size_alloc]; omega)) ?_; intro vb wb ho hg _; rw [← List.length_append, ← List.flatMap_append] at ho; have HTb := hid (PR.grown (Touch.alloc HTa.out _) (World.ownsRow.alloc HOa.out _) hg); have hszb : w.heap.size ≤ wb.heap.size := Touch.size (PR.all HTb.out HF0.out); have HOb := hid ho; clear ho hg)
        | (go_simp; go_at_call 87; refine (ARGb.out _ _ (HRb.out.fresh (PR.all HTb.out HF0.out))).mono ?_; rintro _ wc ⟨vc, rfl, hob, hfb⟩; have HTc := hid (PR.then HTb.out hfb); have hszc : w.heap.size ≤ wc.heap.size := Touch.size (PR.all HTc.out HF0.out); have HOc := hid (ownsRow_base (B' := w.heap.size) hob hszb); have HOQb := hid (ownsRow_touch HOb.out hfb (fun _ _ h => h)); clear hob hfb)
        | (refine step_append_src _ rfl (.tmp 16) (.tmp 22) 34 rfl w.heap.size 73 i0 _ 4 40 Try.underlying34 hi hz0 hz1 hz2 rfl (by decide) (vb) ((baseT a ++ ([(⟨7, [95]⟩ : Lx.Tok)] : List Lx.Tok))).length (((baseT a ++ ([(⟨7, [95]⟩ : Lx.Tok)] : List Lx.Tok))).flatMap tokC) (by simp [Act.eval]) HOQb.out (vc) (argT b).length ((argT b).flatMap tokC) (by simp [Act.eval]) (Src.of_own HOc.out) (tok_one _) (by have := HLEN.out; unfold maxLen; (try simp at this); (try simp); omega) (by have := HLEN.out; (try simp at this); (try simp); omega) (by first | assumption | (simp only [World.size_alloc]; omega)) ?_; intro vd wd ho hg _; rw [← List.length_append, ← List.flatMap_append] at ho; have HTd := hid (PR.grown HTc.out HOQb.out hg); have hszd : w.heap.size ≤ wd.heap.size := Touch.size (PR.all HTd.out HF0.out); have HOd := hid ho; clear ho hg))
  clear hb_W0 q0_W0 q1_W0 q2_W0 q3_W0 ya0_W0 ya1_W0 ya2_W0 ya3_W0 yb0_W0 yb1_W0 yb2_W0 yb3_W0 yd0_W0 yd1_W0 yd2_W0 yd3_W0
  have hb_wd := PR.blk HTd.out HB0.out (by decide)
  have q0_wd : World.cell? wd ⟨w.heap.size, 0, none⟩ = some (.int .i64 9) := Blk.cell hb_wd 0
  have q1_wd : World.cell? wd ⟨w.heap.size, 1, none⟩ = some (tx) := Blk.cell hb_wd 1
  have q2_wd : World.cell? wd ⟨w.heap.size, 2, none⟩ = some (cl) := Blk.cell hb_wd 2
  have q3_wd : World.cell? wd ⟨w.heap.size, 3, none⟩ = some (.slice (some ⟨g, o, none⟩) 3 cap) := Blk.cell hb_wd 3
  have hltb_wd : w.heap.size < wd.heap.size := Blk.lt hb_wd
  have ya0_wd : World.cell? wd ⟨g, o, none⟩ = some (.int .i64 a.kind) := PR.old HTd.out HF0.out XA0.out
  have ya1_wd : World.cell? wd ⟨g, o + 1, none⟩ = some (.string (⟨a.text.toArray⟩ : ByteArray)) := PR.old HTd.out HF0.out XA1.out
  have ya2_wd : World.cell? wd ⟨g, o + 2, none⟩ = some (.int .i64 a.cols) := PR.old HTd.out HF0.out XA2.out
  have ya3_wd : World.cell? wd ⟨g, o + 3, none⟩ = some (sa) := PR.old HTd.out HF0.out XA3.out
  have yb0_wd : World.cell? wd ⟨g, o + 4, none⟩ = some (.int .i64 b.kind) := PR.old HTd.out HF0.out XB0.out
  have yb1_wd : World.cell? wd ⟨g, o + 4 + 1, none⟩ = some (.string (⟨b.text.toArray⟩ : ByteArray)) := PR.old HTd.out HF0.out XB1.out
  have yb2_wd : World.cell? wd ⟨g, o + 4 + 2, none⟩ = some (.int .i64 b.cols) := PR.old HTd.out HF0.out XB2.out
  have yb3_wd : World.cell? wd ⟨g, o + 4 + 3, none⟩ = some (sb) := PR.old HTd.out HF0.out XB3.out
  have yd0_wd : World.cell? wd ⟨g, o + 8, none⟩ = some (.int .i64 d.kind) := PR.old HTd.out HF0.out XD0.out
  have yd1_wd : World.cell? wd ⟨g, o + 8 + 1, none⟩ = some (.string (⟨d.text.toArray⟩ : ByteArray)) := PR.old HTd.out HF0.out XD1.out
  have yd2_wd : World.cell? wd ⟨g, o + 8 + 2, none⟩ = some (.int .i64 d.cols) := PR.old HTd.out HF0.out XD2.out
  have yd3_wd : World.cell? wd ⟨g, o + 8 + 3, none⟩ = some (sd) := PR.old HTd.out HF0.out XD3.out
  have hltg_wd : g < wd.heap.size := block_lt_of_cell ya0_wd
  go_wp2_with fail
  have KP2 := hid (fun (W' : World) (ht : Touch (PR w W0) W0 W') => (⟨(PR.blk ht HB0.out (by decide)).cell 3, PR.old ht HF0.out XD0.out, PR.old ht HF0.out XD1.out, PR.old ht HF0.out XD2.out, PR.old ht HF0.out XD3.out⟩ : W'.cell? ⟨w.heap.size, 3, none⟩ = some (.slice (some ⟨g, o, none⟩) 3 cap) ∧ W'.cell? ⟨g, o + 8, none⟩ = some (.int .i64 d.kind) ∧ W'.cell? ⟨g, o + 8 + 1, none⟩ = some (.string (⟨d.text.toArray⟩ : ByteArray)) ∧ W'.cell? ⟨g, o + 8 + 2, none⟩ = some (.int .i64 d.cols) ∧ W'.cell? ⟨g, o + 8 + 3, none⟩ = some (sd)))
  go_region_held3 (fun w' => w'.cell? ⟨w.heap.size, 3, none⟩ = some (.slice (some ⟨g, o, none⟩) 3 cap) ∧ w'.cell? ⟨g, o + 8, none⟩ = some (.int .i64 d.kind) ∧ w'.cell? ⟨g, o + 8 + 1, none⟩ = some (.string (⟨d.text.toArray⟩ : ByteArray)) ∧ w'.cell? ⟨g, o + 8 + 2, none⟩ = some (.int .i64 d.cols) ∧ w'.cell? ⟨g, o + 8 + 3, none⟩ = some (sd)) (first | with_reducible exact KP2.out _ (Touch.drew HTd.out) | with_reducible exact KP2.out _ HTe.out | with_reducible exact KP2.out _ (Touch.alloc HTe.out _) | with_reducible exact KP2.out _ HTf.out | with_reducible exact KP2.out _ (Touch.alloc HTf.out _) | with_reducible exact KP2.out _ HTh.out | with_reducible exact KP2.out _ (Touch.alloc HTh.out _) | with_reducible exact KP2.out _ HTi.out | with_reducible exact KP2.out _ (Touch.alloc HTi.out _) | go_keep)
      (first
        | (go_simp; go_at_call 127; refine (rmark_any [94] _).mono ?_; rintro _ we ⟨rfl, hfa⟩; have HTe := hid (PR.then (Touch.drew HTd.out) hfa); have hsze : w.heap.size ≤ we.heap.size := Touch.size (PR.all HTe.out HF0.out); have HOe := hid (ownsRow_touch (w := World.drew wd) HOd.out hfa (fun _ _ h => h)); clear hfa)
        | (refine step_append_src _ rfl (.tmp 29) (.tmp 31) 34 rfl w.heap.size 73 i0 _ 4 40 Try.underlying34 hi hz0 hz1 hz2 rfl (by decide) (vd) (((baseT a ++ ([(⟨7, [95]⟩ : Lx.Tok)] : List Lx.Tok)) ++ argT b)).length ((((baseT a ++ ([(⟨7, [95]⟩ : Lx.Tok)] : List Lx.Tok)) ++ argT b)).flatMap tokC) (by simp [Act.eval]) (World.ownsRow.alloc HOe.out _) (.slice (some ⟨we.heap.size, 0, none⟩) 1 1) (([(⟨7, [94]⟩ : Lx.Tok)] : List Lx.Tok)).length ((([(⟨7, [94]⟩ : Lx.Tok)] : List Lx.Tok)).flatMap tokC) (by simp [Act.eval]) (Src.of_own (own_tok1 (B := w.heap.size) (i := we.heap.size) _ (⟨7, [94]⟩ : Lx.Tok) (by simp) (by first | exact hsze))) (tok_one _) (by have := HLEN.out; unfold maxLen; (try simp at this); (try simp); omega) (by have := HLEN.out; (try simp at this); (try simp); omega) (by first | assumption | (simp only [World.size_alloc]; omega)) ?_; intro vf wf ho hg _; rw [← List.length_append, ← List.flatMap_append] at ho; have HTf := hid (PR.grown (Touch.alloc HTe.out _) (World.ownsRow.alloc HOe.out _) hg); have hszf : w.heap.size ≤ wf.heap.size := Touch.size (PR.all HTf.out HF0.out); have HOf := hid ho; clear ho hg)
        | (go_simp; go_at_call 87; refine (ARGd.out _ _ (HRd.out.fresh (PR.all HTf.out HF0.out))).mono ?_; rintro _ wh ⟨vh, rfl, hob, hfb⟩; have HTh := hid (PR.then HTf.out hfb); have hszh : w.heap.size ≤ wh.heap.size := Touch.size (PR.all HTh.out HF0.out); have HOh := hid (ownsRow_base (B' := w.heap.size) hob hszf); have HOQf := hid (ownsRow_touch HOf.out hfb (fun _ _ h => h)); clear hob hfb)
        | (refine step_append_src _ rfl (.tmp 32) (.tmp 38) 34 rfl w.heap.size 73 i0 _ 4 40 Try.underlying34 hi hz0 hz1 hz2 rfl (by decide) (vf) ((((baseT a ++ ([(⟨7, [95]⟩ : Lx.Tok)] : List Lx.Tok)) ++ argT b) ++ ([(⟨7, [94]⟩ : Lx.Tok)] : List Lx.Tok))).length (((((baseT a ++ ([(⟨7, [95]⟩ : Lx.Tok)] : List Lx.Tok)) ++ argT b) ++ ([(⟨7, [94]⟩ : Lx.Tok)] : List Lx.Tok))).flatMap tokC) (by simp [Act.eval]) HOQf.out (vh) (argT d).length ((argT d).flatMap tokC) (by simp [Act.eval]) (Src.of_own HOh.out) (tok_one _) (by have := HLEN.out; unfold maxLen; (try simp at this); (try simp); omega) (by have := HLEN.out; (try simp at this); (try simp); omega) (by first | assumption | (simp only [World.size_alloc]; omega)) ?_; intro vi wi ho hg _; rw [← List.length_append, ← List.flatMap_append] at ho; have HTi := hid (PR.grown HTh.out HOQf.out hg); have hszi : w.heap.size ≤ wi.heap.size := Touch.size (PR.all HTi.out HF0.out); have HOi := hid ho; clear ho hg))
  go_wp2_with fail
  go_ret
  exact ⟨vi, rfl, ownCast HOi.out (by first | rfl | (simp only [List.append_assoc] <;> rfl) | (simp <;> rfl)), PR.all HTi.out HF0.out⟩

end Go.Proofs.Ytilgpmpiidccjaa
