/- Part 28 of 53 of a proof; its texts, joined: PrI, PrJ, PrK. No condition. -/
import Derived.Test.YtgfhlfbcoimojaaGreatUb27
import Derived.Test.YtgfhlfbcoimojaaGreatUb5

/- The walk of printer.add behind other tokens. -/
namespace Go.Proofs.YtgfhlfbcoimojaaGreat
open Go.RowKit
theorem toksP_cells {W : World} {B : Nat} {v : Value} {ts : List Lx.PTok} (h : W.ownsRow B 139 4 v ts.length (ts.flatMap ptokCellsP)) (i : Nat) (hi : i < ts.length) :
  ∃ g cap, v = .slice (some ⟨g, 0, none⟩) ts.length cap ∧ B ≤ g ∧ g < W.heap.size ∧ ∀ j u, (ptokCellsP ts[i])[j]? = some u → W.cell? ⟨g, 4 * i + j, none⟩ = some u := by
 rcases h.2 with ⟨_, h0⟩ | ⟨g, cap, cur, hv, hB, r⟩
 ·omega
 ·subst hv
  refine ⟨g, cap, rfl, hB, (h.lt g rfl).2, fun j u hu => ?_⟩
  have hcl := h.cells (g := g) rfl (4 * i + j) u ?_
  ·rw [Addr.add_mid, Nat.zero_add] at hcl; exact hcl
  ·have hj : j < 4 := by have := (List.getElem?_eq_some_iff.1 hu).1; simpa [ptokCellsP] using this
   clear h r
   induction ts generalizing i with
   | nil => simp at hi
   | cons x l ih =>
    cases i with
    | zero => rw [List.flatMap_cons, List.getElem?_append_left (by simp [ptokCellsP]; omega)]; simpa using hu
    | succ i =>
     rw [List.flatMap_cons, List.getElem?_append_right (by simp [ptokCellsP]; omega)]
     have := ih i (by simpa using hi) (by simpa using hu)
     rw [← this]; congr 1; simp [ptokCellsP]; omega
theorem tokP_four {W W' : World} {x : Lx.PTok} {g i : Nat} (h : ∀ j u, (ptokCellsP x)[j]? = some u → W.cell? ⟨g, 4 * i + j, none⟩ = some u) (ht : Fresh W W') :
  W'.cell? ⟨g, i * 4, none⟩ = some (.int .i64 x.kind) ∧ W'.cell? ⟨g, i * 4 + 1, none⟩ = some (.string ⟨x.text.toArray⟩) ∧ W'.cell? ⟨g, i * 4 + 2, none⟩ = some (.int .i64 x.from_) ∧ W'.cell? ⟨g, i * 4 + 3, none⟩ = some (.int .i64 x.to_) := by
 rw [Nat.mul_comm i 4]
 exact ⟨ht.cell (h 0 _ rfl) (fun h => h), ht.cell (h 1 _ rfl) (fun h => h), ht.cell (h 2 _ rfl) (fun h => h), ht.cell (h 3 _ rfl) (fun h => h)⟩
theorem gap_of {toks : List Lx.PTok} {y : Lx.PTok} {m k : Nat} {t : List UInt8} {j : Bool} (hm : toks.length = m + 1) (hy : toks[m]? = some y) (hj : joinsL (y.kind : Int) (k : Int) (ByteArray.mk t.toArray).data.toList = j) : gap toks ⟨k, t⟩ = if j then [32] else [] := by
 have e0 : toks.getLast? = some y := by rw [List.getLast?_eq_getElem?, hm]; exact hy
 have e2 : ∀ a n : Nat, ((a : Int) == (n : Int)) = (a == n) := fun a n => by rw [Bool.eq_iff_iff]; simp; omega
 have e1 : joinLast toks ⟨k, t⟩ = j := by
  rw [← hj]
  unfold joinLast
  rw [e0]
  unfold joinsL
  have a1 : ((y.kind : Int) == 2) = (y.kind == 2) := e2 y.kind 2
  have a2 : ((k : Int) == 2) = (k == 2) := e2 k 2
  have a3 : ((y.kind : Int) == 4) = (y.kind == 4) := e2 y.kind 4
  have a4 : ((k : Int) == 1) = (k == 1) := e2 k 1
  rw [a1, a2, a3, a4]
  rfl
 unfold gap
 rw [e1]
set_option maxRecDepth 100000 in
set_option maxHeartbeats 4000000 in
theorem add_more {w : World} {p B : Nat} {vt vb : Value} {cs : Array Value} {txt : List UInt8} {toks : List Lx.PTok} {y : Lx.PTok} {m : Nat} (hm : toks.length = m + 1) (hy : toks[m]? = some y) (h : Pr w p B vt vb cs toks txt) (k : Nat) (t : List UInt8) (hB : B ≤ w.heap.size) (hl : txt.length ≤ 2000000) (ht : t.length ≤ 2000000) (hn : m ≤ 2000000) :
  Calls Tryz.prog 131 #[.pointer (some ⟨p, 0, none⟩), .int .i64 (k : Int), .string ⟨t.toArray⟩] w fun e w' => e = .returned (.tuple #[]) ∧
   ∃ vt' vb' cs', Pr w' p B vt' vb' cs' (added toks txt ⟨k, t⟩) (txt ++ gap toks ⟨k, t⟩ ++ Lx.spell ⟨k, t⟩) ∧ Touch (PS p B w) w w' := by
 obtain ⟨i0, hi, hz0, hz1, hz2⟩ := info_parts infoTokP
 have hpt := h.bld.blk.lt
 obtain ⟨A, cap, hvt, hA1, hA2, hcells⟩ := toksP_cells h.own m (by omega)
 have ey : toks[m]'(by omega) = y := by rw [List.getElem?_eq_getElem (by omega)] at hy; simpa using hy
 rw [ey] at hcells
 rw [hm] at hvt
 subst hvt
 have q0 : w.cell? ⟨p, 0, none⟩ = some (.slice (some ⟨A, 0, none⟩) (m + 1) cap) := (h.bld.blk.cell 0).trans h.tok
 have hA : A ≠ p := by have := h.lt; omega
 have HP := hid h
 have HC := hid hcells
 clear h hcells
 go_enter Tryz.func131, Tryz.ntmps131
 go_wp2_with fail
 refine forget_world (fun W => Fresh w W ∧ Blk W w.heap.size 139 #[.int .i64 (k : Int), .string ⟨t.toArray⟩, .int .i64 0, .int .i64 0]) ⟨(((Touch.refl _ w).alloc _)), ((Blk.new w 139 _))⟩ ?_
 rintro W1 ⟨hf1, hb1⟩
 have q1 := hf1.cell q0 (fun h => h)
 obtain ⟨u0, u1, u2, u3⟩ := tokP_four (i := m) HC.out hf1
 obtain ⟨r0, r1, r2, r3, _, _, _, _, hg1⟩ := Blk.four hb1
 have g0 := cell_regrown r0
 have g1 := cell_regrown r1
 have g2 := cell_regrown r2
 have g3 := cell_regrown r3
 have k0 := cell_regrown u0
 have k1 := cell_regrown u1
 have k2 := cell_regrown u2
 have k3 := cell_regrown u3
 have kq := cell_regrown q1
 have d1 : ((m : Int) + 1 - 1) = (m : Int) := by omega
 have d2 : IntKind.i64.wrap (m : Int) = (m : Int) := IntWalk.i64_in _ (by omega)
 have d3 : (m : Int) < (m : Int) + 1 := by omega
 have C1 := hid (calmP (fun w => joins_any y.kind y.from_ y.to_ k 0 0 ⟨y.text.toArray⟩ ⟨t.toArray⟩ w) W1)
 obtain ⟨j, hj⟩ : ∃ j, joinsL (y.kind : Int) (k : Int) (ByteArray.mk t.toArray).data.toList = j := ⟨_, rfl⟩
 rw [hj] at C1
 have HP1 := hid (HP.out.fresh hf1)
 have HF1 := hid hf1
 have HB1 := hid hb1
 clear hf1 hb1 q0
 refine wp_region_quiet_below (by kernel_rfl) (by kernel_rfl) ?_
 repeat (quiet_step (with_reducible exact C1.out _ _))
 refine wpQuiet_nil ?_
 rintro W2 ⟨⟨_, _⟩, hW2⟩
 have hf2 : Fresh W1 W2 := by rw [hW2]; exact fresh_of_below (below_regrown _ _ _)
 have HP2 := hid (HP1.out.fresh hf2)
 have HB2 := hid (hf2.blk HB1.out (fun h => h))
 have HT2 := hid (PS.fresh (p := p) (B := B) (HF1.out.trans hf2))
 have hgap := gap_of hm hy hj
 obtain ⟨txt1, htx⟩ : ∃ txt1, txt ++ gap toks ⟨k, t⟩ = txt1 := ⟨_, rfl⟩
 have hB2 : B ≤ W2.heap.size := by have := HT2.out.size; omega
 have hne : w.heap.size ≠ p := by omega
 clear hW2 hf2 g0 g1 g2 g3 k0 k1 k2 k3 kq r0 r1 r2 r3 u0 u1 u2 u3 q1 hg1 C1 HP1 HB1 HF1 hj d1 d2 d3
 cases j
 ·rw [hgap] at htx
  have htx' : txt = txt1 := by simpa using htx
  rw [htx'] at HP2
  have hl1 : txt1.length ≤ 2000001 := by rw [← htx']; omega
  have HPa := HP2
  have HBa := HB2
  have HTa := HT2
  obtain ⟨Wa, hWa⟩ : ∃ Wa, W2 = Wa := ⟨_, rfl⟩
  subst hWa
  obtain ⟨vba, hva⟩ : ∃ v, vb = v := ⟨_, rfl⟩
  subst hva
  go_wp2_with fail
  refine (bLen_any HPa.out.bld).mono ?_
  rintro _ _ ⟨rfl, rfl⟩
  obtain ⟨r0, r1, r2, r3, z0, z1, z2, z3, hg2⟩ := Blk.four HBa.out
  go_wp2_with fail
  refine forget_world (fun W => ∃ cs', Pr W p B (.slice (some ⟨A, 0, none⟩) (m + 1) cap) vb cs' toks txt1 ∧ Blk W w.heap.size 139 #[.int .i64 (k : Int), .string ⟨t.toArray⟩, .int .i64 (txt1.length : Int), .int .i64 0] ∧ Touch (PS p B w) w W) ⟨_, HPa.out.touch (S := fun k => k = w.heap.size) (Touch.setCell (S := fun k => k = w.heap.size) (Touch.refl _ _) (p := ⟨w.heap.size, 2, none⟩) (.inl rfl) _) (fun h => hne h.symm) (fun k hk h => by simp [Value.ownBlock] at hk; omega) (fun k hk h => HPa.out.vb_ne HBa.out (by decide) (h ▸ hk)), HBa.out.put 2 _, HTa.out.setCell (p := ⟨w.heap.size, 2, none⟩) (.inr (Nat.le_refl _)) _⟩ ?_
  rintro W4 ⟨cs4, hp4, hb4, ht4⟩
  clear r0 r1 r2 r3 z0 z1 z2 z3
  obtain ⟨r0, r1, r2, r3, _, _, _, _, hg4⟩ := Blk.four hb4
  have g0 := cell_regrown r0
  have g1 := cell_regrown r1
  have g2 := cell_regrown r2
  have g3 := cell_regrown r3
  have C1 := hid (calmP (fun w => (spell_any k ⟨t.toArray⟩ txt1.length 0 w (by show t.toArray.size ≤ _; simp; omega) : Calls Tryz.prog 158 _ w fun e w' => e = .returned (.string ⟨(Lx.spellL k t).toArray⟩) ∧ Fresh w w')) W4)
  have HT4 := hid ht4
  have HB4 := hid hb4
  have HP4 := hid hp4
  clear ht4 hb4 hp4
  refine wp_region_segs_below [([0,1,2,3,4],5)] [] (by kernel_rfl) (by kernel_rfl) ?_
  simp only [wpSegsC, pick, List.getElem?_cons_zero, List.getElem?_cons_succ]
  repeat (quiet_step (with_reducible exact C1.out _ _))
  refine wpQuiet_nil ?_
  rintro W5 ⟨⟨_, _⟩, hW5⟩
  have hf5 : Fresh W4 W5 := by rw [hW5]; exact fresh_of_below (below_regrown _ _ _)
  have hp5 := HP4.out.fresh hf5
  have hb5 := hf5.blk HB4.out (fun h => h)
  have ht5 := PS.freshR HT4.out hf5
  clear hW5 hf5 g0 g1 g2 g3 r0 r1 r2 r3
  have hsl := spellL_le k t
  have hB5 : B ≤ W5.heap.size := Nat.le_trans hB ht5.size
  have HW6 := hid (writeString_any hp5.bld hp5.lt (by rw [hp5.size]; exact liesPr) ⟨(Lx.spellL k t).toArray⟩ (by show txt1.length + (Lx.spellL k t).toArray.size ≤ _; simp; omega) hB5)
  have HP5 := hid hp5
  have HB5 := hid hb5
  have HT5 := hid ht5
  clear hp5 hb5 ht5
  go_wp2_with fail
  refine HW6.out.mono ?_
  rintro _ w6 ⟨rfl, vb6, hb6, ht6⟩
  have hp6 := HP5.out.wrote hb6 ht6
  have hpt6 : Touch (PS p B w) w w6 := PS.trans HT5.out (PS.bld HP5.out ht6)
  have hbk6 := ht6.blk HB5.out (fun hs => hs.elim (fun h => hne h) (fun h => HP5.out.vb_ne HB5.out (by decide) h))
  have HP6a := hid hp6
  have HT6a := hid hpt6
  have HB6a := hid hbk6
  clear hb6 ht6 hp6 hpt6 hbk6 HW6
  go_wp2_with fail
  refine wpQuiet_nil ?_
  rintro W7 ⟨⟨_, _⟩, hW7⟩
  have hf7 : Fresh w6 W7 := by rw [hW7]; exact fresh_of_below (below_regrown _ _ _)
  have HP6 := hid (HP6a.out.fresh hf7)
  have HT6 := hid (PS.freshR HT6a.out hf7)
  have HB6 := hid (hf7.blk HB6a.out (fun h => h))
  clear hW7 hf7 HP6a HT6a HB6a
  go_wp2_with fail
  refine (bLen_any HP6.out.bld).mono ?_
  rintro _ _ ⟨rfl, rfl⟩
  obtain ⟨r0, r1, r2, r3, z0, z1, z2, z3, hg6⟩ := Blk.four HB6.out
  go_wp2_with fail
  refine forget_world (fun W => ∃ cs', Pr W p B (.slice (some ⟨A, 0, none⟩) (m + 1) cap) vb6 cs' toks (txt1 ++ (Lx.spellL k t)) ∧ Blk W w.heap.size 139 #[.int .i64 (k : Int), .string ⟨t.toArray⟩, .int .i64 (txt1.length : Int), .int .i64 ((txt1.length : Int) + ((Lx.spellL k t).length : Int))] ∧ Touch (PS p B w) w W) ⟨_, HP6.out.touch (S := fun k => k = w.heap.size) (Touch.setCell (S := fun k => k = w.heap.size) (Touch.refl _ _) (p := ⟨w.heap.size, 3, none⟩) (.inl rfl) _) (fun h => hne h.symm) (fun k hk h => by simp [Value.ownBlock] at hk; omega) (fun k hk h => HP6.out.vb_ne HB6.out (by decide) (h ▸ hk)), HB6.out.put 3 _, HT6.out.setCell (p := ⟨w.heap.size, 3, none⟩) (.inr (Nat.le_refl _)) _⟩ ?_
  rintro W8 ⟨cs8, hp8, hb8, ht8⟩
  have p0 : W8.cell? ⟨p, 0, none⟩ = some (.slice (some ⟨A, 0, none⟩) (m + 1) cap) := (hp8.bld.blk.cell 0).trans hp8.tok
  have pz : W8.frozen? ⟨p, 0, none⟩ = false := hp8.bld.blk.frozen 0
  obtain ⟨s0, s1, s2, s3, _, _, _, _, hg8⟩ := Blk.four hb8
  have HP8 := hid hp8
  have HB8 := hid hb8
  have HT8 := hid ht8
  have hown8 := hid (hm ▸ hp8.own : W8.ownsRow B 139 4 _ (m + 1) _)
  have hplt := hp8.bld.blk.lt
  have hB8 : B ≤ W8.heap.size := by have := ht8.size; omega
  clear hp8 hb8 ht8 r0 r1 r2 r3 z0 z1 z2 z3 HP6 HB6 HT6
  obtain ⟨tolen, hto⟩ : ∃ tolen : Int, (txt1.length : Int) + ((Lx.spellL k t).length : Int) = tolen := ⟨_, rfl⟩
  rw [hto] at s3
  have hnew := hid (fun (o : Obj) (ho : o = .cells #[.int .i64 (k : Int), .string ⟨t.toArray⟩, .int .i64 (txt1.length : Int), .int .i64 tolen] 139) => ho ▸ news_of_blkP (W := (W8.alloc o).drew) (g := W8.heap.size) (t := 139) (cs := #[.int .i64 (k : Int), .string ⟨t.toArray⟩, .int .i64 (txt1.length : Int), .int .i64 tolen]) (ho ▸ (Blk.new W8 139 _)))
  have hmx : maxLen = 9223372036854775807 := rfl
  go_region_law (refine step_append_own rfl (.tmp 56) (.tmp 58) 72 rfl B 139 i0 _ 4 40 Tryz.underlying72 hi hz0 hz1 hz2 rfl (by decide) (.slice (some ⟨A, 0, none⟩) (m + 1) cap) (m + 1) _ (by simp [Act.eval]) ((hown8.out.alloc _).drew) ⟨W8.heap.size, 0, none⟩ 1 1 [.int .i64 (k : Int), .string ⟨t.toArray⟩, .int .i64 (txt1.length : Int), .int .i64 tolen] (by simp [Act.eval]) rfl (hnew.out _ rfl) (by intro u hu; simp only [List.mem_cons, List.not_mem_nil, or_false] at hu; rcases hu with rfl | rfl | rfl | rfl <;> rfl) (by omega) (by omega) (by have := World.size_alloc W8; simp; omega) ?_; intro v9 w9 ho9 hg9; obtain ⟨g9, cap9, rfl, c9, z9, HT9, HO9⟩ := app_pr HP8.out ho9 hg9; clear ho9 hg9)
  all_goals
   go_end0
   obtain ⟨hpr, htc⟩ := HP8.out.appended (x := ⟨k, t, txt1.length, (txt1 ++ Lx.spellL k t).length⟩) HT9.out (by
    have := HO9.out
    rw [← hto] at this
    rw [hm]
    simpa [ptokCellsP] using this)
   unfold added
   rw [hgap]
   rw [htx]
   exact ⟨rfl, _, vb6, _, hpr, PS.trans HT8.out htc⟩
 ·rw [hgap] at htx
  have htx' : txt ++ [32] = txt1 := by simpa using htx
  have hl1 : txt1.length ≤ 2000001 := by rw [← htx']; simp; omega
  have HWB := hid (writeByte_any HP2.out.bld (by rw [HP2.out.size]; exact liesPr) 32 32 rfl (by omega) hB2)
  go_wp2_with fail
  refine HWB.out.mono ?_
  rintro _ W3 ⟨rfl, vb3, hb3, ht3⟩
  have hp3 := HP2.out.wrote hb3 ht3
  rw [htx'] at hp3
  have HPa := hid hp3
  have HTa := hid (PS.trans HT2.out (PS.bld HP2.out ht3))
  have HBa := hid (ht3.blk HB2.out (fun hs => hs.elim (fun h => hne h) (fun h => HP2.out.vb_ne HB2.out (by decide) h)))
  clear hb3 ht3 hp3 HWB HP2 HB2 HT2
  go_wp2_with fail
  refine (bLen_any HPa.out.bld).mono ?_
  rintro _ _ ⟨rfl, rfl⟩
  obtain ⟨r0, r1, r2, r3, z0, z1, z2, z3, hg2⟩ := Blk.four HBa.out
  go_wp2_with fail
  refine forget_world (fun W => ∃ cs', Pr W p B (.slice (some ⟨A, 0, none⟩) (m + 1) cap) vb3 cs' toks txt1 ∧ Blk W w.heap.size 139 #[.int .i64 (k : Int), .string ⟨t.toArray⟩, .int .i64 (txt1.length : Int), .int .i64 0] ∧ Touch (PS p B w) w W) ⟨_, HPa.out.touch (S := fun k => k = w.heap.size) (Touch.setCell (S := fun k => k = w.heap.size) (Touch.refl _ _) (p := ⟨w.heap.size, 2, none⟩) (.inl rfl) _) (fun h => hne h.symm) (fun k hk h => by simp [Value.ownBlock] at hk; omega) (fun k hk h => HPa.out.vb_ne HBa.out (by decide) (h ▸ hk)), HBa.out.put 2 _, HTa.out.setCell (p := ⟨w.heap.size, 2, none⟩) (.inr (Nat.le_refl _)) _⟩ ?_
  rintro W4 ⟨cs4, hp4, hb4, ht4⟩
  clear r0 r1 r2 r3 z0 z1 z2 z3
  obtain ⟨r0, r1, r2, r3, _, _, _, _, hg4⟩ := Blk.four hb4
  have g0 := cell_regrown r0
  have g1 := cell_regrown r1
  have g2 := cell_regrown r2
  have g3 := cell_regrown r3
  have C1 := hid (calmP (fun w => (spell_any k ⟨t.toArray⟩ txt1.length 0 w (by show t.toArray.size ≤ _; simp; omega) : Calls Tryz.prog 158 _ w fun e w' => e = .returned (.string ⟨(Lx.spellL k t).toArray⟩) ∧ Fresh w w')) W4)
  have HT4 := hid ht4
  have HB4 := hid hb4
  have HP4 := hid hp4
  clear ht4 hb4 hp4
  refine wp_region_segs_below [([0,1,2,3,4],5)] [] (by kernel_rfl) (by kernel_rfl) ?_
  simp only [wpSegsC, pick, List.getElem?_cons_zero, List.getElem?_cons_succ]
  repeat (quiet_step (with_reducible exact C1.out _ _))
  refine wpQuiet_nil ?_
  rintro W5 ⟨⟨_, _⟩, hW5⟩
  have hf5 : Fresh W4 W5 := by rw [hW5]; exact fresh_of_below (below_regrown _ _ _)
  have hp5 := HP4.out.fresh hf5
  have hb5 := hf5.blk HB4.out (fun h => h)
  have ht5 := PS.freshR HT4.out hf5
  clear hW5 hf5 g0 g1 g2 g3 r0 r1 r2 r3
  have hsl := spellL_le k t
  have hB5 : B ≤ W5.heap.size := Nat.le_trans hB ht5.size
  have HW6 := hid (writeString_any hp5.bld hp5.lt (by rw [hp5.size]; exact liesPr) ⟨(Lx.spellL k t).toArray⟩ (by show txt1.length + (Lx.spellL k t).toArray.size ≤ _; simp; omega) hB5)
  have HP5 := hid hp5
  have HB5 := hid hb5
  have HT5 := hid ht5
  clear hp5 hb5 ht5
  go_wp2_with fail
  refine HW6.out.mono ?_
  rintro _ w6 ⟨rfl, vb6, hb6, ht6⟩
  have hp6 := HP5.out.wrote hb6 ht6
  have hpt6 : Touch (PS p B w) w w6 := PS.trans HT5.out (PS.bld HP5.out ht6)
  have hbk6 := ht6.blk HB5.out (fun hs => hs.elim (fun h => hne h) (fun h => HP5.out.vb_ne HB5.out (by decide) h))
  have HP6a := hid hp6
  have HT6a := hid hpt6
  have HB6a := hid hbk6
  clear hb6 ht6 hp6 hpt6 hbk6 HW6
  go_wp2_with fail
  refine wpQuiet_nil ?_
  rintro W7 ⟨⟨_, _⟩, hW7⟩
  have hf7 : Fresh w6 W7 := by rw [hW7]; exact fresh_of_below (below_regrown _ _ _)
  have HP6 := hid (HP6a.out.fresh hf7)
  have HT6 := hid (PS.freshR HT6a.out hf7)
  have HB6 := hid (hf7.blk HB6a.out (fun h => h))
  clear hW7 hf7 HP6a HT6a HB6a
  go_wp2_with fail
  refine (bLen_any HP6.out.bld).mono ?_
  rintro _ _ ⟨rfl, rfl⟩
  obtain ⟨r0, r1, r2, r3, z0, z1, z2, z3, hg6⟩ := Blk.four HB6.out
  go_wp2_with fail
  refine forget_world (fun W => ∃ cs', Pr W p B (.slice (some ⟨A, 0, none⟩) (m + 1) cap) vb6 cs' toks (txt1 ++ (Lx.spellL k t)) ∧ Blk W w.heap.size 139 #[.int .i64 (k : Int), .string ⟨t.toArray⟩, .int .i64 (txt1.length : Int), .int .i64 ((txt1.length : Int) + ((Lx.spellL k t).length : Int))] ∧ Touch (PS p B w) w W) ⟨_, HP6.out.touch (S := fun k => k = w.heap.size) (Touch.setCell (S := fun k => k = w.heap.size) (Touch.refl _ _) (p := ⟨w.heap.size, 3, none⟩) (.inl rfl) _) (fun h => hne h.symm) (fun k hk h => by simp [Value.ownBlock] at hk; omega) (fun k hk h => HP6.out.vb_ne HB6.out (by decide) (h ▸ hk)), HB6.out.put 3 _, HT6.out.setCell (p := ⟨w.heap.size, 3, none⟩) (.inr (Nat.le_refl _)) _⟩ ?_
  rintro W8 ⟨cs8, hp8, hb8, ht8⟩
  have p0 : W8.cell? ⟨p, 0, none⟩ = some (.slice (some ⟨A, 0, none⟩) (m + 1) cap) := (hp8.bld.blk.cell 0).trans hp8.tok
  have pz : W8.frozen? ⟨p, 0, none⟩ = false := hp8.bld.blk.frozen 0
  obtain ⟨s0, s1, s2, s3, _, _, _, _, hg8⟩ := Blk.four hb8
  have HP8 := hid hp8
  have HB8 := hid hb8
  have HT8 := hid ht8
  have hown8 := hid (hm ▸ hp8.own : W8.ownsRow B 139 4 _ (m + 1) _)
  have hplt := hp8.bld.blk.lt
  have hB8 : B ≤ W8.heap.size := by have := ht8.size; omega
  clear hp8 hb8 ht8 r0 r1 r2 r3 z0 z1 z2 z3 HP6 HB6 HT6
  obtain ⟨tolen, hto⟩ : ∃ tolen : Int, (txt1.length : Int) + ((Lx.spellL k t).length : Int) = tolen := ⟨_, rfl⟩
  rw [hto] at s3
  have hnew := hid (fun (o : Obj) (ho : o = .cells #[.int .i64 (k : Int), .string ⟨t.toArray⟩, .int .i64 (txt1.length : Int), .int .i64 tolen] 139) => ho ▸ news_of_blkP (W := (W8.alloc o).drew) (g := W8.heap.size) (t := 139) (cs := #[.int .i64 (k : Int), .string ⟨t.toArray⟩, .int .i64 (txt1.length : Int), .int .i64 tolen]) (ho ▸ (Blk.new W8 139 _)))
  have hmx : maxLen = 9223372036854775807 := rfl
  go_region_law (refine step_append_own rfl (.tmp 56) (.tmp 58) 72 rfl B 139 i0 _ 4 40 Tryz.underlying72 hi hz0 hz1 hz2 rfl (by decide) (.slice (some ⟨A, 0, none⟩) (m + 1) cap) (m + 1) _ (by simp [Act.eval]) ((hown8.out.alloc _).drew) ⟨W8.heap.size, 0, none⟩ 1 1 [.int .i64 (k : Int), .string ⟨t.toArray⟩, .int .i64 (txt1.length : Int), .int .i64 tolen] (by simp [Act.eval]) rfl (hnew.out _ rfl) (by intro u hu; simp only [List.mem_cons, List.not_mem_nil, or_false] at hu; rcases hu with rfl | rfl | rfl | rfl <;> rfl) (by omega) (by omega) (by have := World.size_alloc W8; simp; omega) ?_; intro v9 w9 ho9 hg9; obtain ⟨g9, cap9, rfl, c9, z9, HT9, HO9⟩ := app_pr HP8.out ho9 hg9; clear ho9 hg9)
  all_goals
   go_end0
   obtain ⟨hpr, htc⟩ := HP8.out.appended (x := ⟨k, t, txt1.length, (txt1 ++ Lx.spellL k t).length⟩) HT9.out (by
    have := HO9.out
    rw [← hto] at this
    rw [hm]
    simpa [ptokCellsP] using this)
   unfold added
   rw [hgap]
   rw [htx]
   exact ⟨rfl, _, vb6, _, hpr, PS.trans HT8.out htc⟩
theorem add_any {w : World} {p B : Nat} {vt vb : Value} {cs : Array Value} {txt : List UInt8} {toks : List Lx.PTok} (h : Pr w p B vt vb cs toks txt) (k : Nat) (t : List UInt8) (hB : B ≤ w.heap.size) (hl : txt.length ≤ 2000000) (ht : t.length ≤ 2000000) (hn : toks.length ≤ 2000000) :
  Calls Tryz.prog 131 #[.pointer (some ⟨p, 0, none⟩), .int .i64 (k : Int), .string ⟨t.toArray⟩] w fun e w' => e = .returned (.tuple #[]) ∧
   ∃ vt' vb' cs', Pr w' p B vt' vb' cs' (added toks txt ⟨k, t⟩) (txt ++ gap toks ⟨k, t⟩ ++ Lx.spell ⟨k, t⟩) ∧ Touch (PS p B w) w w' := by
 cases he : toks.length with
 | zero =>
  have e0 : toks = [] := List.length_eq_zero_iff.1 he
  subst e0
  exact add_first h k t hB hl ht
 | succ m =>
  have hlt : m < toks.length := by omega
  exact add_more he (List.getElem?_eq_getElem hlt) h k t hB hl ht (by omega)
end Go.Proofs.YtgfhlfbcoimojaaGreat

/- Plain law: tokens added one by one. -/
namespace Go.Proofs.YtgfhlfbcoimojaaGreat
def adds : List Lx.Tok → List Lx.PTok → List UInt8 → List Lx.PTok × List UInt8
 | [], toks, txt => (toks, txt)
 | t :: l, toks, txt => adds l (added toks txt t) (txt ++ gap toks t ++ Lx.spell t)
theorem adds_app : ∀ (l m : List Lx.Tok) (toks : List Lx.PTok) (txt : List UInt8), adds (l ++ m) toks txt = adds m (adds l toks txt).1 (adds l toks txt).2
 | [], _, _, _ => rfl
 | t :: l, m, toks, txt => by
  show adds (l ++ m) _ _ = _
  rw [adds_app l m]
  rfl
theorem adds_eq : ∀ (l : List Lx.Tok) (toks : List Lx.PTok) (txt : List UInt8), adds l toks txt = (toks ++ Lx.placed txt.length (Tr.sepd (toks.getLast?.map Lx.tok) l), txt ++ Lx.flat (Tr.sepd (toks.getLast?.map Lx.tok) l))
 | [], toks, txt => by simp [adds, Tr.sepd, Lx.placed, Lx.flat]
 | t :: l, toks, txt => by
  have hs : Tr.sepd (toks.getLast?.map Lx.tok) (t :: l) = (gap toks t, t) :: Tr.sepd (some t) l := by
   unfold gap joinLast
   cases toks.getLast? <;> rfl
  have e1 : (added toks txt t).getLast?.map Lx.tok = some t := by simp [added, Lx.tok]
  show adds l (added toks txt t) (txt ++ gap toks t ++ Lx.spell t) = _
  rw [adds_eq l, e1, hs]
  simp [added, Lx.placed, Lx.flat, Nat.add_assoc]
theorem adds_wtext (l : List Lx.Tok) : adds l [] [] = (Lx.placed 0 (Tr.sepd none l), Tr.wtext l) := by
 rw [adds_eq]
 rfl
end Go.Proofs.YtgfhlfbcoimojaaGreat

/- Small methods of the printer: mark. -/
namespace Go.Proofs.YtgfhlfbcoimojaaGreat
open Go.RowKit
def PrAdd (w w' : World) (p B : Nat) (toks : List Lx.PTok) (txt : List UInt8) (l : List Lx.Tok) : Prop :=
 ∃ vt' vb' cs', Pr w' p B vt' vb' cs' (adds l toks txt).1 (adds l toks txt).2 ∧ Touch (PS p B w) w w'
theorem PrAdd.app {a b c : World} {p B : Nat} {toks : List Lx.PTok} {txt : List UInt8} {l m : List Lx.Tok} (h : PrAdd a b p B toks txt l) (k : PrAdd b c p B (adds l toks txt).1 (adds l toks txt).2 m) : PrAdd a c p B toks txt (l ++ m) := by
 obtain ⟨_, _, _, _, ht⟩ := h
 obtain ⟨vt, vb, cs, hp, ht'⟩ := k
 rw [← adds_app] at hp
 exact ⟨vt, vb, cs, hp, PS.trans ht ht'⟩
theorem add_one {w : World} {p B : Nat} {vt vb : Value} {cs : Array Value} {txt : List UInt8} {toks : List Lx.PTok} (h : Pr w p B vt vb cs toks txt) (k : Nat) (t : List UInt8) (hB : B ≤ w.heap.size) (hl : txt.length ≤ 2000000) (ht : t.length ≤ 2000000) (hn : toks.length ≤ 2000000) :
  Calls Tryz.prog 131 #[.pointer (some ⟨p, 0, none⟩), .int .i64 (k : Int), .string ⟨t.toArray⟩] w fun e w' => e = .returned (.tuple #[]) ∧ PrAdd w w' p B toks txt [⟨k, t⟩] :=
 add_any h k t hB hl ht hn
set_option maxRecDepth 100000 in
theorem pmark_any {w : World} {p B : Nat} {vt vb : Value} {cs : Array Value} {txt : List UInt8} {toks : List Lx.PTok} (h : Pr w p B vt vb cs toks txt) (t : List UInt8) (hB : B ≤ w.heap.size) (hl : txt.length ≤ 2000000) (ht : t.length ≤ 2000000) (hn : toks.length ≤ 2000000) :
  Calls Tryz.prog 133 #[.pointer (some ⟨p, 0, none⟩), .string ⟨t.toArray⟩] w fun e w' => e = .returned (.tuple #[]) ∧ PrAdd w w' p B toks txt [⟨7, t⟩] := by
 have H := hid (add_one h 7 t hB hl ht hn)
 clear h
 go_enter Tryz.func133, Tryz.ntmps133
 go_wp2_with fail
 refine H.out.mono ?_
 rintro _ w1 ⟨rfl, h1⟩
 have H1 := hid h1
 clear h1
 go_wp2_with fail
 go_end0
 exact ⟨rfl, H1.out⟩
theorem PrAdd.freshL {a b c : World} {p B : Nat} {toks : List Lx.PTok} {txt : List UInt8} {l : List Lx.Tok} (hf : Fresh a b) (k : PrAdd b c p B toks txt l) : PrAdd a c p B toks txt l := by
 obtain ⟨vt, vb, cs, hp, ht'⟩ := k
 exact ⟨vt, vb, cs, hp, PS.freshL hf ht'⟩
set_option maxRecDepth 100000 in
theorem number_pr {w : World} {p B : Nat} {vt vb : Value} {cs : Array Value} {txt : List UInt8} {toks : List Lx.PTok} (h : Pr w p B vt vb cs toks txt) (x c : Value) (kd : Value) (t : List UInt8) (hB : B ≤ w.heap.size) (hl : txt.length ≤ 2000000) (ht : t.length ≤ 2000000) (hn : toks.length ≤ 2000000) :
  Calls Tryz.prog 97 #[.pointer (some ⟨p, 0, none⟩), .agg #[kd, .string ⟨t.toArray⟩, c, x]] w fun e w' => e = .returned (.tuple #[]) ∧ PrAdd w w' p B toks txt [⟨2, t⟩] := by
 have hf : ∀ o, Fresh w (w.alloc o) := fun o => (Touch.refl _ w).alloc o
 have H := hid (fun o => add_one (h.fresh (hf o)) 2 t (Nat.le_trans hB (hf o).size) hl ht hn)
 clear h
 go_enter Tryz.func97, Tryz.ntmps97
 go_wp2_with fail
 refine (H.out _).mono ?_
 rintro _ w1 ⟨rfl, h1⟩
 have H1 := hid (PrAdd.freshL (hf _) h1)
 clear h1
 go_wp2_with fail
 go_end0
 exact ⟨rfl, H1.out⟩
set_option maxRecDepth 100000 in
theorem quoted_pr {w : World} {p B : Nat} {vt vb : Value} {cs : Array Value} {txt : List UInt8} {toks : List Lx.PTok} (h : Pr w p B vt vb cs toks txt) (x c : Value) (kd : Value) (t : List UInt8) (hB : B ≤ w.heap.size) (hl : txt.length ≤ 2000000) (ht : t.length ≤ 2000000) (hn : toks.length ≤ 2000000) :
  Calls Tryz.prog 98 #[.pointer (some ⟨p, 0, none⟩), .agg #[kd, .string ⟨t.toArray⟩, c, x]] w fun e w' => e = .returned (.tuple #[]) ∧ PrAdd w w' p B toks txt [⟨3, t⟩] := by
 have hf : ∀ o, Fresh w (w.alloc o) := fun o => (Touch.refl _ w).alloc o
 have H := hid (fun o => add_one (h.fresh (hf o)) 3 t (Nat.le_trans hB (hf o).size) hl ht hn)
 clear h
 go_enter Tryz.func98, Tryz.ntmps98
 go_wp2_with fail
 refine (H.out _).mono ?_
 rintro _ w1 ⟨rfl, h1⟩
 have H1 := hid (PrAdd.freshL (hf _) h1)
 clear h1
 go_wp2_with fail
 go_end0
 exact ⟨rfl, H1.out⟩
set_option maxRecDepth 100000 in
theorem symbol_pr {w : World} {p B : Nat} {vt vb : Value} {cs : Array Value} {txt : List UInt8} {toks : List Lx.PTok} (h : Pr w p B vt vb cs toks txt) (x c : Value) (kd : Value) (t : List UInt8) (hB : B ≤ w.heap.size) (hl : txt.length ≤ 2000000) (ht : t.length ≤ 2000000) (hn : toks.length ≤ 2000000) :
  Calls Tryz.prog 96 #[.pointer (some ⟨p, 0, none⟩), .agg #[kd, .string ⟨t.toArray⟩, c, x]] w fun e w' => e = .returned (.tuple #[]) ∧ PrAdd w w' p B toks txt [⟨if t.length = 1 then 1 else 4, t⟩] := by
 have hf : ∀ o, Fresh w (w.alloc o) := fun o => (Touch.refl _ w).alloc o
 have H := hid (fun k o => add_one (h.fresh (hf o)) k t (Nat.le_trans hB (hf o).size) hl ht hn)
 clear h
 have hsz : (ByteArray.mk t.toArray).size = t.length := by show t.toArray.size = _; simp
 by_cases h1 : t.length = 1
 ·have d1 : ((ByteArray.mk t.toArray).size : Int) = 1 := by omega
  have HE := hid (if_pos h1 : (if t.length = 1 then 1 else 4) = (1 : Nat))
  rw [HE.out]
  clear h1
  go_enter Tryz.func96, Tryz.ntmps96
  go_wp2_with fail
  refine (H.out 1 _).mono ?_
  rintro _ w1 ⟨rfl, h1⟩
  have H1 := hid (PrAdd.freshL (hf _) h1)
  clear h1
  go_wp2_with fail
  go_end0
  exact ⟨rfl, H1.out⟩
 ·have d1 : (((ByteArray.mk t.toArray).size : Int) == 1) = false := by simp; omega
  have d2 : ¬ ((ByteArray.mk t.toArray).size : Int) = 1 := by omega
  have HE := hid (if_neg h1 : (if t.length = 1 then 1 else 4) = (4 : Nat))
  rw [HE.out]
  clear h1
  go_enter Tryz.func96, Tryz.ntmps96
  go_wp2_with fail
  refine (H.out 4 _).mono ?_
  rintro _ w1 ⟨rfl, h1⟩
  have H1 := hid (PrAdd.freshL (hf _) h1)
  clear h1
  go_wp2_with fail
  go_end0
  exact ⟨rfl, H1.out⟩
end Go.Proofs.YtgfhlfbcoimojaaGreat
