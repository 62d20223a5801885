/- Part 9 of 11 of a proof; its texts, joined: LxU, Tks, WrA, WrB, NdK, NdL, NdM, NdN. No condition. -/
import Derived.Test.YtilgpmpiidccjaaPp8
import Derived.Lib.QuietBelow
import Derived.Test.YtilgpmpiidccjaaPp2
import Derived.Deep.RegionWith

/- The walk of lexer.Tokens. -/
namespace Go.Proofs.Ytilgpmpiidccjaa
open Go.RowKit
attribute [local go_sem] Oper.semAt_some

/-- The loop's own part of memory: what the variable of the tokens holds, and the two other results. -/
structure TokInv (w : World) (B : Nat) (pre : List Lx.PTok) (v : Value) (W : World) : Prop where
  toks : Blk W w.heap.size 31 #[v]
  at_ : Blk W (w.heap.size + 1) 3 #[.int .i64 0]
  err : Blk W (w.heap.size + 1 + 1) 27 #[.int .i64 0]
  own : W.ownsRow B 74 4 v pre.length (pre.flatMap ptokCells)
  fresh : Fresh w W

theorem TokInv.touch {S : Nat → Prop} {w : World} {B : Nat} {pre : List Lx.PTok} {v : Value} {W W' : World} (h : TokInv w B pre v W) (ht : Touch S W W') (hS : ∀ k, S k → w.heap.size + 1 + 1 < k ∧ k < B) : TokInv w B pre v W' :=
  ⟨ht.blk h.toks (fun hk => by have := hS _ hk; omega), ht.blk h.at_ (fun hk => by have := hS _ hk; omega), ht.blk h.err (fun hk => by have := hS _ hk; omega),
    ownsRow_touch h.own ht (fun k hk hs => by have := (h.own.lt k hk).1; have := hS _ hs; omega), h.fresh.trans' ht (fun k hk => .inr (by have := hS _ hk; omega))⟩

theorem ptokCells_len (pre : List Lx.PTok) : (pre.flatMap ptokCells).length = pre.length * 4 := by
  induction pre with
  | nil => rfl
  | cons x l ih => simp [ptokCells, ih]; omega

theorem news_of_blk {W : World} {g : Nat} {t : TypeId} {cs : Array Value} (h : Blk W g t cs) : ∀ j u, cs.toList[j]? = some u → W.cell? ((⟨g, 0, none⟩ : Addr).add j) = some u := by
  intro j u hu
  rw [Addr.add_mid, Nat.zero_add, h.cell]
  simpa using hu

theorem ownsRow_base {w : World} {B B' e size n : Nat} {v : Value} {xs : List Value} (h : w.ownsRow B e size v n xs) (hB : B' ≤ B) : w.ownsRow B' e size v n xs := by
  obtain ⟨h1, h2⟩ := h
  refine ⟨h1, ?_⟩
  rcases h2 with h2 | ⟨g, cap, cur, h3, h4, r⟩
  · exact .inl h2
  · exact .inr ⟨g, cap, cur, h3, by omega, r⟩

/-- How Tokens ends. -/
def TokensEnd (s : ByteArray) (w : World) (e : Ending) (w' : World) : Prop :=
  Fresh w w' ∧ match (Lx.lexAll s.data.toList).2 with
    | none => ∃ v, e = .returned (.tuple #[v, .int .i64 0, .int .i64 0]) ∧ w'.ownsRow w.heap.size 74 4 v (Lx.lexAll s.data.toList).1.length ((Lx.lexAll s.data.toList).1.flatMap ptokCells)
    | some (p, er) => e = .returned (.tuple #[.slice none 0 0, .int .i64 p, .int .i64 er])

/-- The end of Tokens: three stores into its results' variables, and the turn of the block for deferred calls. -/
theorem toks_end {w W : World} {B D : Nat} {pre : List Lx.PTok} {v u : Value} {p e : Int} (h : TokInv w B pre v W) (hD : w.heap.size + 1 + 1 < D) (hd : W.heap[D]? = some (.deferred (some []))) :
    (((W.setCell ⟨w.heap.size, 0, none⟩ u).setCell ⟨w.heap.size + 1, 0, none⟩ (.int .i64 p)).setCell ⟨w.heap.size + 1 + 1, 0, none⟩ (.int .i64 e)).heap[D]? = some (.deferred (some [])) ∧
    ∃ WF, (((W.setCell ⟨w.heap.size, 0, none⟩ u).setCell ⟨w.heap.size + 1, 0, none⟩ (.int .i64 p)).setCell ⟨w.heap.size + 1 + 1, 0, none⟩ (.int .i64 e)).putObj D (.deferred none) = WF ∧
      WF.cell? ⟨w.heap.size, 0, none⟩ = some u ∧ WF.cell? ⟨w.heap.size + 1, 0, none⟩ = some (.int .i64 p) ∧ WF.cell? ⟨w.heap.size + 1 + 1, 0, none⟩ = some (.int .i64 e) ∧
      Fresh w WF ∧ Touch (fun k => k = w.heap.size ∨ k = w.heap.size + 1 ∨ k = w.heap.size + 1 + 1 ∨ k = D) W WF := by
  have t1 := (((Touch.refl (fun k => k = w.heap.size ∨ k = w.heap.size + 1 ∨ k = w.heap.size + 1 + 1) W).setCell (p := ⟨w.heap.size, 0, none⟩) (.inl (.inl rfl)) u).setCell (p := ⟨w.heap.size + 1, 0, none⟩) (.inl (.inr (.inl rfl))) (.int .i64 p)).setCell (p := ⟨w.heap.size + 1 + 1, 0, none⟩) (.inl (.inr (.inr rfl))) (.int .i64 e)
  have hlt : D < W.heap.size := (Array.getElem?_eq_some_iff.1 hd).1
  have t2 := putObj_touch (((W.setCell ⟨w.heap.size, 0, none⟩ u).setCell ⟨w.heap.size + 1, 0, none⟩ (.int .i64 p)).setCell ⟨w.heap.size + 1 + 1, 0, none⟩ (.int .i64 e)) D (.deferred none)
  have b1 := ((h.toks.put 0 u).far (p := ⟨w.heap.size + 1, 0, none⟩) (by simp) (.int .i64 p)).far (p := ⟨w.heap.size + 1 + 1, 0, none⟩) (by simp; omega) (.int .i64 e)
  have b2 := ((h.at_.far (p := ⟨w.heap.size, 0, none⟩) (by simp) u).put 0 (.int .i64 p)).far (p := ⟨w.heap.size + 1 + 1, 0, none⟩) (by simp) (.int .i64 e)
  have b3 := ((h.err.far (p := ⟨w.heap.size, 0, none⟩) (by simp; omega) u).far (p := ⟨w.heap.size + 1, 0, none⟩) (by simp) (.int .i64 p)).put 0 (.int .i64 e)
  have t3 := t1.mono (S' := fun k => k = w.heap.size ∨ k = w.heap.size + 1 ∨ k = w.heap.size + 1 + 1 ∨ k = D) (fun k hk => by omega)
  refine ⟨(t1.block D hlt (by omega)).trans hd, _, rfl, ?_, ?_, ?_, ?_, ?_⟩
  · exact (t2.blk b1 (by omega)).cell 0
  · exact (t2.blk b2 (by omega)).cell 0
  · exact (t2.blk b3 (by omega)).cell 0
  · exact h.fresh.trans' (t3.trans (t2.mono (fun k hk => by omega))) (fun k hk => .inr (by omega))
  · exact t3.trans (t2.mono (fun k hk => by omega))

set_option maxRecDepth 100000 in
set_option maxHeartbeats 1000000 in
theorem Tokens_any (s : ByteArray) (w : World) (hm : s.size ≤ 1000000000) (hcount : (Lx.lexAll s.data.toList).1.length ≤ 8000) :
    Calls Try.prog 24 #[.string s] w (TokensEnd s w) := by
  obtain ⟨i0, hi, hz0, hz1, hz2⟩ := info_parts infoTok
  refine callsIn_wide.1 (callsIn_of_wp_marks (F := Fence.wide) (n := 4) Try.func24 rfl trivial ?_ rfl)
  simp only [Try.ntmps24, List.size_toArray, List.length_cons, List.length_nil, Nat.reduceAdd, Nat.reduceSub, Array.replicate_succ, Array.replicate_zero, List.push_toArray, List.append_toArray, List.nil_append, List.cons_append]
  refine wpIn_wide.2 ?_
  go_wp2_with fail
  refine (classes_any _).mono ?_
  rintro e1 w1 ⟨rfl, hf1⟩
  have hsz1 := hf1.size
  simp only [World.size_alloc] at hsz1
  have hT1 := hf1.blk ((Blk.new w 31 #[.slice none 0 0]).alloc _ |>.alloc _) (fun h => h)
  have hA1 := hf1.blk ((Blk.new2 w (.cells #[.slice none 0 0] 31) 3 #[.int .i64 0]).alloc _) (fun h => h)
  have hE1 : Blk w1 (w.heap.size + 1 + 1) 27 #[.int .i64 0] := hf1.blk (by have := Blk.new2 (w.alloc (.cells #[.slice none 0 0] 31)) (.cells #[.int .i64 0] 3) 27 #[.int .i64 0]; simpa using this) (fun h => h)
  have hfw : Fresh w w1 := (((Touch.refl (fun _ => False) w).alloc _).alloc _ |>.alloc _).trans hf1
  have HT1 := hid hT1
  have HA1 := hid hA1
  have HE1 := hid hE1
  have HFW := hid hfw
  clear hf1 hT1 hA1 hE1 hfw
  go_wp2_with (refine wpList_build_lex s rfl _ _ rfl rfl rfl ?_)
  refine (tokens_any _ _).mono ?_
  rintro e2 w2 ⟨rfl, rfl⟩
  go_wp2_with fail
  obtain ⟨W0, hW0⟩ : ∃ W0, (w1.alloc (.cells (lexCells s 0 0 0) 85)).alloc (.cells #[.pointer (some ⟨w1.heap.size, 0, none⟩)] 81) = W0 := ⟨_, rfl⟩
  rw [hW0]
  have hs0 : W0.heap.size ≤ w1.heap.size + 2 := by rw [← hW0]; simp
  have hs0' : w1.heap.size + 2 ≤ W0.heap.size := by rw [← hW0]; simp
  have hc0 : W0.cell? ⟨w1.heap.size + 1, 0, none⟩ = some (.pointer (some ⟨w1.heap.size, 0, none⟩)) := by rw [← hW0]; exact (Blk.new2 w1 _ 81 #[.pointer (some ⟨w1.heap.size, 0, none⟩)]).cell 0
  have hl0 : LexAt W0 w1.heap.size s 0 0 0 := by rw [← hW0]; exact (Blk.new w1 85 (lexCells s 0 0 0)).alloc _
  have hi0 : TokInv w (W0.heap.size + 2) [] (.slice none 0 0) W0 := by
    rw [← hW0]
    exact ⟨(HT1.out.alloc _).alloc _, (HA1.out.alloc _).alloc _, (HE1.out.alloc _).alloc _, World.ownsRow_nil _ _ _ _, (HFW.out.alloc _).alloc _⟩
  refine wp_range_toks (L := w1.heap.size) (c := w1.heap.size + 1) (s := s) rfl hm (by omega) hc0 hl0 (fun pre W => ∃ v, TokInv w (W0.heap.size + 2) pre v W) ?_ ⟨_, hi0⟩ ?_ ?_
  · rintro pre W W' ⟨v, hv⟩ ht
    exact ⟨v, hv.touch ht (fun k hk => by omega)⟩
  · rintro pre x W ⟨v, hv⟩ hsz hpre
    have HV := hid hv
    clear hv hc0 hl0 hi0 HT1 HA1 HE1 HFW hW0
    simp only [ptokV, List.setIfInBounds_toArray, List.set_cons_succ, List.set_cons_zero]
    gi_wp2
    refine ⟨((Touch.refl _ W).alloc _), ?_⟩
    intro W2 ht2 hs2
    have hv2 : TokInv w (W0.heap.size + 2) pre v W2 := ((HV.out.touch ((Touch.refl (fun _ => False) W).alloc _) (fun k hk => hk.elim)).touch ht2 (fun k hk => by omega))
    have htk : Blk W2 W.heap.size 74 #[.int .i64 x.kind, .string ⟨x.text.toArray⟩, .int .i64 x.from_, .int .i64 x.to_] := ht2.blk (Blk.new _ _ _) (by omega)
    have hln : pre.length + 1 ≤ (Lx.lexAll s.data.toList).1.length := by have := hpre.length_le; simpa using this
    obtain ⟨A, cap, rfl⟩ : ∃ A cap, v = .slice A pre.length cap := by
      rcases hv2.own.2 with ⟨h1, h2⟩ | ⟨g, cap, cur, h1, _⟩
      · exact ⟨none, 0, by rw [h1, h2]⟩
      · exact ⟨_, _, h1⟩
    have b1 : ((pre.length : Int) == 8000) = false := by rw [beq_eq_false_iff_ne]; omega
    have c1 := hv2.toks.cell 0
    have f1 := hv2.toks.frozen 0
    simp only [List.getElem?_toArray, List.getElem?_cons_zero] at c1
    obtain ⟨q0, q1, q2, q3, z0, z1, z2, z3, hg⟩ := Blk.four htk
    have hown := hv2.own
    have hTl := hv2.toks.lt
    have HV2 := hid hv2
    have HTK := hid htk
    have HT2 := hid ht2
    have hs2' : W2.heap.size = W.heap.size + 1 := by simpa using hs2
    have HS2 := hid hs2'
    clear hv2 htk ht2 hs2 hs2' hpre
    gi_wp2_with (gi_at_builtin; refine wpListIn_append_own _ rfl _ _ 31 rfl (W0.heap.size + 2) 74 i0 _ 4 40 Try.underlying31 hi hz0 hz1 hz2 rfl (by decide) _ _ _ rfl (hown.alloc _) ⟨W2.heap.size, 0, none⟩ 1 1 (ptokCells x) rfl rfl ?c1 ?c2 ?c3 ?c4 ?c5 ?_)
    case c1 => exact news_of_blk (cs := (ptokCells x).toArray) (Blk.new W2 74 _)
    case c2 => intro u hu; simp only [ptokCells, List.mem_cons, List.not_mem_nil, or_false] at hu; rcases hu with rfl | rfl | rfl | rfl <;> rfl
    case c3 => unfold maxLen; omega
    case c4 => omega
    case c5 => have := HS2.out; simp; omega
    intro v' W3 hown' hgrow _
    have ht3 : Touch (fun k => (Value.slice A pre.length cap).ownBlock = some k) W2 W3 := ((Touch.refl _ W2).alloc _).grown hgrow (fun g hg => .inl hg)
    have hbl : ∀ k, (Value.slice A pre.length cap).ownBlock = some k → W0.heap.size + 2 ≤ k := fun k hk => (hown.lt k hk).1
    have hT3 : Blk W3 w.heap.size 31 #[.slice A pre.length cap] := ht3.blk HV2.out.toks (fun hk => by have := hbl _ hk; omega)
    have d1 := hT3.cell 0
    have e1 := hT3.frozen 0
    simp only [List.getElem?_toArray, List.getElem?_cons_zero] at d1
    obtain ⟨g, cap', rfl⟩ : ∃ g cap', v' = .slice (some ⟨g, 0, none⟩) (pre.length + 1) cap' := by
      rcases hown'.2 with ⟨_, h0⟩ | ⟨g, cap', cur, hv, _⟩
      · omega
      · exact ⟨g, cap', hv⟩
    have hgl := (hown'.lt g rfl).1
    have HO := hid hown'
    have HT3 := hid hT3
    have HTT := hid ht3
    have HBL := hid hbl
    clear hown' hT3 ht3 hbl hown hgrow
    gi_wp2
    refine ⟨?_, ?_⟩
    · refine Touch.setCell ?_ (p := ⟨w.heap.size, 0, none⟩) (.inl ⟨by simp; omega, by simp; omega, by simp; omega, by simp; omega⟩) _
      exact HTT.out.mono (fun k hk => by have := HBL.out k hk; exact ⟨by omega, by omega, by omega, by omega⟩)
    · refine ⟨.slice (some ⟨g, 0, none⟩) (pre.length + 1) cap', ?_, ?_, ?_, ?_, ?_⟩
      · exact HT3.out.put 0 _
      · exact (HTT.out.blk HV2.out.at_ (fun hk => by have := HBL.out _ hk; omega)).far (p := ⟨w.heap.size, 0, none⟩) (by simp) _
      · exact (HTT.out.blk HV2.out.err (fun hk => by have := HBL.out _ hk; omega)).far (p := ⟨w.heap.size, 0, none⟩) (by simp; omega) _
      · rw [List.length_append, List.flatMap_append]
        refine ownsRow_touch (S := (· = w.heap.size)) ?_ ((Touch.refl (· = w.heap.size) W3).setCell (p := ⟨w.heap.size, 0, none⟩) (.inl rfl) _) (fun k hk hs => by simp [Value.ownBlock] at hk; omega)
        simpa using HO.out
      · exact (HV2.out.fresh.trans' HTT.out (fun k hk => .inr (by have := HBL.out k hk; omega))).setCell (p := ⟨w.heap.size, 0, none⟩) (.inr (Nat.le_refl _)) _
  · rintro W ⟨v, hv⟩ hend hd hsz
    obtain ⟨a', p', e', hlx, hmn⟩ := hend
    obtain ⟨g1, g2, g3, g4, f1, f2, f3, hLlt⟩ := lex_reads hlx
    have c1 := hv.toks.cell 0
    have c2 := hv.at_.cell 0
    have c3 := hv.err.cell 0
    have f4 := hv.toks.frozen 0
    have f5 := hv.at_.frozen 0
    have f6 := hv.err.frozen 0
    have l1 := hv.toks.lt
    have l2 := hv.at_.lt
    have l3 := hv.err.lt
    simp only [List.getElem?_toArray, List.getElem?_cons_zero] at c1 c2 c3
    have HV := hid hv
    have HD := hid hd
    obtain ⟨A, cap, rfl⟩ : ∃ A cap, v = .slice A (Lx.lexAll s.data.toList).1.length cap := by
      rcases hv.own.2 with ⟨h1, h2⟩ | ⟨g, cap, cur, h1, _⟩
      · exact ⟨none, 0, by rw [h1, h2]⟩
      · exact ⟨_, _, h1⟩
    clear hv hd hlx hc0 hl0 hi0 hW0 HT1 HA1 HE1 HFW
    simp only [Exit.inBlock, Exit.then]
    cases hr : (Lx.lexAll s.data.toList).2 with
    | none =>
      rw [hr] at hmn
      obtain rfl : e' = 0 := hmn
      have HR := hid hr
      clear hr
      generalize hTS : (Lx.lexAll s.data.toList).1 = ts at *
      have HTS := hid hTS
      clear hTS
      go_wp2_with fail
      obtain ⟨hdd, WF, hWF, r1, r2, r3, hfr, htc⟩ := toks_end (u := .slice A ts.length cap) (p := 0) (e := 0) HV.out (by omega) HD.out
      refine ⟨by simp, .inl ⟨_, _, rfl, run_takeDeferred (b := W0.heap.size) (ds := []) hdd, ?_⟩⟩
      rw [hWF]
      refine ⟨.tuple #[.slice A ts.length cap, .int .i64 0, .int .i64 0], by simp [results, Try.results24, go_sem, r1, r2, r3], ?_⟩
      refine ⟨hfr, ?_⟩
      rw [HR.out, HTS.out]
      refine ⟨_, rfl, ?_⟩
      have ho := ownsRow_touch HV.out.own htc (fun k hk hs => by have := (HV.out.own.lt k hk).1; omega)
      exact ownsRow_base ho (by omega)
    | some q =>
      obtain ⟨p0, e0⟩ := q
      rw [hr] at hmn
      obtain ⟨rfl, rfl⟩ := hmn
      have HR := hid hr
      clear hr
      have hne : ((e0 : Int) != 0) = true := by have := Lx.lexGo_err _ _ _ _ _ HR.out; rw [bne_iff_ne]; omega
      go_wp2_with fail
      go_region_held3 (fun w' => w'.cell? ⟨w1.heap.size, 258, none⟩ = some (.int .i64 (p0 : Int)) ∧ w'.cell? ⟨w1.heap.size, 259, none⟩ = some (.int .i64 (e0 : Int))) (first | (refine ⟨?_, ?_⟩ <;> first | exact (World.cell?_setCell_other _ _ _ _ (by simp)).trans (by assumption) | exact (World.cell?_setCell_other _ _ _ _ (by simp)).trans ((World.cell?_setCell_other _ _ _ _ (by simp)).trans (by assumption)) | exact (World.cell?_setCell_other _ _ _ _ (by simp)).trans ((World.cell?_setCell_other _ _ _ _ (by simp)).trans ((World.cell?_setCell_other _ _ _ _ (by simp)).trans (by assumption)))) | go_keep) (fail)
      simp only [Exit.then]
      go_wp2_with fail
      obtain ⟨hdd, WF, hWF, r1, r2, r3, hfr, htc⟩ := toks_end (W := W.drew) (u := .slice none 0 0) (p := p0) (e := e0) (HV.out.touch (S := fun _ => False) (Touch.refl _ W).drew (fun k hk => hk.elim)) (by omega) HD.out
      refine ⟨by simp, .inl ⟨_, WF, rfl, ?_, ?_⟩⟩
      · rw [← hWF]; exact run_takeDeferred (b := W0.heap.size) (ds := []) hdd
      refine ⟨.tuple #[.slice none 0 0, .int .i64 p0, .int .i64 e0], by simp [results, Try.results24, go_sem, r1, r2, r3], ?_⟩
      refine ⟨hfr, ?_⟩
      rw [HR.out]
end Go.Proofs.Ytilgpmpiidccjaa

/- What lexer.Tokens leaves. -/
namespace Go.Proofs.Ytilgpmpiidccjaa
open Go.RowKit

theorem toks_cells {W : World} {B : Nat} {v : Value} {ts : List Lx.PTok} (h : W.ownsRow B 74 4 v ts.length (ts.flatMap ptokCells)) (i : Nat) (hi : i < ts.length) :
    ∃ g cap, v = .slice (some ⟨g, 0, none⟩) ts.length cap ∧ B ≤ g ∧ g < W.heap.size ∧ ∀ j u, (ptokCells ts[i])[j]? = some u → W.cell? ⟨g, 4 * i + j, none⟩ = some u := by
  rcases h.2 with ⟨_, h0⟩ | ⟨g, cap, cur, hv, hB, r⟩
  · omega
  · subst hv
    refine ⟨g, cap, rfl, hB, (h.lt g rfl).2, fun j u hu => ?_⟩
    have hcl := h.cells (g := g) rfl (4 * i + j) u ?_
    · rw [Addr.add_mid, Nat.zero_add] at hcl; exact hcl
    · have hj : j < 4 := by have := (List.getElem?_eq_some_iff.1 hu).1; simpa [ptokCells] using this
      clear h r
      induction ts generalizing i with
      | nil => simp at hi
      | cons x l ih =>
        cases i with
        | zero => rw [List.flatMap_cons, List.getElem?_append_left (by simp [ptokCells]; omega)]; simpa using hu
        | succ i =>
          rw [List.flatMap_cons, List.getElem?_append_right (by simp [ptokCells]; omega)]
          have := ih i (by simpa using hi) (by simpa using hu)
          rw [← this]; congr 1; simp [ptokCells]; omega

theorem Tokens_ok {s : ByteArray} {w : World} {ts : List Lx.PTok} (h : Lx.lexAll s.data.toList = (ts, none)) (hm : s.size ≤ 1000000000) (hc : ts.length ≤ 8000) :
    Calls Try.prog 24 #[.string s] w fun e w' => Fresh w w' ∧ ∃ v, e = .returned (.tuple #[v, .int .i64 0, .int .i64 0]) ∧ w'.ownsRow w.heap.size 74 4 v ts.length (ts.flatMap ptokCells) := by
  have := Tokens_any s w hm (by rw [h]; exact hc)
  unfold TokensEnd at this
  rw [h] at this
  exact this
theorem Tokens_err {s : ByteArray} {w : World} {p er : Nat} (h : (Lx.lexAll s.data.toList).2 = some (p, er)) (hm : s.size ≤ 1000000000) (hc : (Lx.lexAll s.data.toList).1.length ≤ 8000) :
    Calls Try.prog 24 #[.string s] w fun e w' => Fresh w w' ∧ e = .returned (.tuple #[.slice none 0 0, .int .i64 p, .int .i64 er]) := by
  have := Tokens_any s w hm hc
  unfold TokensEnd at this
  rw [h] at this
  exact this

end Go.Proofs.Ytilgpmpiidccjaa

/- The walks of from and of the reference's Same. -/
namespace Go.Proofs.Ytilgpmpiidccjaa
open Go.RowKit

/-- A slice whose elements are these tokens. -/
def TokRow (W : World) (v : Value) (ts : List Lx.PTok) : Prop :=
  ∃ A cap, v = .slice A ts.length cap ∧ ∀ i (hi : i < ts.length), ∃ g o, A = some ⟨g, o, none⟩ ∧ g < W.heap.size ∧
    W.cell? ⟨g, o + i * 4, none⟩ = some (.int .i64 ts[i].kind) ∧ W.cell? ⟨g, o + i * 4 + 1, none⟩ = some (.string ⟨ts[i].text.toArray⟩) ∧ W.cell? ⟨g, o + i * 4 + 2, none⟩ = some (.int .i64 ts[i].from_) ∧ W.cell? ⟨g, o + i * 4 + 3, none⟩ = some (.int .i64 ts[i].to_)

theorem TokRow.fresh {W W' : World} {v : Value} {ts : List Lx.PTok} (h : TokRow W v ts) (hf : Fresh W W') : TokRow W' v ts := by
  obtain ⟨A, cap, hv, hc⟩ := h
  refine ⟨A, cap, hv, fun i hi => ?_⟩
  obtain ⟨g, o, h1, h2, h3, h4, h5, h6⟩ := hc i hi
  exact ⟨g, o, h1, Nat.lt_of_lt_of_le h2 hf.size, hf.cell h3 (fun h => h), hf.cell h4 (fun h => h), hf.cell h5 (fun h => h), hf.cell h6 (fun h => h)⟩

theorem owns_cells {W : World} {B e : Nat} {v : Value} {ts : List Lx.PTok} (h : W.ownsRow B e 4 v ts.length (ts.flatMap ptokCells)) (i : Nat) (hi : i < ts.length) :
    ∃ g cap, v = .slice (some ⟨g, 0, none⟩) ts.length cap ∧ B ≤ g ∧ g < W.heap.size ∧ ∀ j u, (ptokCells ts[i])[j]? = some u → W.cell? ⟨g, 4 * i + j, none⟩ = some u := by
  rcases h.2 with ⟨_, h0⟩ | ⟨g, cap, cur, hv, hB, r⟩
  · omega
  · subst hv
    refine ⟨g, cap, rfl, hB, (h.lt g rfl).2, fun j u hu => ?_⟩
    have hcl := h.cells (g := g) rfl (4 * i + j) u ?_
    · rw [Addr.add_mid, Nat.zero_add] at hcl; exact hcl
    · have hj : j < 4 := by have := (List.getElem?_eq_some_iff.1 hu).1; simpa [ptokCells] using this
      clear h r
      induction ts generalizing i with
      | nil => simp at hi
      | cons x l ih =>
        cases i with
        | zero => rw [List.flatMap_cons, List.getElem?_append_left (by simp [ptokCells]; omega)]; simpa using hu
        | succ i =>
          rw [List.flatMap_cons, List.getElem?_append_right (by simp [ptokCells]; omega)]
          have := ih i (by simpa using hi) (by simpa using hu)
          rw [← this]; congr 1; simp [ptokCells]; omega

theorem owns_row {W : World} {B e : Nat} {v : Value} {ts : List Lx.PTok} (h : W.ownsRow B e 4 v ts.length (ts.flatMap ptokCells)) : TokRow W v ts := by
  obtain ⟨A, cap, hv⟩ : ∃ A cap, v = .slice A ts.length cap := by
    rcases h.2 with ⟨h1, h2⟩ | ⟨g, cap, cur, h1, _⟩
    · exact ⟨none, 0, by rw [h1, h2]⟩
    · exact ⟨_, _, h1⟩
  refine ⟨A, cap, hv, fun i hi => ?_⟩
  obtain ⟨g, cap', h1, h2, h3, h4⟩ := owns_cells h i hi
  rw [hv] at h1
  cases h1
  refine ⟨g, 0, rfl, h3, ?_⟩
  rw [Nat.zero_add, Nat.mul_comm i 4]
  exact ⟨h4 0 _ rfl, h4 1 _ rfl, h4 2 _ rfl, h4 3 _ rfl⟩

theorem TokRow.nil (W : World) : TokRow W (.slice none 0 0) [] := ⟨none, 0, rfl, fun i hi => by simp at hi⟩

theorem infoRTok : (Try.prog.info? 73).map (fun i => (i.zero, i.size, i.bytes)) = some (some (.agg #[.int .i64 0, .string ⟨#[]⟩, .int .i64 0, .int .i64 0]), 4, 40) := by kernel_rfl

set_option maxHeartbeats 1000000 in
theorem from18_any (v : Value) (ts : List Lx.PTok) (w : World) (hv : TokRow w v ts) (hm : ts.length ≤ 1000000) :
    Calls Try.prog 16 #[v] w fun e w' => ∃ v', e = .returned v' ∧ Fresh w w' ∧ w'.ownsRow w.heap.size 73 4 v' ts.length (ts.flatMap ptokCells) := by
  obtain ⟨i0, hi, hz0, hz1, hz2⟩ := info_parts infoRTok
  obtain ⟨A, cap, rfl, hc⟩ := hv
  have HC := hid hc
  clear hc
  go_enter Try.func16, Try.ntmps16
  go_wp2_with fail
  go_loopw [3, 8] (fun x i wr => ∃ (k : Nat) , i = .int .i64 k ∧ k ≤ ts.length ∧ Hid (wr.ownsRow w.heap.size 73 4 x k ((ts.take k).flatMap ptokCells)) ∧ Hid (Fresh w wr)) (fun _ i _ => ts.length - (intOf i).toNat)
  case atStart => exact ⟨0, rfl, Nat.zero_le _, World.ownsRow_nil _ _ _ _, Touch.refl _ _⟩
  case round =>
    obtain ⟨k, rfl, hk, HO, HF⟩ := hrel
    by_cases c1 : k < ts.length
    · have d1 : decide ((k : Int) < (ts.length : Int)) = true := by simp; omega
      obtain ⟨g, o, rfl, hg, h0, h1, h2, h3⟩ := HC.out k c1
      have q0 := HF.out.cell h0 (fun h => h)
      have q1 := HF.out.cell h1 (fun h => h)
      have q2 := HF.out.cell h2 (fun h => h)
      have q3 := HF.out.cell h3 (fun h => h)
      clear h0 h1 h2 h3
      have htk : (ts.take (k + 1)).flatMap ptokCells = (ts.take k).flatMap ptokCells ++ ptokCells ts[k] := by
        rw [List.take_add_one, List.getElem?_eq_getElem c1, List.flatMap_append]; simp
      have HTK := hid htk
      clear htk
      generalize ts[k] = tk at *
      have d1' : (k : Int) < (ts.length : Int) := by omega
      go_wp2_with (at_builtin; refine wpList_append_own _ rfl _ _ 34 rfl w.heap.size 73 i0 _ 4 40 Try.underlying34 hi hz0 hz1 hz2 rfl (by decide) _ _ _ rfl ((HO.out.alloc _).alloc _) ⟨wr.heap.size + 1, 0, none⟩ 1 1 (ptokCells tk) rfl rfl ?c1 ?c2 ?c3 ?c4 ?c5 ?_)
      case c1 => exact news_of_blk (cs := (ptokCells tk).toArray) (Blk.new2 wr _ 73 _)
      case c2 => intro u hu; simp only [ptokCells, List.mem_cons, List.not_mem_nil, or_false] at hu; rcases hu with rfl | rfl | rfl | rfl <;> rfl
      case c3 => unfold maxLen; omega
      case c4 => omega
      case c5 => have := HF.out.size; simp; omega
      intro v2 w2 hown2 hgrow2 _
      have hf2 : Fresh w w2 := HF.out.trans' (((Touch.refl (fun k => u3.ownBlock = some k) wr).alloc _ |>.alloc _).grown hgrow2 (fun g hg => .inl hg)) (fun k hk => .inr (HO.out.lt k hk).1)
      have HO2 := hid (show w2.ownsRow w.heap.size 73 4 v2 (k + 1) ((ts.take (k + 1)).flatMap ptokCells) by rw [HTK.out]; exact hown2)
      have HF2 := hid hf2
      clear hown2 hgrow2 hf2 q0 q1 q2 q3
      go_wp2_with fail
      go_roundw
      case rel => exact ⟨k + 1, by go_num, c1, HO2, HF2⟩
      case measure => simp [intOf]; omega
    · have d1 : decide ((k : Int) < (ts.length : Int)) = false := by simp; omega
      obtain rfl : k = ts.length := by omega
      go_wp2_with fail
      go_ret
      refine ⟨_, rfl, HF.out, ?_⟩
      have := HO.out
      rw [List.take_length] at this
      exact this
end Go.Proofs.Ytilgpmpiidccjaa

/- The walk of the reference's Same. -/
namespace Go.Proofs.Ytilgpmpiidccjaa
open Go.RowKit

theorem sameL_snoc : ∀ (xs ys : List Lx.PTok) (p : Bool) (k : Nat) (hx : k < xs.length) (hy : k < ys.length), Lx.sameL (xs.take (k + 1)) (ys.take (k + 1)) p = (Lx.sameL (xs.take k) (ys.take k) p && Lx.sameT xs[k] ys[k] p)
  | x :: xs, y :: ys, p, 0, _, _ => by simp [Lx.sameL]
  | x :: xs, y :: ys, p, k + 1, hx, hy => by
    simp only [List.take_succ_cons, Lx.sameL, List.getElem_cons_succ]
    rw [sameL_snoc xs ys p k (by simpa using hx) (by simpa using hy), Bool.and_assoc]
  | [], _, _, _, hx, _ => by simp at hx
  | _ :: _, [], _, _, _, hy => by simp at hy
theorem sameL_len : ∀ (xs ys : List Lx.PTok) (p : Bool), xs.length ≠ ys.length → Lx.sameL xs ys p = false
  | [], [], _, h => absurd rfl h
  | x :: xs, y :: ys, p, h => by rw [Lx.sameL, sameL_len xs ys p (by simpa using h), Bool.and_false]
  | [], _ :: _, _, _ => rfl
  | _ :: _, [], _, _ => rfl
theorem sameL_no : ∀ (xs ys : List Lx.PTok) (p : Bool) (k : Nat) (hx : k < xs.length) (hy : k < ys.length), Lx.sameT xs[k] ys[k] p = false → Lx.sameL xs ys p = false
  | x :: xs, y :: ys, p, 0, _, _, h => by simp only [List.getElem_cons_zero] at h; rw [Lx.sameL, h, Bool.false_and]
  | x :: xs, y :: ys, p, k + 1, hx, hy, h => by
    simp only [List.getElem_cons_succ] at h
    rw [Lx.sameL, sameL_no xs ys p k (by simpa using hx) (by simpa using hy) h, Bool.and_false]
  | [], _, _, _, hx, _, _ => by simp at hx
  | _ :: _, [], _, _, _, hy, _ => by simp at hy

theorem str_bne (a b : List UInt8) : ((⟨a.toArray⟩ : ByteArray) != ⟨b.toArray⟩) = !(a == b) := by
  show (!(a.toArray == b.toArray)) = _
  simp
theorem nat_bne (a b : Nat) : ((a : Int) != (b : Int)) = !(a == b) := by
  rw [Bool.eq_iff_iff, bne_iff_ne]
  simp [Int.ofNat_inj]

set_option maxRecDepth 100000 in
set_option maxHeartbeats 2000000 in
theorem rSame_any (v1 v2 : Value) (xs ys : List Lx.PTok) (p : Bool) (w : World) (h1 : TokRow w v1 xs) (h2 : TokRow w v2 ys) (hm : xs.length ≤ 1000000) :
    Calls Try.prog 15 #[v1, v2, .bool p] w fun e w' => e = .returned (.bool (Lx.sameL xs ys p)) ∧ Fresh w w' := by
  obtain ⟨A, cap, rfl, hc⟩ := h1
  obtain ⟨B, cbp, rfl, hd⟩ := h2
  have HC := hid hc
  have HD := hid hd
  clear hc hd
  by_cases c0 : xs.length = ys.length
  · have b0 : ((xs.length : Int) != (ys.length : Int)) = false := by rw [nat_bne, beq_iff_eq.2 c0]; rfl
    have C0 := hid c0
    clear c0
    go_enter Try.func15, Try.ntmps15
    go_wp2_with fail
    clear b0
    go_loopw [7] (fun i wr => ∃ k : Nat, i = .int .i64 k ∧ k ≤ xs.length ∧ Hid (Lx.sameL (xs.take k) (ys.take k) p = true) ∧ Hid (Fresh w wr)) (fun i _ => xs.length - (intOf i).toNat)
    case atStart => exact ⟨0, rfl, Nat.zero_le _, by simp [Lx.sameL, Hid], Touch.refl _ _⟩
    case round =>
      obtain ⟨k, rfl, hk, HA, HF⟩ := hrel
      by_cases c1 : k < xs.length
      · have d1 : decide ((k : Int) < (xs.length : Int)) = true := by simp; omega
        have c1y : k < ys.length := by rw [← C0.out]; exact c1
        obtain ⟨g, o, rfl, hg, m0, m1, m2, m3⟩ := HC.out k c1
        obtain ⟨g', o', rfl, hg', n0, n1, n2, n3⟩ := HD.out k c1y
        have q0 := HF.out.cell m0 (fun h => h)
        have q1 := HF.out.cell m1 (fun h => h)
        have q2 := HF.out.cell m2 (fun h => h)
        have q3 := HF.out.cell m3 (fun h => h)
        have r0 := HF.out.cell n0 (fun h => h)
        have r1 := HF.out.cell n1 (fun h => h)
        have r2 := HF.out.cell n2 (fun h => h)
        have r3 := HF.out.cell n3 (fun h => h)
        clear m0 m1 m2 m3 n0 n1 n2 n3 HC HD
        have HS := hid (sameL_snoc xs ys p k c1 c1y)
        have HN := hid (sameL_no xs ys p k c1 c1y)
        have d1' : (k : Int) < (xs.length : Int) := by omega
        have d1y : (k : Int) < (ys.length : Int) := by omega
        generalize xs[k] = tk at *
        generalize ys[k] = tl at *
        have e0 := nat_bne tk.kind tl.kind
        have e1 := str_bne tk.text tl.text
        have e2 := nat_bne tk.from_ tl.from_
        have e3 := nat_bne tk.to_ tl.to_
        have hT : Lx.sameT tk tl p = ((tk.kind == tl.kind) && (tk.text == tl.text) && (!p || ((tk.from_ == tl.from_) && (tk.to_ == tl.to_)))) := rfl
        have HT := hid hT
        clear hT
        generalize (tk.kind == tl.kind) = B0 at *
        generalize hb1 : (tk.text == tl.text) = B1 at *
        generalize (tk.from_ == tl.from_) = B2 at *
        generalize (tk.to_ == tl.to_) = B3 at *
        cases B0 with
        | false =>
          simp only [Bool.not_false] at e0
          go_wp2_with fail
          go_quiet (fail)
          go_wp2_with fail
          go_ret
          exact ⟨by rw [HN.out (by rw [HT.out]; rfl)]; rfl, HF.out.drewN _⟩
        | true =>
          simp only [Bool.not_true] at e0
          cases B1 with
          | false =>
            simp only [Bool.not_false] at e1
            go_wp2_with fail
            go_quiet (fail)
            go_wp2_with fail
            go_ret
            exact ⟨by rw [HN.out (by rw [HT.out]; rfl)]; rfl, HF.out.drewN _⟩
          | true =>
            simp only [Bool.not_true] at e1
            cases p with
            | false =>
              go_wp2_with fail
              go_quiet (fail)
              go_wp2_with fail
              go_roundw
              case rel => exact ⟨k + 1, by go_num, c1, by rw [HS.out, HA.out, HT.out]; rfl, HF.out.drewN _⟩
              case measure => simp [intOf]; omega
            | true =>
              cases B2 with
              | false =>
                simp only [Bool.not_false] at e2
                go_wp2_with fail
                go_quiet (fail)
                go_wp2_with fail
                go_ret
                exact ⟨by rw [HN.out (by rw [HT.out]; rfl)]; rfl, HF.out.drewN _⟩
              | true =>
                simp only [Bool.not_true] at e2
                cases B3 with
                | false =>
                  simp only [Bool.not_false] at e3
                  go_wp2_with fail
                  go_quiet (fail)
                  go_wp2_with fail
                  go_ret
                  exact ⟨by rw [HN.out (by rw [HT.out]; rfl)]; rfl, HF.out.drewN _⟩
                | true =>
                  simp only [Bool.not_true] at e3
                  go_wp2_with fail
                  go_quiet (fail)
                  go_wp2_with fail
                  go_roundw
                  case rel => exact ⟨k + 1, by go_num, c1, by rw [HS.out, HA.out, HT.out]; rfl, HF.out.drewN _⟩
                  case measure => simp [intOf]; omega
      · have d1 : decide ((k : Int) < (xs.length : Int)) = false := by simp; omega
        obtain rfl : k = xs.length := by omega
        go_wp2_with fail
        go_ret
        refine ⟨?_, HF.out⟩
        have := HA.out
        rw [List.take_length, C0.out, List.take_length] at this
        rw [this]; rfl
  · have b0 : ((xs.length : Int) != (ys.length : Int)) = true := by rw [nat_bne, beq_eq_false_iff_ne.2 c0]; rfl
    have HR := hid (sameL_len xs ys p c0)
    clear c0
    go_enter Try.func15, Try.ntmps15
    go_wp2_with fail
    go_ret
    exact ⟨by rw [HR.out]; rfl, Touch.refl _ _⟩
end Go.Proofs.Ytilgpmpiidccjaa

/- The walks of the reference's predicates on bytes and texts. -/
namespace Go.Proofs.Ytilgpmpiidccjaa
open Go.RowKit

theorem letter_ge_256 : ∀ n : Fin 256, Tr.letter (UInt8.ofNat n.1) = ((decide ((97 : Int) ≤ (n.1 : Int)) && decide ((n.1 : Int) ≤ (122 : Int))) || (decide ((65 : Int) ≤ (n.1 : Int)) && decide ((n.1 : Int) ≤ (90 : Int)))) := by decide +kernel
theorem letter_ge (b : UInt8) : Tr.letter b = ((decide ((97 : Int) ≤ (b.toNat : Int)) && decide ((b.toNat : Int) ≤ (122 : Int))) || (decide ((65 : Int) ≤ (b.toNat : Int)) && decide ((b.toNat : Int) ≤ (90 : Int)))) := by
  have := letter_ge_256 ⟨b.toNat, b.toNat_lt⟩
  simpa using this
theorem digit_ge_256 : ∀ n : Fin 256, Tr.digit (UInt8.ofNat n.1) = (decide ((48 : Int) ≤ (n.1 : Int)) && decide ((n.1 : Int) ≤ (57 : Int))) := by decide +kernel
theorem digit_ge (b : UInt8) : Tr.digit b = (decide ((48 : Int) ≤ (b.toNat : Int)) && decide ((b.toNat : Int) ≤ (57 : Int))) := by
  have := digit_ge_256 ⟨b.toNat, b.toNat_lt⟩
  simpa using this

theorem letter_byte (b : UInt8) (w : World) :
    Calls Try.prog 84 #[.int .u8 (b.toNat : Int)] w fun e w' => e = .returned (.bool (Tr.letter b)) ∧ w' = w := by
  go_enter Try.func84, Try.ntmps84
  cases h1 : decide ((97 : Int) ≤ (b.toNat : Int)) with
  | false =>
    have h1n : decide (97 ≤ b.toNat) = false := by have hx := h1; simp only [decide_eq_false_iff_not] at hx ⊢; omega
    cases h2 : decide ((65 : Int) ≤ (b.toNat : Int)) with
    | false =>
      have h2n : decide (65 ≤ b.toNat) = false := by have hx := h2; simp only [decide_eq_false_iff_not] at hx ⊢; omega
      go_wp2_with fail
      go_ret
      exact ⟨ret_bool' _ _ (by rw [letter_ge]; simp only [*] <;> rfl), rfl⟩
    | true =>
      have h2n : decide (65 ≤ b.toNat) = true := by have hx := h2; simp only [decide_eq_true_eq] at hx ⊢; omega
      cases h3 : decide ((b.toNat : Int) ≤ (90 : Int)) with
      | false =>
        go_wp2_with fail
        go_ret
        exact ⟨ret_bool' _ _ (by rw [letter_ge]; simp only [*] <;> rfl), rfl⟩
      | true =>
        go_wp2_with fail
        go_ret
        exact ⟨ret_bool' _ _ (by rw [letter_ge]; simp only [*] <;> rfl), rfl⟩
  | true =>
    have h1n : decide (97 ≤ b.toNat) = true := by have hx := h1; simp only [decide_eq_true_eq] at hx ⊢; omega
    cases h4 : decide ((b.toNat : Int) ≤ (122 : Int)) with
    | false =>
      cases h5 : decide ((65 : Int) ≤ (b.toNat : Int)) with
      | false =>
        have h5n : decide (65 ≤ b.toNat) = false := by have hx := h5; simp only [decide_eq_false_iff_not] at hx ⊢; omega
        go_wp2_with fail
        go_ret
        exact ⟨ret_bool' _ _ (by rw [letter_ge]; simp only [*] <;> rfl), rfl⟩
      | true =>
        have h5n : decide (65 ≤ b.toNat) = true := by have hx := h5; simp only [decide_eq_true_eq] at hx ⊢; omega
        cases h6 : decide ((b.toNat : Int) ≤ (90 : Int)) with
        | false =>
          go_wp2_with fail
          go_ret
          exact ⟨ret_bool' _ _ (by rw [letter_ge]; simp only [*] <;> rfl), rfl⟩
        | true =>
          go_wp2_with fail
          go_ret
          exact ⟨ret_bool' _ _ (by rw [letter_ge]; simp only [*] <;> rfl), rfl⟩
    | true =>
      go_wp2_with fail
      go_ret
      exact ⟨ret_bool' _ _ (by rw [letter_ge]; simp only [*] <;> rfl), rfl⟩

theorem digit_byte (b : UInt8) (w : World) :
    Calls Try.prog 134 #[.int .u8 (b.toNat : Int)] w fun e w' => e = .returned (.bool (Tr.digit b)) ∧ w' = w := by
  go_enter Try.func134, Try.ntmps134
  cases h7 : decide ((48 : Int) ≤ (b.toNat : Int)) with
  | false =>
    have h7n : decide (48 ≤ b.toNat) = false := by have hx := h7; simp only [decide_eq_false_iff_not] at hx ⊢; omega
    go_wp2_with fail
    go_ret
    exact ⟨ret_bool' _ _ (by rw [digit_ge]; simp only [*] <;> rfl), rfl⟩
  | true =>
    have h7n : decide (48 ≤ b.toNat) = true := by have hx := h7; simp only [decide_eq_true_eq] at hx ⊢; omega
    cases h8 : decide ((b.toNat : Int) ≤ (57 : Int)) with
    | false =>
      go_wp2_with fail
      go_ret
      exact ⟨ret_bool' _ _ (by rw [digit_ge]; simp only [*] <;> rfl), rfl⟩
    | true =>
      go_wp2_with fail
      go_ret
      exact ⟨ret_bool' _ _ (by rw [digit_ge]; simp only [*] <;> rfl), rfl⟩

set_option maxHeartbeats 400000 in
theorem printable_any (s : ByteArray) (w : World) (hm : s.size ≤ 9223372036854775807) :
    Calls Try.prog 98 #[.string s] w fun e w' => e = .returned (.bool (s.data.toList.all plainB)) ∧ w' = w := by
  go_enter Try.func98, Try.ntmps98
  go_wp2_with fail
  go_loopw [3] (fun i wr => ∃ j : Nat, i = .int .i64 j ∧ j ≤ s.size ∧ Hid ((s.data.toList.take j).all plainB = true) ∧ wr = w) (fun i _ => s.size - (intOf i).toNat)
  case atStart => exact ⟨0, rfl, Nat.zero_le _, by simp [Hid], rfl⟩
  case round =>
    obtain ⟨j, rfl, hj, HA, rfl⟩ := hrel
    by_cases c1 : j < s.size
    · have d1 : decide ((j : Int) < (s.size : Int)) = true := by simp; omega
      have d1' : (j : Int) < (s.size : Int) := by omega
      obtain ⟨b, hb⟩ : ∃ b, s[j]'c1 = b := ⟨_, rfl⟩
      have hst := all_snoc' s.data.toList j (by simpa using c1) plainB
      have hno := all_no s.data.toList j (by simpa using c1) plainB
      have hbl : s.data.toList[j]'(by simpa using c1) = b := hb
      rw [hbl] at hst hno
      have HS := hid hst
      have HN := hid hno
      clear hst hno hbl
      cases h9 : decide ((b.toNat : Int) < (32 : Int)) with
      | false =>
        cases h10 : decide ((126 : Int) < (b.toNat : Int)) with
        | false =>
          have h10n : decide (126 < b.toNat) = false := by have hx := h10; simp only [decide_eq_false_iff_not] at hx ⊢; omega
          go_wp2_with fail
          go_roundw
          case rel => exact ⟨j + 1, by go_num, c1, by unfold Hid; rw [HS.out, HA.out]; rw [plain_or]; simp_all, trivial⟩
          case measure => simp [intOf]; omega
        | true =>
          have h10n : decide (126 < b.toNat) = true := by have hx := h10; simp only [decide_eq_true_eq] at hx ⊢; omega
          go_wp2_with fail
          go_ret
          exact ⟨by rw [HN.out (by rw [plain_or]; simp_all)]; rfl, rfl⟩
      | true =>
        go_wp2_with fail
        go_ret
        exact ⟨by rw [HN.out (by rw [plain_or]; simp_all)]; rfl, rfl⟩
    · have d1 : decide ((j : Int) < (s.size : Int)) = false := by simp; omega
      go_wp2_with fail
      go_ret
      exact ⟨by rw [all_end s plainB j hj c1 HA.out]; rfl, rfl⟩

def notB (c b : UInt8) : Bool := !(b == c)
theorem notB_int (c b : UInt8) : notB c b = !((b.toNat : Int) == (c.toNat : Int)) := by
  unfold notB
  congr 1
  rw [Bool.eq_iff_iff, beq_iff_eq, beq_iff_eq]
  constructor
  · rintro rfl; rfl
  · intro h; exact UInt8.toNat_inj.1 (by omega)
theorem has_not (l : List UInt8) (c : UInt8) : l.contains c = !(l.all (notB c)) := by
  induction l with
  | nil => rfl
  | cons b l ih =>
    rw [List.contains_cons, List.all_cons, ih]
    unfold notB
    rw [show (c == b) = (b == c) from by rw [Bool.eq_iff_iff, beq_iff_eq, beq_iff_eq]; exact eq_comm]
    cases b == c <;> simp
set_option maxHeartbeats 400000 in
theorem has_any (s : ByteArray) (c : UInt8) (w : World) (hm : s.size ≤ 9223372036854775807) :
    Calls Try.prog 101 #[.string s, .int .u8 (c.toNat : Int)] w fun e w' => e = .returned (.bool (s.data.toList.contains c)) ∧ w' = w := by
  rw [has_not]
  go_enter Try.func101, Try.ntmps101
  go_wp2_with fail
  go_loopw [5] (fun i wr => ∃ j : Nat, i = .int .i64 j ∧ j ≤ s.size ∧ Hid ((s.data.toList.take j).all (notB c) = true) ∧ wr = w) (fun i _ => s.size - (intOf i).toNat)
  case atStart => exact ⟨0, rfl, Nat.zero_le _, by simp [Hid], rfl⟩
  case round =>
    obtain ⟨j, rfl, hj, HA, rfl⟩ := hrel
    by_cases c1 : j < s.size
    · have d1 : decide ((j : Int) < (s.size : Int)) = true := by simp; omega
      have d1' : (j : Int) < (s.size : Int) := by omega
      obtain ⟨b, hb⟩ : ∃ b, s[j]'c1 = b := ⟨_, rfl⟩
      have hst := all_snoc' s.data.toList j (by simpa using c1) (notB c)
      have hno := all_no s.data.toList j (by simpa using c1) (notB c)
      have hbl : s.data.toList[j]'(by simpa using c1) = b := hb
      rw [hbl] at hst hno
      have HS := hid hst
      have HN := hid hno
      clear hst hno hbl
      cases h11 : ((b.toNat : Int) == (c.toNat : Int)) with
      | false =>
        have h11m : ((b.toNat : Int) != (c.toNat : Int)) = true := by rw [bne, h11]; rfl
        go_wp2_with fail
        go_roundw
        case rel => exact ⟨j + 1, by go_num, c1, by unfold Hid; rw [HS.out, HA.out]; rw [notB_int]; simp only [*] <;> rfl, trivial⟩
        case measure => simp [intOf]; omega
      | true =>
        have h11m : ((b.toNat : Int) != (c.toNat : Int)) = false := by rw [bne, h11]; rfl
        go_wp2_with fail
        go_ret
        exact ⟨by rw [HN.out (by rw [notB_int]; simp only [*] <;> rfl)]; rfl, rfl⟩
    · have d1 : decide ((j : Int) < (s.size : Int)) = false := by simp; omega
      go_wp2_with fail
      go_ret
      exact ⟨by rw [all_end s (notB c) j hj c1 HA.out]; rfl, rfl⟩

end Go.Proofs.Ytilgpmpiidccjaa

/- The walks of the reference's predicates on texts and lists. -/
namespace Go.Proofs.Ytilgpmpiidccjaa
open Go.RowKit

theorem character_byte (b : UInt8) (w : World) :
    Calls Try.prog 132 #[.int .u8 (b.toNat : Int)] w fun e w' => e = .returned (.bool (Tr.character b)) ∧ w' = w := by
  go_enter Try.func132, Try.ntmps132
  go_wp2_with fail
  refine Calls.mono (letter_byte b _) ?_
  rintro _ w1q ⟨rfl, hqw1⟩
  replace hqw1 := hqw1.symm
  subst hqw1
  cases h1 : (Tr.letter b) with
  | false =>
    go_wp2_with fail
    refine Calls.mono (has_any ⟨(Tr.signs).toArray⟩ b _ (by decide)) ?_
    rintro _ w2q ⟨rfl, hqw2⟩
    replace hqw2 := hqw2.symm
    subst hqw2
    cases h2 : (Tr.signs.contains b) with
    | false =>
      go_wp2_with fail
      go_ret
      exact ⟨ret_bool' _ _ (by unfold Tr.character; simp only [*] <;> rfl), rfl⟩
    | true =>
      go_wp2_with fail
      go_ret
      exact ⟨ret_bool' _ _ (by unfold Tr.character; simp only [*] <;> rfl), rfl⟩
  | true =>
    go_wp2_with fail
    go_ret
    exact ⟨ret_bool' _ _ (by unfold Tr.character; simp only [*] <;> rfl), rfl⟩

def strRow (l : List Tr.Bytes) : Array Value := (l.map fun s => Value.string ⟨s.toArray⟩).toArray
theorem strRow_get {l : List Tr.Bytes} {W : World} {g : Nat} (h : Blk W g 9 (strRow l)) (i : Nat) (hi : i < l.length) : W.cell? ⟨g, i, none⟩ = some (.string ⟨l[i].toArray⟩) := by
  rw [h.cell]
  simp [strRow, hi]

theorem keywords_any (w : World) : Calls Try.prog 133 #[] w fun e w' => e = .returned (.slice (some ⟨w.heap.size, 0, none⟩) 4 4) ∧ Fresh w w' ∧ Blk w' w.heap.size 9 (strRow Tr.keywords) := by
  go_enter Try.func133, Try.ntmps133
  go_wp2_with fail
  go_ret
  exact ⟨rfl, (Touch.refl _ _).alloc _, Blk.new _ _ _⟩
theorem accents_any (w : World) : Calls Try.prog 100 #[] w fun e w' => e = .returned (.slice (some ⟨w.heap.size, 0, none⟩) 6 6) ∧ Fresh w w' ∧ Blk w' w.heap.size 9 (strRow Tr.accents) := by
  go_enter Try.func100, Try.ntmps100
  go_wp2_with fail
  go_ret
  exact ⟨rfl, (Touch.refl _ _).alloc _, Blk.new _ _ _⟩

theorem contains_snoc (l : List Tr.Bytes) (x : Tr.Bytes) (j : Nat) (h : j < l.length) : (l.take (j + 1)).contains x = ((l.take j).contains x || (l[j] == x)) := by
  rw [List.take_succ_eq_append_getElem h]
  rw [Bool.eq_iff_iff]
  simp only [List.contains_iff_mem, List.mem_append, List.mem_singleton, Bool.or_eq_true, beq_iff_eq]
  rw [eq_comm (a := x)]
theorem contains_in (l : List Tr.Bytes) (x : Tr.Bytes) (j : Nat) (h : j < l.length) (e : (l[j] == x) = true) : l.contains x = true := by
  rw [List.contains_iff_mem]
  rw [beq_iff_eq] at e
  exact e ▸ List.getElem_mem h

set_option maxHeartbeats 1000000 in
theorem in_any (l : List Tr.Bytes) (s : ByteArray) (g : Nat) (w : World) (h : Blk w g 9 (strRow l)) (hl : l.length ≤ 1000) :
    Calls Try.prog 99 #[.slice (some ⟨g, 0, none⟩) l.length l.length, .string s] w fun e w' => e = .returned (.bool (l.contains s.data.toList)) ∧ w' = w := by
  have HG := hid h
  have hg := h.lt
  clear h
  go_enter Try.func99, Try.ntmps99
  go_wp2_with fail
  go_loopw [5] (fun i wr => ∃ j : Nat, i = .int .i64 j ∧ j ≤ l.length ∧ Hid ((l.take j).contains s.data.toList = false) ∧ wr = w) (fun i _ => l.length - (intOf i).toNat)
  case atStart => exact ⟨0, rfl, Nat.zero_le _, by simp [Hid], rfl⟩
  case round =>
    obtain ⟨j, rfl, hj, HA, rfl⟩ := hrel
    by_cases c1 : j < l.length
    · have d1 : decide ((j : Int) < (l.length : Int)) = true := by simp only [decide_eq_true_eq]; omega
      have d1n : decide (j < l.length) = true := by simp only [decide_eq_true_eq]; omega
      have d1' : (j : Int) < (l.length : Int) := by omega
      have q := strRow_get HG.out j c1
      have HS := hid (contains_snoc l s.data.toList j c1)
      have HN := hid (contains_in l s.data.toList j c1)
      generalize l[j] = x at *
      cases h1 : (x == s.data.toList) with
      | false =>
        have h1s : ((⟨x.toArray⟩ : ByteArray) == s) = false := by rw [str_eq']; exact h1
        have h1t : ((⟨x.toArray⟩ : ByteArray) != s) = true := by rw [bne, h1s]; rfl
        have h1v : (x == ByteArray.toList s) = false := by simp only [ByteArray.toList_eq]; exact h1
        go_wp2_with fail
        go_roundw
        case rel => exact ⟨j + 1, by go_num, c1, by unfold Hid; rw [HS.out, HA.out]; simp_all, trivial⟩
        case measure => simp [intOf]; omega
      | true =>
        have h1s : ((⟨x.toArray⟩ : ByteArray) == s) = true := by rw [str_eq']; exact h1
        have h1t : ((⟨x.toArray⟩ : ByteArray) != s) = false := by rw [bne, h1s]; rfl
        have h1v : (x == ByteArray.toList s) = true := by simp only [ByteArray.toList_eq]; exact h1
        go_wp2_with fail
        go_ret
        exact ⟨by rw [HN.out (by assumption)]; rfl, rfl⟩
    · have d1 : decide ((j : Int) < (l.length : Int)) = false := by simp only [decide_eq_false_iff_not]; omega
      have d1n : decide (j < l.length) = false := by simp only [decide_eq_false_iff_not]; omega
      obtain rfl : j = l.length := by omega
      go_wp2_with fail
      go_ret
      exact ⟨by have := HA.out; rw [List.take_length] at this; rw [this]; rfl, rfl⟩

theorem symbol_len (s : Tr.Bytes) (h : s.length ≠ 1) : Tr.symbol s = (s.all Tr.letter && decide (2 ≤ s.length) && decide (s.length ≤ 16) && !Tr.keywords.contains s && !Tr.accents.contains s) := by
  unfold Tr.symbol
  match s, h with
  | [], _ => rfl
  | [c], h => exact absurd rfl h
  | a :: b :: l, _ => rfl
set_option maxHeartbeats 1000000 in
theorem rSymbol_any (s : ByteArray) (w : World) (hm : s.size ≤ 9223372036854775807) :
    Calls Try.prog 96 #[.string s] w fun e w' => e = .returned (.bool (Tr.symbol s.data.toList)) ∧ Fresh w w' := by
  by_cases h1 : s.size = 1
  · obtain ⟨b, rfl⟩ := str_one s h1
    clear h1
    go_enter Try.func96, Try.ntmps96
    go_wp2_with fail
    refine Calls.mono (character_byte b _) ?_
    rintro _ _ ⟨rfl, rfl⟩
    go_wp2_with fail
    go_ret
    exact ⟨rfl, Touch.refl _ _⟩
  · have d1 : ((s.size : Int) == (1 : Int)) = false := by simp only [beq_eq_false_iff_ne]; omega
    have d1n : (s.size == 1) = false := by simp only [beq_eq_false_iff_ne]; omega
    have d1' : ¬ (s.size : Int) = 1 := by omega
    have HSY := hid (symbol_len s.data.toList (by simpa using h1))
    have hlen : s.data.toList.length = s.size := by simp
    clear h1
    rw [hlen] at HSY
    go_enter Try.func96, Try.ntmps96
    go_wp2_with fail
    go_loopw [3] (fun i wr => ∃ j : Nat, i = .int .i64 j ∧ j ≤ s.size ∧ Hid ((s.data.toList.take j).all Tr.letter = true) ∧ wr = w) (fun i _ => s.size - (intOf i).toNat)
    case atStart => exact ⟨0, rfl, Nat.zero_le _, by simp [Hid], rfl⟩
    case round =>
      obtain ⟨j, rfl, hj, HA, rfl⟩ := hrel
      by_cases c1 : j < s.size
      · have d1 : decide ((j : Int) < (s.size : Int)) = true := by simp; omega
        have d1' : (j : Int) < (s.size : Int) := by omega
        obtain ⟨b, hb⟩ : ∃ b, s[j]'c1 = b := ⟨_, rfl⟩
        have hst := all_snoc' s.data.toList j (by simpa using c1) Tr.letter
        have hno := all_no s.data.toList j (by simpa using c1) Tr.letter
        have hbl : s.data.toList[j]'(by simpa using c1) = b := hb
        rw [hbl] at hst hno
        have HS := hid hst
        have HN := hid hno
        clear hst hno hbl
        go_wp2_with fail
        refine Calls.mono (letter_byte b _) ?_
        rintro _ w1q ⟨rfl, hqw1⟩
        replace hqw1 := hqw1.symm
        subst hqw1
        cases h1 : (Tr.letter b) with
        | false =>
          go_wp2_with fail
          go_ret
          exact ⟨ret_bool' _ _ (by rw [HSY.out]; first | (have hn := HN.out (by assumption); simp_all) | (have ha := all_end s Tr.letter j hj c1 HA.out; simp_all <;> omega)), (Touch.refl _ _)⟩
        | true =>
          go_wp2_with fail
          go_roundw
          case rel => exact ⟨j + 1, by go_num, c1, by unfold Hid; rw [HS.out, HA.out]; simp only [*] <;> rfl, trivial⟩
          case measure => simp [intOf]; omega
      · have d1 : decide ((j : Int) < (s.size : Int)) = false := by simp; omega
        cases h2 : decide ((2 : Int) ≤ (s.size : Int)) with
        | false =>
          have h2n : decide (2 ≤ s.size) = false := by have hx := h2; simp only [decide_eq_false_iff_not] at hx ⊢; omega
          go_wp2_with fail
          go_ret
          exact ⟨ret_bool' _ _ (by rw [HSY.out]; first | (have hn := HN.out (by assumption); simp_all) | (have ha := all_end s Tr.letter j hj c1 HA.out; simp_all <;> omega)), (Touch.refl _ _)⟩
        | true =>
          have h2n : decide (2 ≤ s.size) = true := by have hx := h2; simp only [decide_eq_true_eq] at hx ⊢; omega
          cases h3 : decide ((s.size : Int) ≤ (16 : Int)) with
          | false =>
            go_wp2_with fail
            go_ret
            exact ⟨ret_bool' _ _ (by rw [HSY.out]; first | (have hn := HN.out (by assumption); simp_all) | (have ha := all_end s Tr.letter j hj c1 HA.out; simp_all <;> omega)), (Touch.refl _ _)⟩
          | true =>
            go_wp2_with fail
            refine Calls.mono (keywords_any _) ?_
            rintro _ w2 ⟨rfl, hfw2, hkw2⟩
            have HKW2 := hid hkw2
            clear hkw2
            have HF2 := hid (show Fresh wr w2 from by first | exact hfw2 | exact Touch.pre hfw2 | exact Touch.pre (Touch.pre hfw2) | exact Touch.ofN hfw2 | exact Touch.preN hfw2 | exact Touch.pre (Touch.pre (Touch.pre hfw2)))
            clear hfw2
            go_wp2_with fail
            refine Calls.mono (in_any Tr.keywords s _ _ HKW2.out (by decide)) ?_
            rintro _ w3q ⟨rfl, hqw3⟩
            replace hqw3 := hqw3.symm
            subst hqw3
            cases h4 : (Tr.keywords.contains s.data.toList) with
            | false =>
              go_wp2_with fail
              refine Calls.mono (accents_any _) ?_
              rintro _ w4 ⟨rfl, hfw4, hkw4⟩
              have HKW4 := hid hkw4
              clear hkw4
              have HF4 := hid (show Fresh w2 w4 from by first | exact hfw4 | exact Touch.pre hfw4 | exact Touch.pre (Touch.pre hfw4) | exact Touch.ofN hfw4 | exact Touch.preN hfw4 | exact Touch.pre (Touch.pre (Touch.pre hfw4)))
              clear hfw4
              go_wp2_with fail
              refine Calls.mono (in_any Tr.accents s _ _ HKW4.out (by decide)) ?_
              rintro _ w5q ⟨rfl, hqw5⟩
              replace hqw5 := hqw5.symm
              subst hqw5
              cases h5 : (Tr.accents.contains s.data.toList) with
              | false =>
                go_wp2_with fail
                go_ret
                exact ⟨ret_bool' _ _ (by rw [HSY.out]; first | (have hn := HN.out (by assumption); simp_all) | (have ha := all_end s Tr.letter j hj c1 HA.out; simp_all <;> omega)), (HF2.out.trans HF4.out)⟩
              | true =>
                go_wp2_with fail
                go_ret
                exact ⟨ret_bool' _ _ (by rw [HSY.out]; first | (have hn := HN.out (by assumption); simp_all) | (have ha := all_end s Tr.letter j hj c1 HA.out; simp_all <;> omega)), (HF2.out.trans HF4.out)⟩
            | true =>
              go_wp2_with fail
              go_ret
              exact ⟨ret_bool' _ _ (by rw [HSY.out]; first | (have hn := HN.out (by assumption); simp_all) | (have ha := all_end s Tr.letter j hj c1 HA.out; simp_all <;> omega)), HF2.out⟩
end Go.Proofs.Ytilgpmpiidccjaa

/- The walks of the reference's Number, text and kids. -/
namespace Go.Proofs.Ytilgpmpiidccjaa
open Go.RowKit

def pd (b : UInt8) : Bool := b == 46 || Tr.digit b
/-- What Number reports. -/
def numF (s : List UInt8) : Bool := decide (0 < s.length) && (decide (s.length ≤ 20) && (s.all pd && (!(s.head? == some 46) && (!(s.getLast? == some 46) && decide (s.count 46 ≤ 1)))))

theorem pd_no (l : List UInt8) (h : ∀ b ∈ l, b ≠ 46) : l.all pd = l.all Tr.digit ∧ l.count 46 = 0 := by
  induction l with
  | nil => exact ⟨rfl, rfl⟩
  | cons b l ih =>
    obtain ⟨h1, h2⟩ := ih fun x hx => h x (by simp [hx])
    have hb := h b (by simp)
    refine ⟨?_, ?_⟩
    · rw [List.all_cons, List.all_cons, h1]
      unfold pd
      rw [show (b == 46) = false from by simpa using hb, Bool.false_or]
    · rw [List.count_cons, h2, show (b == 46) = false from by simpa using hb]
      rfl
theorem pd_digit (l : List UInt8) (h : l.all Tr.digit = true) : ∀ b ∈ l, b ≠ 46 := fun b hb => digit_ne_point b (List.all_eq_true.1 h b hb)
theorem head_no (l : List UInt8) (h : ∀ b ∈ l, b ≠ 46) : (l.head? == some 46) = false := by
  rw [beq_eq_false_iff_ne]
  intro e
  exact h 46 (List.mem_of_head? e) rfl
theorem last_no (l : List UInt8) (h : ∀ b ∈ l, b ≠ 46) : (l.getLast? == some 46) = false := by
  rw [beq_eq_false_iff_ne]
  intro e
  exact h 46 (List.mem_of_getLast? e) rfl

theorem numF_isNum (s : List UInt8) : numF s = Tr.isNum s := by
  rw [isNum_cut]
  obtain ⟨⟨h1, h2⟩, h3⟩ := cut_span s
  have hs : (s.takeWhile (· ≠ 46)) ++ (s.dropWhile (· ≠ 46)) = s := List.takeWhile_append_dropWhile
  have hno : ∀ b ∈ (cutP s).1, b ≠ 46 := by
    rw [← h1]
    intro b hb
    have := List.all_eq_true.1 (List.all_takeWhile (p := fun b : UInt8 => decide (b ≠ 46)) (l := s)) b hb
    simpa using this
  rw [h1, h2] at hs
  clear h1 h2
  generalize cutP s = c at *
  obtain ⟨a, b, f⟩ := c
  simp only at *
  obtain ⟨e1, e2⟩ := pd_no a hno
  cases f with
  | false =>
    simp only [Bool.false_eq_true, if_false, List.append_nil] at hs
    subst hs
    unfold numF digitsNE
    rw [e1, e2, head_no a hno, last_no a hno]
    rw [Bool.eq_iff_iff]
    simp only [Bool.and_eq_true, decide_eq_true_eq, Bool.not_false, Bool.true_or, Bool.and_true, Nat.zero_le, decide_true, Bool.not_eq_true', beq_eq_false_iff_ne, List.length_pos_iff]
    constructor
    · rintro ⟨g1, g2, g3⟩; exact ⟨g2, g3, g1⟩
    · rintro ⟨g2, g3, g1⟩; exact ⟨g1, g2, g3⟩
  | true =>
    simp only [if_true] at hs
    subst hs
    unfold numF digitsNE
    rw [Bool.eq_iff_iff]
    simp only [Bool.and_eq_true, decide_eq_true_eq, Bool.not_true, Bool.false_or, Bool.not_eq_true', beq_eq_false_iff_ne, List.all_append, List.all_cons, List.count_append, List.count_cons, e1, e2]
    have hp : pd 46 = true := by decide
    constructor
    · rintro ⟨_, g2, ⟨g3, _, g4⟩, g5, g6, g7⟩
      have hc : b.count 46 = 0 := by simp at g7; omega
      have hb : ∀ x ∈ b, x ≠ 46 := fun x hx e => by
        have := List.count_pos_iff.2 (e ▸ hx)
        omega
      refine ⟨g2, ⟨g3, ?_⟩, (pd_no b hb).1 ▸ g4, ?_⟩
      · rintro rfl; exact g5 rfl
      · rintro rfl; exact g6 (by simp)
    · rintro ⟨g2, ⟨g3, g4⟩, g5, g6⟩
      have hb := pd_digit b g5
      obtain ⟨k1, k2⟩ := pd_no b hb
      refine ⟨by simp only [List.length_append, List.length_cons]; omega, g2, ⟨g3, hp, by rw [k1]; exact g5⟩, ?_, ?_, by rw [k2]; simp⟩
      · intro e
        cases a with
        | nil => exact g4 rfl
        | cons x a => simp at e; exact hno x (by simp) e
      · intro e
        have hl : (a ++ 46 :: b).getLast? = b.getLast? := by
          cases b with
          | nil => exact absurd rfl g6
          | cons y b => 
            obtain ⟨z, hz⟩ : ∃ z, (y :: b).getLast? = some z := ⟨_, List.getLast?_eq_some_getLast (by simp)⟩
            rw [List.getLast?_append, List.getLast?_cons_cons, hz]; rfl
        rw [hl] at e
        exact hb 46 (List.mem_of_getLast? e) rfl

theorem byte_int (b c : UInt8) : (b == c) = ((b.toNat : Int) == (c.toNat : Int)) := by
  rw [Bool.eq_iff_iff, beq_iff_eq, beq_iff_eq]
  constructor
  · rintro rfl; rfl
  · intro h; exact UInt8.toNat_inj.1 (by omega)

/-- What holds ahead of index j. -/
def numAt (s : List UInt8) (j : Nat) : Bool := (s.take j).all pd && ((j == 0 || !(s.head? == some 46)) && (decide (j < s.length) || !(s.getLast? == some 46)))
theorem numAt_zero (s : List UInt8) (h : 0 < s.length) : numAt s 0 = true := by simp [numAt, h]
theorem last_at (s : List UInt8) (j : Nat) (h : j < s.length) (hl : ¬ j + 1 < s.length) : s.getLast? = some s[j] := by
  rw [List.getLast?_eq_getElem?, List.getElem?_eq_getElem (by omega)]
  congr 2
  omega
theorem numAt_point (s : List UInt8) (j : Nat) (h : j < s.length) (hb : s[j] = 46) (h1 : 0 < j) (h2 : (j : Int) < (s.length : Int) - 1) (hn : numAt s j = true) : numAt s (j + 1) = true ∧ (s.take (j + 1)).count 46 = (s.take j).count 46 + 1 := by
  unfold numAt at hn ⊢
  rw [List.take_succ_eq_append_getElem h, hb]
  simp only [Bool.and_eq_true, Bool.or_eq_true, beq_iff_eq, Bool.not_eq_true', decide_eq_true_eq, List.all_append, List.count_append] at hn ⊢
  obtain ⟨g1, g2, g3⟩ := hn
  refine ⟨⟨⟨g1, by decide⟩, ?_, .inl (by omega)⟩, by simp⟩
  rcases g2 with g2 | g2
  · omega
  · exact .inr g2
theorem numAt_digit (s : List UInt8) (j : Nat) (h : j < s.length) (hb : Tr.digit s[j] = true) (hn : numAt s j = true) : numAt s (j + 1) = true ∧ (s.take (j + 1)).count 46 = (s.take j).count 46 := by
  have hne := digit_ne_point _ hb
  unfold numAt at hn ⊢
  rw [List.take_succ_eq_append_getElem h]
  simp only [Bool.and_eq_true, Bool.or_eq_true, beq_iff_eq, Bool.not_eq_true', decide_eq_true_eq, List.all_append, List.count_append, List.all_cons, List.all_nil, and_true] at hn ⊢
  obtain ⟨g1, g2, g3⟩ := hn
  refine ⟨⟨⟨g1, by simp [pd, hb]⟩, .inr ?_, ?_⟩, ?_⟩
  · rcases g2 with g2 | g2
    · subst g2
      rw [beq_eq_false_iff_ne]
      intro e
      rw [List.head?_eq_getElem?, List.getElem?_eq_getElem h] at e
      exact hne (by simpa using e)
    · exact g2
  · by_cases hl : j + 1 < s.length
    · exact .inl hl
    · refine .inr ?_
      rw [last_at s j h hl, beq_eq_false_iff_ne]
      intro e
      exact hne (by simpa using e)
  · rw [List.count_cons, show (s[j] == 46) = false from by simpa using hne]; simp
theorem numAt_no (s : List UInt8) (j : Nat) (h : j < s.length) (hd : Tr.digit s[j] = false) (hp : s[j] ≠ 46 ∨ j = 0 ∨ ¬ (j : Int) < (s.length : Int) - 1) : Tr.isNum s = false := by
  rw [← numF_isNum, ← Bool.not_eq_true]
  unfold numF
  simp only [Bool.and_eq_true, decide_eq_true_eq, Bool.not_eq_true', beq_eq_false_iff_ne]
  rintro ⟨_, _, g1, g2, g3, _⟩
  have hm := List.all_eq_true.1 g1 s[j] (List.getElem_mem h)
  unfold pd at hm
  rw [hd, Bool.or_false, beq_iff_eq] at hm
  rcases hp with hp | hp | hp
  · exact hp hm
  · subst hp
    exact g2 (by rw [List.head?_eq_getElem?, List.getElem?_eq_getElem h, hm])
  · exact g3 (by rw [last_at s j h (by omega), hm])
theorem numAt_end (s : List UInt8) (h : 0 < s.length → numAt s s.length = true) : Tr.isNum s = (decide (0 < s.length) && (decide (s.length ≤ 20) && decide (s.count 46 ≤ 1))) := by
  rw [← numF_isNum]
  unfold numF
  by_cases h0 : 0 < s.length
  · have h1 := h h0
    unfold numAt at h1
    rw [List.take_length] at h1
    simp only [Bool.and_eq_true, Bool.or_eq_true, beq_iff_eq, decide_eq_true_eq, Nat.lt_irrefl, false_or, Nat.ne_of_gt h0] at h1
    obtain ⟨g1, g2, g3⟩ := h1
    rw [g1, g2, g3]
    simp
  · simp [h0]

set_option maxRecDepth 100000 in
set_option maxHeartbeats 2000000 in
theorem rNumber_any (s : ByteArray) (w : World) (hm : s.size ≤ 9223372036854775807) :
    Calls Try.prog 97 #[.string s] w fun e w' => e = .returned (.bool (Tr.isNum s.data.toList)) ∧ w' = w := by
  have hlen : s.data.toList.length = s.size := by simp
  have HLEN := hid hlen
  clear hlen
  go_enter Try.func97, Try.ntmps97
  go_wp2_with fail
  go_loopw [3, 4] (fun p i wr => ∃ j : Nat, p = .int .i64 ((s.data.toList.take j).count 46 : Nat) ∧ i = .int .i64 j ∧ j ≤ s.size ∧ Hid (0 < s.size → numAt s.data.toList j = true) ∧ wr = w) (fun _ i _ => s.size - (intOf i).toNat)
  case atStart => exact ⟨0, rfl, rfl, Nat.zero_le _, fun h => numAt_zero _ (by rw [HLEN.out]; exact h), rfl⟩
  case round =>
    obtain ⟨j, rfl, rfl, hj, HA, rfl⟩ := hrel
    by_cases c1 : j < s.size
    · have d1 : decide ((j : Int) < (s.size : Int)) = true := by simp only [decide_eq_true_eq]; omega
      have d1n : decide (j < s.size) = true := by simp only [decide_eq_true_eq]; omega
      have d1' : (j : Int) < (s.size : Int) := by omega
      have c2 : j < s.data.toList.length := by rw [HLEN.out]; exact c1
      have hcm : (s.data.toList.take j).count 46 ≤ j := Nat.le_trans List.count_le_length (List.length_take_le _ _)
      have HP := hid (numAt_point s.data.toList j c2)
      have HD := hid (numAt_digit s.data.toList j c2)
      have HN := hid (numAt_no s.data.toList j c2)
      rw [HLEN.out] at HP HN
      obtain ⟨n, hn⟩ : ∃ n, (s.data.toList.take j).count 46 = n := ⟨_, rfl⟩
      rw [hn] at HP HD hcm ⊢
      clear hn
      obtain ⟨b, hb⟩ : ∃ b, s.data.toList[j]'c2 = b := ⟨_, rfl⟩
      have hsb : s[j]'c1 = b := hb
      rw [hb] at HP HD HN
      clear hb c2
      cases h1 : ((b.toNat : Int) == (46 : Int)) with
      | false =>
        have h1m : ((b.toNat : Int) != (46 : Int)) = true := by rw [bne, h1]; rfl
        go_wp2_with fail
        refine Calls.mono (digit_byte b _) ?_
        rintro _ w1q ⟨rfl, hqw1⟩
        replace hqw1 := hqw1.symm
        subst hqw1
        cases h2 : (Tr.digit b) with
        | false =>
          go_wp2_with fail
          go_ret
          exact ⟨ret_bool' _ _ (by rw [HN.out (by assumption) (.inl (by rw [ne_eq, ← beq_iff_eq, byte_int]; simp_all))]), rfl⟩
        | true =>
          go_wp2_with fail
          go_roundw
          case rel =>
            have hz := HD.out (by assumption) (HA.out (by omega))
            exact ⟨j + 1, by rw [hz.2] <;> go_num, by go_num, c1, fun _ => hz.1, trivial⟩
          case measure => simp [intOf]; omega
      | true =>
        have h1m : ((b.toNat : Int) != (46 : Int)) = false := by rw [bne, h1]; rfl
        cases h3 : decide ((0 : Int) < (j : Int)) with
        | false =>
          have h3n : decide (0 < j) = false := by have hx := h3; simp only [decide_eq_false_iff_not] at hx ⊢; omega
          go_wp2_with fail
          refine Calls.mono (digit_byte b _) ?_
          rintro _ w2q ⟨rfl, hqw2⟩
          replace hqw2 := hqw2.symm
          subst hqw2
          cases h4 : (Tr.digit b) with
          | false =>
            go_wp2_with fail
            go_ret
            exact ⟨ret_bool' _ _ (by rw [HN.out (by assumption) (.inr (.inl (by have := of_decide_eq_false (by assumption : decide ((0 : Int) < (j : Int)) = false); omega)))]), rfl⟩
          | true =>
            go_wp2_with fail
            go_roundw
            case rel =>
              have hz := HD.out (by assumption) (HA.out (by omega))
              exact ⟨j + 1, by rw [hz.2] <;> go_num, by go_num, c1, fun _ => hz.1, trivial⟩
            case measure => simp [intOf]; omega
        | true =>
          have h3n : decide (0 < j) = true := by have hx := h3; simp only [decide_eq_true_eq] at hx ⊢; omega
          cases h5 : decide ((j : Int) < ((s.size : Int) - (1 : Int))) with
          | false =>
            go_wp2_with fail
            refine Calls.mono (digit_byte b _) ?_
            rintro _ w3q ⟨rfl, hqw3⟩
            replace hqw3 := hqw3.symm
            subst hqw3
            cases h6 : (Tr.digit b) with
            | false =>
              go_wp2_with fail
              go_ret
              exact ⟨ret_bool' _ _ (by rw [HN.out (by assumption) (.inr (.inr (by have := of_decide_eq_false (by assumption : decide ((j : Int) < (s.size : Int) - (1 : Int)) = false); omega)))]), rfl⟩
            | true =>
              go_wp2_with fail
              go_roundw
              case rel =>
                have hz := HD.out (by assumption) (HA.out (by omega))
                exact ⟨j + 1, by rw [hz.2] <;> go_num, by go_num, c1, fun _ => hz.1, trivial⟩
              case measure => simp [intOf]; omega
          | true =>
            go_wp2_with fail
            go_roundw
            case rel =>
              have hz := HP.out (by rw [← beq_iff_eq, byte_int]; assumption) (by have := of_decide_eq_true (by assumption : decide ((0 : Int) < (j : Int)) = true); omega) (of_decide_eq_true (by assumption)) (HA.out (by omega))
              exact ⟨j + 1, by rw [hz.2] <;> go_num, by go_num, c1, fun _ => hz.1, trivial⟩
            case measure => simp [intOf]; omega
    · have d1 : decide ((j : Int) < (s.size : Int)) = false := by simp only [decide_eq_false_iff_not]; omega
      have d1n : decide (j < s.size) = false := by simp only [decide_eq_false_iff_not]; omega
      obtain rfl : j = s.size := by omega
      have htk : s.data.toList.take s.size = s.data.toList := List.take_of_length_le (by rw [HLEN.out]; exact Nat.le_refl _)
      have HE := hid (numAt_end s.data.toList (by rw [HLEN.out]; exact HA.out))
      rw [HLEN.out] at HE
      rw [htk]
      obtain ⟨n, hn⟩ : ∃ n, s.data.toList.count 46 = n := ⟨_, rfl⟩
      rw [hn] at HE ⊢
      clear hn htk
      cases h7 : decide ((0 : Int) < (s.size : Int)) with
      | false =>
        have h7n : decide (0 < s.size) = false := by have hx := h7; simp only [decide_eq_false_iff_not] at hx ⊢; omega
        go_wp2_with fail
        go_ret
        exact ⟨ret_bool' _ _ (by rw [HE.out]; simp_all <;> omega), rfl⟩
      | true =>
        have h7n : decide (0 < s.size) = true := by have hx := h7; simp only [decide_eq_true_eq] at hx ⊢; omega
        cases h8 : decide ((s.size : Int) ≤ (20 : Int)) with
        | false =>
          go_wp2_with fail
          go_ret
          exact ⟨ret_bool' _ _ (by rw [HE.out]; simp_all <;> omega), rfl⟩
        | true =>
          cases h9 : decide ((n : Int) ≤ (1 : Int)) with
          | false =>
            have h9n : decide (n ≤ 1) = false := by have hx := h9; simp only [decide_eq_false_iff_not] at hx ⊢; omega
            go_wp2_with fail
            go_ret
            exact ⟨ret_bool' _ _ (by rw [HE.out]; simp_all <;> omega), rfl⟩
          | true =>
            have h9n : decide (n ≤ 1) = true := by have hx := h9; simp only [decide_eq_true_eq] at hx ⊢; omega
            go_wp2_with fail
            go_ret
            exact ⟨ret_bool' _ _ (by rw [HE.out]; simp_all <;> omega), rfl⟩
end Go.Proofs.Ytilgpmpiidccjaa

/- The walks of the reference's text and kids. -/
namespace Go.Proofs.Ytilgpmpiidccjaa
open Go.RowKit

theorem byteSize (t : List UInt8) : (ByteArray.mk t.toArray).size = t.length := by show t.toArray.size = _; simp
theorem plainB_eq (t : List UInt8) : t.all plainB = Tr.printable t := by
  unfold Tr.printable
  congr 1
set_option maxRecDepth 100000 in
set_option maxHeartbeats 1000000 in
theorem text_plain (k : Int) (t : List UInt8) (cv sl : Value) (w : World) (h10 : (k == 10) = false) (h11 : (k == 11) = false) (hm : t.length ≤ 9223372036854775807) :
    Calls Try.prog 56 #[.agg #[.int .i64 k, .string ⟨t.toArray⟩, cv, sl]] w fun e w' => e = .returned (.bool (Tr.textOK k t)) ∧ Fresh w w' := by
  have hz : (ByteArray.mk t.toArray).size ≤ 9223372036854775807 := by rw [byteSize]; exact hm
  have HZ := hid hz
  clear hz
  go_enter Try.func56, Try.ntmps56
  cases h1 : (k == (2 : Int)) with
  | false =>
    have h1m : (k != (2 : Int)) = true := by rw [bne, h1]; rfl
    cases h2 : (k == (3 : Int)) with
    | false =>
      have h2m : (k != (3 : Int)) = true := by rw [bne, h2]; rfl
      cases h3 : (k == (4 : Int)) with
      | false =>
        have h3m : (k != (4 : Int)) = true := by rw [bne, h3]; rfl
        cases h4 : (t == ([] : List UInt8)) with
        | false =>
          have h4s : ((⟨t.toArray⟩ : ByteArray) == (⟨#[]⟩ : ByteArray)) = false := by rw [str_eq']; exact h4
          have h4t : ((⟨t.toArray⟩ : ByteArray) != (⟨#[]⟩ : ByteArray)) = true := by rw [bne, h4s]; rfl
          have h4e : (ByteArray.toList (⟨t.toArray⟩ : ByteArray)).isEmpty = false := by rw [isEmpty_str]; exact h4
          go_wp2_with fail
          go_ret
          exact ⟨ret_bool' _ _ (by unfold Tr.textOK; simp only [← plainB_eq]; simp_all <;> omega), (by first | exact (Touch.refl _ _) | exact (Touch.refl _ _).alloc _ | exact ((Touch.refl _ _).alloc _).alloc _ | exact (((Touch.refl _ _).alloc _).alloc _).alloc _ | exact (Touch.refl _ _).drewN _ | exact ((Touch.refl _ _).alloc _).drewN _ | exact (((Touch.refl _ _).alloc _).alloc _).drewN _)⟩
        | true =>
          have h4s : ((⟨t.toArray⟩ : ByteArray) == (⟨#[]⟩ : ByteArray)) = true := by rw [str_eq']; exact h4
          have h4t : ((⟨t.toArray⟩ : ByteArray) != (⟨#[]⟩ : ByteArray)) = false := by rw [bne, h4s]; rfl
          have h4e : (ByteArray.toList (⟨t.toArray⟩ : ByteArray)).isEmpty = true := by rw [isEmpty_str]; exact h4
          go_wp2_with fail
          go_ret
          exact ⟨ret_bool' _ _ (by unfold Tr.textOK; simp only [← plainB_eq]; simp_all <;> omega), (by first | exact (Touch.refl _ _) | exact (Touch.refl _ _).alloc _ | exact ((Touch.refl _ _).alloc _).alloc _ | exact (((Touch.refl _ _).alloc _).alloc _).alloc _ | exact (Touch.refl _ _).drewN _ | exact ((Touch.refl _ _).alloc _).drewN _ | exact (((Touch.refl _ _).alloc _).alloc _).drewN _)⟩
      | true =>
        have h3m : (k != (4 : Int)) = false := by rw [bne, h3]; rfl
        cases h5 : decide ((t.length : Int) ≤ (200 : Int)) with
        | false =>
          have h5n : decide (t.length ≤ 200) = false := by have hx := h5; simp only [decide_eq_false_iff_not] at hx ⊢; omega
          go_wp2_with fail
          go_ret
          exact ⟨ret_bool' _ _ (by unfold Tr.textOK; simp only [← plainB_eq]; simp_all <;> omega), (by first | exact (Touch.refl _ _) | exact (Touch.refl _ _).alloc _ | exact ((Touch.refl _ _).alloc _).alloc _ | exact (((Touch.refl _ _).alloc _).alloc _).alloc _ | exact (Touch.refl _ _).drewN _ | exact ((Touch.refl _ _).alloc _).drewN _ | exact (((Touch.refl _ _).alloc _).alloc _).drewN _)⟩
        | true =>
          have h5n : decide (t.length ≤ 200) = true := by have hx := h5; simp only [decide_eq_true_eq] at hx ⊢; omega
          go_wp2_with fail
          refine Calls.mono (printable_any ⟨t.toArray⟩ _ HZ.out) ?_
          rintro _ w1q ⟨rfl, hqw1⟩
          replace hqw1 := hqw1.symm
          subst hqw1
          cases h6 : (t.all plainB) with
          | false =>
            go_wp2_with fail
            go_ret
            exact ⟨ret_bool' _ _ (by unfold Tr.textOK; simp only [← plainB_eq]; simp_all <;> omega), (by first | exact (Touch.refl _ _) | exact (Touch.refl _ _).alloc _ | exact ((Touch.refl _ _).alloc _).alloc _ | exact (((Touch.refl _ _).alloc _).alloc _).alloc _ | exact (Touch.refl _ _).drewN _ | exact ((Touch.refl _ _).alloc _).drewN _ | exact (((Touch.refl _ _).alloc _).alloc _).drewN _)⟩
          | true =>
            go_wp2_with fail
            go_ret
            exact ⟨ret_bool' _ _ (by unfold Tr.textOK; simp only [← plainB_eq]; simp_all <;> omega), (by first | exact (Touch.refl _ _) | exact (Touch.refl _ _).alloc _ | exact ((Touch.refl _ _).alloc _).alloc _ | exact (((Touch.refl _ _).alloc _).alloc _).alloc _ | exact (Touch.refl _ _).drewN _ | exact ((Touch.refl _ _).alloc _).drewN _ | exact (((Touch.refl _ _).alloc _).alloc _).drewN _)⟩
    | true =>
      have h2m : (k != (3 : Int)) = false := by rw [bne, h2]; rfl
      go_wp2_with fail
      refine Calls.mono (rNumber_any ⟨t.toArray⟩ _ HZ.out) ?_
      rintro _ w2q ⟨rfl, hqw2⟩
      replace hqw2 := hqw2.symm
      subst hqw2
      cases h7 : (Tr.isNum t) with
      | false =>
        go_wp2_with fail
        go_ret
        exact ⟨ret_bool' _ _ (by unfold Tr.textOK; simp only [← plainB_eq]; simp_all <;> omega), (by first | exact (Touch.refl _ _) | exact (Touch.refl _ _).alloc _ | exact ((Touch.refl _ _).alloc _).alloc _ | exact (((Touch.refl _ _).alloc _).alloc _).alloc _ | exact (Touch.refl _ _).drewN _ | exact ((Touch.refl _ _).alloc _).drewN _ | exact (((Touch.refl _ _).alloc _).alloc _).drewN _)⟩
      | true =>
        go_wp2_with fail
        go_ret
        exact ⟨ret_bool' _ _ (by unfold Tr.textOK; simp only [← plainB_eq]; simp_all <;> omega), (by first | exact (Touch.refl _ _) | exact (Touch.refl _ _).alloc _ | exact ((Touch.refl _ _).alloc _).alloc _ | exact (((Touch.refl _ _).alloc _).alloc _).alloc _ | exact (Touch.refl _ _).drewN _ | exact ((Touch.refl _ _).alloc _).drewN _ | exact (((Touch.refl _ _).alloc _).alloc _).drewN _)⟩
  | true =>
    have h1m : (k != (2 : Int)) = false := by rw [bne, h1]; rfl
    go_wp2_with fail
    refine Calls.mono (rSymbol_any ⟨t.toArray⟩ _ HZ.out) ?_
    rintro _ w3 ⟨rfl, hfw3⟩
    have HF3 := hid (show Fresh w w3 from by first | exact hfw3 | exact Touch.pre hfw3 | exact Touch.pre (Touch.pre hfw3) | exact Touch.ofN hfw3 | exact Touch.preN hfw3 | exact Touch.pre (Touch.pre (Touch.pre hfw3)))
    have B0_w3 : Blk w3 (w.heap.size) 24 #[.int .i64 k, .string (⟨t.toArray⟩ : ByteArray), cv, sl] := Touch.blk hfw3 (by first | exact Blk.new _ _ _ | exact (Blk.new _ _ _).alloc _ | exact Blk.new2 _ _ _ _ | exact ((Blk.new _ _ _).alloc _).alloc _ | exact (Blk.new2 _ _ _ _).alloc _ | exact Blk.new3 _ _ _ _ _ | assumption | exact Blk.alloc (by assumption) _ | exact (Blk.alloc (Blk.alloc (by assumption) _) _)) (fun h => h)
    have q0_0_w3 : World.cell? w3 ⟨w.heap.size, 0, none⟩ = some (.int .i64 k) := Blk.cell B0_w3 0
    have q0_1_w3 : World.cell? w3 ⟨w.heap.size, 1, none⟩ = some (.string (⟨t.toArray⟩ : ByteArray)) := Blk.cell B0_w3 1
    have q0_2_w3 : World.cell? w3 ⟨w.heap.size, 2, none⟩ = some (cv) := Blk.cell B0_w3 2
    have q0_3_w3 : World.cell? w3 ⟨w.heap.size, 3, none⟩ = some (sl) := Blk.cell B0_w3 3
    clear hfw3
    cases h8 : (Tr.symbol t) with
    | false =>
      go_wp2_with fail
      go_ret
      exact ⟨ret_bool' _ _ (by unfold Tr.textOK; simp only [← plainB_eq]; simp_all <;> omega), (by first | exact HF3.out | exact HF3.out.alloc _ | exact (HF3.out.alloc _).alloc _ | exact ((HF3.out.alloc _).alloc _).alloc _ | exact HF3.out.drewN _ | exact (HF3.out.alloc _).drewN _ | exact ((HF3.out.alloc _).alloc _).drewN _)⟩
    | true =>
      go_wp2_with fail
      go_ret
      exact ⟨ret_bool' _ _ (by unfold Tr.textOK; simp only [← plainB_eq]; simp_all <;> omega), (by first | exact HF3.out | exact HF3.out.alloc _ | exact (HF3.out.alloc _).alloc _ | exact ((HF3.out.alloc _).alloc _).alloc _ | exact HF3.out.drewN _ | exact (HF3.out.alloc _).drewN _ | exact ((HF3.out.alloc _).alloc _).drewN _)⟩
set_option maxRecDepth 100000 in
set_option maxHeartbeats 1000000 in
theorem text_fence (k : Int) (hk : k = 11) (a b : UInt8) (cv sl : Value) (w : World) :
    Calls Try.prog 56 #[.agg #[.int .i64 k, .string ⟨#[a, b]⟩, cv, sl]] w fun e w' => e = .returned (.bool (Tr.textOK k [a, b])) ∧ Fresh w w' := by
  have hk0 : (k == 10) = false := by subst hk; rfl
  have hk1 : (k == 11) = true := by subst hk; rfl
  have hk2 : (k == 2) = false := by subst hk; rfl
  have hk3 : (k == 3) = false := by subst hk; rfl
  have hk4 : (k == 4) = false := by subst hk; rfl
  have HT := hid (show Tr.textOK k [a, b] = (Tr.delims.contains a && Tr.delims.contains b) by subst hk; rfl)
  have e0 : (ByteArray.mk #[a, b])[0]'(show 0 < 2 by decide) = a := rfl
  have e1 : (ByteArray.mk #[a, b])[1]'(show 1 < 2 by decide) = b := rfl
  have e2 : (ByteArray.mk #[a, b]).size = 2 := rfl
  clear hk
  go_enter Try.func56, Try.ntmps56
  go_wp2_with fail
  refine Calls.mono (has_any ⟨(Tr.delims).toArray⟩ a _ (by decide)) ?_
  rintro _ w1q ⟨rfl, hqw1⟩
  replace hqw1 := hqw1.symm
  subst hqw1
  cases h1 : (Tr.delims.contains a) with
  | false =>
    go_wp2_with fail
    go_ret
    exact ⟨ret_bool' _ _ (by rw [HT.out]; simp_all), (by first | exact (Touch.refl _ _) | exact (Touch.refl _ _).alloc _ | exact ((Touch.refl _ _).alloc _).alloc _ | exact (((Touch.refl _ _).alloc _).alloc _).alloc _ | exact (Touch.refl _ _).drewN _ | exact ((Touch.refl _ _).alloc _).drewN _ | exact (((Touch.refl _ _).alloc _).alloc _).drewN _)⟩
  | true =>
    go_wp2_with fail
    refine Calls.mono (has_any ⟨(Tr.delims).toArray⟩ b _ (by decide)) ?_
    rintro _ w2q ⟨rfl, hqw2⟩
    replace hqw2 := hqw2.symm
    subst hqw2
    cases h2 : (Tr.delims.contains b) with
    | false =>
      go_wp2_with fail
      go_ret
      exact ⟨ret_bool' _ _ (by rw [HT.out]; simp_all), (by first | exact (Touch.refl _ _) | exact (Touch.refl _ _).alloc _ | exact ((Touch.refl _ _).alloc _).alloc _ | exact (((Touch.refl _ _).alloc _).alloc _).alloc _ | exact (Touch.refl _ _).drewN _ | exact ((Touch.refl _ _).alloc _).drewN _ | exact (((Touch.refl _ _).alloc _).alloc _).drewN _)⟩
    | true =>
      go_wp2_with fail
      go_ret
      exact ⟨ret_bool' _ _ (by rw [HT.out]; simp_all), (by first | exact (Touch.refl _ _) | exact (Touch.refl _ _).alloc _ | exact ((Touch.refl _ _).alloc _).alloc _ | exact (((Touch.refl _ _).alloc _).alloc _).alloc _ | exact (Touch.refl _ _).drewN _ | exact ((Touch.refl _ _).alloc _).drewN _ | exact (((Touch.refl _ _).alloc _).alloc _).drewN _)⟩
set_option maxRecDepth 100000 in
set_option maxHeartbeats 1000000 in
theorem text_nofence (k : Int) (hk : k = 11) (t : List UInt8) (ht : t.length ≠ 2) (cv sl : Value) (w : World) :
    Calls Try.prog 56 #[.agg #[.int .i64 k, .string ⟨t.toArray⟩, cv, sl]] w fun e w' => e = .returned (.bool (Tr.textOK k t)) ∧ Fresh w w' := by
  have hk0 : (k == 10) = false := by subst hk; rfl
  have hk1 : (k == 11) = true := by subst hk; rfl
  have hk2 : (k == 2) = false := by subst hk; rfl
  have hk3 : (k == 3) = false := by subst hk; rfl
  have hk4 : (k == 4) = false := by subst hk; rfl
  have HT := hid (show Tr.textOK k t = false by
    subst hk
    show Tr.fence t = false
    match t, ht with
    | [], _ => rfl
    | [_], _ => rfl
    | [_, _], h => exact absurd rfl h
    | _ :: _ :: _ :: _, _ => rfl)
  have f1 : ((t.length : Int) == 2) = false := by rw [beq_eq_false_iff_ne]; omega
  have f2 : (t.length == 2) = false := by rw [beq_eq_false_iff_ne]; exact ht
  have f3 : ¬ (t.length : Int) = 2 := by omega
  clear hk ht
  go_enter Try.func56, Try.ntmps56
  go_wp2_with fail
  go_ret
  exact ⟨ret_bool' _ _ (by rw [HT.out]), (by first | exact (Touch.refl _ _) | exact (Touch.refl _ _).alloc _ | exact ((Touch.refl _ _).alloc _).alloc _ | exact (((Touch.refl _ _).alloc _).alloc _).alloc _ | exact (Touch.refl _ _).drewN _ | exact ((Touch.refl _ _).alloc _).drewN _ | exact (((Touch.refl _ _).alloc _).alloc _).drewN _)⟩
set_option maxRecDepth 100000 in
set_option maxHeartbeats 1000000 in
theorem text_accent (k : Int) (hk : k = 10) (t : List UInt8) (cv sl : Value) (w : World) :
    Calls Try.prog 56 #[.agg #[.int .i64 k, .string ⟨t.toArray⟩, cv, sl]] w fun e w' => e = .returned (.bool (Tr.textOK k t)) ∧ Fresh w w' := by
  have hk0 : (k == 10) = true := by subst hk; rfl
  have hk2 : (k == 2) = false := by subst hk; rfl
  have hk3 : (k == 3) = false := by subst hk; rfl
  have hk4 : (k == 4) = false := by subst hk; rfl
  have HT := hid (show Tr.textOK k t = Tr.accents.contains t by subst hk; rfl)
  clear hk
  go_enter Try.func56, Try.ntmps56
  go_wp2_with fail
  go_region_with (first
    | (go_at_call 100; refine (accents_any _).mono ?_; rintro _ w1 ⟨rfl, hf1, hb1⟩; have q1 := Blk.cell (Touch.blk hf1 (Blk.new _ _ _) (fun h => h)) 1; have hb2 : Blk w1 (w.heap.size + 1) 9 (strRow Tr.accents) := (by simpa using hb1); have HF1 := hid (Touch.trans (((Touch.refl _ w).alloc _).drew) hf1); clear hf1 hb1)
    | (go_at_call 99; refine (in_any Tr.accents ⟨t.toArray⟩ _ _ (by assumption) (by decide)).mono ?_; rintro _ _ ⟨rfl, rfl⟩))
  all_goals (go_wp2_with fail)
  all_goals go_ret
  all_goals exact ⟨ret_bool' _ _ (by rw [HT.out]; simp), HF1.out⟩

theorem text_any (k : Int) (t : List UInt8) (cv sl : Value) (w : World) (hm : t.length ≤ 9223372036854775807) :
    Calls Try.prog 56 #[.agg #[.int .i64 k, .string ⟨t.toArray⟩, cv, sl]] w fun e w' => e = .returned (.bool (Tr.textOK k t)) ∧ Fresh w w' := by
  by_cases h10 : k = 10
  · exact text_accent k h10 t cv sl w
  · by_cases h11 : k = 11
    · by_cases h2 : t.length = 2
      · match t, h2 with
        | [a, b], _ => exact text_fence k h11 a b cv sl w
      · exact text_nofence k h11 t h2 cv sl w
    · exact text_plain k t cv sl w (by simpa using h10) (by simpa using h11) hm

set_option maxRecDepth 100000 in
set_option maxHeartbeats 2000000 in
theorem kids_any (k c : Int) (n : Nat) (A : Option Addr) (cap : Nat) (tx : Value) (w : World) (hn : n ≤ 9223372036854775807) :
    Calls Try.prog 57 #[.agg #[.int .i64 k, tx, .int .i64 c, .slice A n cap]] w fun e w' => e = .returned (.bool (Tr.kidsOK k c n)) ∧ Fresh w w' := by
  go_enter Try.func57, Try.ntmps57
  cases h1 : (k == (12 : Int)) with
  | false =>
    have h1m : (k != (12 : Int)) = true := by rw [bne, h1]; rfl
    cases h2 : (c == (0 : Int)) with
    | false =>
      have h2m : (c != (0 : Int)) = true := by rw [bne, h2]; rfl
      go_wp2_with fail
      go_ret
      exact ⟨ret_bool' _ _ (by unfold Tr.kidsOK; simp_all <;> omega), (by first | exact (Touch.refl _ _) | exact (Touch.refl _ _).alloc _ | exact ((Touch.refl _ _).alloc _).alloc _ | exact (((Touch.refl _ _).alloc _).alloc _).alloc _ | exact (Touch.refl _ _).drewN _ | exact ((Touch.refl _ _).alloc _).drewN _ | exact (((Touch.refl _ _).alloc _).alloc _).drewN _)⟩
    | true =>
      have h2m : (c != (0 : Int)) = false := by rw [bne, h2]; rfl
      cases h3 : (k == (1 : Int)) with
      | false =>
        have h3m : (k != (1 : Int)) = true := by rw [bne, h3]; rfl
        cases h4 : (k == (2 : Int)) with
        | false =>
          have h4m : (k != (2 : Int)) = true := by rw [bne, h4]; rfl
          cases h5 : (k == (3 : Int)) with
          | false =>
            have h5m : (k != (3 : Int)) = true := by rw [bne, h5]; rfl
            cases h6 : (k == (4 : Int)) with
            | false =>
              have h6m : (k != (4 : Int)) = true := by rw [bne, h6]; rfl
              cases h7 : (k == (5 : Int)) with
              | false =>
                have h7m : (k != (5 : Int)) = true := by rw [bne, h7]; rfl
                cases h8 : (k == (6 : Int)) with
                | false =>
                  have h8m : (k != (6 : Int)) = true := by rw [bne, h8]; rfl
                  cases h9 : (k == (7 : Int)) with
                  | false =>
                    have h9m : (k != (7 : Int)) = true := by rw [bne, h9]; rfl
                    cases h10 : (k == (8 : Int)) with
                    | false =>
                      have h10m : (k != (8 : Int)) = true := by rw [bne, h10]; rfl
                      cases h11 : (k == (9 : Int)) with
                      | false =>
                        have h11m : (k != (9 : Int)) = true := by rw [bne, h11]; rfl
                        cases h12 : (k == (10 : Int)) with
                        | false =>
                          have h12m : (k != (10 : Int)) = true := by rw [bne, h12]; rfl
                          cases h13 : (k == (11 : Int)) with
                          | false =>
                            have h13m : (k != (11 : Int)) = true := by rw [bne, h13]; rfl
                            go_wp2_with fail
                            go_ret
                            exact ⟨ret_bool' _ _ (by unfold Tr.kidsOK; simp_all <;> omega), (by first | exact (Touch.refl _ _) | exact (Touch.refl _ _).alloc _ | exact ((Touch.refl _ _).alloc _).alloc _ | exact (((Touch.refl _ _).alloc _).alloc _).alloc _ | exact (Touch.refl _ _).drewN _ | exact ((Touch.refl _ _).alloc _).drewN _ | exact (((Touch.refl _ _).alloc _).alloc _).drewN _)⟩
                          | true =>
                            have h13m : (k != (11 : Int)) = false := by rw [bne, h13]; rfl
                            cases h14 : ((n : Int) == (1 : Int)) with
                            | false =>
                              have h14m : ((n : Int) != (1 : Int)) = true := by rw [bne, h14]; rfl
                              have h14n : (n == 1) = false := by have hx := h14; simp only [beq_eq_false_iff_ne, ne_eq] at hx ⊢; omega
                              go_wp2_with fail
                              go_ret
                              exact ⟨ret_bool' _ _ (by unfold Tr.kidsOK; simp_all <;> omega), (by first | exact (Touch.refl _ _) | exact (Touch.refl _ _).alloc _ | exact ((Touch.refl _ _).alloc _).alloc _ | exact (((Touch.refl _ _).alloc _).alloc _).alloc _ | exact (Touch.refl _ _).drewN _ | exact ((Touch.refl _ _).alloc _).drewN _ | exact (((Touch.refl _ _).alloc _).alloc _).drewN _)⟩
                            | true =>
                              have h14m : ((n : Int) != (1 : Int)) = false := by rw [bne, h14]; rfl
                              have h14n : (n == 1) = true := by have hx := h14; simp only [beq_iff_eq] at hx ⊢; omega
                              go_wp2_with fail
                              go_ret
                              exact ⟨ret_bool' _ _ (by unfold Tr.kidsOK; simp_all <;> omega), (by first | exact (Touch.refl _ _) | exact (Touch.refl _ _).alloc _ | exact ((Touch.refl _ _).alloc _).alloc _ | exact (((Touch.refl _ _).alloc _).alloc _).alloc _ | exact (Touch.refl _ _).drewN _ | exact ((Touch.refl _ _).alloc _).drewN _ | exact (((Touch.refl _ _).alloc _).alloc _).drewN _)⟩
                        | true =>
                          have h12m : (k != (10 : Int)) = false := by rw [bne, h12]; rfl
                          cases h15 : ((n : Int) == (1 : Int)) with
                          | false =>
                            have h15m : ((n : Int) != (1 : Int)) = true := by rw [bne, h15]; rfl
                            have h15n : (n == 1) = false := by have hx := h15; simp only [beq_eq_false_iff_ne, ne_eq] at hx ⊢; omega
                            go_wp2_with fail
                            go_ret
                            exact ⟨ret_bool' _ _ (by unfold Tr.kidsOK; simp_all <;> omega), (by first | exact (Touch.refl _ _) | exact (Touch.refl _ _).alloc _ | exact ((Touch.refl _ _).alloc _).alloc _ | exact (((Touch.refl _ _).alloc _).alloc _).alloc _ | exact (Touch.refl _ _).drewN _ | exact ((Touch.refl _ _).alloc _).drewN _ | exact (((Touch.refl _ _).alloc _).alloc _).drewN _)⟩
                          | true =>
                            have h15m : ((n : Int) != (1 : Int)) = false := by rw [bne, h15]; rfl
                            have h15n : (n == 1) = true := by have hx := h15; simp only [beq_iff_eq] at hx ⊢; omega
                            go_wp2_with fail
                            go_ret
                            exact ⟨ret_bool' _ _ (by unfold Tr.kidsOK; simp_all <;> omega), (by first | exact (Touch.refl _ _) | exact (Touch.refl _ _).alloc _ | exact ((Touch.refl _ _).alloc _).alloc _ | exact (((Touch.refl _ _).alloc _).alloc _).alloc _ | exact (Touch.refl _ _).drewN _ | exact ((Touch.refl _ _).alloc _).drewN _ | exact (((Touch.refl _ _).alloc _).alloc _).drewN _)⟩
                      | true =>
                        have h11m : (k != (9 : Int)) = false := by rw [bne, h11]; rfl
                        cases h16 : ((n : Int) == (3 : Int)) with
                        | false =>
                          have h16m : ((n : Int) != (3 : Int)) = true := by rw [bne, h16]; rfl
                          have h16n : (n == 3) = false := by have hx := h16; simp only [beq_eq_false_iff_ne, ne_eq] at hx ⊢; omega
                          go_wp2_with fail
                          go_ret
                          exact ⟨ret_bool' _ _ (by unfold Tr.kidsOK; simp_all <;> omega), (by first | exact (Touch.refl _ _) | exact (Touch.refl _ _).alloc _ | exact ((Touch.refl _ _).alloc _).alloc _ | exact (((Touch.refl _ _).alloc _).alloc _).alloc _ | exact (Touch.refl _ _).drewN _ | exact ((Touch.refl _ _).alloc _).drewN _ | exact (((Touch.refl _ _).alloc _).alloc _).drewN _)⟩
                        | true =>
                          have h16m : ((n : Int) != (3 : Int)) = false := by rw [bne, h16]; rfl
                          have h16n : (n == 3) = true := by have hx := h16; simp only [beq_iff_eq] at hx ⊢; omega
                          go_wp2_with fail
                          go_ret
                          exact ⟨ret_bool' _ _ (by unfold Tr.kidsOK; simp_all <;> omega), (by first | exact (Touch.refl _ _) | exact (Touch.refl _ _).alloc _ | exact ((Touch.refl _ _).alloc _).alloc _ | exact (((Touch.refl _ _).alloc _).alloc _).alloc _ | exact (Touch.refl _ _).drewN _ | exact ((Touch.refl _ _).alloc _).drewN _ | exact (((Touch.refl _ _).alloc _).alloc _).drewN _)⟩
                    | true =>
                      have h10m : (k != (8 : Int)) = false := by rw [bne, h10]; rfl
                      cases h17 : ((n : Int) == (2 : Int)) with
                      | false =>
                        have h17m : ((n : Int) != (2 : Int)) = true := by rw [bne, h17]; rfl
                        have h17n : (n == 2) = false := by have hx := h17; simp only [beq_eq_false_iff_ne, ne_eq] at hx ⊢; omega
                        go_wp2_with fail
                        go_ret
                        exact ⟨ret_bool' _ _ (by unfold Tr.kidsOK; simp_all <;> omega), (by first | exact (Touch.refl _ _) | exact (Touch.refl _ _).alloc _ | exact ((Touch.refl _ _).alloc _).alloc _ | exact (((Touch.refl _ _).alloc _).alloc _).alloc _ | exact (Touch.refl _ _).drewN _ | exact ((Touch.refl _ _).alloc _).drewN _ | exact (((Touch.refl _ _).alloc _).alloc _).drewN _)⟩
                      | true =>
                        have h17m : ((n : Int) != (2 : Int)) = false := by rw [bne, h17]; rfl
                        have h17n : (n == 2) = true := by have hx := h17; simp only [beq_iff_eq] at hx ⊢; omega
                        go_wp2_with fail
                        go_ret
                        exact ⟨ret_bool' _ _ (by unfold Tr.kidsOK; simp_all <;> omega), (by first | exact (Touch.refl _ _) | exact (Touch.refl _ _).alloc _ | exact ((Touch.refl _ _).alloc _).alloc _ | exact (((Touch.refl _ _).alloc _).alloc _).alloc _ | exact (Touch.refl _ _).drewN _ | exact ((Touch.refl _ _).alloc _).drewN _ | exact (((Touch.refl _ _).alloc _).alloc _).drewN _)⟩
                  | true =>
                    have h9m : (k != (7 : Int)) = false := by rw [bne, h9]; rfl
                    cases h18 : ((n : Int) == (2 : Int)) with
                    | false =>
                      have h18m : ((n : Int) != (2 : Int)) = true := by rw [bne, h18]; rfl
                      have h18n : (n == 2) = false := by have hx := h18; simp only [beq_eq_false_iff_ne, ne_eq] at hx ⊢; omega
                      go_wp2_with fail
                      go_ret
                      exact ⟨ret_bool' _ _ (by unfold Tr.kidsOK; simp_all <;> omega), (by first | exact (Touch.refl _ _) | exact (Touch.refl _ _).alloc _ | exact ((Touch.refl _ _).alloc _).alloc _ | exact (((Touch.refl _ _).alloc _).alloc _).alloc _ | exact (Touch.refl _ _).drewN _ | exact ((Touch.refl _ _).alloc _).drewN _ | exact (((Touch.refl _ _).alloc _).alloc _).drewN _)⟩
                    | true =>
                      have h18m : ((n : Int) != (2 : Int)) = false := by rw [bne, h18]; rfl
                      have h18n : (n == 2) = true := by have hx := h18; simp only [beq_iff_eq] at hx ⊢; omega
                      go_wp2_with fail
                      go_ret
                      exact ⟨ret_bool' _ _ (by unfold Tr.kidsOK; simp_all <;> omega), (by first | exact (Touch.refl _ _) | exact (Touch.refl _ _).alloc _ | exact ((Touch.refl _ _).alloc _).alloc _ | exact (((Touch.refl _ _).alloc _).alloc _).alloc _ | exact (Touch.refl _ _).drewN _ | exact ((Touch.refl _ _).alloc _).drewN _ | exact (((Touch.refl _ _).alloc _).alloc _).drewN _)⟩
                | true =>
                  have h8m : (k != (6 : Int)) = false := by rw [bne, h8]; rfl
                  cases h19 : ((n : Int) == (2 : Int)) with
                  | false =>
                    have h19m : ((n : Int) != (2 : Int)) = true := by rw [bne, h19]; rfl
                    have h19n : (n == 2) = false := by have hx := h19; simp only [beq_eq_false_iff_ne, ne_eq] at hx ⊢; omega
                    go_wp2_with fail
                    go_ret
                    exact ⟨ret_bool' _ _ (by unfold Tr.kidsOK; simp_all <;> omega), (by first | exact (Touch.refl _ _) | exact (Touch.refl _ _).alloc _ | exact ((Touch.refl _ _).alloc _).alloc _ | exact (((Touch.refl _ _).alloc _).alloc _).alloc _ | exact (Touch.refl _ _).drewN _ | exact ((Touch.refl _ _).alloc _).drewN _ | exact (((Touch.refl _ _).alloc _).alloc _).drewN _)⟩
                  | true =>
                    have h19m : ((n : Int) != (2 : Int)) = false := by rw [bne, h19]; rfl
                    have h19n : (n == 2) = true := by have hx := h19; simp only [beq_iff_eq] at hx ⊢; omega
                    go_wp2_with fail
                    go_ret
                    exact ⟨ret_bool' _ _ (by unfold Tr.kidsOK; simp_all <;> omega), (by first | exact (Touch.refl _ _) | exact (Touch.refl _ _).alloc _ | exact ((Touch.refl _ _).alloc _).alloc _ | exact (((Touch.refl _ _).alloc _).alloc _).alloc _ | exact (Touch.refl _ _).drewN _ | exact ((Touch.refl _ _).alloc _).drewN _ | exact (((Touch.refl _ _).alloc _).alloc _).drewN _)⟩
              | true =>
                have h7m : (k != (5 : Int)) = false := by rw [bne, h7]; rfl
                cases h20 : ((n : Int) == (2 : Int)) with
                | false =>
                  have h20m : ((n : Int) != (2 : Int)) = true := by rw [bne, h20]; rfl
                  have h20n : (n == 2) = false := by have hx := h20; simp only [beq_eq_false_iff_ne, ne_eq] at hx ⊢; omega
                  go_wp2_with fail
                  go_ret
                  exact ⟨ret_bool' _ _ (by unfold Tr.kidsOK; simp_all <;> omega), (by first | exact (Touch.refl _ _) | exact (Touch.refl _ _).alloc _ | exact ((Touch.refl _ _).alloc _).alloc _ | exact (((Touch.refl _ _).alloc _).alloc _).alloc _ | exact (Touch.refl _ _).drewN _ | exact ((Touch.refl _ _).alloc _).drewN _ | exact (((Touch.refl _ _).alloc _).alloc _).drewN _)⟩
                | true =>
                  have h20m : ((n : Int) != (2 : Int)) = false := by rw [bne, h20]; rfl
                  have h20n : (n == 2) = true := by have hx := h20; simp only [beq_iff_eq] at hx ⊢; omega
                  go_wp2_with fail
                  go_ret
                  exact ⟨ret_bool' _ _ (by unfold Tr.kidsOK; simp_all <;> omega), (by first | exact (Touch.refl _ _) | exact (Touch.refl _ _).alloc _ | exact ((Touch.refl _ _).alloc _).alloc _ | exact (((Touch.refl _ _).alloc _).alloc _).alloc _ | exact (Touch.refl _ _).drewN _ | exact ((Touch.refl _ _).alloc _).drewN _ | exact (((Touch.refl _ _).alloc _).alloc _).drewN _)⟩
            | true =>
              have h6m : (k != (4 : Int)) = false := by rw [bne, h6]; rfl
              cases h21 : ((n : Int) == (0 : Int)) with
              | false =>
                have h21m : ((n : Int) != (0 : Int)) = true := by rw [bne, h21]; rfl
                have h21n : (n == 0) = false := by have hx := h21; simp only [beq_eq_false_iff_ne, ne_eq] at hx ⊢; omega
                go_wp2_with fail
                go_ret
                exact ⟨ret_bool' _ _ (by unfold Tr.kidsOK; simp_all <;> omega), (by first | exact (Touch.refl _ _) | exact (Touch.refl _ _).alloc _ | exact ((Touch.refl _ _).alloc _).alloc _ | exact (((Touch.refl _ _).alloc _).alloc _).alloc _ | exact (Touch.refl _ _).drewN _ | exact ((Touch.refl _ _).alloc _).drewN _ | exact (((Touch.refl _ _).alloc _).alloc _).drewN _)⟩
              | true =>
                have h21m : ((n : Int) != (0 : Int)) = false := by rw [bne, h21]; rfl
                have h21n : (n == 0) = true := by have hx := h21; simp only [beq_iff_eq] at hx ⊢; omega
                go_wp2_with fail
                go_ret
                exact ⟨ret_bool' _ _ (by unfold Tr.kidsOK; simp_all <;> omega), (by first | exact (Touch.refl _ _) | exact (Touch.refl _ _).alloc _ | exact ((Touch.refl _ _).alloc _).alloc _ | exact (((Touch.refl _ _).alloc _).alloc _).alloc _ | exact (Touch.refl _ _).drewN _ | exact ((Touch.refl _ _).alloc _).drewN _ | exact (((Touch.refl _ _).alloc _).alloc _).drewN _)⟩
          | true =>
            have h5m : (k != (3 : Int)) = false := by rw [bne, h5]; rfl
            cases h22 : ((n : Int) == (0 : Int)) with
            | false =>
              have h22m : ((n : Int) != (0 : Int)) = true := by rw [bne, h22]; rfl
              have h22n : (n == 0) = false := by have hx := h22; simp only [beq_eq_false_iff_ne, ne_eq] at hx ⊢; omega
              go_wp2_with fail
              go_ret
              exact ⟨ret_bool' _ _ (by unfold Tr.kidsOK; simp_all <;> omega), (by first | exact (Touch.refl _ _) | exact (Touch.refl _ _).alloc _ | exact ((Touch.refl _ _).alloc _).alloc _ | exact (((Touch.refl _ _).alloc _).alloc _).alloc _ | exact (Touch.refl _ _).drewN _ | exact ((Touch.refl _ _).alloc _).drewN _ | exact (((Touch.refl _ _).alloc _).alloc _).drewN _)⟩
            | true =>
              have h22m : ((n : Int) != (0 : Int)) = false := by rw [bne, h22]; rfl
              have h22n : (n == 0) = true := by have hx := h22; simp only [beq_iff_eq] at hx ⊢; omega
              go_wp2_with fail
              go_ret
              exact ⟨ret_bool' _ _ (by unfold Tr.kidsOK; simp_all <;> omega), (by first | exact (Touch.refl _ _) | exact (Touch.refl _ _).alloc _ | exact ((Touch.refl _ _).alloc _).alloc _ | exact (((Touch.refl _ _).alloc _).alloc _).alloc _ | exact (Touch.refl _ _).drewN _ | exact ((Touch.refl _ _).alloc _).drewN _ | exact (((Touch.refl _ _).alloc _).alloc _).drewN _)⟩
        | true =>
          have h4m : (k != (2 : Int)) = false := by rw [bne, h4]; rfl
          cases h23 : ((n : Int) == (0 : Int)) with
          | false =>
            have h23m : ((n : Int) != (0 : Int)) = true := by rw [bne, h23]; rfl
            have h23n : (n == 0) = false := by have hx := h23; simp only [beq_eq_false_iff_ne, ne_eq] at hx ⊢; omega
            go_wp2_with fail
            go_ret
            exact ⟨ret_bool' _ _ (by unfold Tr.kidsOK; simp_all <;> omega), (by first | exact (Touch.refl _ _) | exact (Touch.refl _ _).alloc _ | exact ((Touch.refl _ _).alloc _).alloc _ | exact (((Touch.refl _ _).alloc _).alloc _).alloc _ | exact (Touch.refl _ _).drewN _ | exact ((Touch.refl _ _).alloc _).drewN _ | exact (((Touch.refl _ _).alloc _).alloc _).drewN _)⟩
          | true =>
            have h23m : ((n : Int) != (0 : Int)) = false := by rw [bne, h23]; rfl
            have h23n : (n == 0) = true := by have hx := h23; simp only [beq_iff_eq] at hx ⊢; omega
            go_wp2_with fail
            go_ret
            exact ⟨ret_bool' _ _ (by unfold Tr.kidsOK; simp_all <;> omega), (by first | exact (Touch.refl _ _) | exact (Touch.refl _ _).alloc _ | exact ((Touch.refl _ _).alloc _).alloc _ | exact (((Touch.refl _ _).alloc _).alloc _).alloc _ | exact (Touch.refl _ _).drewN _ | exact ((Touch.refl _ _).alloc _).drewN _ | exact (((Touch.refl _ _).alloc _).alloc _).drewN _)⟩
      | true =>
        have h3m : (k != (1 : Int)) = false := by rw [bne, h3]; rfl
        cases h24 : decide ((n : Int) ≤ (200 : Int)) with
        | false =>
          have h24n : decide (n ≤ 200) = false := by have hx := h24; simp only [decide_eq_false_iff_not] at hx ⊢; omega
          go_wp2_with fail
          go_ret
          exact ⟨ret_bool' _ _ (by unfold Tr.kidsOK; simp_all <;> omega), (by first | exact (Touch.refl _ _) | exact (Touch.refl _ _).alloc _ | exact ((Touch.refl _ _).alloc _).alloc _ | exact (((Touch.refl _ _).alloc _).alloc _).alloc _ | exact (Touch.refl _ _).drewN _ | exact ((Touch.refl _ _).alloc _).drewN _ | exact (((Touch.refl _ _).alloc _).alloc _).drewN _)⟩
        | true =>
          have h24p := of_decide_eq_true h24
          have h24n : decide (n ≤ 200) = true := by have hx := h24; simp only [decide_eq_true_eq] at hx ⊢; omega
          go_wp2_with fail
          go_ret
          exact ⟨ret_bool' _ _ (by unfold Tr.kidsOK; simp_all <;> omega), (by first | exact (Touch.refl _ _) | exact (Touch.refl _ _).alloc _ | exact ((Touch.refl _ _).alloc _).alloc _ | exact (((Touch.refl _ _).alloc _).alloc _).alloc _ | exact (Touch.refl _ _).drewN _ | exact ((Touch.refl _ _).alloc _).drewN _ | exact (((Touch.refl _ _).alloc _).alloc _).drewN _)⟩
  | true =>
    have h1m : (k != (12 : Int)) = false := by rw [bne, h1]; rfl
    cases h25 : decide ((1 : Int) ≤ c) with
    | false =>
      go_wp2_with fail
      go_ret
      exact ⟨ret_bool' _ _ (by unfold Tr.kidsOK; simp_all <;> omega), (by first | exact (Touch.refl _ _) | exact (Touch.refl _ _).alloc _ | exact ((Touch.refl _ _).alloc _).alloc _ | exact (((Touch.refl _ _).alloc _).alloc _).alloc _ | exact (Touch.refl _ _).drewN _ | exact ((Touch.refl _ _).alloc _).drewN _ | exact (((Touch.refl _ _).alloc _).alloc _).drewN _)⟩
    | true =>
      have h25p := of_decide_eq_true h25
      cases h26 : decide (c ≤ (16 : Int)) with
      | false =>
        go_wp2_with fail
        go_ret
        exact ⟨ret_bool' _ _ (by unfold Tr.kidsOK; simp_all <;> omega), (by first | exact (Touch.refl _ _) | exact (Touch.refl _ _).alloc _ | exact ((Touch.refl _ _).alloc _).alloc _ | exact (((Touch.refl _ _).alloc _).alloc _).alloc _ | exact (Touch.refl _ _).drewN _ | exact ((Touch.refl _ _).alloc _).drewN _ | exact (((Touch.refl _ _).alloc _).alloc _).drewN _)⟩
      | true =>
        have h26p := of_decide_eq_true h26
        cases h27 : decide ((1 : Int) ≤ (n : Int)) with
        | false =>
          have h27n : decide (1 ≤ n) = false := by have hx := h27; simp only [decide_eq_false_iff_not] at hx ⊢; omega
          go_wp2_with fail
          go_ret
          exact ⟨ret_bool' _ _ (by unfold Tr.kidsOK; simp_all <;> omega), (by first | exact (Touch.refl _ _) | exact (Touch.refl _ _).alloc _ | exact ((Touch.refl _ _).alloc _).alloc _ | exact (((Touch.refl _ _).alloc _).alloc _).alloc _ | exact (Touch.refl _ _).drewN _ | exact ((Touch.refl _ _).alloc _).drewN _ | exact (((Touch.refl _ _).alloc _).alloc _).drewN _)⟩
        | true =>
          have h27p := of_decide_eq_true h27
          have h27n : decide (1 ≤ n) = true := by have hx := h27; simp only [decide_eq_true_eq] at hx ⊢; omega
          cases h28 : decide ((n : Int) ≤ (256 : Int)) with
          | false =>
            have h28n : decide (n ≤ 256) = false := by have hx := h28; simp only [decide_eq_false_iff_not] at hx ⊢; omega
            go_wp2_with fail
            go_ret
            exact ⟨ret_bool' _ _ (by unfold Tr.kidsOK; simp_all <;> omega), (by first | exact (Touch.refl _ _) | exact (Touch.refl _ _).alloc _ | exact ((Touch.refl _ _).alloc _).alloc _ | exact (((Touch.refl _ _).alloc _).alloc _).alloc _ | exact (Touch.refl _ _).drewN _ | exact ((Touch.refl _ _).alloc _).drewN _ | exact (((Touch.refl _ _).alloc _).alloc _).drewN _)⟩
          | true =>
            have h28p := of_decide_eq_true h28
            have h28n : decide (n ≤ 256) = true := by have hx := h28; simp only [decide_eq_true_eq] at hx ⊢; omega
            cases h29 : (((n : Int) % c) == (0 : Int)) with
            | false =>
              have h29m : (((n : Int) % c) != (0 : Int)) = true := by rw [bne, h29]; rfl
              go_wp2_with fail
              go_ret
              exact ⟨ret_bool' _ _ (by unfold Tr.kidsOK; simp_all <;> omega), (by first | exact (Touch.refl _ _) | exact (Touch.refl _ _).alloc _ | exact ((Touch.refl _ _).alloc _).alloc _ | exact (((Touch.refl _ _).alloc _).alloc _).alloc _ | exact (Touch.refl _ _).drewN _ | exact ((Touch.refl _ _).alloc _).drewN _ | exact (((Touch.refl _ _).alloc _).alloc _).drewN _)⟩
            | true =>
              have h29m : (((n : Int) % c) != (0 : Int)) = false := by rw [bne, h29]; rfl
              go_wp2_with fail
              go_ret
              exact ⟨ret_bool' _ _ (by unfold Tr.kidsOK; simp_all <;> omega), (by first | exact (Touch.refl _ _) | exact (Touch.refl _ _).alloc _ | exact ((Touch.refl _ _).alloc _).alloc _ | exact (((Touch.refl _ _).alloc _).alloc _).alloc _ | exact (Touch.refl _ _).drewN _ | exact ((Touch.refl _ _).alloc _).drewN _ | exact (((Touch.refl _ _).alloc _).alloc _).drewN _)⟩
end Go.Proofs.Ytilgpmpiidccjaa
