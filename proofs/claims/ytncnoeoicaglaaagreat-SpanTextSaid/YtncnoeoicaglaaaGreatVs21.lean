/- Part 21 of 42 of a proof; its texts, joined: PrZ, PrB, PrC, PrI, PrJ. No condition. -/
import Derived.Test.YtncnoeoicaglaaaGreatVs9
import Derived.Test.YtncnoeoicaglaaaGreatVs6
import Derived.Test.YtncnoeoicaglaaaGreatVs20
import Derived.Test.YtncnoeoicaglaaaGreatVs2
import Derived.Test.YtncnoeoicaglaaaGreatVs7
import Derived.Deep.RegionLaw
import Derived.Test.YtncnoeoicaglaaaGreatVs3
set_option maxRecDepth 100000
set_option maxHeartbeats 4000000
namespace Go.Proofs.YtncnoeoicaglaaaGreat
open Go.RowKit
abbrev Low (W0 w : World) : Prop := Touch (fun k => W0.heap.size ≤ k) W0 w
theorem low_no {W0 : World} {q : Addr} {v : Value} (h : W0.cell? q = some v) : ¬ W0.heap.size ≤ q.block := by
 have := bL (a := q) (v := v) h;omega
theorem Low.cell {W0 w : World} (hl : Low W0 w) {q : Addr} {v : Value} (h : W0.cell? q = some v) : w.cell? q = some v := Touch.cell hl h (low_no h)
theorem low4 {w w' : World} {a b c d : Addr} {x y z u : Value} (h : Low w w') (h0 : w.cell? a = some x) (h1 : w.cell? b = some y) (h2 : w.cell? c = some z) (h3 : w.cell? d = some u) :
  w'.cell? a = some x ∧ w'.cell? b = some y ∧ w'.cell? c = some z ∧ w'.cell? d = some u := ⟨h.cell h0, h.cell h1, h.cell h2, h.cell h3⟩
theorem Low.fresh {W0 w w' : World} (hl : Low W0 w) (hf : Fresh w w') : Low W0 w' := hl.trans' hf fun _ h => h.elim
theorem RepL.low {W0 w : World} {ks : List Tr.Nd} {v : Value} (h : RepL W0 ks v) (hl : Low W0 w) : RepL w ks v := by
 induction h with
 | nil A cap => exact .nil A cap
 | row g o cap ks sl hg hln ht h0 h1 h2 h3 hk ih =>
  exact .row g o cap ks sl (Nat.lt_of_lt_of_le hg hl.size) hln ht (fun i hi => hl.cell (h0 i hi)) (fun i hi => hl.cell (h1 i hi)) (fun i hi => hl.cell (h2 i hi)) (fun i hi => hl.cell (h3 i hi)) ih
abbrev nv (n : Tr.Nd) (sl : Value) : Value := .agg #[.int .i64 n.kind, .string ⟨n.text.toArray⟩, .int .i64 n.cols, sl]
theorem owns_type {w : World} {B e size n g : Nat} {v : Value} {xs : List Value} (h : w.ownsRow B e size v n xs) (hg : v.ownBlock = some g) : B ≤ g ∧ ∃ cur, w.heap[g]? = some (.cells cur e (0, 0)) := by
 rcases h.2 with ⟨h1, _⟩ | ⟨g', cap, cur, h1, h2, h3, _⟩
 ·rw [h1] at hg; cases hg
 ·rw [h1] at hg
  simp only [Value.ownBlock, Option.some.injEq] at hg;subst hg;exact ⟨h2, cur, h3⟩
def ptokCellsP (x : Lx.PTok) : List Value := [.int .i64 x.kind, .string ⟨x.text.toArray⟩, .int .i64 x.from_, .int .i64 x.to_]
structure Pr (w : World) (p B : Nat) (vt vb : Value) (cs : Array Value) (toks : List Lx.PTok) (txt : List UInt8) : Prop where
 lt : p < B
 bld : Bld w B p 1 83 cs vb txt
 size : cs.size = 3
 tok : cs[0]? = some vt
 own : w.ownsRow B 134 4 vt toks.length (toks.flatMap ptokCellsP)
def PS (p B : Nat) (w : World) (k : Nat) : Prop := k = p ∨ (B ≤ k ∧ ∃ cur e fr, w.heap[k]? = some (.cells cur e fr) ∧ (e = 134 ∨ e = 5))
theorem PS.trans {p B : Nat} {a b c : World} (h : Touch (PS p B a) a b) (k : Touch (PS p B b) b c) : Touch (PS p B a) a c := by
 refine ⟨k.os.trans h.os, k.tape.trans h.tape, k.output.trans h.output, Nat.le_trans h.size k.size, fun i hi hn => ?_⟩;have h1 := h.block i hi hn;refine (k.block i (Nat.lt_of_lt_of_le hi h.size) fun hs => hn ?_).trans h1
 rcases hs with hs | ⟨h2, cur, e, fr, h3, h4⟩
 ·exact .inl hs
 ·exact .inr ⟨h2, cur, e, fr, by rw [← h1]; exact h3, h4⟩
theorem PS.fresh {p B : Nat} {a b : World} (h : Fresh a b) : Touch (PS p B a) a b := h.mono fun _ h => h.elim
theorem PS.freshL {p B : Nat} {a b c : World} (h : Fresh a b) (k : Touch (PS p B b) b c) : Touch (PS p B a) a c := PS.trans (PS.fresh h) k
theorem PS.freshR {p B : Nat} {a b c : World} (h : Touch (PS p B a) a b) (k : Fresh b c) : Touch (PS p B a) a c := PS.trans h (PS.fresh k)
theorem PS.blk {p B g : Nat} {t : TypeId} {cs : Array Value} {a b : World} (h : Touch (PS p B a) a b) (hb : Blk a g t cs) (hp : g ≠ p) (h1 : t ≠ 134) (h2 : t ≠ 5) : Blk b g t cs := by
 refine h.blk hb ?_;rintro (hs | ⟨_, cur, e, fr, h3, h4⟩)
 ·exact hp hs
 ·unfold Blk at hb
  rw [hb] at h3;cases h3
  rcases h4 with h4 | h4
  ·exact h1 h4
  ·exact h2 h4
theorem PS.old {p B : Nat} {a b : World} (h : Touch (PS p B a) a b) {q : Addr} {v : Value} (hc : a.cell? q = some v) (h1 : q.block < B) (h2 : q.block ≠ p) : b.cell? q = some v := by
 refine h.cell hc ?_;rintro (hs | ⟨h3, _⟩)
 ·exact h2 hs
 ·omega
theorem Pr.fresh {w w' : World} {p B : Nat} {vt vb : Value} {cs : Array Value} {toks : List Lx.PTok} {txt : List UInt8} (h : Pr w p B vt vb cs toks txt) (hf : Fresh w w') : Pr w' p B vt vb cs toks txt :=
 ⟨h.lt, ⟨hf.blk h.bld.blk (fun h => h), h.bld.addr, h.bld.buf, ownsRow_touch h.bld.own hf (fun _ _ h => h), h.bld.ne, h.bld.nilv⟩, h.size, h.tok, ownsRow_touch h.own hf (fun _ _ h => h)⟩
theorem Pr.touch {S : Nat → Prop} {w w' : World} {p B : Nat} {vt vb : Value} {cs : Array Value} {toks : List Lx.PTok} {txt : List UInt8} (h : Pr w p B vt vb cs toks txt) (ht : Touch S w w') (h1 : ¬ S p) (h2 : ∀ k, vt.ownBlock = some k → ¬ S k) (h3 : ∀ k, vb.ownBlock = some k → ¬ S k) : Pr w' p B vt vb cs toks txt :=
 ⟨h.lt, ⟨ht.blk h.bld.blk h1, h.bld.addr, h.bld.buf, ownsRow_touch h.bld.own ht h3, h.bld.ne, h.bld.nilv⟩, h.size, h.tok, ownsRow_touch h.own ht h2⟩
theorem Pr.vt_lt {w : World} {p B : Nat} {vt vb : Value} {cs : Array Value} {toks : List Lx.PTok} {txt : List UInt8} (h : Pr w p B vt vb cs toks txt) : ∀ k, vt.ownBlock = some k → k < w.heap.size := fun k hk => by
 obtain ⟨_, cur, h2⟩ := owns_type h.own hk;exact (Array.getElem?_eq_some_iff.1 h2).1
theorem Pr.vb_ne {w : World} {p B g : Nat} {vt vb : Value} {cs : Array Value} {toks : List Lx.PTok} {txt : List UInt8} (h : Pr w p B vt vb cs toks txt) {t : TypeId} {xs : Array Value} (hb : Blk w g t xs) (ht : t ≠ 5) : vb.ownBlock ≠ some g := fun hk => by
 obtain ⟨_, cur, h2⟩ := owns_type h.bld.own hk;unfold Blk at hb;rw [hb] at h2;cases h2;exact ht rfl
theorem PS.bld {w w' : World} {p B : Nat} {vt vb : Value} {cs : Array Value} {toks : List Lx.PTok} {txt : List UInt8} (h : Pr w p B vt vb cs toks txt) (ht : Touch (fun k => k = p ∨ vb.ownBlock = some k) w w') : Touch (PS p B w) w w' :=
 ht.mono fun k hk => hk.elim .inl fun hk => by
  obtain ⟨h1, cur, h2⟩ := owns_type h.bld.own hk;exact .inr ⟨h1, cur, _, _, h2, .inr rfl⟩
theorem Pr.wrote {w w' : World} {p B : Nat} {vt vb vb' : Value} {cs : Array Value} {toks : List Lx.PTok} {txt txt' : List UInt8} (h : Pr w p B vt vb cs toks txt)
  (hb : Bld w' B p 1 83 ((cs.setIfInBounds 1 (.pointer (some ⟨p, 1, none⟩))).setIfInBounds (1 + 1) vb') vb' txt') (ht : Touch (fun k => k = p ∨ vb.ownBlock = some k) w w') :
  Pr w' p B vt vb' ((cs.setIfInBounds 1 (.pointer (some ⟨p, 1, none⟩))).setIfInBounds (1 + 1) vb') toks txt' := by
 refine ⟨h.lt, hb, by simp [h.size], ?_, ownsRow_touch h.own ht ?_⟩
 ·rw [Array.getElem?_setIfInBounds_ne (by decide), Array.getElem?_setIfInBounds_ne (by decide)]; exact h.tok
 ·intro k hk hs
  obtain ⟨h1, cur, h2⟩ := owns_type h.own hk
  rcases hs with hs | hs
  ·have := h.lt; omega
  ·obtain ⟨_, cur', h3⟩ := owns_type h.bld.own hs
   rw [h2] at h3;simp at h3
theorem liesPr : liesAt Tryz.prog Tryz.prog.depth 83 (3 / Tryz.prog.cellsOf 83) 1 81 1 = true := by kernel_rfl
theorem infoTokP : (Tryz.prog.info? 134).map (fun i => (i.zero, i.size, i.bytes)) = some (some (.agg #[.int .i64 0, .string ⟨#[]⟩, .int .i64 0, .int .i64 0]), 4, 40) := by kernel_rfl
theorem step_append_own {P : Program} {ops : Array Oper} {o : Oper} {a : Act} {w : World} {K : Act → World → Prop} {Q : Exit → Act → World → Prop} {E : Prop}
  (hg : o.guard = none) (s x : Operand) (t : TypeId) (hop : o.op = Op.call { callee := Callee.builtin Builtin.append, args := #[s, x], argTypes := #[t, t] })
  (base : Nat) (e : TypeId) (i : TypeInfo) (z : Value) (size bytes : Nat) (ht : P.underlying t = some (.slice e)) (hi : P.info? e = some i) (hz : i.zero = some z)
  (hsize : i.size = size) (hby : i.bytes = bytes) (hzs : z.cells.size = size) (hsz : 0 < size)
  (v : Value) (n : Nat) (xs : List Value) (hs : a.eval s = v) (hown : w.ownsRow base e size v n xs)
  (ad : Addr) (m c : Nat) (news : List Value) (hx : a.eval x = .slice (some ad) m c) (hl : news.length = m * size) (hnews : ∀ j u, news[j]? = some u → w.cell? (ad.add j) = some u) (h1 : ∀ u ∈ news, u.oneCell' = true)
  (h63 : n + m ≤ maxLen) (hbytes : (n + m) * bytes ≤ 140737488355328) (hbase : base ≤ w.heap.size)
  (h : ∀ v' w', w'.ownsRow base e size v' (n + m) (xs ++ news) → w.grownBy w' v.ownBlock → K (a.put o.dst v') w') :
  if Region.wanted o (yielded ops a.tmps) = true then Oper.wp P o a w K Q else E := by
 have hw : Region.wanted o (yielded ops a.tmps) = true := by simp [Region.wanted, hg]
 rw [if_pos hw];exact wp_append_own w s x t hop base e i z size bytes ht hi hz hsize hby hzs hsz v n xs hs hown ad m c news hx hl hnews h1 h63 hbytes hbase fun v' w' h2 h3 _ => h v' w' h2 h3
def joinLast (toks : List Lx.PTok) (t : Lx.Tok) : Bool := match toks.getLast? with | none => false | some x => Lx.join (Lx.tok x) t
def gap (toks : List Lx.PTok) (t : Lx.Tok) : List UInt8 := if joinLast toks t then [32] else []
def added (toks : List Lx.PTok) (txt : List UInt8) (t : Lx.Tok) : List Lx.PTok := toks ++ [⟨t.kind, t.text, (txt ++ gap toks t).length, (txt ++ gap toks t ++ Lx.spell t).length⟩]
theorem app_pr {W w' : World} {p B n : Nat} {vt vb v' : Value} {cs : Array Value} {toks : List Lx.PTok} {txt : List UInt8} {xs : List Value} {o : Obj} (h : Pr W p B vt vb cs toks txt) (ho : w'.ownsRow B 134 4 v' (n + 1) xs) (hg : ((W.alloc o).drew).grownBy w' vt.ownBlock) :
  ∃ g cap, v' = .slice (some ⟨g, 0, none⟩) (n + 1) cap ∧ w'.cell? ⟨p, 0, none⟩ = some vt ∧ w'.frozen? ⟨p, 0, none⟩ = false ∧ Hid (Touch (fun k => vt.ownBlock = some k) W w') ∧ Hid (w'.ownsRow B 134 4 v' (n + 1) xs) := by
 obtain ⟨g, cap, hv⟩ : ∃ g cap, v' = .slice (some ⟨g, 0, none⟩) (n + 1) cap := by
  rcases ho.2 with ⟨_, h0⟩ | ⟨g, cap, cur, hv, _⟩
  ·omega
  ·exact ⟨g, cap, hv⟩
 have ht : Touch (fun k => vt.ownBlock = some k) W w' := (((Touch.refl (fun k => vt.ownBlock = some k) W).alloc o).drew).grown hg (fun g hg => .inl hg)
 have hp : vt.ownBlock ≠ some p := fun e => by
  obtain ⟨h1, _⟩ := owns_type h.own e;have := h.lt;omega
 have hb := ht.blk h.bld.blk hp;exact ⟨g, cap, hv, (hb.cell 0).trans h.tok, hb.frozen 0, ht, ho⟩
theorem Pr.appended {W w' : World} {p B : Nat} {vt vb v' : Value} {cs : Array Value} {toks : List Lx.PTok} {txt : List UInt8} {x : Lx.PTok} (h : Pr W p B vt vb cs toks txt) (ht : Touch (fun k => vt.ownBlock = some k) W w')
  (ho : w'.ownsRow B 134 4 v' (toks.length + 1) (toks.flatMap ptokCellsP ++ ptokCellsP x)) : Pr (w'.setCell ⟨p, 0, none⟩ v') p B v' vb (cs.setIfInBounds 0 v') (toks ++ [x]) txt ∧ Touch (PS p B W) W (w'.setCell ⟨p, 0, none⟩ v') := by
 have hsz := h.size;have hlt := h.lt
 have hp : vt.ownBlock ≠ some p := fun e => by
  obtain ⟨h1, _⟩ := owns_type h.own e;omega
 have hv : ∀ k, v'.ownBlock = some k → k ≠ p := fun k e => by
  have := (ho.lt k e).1;omega
 have hb := ht.blk h.bld.blk hp
 have hvb : w'.ownsRow B 5 1 vb txt.length (Lib.byteCells txt) := ownsRow_touch h.bld.own ht fun k hk hs => by
  obtain ⟨_, cur, h2⟩ := owns_type h.bld.own hk;obtain ⟨_, cur', h3⟩ := owns_type h.own hs;rw [h2] at h3;simp at h3
 have hset := (Touch.refl (fun k => k = p) w').setCell (p := ⟨p, 0, none⟩) (.inl rfl) v';refine ⟨⟨hlt, ⟨hb.put 0 v', ?_, ?_, ownsRow_touch hvb hset (fun k hk hs => h.bld.ne (hs ▸ hk)), h.bld.ne, h.bld.nilv⟩, by simp [hsz], by rw [Array.getElem?_setIfInBounds_self_of_lt (by omega)], ?_⟩, ?_⟩
 ·rw [Array.getElem?_setIfInBounds_ne (by decide)]; exact h.bld.addr
 ·rw [Array.getElem?_setIfInBounds_ne (by decide)]; exact h.bld.buf
 ·have e : (toks ++ [x]).flatMap ptokCellsP = toks.flatMap ptokCellsP ++ ptokCellsP x := by simp
  rw [List.length_append, e];exact ownsRow_touch ho hset (fun k hk hs => hv k hk hs)
 ·have h1 : Touch (PS p B W) W w' := ht.mono fun k hk => by
   obtain ⟨h1, cur, h2⟩ := owns_type h.own hk;exact .inr ⟨h1, cur, _, _, h2, .inl rfl⟩
  exact h1.setCell (p := ⟨p, 0, none⟩) (.inl (.inl rfl)) v'
theorem news_of_blkP {W : World} {g : Nat} {t : TypeId} {cs : Array Value} (h : Blk W g t cs) : ∀ j u, cs.toList[j]? = some u → W.cell? ((⟨g, 0, none⟩ : Addr).add j) = some u := by
 intro j u hu;rw [Addr.add_mid, Nat.zero_add, h.cell];simpa using hu
theorem spellL_le (k : Int) (t : List UInt8) : (Lx.spellL k t).length ≤ 2 * t.length + 6 := by
 unfold Lx.spellL;have := Lx.esc_len t
 repeat' split
 ·simp [Lx.quoteL]; omega
 ·simp; omega
 ·simp; omega
 ·simp; omega
 ·omega
theorem add_first {w : World} {p B : Nat} {vt vb : Value} {cs : Array Value} {txt : List UInt8} (h : Pr w p B vt vb cs [] txt) (k : Nat) (t : List UInt8) (hB : B ≤ w.heap.size) (hl : txt.length ≤ 2000000) (ht : t.length ≤ 2000000) :
  Calls Tryz.prog 123 #[.pointer (some ⟨p, 0, none⟩), .int .i64 (k : Int), .string ⟨t.toArray⟩] w fun e w' => e = .returned (.tuple #[]) ∧
   ∃ vt' vb' cs', Pr w' p B vt' vb' cs' (added [] txt ⟨k, t⟩) (txt ++ gap [] ⟨k, t⟩ ++ Lx.spell ⟨k, t⟩) ∧ Touch (PS p B w) w w' := by
 obtain ⟨i0, hi, hz0, hz1, hz2⟩ := info_parts infoTokP;have hpt := h.bld.blk.lt
 obtain ⟨A, cap, rfl⟩ : ∃ A cap, vt = .slice A 0 cap := by
  rcases h.own.2 with ⟨h1, h2⟩ | ⟨g, cap, cur, h1, _⟩
  ·exact ⟨none, 0, h1⟩
  ·exact ⟨_, _, h1⟩
 have q0 : w.cell? ⟨p, 0, none⟩ = some (.slice A 0 cap) := (h.bld.blk.cell 0).trans h.tok;have HP := hid h;clear h;go_enter Tryz.func123, Tryz.ntmps123;go_wp2_with fail
 go_quiet (fail)
 go_wp2_with fail
 refine (bLen_any (HP.out.fresh (((Touch.refl _ w).alloc _).drewN _)).bld).mono ?_;rintro _ _ ⟨rfl, rfl⟩;go_wp2_with fail
 refine forget_world (fun W => Fresh w W ∧ Blk W w.heap.size 134 #[.int .i64 (k : Int), .string ⟨t.toArray⟩, .int .i64 (txt.length : Int), .int .i64 0]) ⟨(((Touch.refl _ w).alloc _).drewN _).setCell (.inr (Nat.le_refl _)) _, ((Blk.new w 134 _).drewN _).put 2 _⟩ ?_;rintro W4 ⟨hf4, hb4⟩;have hp4 := HP.out.fresh hf4;obtain ⟨r0, r1, r2, r3, _, _, _, _, hg4⟩ := Blk.four hb4;have g0 := cR r0;have g1 := cR r1;have g2 := cR r2;have g3 := cR r3;have C1 := hid (calmP (fun w => (spell_any k ⟨t.toArray⟩ txt.length 0 w (by show t.toArray.size ≤ _; simp; omega) : Calls Tryz.prog 147 _ w fun e w' => e = .returned (.string ⟨(Lx.spellL k t).toArray⟩) ∧ Fresh w w')) W4);have HF4 := hid hf4;have HB4 := hid hb4;have HP4 := hid hp4;clear hf4 hb4 hp4 q0;refine wp_region_segs_below [([0,1,2,3,4],5)] [] (by kernel_rfl) (by kernel_rfl) ?_;simp only [wpSegsC, pick, List.getElem?_cons_zero, List.getElem?_cons_succ]
 repeat (quiet_step (with_reducible exact C1.out _ _))
 refine wpQuiet_nil ?_;rintro W5 ⟨⟨_, _⟩, hW5⟩;have hf5 : Fresh W4 W5 := by rw [hW5]; exact fresh_of_below (below_regrown _ _ _)
 have hp5 := HP4.out.fresh hf5;have hb5 := hf5.blk HB4.out (fun h => h);have HF5 := hid hf5;clear hW5 hf5 g0 g1 g2 g3 r0 r1 r2 r3;have hsl := spellL_le k t;have hB5 : B ≤ W5.heap.size := Nat.le_trans hB (Nat.le_trans HF4.out.size HF5.out.size);have hne : w.heap.size ≠ p := by omega
 have HW6 := hid (writeString_any hp5.bld hp5.lt (by rw [hp5.size]; exact liesPr) ⟨(Lx.spellL k t).toArray⟩ (by show txt.length + (Lx.spellL k t).toArray.size ≤ _; simp; omega) hB5);have HP5 := hid hp5;have HB5 := hid hb5;clear hp5 hb5;go_wp2_with fail
 refine HW6.out.mono ?_;rintro _ w6 ⟨rfl, vb6, hb6, ht6⟩;have hp6 := HP5.out.wrote hb6 ht6;have hpt6 : Touch (PS p B w) w w6 := PS.freshL (HF4.out.trans HF5.out) (PS.bld HP5.out ht6);have hbk6 := ht6.blk HB5.out (fun hs => hs.elim (fun h => hne h) (fun h => HP5.out.vb_ne HB5.out (by decide) h));have HP6a := hid hp6;have HT6a := hid hpt6;have HB6a := hid hbk6;clear hb6 ht6 hp6 hpt6 hbk6 HW6;go_wp2_with fail
 refine wpQuiet_nil ?_;rintro W7 ⟨⟨_, _⟩, hW7⟩;have hf7 : Fresh w6 W7 := by rw [hW7]; exact fresh_of_below (below_regrown _ _ _)
 have HP6 := hid (HP6a.out.fresh hf7);have HT6 := hid (PS.freshR HT6a.out hf7);have HB6 := hid (hf7.blk HB6a.out (fun h => h));clear hW7 hf7 HP6a HT6a HB6a;go_wp2_with fail
 refine (bLen_any HP6.out.bld).mono ?_;rintro _ _ ⟨rfl, rfl⟩;obtain ⟨r0, r1, r2, r3, z0, z1, z2, z3, hg6⟩ := Blk.four HB6.out;go_wp2_with fail
 refine forget_world (fun W => ∃ cs', Pr W p B (.slice A 0 cap) vb6 cs' [] (txt ++ (Lx.spellL k t)) ∧ Blk W w.heap.size 134 #[.int .i64 (k : Int), .string ⟨t.toArray⟩, .int .i64 (txt.length : Int), .int .i64 ((txt.length : Int) + ((Lx.spellL k t).length : Int))] ∧ Touch (PS p B w) w W) ⟨_, HP6.out.touch (S := fun k => k = w.heap.size) (Touch.setCell (S := fun k => k = w.heap.size) (Touch.refl _ _) (p := ⟨w.heap.size, 3, none⟩) (.inl rfl) _) (fun h => hne h.symm) (fun k hk h => by have := HP.out.vt_lt k hk; omega) (fun k hk h => HP6.out.vb_ne HB6.out (by decide) (h ▸ hk)), HB6.out.put 3 _, HT6.out.setCell (p := ⟨w.heap.size, 3, none⟩) (.inr (Nat.le_refl _)) _⟩ ?_;rintro W8 ⟨cs8, hp8, hb8, ht8⟩;have p0 : W8.cell? ⟨p, 0, none⟩ = some (.slice A 0 cap) := (hp8.bld.blk.cell 0).trans hp8.tok;have pz : W8.frozen? ⟨p, 0, none⟩ = false := hp8.bld.blk.frozen 0;obtain ⟨s0, s1, s2, s3, _, _, _, _, hg8⟩ := Blk.four hb8;have HP8 := hid hp8;have HB8 := hid hb8;have HT8 := hid ht8;have hown8 := hid hp8.own;have hplt := hp8.bld.blk.lt;have hB8 : B ≤ W8.heap.size := by have := ht8.size; omega
 clear hp8 hb8 ht8 r0 r1 r2 r3 z0 z1 z2 z3 HP6 HB6 HT6;obtain ⟨tolen, hto⟩ : ∃ tolen : Int, (txt.length : Int) + ((Lx.spellL k t).length : Int) = tolen := ⟨_, rfl⟩;rw [hto] at s3;have hnew := hid (fun (o : Obj) (ho : o = .cells #[.int .i64 (k : Int), .string ⟨t.toArray⟩, .int .i64 (txt.length : Int), .int .i64 tolen] 134) => ho ▸ news_of_blkP (W := (W8.alloc o).drew) (g := W8.heap.size) (t := 134) (cs := #[.int .i64 (k : Int), .string ⟨t.toArray⟩, .int .i64 (txt.length : Int), .int .i64 tolen]) (ho ▸ (Blk.new W8 134 _)))
 go_region_law (refine step_append_own rfl (.tmp 56) (.tmp 58) 78 rfl B 134 i0 _ 4 40 Tryz.underlying78 hi hz0 hz1 hz2 rfl (by decide) (.slice A 0 cap) 0 [] (by simp [Act.eval]) ((hown8.out.alloc _).drew) ⟨W8.heap.size, 0, none⟩ 1 1 [.int .i64 (k : Int), .string ⟨t.toArray⟩, .int .i64 (txt.length : Int), .int .i64 tolen] (by simp [Act.eval]) rfl (hnew.out _ rfl) (by intro u hu; simp only [List.mem_cons, List.not_mem_nil, or_false] at hu; rcases hu with rfl | rfl | rfl | rfl <;> rfl) (by decide) (by decide) (by have := World.size_alloc W8; simp; omega) ?_; intro v9 w9 ho9 hg9; obtain ⟨g9, cap9, rfl, c9, z9, HT9, HO9⟩ := app_pr HP8.out ho9 hg9; clear ho9 hg9)
 all_goals
  go_end0
  obtain ⟨hpr, htc⟩ := HP8.out.appended (x := ⟨k, t, txt.length, (txt ++ Lx.spellL k t).length⟩) HT9.out (by
   have := HO9.out;rw [← hto] at this;simpa [ptokCellsP] using this)
  have e1 : txt ++ gap [] ⟨k, t⟩ ++ Lx.spell ⟨k, t⟩ = txt ++ Lx.spellL k t := by simp [gap, joinLast, Lx.spell]
  have e2 : added [] txt ⟨k, t⟩ = [] ++ [⟨k, t, txt.length, (txt ++ Lx.spellL k t).length⟩] := by
   unfold added;rw [e1];simp [gap, joinLast]
  rw [e1, e2];exact ⟨rfl, _, vb6, _, hpr, PS.trans HT8.out htc⟩
theorem toksP_cells {W : World} {B : Nat} {v : Value} {ts : List Lx.PTok} (h : W.ownsRow B 134 4 v ts.length (ts.flatMap ptokCellsP)) (i : Nat) (hi : i < ts.length) :
  ∃ g cap, v = .slice (some ⟨g, 0, none⟩) ts.length cap ∧ B ≤ g ∧ g < W.heap.size ∧ ∀ j u, (ptokCellsP ts[i])[j]? = some u → W.cell? ⟨g, 4 * i + j, none⟩ = some u := by
 rcases h.2 with ⟨_, h0⟩ | ⟨g, cap, cur, hv, hB, r⟩
 ·omega
 ·subst hv
  refine ⟨g, cap, rfl, hB, (h.lt g rfl).2, fun j u hu => ?_⟩;have hcl := h.cells (g := g) rfl (4 * i + j) u ?_
  ·rw [Addr.add_mid, Nat.zero_add] at hcl; exact hcl
  ·have hj : j < 4 := by have := (List.getElem?_eq_some_iff.1 hu).1; simpa [ptokCellsP] using this
   clear h r
   induction ts generalizing i with
   | nil => simp at hi
   | cons x l ih =>
    cases i with
    | zero => rw [List.flatMap_cons, List.getElem?_append_left (by simp [ptokCellsP]; omega)]; simpa using hu
    | succ i =>
     rw [List.flatMap_cons, List.getElem?_append_right (by simp [ptokCellsP]; omega)];have := ih i (by simpa using hi) (by simpa using hu);rw [← this]; congr 1; simp [ptokCellsP]; omega
theorem tokP_four {W W' : World} {x : Lx.PTok} {g i : Nat} (h : ∀ j u, (ptokCellsP x)[j]? = some u → W.cell? ⟨g, 4 * i + j, none⟩ = some u) (ht : Fresh W W') :
  W'.cell? ⟨g, i * 4, none⟩ = some (.int .i64 x.kind) ∧ W'.cell? ⟨g, i * 4 + 1, none⟩ = some (.string ⟨x.text.toArray⟩) ∧ W'.cell? ⟨g, i * 4 + 2, none⟩ = some (.int .i64 x.from_) ∧ W'.cell? ⟨g, i * 4 + 3, none⟩ = some (.int .i64 x.to_) := by
 rw [Nat.mul_comm i 4];exact ⟨ht.cell (h 0 _ rfl) (fun h => h), ht.cell (h 1 _ rfl) (fun h => h), ht.cell (h 2 _ rfl) (fun h => h), ht.cell (h 3 _ rfl) (fun h => h)⟩
theorem gap_of {toks : List Lx.PTok} {y : Lx.PTok} {m k : Nat} {t : List UInt8} {j : Bool} (hm : toks.length = m + 1) (hy : toks[m]? = some y) (hj : joinsL (y.kind : Int) (k : Int) (ByteArray.mk t.toArray).data.toList = j) : gap toks ⟨k, t⟩ = if j then [32] else [] := by
 have e0 : toks.getLast? = some y := by rw [List.getLast?_eq_getElem?, hm]; exact hy
 have e2 : ∀ a n : Nat, ((a : Int) == (n : Int)) = (a == n) := fun a n => by rw [Bool.eq_iff_iff]; simp; omega
 have e1 : joinLast toks ⟨k, t⟩ = j := by
  rw [← hj];unfold joinLast;rw [e0];unfold joinsL;have a1 : ((y.kind : Int) == 2) = (y.kind == 2) := e2 y.kind 2;have a2 : ((k : Int) == 2) = (k == 2) := e2 k 2;have a3 : ((y.kind : Int) == 4) = (y.kind == 4) := e2 y.kind 4;have a4 : ((k : Int) == 1) = (k == 1) := e2 k 1;rw [a1, a2, a3, a4];rfl
 unfold gap;rw [e1]
theorem add_more {w : World} {p B : Nat} {vt vb : Value} {cs : Array Value} {txt : List UInt8} {toks : List Lx.PTok} {y : Lx.PTok} {m : Nat} (hm : toks.length = m + 1) (hy : toks[m]? = some y) (h : Pr w p B vt vb cs toks txt) (k : Nat) (t : List UInt8) (hB : B ≤ w.heap.size) (hl : txt.length ≤ 2000000) (ht : t.length ≤ 2000000) (hn : m ≤ 2000000) :
  Calls Tryz.prog 123 #[.pointer (some ⟨p, 0, none⟩), .int .i64 (k : Int), .string ⟨t.toArray⟩] w fun e w' => e = .returned (.tuple #[]) ∧
   ∃ vt' vb' cs', Pr w' p B vt' vb' cs' (added toks txt ⟨k, t⟩) (txt ++ gap toks ⟨k, t⟩ ++ Lx.spell ⟨k, t⟩) ∧ Touch (PS p B w) w w' := by
 obtain ⟨i0, hi, hz0, hz1, hz2⟩ := info_parts infoTokP;have hpt := h.bld.blk.lt;obtain ⟨A, cap, hvt, hA1, hA2, hcells⟩ := toksP_cells h.own m (by omega);have ey : toks[m]'(by omega) = y := by rw [List.getElem?_eq_getElem (by omega)] at hy; simpa using hy
 rw [ey] at hcells;rw [hm] at hvt;subst hvt;have q0 : w.cell? ⟨p, 0, none⟩ = some (.slice (some ⟨A, 0, none⟩) (m + 1) cap) := (h.bld.blk.cell 0).trans h.tok;have hA : A ≠ p := by have := h.lt; omega
 have HP := hid h;have HC := hid hcells;clear h hcells;go_enter Tryz.func123, Tryz.ntmps123;go_wp2_with fail
 refine forget_world (fun W => Fresh w W ∧ Blk W w.heap.size 134 #[.int .i64 (k : Int), .string ⟨t.toArray⟩, .int .i64 0, .int .i64 0]) ⟨(((Touch.refl _ w).alloc _)), ((Blk.new w 134 _))⟩ ?_;rintro W1 ⟨hf1, hb1⟩;have q1 := hf1.cell q0 (fun h => h);obtain ⟨u0, u1, u2, u3⟩ := tokP_four (i := m) HC.out hf1;obtain ⟨r0, r1, r2, r3, _, _, _, _, hg1⟩ := Blk.four hb1;have g0 := cR r0;have g1 := cR r1;have g2 := cR r2;have g3 := cR r3;have k0 := cR u0;have k1 := cR u1;have k2 := cR u2;have k3 := cR u3;have kq := cR q1;have d1 : ((m : Int) + 1 - 1) = (m : Int) := by omega
 have d2 : IntKind.i64.wrap (m : Int) = (m : Int) := IntWalk.i64_in _ (by omega);have d3 : (m : Int) < (m : Int) + 1 := by omega
 have C1 := hid (calmP (fun w => joins_any y.kind y.from_ y.to_ k 0 0 ⟨y.text.toArray⟩ ⟨t.toArray⟩ w) W1);obtain ⟨j, hj⟩ : ∃ j, joinsL (y.kind : Int) (k : Int) (ByteArray.mk t.toArray).data.toList = j := ⟨_, rfl⟩;rw [hj] at C1;have HP1 := hid (HP.out.fresh hf1);have HF1 := hid hf1;have HB1 := hid hb1;clear hf1 hb1 q0;refine wp_region_quiet_below (by kernel_rfl) (by kernel_rfl) ?_
 repeat (quiet_step (with_reducible exact C1.out _ _))
 refine wpQuiet_nil ?_;rintro W2 ⟨⟨_, _⟩, hW2⟩;have hf2 : Fresh W1 W2 := by rw [hW2]; exact fresh_of_below (below_regrown _ _ _)
 have HP2 := hid (HP1.out.fresh hf2);have HB2 := hid (hf2.blk HB1.out (fun h => h));have HT2 := hid (PS.fresh (p := p) (B := B) (HF1.out.trans hf2));have hgap := gap_of hm hy hj;obtain ⟨txt1, htx⟩ : ∃ txt1, txt ++ gap toks ⟨k, t⟩ = txt1 := ⟨_, rfl⟩;have hB2 : B ≤ W2.heap.size := by have := HT2.out.size; omega
 have hne : w.heap.size ≠ p := by omega
 clear hW2 hf2 g0 g1 g2 g3 k0 k1 k2 k3 kq r0 r1 r2 r3 u0 u1 u2 u3 q1 hg1 C1 HP1 HB1 HF1 hj d1 d2 d3;cases j
 ·rw [hgap] at htx
  have htx' : txt = txt1 := by simpa using htx
  rw [htx'] at HP2;have hl1 : txt1.length ≤ 2000001 := by rw [← htx']; omega
  have HPa := HP2;have HBa := HB2;have HTa := HT2;obtain ⟨Wa, hWa⟩ : ∃ Wa, W2 = Wa := ⟨_, rfl⟩;subst hWa;obtain ⟨vba, hva⟩ : ∃ v, vb = v := ⟨_, rfl⟩;subst hva;go_wp2_with fail
  refine (bLen_any HPa.out.bld).mono ?_;rintro _ _ ⟨rfl, rfl⟩;obtain ⟨r0, r1, r2, r3, z0, z1, z2, z3, hg2⟩ := Blk.four HBa.out;go_wp2_with fail
  refine forget_world (fun W => ∃ cs', Pr W p B (.slice (some ⟨A, 0, none⟩) (m + 1) cap) vb cs' toks txt1 ∧ Blk W w.heap.size 134 #[.int .i64 (k : Int), .string ⟨t.toArray⟩, .int .i64 (txt1.length : Int), .int .i64 0] ∧ Touch (PS p B w) w W) ⟨_, HPa.out.touch (S := fun k => k = w.heap.size) (Touch.setCell (S := fun k => k = w.heap.size) (Touch.refl _ _) (p := ⟨w.heap.size, 2, none⟩) (.inl rfl) _) (fun h => hne h.symm) (fun k hk h => by simp [Value.ownBlock] at hk; omega) (fun k hk h => HPa.out.vb_ne HBa.out (by decide) (h ▸ hk)), HBa.out.put 2 _, HTa.out.setCell (p := ⟨w.heap.size, 2, none⟩) (.inr (Nat.le_refl _)) _⟩ ?_;rintro W4 ⟨cs4, hp4, hb4, ht4⟩;clear r0 r1 r2 r3 z0 z1 z2 z3;obtain ⟨r0, r1, r2, r3, _, _, _, _, hg4⟩ := Blk.four hb4;have g0 := cR r0;have g1 := cR r1;have g2 := cR r2;have g3 := cR r3;have C1 := hid (calmP (fun w => (spell_any k ⟨t.toArray⟩ txt1.length 0 w (by show t.toArray.size ≤ _; simp; omega) : Calls Tryz.prog 147 _ w fun e w' => e = .returned (.string ⟨(Lx.spellL k t).toArray⟩) ∧ Fresh w w')) W4);have HT4 := hid ht4;have HB4 := hid hb4;have HP4 := hid hp4;clear ht4 hb4 hp4;refine wp_region_segs_below [([0,1,2,3,4],5)] [] (by kernel_rfl) (by kernel_rfl) ?_;simp only [wpSegsC, pick, List.getElem?_cons_zero, List.getElem?_cons_succ]
  repeat (quiet_step (with_reducible exact C1.out _ _))
  refine wpQuiet_nil ?_;rintro W5 ⟨⟨_, _⟩, hW5⟩;have hf5 : Fresh W4 W5 := by rw [hW5]; exact fresh_of_below (below_regrown _ _ _)
  have hp5 := HP4.out.fresh hf5;have hb5 := hf5.blk HB4.out (fun h => h);have ht5 := PS.freshR HT4.out hf5;clear hW5 hf5 g0 g1 g2 g3 r0 r1 r2 r3;have hsl := spellL_le k t;have hB5 : B ≤ W5.heap.size := Nat.le_trans hB ht5.size;have HW6 := hid (writeString_any hp5.bld hp5.lt (by rw [hp5.size]; exact liesPr) ⟨(Lx.spellL k t).toArray⟩ (by show txt1.length + (Lx.spellL k t).toArray.size ≤ _; simp; omega) hB5);have HP5 := hid hp5;have HB5 := hid hb5;have HT5 := hid ht5;clear hp5 hb5 ht5;go_wp2_with fail
  refine HW6.out.mono ?_;rintro _ w6 ⟨rfl, vb6, hb6, ht6⟩;have hp6 := HP5.out.wrote hb6 ht6;have hpt6 : Touch (PS p B w) w w6 := PS.trans HT5.out (PS.bld HP5.out ht6);have hbk6 := ht6.blk HB5.out (fun hs => hs.elim (fun h => hne h) (fun h => HP5.out.vb_ne HB5.out (by decide) h));have HP6a := hid hp6;have HT6a := hid hpt6;have HB6a := hid hbk6;clear hb6 ht6 hp6 hpt6 hbk6 HW6;go_wp2_with fail
  refine wpQuiet_nil ?_;rintro W7 ⟨⟨_, _⟩, hW7⟩;have hf7 : Fresh w6 W7 := by rw [hW7]; exact fresh_of_below (below_regrown _ _ _)
  have HP6 := hid (HP6a.out.fresh hf7);have HT6 := hid (PS.freshR HT6a.out hf7);have HB6 := hid (hf7.blk HB6a.out (fun h => h));clear hW7 hf7 HP6a HT6a HB6a;go_wp2_with fail
  refine (bLen_any HP6.out.bld).mono ?_;rintro _ _ ⟨rfl, rfl⟩;obtain ⟨r0, r1, r2, r3, z0, z1, z2, z3, hg6⟩ := Blk.four HB6.out;go_wp2_with fail
  refine forget_world (fun W => ∃ cs', Pr W p B (.slice (some ⟨A, 0, none⟩) (m + 1) cap) vb6 cs' toks (txt1 ++ (Lx.spellL k t)) ∧ Blk W w.heap.size 134 #[.int .i64 (k : Int), .string ⟨t.toArray⟩, .int .i64 (txt1.length : Int), .int .i64 ((txt1.length : Int) + ((Lx.spellL k t).length : Int))] ∧ Touch (PS p B w) w W) ⟨_, HP6.out.touch (S := fun k => k = w.heap.size) (Touch.setCell (S := fun k => k = w.heap.size) (Touch.refl _ _) (p := ⟨w.heap.size, 3, none⟩) (.inl rfl) _) (fun h => hne h.symm) (fun k hk h => by simp [Value.ownBlock] at hk; omega) (fun k hk h => HP6.out.vb_ne HB6.out (by decide) (h ▸ hk)), HB6.out.put 3 _, HT6.out.setCell (p := ⟨w.heap.size, 3, none⟩) (.inr (Nat.le_refl _)) _⟩ ?_;rintro W8 ⟨cs8, hp8, hb8, ht8⟩;have p0 : W8.cell? ⟨p, 0, none⟩ = some (.slice (some ⟨A, 0, none⟩) (m + 1) cap) := (hp8.bld.blk.cell 0).trans hp8.tok;have pz : W8.frozen? ⟨p, 0, none⟩ = false := hp8.bld.blk.frozen 0;obtain ⟨s0, s1, s2, s3, _, _, _, _, hg8⟩ := Blk.four hb8;have HP8 := hid hp8;have HB8 := hid hb8;have HT8 := hid ht8;have hown8 := hid (hm ▸ hp8.own : W8.ownsRow B 134 4 _ (m + 1) _);have hplt := hp8.bld.blk.lt;have hB8 : B ≤ W8.heap.size := by have := ht8.size; omega
  clear hp8 hb8 ht8 r0 r1 r2 r3 z0 z1 z2 z3 HP6 HB6 HT6;obtain ⟨tolen, hto⟩ : ∃ tolen : Int, (txt1.length : Int) + ((Lx.spellL k t).length : Int) = tolen := ⟨_, rfl⟩;rw [hto] at s3;have hnew := hid (fun (o : Obj) (ho : o = .cells #[.int .i64 (k : Int), .string ⟨t.toArray⟩, .int .i64 (txt1.length : Int), .int .i64 tolen] 134) => ho ▸ news_of_blkP (W := (W8.alloc o).drew) (g := W8.heap.size) (t := 134) (cs := #[.int .i64 (k : Int), .string ⟨t.toArray⟩, .int .i64 (txt1.length : Int), .int .i64 tolen]) (ho ▸ (Blk.new W8 134 _)));have hmx : maxLen = 9223372036854775807 := rfl
  go_region_law (refine step_append_own rfl (.tmp 56) (.tmp 58) 78 rfl B 134 i0 _ 4 40 Tryz.underlying78 hi hz0 hz1 hz2 rfl (by decide) (.slice (some ⟨A, 0, none⟩) (m + 1) cap) (m + 1) _ (by simp [Act.eval]) ((hown8.out.alloc _).drew) ⟨W8.heap.size, 0, none⟩ 1 1 [.int .i64 (k : Int), .string ⟨t.toArray⟩, .int .i64 (txt1.length : Int), .int .i64 tolen] (by simp [Act.eval]) rfl (hnew.out _ rfl) (by intro u hu; simp only [List.mem_cons, List.not_mem_nil, or_false] at hu; rcases hu with rfl | rfl | rfl | rfl <;> rfl) (by omega) (by omega) (by have := World.size_alloc W8; simp; omega) ?_; intro v9 w9 ho9 hg9; obtain ⟨g9, cap9, rfl, c9, z9, HT9, HO9⟩ := app_pr HP8.out ho9 hg9; clear ho9 hg9)
  all_goals
   go_end0
   obtain ⟨hpr, htc⟩ := HP8.out.appended (x := ⟨k, t, txt1.length, (txt1 ++ Lx.spellL k t).length⟩) HT9.out (by
    have := HO9.out;rw [← hto] at this;rw [hm];simpa [ptokCellsP] using this)
   unfold added;rw [hgap];rw [htx];exact ⟨rfl, _, vb6, _, hpr, PS.trans HT8.out htc⟩
 ·rw [hgap] at htx
  have htx' : txt ++ [32] = txt1 := by simpa using htx
  have hl1 : txt1.length ≤ 2000001 := by rw [← htx']; simp; omega
  have HWB := hid (writeByte_any HP2.out.bld (by rw [HP2.out.size]; exact liesPr) 32 32 rfl (by omega) hB2);go_wp2_with fail
  refine HWB.out.mono ?_;rintro _ W3 ⟨rfl, vb3, hb3, ht3⟩;have hp3 := HP2.out.wrote hb3 ht3;rw [htx'] at hp3;have HPa := hid hp3;have HTa := hid (PS.trans HT2.out (PS.bld HP2.out ht3));have HBa := hid (ht3.blk HB2.out (fun hs => hs.elim (fun h => hne h) (fun h => HP2.out.vb_ne HB2.out (by decide) h)));clear hb3 ht3 hp3 HWB HP2 HB2 HT2;go_wp2_with fail
  refine (bLen_any HPa.out.bld).mono ?_;rintro _ _ ⟨rfl, rfl⟩;obtain ⟨r0, r1, r2, r3, z0, z1, z2, z3, hg2⟩ := Blk.four HBa.out;go_wp2_with fail
  refine forget_world (fun W => ∃ cs', Pr W p B (.slice (some ⟨A, 0, none⟩) (m + 1) cap) vb3 cs' toks txt1 ∧ Blk W w.heap.size 134 #[.int .i64 (k : Int), .string ⟨t.toArray⟩, .int .i64 (txt1.length : Int), .int .i64 0] ∧ Touch (PS p B w) w W) ⟨_, HPa.out.touch (S := fun k => k = w.heap.size) (Touch.setCell (S := fun k => k = w.heap.size) (Touch.refl _ _) (p := ⟨w.heap.size, 2, none⟩) (.inl rfl) _) (fun h => hne h.symm) (fun k hk h => by simp [Value.ownBlock] at hk; omega) (fun k hk h => HPa.out.vb_ne HBa.out (by decide) (h ▸ hk)), HBa.out.put 2 _, HTa.out.setCell (p := ⟨w.heap.size, 2, none⟩) (.inr (Nat.le_refl _)) _⟩ ?_;rintro W4 ⟨cs4, hp4, hb4, ht4⟩;clear r0 r1 r2 r3 z0 z1 z2 z3;obtain ⟨r0, r1, r2, r3, _, _, _, _, hg4⟩ := Blk.four hb4;have g0 := cR r0;have g1 := cR r1;have g2 := cR r2;have g3 := cR r3;have C1 := hid (calmP (fun w => (spell_any k ⟨t.toArray⟩ txt1.length 0 w (by show t.toArray.size ≤ _; simp; omega) : Calls Tryz.prog 147 _ w fun e w' => e = .returned (.string ⟨(Lx.spellL k t).toArray⟩) ∧ Fresh w w')) W4);have HT4 := hid ht4;have HB4 := hid hb4;have HP4 := hid hp4;clear ht4 hb4 hp4;refine wp_region_segs_below [([0,1,2,3,4],5)] [] (by kernel_rfl) (by kernel_rfl) ?_;simp only [wpSegsC, pick, List.getElem?_cons_zero, List.getElem?_cons_succ]
  repeat (quiet_step (with_reducible exact C1.out _ _))
  refine wpQuiet_nil ?_;rintro W5 ⟨⟨_, _⟩, hW5⟩;have hf5 : Fresh W4 W5 := by rw [hW5]; exact fresh_of_below (below_regrown _ _ _)
  have hp5 := HP4.out.fresh hf5;have hb5 := hf5.blk HB4.out (fun h => h);have ht5 := PS.freshR HT4.out hf5;clear hW5 hf5 g0 g1 g2 g3 r0 r1 r2 r3;have hsl := spellL_le k t;have hB5 : B ≤ W5.heap.size := Nat.le_trans hB ht5.size;have HW6 := hid (writeString_any hp5.bld hp5.lt (by rw [hp5.size]; exact liesPr) ⟨(Lx.spellL k t).toArray⟩ (by show txt1.length + (Lx.spellL k t).toArray.size ≤ _; simp; omega) hB5);have HP5 := hid hp5;have HB5 := hid hb5;have HT5 := hid ht5;clear hp5 hb5 ht5;go_wp2_with fail
  refine HW6.out.mono ?_;rintro _ w6 ⟨rfl, vb6, hb6, ht6⟩;have hp6 := HP5.out.wrote hb6 ht6;have hpt6 : Touch (PS p B w) w w6 := PS.trans HT5.out (PS.bld HP5.out ht6);have hbk6 := ht6.blk HB5.out (fun hs => hs.elim (fun h => hne h) (fun h => HP5.out.vb_ne HB5.out (by decide) h));have HP6a := hid hp6;have HT6a := hid hpt6;have HB6a := hid hbk6;clear hb6 ht6 hp6 hpt6 hbk6 HW6;go_wp2_with fail
  refine wpQuiet_nil ?_;rintro W7 ⟨⟨_, _⟩, hW7⟩;have hf7 : Fresh w6 W7 := by rw [hW7]; exact fresh_of_below (below_regrown _ _ _)
  have HP6 := hid (HP6a.out.fresh hf7);have HT6 := hid (PS.freshR HT6a.out hf7);have HB6 := hid (hf7.blk HB6a.out (fun h => h));clear hW7 hf7 HP6a HT6a HB6a;go_wp2_with fail
  refine (bLen_any HP6.out.bld).mono ?_;rintro _ _ ⟨rfl, rfl⟩;obtain ⟨r0, r1, r2, r3, z0, z1, z2, z3, hg6⟩ := Blk.four HB6.out;go_wp2_with fail
  refine forget_world (fun W => ∃ cs', Pr W p B (.slice (some ⟨A, 0, none⟩) (m + 1) cap) vb6 cs' toks (txt1 ++ (Lx.spellL k t)) ∧ Blk W w.heap.size 134 #[.int .i64 (k : Int), .string ⟨t.toArray⟩, .int .i64 (txt1.length : Int), .int .i64 ((txt1.length : Int) + ((Lx.spellL k t).length : Int))] ∧ Touch (PS p B w) w W) ⟨_, HP6.out.touch (S := fun k => k = w.heap.size) (Touch.setCell (S := fun k => k = w.heap.size) (Touch.refl _ _) (p := ⟨w.heap.size, 3, none⟩) (.inl rfl) _) (fun h => hne h.symm) (fun k hk h => by simp [Value.ownBlock] at hk; omega) (fun k hk h => HP6.out.vb_ne HB6.out (by decide) (h ▸ hk)), HB6.out.put 3 _, HT6.out.setCell (p := ⟨w.heap.size, 3, none⟩) (.inr (Nat.le_refl _)) _⟩ ?_;rintro W8 ⟨cs8, hp8, hb8, ht8⟩;have p0 : W8.cell? ⟨p, 0, none⟩ = some (.slice (some ⟨A, 0, none⟩) (m + 1) cap) := (hp8.bld.blk.cell 0).trans hp8.tok;have pz : W8.frozen? ⟨p, 0, none⟩ = false := hp8.bld.blk.frozen 0;obtain ⟨s0, s1, s2, s3, _, _, _, _, hg8⟩ := Blk.four hb8;have HP8 := hid hp8;have HB8 := hid hb8;have HT8 := hid ht8;have hown8 := hid (hm ▸ hp8.own : W8.ownsRow B 134 4 _ (m + 1) _);have hplt := hp8.bld.blk.lt;have hB8 : B ≤ W8.heap.size := by have := ht8.size; omega
  clear hp8 hb8 ht8 r0 r1 r2 r3 z0 z1 z2 z3 HP6 HB6 HT6;obtain ⟨tolen, hto⟩ : ∃ tolen : Int, (txt1.length : Int) + ((Lx.spellL k t).length : Int) = tolen := ⟨_, rfl⟩;rw [hto] at s3;have hnew := hid (fun (o : Obj) (ho : o = .cells #[.int .i64 (k : Int), .string ⟨t.toArray⟩, .int .i64 (txt1.length : Int), .int .i64 tolen] 134) => ho ▸ news_of_blkP (W := (W8.alloc o).drew) (g := W8.heap.size) (t := 134) (cs := #[.int .i64 (k : Int), .string ⟨t.toArray⟩, .int .i64 (txt1.length : Int), .int .i64 tolen]) (ho ▸ (Blk.new W8 134 _)));have hmx : maxLen = 9223372036854775807 := rfl
  go_region_law (refine step_append_own rfl (.tmp 56) (.tmp 58) 78 rfl B 134 i0 _ 4 40 Tryz.underlying78 hi hz0 hz1 hz2 rfl (by decide) (.slice (some ⟨A, 0, none⟩) (m + 1) cap) (m + 1) _ (by simp [Act.eval]) ((hown8.out.alloc _).drew) ⟨W8.heap.size, 0, none⟩ 1 1 [.int .i64 (k : Int), .string ⟨t.toArray⟩, .int .i64 (txt1.length : Int), .int .i64 tolen] (by simp [Act.eval]) rfl (hnew.out _ rfl) (by intro u hu; simp only [List.mem_cons, List.not_mem_nil, or_false] at hu; rcases hu with rfl | rfl | rfl | rfl <;> rfl) (by omega) (by omega) (by have := World.size_alloc W8; simp; omega) ?_; intro v9 w9 ho9 hg9; obtain ⟨g9, cap9, rfl, c9, z9, HT9, HO9⟩ := app_pr HP8.out ho9 hg9; clear ho9 hg9)
  all_goals
   go_end0
   obtain ⟨hpr, htc⟩ := HP8.out.appended (x := ⟨k, t, txt1.length, (txt1 ++ Lx.spellL k t).length⟩) HT9.out (by
    have := HO9.out;rw [← hto] at this;rw [hm];simpa [ptokCellsP] using this)
   unfold added;rw [hgap];rw [htx];exact ⟨rfl, _, vb6, _, hpr, PS.trans HT8.out htc⟩
theorem add_any {w : World} {p B : Nat} {vt vb : Value} {cs : Array Value} {txt : List UInt8} {toks : List Lx.PTok} (h : Pr w p B vt vb cs toks txt) (k : Nat) (t : List UInt8) (hB : B ≤ w.heap.size) (hl : txt.length ≤ 2000000) (ht : t.length ≤ 2000000) (hn : toks.length ≤ 2000000) :
  Calls Tryz.prog 123 #[.pointer (some ⟨p, 0, none⟩), .int .i64 (k : Int), .string ⟨t.toArray⟩] w fun e w' => e = .returned (.tuple #[]) ∧
   ∃ vt' vb' cs', Pr w' p B vt' vb' cs' (added toks txt ⟨k, t⟩) (txt ++ gap toks ⟨k, t⟩ ++ Lx.spell ⟨k, t⟩) ∧ Touch (PS p B w) w w' := by
 cases he : toks.length with
 | zero =>
  have e0 : toks = [] := List.length_eq_zero_iff.1 he;subst e0;exact add_first h k t hB hl ht
 | succ m =>
  have hlt : m < toks.length := by omega
  exact add_more he (List.getElem?_eq_getElem hlt) h k t hB hl ht (by omega)
end Go.Proofs.YtncnoeoicaglaaaGreat
namespace Go.Proofs.YtncnoeoicaglaaaGreat
def adds : List Lx.Tok → List Lx.PTok → List UInt8 → List Lx.PTok × List UInt8
 | [], toks, txt => (toks, txt)
 | t :: l, toks, txt => adds l (added toks txt t) (txt ++ gap toks t ++ Lx.spell t)
theorem adds_app : ∀ (l m : List Lx.Tok) (toks : List Lx.PTok) (txt : List UInt8), adds (l ++ m) toks txt = adds m (adds l toks txt).1 (adds l toks txt).2
 | [], _, _, _ => rfl
 | t :: l, m, toks, txt => by
  show adds (l ++ m) _ _ = _;rw [adds_app l m];rfl
theorem adds_eq : ∀ (l : List Lx.Tok) (toks : List Lx.PTok) (txt : List UInt8), adds l toks txt = (toks ++ Lx.placed txt.length (Tr.sepd (toks.getLast?.map Lx.tok) l), txt ++ Lx.flat (Tr.sepd (toks.getLast?.map Lx.tok) l))
 | [], toks, txt => by simp [adds, Tr.sepd, Lx.placed, Lx.flat]
 | t :: l, toks, txt => by
  have hs : Tr.sepd (toks.getLast?.map Lx.tok) (t :: l) = (gap toks t, t) :: Tr.sepd (some t) l := by
   unfold gap joinLast;cases toks.getLast? <;> rfl
  have e1 : (added toks txt t).getLast?.map Lx.tok = some t := by simp [added, Lx.tok]
  show adds l (added toks txt t) (txt ++ gap toks t ++ Lx.spell t) = _;rw [adds_eq l, e1, hs];simp [added, Lx.placed, Lx.flat, Nat.add_assoc]
theorem adds_wtext (l : List Lx.Tok) : adds l [] [] = (Lx.placed 0 (Tr.sepd none l), Tr.wtext l) := by
 rw [adds_eq];rfl
end Go.Proofs.YtncnoeoicaglaaaGreat
