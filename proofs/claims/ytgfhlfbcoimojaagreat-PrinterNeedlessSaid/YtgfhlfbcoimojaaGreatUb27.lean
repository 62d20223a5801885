/- Part 27 of 53 of a proof; its texts, joined: PrA, PrB, PrC. No condition. -/
import Derived.Test.YtgfhlfbcoimojaaGreatUb18
import Derived.Test.YtgfhlfbcoimojaaGreatUb3
import Derived.Test.YtgfhlfbcoimojaaGreatUb13
import Derived.Test.YtgfhlfbcoimojaaGreatUb14
import Derived.Test.YtgfhlfbcoimojaaGreatUb16
import Derived.Deep.RegionLaw

/- The walk of printer.visitors. -/
namespace Go.Proofs.YtgfhlfbcoimojaaGreat
open Go.RowKit
attribute [local go_sem] Oper.semAt_some
def visitCells : Array Value := #[.nilFunc, .nilFunc, .func (.func 96) #[] #[], .func (.func 97) #[] #[], .func (.func 98) #[] #[], .func (.func 99) #[] #[], .func (.func 100) #[] #[], .func (.func 101) #[] #[], .func (.func 101) #[] #[], .func (.func 101) #[] #[], .func (.func 102) #[] #[], .func (.func 103) #[] #[], .func (.func 104) #[] #[]]
def zeroVisits : Array Value := #[.nilFunc, .nilFunc, .nilFunc, .nilFunc, .nilFunc, .nilFunc, .nilFunc, .nilFunc, .nilFunc, .nilFunc, .nilFunc, .nilFunc, .nilFunc]
theorem zeroVisits_run (w : World) : (zeroValue 119).run Tryz.prog w = .ok (.agg zeroVisits) w := by kernel_rfl
theorem built_visits : Tryz.prog.built 119 [(2, .func (.func 96) #[] #[]), (3, .func (.func 97) #[] #[]), (4, .func (.func 98) #[] #[]), (5, .func (.func 99) #[] #[]), (6, .func (.func 100) #[] #[]), (7, .func (.func 101) #[] #[]), (8, .func (.func 101) #[] #[]), (9, .func (.func 101) #[] #[]), (10, .func (.func 102) #[] #[]), (11, .func (.func 103) #[] #[]), (12, .func (.func 104) #[] #[])] = some visitCells := by kernel_rfl
theorem infoVisits : (Tryz.prog.info? 119).map (·.size) = some 13 := by kernel_rfl
theorem visitCells_one : visitCells.all (·.oneCell') = true := by kernel_rfl
set_option maxRecDepth 100000 in
set_option maxHeartbeats 1000000 in
theorem visitors_any (w : World) :
  Calls Tryz.prog 65 #[] w fun e w' => e = .returned (.agg visitCells) ∧ Fresh w w' := by
 have hz := zeroVisits_run
 go_enter Tryz.func65, Tryz.ntmps65
 go_wp2_with (first
  | (refine wpList_build_kind _ built_visits _ rfl rfl rfl (.agg visitCells) rfl ?_)
  | (refine wpList_store_row rfl 119 _ _ rfl w.heap.size visitCells rfl rfl 119 zeroVisits (Blk.new _ _ _) infoVisits rfl visitCells_one ?_))
 refine bodyPost_ret (results_cell_row (fn := Tryz.f65) (p := 0) rfl _ _ w.heap.size 119 visitCells (0, 0) _ rfl (setRow_heap _ _ _ _ _ _ (Blk.new _ _ _)) Tryz.underlying119 rfl infoVisits) rfl ?_
 exact ⟨rfl, ((Touch.refl _ w).alloc _).setRow (.inr (Nat.le_refl _)) _⟩
end Go.Proofs.YtgfhlfbcoimojaaGreat

/- The printer in memory. -/
namespace Go.Proofs.YtgfhlfbcoimojaaGreat
open Go.RowKit
def ptokCellsP (x : Lx.PTok) : List Value := [.int .i64 x.kind, .string ⟨x.text.toArray⟩, .int .i64 x.from_, .int .i64 x.to_]
structure Pr (w : World) (p B : Nat) (vt vb : Value) (cs : Array Value) (toks : List Lx.PTok) (txt : List UInt8) : Prop where
 lt : p < B
 bld : Bld w B p 1 77 cs vb txt
 size : cs.size = 3
 tok : cs[0]? = some vt
 own : w.ownsRow B 139 4 vt toks.length (toks.flatMap ptokCellsP)
def PS (p B : Nat) (w : World) (k : Nat) : Prop := k = p ∨ (B ≤ k ∧ ∃ cur e fr, w.heap[k]? = some (.cells cur e fr) ∧ (e = 139 ∨ e = 5))
theorem PS.trans {p B : Nat} {a b c : World} (h : Touch (PS p B a) a b) (k : Touch (PS p B b) b c) : Touch (PS p B a) a c := by
 refine ⟨k.os.trans h.os, k.tape.trans h.tape, k.output.trans h.output, Nat.le_trans h.size k.size, fun i hi hn => ?_⟩
 have h1 := h.block i hi hn
 refine (k.block i (Nat.lt_of_lt_of_le hi h.size) fun hs => hn ?_).trans h1
 rcases hs with hs | ⟨h2, cur, e, fr, h3, h4⟩
 ·exact .inl hs
 ·exact .inr ⟨h2, cur, e, fr, by rw [← h1]; exact h3, h4⟩
theorem PS.fresh {p B : Nat} {a b : World} (h : Fresh a b) : Touch (PS p B a) a b := h.mono fun _ h => h.elim
theorem PS.freshL {p B : Nat} {a b c : World} (h : Fresh a b) (k : Touch (PS p B b) b c) : Touch (PS p B a) a c := PS.trans (PS.fresh h) k
theorem PS.freshR {p B : Nat} {a b c : World} (h : Touch (PS p B a) a b) (k : Fresh b c) : Touch (PS p B a) a c := PS.trans h (PS.fresh k)
theorem owns_type {w : World} {B e size n g : Nat} {v : Value} {xs : List Value} (h : w.ownsRow B e size v n xs) (hg : v.ownBlock = some g) : B ≤ g ∧ ∃ cur, w.heap[g]? = some (.cells cur e (0, 0)) := by
 rcases h.2 with ⟨h1, _⟩ | ⟨g', cap, cur, h1, h2, h3, _⟩
 ·rw [h1] at hg; cases hg
 ·rw [h1] at hg
  simp only [Value.ownBlock, Option.some.injEq] at hg
  subst hg
  exact ⟨h2, cur, h3⟩
theorem PS.blk {p B g : Nat} {t : TypeId} {cs : Array Value} {a b : World} (h : Touch (PS p B a) a b) (hb : Blk a g t cs) (hp : g ≠ p) (h1 : t ≠ 139) (h2 : t ≠ 5) : Blk b g t cs := by
 refine h.blk hb ?_
 rintro (hs | ⟨_, cur, e, fr, h3, h4⟩)
 ·exact hp hs
 ·unfold Blk at hb
  rw [hb] at h3
  cases h3
  rcases h4 with h4 | h4
  ·exact h1 h4
  ·exact h2 h4
theorem PS.old {p B : Nat} {a b : World} (h : Touch (PS p B a) a b) {q : Addr} {v : Value} (hc : a.cell? q = some v) (h1 : q.block < B) (h2 : q.block ≠ p) : b.cell? q = some v := by
 refine h.cell hc ?_
 rintro (hs | ⟨h3, _⟩)
 ·exact h2 hs
 ·omega
theorem Pr.fresh {w w' : World} {p B : Nat} {vt vb : Value} {cs : Array Value} {toks : List Lx.PTok} {txt : List UInt8} (h : Pr w p B vt vb cs toks txt) (hf : Fresh w w') : Pr w' p B vt vb cs toks txt :=
 ⟨h.lt, ⟨hf.blk h.bld.blk (fun h => h), h.bld.addr, h.bld.buf, ownsRow_touch h.bld.own hf (fun _ _ h => h), h.bld.ne, h.bld.nilv⟩, h.size, h.tok, ownsRow_touch h.own hf (fun _ _ h => h)⟩
theorem Pr.touch {S : Nat → Prop} {w w' : World} {p B : Nat} {vt vb : Value} {cs : Array Value} {toks : List Lx.PTok} {txt : List UInt8} (h : Pr w p B vt vb cs toks txt) (ht : Touch S w w') (h1 : ¬ S p) (h2 : ∀ k, vt.ownBlock = some k → ¬ S k) (h3 : ∀ k, vb.ownBlock = some k → ¬ S k) : Pr w' p B vt vb cs toks txt :=
 ⟨h.lt, ⟨ht.blk h.bld.blk h1, h.bld.addr, h.bld.buf, ownsRow_touch h.bld.own ht h3, h.bld.ne, h.bld.nilv⟩, h.size, h.tok, ownsRow_touch h.own ht h2⟩
theorem Pr.vt_lt {w : World} {p B : Nat} {vt vb : Value} {cs : Array Value} {toks : List Lx.PTok} {txt : List UInt8} (h : Pr w p B vt vb cs toks txt) : ∀ k, vt.ownBlock = some k → k < w.heap.size := fun k hk => by
 obtain ⟨_, cur, h2⟩ := owns_type h.own hk
 exact (Array.getElem?_eq_some_iff.1 h2).1
theorem Pr.vb_lt {w : World} {p B : Nat} {vt vb : Value} {cs : Array Value} {toks : List Lx.PTok} {txt : List UInt8} (h : Pr w p B vt vb cs toks txt) : ∀ k, vb.ownBlock = some k → k < w.heap.size := fun k hk => by
 obtain ⟨_, cur, h2⟩ := owns_type h.bld.own hk
 exact (Array.getElem?_eq_some_iff.1 h2).1
theorem Pr.vb_ne {w : World} {p B g : Nat} {vt vb : Value} {cs : Array Value} {toks : List Lx.PTok} {txt : List UInt8} (h : Pr w p B vt vb cs toks txt) {t : TypeId} {xs : Array Value} (hb : Blk w g t xs) (ht : t ≠ 5) : vb.ownBlock ≠ some g := fun hk => by
 obtain ⟨_, cur, h2⟩ := owns_type h.bld.own hk
 unfold Blk at hb
 rw [hb] at h2
 cases h2
 exact ht rfl
theorem PS.bld {w w' : World} {p B : Nat} {vt vb : Value} {cs : Array Value} {toks : List Lx.PTok} {txt : List UInt8} (h : Pr w p B vt vb cs toks txt) (ht : Touch (fun k => k = p ∨ vb.ownBlock = some k) w w') : Touch (PS p B w) w w' :=
 ht.mono fun k hk => hk.elim .inl fun hk => by
  obtain ⟨h1, cur, h2⟩ := owns_type h.bld.own hk
  exact .inr ⟨h1, cur, _, _, h2, .inr rfl⟩
theorem Pr.wrote {w w' : World} {p B : Nat} {vt vb vb' : Value} {cs : Array Value} {toks : List Lx.PTok} {txt txt' : List UInt8} (h : Pr w p B vt vb cs toks txt)
  (hb : Bld w' B p 1 77 ((cs.setIfInBounds 1 (.pointer (some ⟨p, 1, none⟩))).setIfInBounds (1 + 1) vb') vb' txt') (ht : Touch (fun k => k = p ∨ vb.ownBlock = some k) w w') :
  Pr w' p B vt vb' ((cs.setIfInBounds 1 (.pointer (some ⟨p, 1, none⟩))).setIfInBounds (1 + 1) vb') toks txt' := by
 refine ⟨h.lt, hb, by simp [h.size], ?_, ownsRow_touch h.own ht ?_⟩
 ·rw [Array.getElem?_setIfInBounds_ne (by decide), Array.getElem?_setIfInBounds_ne (by decide)]; exact h.tok
 ·intro k hk hs
  obtain ⟨h1, cur, h2⟩ := owns_type h.own hk
  rcases hs with hs | hs
  ·have := h.lt; omega
  ·obtain ⟨_, cur', h3⟩ := owns_type h.bld.own hs
   rw [h2] at h3
   simp at h3
end Go.Proofs.YtgfhlfbcoimojaaGreat

/- The walk of printer.add. -/
namespace Go.Proofs.YtgfhlfbcoimojaaGreat
open Go.RowKit
theorem liesPr : liesAt Tryz.prog Tryz.prog.depth 77 (3 / Tryz.prog.cellsOf 77) 1 75 1 = true := by kernel_rfl
theorem infoTokP : (Tryz.prog.info? 139).map (fun i => (i.zero, i.size, i.bytes)) = some (some (.agg #[.int .i64 0, .string ⟨#[]⟩, .int .i64 0, .int .i64 0]), 4, 40) := by kernel_rfl
theorem step_append_own {P : Program} {ops : Array Oper} {o : Oper} {a : Act} {w : World} {K : Act → World → Prop} {Q : Exit → Act → World → Prop} {E : Prop}
  (hg : o.guard = none) (s x : Operand) (t : TypeId) (hop : o.op = Op.call { callee := Callee.builtin Builtin.append, args := #[s, x], argTypes := #[t, t] })
  (base : Nat) (e : TypeId) (i : TypeInfo) (z : Value) (size bytes : Nat) (ht : P.underlying t = some (.slice e)) (hi : P.info? e = some i) (hz : i.zero = some z)
  (hsize : i.size = size) (hby : i.bytes = bytes) (hzs : z.cells.size = size) (hsz : 0 < size)
  (v : Value) (n : Nat) (xs : List Value) (hs : a.eval s = v) (hown : w.ownsRow base e size v n xs)
  (ad : Addr) (m c : Nat) (news : List Value) (hx : a.eval x = .slice (some ad) m c) (hl : news.length = m * size) (hnews : ∀ j u, news[j]? = some u → w.cell? (ad.add j) = some u) (h1 : ∀ u ∈ news, u.oneCell' = true)
  (h63 : n + m ≤ maxLen) (hbytes : (n + m) * bytes ≤ 140737488355328) (hbase : base ≤ w.heap.size)
  (h : ∀ v' w', w'.ownsRow base e size v' (n + m) (xs ++ news) → w.grownBy w' v.ownBlock → K (a.put o.dst v') w') :
  if Region.wanted o (yielded ops a.tmps) = true then Oper.wp P o a w K Q else E := by
 have hw : Region.wanted o (yielded ops a.tmps) = true := by simp [Region.wanted, hg]
 rw [if_pos hw]
 exact wp_append_own w s x t hop base e i z size bytes ht hi hz hsize hby hzs hsz v n xs hs hown ad m c news hx hl hnews h1 h63 hbytes hbase fun v' w' h2 h3 _ => h v' w' h2 h3
def joinLast (toks : List Lx.PTok) (t : Lx.Tok) : Bool := match toks.getLast? with | none => false | some x => Lx.join (Lx.tok x) t
def gap (toks : List Lx.PTok) (t : Lx.Tok) : List UInt8 := if joinLast toks t then [32] else []
def added (toks : List Lx.PTok) (txt : List UInt8) (t : Lx.Tok) : List Lx.PTok := toks ++ [⟨t.kind, t.text, (txt ++ gap toks t).length, (txt ++ gap toks t ++ Lx.spell t).length⟩]
theorem app_pr {W w' : World} {p B n : Nat} {vt vb v' : Value} {cs : Array Value} {toks : List Lx.PTok} {txt : List UInt8} {xs : List Value} {o : Obj} (h : Pr W p B vt vb cs toks txt) (ho : w'.ownsRow B 139 4 v' (n + 1) xs) (hg : ((W.alloc o).drew).grownBy w' vt.ownBlock) :
  ∃ g cap, v' = .slice (some ⟨g, 0, none⟩) (n + 1) cap ∧ w'.cell? ⟨p, 0, none⟩ = some vt ∧ w'.frozen? ⟨p, 0, none⟩ = false ∧ Hid (Touch (fun k => vt.ownBlock = some k) W w') ∧ Hid (w'.ownsRow B 139 4 v' (n + 1) xs) := by
 obtain ⟨g, cap, hv⟩ : ∃ g cap, v' = .slice (some ⟨g, 0, none⟩) (n + 1) cap := by
  rcases ho.2 with ⟨_, h0⟩ | ⟨g, cap, cur, hv, _⟩
  ·omega
  ·exact ⟨g, cap, hv⟩
 have ht : Touch (fun k => vt.ownBlock = some k) W w' := (((Touch.refl (fun k => vt.ownBlock = some k) W).alloc o).drew).grown hg (fun g hg => .inl hg)
 have hp : vt.ownBlock ≠ some p := fun e => by
  obtain ⟨h1, _⟩ := owns_type h.own e
  have := h.lt
  omega
 have hb := ht.blk h.bld.blk hp
 exact ⟨g, cap, hv, (hb.cell 0).trans h.tok, hb.frozen 0, ht, ho⟩
theorem Pr.appended {W w' : World} {p B : Nat} {vt vb v' : Value} {cs : Array Value} {toks : List Lx.PTok} {txt : List UInt8} {x : Lx.PTok} (h : Pr W p B vt vb cs toks txt) (ht : Touch (fun k => vt.ownBlock = some k) W w')
  (ho : w'.ownsRow B 139 4 v' (toks.length + 1) (toks.flatMap ptokCellsP ++ ptokCellsP x)) : Pr (w'.setCell ⟨p, 0, none⟩ v') p B v' vb (cs.setIfInBounds 0 v') (toks ++ [x]) txt ∧ Touch (PS p B W) W (w'.setCell ⟨p, 0, none⟩ v') := by
 have hsz := h.size
 have hlt := h.lt
 have hp : vt.ownBlock ≠ some p := fun e => by
  obtain ⟨h1, _⟩ := owns_type h.own e
  omega
 have hv : ∀ k, v'.ownBlock = some k → k ≠ p := fun k e => by
  have := (ho.lt k e).1
  omega
 have hb := ht.blk h.bld.blk hp
 have hvb : w'.ownsRow B 5 1 vb txt.length (Lib.byteCells txt) := ownsRow_touch h.bld.own ht fun k hk hs => by
  obtain ⟨_, cur, h2⟩ := owns_type h.bld.own hk
  obtain ⟨_, cur', h3⟩ := owns_type h.own hs
  rw [h2] at h3
  simp at h3
 have hset := (Touch.refl (fun k => k = p) w').setCell (p := ⟨p, 0, none⟩) (.inl rfl) v'
 refine ⟨⟨hlt, ⟨hb.put 0 v', ?_, ?_, ownsRow_touch hvb hset (fun k hk hs => h.bld.ne (hs ▸ hk)), h.bld.ne, h.bld.nilv⟩, by simp [hsz], by rw [Array.getElem?_setIfInBounds_self_of_lt (by omega)], ?_⟩, ?_⟩
 ·rw [Array.getElem?_setIfInBounds_ne (by decide)]; exact h.bld.addr
 ·rw [Array.getElem?_setIfInBounds_ne (by decide)]; exact h.bld.buf
 ·have e : (toks ++ [x]).flatMap ptokCellsP = toks.flatMap ptokCellsP ++ ptokCellsP x := by simp
  rw [List.length_append, e]
  exact ownsRow_touch ho hset (fun k hk hs => hv k hk hs)
 ·have h1 : Touch (PS p B W) W w' := ht.mono fun k hk => by
   obtain ⟨h1, cur, h2⟩ := owns_type h.own hk
   exact .inr ⟨h1, cur, _, _, h2, .inl rfl⟩
  exact h1.setCell (p := ⟨p, 0, none⟩) (.inl (.inl rfl)) v'
theorem news_of_blkP {W : World} {g : Nat} {t : TypeId} {cs : Array Value} (h : Blk W g t cs) : ∀ j u, cs.toList[j]? = some u → W.cell? ((⟨g, 0, none⟩ : Addr).add j) = some u := by
 intro j u hu
 rw [Addr.add_mid, Nat.zero_add, h.cell]
 simpa using hu
theorem spellL_le (k : Int) (t : List UInt8) : (Lx.spellL k t).length ≤ 2 * t.length + 6 := by
 unfold Lx.spellL
 have := Lx.esc_len t
 repeat' split
 ·simp [Lx.quoteL]; omega
 ·simp; omega
 ·simp; omega
 ·simp; omega
 ·omega
set_option maxRecDepth 100000 in
set_option maxHeartbeats 4000000 in
theorem add_first {w : World} {p B : Nat} {vt vb : Value} {cs : Array Value} {txt : List UInt8} (h : Pr w p B vt vb cs [] txt) (k : Nat) (t : List UInt8) (hB : B ≤ w.heap.size) (hl : txt.length ≤ 2000000) (ht : t.length ≤ 2000000) :
  Calls Tryz.prog 131 #[.pointer (some ⟨p, 0, none⟩), .int .i64 (k : Int), .string ⟨t.toArray⟩] w fun e w' => e = .returned (.tuple #[]) ∧
   ∃ vt' vb' cs', Pr w' p B vt' vb' cs' (added [] txt ⟨k, t⟩) (txt ++ gap [] ⟨k, t⟩ ++ Lx.spell ⟨k, t⟩) ∧ Touch (PS p B w) w w' := by
 obtain ⟨i0, hi, hz0, hz1, hz2⟩ := info_parts infoTokP
 have hpt := h.bld.blk.lt
 obtain ⟨A, cap, rfl⟩ : ∃ A cap, vt = .slice A 0 cap := by
  rcases h.own.2 with ⟨h1, h2⟩ | ⟨g, cap, cur, h1, _⟩
  ·exact ⟨none, 0, h1⟩
  ·exact ⟨_, _, h1⟩
 have q0 : w.cell? ⟨p, 0, none⟩ = some (.slice A 0 cap) := (h.bld.blk.cell 0).trans h.tok
 have HP := hid h
 clear h
 go_enter Tryz.func131, Tryz.ntmps131
 go_wp2_with fail
 go_quiet (fail)
 go_wp2_with fail
 refine (bLen_any (HP.out.fresh (((Touch.refl _ w).alloc _).drewN _)).bld).mono ?_
 rintro _ _ ⟨rfl, rfl⟩
 go_wp2_with fail
 refine forget_world (fun W => Fresh w W ∧ Blk W w.heap.size 139 #[.int .i64 (k : Int), .string ⟨t.toArray⟩, .int .i64 (txt.length : Int), .int .i64 0]) ⟨(((Touch.refl _ w).alloc _).drewN _).setCell (.inr (Nat.le_refl _)) _, ((Blk.new w 139 _).drewN _).put 2 _⟩ ?_
 rintro W4 ⟨hf4, hb4⟩
 have hp4 := HP.out.fresh hf4
 obtain ⟨r0, r1, r2, r3, _, _, _, _, hg4⟩ := Blk.four hb4
 have g0 := cell_regrown r0
 have g1 := cell_regrown r1
 have g2 := cell_regrown r2
 have g3 := cell_regrown r3
 have C1 := hid (calmP (fun w => (spell_any k ⟨t.toArray⟩ txt.length 0 w (by show t.toArray.size ≤ _; simp; omega) : Calls Tryz.prog 158 _ w fun e w' => e = .returned (.string ⟨(Lx.spellL k t).toArray⟩) ∧ Fresh w w')) W4)
 have HF4 := hid hf4
 have HB4 := hid hb4
 have HP4 := hid hp4
 clear hf4 hb4 hp4 q0
 refine wp_region_segs_below [([0,1,2,3,4],5)] [] (by kernel_rfl) (by kernel_rfl) ?_
 simp only [wpSegsC, pick, List.getElem?_cons_zero, List.getElem?_cons_succ]
 repeat (quiet_step (with_reducible exact C1.out _ _))
 refine wpQuiet_nil ?_
 rintro W5 ⟨⟨_, _⟩, hW5⟩
 have hf5 : Fresh W4 W5 := by rw [hW5]; exact fresh_of_below (below_regrown _ _ _)
 have hp5 := HP4.out.fresh hf5
 have hb5 := hf5.blk HB4.out (fun h => h)
 have HF5 := hid hf5
 clear hW5 hf5 g0 g1 g2 g3 r0 r1 r2 r3
 have hsl := spellL_le k t
 have hB5 : B ≤ W5.heap.size := Nat.le_trans hB (Nat.le_trans HF4.out.size HF5.out.size)
 have hne : w.heap.size ≠ p := by omega
 have HW6 := hid (writeString_any hp5.bld hp5.lt (by rw [hp5.size]; exact liesPr) ⟨(Lx.spellL k t).toArray⟩ (by show txt.length + (Lx.spellL k t).toArray.size ≤ _; simp; omega) hB5)
 have HP5 := hid hp5
 have HB5 := hid hb5
 clear hp5 hb5
 go_wp2_with fail
 refine HW6.out.mono ?_
 rintro _ w6 ⟨rfl, vb6, hb6, ht6⟩
 have hp6 := HP5.out.wrote hb6 ht6
 have hpt6 : Touch (PS p B w) w w6 := PS.freshL (HF4.out.trans HF5.out) (PS.bld HP5.out ht6)
 have hbk6 := ht6.blk HB5.out (fun hs => hs.elim (fun h => hne h) (fun h => HP5.out.vb_ne HB5.out (by decide) h))
 have HP6a := hid hp6
 have HT6a := hid hpt6
 have HB6a := hid hbk6
 clear hb6 ht6 hp6 hpt6 hbk6 HW6
 go_wp2_with fail
 refine wpQuiet_nil ?_
 rintro W7 ⟨⟨_, _⟩, hW7⟩
 have hf7 : Fresh w6 W7 := by rw [hW7]; exact fresh_of_below (below_regrown _ _ _)
 have HP6 := hid (HP6a.out.fresh hf7)
 have HT6 := hid (PS.freshR HT6a.out hf7)
 have HB6 := hid (hf7.blk HB6a.out (fun h => h))
 clear hW7 hf7 HP6a HT6a HB6a
 go_wp2_with fail
 refine (bLen_any HP6.out.bld).mono ?_
 rintro _ _ ⟨rfl, rfl⟩
 obtain ⟨r0, r1, r2, r3, z0, z1, z2, z3, hg6⟩ := Blk.four HB6.out
 go_wp2_with fail
 refine forget_world (fun W => ∃ cs', Pr W p B (.slice A 0 cap) vb6 cs' [] (txt ++ (Lx.spellL k t)) ∧ Blk W w.heap.size 139 #[.int .i64 (k : Int), .string ⟨t.toArray⟩, .int .i64 (txt.length : Int), .int .i64 ((txt.length : Int) + ((Lx.spellL k t).length : Int))] ∧ Touch (PS p B w) w W) ⟨_, HP6.out.touch (S := fun k => k = w.heap.size) (Touch.setCell (S := fun k => k = w.heap.size) (Touch.refl _ _) (p := ⟨w.heap.size, 3, none⟩) (.inl rfl) _) (fun h => hne h.symm) (fun k hk h => by have := HP.out.vt_lt k hk; omega) (fun k hk h => HP6.out.vb_ne HB6.out (by decide) (h ▸ hk)), HB6.out.put 3 _, HT6.out.setCell (p := ⟨w.heap.size, 3, none⟩) (.inr (Nat.le_refl _)) _⟩ ?_
 rintro W8 ⟨cs8, hp8, hb8, ht8⟩
 have p0 : W8.cell? ⟨p, 0, none⟩ = some (.slice A 0 cap) := (hp8.bld.blk.cell 0).trans hp8.tok
 have pz : W8.frozen? ⟨p, 0, none⟩ = false := hp8.bld.blk.frozen 0
 obtain ⟨s0, s1, s2, s3, _, _, _, _, hg8⟩ := Blk.four hb8
 have HP8 := hid hp8
 have HB8 := hid hb8
 have HT8 := hid ht8
 have hown8 := hid hp8.own
 have hplt := hp8.bld.blk.lt
 have hB8 : B ≤ W8.heap.size := by have := ht8.size; omega
 clear hp8 hb8 ht8 r0 r1 r2 r3 z0 z1 z2 z3 HP6 HB6 HT6
 obtain ⟨tolen, hto⟩ : ∃ tolen : Int, (txt.length : Int) + ((Lx.spellL k t).length : Int) = tolen := ⟨_, rfl⟩
 rw [hto] at s3
 have hnew := hid (fun (o : Obj) (ho : o = .cells #[.int .i64 (k : Int), .string ⟨t.toArray⟩, .int .i64 (txt.length : Int), .int .i64 tolen] 139) => ho ▸ news_of_blkP (W := (W8.alloc o).drew) (g := W8.heap.size) (t := 139) (cs := #[.int .i64 (k : Int), .string ⟨t.toArray⟩, .int .i64 (txt.length : Int), .int .i64 tolen]) (ho ▸ (Blk.new W8 139 _)))
 go_region_law (refine step_append_own rfl (.tmp 56) (.tmp 58) 72 rfl B 139 i0 _ 4 40 Tryz.underlying72 hi hz0 hz1 hz2 rfl (by decide) (.slice A 0 cap) 0 [] (by simp [Act.eval]) ((hown8.out.alloc _).drew) ⟨W8.heap.size, 0, none⟩ 1 1 [.int .i64 (k : Int), .string ⟨t.toArray⟩, .int .i64 (txt.length : Int), .int .i64 tolen] (by simp [Act.eval]) rfl (hnew.out _ rfl) (by intro u hu; simp only [List.mem_cons, List.not_mem_nil, or_false] at hu; rcases hu with rfl | rfl | rfl | rfl <;> rfl) (by decide) (by decide) (by have := World.size_alloc W8; simp; omega) ?_; intro v9 w9 ho9 hg9; obtain ⟨g9, cap9, rfl, c9, z9, HT9, HO9⟩ := app_pr HP8.out ho9 hg9; clear ho9 hg9)
 all_goals
  go_end0
  obtain ⟨hpr, htc⟩ := HP8.out.appended (x := ⟨k, t, txt.length, (txt ++ Lx.spellL k t).length⟩) HT9.out (by
   have := HO9.out
   rw [← hto] at this
   simpa [ptokCellsP] using this)
  have e1 : txt ++ gap [] ⟨k, t⟩ ++ Lx.spell ⟨k, t⟩ = txt ++ Lx.spellL k t := by simp [gap, joinLast, Lx.spell]
  have e2 : added [] txt ⟨k, t⟩ = [] ++ [⟨k, t, txt.length, (txt ++ Lx.spellL k t).length⟩] := by
   unfold added
   rw [e1]
   simp [gap, joinLast]
  rw [e1, e2]
  exact ⟨rfl, _, vb6, _, hpr, PS.trans HT8.out htc⟩
end Go.Proofs.YtgfhlfbcoimojaaGreat
