/- Part 16 of 42 of a proof; its texts, joined: LxR, LxU, Tks, LxTb, LxRb. No condition. -/
import Derived.Test.YtomibmenojdieaaGreatXx15
import Derived.Lib.QuietBelow
set_option maxRecDepth 100000
set_option maxHeartbeats 1000000
namespace Go.Proofs.YtomibmenojdieaaGreat
open Go.RowKit
def NotOurs (L c D : Nat) (k : Nat) : Prop := k ≠ L ∧ k ≠ c ∧ k ≠ D ∧ k ≠ D + 1
def RoundPost (L c D : Nat) (I : World → Prop) (W2 : World) : Exit → Act → World → Prop
 | .normal, _, W3 => Touch (NotOurs L c D) W2 W3 ∧ I W3
 | _, _, _ => False
theorem putObj_touch (W : World) (l : Nat) (o : Obj) : Touch (· = l) W (W.putObj l o) :=
 ⟨rfl, rfl, rfl, by simp, fun _ _ hn => World.putObj_heap_other hn⟩
theorem wp_range_toks {assign body : Code} {Q : Exit → Act → World → Prop} {a : Act} {W0 : World} {L c : Nat} {s : ByteArray}
  (hg : a.eval (.tmp 12) = .func (.func 63) #[] #[.pointer (some ⟨c, 0, none⟩)]) (hm : s.size ≤ 140737488355328) (hcL : c ≠ L) (hc : W0.cell? ⟨c, 0, none⟩ = some (.pointer (some ⟨L, 0, none⟩))) (hL : LexAt W0 L s 0 0 0)
  (I : List Lx.PTok → World → Prop) (hI : ∀ pre W W', I pre W → Touch (fun k => k = L ∨ k = W0.heap.size ∨ k = W0.heap.size + 1) W W' → I pre W') (h0 : I [] W0)
  (hround : ∀ pre x W, I pre W → W0.heap.size + 2 ≤ W.heap.size → pre ++ [x] <+: (Lx.lexAll s.data.toList).1 →
   assign.wpIn (Fence.wide.inRound (W0.heap.size + 1)) 1 Tryz.prog (Exit.then (fun a₁ W1 => Touch (NotOurs L c W0.heap.size) W W1 ∧ ∀ W2, Touch (· = W0.heap.size + 1) W1 W2 → W2.heap.size = W1.heap.size →
     body.wpIn (Fence.wide.inRound (W0.heap.size + 1)) 1 Tryz.prog (RoundPost L c W0.heap.size (I (pre ++ [x])) W2) a₁ W2) (fun _ _ _ => False))
    { tmps := a.tmps.setIfInBounds 13 (ptokV x), defers := [] } W)
  (hdone : ∀ W, I (Lx.lexAll s.data.toList).1 W → LexEnd W L s (Lx.lexAll s.data.toList).2 → W.heap[W0.heap.size]? = some (.deferred (some [])) → W0.heap.size + 2 ≤ W.heap.size →
   Q .normal { a with defers := { target := .collected W0.heap.size, args := #[] } :: a.defers } W) :
  (Code.rangeFunc (.tmp 12) #[13] assign body).wp Tryz.prog Q a W0 := by
 have hcl : c < W0.heap.size := bL hc;have hLl := hL.lt;refine (wpIn_wide (n := 4)).1 (wpIn_rangeFunc ?_);intro fn hfn;obtain ⟨rec, hrec⟩ : ∃ rec : LoopState → Option Code → Loop, rec = fun st pe => { state := st, pending := pe, fn, tmps := a.tmps, params := #[13], assign, body, defers := W0.heap.size } := ⟨_, rfl⟩
 obtain ⟨W1, hW1⟩ : ∃ W1, (W0.alloc (.deferred (some []))).alloc (.loop (rec .ready none)) = W1 := ⟨_, rfl⟩
 have hL1 : W1.heap[W0.heap.size + 1]? = some (.loop (rec .ready none)) := by
  rw [← hW1]; have := World.alloc_heap_new (W0.alloc (.deferred (some []))) (.loop (rec .ready none)); rwa [World.size_alloc] at this
 have hK1 : W1.heap[W0.heap.size]? = some (.deferred (some [])) := by
  rw [← hW1]; exact (Below.heap_alloc _ _ _ (by simp)).trans (World.alloc_heap_new W0 _)
 have hf1 : Fresh W0 W1 := by rw [← hW1]; exact ((Touch.refl _ W0).alloc _).alloc _
 have hs1 : W1.heap.size = W0.heap.size + 2 := by rw [← hW1]; simp
 refine ⟨W0.heap.size + 1, [{ target := .collected W0.heap.size, args := #[] }], W1, { target := .fn (.func 63) #[.pointer (some ⟨c, 0, none⟩)], args := #[.func (.yield (W0.heap.size + 1)) #[] #[]] }, W1, 63,
  #[.func (.yield (W0.heap.size + 1)) #[] #[]] ++ #[.pointer (some ⟨c, 0, none⟩)], W1, ?_, ?_, ?_, ?_, fun h => by simp [Fence.wide] at h, ?_⟩
 ·rw [← hW1, hrec]; exact run_enterLoop_outer _ _ _ _ _
 ·simp only [resolve, hg]
  simp [go_sem]
 ·intro f' _; trivial
 ·simp [invoke, go_sem]
 ·refine callsIn_wide.2 ((iter_any L c (W0.heap.size + 1) s
   (fun pre W => I pre W ∧ W.heap[W0.heap.size + 1]? = some (.loop (rec .ready none)) ∧ W.heap[W0.heap.size]? = some (.deferred (some [])) ∧ W0.heap.size + 2 ≤ W.heap.size) W1 hm ?_ hcL ?_ (hf1.blk hL (fun h => h)) (hf1.cell hc (fun h => h)) ⟨hI _ _ _ h0 (hf1.mono (fun _ h => h.elim)), hL1, hK1, by omega⟩).mono ?_)
  ·rintro pre W W' ⟨h1, h2, h3, h4⟩ ht
   exact ⟨hI _ _ _ h1 (ht.mono (fun _ h => .inl h)), (ht.block _ (by omega) (by omega)).trans h2, (ht.block _ (by omega) (by omega)).trans h3, Nat.le_trans h4 ht.size⟩
  ·rintro pre x at_ W ⟨hi, hl, hd, hsz⟩ hlx hcx hpre
   have hy := run_yield (P := Tryz.prog) (args := #[ptokV x]) hl (by rw [hrec]; rfl);have hz : ∀ t : Array Value, (((#[13] : Array Tmp).zip #[ptokV x]).foldl (fun tmps (t, a) => tmps.setIfInBounds t a) t) = t.setIfInBounds 13 (ptokV x) := fun t => by simp
   rw [hrec] at hy
   dsimp only at hy
   rw [hz] at hy;refine ⟨fn, _, assign, body, hy, roundIn_of_wpIn hfn (wpIn_mono (hround pre x W hi hsz hpre) ?_)⟩;intro e a1 w1 hp;cases e with
   | normal =>
    obtain ⟨ht1, hb⟩ := hp;have hl1 : w1.heap[W0.heap.size + 1]? = some (.loop (rec .ready none)) := (ht1.block _ (by omega) (fun hn => hn.2.2.2 rfl)).trans hl;have hd1 : w1.heap[W0.heap.size]? = some (.deferred (some [])) := (ht1.block _ (by omega) (fun hn => hn.2.2.1 rfl)).trans hd;have hs2 := ht1.size;refine ⟨_, run_beginRound hl1 (by rw [hrec]), ?_⟩;have ht2 := putObj_touch w1 (W0.heap.size + 1) (.loop { rec .ready none with state := .busy });refine wpIn_mono (hb _ ht2 (by simp)) ?_;intro e3 a3 W3 hp3;cases e3 with
    | normal =>
     obtain ⟨ht3, hi3⟩ := hp3;have hl2 : (w1.putObj (W0.heap.size + 1) (.loop { rec .ready none with state := .busy })).heap[W0.heap.size + 1]? = some (.loop { rec .ready none with state := .busy }) := World.putObj_heap_same (by omega);have hl3 : W3.heap[W0.heap.size + 1]? = some (.loop { rec .ready none with state := .busy }) := (ht3.block _ (by simp; omega) (fun hn => hn.2.2.2 rfl)).trans hl2;have hd3 : W3.heap[W0.heap.size]? = some (.deferred (some [])) := (ht3.block _ (by simp; omega) (fun hn => hn.2.2.1 rfl)).trans ((World.putObj_heap_other (by omega)).trans hd1);have hs3 := ht3.size;simp at hs3
     have hr := run_endRound (P := Tryz.prog) none hl3;have ht4 := putObj_touch W3 (W0.heap.size + 1) (.loop (rec .ready none));have hrr : ({ rec .ready none with state := .busy } : Loop) = { rec .ready none with state := .busy } := rfl;have hre : (({ ({ rec .ready none with state := .busy } : Loop) with state := if (none : Option Code).isNone then .ready else .done, pending := none } : Loop)) = rec .ready none := by rw [hrec]; rfl
     rw [hre] at hr;refine ⟨_, _, hr, rfl, ⟨hI _ _ _ hi3 (ht4.mono (fun _ h => .inr (.inr h))), World.putObj_heap_same (by omega), (World.putObj_heap_other (by omega)).trans hd3, by simp; omega⟩, ?_, ?_⟩
     ·exact ht4.blk (ht3.blk (ht2.blk (ht1.blk hlx (fun hn => hn.1 rfl)) (by omega)) (fun hn => hn.1 rfl)) (by omega)
     ·exact ht4.cell (ht3.cell (ht2.cell (ht1.cell hcx (fun hn => hn.2.1 rfl)) (by simp; omega)) (fun hn => hn.2.1 rfl)) (by simp; omega)
    | ret => exact hp3.elim
    | exit id => exact hp3.elim
    | goto t => exact hp3.elim
    | panic ch => exact hp3.elim
    | outgrown => exact hp3.elim
   | ret => exact hp.elim
   | exit id => exact hp.elim
   | goto t => exact hp.elim
   | panic ch => exact hp.elim
   | outgrown => exact hp.elim
  ·rintro e W2 ⟨rfl, ⟨hi, hl, hd, hsz⟩, hend⟩
   have hpend : (rec .ready none).pending = none := by rw [hrec]
   obtain ⟨ob, hend'⟩ : ∃ ob, (Instr.endLoop (W0.heap.size + 1)).run Tryz.prog W2 = .ok none (W2.putObj (W0.heap.size + 1) ob) := ⟨_, by
    have := run_endLoop (P := Tryz.prog) hl (by rw [hrec]; simp);rw [hpend] at this;exact this⟩
   have ht := putObj_touch W2 (W0.heap.size + 1) ob;refine ⟨none, _, hend', ?_⟩;obtain ⟨a', p', e', h1, h2⟩ := hend;exact hdone _ (hI _ _ _ hi (ht.mono (fun _ h => .inr (.inr h)))) ⟨a', p', e', ht.blk h1 (by omega), h2⟩ ((World.putObj_heap_other (by omega)).trans hd) (by simp; omega)
end Go.Proofs.YtomibmenojdieaaGreat
namespace Go.Proofs.YtomibmenojdieaaGreat
open Go.RowKit
attribute [local go_sem] Oper.semAt_some
structure TokInv (w : World) (B : Nat) (pre : List Lx.PTok) (v : Value) (W : World) : Prop where
 toks : Blk W w.heap.size 68 #[v]
 at_ : Blk W (w.heap.size + 1) 3 #[.int .i64 0]
 err : Blk W (w.heap.size + 1 + 1) 28 #[.int .i64 0]
 own : W.ownsRow B 107 4 v pre.length (pre.flatMap ptokCells)
 fresh : Fresh w W
theorem TokInv.touch {S : Nat → Prop} {w : World} {B : Nat} {pre : List Lx.PTok} {v : Value} {W W' : World} (h : TokInv w B pre v W) (ht : Touch S W W') (hS : ∀ k, S k → w.heap.size + 1 + 1 < k ∧ k < B) : TokInv w B pre v W' :=
 ⟨ht.blk h.toks (fun hk => by have := hS _ hk; omega), ht.blk h.at_ (fun hk => by have := hS _ hk; omega), ht.blk h.err (fun hk => by have := hS _ hk; omega),
  ownsRow_touch h.own ht (fun k hk hs => by have := (h.own.lt k hk).1; have := hS _ hs; omega), h.fresh.trans' ht (fun k hk => .inr (by have := hS _ hk; omega))⟩
theorem news_of_blk {W : World} {g : Nat} {t : TypeId} {cs : Array Value} (h : Blk W g t cs) : ∀ j u, cs.toList[j]? = some u → W.cell? ((⟨g, 0, none⟩ : Addr).add j) = some u := by
 intro j u hu;rw [Addr.add_mid, Nat.zero_add, h.cell];simpa using hu
def TokensEnd (s : ByteArray) (w : World) (e : Ending) (w' : World) : Prop :=
 Fresh w w' ∧ match (Lx.lexAll s.data.toList).2 with
  | none => ∃ v, e = .returned (.tuple #[v, .int .i64 0, .int .i64 0]) ∧ w'.ownsRow w.heap.size 107 4 v (Lx.lexAll s.data.toList).1.length ((Lx.lexAll s.data.toList).1.flatMap ptokCells)
  | some (p, er) => e = .returned (.tuple #[.slice none 0 0, .int .i64 p, .int .i64 er])
theorem toks_end {w W : World} {B D : Nat} {pre : List Lx.PTok} {v u : Value} {p e : Int} (h : TokInv w B pre v W) (hD : w.heap.size + 1 + 1 < D) (hd : W.heap[D]? = some (.deferred (some []))) :
  (((W.setCell ⟨w.heap.size, 0, none⟩ u).setCell ⟨w.heap.size + 1, 0, none⟩ (.int .i64 p)).setCell ⟨w.heap.size + 1 + 1, 0, none⟩ (.int .i64 e)).heap[D]? = some (.deferred (some [])) ∧
  ∃ WF, (((W.setCell ⟨w.heap.size, 0, none⟩ u).setCell ⟨w.heap.size + 1, 0, none⟩ (.int .i64 p)).setCell ⟨w.heap.size + 1 + 1, 0, none⟩ (.int .i64 e)).putObj D (.deferred none) = WF ∧
   WF.cell? ⟨w.heap.size, 0, none⟩ = some u ∧ WF.cell? ⟨w.heap.size + 1, 0, none⟩ = some (.int .i64 p) ∧ WF.cell? ⟨w.heap.size + 1 + 1, 0, none⟩ = some (.int .i64 e) ∧
   Fresh w WF ∧ Touch (fun k => k = w.heap.size ∨ k = w.heap.size + 1 ∨ k = w.heap.size + 1 + 1 ∨ k = D) W WF := by
 have t1 := (((Touch.refl (fun k => k = w.heap.size ∨ k = w.heap.size + 1 ∨ k = w.heap.size + 1 + 1) W).setCell (p := ⟨w.heap.size, 0, none⟩) (.inl (.inl rfl)) u).setCell (p := ⟨w.heap.size + 1, 0, none⟩) (.inl (.inr (.inl rfl))) (.int .i64 p)).setCell (p := ⟨w.heap.size + 1 + 1, 0, none⟩) (.inl (.inr (.inr rfl))) (.int .i64 e);have hlt : D < W.heap.size := (Array.getElem?_eq_some_iff.1 hd).1;have t2 := putObj_touch (((W.setCell ⟨w.heap.size, 0, none⟩ u).setCell ⟨w.heap.size + 1, 0, none⟩ (.int .i64 p)).setCell ⟨w.heap.size + 1 + 1, 0, none⟩ (.int .i64 e)) D (.deferred none);have b1 := ((h.toks.put 0 u).far (p := ⟨w.heap.size + 1, 0, none⟩) (by simp) (.int .i64 p)).far (p := ⟨w.heap.size + 1 + 1, 0, none⟩) (by simp; omega) (.int .i64 e);have b2 := ((h.at_.far (p := ⟨w.heap.size, 0, none⟩) (by simp) u).put 0 (.int .i64 p)).far (p := ⟨w.heap.size + 1 + 1, 0, none⟩) (by simp) (.int .i64 e);have b3 := ((h.err.far (p := ⟨w.heap.size, 0, none⟩) (by simp; omega) u).far (p := ⟨w.heap.size + 1, 0, none⟩) (by simp) (.int .i64 p)).put 0 (.int .i64 e);have t3 := t1.mono (S' := fun k => k = w.heap.size ∨ k = w.heap.size + 1 ∨ k = w.heap.size + 1 + 1 ∨ k = D) (fun k hk => by omega);refine ⟨(t1.block D hlt (by omega)).trans hd, _, rfl, ?_, ?_, ?_, ?_, ?_⟩
 ·exact (t2.blk b1 (by omega)).cell 0
 ·exact (t2.blk b2 (by omega)).cell 0
 ·exact (t2.blk b3 (by omega)).cell 0
 ·exact h.fresh.trans' (t3.trans (t2.mono (fun k hk => by omega))) (fun k hk => .inr (by omega))
 ·exact t3.trans (t2.mono (fun k hk => by omega))
theorem Tokens_any (s : ByteArray) (w : World) (hm : s.size ≤ 140737488355328) (hcount : (Lx.lexAll s.data.toList).1.length ≤ 8000) :
  Calls Tryz.prog 26 #[.string s] w (TokensEnd s w) := by
 obtain ⟨i0, hi, hz0, hz1, hz2⟩ := info_parts infoTok;refine callsIn_wide.1 (callsIn_of_wp_marks (F := Fence.wide) (n := 4) Tryz.func26 rfl trivial ?_ rfl);simp only [Tryz.ntmps26, List.size_toArray, List.length_cons, List.length_nil, Nat.reduceAdd, Nat.reduceSub, Array.replicate_succ, Array.replicate_zero, List.push_toArray, List.append_toArray, List.nil_append, List.cons_append];refine wpIn_wide.2 ?_;go_wp2_with fail
 refine (classes_any _).mono ?_;rintro e1 w1 ⟨rfl, hf1⟩;have hsz1 := hf1.size;simp only [World.size_alloc] at hsz1;have hT1 := hf1.blk ((Blk.new w 68 #[.slice none 0 0]).alloc _ |>.alloc _) (fun h => h);have hA1 := hf1.blk ((Blk.new2 w (.cells #[.slice none 0 0] 68) 3 #[.int .i64 0]).alloc _) (fun h => h);have hE1 : Blk w1 (w.heap.size + 1 + 1) 28 #[.int .i64 0] := hf1.blk (by have := Blk.new2 (w.alloc (.cells #[.slice none 0 0] 68)) (.cells #[.int .i64 0] 3) 28 #[.int .i64 0]; simpa using this) (fun h => h);have hfw : Fresh w w1 := (((Touch.refl (fun _ => False) w).alloc _).alloc _ |>.alloc _).trans hf1;have HT1 := hid hT1;have HA1 := hid hA1;have HE1 := hid hE1;have HFW := hid hfw;clear hf1 hT1 hA1 hE1 hfw
 go_wp2_with (refine wpList_build_lex s rfl _ _ rfl rfl rfl ?_)
 refine (tokens_any _ _).mono ?_;rintro e2 w2 ⟨rfl, rfl⟩;go_wp2_with fail
 obtain ⟨W0, hW0⟩ : ∃ W0, (w1.alloc (.cells (lexCells s 0 0 0) 102)).alloc (.cells #[.pointer (some ⟨w1.heap.size, 0, none⟩)] 98) = W0 := ⟨_, rfl⟩;rw [hW0];have hs0 : W0.heap.size ≤ w1.heap.size + 2 := by rw [← hW0]; simp
 have hs0' : w1.heap.size + 2 ≤ W0.heap.size := by rw [← hW0]; simp
 have hc0 : W0.cell? ⟨w1.heap.size + 1, 0, none⟩ = some (.pointer (some ⟨w1.heap.size, 0, none⟩)) := by rw [← hW0]; exact (Blk.new2 w1 _ 98 #[.pointer (some ⟨w1.heap.size, 0, none⟩)]).cell 0
 have hl0 : LexAt W0 w1.heap.size s 0 0 0 := by rw [← hW0]; exact (Blk.new w1 102 (lexCells s 0 0 0)).alloc _
 have hi0 : TokInv w (W0.heap.size + 2) [] (.slice none 0 0) W0 := by
  rw [← hW0];exact ⟨(HT1.out.alloc _).alloc _, (HA1.out.alloc _).alloc _, (HE1.out.alloc _).alloc _, World.ownsRow_nil _ _ _ _, (HFW.out.alloc _).alloc _⟩
 refine wp_range_toks (L := w1.heap.size) (c := w1.heap.size + 1) (s := s) rfl hm (by omega) hc0 hl0 (fun pre W => ∃ v, TokInv w (W0.heap.size + 2) pre v W) ?_ ⟨_, hi0⟩ ?_ ?_
 ·rintro pre W W' ⟨v, hv⟩ ht
  exact ⟨v, hv.touch ht (fun k hk => by omega)⟩
 ·rintro pre x W ⟨v, hv⟩ hsz hpre
  have HV := hid hv;clear hv hc0 hl0 hi0 HT1 HA1 HE1 HFW hW0;simp only [ptokV, List.setIfInBounds_toArray, List.set_cons_succ, List.set_cons_zero]
  gi_wp2
  refine ⟨((Touch.refl _ W).alloc _), ?_⟩;intro W2 ht2 hs2;have hv2 : TokInv w (W0.heap.size + 2) pre v W2 := ((HV.out.touch ((Touch.refl (fun _ => False) W).alloc _) (fun k hk => hk.elim)).touch ht2 (fun k hk => by omega));have htk : Blk W2 W.heap.size 107 #[.int .i64 x.kind, .string ⟨x.text.toArray⟩, .int .i64 x.from_, .int .i64 x.to_] := ht2.blk (Blk.new _ _ _) (by omega);have hln : pre.length + 1 ≤ (Lx.lexAll s.data.toList).1.length := by have := hpre.length_le; simpa using this
  obtain ⟨A, cap, rfl⟩ : ∃ A cap, v = .slice A pre.length cap := by
   rcases hv2.own.2 with ⟨h1, h2⟩ | ⟨g, cap, cur, h1, _⟩
   ·exact ⟨none, 0, by rw [h1, h2]⟩
   ·exact ⟨_, _, h1⟩
  have b1 : ((pre.length : Int) == 8000) = false := by rw [beq_eq_false_iff_ne]; omega
  have c1 := hv2.toks.cell 0;have f1 := hv2.toks.frozen 0;simp only [List.getElem?_toArray, List.getElem?_cons_zero] at c1;obtain ⟨q0, q1, q2, q3, z0, z1, z2, z3, hg⟩ := Blk.four htk;have hown := hv2.own;have hTl := hv2.toks.lt;have HV2 := hid hv2;have HTK := hid htk;have HT2 := hid ht2;have hs2' : W2.heap.size = W.heap.size + 1 := by simpa using hs2
  have HS2 := hid hs2';clear hv2 htk ht2 hs2 hs2' hpre
  gi_wp2_with (gi_at_builtin; refine wpListIn_append_own _ rfl _ _ 68 rfl (W0.heap.size + 2) 107 i0 _ 4 40 Tryz.underlying68 hi hz0 hz1 hz2 rfl (by decide) _ _ _ rfl (hown.alloc _) ⟨W2.heap.size, 0, none⟩ 1 1 (ptokCells x) rfl rfl ?c1 ?c2 ?c3 ?c4 ?c5 ?_)
  case c1 => exact news_of_blk (cs := (ptokCells x).toArray) (Blk.new W2 107 _)
  case c2 => intro u hu; simp only [ptokCells, List.mem_cons, List.not_mem_nil, or_false] at hu; rcases hu with rfl | rfl | rfl | rfl <;> rfl
  case c3 => unfold maxLen; omega
  case c4 => omega
  case c5 => have := HS2.out; simp; omega
  intro v' W3 hown' hgrow _;have ht3 : Touch (fun k => (Value.slice A pre.length cap).ownBlock = some k) W2 W3 := ((Touch.refl _ W2).alloc _).grown hgrow (fun g hg => .inl hg);have hbl : ∀ k, (Value.slice A pre.length cap).ownBlock = some k → W0.heap.size + 2 ≤ k := fun k hk => (hown.lt k hk).1
  have hT3 : Blk W3 w.heap.size 68 #[.slice A pre.length cap] := ht3.blk HV2.out.toks (fun hk => by have := hbl _ hk; omega);have d1 := hT3.cell 0;have e1 := hT3.frozen 0;simp only [List.getElem?_toArray, List.getElem?_cons_zero] at d1
  obtain ⟨g, cap', rfl⟩ : ∃ g cap', v' = .slice (some ⟨g, 0, none⟩) (pre.length + 1) cap' := by
   rcases hown'.2 with ⟨_, h0⟩ | ⟨g, cap', cur, hv, _⟩
   ·omega
   ·exact ⟨g, cap', hv⟩
  have hgl := (hown'.lt g rfl).1;have HO := hid hown';have HT3 := hid hT3;have HTT := hid ht3;have HBL := hid hbl;clear hown' hT3 ht3 hbl hown hgrow
  gi_wp2
  refine ⟨?_, ?_⟩
  ·refine Touch.setCell ?_ (p := ⟨w.heap.size, 0, none⟩) (.inl ⟨by simp; omega, by simp; omega, by simp; omega, by simp; omega⟩) _
   exact HTT.out.mono (fun k hk => by have := HBL.out k hk; exact ⟨by omega, by omega, by omega, by omega⟩)
  ·refine ⟨.slice (some ⟨g, 0, none⟩) (pre.length + 1) cap', ?_, ?_, ?_, ?_, ?_⟩
   ·exact HT3.out.put 0 _
   ·exact (HTT.out.blk HV2.out.at_ (fun hk => by have := HBL.out _ hk; omega)).far (p := ⟨w.heap.size, 0, none⟩) (by simp) _
   ·exact (HTT.out.blk HV2.out.err (fun hk => by have := HBL.out _ hk; omega)).far (p := ⟨w.heap.size, 0, none⟩) (by simp; omega) _
   ·rw [List.length_append, List.flatMap_append]
    refine ownsRow_touch (S := (· = w.heap.size)) ?_ ((Touch.refl (· = w.heap.size) W3).setCell (p := ⟨w.heap.size, 0, none⟩) (.inl rfl) _) (fun k hk hs => by simp [Value.ownBlock] at hk; omega);simpa using HO.out
   ·exact (HV2.out.fresh.trans' HTT.out (fun k hk => .inr (by have := HBL.out k hk; omega))).setCell (p := ⟨w.heap.size, 0, none⟩) (.inr (Nat.le_refl _)) _
 ·rintro W ⟨v, hv⟩ hend hd hsz
  obtain ⟨a', p', e', hlx, hmn⟩ := hend;obtain ⟨g1, g2, g3, g4, f1, f2, f3, hLlt⟩ := lex_reads hlx;have c1 := hv.toks.cell 0;have c2 := hv.at_.cell 0;have c3 := hv.err.cell 0;have f4 := hv.toks.frozen 0;have f5 := hv.at_.frozen 0;have f6 := hv.err.frozen 0;have l1 := hv.toks.lt;have l2 := hv.at_.lt;have l3 := hv.err.lt;simp only [List.getElem?_toArray, List.getElem?_cons_zero] at c1 c2 c3;have HV := hid hv;have HD := hid hd
  obtain ⟨A, cap, rfl⟩ : ∃ A cap, v = .slice A (Lx.lexAll s.data.toList).1.length cap := by
   rcases hv.own.2 with ⟨h1, h2⟩ | ⟨g, cap, cur, h1, _⟩
   ·exact ⟨none, 0, by rw [h1, h2]⟩
   ·exact ⟨_, _, h1⟩
  clear hv hd hlx hc0 hl0 hi0 hW0 HT1 HA1 HE1 HFW;simp only [Exit.inBlock, Exit.then];cases hr : (Lx.lexAll s.data.toList).2 with
  | none =>
   rw [hr] at hmn;obtain rfl : e' = 0 := hmn;have HR := hid hr;clear hr;generalize hTS : (Lx.lexAll s.data.toList).1 = ts at *;have HTS := hid hTS;clear hTS;go_wp2_with fail
   obtain ⟨hdd, WF, hWF, r1, r2, r3, hfr, htc⟩ := toks_end (u := .slice A ts.length cap) (p := 0) (e := 0) HV.out (by omega) HD.out;refine ⟨by simp, .inl ⟨_, _, rfl, run_takeDeferred (b := W0.heap.size) (ds := []) hdd, ?_⟩⟩;rw [hWF];refine ⟨.tuple #[.slice A ts.length cap, .int .i64 0, .int .i64 0], by simp [results, Tryz.results26, go_sem, r1, r2, r3], ?_⟩;refine ⟨hfr, ?_⟩;rw [HR.out, HTS.out];refine ⟨_, rfl, ?_⟩;have ho := ownsRow_touch HV.out.own htc (fun k hk hs => by have := (HV.out.own.lt k hk).1; omega);exact ownsRow_base ho (by omega)
  | some q =>
   obtain ⟨p0, e0⟩ := q;rw [hr] at hmn;obtain ⟨rfl, rfl⟩ := hmn;have HR := hid hr;clear hr;have hne : ((e0 : Int) != 0) = true := by have := Lx.lexGo_err _ _ _ _ _ HR.out; rw [bne_iff_ne]; omega
   go_wp2_with fail
   go_region_held3 (fun w' => w'.cell? ⟨w1.heap.size, 258, none⟩ = some (.int .i64 (p0 : Int)) ∧ w'.cell? ⟨w1.heap.size, 259, none⟩ = some (.int .i64 (e0 : Int))) (first | (refine ⟨?_, ?_⟩ <;> first | exact (World.cell?_setCell_other _ _ _ _ (by simp)).trans (by assumption) | exact (World.cell?_setCell_other _ _ _ _ (by simp)).trans ((World.cell?_setCell_other _ _ _ _ (by simp)).trans (by assumption)) | exact (World.cell?_setCell_other _ _ _ _ (by simp)).trans ((World.cell?_setCell_other _ _ _ _ (by simp)).trans ((World.cell?_setCell_other _ _ _ _ (by simp)).trans (by assumption)))) | go_keep) (fail)
   simp only [Exit.then];go_wp2_with fail
   obtain ⟨hdd, WF, hWF, r1, r2, r3, hfr, htc⟩ := toks_end (W := W.drew) (u := .slice none 0 0) (p := p0) (e := e0) (HV.out.touch (S := fun _ => False) (Touch.refl _ W).drew (fun k hk => hk.elim)) (by omega) HD.out;refine ⟨by simp, .inl ⟨_, WF, rfl, ?_, ?_⟩⟩
   ·rw [← hWF]; exact run_takeDeferred (b := W0.heap.size) (ds := []) hdd
   refine ⟨.tuple #[.slice none 0 0, .int .i64 p0, .int .i64 e0], by simp [results, Tryz.results26, go_sem, r1, r2, r3], ?_⟩;refine ⟨hfr, ?_⟩;rw [HR.out]
end Go.Proofs.YtomibmenojdieaaGreat
namespace Go.Proofs.YtomibmenojdieaaGreat
open Go.RowKit
theorem Tokens_ok {s : ByteArray} {w : World} {ts : List Lx.PTok} (h : Lx.lexAll s.data.toList = (ts, none)) (hm : s.size ≤ 140737488355328) (hc : ts.length ≤ 8000) :
  Calls Tryz.prog 26 #[.string s] w fun e w' => Fresh w w' ∧ ∃ v, e = .returned (.tuple #[v, .int .i64 0, .int .i64 0]) ∧ w'.ownsRow w.heap.size 107 4 v ts.length (ts.flatMap ptokCells) := by
 have := Tokens_any s w hm (by rw [h]; exact hc);unfold TokensEnd at this;rw [h] at this;exact this
theorem Tokens_err {s : ByteArray} {w : World} {p er : Nat} (h : (Lx.lexAll s.data.toList).2 = some (p, er)) (hm : s.size ≤ 140737488355328) (hc : (Lx.lexAll s.data.toList).1.length ≤ 8000) :
  Calls Tryz.prog 26 #[.string s] w fun e w' => Fresh w w' ∧ e = .returned (.tuple #[.slice none 0 0, .int .i64 p, .int .i64 er]) := by
 have := Tokens_any s w hm hc;unfold TokensEnd at this;rw [h] at this;exact this
end Go.Proofs.YtomibmenojdieaaGreat
namespace Go.Proofs.YtomibmenojdieaaGreat
open Go.RowKit
attribute [local go_sem] Oper.semAt_some
theorem iter_cut (L c l : Nat) (s : ByteArray) (J : List Lx.PTok → World → Prop) (JX : World → Prop) (w : World) (hm : s.size ≤ 140737488355328)
  (hJ : ∀ pre W W', J pre W → Touch (· = L) W W' → J pre W')
  (hcL : c ≠ L)
  (hY : ∀ pre x (a : Nat) W, J pre W → LexAt W L s a 0 0 → W.cell? ⟨c, 0, none⟩ = some (.pointer (some ⟨L, 0, none⟩)) → pre ++ [x] <+: (Lx.lexAll s.data.toList).1 →
   YieldAt Fence.wide 1 Tryz.prog l #[ptokV x] W fun e W' => (e = .returned (.bool true) ∧ J (pre ++ [x]) W' ∧ LexAt W' L s a 0 0 ∧ W'.cell? ⟨c, 0, none⟩ = some (.pointer (some ⟨L, 0, none⟩))) ∨ (e = .returned (.bool false) ∧ JX W'))
  (hL : LexAt w L s 0 0 0) (hc : w.cell? ⟨c, 0, none⟩ = some (.pointer (some ⟨L, 0, none⟩))) (h0 : J [] w) :
  Calls Tryz.prog 63 #[.func (.yield l) #[] #[], .pointer (some ⟨c, 0, none⟩)] w fun e w' => e = .returned (.tuple #[]) ∧
   ((J (Lx.lexAll s.data.toList).1 w' ∧ LexEnd w' L s (Lx.lexAll s.data.toList).2) ∨ JX w') := by
 have HM : s.size ≤ maxLen := by unfold maxLen; omega
 have HY := hid hY;have HJ := hid hJ;have HLex := hid hL;have HC := hid hc;have H0 := hid h0;have hll : s.data.toList.length = s.size := by simp
 have HLL := hid hll;clear hY hJ hL hc h0 hll;go_enter Tryz.func63, Tryz.ntmps63
 go_wp2
 go_loopw [4] (fun _ wr => ∃ (pre : List Lx.PTok) (a : Nat), Hid (J pre wr) ∧ Hid (LexAt wr L s a 0 0) ∧ Hid (wr.cell? ⟨c, 0, none⟩ = some (.pointer (some ⟨L, 0, none⟩))) ∧ a ≤ s.size ∧
   Hid (Lx.lexAll s.data.toList = (pre ++ (Lx.lexFrom s.data.toList a).1, (Lx.lexFrom s.data.toList a).2))) (fun _ wr => s.size - atOf L wr)
 case atStart => exact ⟨[], 0, H0, HLex, HC, Nat.zero_le _, rfl⟩
 case round =>
  obtain ⟨pre, a, HJr, HLr, HCr, ha, HA⟩ := hrel;have hcc := HCr.out;obtain ⟨g1, g2, g3, g4, f1, f2, f3, hLlt⟩ := lex_reads HLr.out;obtain ⟨b, hbd⟩ : ∃ b, b = Lx.skip s.data.toList a := ⟨_, rfl⟩;have hsk := Lx.skip_le s.data.toList a (by rw [HLL.out]; exact ha);rw [← hbd, HLL.out] at hsk;obtain ⟨hab, hbs⟩ := hsk;have HB := hid hbd;have HAt := hid (atOf_eq HLr.out);clear hbd
  have hrun : ∀ n, Calls Tryz.prog 64 #[.pointer (some ⟨L, 0, none⟩), .int .i64 (a : Int), .int .u8 1] (wr.drewN n) fun e w' => e = .returned (.int .i64 (b : Int)) ∧ ∃ m, w' = (wr.drewN n).drewN m := fun n =>
   (run_any L s a 0 0 _ 1 _ (HLr.out.drewN _) (by omega) (by omega) HM).mono (by rintro e w' ⟨rfl, hn⟩; rw [Int.toNat_natCast, HB.out]; exact ⟨rfl, hn⟩)
  have HRUN := hid hrun;clear hrun;go_wp2_with fail
  refine wp_region_segs [([0,1,2,3,4,5,6,7,8],9)] [] (by kernel_rfl) (by kernel_rfl) ?_;simp only [wpSegs, pick, List.getElem?_cons_zero, List.getElem?_cons_succ]
  repeat (quiet_step (exact Calls.quiet_of (HRUN.out _)))
  refine wpQuiet_nil ?_;rintro _ ⟨nq, rfl⟩;go_wp2_with fail
  refine wpQuiet_nil ?_;rintro _ ⟨nq1, rfl⟩;have hlx := (HLr.out.drewN nq).setAt b;have hc1 : ((wr.drewN nq).setCell ⟨L, 257, none⟩ (.int .i64 (b : Int))).cell? ⟨c, 0, none⟩ = some (.pointer (some ⟨L, 0, none⟩)) := by rw [World.cell?_setCell_other _ _ _ _ (by simp)]; exact HCr.out
  have hj1 : J pre ((wr.drewN nq).setCell ⟨L, 257, none⟩ (.int .i64 (b : Int))) := HJ.out _ _ _ HJr.out (((Touch.refl (· = L) wr).drewN nq).setCell (p := ⟨L, 257, none⟩) (.inl rfl) _);have HLX := hid hlx;have HJ1 := hid hj1;clear hlx hj1
  by_cases hlt : b < s.size
  ·have b1 : ((b : Int) == (s.size : Int)) = false := by rw [beq_eq_false_iff_ne]; omega
   go_wp2_with fail
   go_quiet (fail)
   go_wp2_with fail
   refine (next_any L s b 0 0 _ (HLX.out.drewN _) hm hlt).mono ?_;rintro e' w' ⟨k, tx, f, t, bb, a', p', e2, rfl, hx, ht, hmn⟩;have hj2 : J pre w' := HJ.out _ _ _ HJ1.out (Touch.ofN (n := _) ht);have hc2 : w'.cell? ⟨c, 0, none⟩ = some (.pointer (some ⟨L, 0, none⟩)) := ht.cell hc1 hcL;have HJ2 := hid hj2;have HX := hid hx;clear hj2 hx ht;cases hr : Lx.next (s.data.toList.drop b) with
   | err i er =>
    rw [hr] at hmn;obtain ⟨rfl, rfl, rfl, rfl, rfl, ha', hp', he2⟩ := hmn;have HA' := hid ha';have HP' := hid hp';have HE' := hid he2;have HR := hid hr;clear hr ha' hp' he2;go_wp2_with fail
    refine bodyPost_ret (results_none rfl _ _ _) rfl ?_;have hA := HA.out;rw [Lx.lexFrom_err _ _ _ _ (by rw [← HB.out, HLL.out]; exact hlt) (by rw [← HB.out]; exact HR.out)] at hA;rw [hA];refine ⟨rfl, .inl ⟨?_, ⟨a', p', e2, LexAt.alloc HX.out _, ?_⟩⟩⟩
    ·rw [List.append_nil]; exact HJ.out _ _ _ HJ2.out ((Touch.refl (· = L) w').alloc _)
    ·rw [← HB.out]; exact ⟨HP'.out, HE'.out⟩
   | ok tk n =>
    rw [hr] at hmn;obtain ⟨m2, hm2⟩ : ∃ m2, m2 = b + n := ⟨_, rfl⟩;have HM2 := hid hm2;unfold Means at hmn;simp only [← hm2] at hmn;clear hm2;obtain ⟨rfl, rfl, rfl, rfl, rfl, rfl, rfl, rfl⟩ := hmn;have HR := hid hr;clear hr;have HX1 := hid (HX.out.alloc (.cells #[.int .i64 tk.kind, .string ⟨tk.text.toArray⟩, .int .i64 b, .int .i64 m2] 107));have hfa := Lx.lexFrom_ok s.data.toList a n tk (by rw [← HB.out, HLL.out]; exact hlt) (by rw [← HB.out]; exact HR.out);rw [← HB.out, ← HM2.out] at hfa;have HFA := hid hfa;clear hfa
    have hm2s : m2 ≤ s.size := by
     have h1 := (Lx.next_pos _ _ _ HR.out).2;rw [List.length_drop, HLL.out] at h1;have := HM2.out;omega
    have hbm : b < m2 := by have h1 := (Lx.next_pos _ _ _ HR.out).1; have := HM2.out; omega
    have hc3 : (w'.alloc (.cells #[.int .i64 tk.kind, .string ⟨tk.text.toArray⟩, .int .i64 b, .int .i64 m2] 107)).cell? ⟨c, 0, none⟩ = some (.pointer (some ⟨L, 0, none⟩)) := ((Touch.refl (fun _ => False) w').alloc _).cell hc2 (fun h => h)
    obtain ⟨fn, tmps, assign, body, hy, hR⟩ := HY.out pre ⟨tk.kind, tk.text, b, m2⟩ m2 (w'.alloc (.cells #[.int .i64 tk.kind, .string ⟨tk.text.toArray⟩, .int .i64 b, .int .i64 m2] 107))
     (HJ.out _ _ _ HJ2.out ((Touch.refl (· = L) w').alloc _)) HX1.out hc3 (by rw [HA.out, HFA.out]; exact ⟨(Lx.lexFrom s.data.toList m2).1, by simp⟩)
    simp only [ptokV] at hy;have HRD := hid hR;clear hR
    go_upto_region 3 with (fail)
    refine (wpIn_wide (n := 2)).1 ?_
    gi_wp2
    refine HRD.out.mono ?_;rintro e W' (⟨rfl, hj, hl, hcx⟩ | ⟨rfl, hx⟩)
    case inr =>
     have HXX := hid hx;clear hx
     gi_wp2
     go_wp2_with fail
     refine bodyPost_ret (results_none rfl _ _ _) rfl ?_;exact ⟨rfl, .inr HXX.out⟩
    have HJW := hid hj;have HLW := hid hl;have HCW := hid hcx;clear hj hl hcx
    gi_wp2
    go_wp2_with fail
    go_roundw
    case rel => exact ⟨pre ++ [⟨tk.kind, tk.text, b, m2⟩], m2, HJW, HLW, HCW, hm2s, by have := HA.out; rw [HFA.out] at this; simpa [Hid] using this⟩
    case measure => rw [atOf_eq HLW.out, HAt.out]; omega
  ·have b1 : ((b : Int) == (s.size : Int)) = true := by rw [beq_iff_eq]; omega
   go_wp2_with fail
   go_quiet (fail)
   go_wp2_with fail
   refine bodyPost_ret (results_none rfl _ _ _) rfl ?_;have hA := HA.out;rw [Lx.lexFrom_end _ _ (by rw [← HB.out, HLL.out]; omega)] at hA;rw [hA];refine ⟨rfl, .inl ⟨?_, ⟨b, 0, 0, ?_, rfl⟩⟩⟩
   ·rw [List.append_nil]; refine HJ.out _ _ _ HJ1.out ?_; exact ((Touch.refl (· = L) _).drewN _).drewN _
   ·exact (HLX.out.drewN _).drewN _
end Go.Proofs.YtomibmenojdieaaGreat
namespace Go.Proofs.YtomibmenojdieaaGreat
open Go.RowKit
def RoundPostX (L c D : Nat) (I X : World → Prop) (W2 : World) : Exit → Act → World → Prop
 | .normal, _, W3 => Touch (NotOurs L c D) W2 W3 ∧ I W3
 | .ret, _, W3 => Touch (NotOurs L c D) W2 W3 ∧ X W3
 | _, _, _ => False
theorem wp_range_cut {assign body : Code} {Q : Exit → Act → World → Prop} {a : Act} {W0 : World} {L c : Nat} {s : ByteArray}
  (hg : a.eval (.tmp 12) = .func (.func 63) #[] #[.pointer (some ⟨c, 0, none⟩)]) (hm : s.size ≤ 140737488355328) (hcL : c ≠ L) (hc : W0.cell? ⟨c, 0, none⟩ = some (.pointer (some ⟨L, 0, none⟩))) (hL : LexAt W0 L s 0 0 0)
  (I : List Lx.PTok → World → Prop) (X : World → Prop) (hX : ∀ W W', X W → Touch (fun k => k = L ∨ k = W0.heap.size ∨ k = W0.heap.size + 1) W W' → X W') (hI : ∀ pre W W', I pre W → Touch (fun k => k = L ∨ k = W0.heap.size ∨ k = W0.heap.size + 1) W W' → I pre W') (h0 : I [] W0)
  (hround : ∀ pre x W, I pre W → W0.heap.size + 2 ≤ W.heap.size → pre ++ [x] <+: (Lx.lexAll s.data.toList).1 →
   assign.wpIn (Fence.wide.inRound (W0.heap.size + 1)) 1 Tryz.prog (Exit.then (fun a₁ W1 => Touch (NotOurs L c W0.heap.size) W W1 ∧ ∀ W2, Touch (· = W0.heap.size + 1) W1 W2 → W2.heap.size = W1.heap.size →
     body.wpIn (Fence.wide.inRound (W0.heap.size + 1)) 1 Tryz.prog (RoundPostX L c W0.heap.size (I (pre ++ [x])) X W2) a₁ W2) (fun _ _ _ => False))
    { tmps := a.tmps.setIfInBounds 13 (ptokV x), defers := [] } W)
  (hdone : ∀ W, I (Lx.lexAll s.data.toList).1 W → LexEnd W L s (Lx.lexAll s.data.toList).2 → W.heap[W0.heap.size]? = some (.deferred (some [])) → W0.heap.size + 2 ≤ W.heap.size →
   Q .normal { a with defers := { target := .collected W0.heap.size, args := #[] } :: a.defers } W)
  (hcut : ∀ W, X W → W.heap[W0.heap.size]? = some (.deferred (some [])) → W0.heap.size + 2 ≤ W.heap.size → Q .ret { a with defers := { target := .collected W0.heap.size, args := #[] } :: a.defers } W) :
  (Code.rangeFunc (.tmp 12) #[13] assign body).wp Tryz.prog Q a W0 := by
 have hcl : c < W0.heap.size := bL hc;have hLl := hL.lt;refine (wpIn_wide (n := 4)).1 (wpIn_rangeFunc ?_);intro fn hfn;obtain ⟨rec, hrec⟩ : ∃ rec : LoopState → Option Code → Loop, rec = fun st pe => { state := st, pending := pe, fn, tmps := a.tmps, params := #[13], assign, body, defers := W0.heap.size } := ⟨_, rfl⟩
 obtain ⟨W1, hW1⟩ : ∃ W1, (W0.alloc (.deferred (some []))).alloc (.loop (rec .ready none)) = W1 := ⟨_, rfl⟩
 have hL1 : W1.heap[W0.heap.size + 1]? = some (.loop (rec .ready none)) := by
  rw [← hW1]; have := World.alloc_heap_new (W0.alloc (.deferred (some []))) (.loop (rec .ready none)); rwa [World.size_alloc] at this
 have hK1 : W1.heap[W0.heap.size]? = some (.deferred (some [])) := by
  rw [← hW1]; exact (Below.heap_alloc _ _ _ (by simp)).trans (World.alloc_heap_new W0 _)
 have hf1 : Fresh W0 W1 := by rw [← hW1]; exact ((Touch.refl _ W0).alloc _).alloc _
 have hs1 : W1.heap.size = W0.heap.size + 2 := by rw [← hW1]; simp
 refine ⟨W0.heap.size + 1, [{ target := .collected W0.heap.size, args := #[] }], W1, { target := .fn (.func 63) #[.pointer (some ⟨c, 0, none⟩)], args := #[.func (.yield (W0.heap.size + 1)) #[] #[]] }, W1, 63,
  #[.func (.yield (W0.heap.size + 1)) #[] #[]] ++ #[.pointer (some ⟨c, 0, none⟩)], W1, ?_, ?_, ?_, ?_, fun h => by simp [Fence.wide] at h, ?_⟩
 ·rw [← hW1, hrec]; exact run_enterLoop_outer _ _ _ _ _
 ·simp only [resolve, hg]
  simp [go_sem]
 ·intro f' _; trivial
 ·simp [invoke, go_sem]
 ·refine callsIn_wide.2 ((iter_cut L c (W0.heap.size + 1) s
   (fun pre W => I pre W ∧ W.heap[W0.heap.size + 1]? = some (.loop (rec .ready none)) ∧ W.heap[W0.heap.size]? = some (.deferred (some [])) ∧ W0.heap.size + 2 ≤ W.heap.size)
   (fun W => X W ∧ W.heap[W0.heap.size + 1]? = some (.loop { rec .done (some .ret) with state := .done }) ∧ W.heap[W0.heap.size]? = some (.deferred (some [])) ∧ W0.heap.size + 2 ≤ W.heap.size) W1 hm ?_ hcL ?_ (hf1.blk hL (fun h => h)) (hf1.cell hc (fun h => h)) ⟨hI _ _ _ h0 (hf1.mono (fun _ h => h.elim)), hL1, hK1, by omega⟩).mono ?_)
  ·rintro pre W W' ⟨h1, h2, h3, h4⟩ ht
   exact ⟨hI _ _ _ h1 (ht.mono (fun _ h => .inl h)), (ht.block _ (by omega) (by omega)).trans h2, (ht.block _ (by omega) (by omega)).trans h3, Nat.le_trans h4 ht.size⟩
  ·rintro pre x at_ W ⟨hi, hl, hd, hsz⟩ hlx hcx hpre
   have hy := run_yield (P := Tryz.prog) (args := #[ptokV x]) hl (by rw [hrec]; rfl);have hz : ∀ t : Array Value, (((#[13] : Array Tmp).zip #[ptokV x]).foldl (fun tmps (t, a) => tmps.setIfInBounds t a) t) = t.setIfInBounds 13 (ptokV x) := fun t => by simp
   rw [hrec] at hy
   dsimp only at hy
   rw [hz] at hy;refine ⟨fn, _, assign, body, hy, roundIn_of_wpIn hfn (wpIn_mono (hround pre x W hi hsz hpre) ?_)⟩;intro e a1 w1 hp;cases e with
   | normal =>
    obtain ⟨ht1, hb⟩ := hp;have hl1 : w1.heap[W0.heap.size + 1]? = some (.loop (rec .ready none)) := (ht1.block _ (by omega) (fun hn => hn.2.2.2 rfl)).trans hl;have hd1 : w1.heap[W0.heap.size]? = some (.deferred (some [])) := (ht1.block _ (by omega) (fun hn => hn.2.2.1 rfl)).trans hd;have hs2 := ht1.size;refine ⟨_, run_beginRound hl1 (by rw [hrec]), ?_⟩;have ht2 := putObj_touch w1 (W0.heap.size + 1) (.loop { rec .ready none with state := .busy });refine wpIn_mono (hb _ ht2 (by simp)) ?_;intro e3 a3 W3 hp3;cases e3 with
    | normal =>
     obtain ⟨ht3, hi3⟩ := hp3;have hl2 : (w1.putObj (W0.heap.size + 1) (.loop { rec .ready none with state := .busy })).heap[W0.heap.size + 1]? = some (.loop { rec .ready none with state := .busy }) := World.putObj_heap_same (by omega);have hl3 : W3.heap[W0.heap.size + 1]? = some (.loop { rec .ready none with state := .busy }) := (ht3.block _ (by simp; omega) (fun hn => hn.2.2.2 rfl)).trans hl2;have hd3 : W3.heap[W0.heap.size]? = some (.deferred (some [])) := (ht3.block _ (by simp; omega) (fun hn => hn.2.2.1 rfl)).trans ((World.putObj_heap_other (by omega)).trans hd1);have hs3 := ht3.size;simp at hs3
     have hr := run_endRound (P := Tryz.prog) none hl3;have ht4 := putObj_touch W3 (W0.heap.size + 1) (.loop (rec .ready none));have hrr : ({ rec .ready none with state := .busy } : Loop) = { rec .ready none with state := .busy } := rfl;have hre : (({ ({ rec .ready none with state := .busy } : Loop) with state := if (none : Option Code).isNone then .ready else .done, pending := none } : Loop)) = rec .ready none := by rw [hrec]; rfl
     rw [hre] at hr;refine ⟨_, _, hr, .inl ⟨rfl, ⟨hI _ _ _ hi3 (ht4.mono (fun _ h => .inr (.inr h))), World.putObj_heap_same (by omega), (World.putObj_heap_other (by omega)).trans hd3, by simp; omega⟩, ?_, ?_⟩⟩
     ·exact ht4.blk (ht3.blk (ht2.blk (ht1.blk hlx (fun hn => hn.1 rfl)) (by omega)) (fun hn => hn.1 rfl)) (by omega)
     ·exact ht4.cell (ht3.cell (ht2.cell (ht1.cell hcx (fun hn => hn.2.1 rfl)) (by simp; omega)) (fun hn => hn.2.1 rfl)) (by simp; omega)
    | ret =>
     obtain ⟨ht3, hi3⟩ := hp3;have hl2 : (w1.putObj (W0.heap.size + 1) (.loop { rec .ready none with state := .busy })).heap[W0.heap.size + 1]? = some (.loop { rec .ready none with state := .busy }) := World.putObj_heap_same (by omega);have hl3 : W3.heap[W0.heap.size + 1]? = some (.loop { rec .ready none with state := .busy }) := (ht3.block _ (by simp; omega) (fun hn => hn.2.2.2 rfl)).trans hl2;have hd3 : W3.heap[W0.heap.size]? = some (.deferred (some [])) := (ht3.block _ (by simp; omega) (fun hn => hn.2.2.1 rfl)).trans ((World.putObj_heap_other (by omega)).trans hd1);have hs3 := ht3.size;simp at hs3
     have hr := run_endRound (P := Tryz.prog) (some .ret) hl3;have ht4 := putObj_touch W3 (W0.heap.size + 1) (.loop { rec .done (some .ret) with state := .done });have hre : (({ ({ rec .ready none with state := .busy } : Loop) with state := if (some Code.ret).isNone then .ready else .done, pending := some Code.ret } : Loop)) = { rec .done (some .ret) with state := .done } := by rw [hrec]; rfl
     rw [hre] at hr;exact ⟨_, _, hr, .inr ⟨rfl, hX _ _ hi3 (ht4.mono (fun _ h => .inr (.inr h))), World.putObj_heap_same (by omega), (World.putObj_heap_other (by omega)).trans hd3, by simp; omega⟩⟩
    | exit id => exact hp3.elim
    | goto t => exact hp3.elim
    | panic ch => exact hp3.elim
    | outgrown => exact hp3.elim
   | ret => exact hp.elim
   | exit id => exact hp.elim
   | goto t => exact hp.elim
   | panic ch => exact hp.elim
   | outgrown => exact hp.elim
  ·rintro e W2 ⟨rfl, ⟨⟨hi, hl, hd, hsz⟩, hend⟩ | ⟨hx, hl, hd, hsz⟩⟩
   case inr =>
    have hpend : ({ rec .done (some .ret) with state := .done } : Loop).pending = some .ret := by rw [hrec]
    obtain ⟨ob, hend'⟩ : ∃ ob, (Instr.endLoop (W0.heap.size + 1)).run Tryz.prog W2 = .ok (some .ret) (W2.putObj (W0.heap.size + 1) ob) := ⟨_, by
     have := run_endLoop (P := Tryz.prog) hl (by simp);rw [hpend] at this;exact this⟩
    have ht := putObj_touch W2 (W0.heap.size + 1) ob;refine ⟨some .ret, _, hend', ?_⟩;exact wpIn_ret (hcut _ (hX _ _ hx (ht.mono (fun _ h => .inr (.inr h)))) ((World.putObj_heap_other (by omega)).trans hd) (by simp; omega))
   have hpend : (rec .ready none).pending = none := by rw [hrec]
   obtain ⟨ob, hend'⟩ : ∃ ob, (Instr.endLoop (W0.heap.size + 1)).run Tryz.prog W2 = .ok none (W2.putObj (W0.heap.size + 1) ob) := ⟨_, by
    have := run_endLoop (P := Tryz.prog) hl (by rw [hrec]; simp);rw [hpend] at this;exact this⟩
   have ht := putObj_touch W2 (W0.heap.size + 1) ob;refine ⟨none, _, hend', ?_⟩;obtain ⟨a', p', e', h1, h2⟩ := hend;exact hdone _ (hI _ _ _ hi (ht.mono (fun _ h => .inr (.inr h)))) ⟨a', p', e', ht.blk h1 (by omega), h2⟩ ((World.putObj_heap_other (by omega)).trans hd) (by simp; omega)
end Go.Proofs.YtomibmenojdieaaGreat
