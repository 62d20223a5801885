/- A range over the lexer's tokens, by one law. -/
import Derived.Test.YtleclhmdcdichaaLxT
namespace Go.Proofs.Ytleclhmdcdichaa
open Go.RowKit

/-- What a round may turn: nothing of the lexer's, of the loop's record, of the block for deferred calls. -/
def NotOurs (L c D : Nat) (k : Nat) : Prop := k ≠ L ∧ k ≠ c ∧ k ≠ D ∧ k ≠ D + 1

def RoundPost (L c D : Nat) (I : World → Prop) (W2 : World) : Exit → Act → World → Prop
  | .normal, _, W3 => Touch (NotOurs L c D) W2 W3 ∧ I W3
  | _, _, _ => False

theorem putObj_touch (W : World) (l : Nat) (o : Obj) : Touch (· = l) W (W.putObj l o) :=
  ⟨rfl, rfl, rfl, by simp, fun _ _ hn => World.putObj_heap_other hn⟩

set_option maxHeartbeats 1000000 in
/-- A range over the lexer's tokens. -/
theorem wp_range_toks {assign body : Code} {Q : Exit → Act → World → Prop} {a : Act} {W0 : World} {L c : Nat} {s : ByteArray}
    (hg : a.eval (.tmp 12) = .func (.func 23) #[] #[.pointer (some ⟨c, 0, none⟩)]) (hm : s.size ≤ 1000000000) (hcL : c ≠ L) (hc : W0.cell? ⟨c, 0, none⟩ = some (.pointer (some ⟨L, 0, none⟩))) (hL : LexAt W0 L s 0 0 0)
    (I : List Lx.PTok → World → Prop) (hI : ∀ pre W W', I pre W → Touch (fun k => k = L ∨ k = W0.heap.size ∨ k = W0.heap.size + 1) W W' → I pre W') (h0 : I [] W0)
    (hround : ∀ pre x W, I pre W → W0.heap.size + 2 ≤ W.heap.size → pre ++ [x] <+: (Lx.lexAll s.data.toList).1 →
      assign.wpIn (Fence.wide.inRound (W0.heap.size + 1)) 1 Try.prog (Exit.then (fun a₁ W1 => Touch (NotOurs L c W0.heap.size) W W1 ∧ ∀ W2, Touch (· = W0.heap.size + 1) W1 W2 → W2.heap.size = W1.heap.size →
          body.wpIn (Fence.wide.inRound (W0.heap.size + 1)) 1 Try.prog (RoundPost L c W0.heap.size (I (pre ++ [x])) W2) a₁ W2) (fun _ _ _ => False))
        { tmps := a.tmps.setIfInBounds 13 (ptokV x), defers := [] } W)
    (hdone : ∀ W, I (Lx.lexAll s.data.toList).1 W → LexEnd W L s (Lx.lexAll s.data.toList).2 → W.heap[W0.heap.size]? = some (.deferred (some [])) → W0.heap.size + 2 ≤ W.heap.size →
      Q .normal { a with defers := { target := .collected W0.heap.size, args := #[] } :: a.defers } W) :
    (Code.rangeFunc (.tmp 12) #[13] assign body).wp Try.prog Q a W0 := by
  have hcl : c < W0.heap.size := block_lt_of_cell hc
  have hLl := hL.lt
  refine (wpIn_wide (n := 4)).1 (wpIn_rangeFunc ?_)
  intro fn hfn
  obtain ⟨rec, hrec⟩ : ∃ rec : LoopState → Option Code → Loop, rec = fun st pe => { state := st, pending := pe, fn, tmps := a.tmps, params := #[13], assign, body, defers := W0.heap.size } := ⟨_, rfl⟩
  obtain ⟨W1, hW1⟩ : ∃ W1, (W0.alloc (.deferred (some []))).alloc (.loop (rec .ready none)) = W1 := ⟨_, rfl⟩
  have hL1 : W1.heap[W0.heap.size + 1]? = some (.loop (rec .ready none)) := by
    rw [← hW1]; have := World.alloc_heap_new (W0.alloc (.deferred (some []))) (.loop (rec .ready none)); rwa [World.size_alloc] at this
  have hK1 : W1.heap[W0.heap.size]? = some (.deferred (some [])) := by
    rw [← hW1]; exact (Below.heap_alloc _ _ _ (by simp)).trans (World.alloc_heap_new W0 _)
  have hf1 : Fresh W0 W1 := by rw [← hW1]; exact ((Touch.refl _ W0).alloc _).alloc _
  have hs1 : W1.heap.size = W0.heap.size + 2 := by rw [← hW1]; simp
  refine ⟨W0.heap.size + 1, [{ target := .collected W0.heap.size, args := #[] }], W1, { target := .fn (.func 23) #[.pointer (some ⟨c, 0, none⟩)], args := #[.func (.yield (W0.heap.size + 1)) #[] #[]] }, W1, 23,
    #[.func (.yield (W0.heap.size + 1)) #[] #[]] ++ #[.pointer (some ⟨c, 0, none⟩)], W1, ?_, ?_, ?_, ?_, fun h => by simp [Fence.wide] at h, ?_⟩
  · rw [← hW1, hrec]; exact run_enterLoop_outer _ _ _ _ _
  · simp only [resolve, hg]
    simp [go_sem]
  · intro f' _; trivial
  · simp [invoke, go_sem]
  · refine callsIn_wide.2 ((iter_any L c (W0.heap.size + 1) s
      (fun pre W => I pre W ∧ W.heap[W0.heap.size + 1]? = some (.loop (rec .ready none)) ∧ W.heap[W0.heap.size]? = some (.deferred (some [])) ∧ W0.heap.size + 2 ≤ W.heap.size) W1 hm ?_ hcL ?_ (hf1.blk hL (fun h => h)) (hf1.cell hc (fun h => h)) ⟨hI _ _ _ h0 (hf1.mono (fun _ h => h.elim)), hL1, hK1, by omega⟩).mono ?_)
    · rintro pre W W' ⟨h1, h2, h3, h4⟩ ht
      exact ⟨hI _ _ _ h1 (ht.mono (fun _ h => .inl h)), (ht.block _ (by omega) (by omega)).trans h2, (ht.block _ (by omega) (by omega)).trans h3, Nat.le_trans h4 ht.size⟩
    · rintro pre x at_ W ⟨hi, hl, hd, hsz⟩ hlx hcx hpre
      have hy := run_yield (P := Try.prog) (args := #[ptokV x]) hl (by rw [hrec]; rfl)
      have hz : ∀ t : Array Value, (((#[13] : Array Tmp).zip #[ptokV x]).foldl (fun tmps (t, a) => tmps.setIfInBounds t a) t) = t.setIfInBounds 13 (ptokV x) := fun t => by simp
      rw [hrec] at hy
      dsimp only at hy
      rw [hz] at hy
      refine ⟨fn, _, assign, body, hy, roundIn_of_wpIn hfn (wpIn_mono (hround pre x W hi hsz hpre) ?_)⟩
      intro e a1 w1 hp
      cases e with
      | normal =>
        obtain ⟨ht1, hb⟩ := hp
        have hl1 : w1.heap[W0.heap.size + 1]? = some (.loop (rec .ready none)) := (ht1.block _ (by omega) (fun hn => hn.2.2.2 rfl)).trans hl
        have hd1 : w1.heap[W0.heap.size]? = some (.deferred (some [])) := (ht1.block _ (by omega) (fun hn => hn.2.2.1 rfl)).trans hd
        have hs2 := ht1.size
        refine ⟨_, run_beginRound hl1 (by rw [hrec]), ?_⟩
        have ht2 := putObj_touch w1 (W0.heap.size + 1) (.loop { rec .ready none with state := .busy })
        refine wpIn_mono (hb _ ht2 (by simp)) ?_
        intro e3 a3 W3 hp3
        cases e3 with
        | normal =>
          obtain ⟨ht3, hi3⟩ := hp3
          have hl2 : (w1.putObj (W0.heap.size + 1) (.loop { rec .ready none with state := .busy })).heap[W0.heap.size + 1]? = some (.loop { rec .ready none with state := .busy }) := World.putObj_heap_same (by omega)
          have hl3 : W3.heap[W0.heap.size + 1]? = some (.loop { rec .ready none with state := .busy }) := (ht3.block _ (by simp; omega) (fun hn => hn.2.2.2 rfl)).trans hl2
          have hd3 : W3.heap[W0.heap.size]? = some (.deferred (some [])) := (ht3.block _ (by simp; omega) (fun hn => hn.2.2.1 rfl)).trans ((World.putObj_heap_other (by omega)).trans hd1)
          have hs3 := ht3.size
          simp at hs3
          have hr := run_endRound (P := Try.prog) none hl3
          have ht4 := putObj_touch W3 (W0.heap.size + 1) (.loop (rec .ready none))
          have hrr : ({ rec .ready none with state := .busy } : Loop) = { rec .ready none with state := .busy } := rfl
          have hre : (({ ({ rec .ready none with state := .busy } : Loop) with state := if (none : Option Code).isNone then .ready else .done, pending := none } : Loop)) = rec .ready none := by rw [hrec]; rfl
          rw [hre] at hr
          refine ⟨_, _, hr, rfl, ⟨hI _ _ _ hi3 (ht4.mono (fun _ h => .inr (.inr h))), World.putObj_heap_same (by omega), (World.putObj_heap_other (by omega)).trans hd3, by simp; omega⟩, ?_, ?_⟩
          · exact ht4.blk (ht3.blk (ht2.blk (ht1.blk hlx (fun hn => hn.1 rfl)) (by omega)) (fun hn => hn.1 rfl)) (by omega)
          · exact ht4.cell (ht3.cell (ht2.cell (ht1.cell hcx (fun hn => hn.2.1 rfl)) (by simp; omega)) (fun hn => hn.2.1 rfl)) (by simp; omega)
        | ret => exact hp3.elim
        | exit id => exact hp3.elim
        | goto t => exact hp3.elim
        | panic ch => exact hp3.elim
        | outgrown => exact hp3.elim
      | ret => exact hp.elim
      | exit id => exact hp.elim
      | goto t => exact hp.elim
      | panic ch => exact hp.elim
      | outgrown => exact hp.elim
    · rintro e W2 ⟨rfl, ⟨hi, hl, hd, hsz⟩, hend⟩
      have hpend : (rec .ready none).pending = none := by rw [hrec]
      obtain ⟨ob, hend'⟩ : ∃ ob, (Instr.endLoop (W0.heap.size + 1)).run Try.prog W2 = .ok none (W2.putObj (W0.heap.size + 1) ob) := ⟨_, by
        have := run_endLoop (P := Try.prog) hl (by rw [hrec]; simp)
        rw [hpend] at this
        exact this⟩
      have ht := putObj_touch W2 (W0.heap.size + 1) ob
      refine ⟨none, _, hend', ?_⟩
      obtain ⟨a', p', e', h1, h2⟩ := hend
      exact hdone _ (hI _ _ _ hi (ht.mono (fun _ h => .inr (.inr h)))) ⟨a', p', e', ht.blk h1 (by omega), h2⟩ ((World.putObj_heap_other (by omega)).trans hd) (by simp; omega)

end Go.Proofs.Ytleclhmdcdichaa
