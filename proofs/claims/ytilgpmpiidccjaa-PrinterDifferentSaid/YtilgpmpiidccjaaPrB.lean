/- The printer in memory. -/
import Derived.Test.YtilgpmpiidccjaaPrA
import Derived.Test.YtilgpmpiidccjaaPrM
import Derived.Test.YtilgpmpiidccjaaBls
namespace Go.Proofs.Ytilgpmpiidccjaa
open Go.RowKit

def ptokCellsP (x : Lx.PTok) : List Value := [.int .i64 x.kind, .string ⟨x.text.toArray⟩, .int .i64 x.from_, .int .i64 x.to_]

/-- The printer lies in block p: its tokens, and a builder with its text; both rows lie from block B on. -/
structure Pr (w : World) (p B : Nat) (vt vb : Value) (cs : Array Value) (toks : List Lx.PTok) (txt : List UInt8) : Prop where
  lt : p < B
  bld : Bld w B p 1 65 cs vb txt
  size : cs.size = 3
  tok : cs[0]? = some vt
  own : w.ownsRow B 74 4 vt toks.length (toks.flatMap ptokCellsP)

/-- The blocks that a printer may turn: its own, and rows of tokens and of bytes from B on. -/
def PS (p B : Nat) (w : World) (k : Nat) : Prop := k = p ∨ (B ≤ k ∧ ∃ cur e fr, w.heap[k]? = some (.cells cur e fr) ∧ (e = 74 ∨ e = 5))

theorem PS.trans {p B : Nat} {a b c : World} (h : Touch (PS p B a) a b) (k : Touch (PS p B b) b c) : Touch (PS p B a) a c := by
  refine ⟨k.os.trans h.os, k.tape.trans h.tape, k.output.trans h.output, Nat.le_trans h.size k.size, fun i hi hn => ?_⟩
  have h1 := h.block i hi hn
  refine (k.block i (Nat.lt_of_lt_of_le hi h.size) fun hs => hn ?_).trans h1
  rcases hs with hs | ⟨h2, cur, e, fr, h3, h4⟩
  · exact .inl hs
  · exact .inr ⟨h2, cur, e, fr, by rw [← h1]; exact h3, h4⟩
theorem PS.fresh {p B : Nat} {a b : World} (h : Fresh a b) : Touch (PS p B a) a b := h.mono fun _ h => h.elim
theorem PS.freshL {p B : Nat} {a b c : World} (h : Fresh a b) (k : Touch (PS p B b) b c) : Touch (PS p B a) a c := PS.trans (PS.fresh h) k
theorem PS.freshR {p B : Nat} {a b c : World} (h : Touch (PS p B a) a b) (k : Fresh b c) : Touch (PS p B a) a c := PS.trans h (PS.fresh k)

theorem owns_type {w : World} {B e size n g : Nat} {v : Value} {xs : List Value} (h : w.ownsRow B e size v n xs) (hg : v.ownBlock = some g) : B ≤ g ∧ ∃ cur, w.heap[g]? = some (.cells cur e (0, 0)) := by
  rcases h.2 with ⟨h1, _⟩ | ⟨g', cap, cur, h1, h2, h3, _⟩
  · rw [h1] at hg; cases hg
  · rw [h1] at hg
    simp only [Value.ownBlock, Option.some.injEq] at hg
    subst hg
    exact ⟨h2, cur, h3⟩

/-- A box of another type stays. -/
theorem PS.blk {p B g : Nat} {t : TypeId} {cs : Array Value} {a b : World} (h : Touch (PS p B a) a b) (hb : Blk a g t cs) (hp : g ≠ p) (h1 : t ≠ 74) (h2 : t ≠ 5) : Blk b g t cs := by
  refine h.blk hb ?_
  rintro (hs | ⟨_, cur, e, fr, h3, h4⟩)
  · exact hp hs
  · unfold Blk at hb
    rw [hb] at h3
    cases h3
    rcases h4 with h4 | h4
    · exact h1 h4
    · exact h2 h4
/-- What lies below B, and is not the printer, stays. -/
theorem PS.old {p B : Nat} {a b : World} (h : Touch (PS p B a) a b) {q : Addr} {v : Value} (hc : a.cell? q = some v) (h1 : q.block < B) (h2 : q.block ≠ p) : b.cell? q = some v := by
  refine h.cell hc ?_
  rintro (hs | ⟨h3, _⟩)
  · exact h2 hs
  · omega

theorem Pr.fresh {w w' : World} {p B : Nat} {vt vb : Value} {cs : Array Value} {toks : List Lx.PTok} {txt : List UInt8} (h : Pr w p B vt vb cs toks txt) (hf : Fresh w w') : Pr w' p B vt vb cs toks txt :=
  ⟨h.lt, ⟨hf.blk h.bld.blk (fun h => h), h.bld.addr, h.bld.buf, ownsRow_touch h.bld.own hf (fun _ _ h => h), h.bld.ne, h.bld.nilv⟩, h.size, h.tok, ownsRow_touch h.own hf (fun _ _ h => h)⟩

theorem Pr.touch {S : Nat → Prop} {w w' : World} {p B : Nat} {vt vb : Value} {cs : Array Value} {toks : List Lx.PTok} {txt : List UInt8} (h : Pr w p B vt vb cs toks txt) (ht : Touch S w w') (h1 : ¬ S p) (h2 : ∀ k, vt.ownBlock = some k → ¬ S k) (h3 : ∀ k, vb.ownBlock = some k → ¬ S k) : Pr w' p B vt vb cs toks txt :=
  ⟨h.lt, ⟨ht.blk h.bld.blk h1, h.bld.addr, h.bld.buf, ownsRow_touch h.bld.own ht h3, h.bld.ne, h.bld.nilv⟩, h.size, h.tok, ownsRow_touch h.own ht h2⟩
theorem Pr.vt_lt {w : World} {p B : Nat} {vt vb : Value} {cs : Array Value} {toks : List Lx.PTok} {txt : List UInt8} (h : Pr w p B vt vb cs toks txt) : ∀ k, vt.ownBlock = some k → k < w.heap.size := fun k hk => by
  obtain ⟨_, cur, h2⟩ := owns_type h.own hk
  exact (Array.getElem?_eq_some_iff.1 h2).1
theorem Pr.vb_lt {w : World} {p B : Nat} {vt vb : Value} {cs : Array Value} {toks : List Lx.PTok} {txt : List UInt8} (h : Pr w p B vt vb cs toks txt) : ∀ k, vb.ownBlock = some k → k < w.heap.size := fun k hk => by
  obtain ⟨_, cur, h2⟩ := owns_type h.bld.own hk
  exact (Array.getElem?_eq_some_iff.1 h2).1
/-- The bytes' block is no block of another type. -/
theorem Pr.vb_ne {w : World} {p B g : Nat} {vt vb : Value} {cs : Array Value} {toks : List Lx.PTok} {txt : List UInt8} (h : Pr w p B vt vb cs toks txt) {t : TypeId} {xs : Array Value} (hb : Blk w g t xs) (ht : t ≠ 5) : vb.ownBlock ≠ some g := fun hk => by
  obtain ⟨_, cur, h2⟩ := owns_type h.bld.own hk
  unfold Blk at hb
  rw [hb] at h2
  cases h2
  exact ht rfl

/-- The builder's own blocks are among those that a printer may turn. -/
theorem PS.bld {w w' : World} {p B : Nat} {vt vb : Value} {cs : Array Value} {toks : List Lx.PTok} {txt : List UInt8} (h : Pr w p B vt vb cs toks txt) (ht : Touch (fun k => k = p ∨ vb.ownBlock = some k) w w') : Touch (PS p B w) w w' :=
  ht.mono fun k hk => hk.elim .inl fun hk => by
    obtain ⟨h1, cur, h2⟩ := owns_type h.bld.own hk
    exact .inr ⟨h1, cur, _, _, h2, .inr rfl⟩

/-- Behind a writing of the builder the tokens are as they were. -/
theorem Pr.wrote {w w' : World} {p B : Nat} {vt vb vb' : Value} {cs : Array Value} {toks : List Lx.PTok} {txt txt' : List UInt8} (h : Pr w p B vt vb cs toks txt)
    (hb : Bld w' B p 1 65 ((cs.setIfInBounds 1 (.pointer (some ⟨p, 1, none⟩))).setIfInBounds (1 + 1) vb') vb' txt') (ht : Touch (fun k => k = p ∨ vb.ownBlock = some k) w w') :
    Pr w' p B vt vb' ((cs.setIfInBounds 1 (.pointer (some ⟨p, 1, none⟩))).setIfInBounds (1 + 1) vb') toks txt' := by
  refine ⟨h.lt, hb, by simp [h.size], ?_, ownsRow_touch h.own ht ?_⟩
  · rw [Array.getElem?_setIfInBounds_ne (by decide), Array.getElem?_setIfInBounds_ne (by decide)]; exact h.tok
  · intro k hk hs
    obtain ⟨h1, cur, h2⟩ := owns_type h.own hk
    rcases hs with hs | hs
    · have := h.lt; omega
    · obtain ⟨_, cur', h3⟩ := owns_type h.bld.own hs
      rw [h2] at h3
      simp at h3
end Go.Proofs.Ytilgpmpiidccjaa
