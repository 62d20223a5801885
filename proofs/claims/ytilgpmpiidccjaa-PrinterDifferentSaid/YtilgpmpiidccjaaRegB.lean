/- The law of Reg over whatever class of worlds the quiet stretches end in; and at the class of worlds that have only grown. -/
import Derived.Test.YtilgpmpiidccjaaReg
import Derived.Lib.QuietBelow
namespace Go.Proofs.Ytilgpmpiidccjaa
open Go.RowKit

section
variable {P : Program} {ops : Array Oper} {md : Region.Mode} {C : World → Prop}
/-- The walk: each quiet stretch in a class of worlds; each lone operation as in a plain region. -/
def wpSegsC (Cl : World → World → Prop) (P : Program) (l : List Oper) (Q : Exit → Act → World → Prop) : List (List Nat × Nat) → List Nat → Act → World → Prop
  | [], last, a, w => wpQuiet P l.toArray (fun w' => Cl w w') (fun a' => ∀ w', Cl w w' → Q .normal a' w') (pick l last) a
  | (qs, t) :: segs, last, a, w => wpQuiet P l.toArray (fun w' => Cl w w')
      (fun a' => ∀ w', Cl w w' → wpList P l.toArray (Exit.then (wpSegsC Cl P l Q segs last) Q) (pick l [t]) a' w') (pick l qs) a

theorem wpAny_of_segsC {Cl : World → World → Prop} (hrefl : ∀ w, Cl w w) {l : List Oper} {Q : Exit → Act → World → Prop} (hsel : Region.noSelect l.toArray = true) : ∀ (segs : List (List Nat × Nat)) (last : List Nat) (listed : Array Bool) (a : Act) (w w0 : World),
    Closed md l.toArray listed → segsB md l.toArray segs last listed = true → Cl w0 w → wpSegsC Cl P l Q segs last a w0 → wpAny P md l.toArray Q (segsN segs last) listed a w
  | [], last, listed, a, w, w0, inv, hB, hC, h => by
    simp only [segsB, Bool.and_eq_true, List.isEmpty_iff] at hB
    obtain ⟨⟨hs, hl⟩, hr⟩ := hB
    have hz : ZInv md l.toArray last listed listed := ⟨inv, fun _ h => h, fun _ h => .inl h⟩
    have := wpAnyZ_lex (P := P) (C := fun w' => Cl w0 w') (fin := setAll last listed) (Lq := fun a' => ∀ w', Cl w0 w' → Q .normal a' w') hsel hs (by rw [hr]; simp) last listed a (fun _ h => h) hz hl rfl h
    refine wpAny_of_Z (g := 0) (fun listed' a' w' hC' hL => ?_) last.length listed a w hC this
    exact wpAny_done (by rw [hL.1]; exact hr) (hL.2 w' hC') 0
  | (qs, t) :: segs, last, listed, a, w, w0, inv, hB, hC, h => by
    simp only [segsB, Bool.and_eq_true, decide_eq_true_eq, Bool.not_eq_true'] at hB
    obtain ⟨⟨⟨⟨hs, hl⟩, hr⟩, ht⟩, hB'⟩ := hB
    have hz : ZInv md l.toArray qs listed listed := ⟨inv, fun _ h => h, fun _ h => .inl h⟩
    have hz' := closed_after qs listed (fun _ h => h) hz hl
    have htr : t ∈ Region.ready md l.toArray (setAll qs listed) := by rw [hr]; simp
    have htn : t ∉ qs := by simpa using ht
    obtain ⟨_, ot, hot, _⟩ := mem_ready.1 htr
    have := wpAnyZ_lex (P := P) (C := fun w' => Cl w0 w') (fin := setAll qs listed) (Lq := fun a' => ∀ w', Cl w0 w' → wpList P l.toArray (Exit.then (wpSegsC Cl P l Q segs last) Q) (pick l [t]) a' w') hsel hs
      (by rw [hr]; intro j hj; rw [List.mem_singleton.1 hj]; exact htn) qs listed a (fun _ h => h) hz hl rfl h
    refine wpAny_of_Z (g := segsN segs last + 1) (fun listed' a' w' hC' hL => ?_) qs.length listed a w hC this
    refine wpAny_all (rs := [t]) (by rw [hL.1]; exact hr) (by simp) (fun i hi => ?_)
    rw [List.mem_singleton.1 hi, hL.1]
    exact wpOp_mono (fun a'' w'' h'' => wpAny_of_segsC hrefl hsel segs last _ a'' w'' w'' (hz'.closed.put htr) hB' (hrefl _) h'') (wpOp_of_single hot (hL.2 w' hC'))

/-- **A region that draws its order, walked in one order.** -/
theorem wp_region_segsC (Cl : World → World → Prop) (hrefl : ∀ w, Cl w w) (hdrew : ∀ w, Cl w (w.drewN 1)) {id : Nat} {Q : Exit → Act → World → Prop} {a : Act} {w : World} {l : List Oper} (segs : List (List Nat × Nat)) (last : List Nat) (hm : P.follows .mixedOrders = true)
    (hB : (Region.noSelect l.toArray && decide (segsN segs last = l.toArray.size) && segsB .any l.toArray segs last (Array.replicate l.toArray.size false)) = true)
    (h : wpSegsC Cl P l Q segs last a w) : (Code.region id l.toArray true).wp P Q a w := by
  simp only [Bool.and_eq_true, decide_eq_true_eq] at hB
  obtain ⟨⟨hsel, hn⟩, hB⟩ := hB
  refine wp_region_any hm ?_
  rw [← hn]
  rw [← hn] at hB
  exact wpAny_of_segsC hrefl hsel segs last _ a _ w ⟨by simp [hn], fun j oj _ hl => by rw [getD_repl] at hl; cases hl⟩ hB (hdrew w) h
end

/-- The worlds that have only grown since. -/
def Growing (w w' : World) : Prop := ∃ p : Regrown, w' = Go.Sort.grow (redrawn w p.d) p.os
theorem Growing.refl (w : World) : Growing w w := ⟨⟨w.drawn, #[]⟩, by rw [Go.Sort.grow_empty]; rfl⟩
theorem Growing.drew (w : World) : Growing w (w.drewN 1) := ⟨⟨w.drawn + 1, #[]⟩, by rw [Go.Sort.grow_empty]; rfl⟩

theorem wp_region_segs_below {P : Program} {id : Nat} {Q : Exit → Act → World → Prop} {a : Act} {w : World} {l : List Oper} (segs : List (List Nat × Nat)) (last : List Nat) (hm : P.follows .mixedOrders = true)
    (hB : (Region.noSelect l.toArray && decide (segsN segs last = l.toArray.size) && segsB .any l.toArray segs last (Array.replicate l.toArray.size false)) = true)
    (h : wpSegsC (fun w w' => ∃ p : Regrown, w' = Go.Sort.grow (redrawn w p.d) p.os) P l Q segs last a w) : (Code.region id l.toArray true).wp P Q a w :=
  wp_region_segsC _ Growing.refl Growing.drew segs last hm hB h

/-- A call that leaves all that was there, in any world that has only grown since. -/
theorem calmP {P : Program} {f : Nat} {args : Array Value} {v : Value} (h : ∀ w, Calls P f args w fun e w' => e = .returned v ∧ Fresh w w') (W : World) :
    ∀ d os, Calls P f args (Go.Sort.grow (redrawn W d) os) fun e w'' => e = .returned v ∧ ∃ p : Regrown, w'' = Go.Sort.grow (redrawn W p.d) p.os :=
  fun _ _ => Calls.regrown_of ((h _).mono fun _ _ h => ⟨h.1, h.2.below⟩)
end Go.Proofs.Ytilgpmpiidccjaa
