/- Part 4 of 15 of a proof; its texts, joined: RegG. No condition. -/
import Derived.Test.YtnkmccgpmmnfeaaDoorXa3
set_option maxRecDepth 100000
namespace Go.Proofs.YtnkmccgpmmnfeaaDoor
open Go.RowKit
theorem wp_region_plan_in {P : Program} {Q : Exit → Act → World → Prop} {id : Nat} {a : Act} {w : World} {l : List Oper} (C : World → Prop) (p : Plan) (ns : List Nat) (fin : Array Bool) (hm : P.follows .mixedOrders = true) (hQ : ∀ c a d v w, Q (.panic c) (Act.put a d v) w → Q (.panic c) a w)
  (hB : (Region.noSelect l.toArray && decide (p.len = l.toArray.size) && p.within ns && planB .any l.toArray fin p (Array.replicate l.toArray.size false) && shutB .any l.toArray ns none (Array.replicate l.toArray.size false) && (Region.ready .any l.toArray fin).isEmpty) = true)
  (hC : C (w.drewN 1)) (h : wpPlan P l Q C (fun a' w' => Q .normal a' w') p a (w.drewN 1)) : (Code.region id l.toArray true).wp P Q a w := by
 simp only [Bool.and_eq_true, decide_eq_true_eq, List.isEmpty_iff] at hB;obtain ⟨⟨⟨⟨⟨hsel, hn⟩, hin⟩, hp⟩, hs⟩, hr⟩ := hB;refine wp_region_any hm ?_;rw [← hn];rw [← hn] at hp hs
 have hz : ZInv .any l.toArray ns (Array.replicate p.len false) (Array.replicate p.len false) :=
  ⟨⟨by simp [hn], fun j oj _ hl => by rw [getD_repl] at hl; cases hl⟩, fun _ h => h, fun _ h => .inl h⟩
 have := wpAnyU_plan (P := P) (Q := Q) (fin := fin) hsel hQ hs (by rw [hr]; simp) p _ a (w.drewN 1) hin hz hp hC h;exact wpAny_of_U (g := 0) (fun listed' a' w' _ hL => wpAny_done (by rw [hL.1]; exact hr) hL.2 0) p.len _ a _ hC this
end Go.Proofs.YtnkmccgpmmnfeaaDoor
