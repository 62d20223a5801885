/- Part 4 of 20 of a proof; its texts, joined: RegE, RegF, RegG. No condition. -/
import Derived.Test.YtloipakdnalpdaaQa3
set_option maxRecDepth 100000
namespace Go.Proofs.Ytloipakdnalpdaa
open Go.RowKit
section
variable {P : Program} {md : Region.Mode} {Q : Exit → Act → World → Prop}
def wpPre (P : Program) (l : List Oper) (L : Act → Prop) : List Nat → Act → Prop
 | [], a => L a
 | i :: r, a => match l[i]? with
  | some o => if Region.wanted o (yielded l.toArray a.tmps) then stillV P o a (fun _ => True) (fun a' => wpPre P l L r a') else wpPre P l L r (a.put o.dst undef)
  | none => wpPre P l L r a
theorem wpPre_step {l : List Oper} {L : Act → Prop} {i : Nat} {o : Oper} {r : List Nat} {a : Act} (ho : l[i]? = some o)
  (h : ∀ K : Act → Prop, (∀ a, wpPre P l L r a → K a) → if Region.wanted o (yielded l.toArray a.tmps) then stillV P o a (fun _ => True) K else K (a.put o.dst undef)) : wpPre P l L (i :: r) a := by
 unfold wpPre;rw [ho];exact h _ (fun _ h => h)
theorem wpPre_end {l : List Oper} {L : Act → Prop} {a : Act} (h : L a) : wpPre P l L [] a := h
def preB (md : Region.Mode) (ops : Array Oper) : List Nat → Array Bool → Bool
 | [], _ => true
 | k :: r, listed => (Region.ready md ops listed).contains k && Region.free md ops listed k && preB md ops r (listed.setIfInBounds k true)
theorem pre_closed {l : List Oper} : ∀ (pre : List Nat) (listed : Array Bool), Closed md l.toArray listed → preB md l.toArray pre listed = true → Closed md l.toArray (setAll pre listed)
 | [], _, inv, _ => inv
 | k :: r, listed, inv, hB => by
  simp only [preB, Bool.and_eq_true] at hB;exact pre_closed r _ (inv.put (by simpa using hB.1.1)) hB.2
theorem wpAny_pre {l : List Oper} (hsel : Region.noSelect l.toArray = true) (hQ : ∀ c a d v w, Q (.panic c) (Act.put a d v) w → Q (.panic c) a w) {w : World} {f : Nat} {L : Act → Prop} :
  ∀ (pre : List Nat) (listed : Array Bool) (a : Act), preB md l.toArray pre listed = true → (∀ a', L a' → wpAny P md l.toArray Q f (setAll pre listed) a' w) → wpPre P l L pre a → wpAny P md l.toArray Q (pre.length + f) listed a w
 | [], listed, a, _, hL, h => by rw [List.length_nil, Nat.zero_add]; exact hL a h
 | k :: r, listed, a, hB, hL, h => by
  simp only [preB, Bool.and_eq_true] at hB;obtain ⟨⟨hr, hfr⟩, hB'⟩ := hB;have hr' : k ∈ Region.ready md l.toArray listed := by simpa using hr
  obtain ⟨_, o, ho, _⟩ := mem_ready.1 hr';have ho' : l[k]? = some o := by simpa using ho
  unfold wpPre at h;rw [ho'] at h
  obtain ⟨v, hy, hK⟩ : ∃ v, Yields P l.toArray o v a ∧ wpPre P l L r (a.put o.dst v) := by
   by_cases hw : Region.wanted o (yielded l.toArray a.tmps) = true
   ·simp only [hw, if_true] at h
    obtain ⟨v, h1, h2⟩ := h;exact ⟨v, .inl ⟨hw, fun w => stillUpon_ok (h1 w trivial)⟩, h2⟩
   ·simp only [hw] at h
    exact ⟨undef, .inr ⟨by simpa using hw, rfl⟩, h⟩
  rw [List.length_cons, show r.length + 1 + f = (r.length + f) + 1 by omega];exact wpAny_take ho hsel hfr hr (fun c a w => hQ c a o.dst v w) hy (wpAny_pre hsel hQ r _ _ hB' hL hK)
theorem wp_region_pre {id : Nat} {a : Act} {w : World} {l : List Oper} (pre : List Nat) (segs : List (List (Nat × Bool) × Nat)) (last : List (Nat × Bool)) (hm : P.follows .mixedOrders = true) (hQ : ∀ c a d v w, Q (.panic c) (Act.put a d v) w → Q (.panic c) a w)
  (hB : (Region.noSelect l.toArray && decide (pre.length + mixN segs last = l.toArray.size) && preB .any l.toArray pre (Array.replicate l.toArray.size false) && mixB .any l.toArray segs last (setAll pre (Array.replicate l.toArray.size false))) = true)
  (h : wpPre P l (fun a' => wpMix (fun w w' => ∃ p : Regrown, w' = Go.Sort.grow (redrawn w p.d) p.os) P l Q segs last a' w (w.drewN 1)) pre a) : (Code.region id l.toArray true).wp P Q a w := by
 simp only [Bool.and_eq_true, decide_eq_true_eq] at hB;obtain ⟨⟨⟨hsel, hn⟩, hp⟩, hB⟩ := hB;refine wp_region_any hm ?_;rw [← hn];rw [← hn] at hp hB;refine wpAny_pre hsel hQ pre _ a hp (fun a' h' => ?_) h;exact wpAny_of_mix Growing.refl hsel hQ segs last _ a' w _ (pre_closed pre _ ⟨by simp [hn], fun j oj _ hl => by rw [getD_repl] at hl; cases hl⟩ hp) hB (Growing.drew w) h'
end
theorem wp_region_in {P : Program} {Q : Exit → Act → World → Prop} {id : Nat} {a : Act} {w : World} {l : List Oper} (C : World → Prop) (last : List (Nat × Bool)) (hm : P.follows .mixedOrders = true) (hQ : ∀ c a d v w, Q (.panic c) (Act.put a d v) w → Q (.panic c) a w)
  (hB : (Region.noSelect l.toArray && decide (last.length = l.toArray.size) && (shutB .any l.toArray (last.map (·.1)) none (Array.replicate l.toArray.size false) && seqB .any l.toArray last (Array.replicate l.toArray.size false) && (Region.ready .any l.toArray (setAll (last.map (·.1)) (Array.replicate l.toArray.size false))).isEmpty)) = true)
  (hC : C (w.drewN 1)) (h : wpSeq P l Q C (fun a' w' => Q .normal a' w') last a (w.drewN 1)) : (Code.region id l.toArray true).wp P Q a w := by
 simp only [Bool.and_eq_true, decide_eq_true_eq, List.isEmpty_iff] at hB;obtain ⟨⟨hsel, hn⟩, ⟨hs, hl⟩, hr⟩ := hB;refine wp_region_any hm ?_;rw [← hn];rw [← hn] at hs hl hr;have inv : Closed .any l.toArray (Array.replicate last.length false) := ⟨by simp [hn], fun j oj _ hl => by rw [getD_repl] at hl; cases hl⟩;have hz : ZInv .any l.toArray (last.map (·.1)) (Array.replicate last.length false) (Array.replicate last.length false) := ⟨inv, fun _ h => h, fun _ h => .inl h⟩;have := wpAnyU_seq (P := P) (C := C) (Q := Q) (fin := setAll (last.map (·.1)) (Array.replicate last.length false)) (Lq := fun a' w' => Q .normal a' w') hsel hQ hs (by rw [hr]; simp) last _ a (w.drewN 1) (fun k hk => List.mem_map.2 ⟨k, hk, rfl⟩) hz hl rfl hC h;exact wpAny_of_U (g := 0) (fun listed' a' w' _ hL => wpAny_done (by rw [hL.1]; exact hr) hL.2 0) last.length _ a _ hC this
theorem wp_region_plan_in {P : Program} {Q : Exit → Act → World → Prop} {id : Nat} {a : Act} {w : World} {l : List Oper} (C : World → Prop) (p : Plan) (ns : List Nat) (fin : Array Bool) (hm : P.follows .mixedOrders = true) (hQ : ∀ c a d v w, Q (.panic c) (Act.put a d v) w → Q (.panic c) a w)
  (hB : (Region.noSelect l.toArray && decide (p.len = l.toArray.size) && p.within ns && planB .any l.toArray fin p (Array.replicate l.toArray.size false) && shutB .any l.toArray ns none (Array.replicate l.toArray.size false) && (Region.ready .any l.toArray fin).isEmpty) = true)
  (hC : C (w.drewN 1)) (h : wpPlan P l Q C (fun a' w' => Q .normal a' w') p a (w.drewN 1)) : (Code.region id l.toArray true).wp P Q a w := by
 simp only [Bool.and_eq_true, decide_eq_true_eq, List.isEmpty_iff] at hB;obtain ⟨⟨⟨⟨⟨hsel, hn⟩, hin⟩, hp⟩, hs⟩, hr⟩ := hB;refine wp_region_any hm ?_;rw [← hn];rw [← hn] at hp hs
 have hz : ZInv .any l.toArray ns (Array.replicate p.len false) (Array.replicate p.len false) :=
  ⟨⟨by simp [hn], fun j oj _ hl => by rw [getD_repl] at hl; cases hl⟩, fun _ h => h, fun _ h => .inl h⟩
 have := wpAnyU_plan (P := P) (Q := Q) (fin := fin) hsel hQ hs (by rw [hr]; simp) p _ a (w.drewN 1) hin hz hp hC h;exact wpAny_of_U (g := 0) (fun listed' a' w' _ hL => wpAny_done (by rw [hL.1]; exact hr) hL.2 0) p.len _ a _ hC this
end Go.Proofs.Ytloipakdnalpdaa
