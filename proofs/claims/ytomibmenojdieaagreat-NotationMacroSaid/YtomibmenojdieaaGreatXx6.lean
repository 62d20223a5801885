/- Part 6 of 42 of a proof; its texts, joined: RegD, RegG, RegH. No condition. -/
import Derived.Test.YtomibmenojdieaaGreatXx5
import Derived.OrdersIn
import Derived.TacticsIn
import Derived.Deep.Draws
set_option maxRecDepth 100000
namespace Go.Proofs.YtomibmenojdieaaGreat
open Go.RowKit
section
variable {P : Program} {ops : Array Oper} {md : Region.Mode} {C : World → Prop} {Q : Exit → Act → World → Prop}
inductive Plan where
 | nil
 | plain (i : Nat) (r : Plan)
 | lone (i : Nat) (r : Plan)
 | fork (i : Nat) (p : Plan) (j : Nat) (q : Plan)
def Plan.of : List (Nat × Bool) → Plan → Plan
 | [], r => r
 | (i, true) :: l, r => .plain i (Plan.of l r)
 | (i, false) :: l, r => .lone i (Plan.of l r)
def Plan.len : Plan → Nat
 | .nil => 0
 | .plain _ r => r.len + 1
 | .lone _ r => r.len + 1
 | .fork _ p _ _ => p.len + 1
def Plan.within (ns : List Nat) : Plan → Bool
 | .nil => true
 | .plain i r => ns.contains i && r.within ns
 | .lone i r => ns.contains i && r.within ns
 | .fork i p j q => ns.contains i && p.within ns && ns.contains j && q.within ns
def planB (md : Region.Mode) (ops : Array Oper) (fin : Array Bool) : Plan → Array Bool → Bool
 | .nil, listed => decide (listed = fin)
 | .plain k r, listed => (Region.ready md ops listed).contains k && Region.free md ops listed k && planB md ops fin r (listed.setIfInBounds k true)
 | .lone k r, listed => decide (Region.ready md ops listed = [k]) && planB md ops fin r (listed.setIfInBounds k true)
 | .fork i p j q, listed => decide (Region.ready md ops listed = [i, j]) && decide (p.len = q.len) && planB md ops fin p (listed.setIfInBounds i true) && planB md ops fin q (listed.setIfInBounds j true)
def wpPlan (P : Program) (l : List Oper) (Q : Exit → Act → World → Prop) (C : World → Prop) (L : Act → World → Prop) : Plan → Act → World → Prop
 | .nil, a, w => L a w
 | .plain i r, a, w => match l[i]? with
  | some o => if Region.wanted o (yielded l.toArray a.tmps) then stillV P o a C (fun a' => wpPlan P l Q C L r a' w) else wpPlan P l Q C L r (a.put o.dst undef) w
  | none => wpPlan P l Q C L r a w
 | .lone i r, a, w => wpList P l.toArray (Exit.then (fun a' w' => C w' ∧ wpPlan P l Q C L r a' w') Q) (pick l [i]) a w
 | .fork i p j q, a, w => wpList P l.toArray (Exit.then (fun a' w' => C w' ∧ wpPlan P l Q C L p a' w') Q) (pick l [i]) a w ∧ wpList P l.toArray (Exit.then (fun a' w' => C w' ∧ wpPlan P l Q C L q a' w') Q) (pick l [j]) a w
theorem wpPlan_plain {l : List Oper} {L : Act → World → Prop} {i : Nat} {o : Oper} {r : Plan} {a : Act} {w : World} (ho : l[i]? = some o)
  (h : ∀ K : Act → Prop, (∀ a, wpPlan P l Q C L r a w → K a) → if Region.wanted o (yielded l.toArray a.tmps) then stillV P o a C K else K (a.put o.dst undef)) : wpPlan P l Q C L (.plain i r) a w := by
 unfold wpPlan;rw [ho];exact h _ (fun _ h => h)
theorem wpPlan_lone {l : List Oper} {L : Act → World → Prop} {i : Nat} {o : Oper} {r : Plan} {a : Act} {w : World} (ho : l[i]? = some o)
  (h : ∀ K : Act → World → Prop, (∀ a w, C w → wpPlan P l Q C L r a w → K a w) → wpList P l.toArray (Exit.then K Q) [o] a w) : wpPlan P l Q C L (.lone i r) a w := by
 unfold wpPlan;have hp : pick l [i] = [o] := by simp [pick, ho]
 rw [hp];exact h _ (fun _ _ h1 h2 => ⟨h1, h2⟩)
theorem wpPlan_fork {l : List Oper} {L : Act → World → Prop} {i j : Nat} {p q : Plan} {a : Act} {w : World} (h1 : wpPlan P l Q C L (.lone i p) a w) (h2 : wpPlan P l Q C L (.lone j q) a w) : wpPlan P l Q C L (.fork i p j q) a w := ⟨h1, h2⟩
theorem wpPlan_nil {l : List Oper} {L : Act → World → Prop} {a : Act} {w : World} (h : L a w) : wpPlan P l Q C L .nil a w := h
theorem wpPlan_shut {l : List Oper} {Cl : World → World → Prop} {t : Nat} {o : Oper} {segs : List (List (Nat × Bool) × Nat)} {last : List (Nat × Bool)} {a : Act} {w : World} (ho : l[t]? = some o)
  (h : ∀ K : Act → World → Prop, (∀ a w, wpMix Cl P l Q segs last a w w → K a w) → wpList P l.toArray (Exit.then K Q) [o] a w) : wpPlan P l Q C (fun a' w' => wpList P l.toArray (Exit.then (fun a'' w'' => wpMix Cl P l Q segs last a'' w'' w'') Q) (pick l [t]) a' w') .nil a w := by
 unfold wpPlan;have hp : pick l [t] = [o] := by simp [pick, ho]
 rw [hp];exact h _ (fun _ _ h1 => h1)
theorem plan_inv {ns : List Nat} {listed0 fin : Array Bool} : ∀ (p : Plan) (listed : Array Bool), p.within ns = true → ZInv md ops ns listed0 listed → planB md ops fin p listed = true → ZInv md ops ns listed0 fin
 | .nil, listed, _, inv, hB => by
  simp only [planB, decide_eq_true_eq] at hB;rw [← hB];exact inv
 | .plain k r, listed, hn, inv, hB => by
  simp only [planB, Bool.and_eq_true] at hB;simp only [Plan.within, Bool.and_eq_true] at hn;exact plan_inv r _ hn.2 (inv.put (by simpa using hB.1.1) (by simpa using hn.1)) hB.2
 | .lone k r, listed, hn, inv, hB => by
  simp only [planB, Bool.and_eq_true, decide_eq_true_eq] at hB;simp only [Plan.within, Bool.and_eq_true] at hn;exact plan_inv r _ hn.2 (inv.put (by rw [hB.1]; simp) (by simpa using hn.1)) hB.2
 | .fork i p j q, listed, hn, inv, hB => by
  simp only [planB, Bool.and_eq_true, decide_eq_true_eq] at hB;simp only [Plan.within, Bool.and_eq_true] at hn;exact plan_inv p _ hn.1.1.2 (inv.put (by rw [hB.1.1.1]; simp) (by simpa using hn.1.1.1)) hB.1.2
theorem wpAnyU_plan {l0 : List Oper} {ns : List Nat} {t : Option Nat} {listed0 : Array Bool} {Lq : Act → World → Prop} {fin : Array Bool} (hsel : Region.noSelect l0.toArray = true) (hQ : ∀ c a d v w, Q (.panic c) (Act.put a d v) w → Q (.panic c) a w)
  (hs : shutB md l0.toArray ns t listed0 = true) (hfin : ∀ j ∈ Region.ready md l0.toArray fin, j ∉ ns) :
  ∀ (p : Plan) (listed : Array Bool) (a : Act) (w : World), p.within ns = true → ZInv md l0.toArray ns listed0 listed → planB md l0.toArray fin p listed = true → C w →
  wpPlan P l0 Q C Lq p a w → wpAnyU P md l0.toArray Q C ns (fun listed' a' w' => listed' = fin ∧ Lq a' w') p.len listed a w
 | .nil, listed, a, w, _, _, hB, _, h => by
  simp only [planB, decide_eq_true_eq] at hB;exact ⟨hB, h⟩
 | .plain k r, listed, a, w, hn, inv, hB, hC, h => by
  simp only [planB, Bool.and_eq_true] at hB;simp only [Plan.within, Bool.and_eq_true] at hn;obtain ⟨⟨hr, hfr⟩, hB'⟩ := hB;have hr' : k ∈ Region.ready md l0.toArray listed := by simpa using hr
  obtain ⟨_, o, ho, _⟩ := mem_ready.1 hr';have ho' : l0[k]? = some o := by simpa using ho
  unfold wpPlan at h;rw [ho'] at h;have hkq : k ∈ ns := by simpa using hn.1
  obtain ⟨v, hy, hK⟩ : ∃ v, YieldsIf P l0.toArray C o v a ∧ wpPlan P l0 Q C Lq r (a.put o.dst v) w := by
   by_cases hw : Region.wanted o (yielded l0.toArray a.tmps) = true
   ·simp only [hw, if_true] at h
    obtain ⟨v, h1, h2⟩ := h;exact ⟨v, .inl ⟨hw, fun w hw => stillUpon_ok (h1 w hw)⟩, h2⟩
   ·simp only [hw] at h
    exact ⟨undef, .inr ⟨by simpa using hw, rfl⟩, h⟩
  exact wpAnyU_first ho (Region.noSelect_spec hsel) (fun c a w => hQ c a o.dst v w) hs hkq (fun listed' a' w' hL => by rw [hL.1]; exact hfin) r.len listed a w inv (Region.free_spec ho hfr) hr' hy hC
   (wpAnyU_plan hsel hQ hs hfin r _ _ w hn.2 (inv.put hr' hkq) hB' hC hK)
 | .lone k r, listed, a, w, hn, inv, hB, hC, h => by
  simp only [planB, Bool.and_eq_true, decide_eq_true_eq] at hB;simp only [Plan.within, Bool.and_eq_true] at hn;obtain ⟨hr, hB'⟩ := hB;have hr' : k ∈ Region.ready md l0.toArray listed := by rw [hr]; simp
  obtain ⟨_, o, ho, _⟩ := mem_ready.1 hr';have hkq : k ∈ ns := by simpa using hn.1
  refine ⟨by rw [hr]; simp, fun i hi => ?_⟩;rw [hr] at hi;rw [List.mem_singleton.1 hi];unfold wpPlan at h;exact ⟨hkq, wpOp_mono (fun a' w' h' => ⟨h'.1, wpAnyU_plan hsel hQ hs hfin r _ a' w' hn.2 (inv.put hr' hkq) hB' h'.1 h'.2⟩) (wpOp_of_single ho h)⟩
 | .fork i p j q, listed, a, w, hn, inv, hB, hC, h => by
  simp only [planB, Bool.and_eq_true, decide_eq_true_eq] at hB;simp only [Plan.within, Bool.and_eq_true] at hn;obtain ⟨⟨⟨hr, hlen⟩, hBp⟩, hBq⟩ := hB;have hri : i ∈ Region.ready md l0.toArray listed := by rw [hr]; simp
  have hrj : j ∈ Region.ready md l0.toArray listed := by rw [hr]; simp
  obtain ⟨_, oi, hoi, _⟩ := mem_ready.1 hri;obtain ⟨_, oj, hoj, _⟩ := mem_ready.1 hrj;have hki : i ∈ ns := by simpa using hn.1.1.1
  have hkj : j ∈ ns := by simpa using hn.1.2
  unfold wpPlan at h;refine ⟨by rw [hr]; simp, fun k hk => ?_⟩;rw [hr] at hk
  rcases List.mem_cons.1 hk with rfl | hk
  ·exact ⟨hki, wpOp_mono (fun a' w' h' => ⟨h'.1, wpAnyU_plan hsel hQ hs hfin p _ a' w' hn.1.1.2 (inv.put hri hki) hBp h'.1 h'.2⟩) (wpOp_of_single hoi h.1)⟩
  ·rw [List.mem_singleton.1 hk]
   exact ⟨hkj, wpOp_mono (fun a' w' h' => ⟨h'.1, by rw [hlen]; exact wpAnyU_plan hsel hQ hs hfin q _ a' w' hn.2 (inv.put hrj hkj) hBq h'.1 h'.2⟩) (wpOp_of_single hoj h.2)⟩
theorem wp_region_plan {id : Nat} {a : Act} {w : World} {l : List Oper} (p : Plan) (ns : List Nat) (t : Nat) (fin : Array Bool) (segs : List (List (Nat × Bool) × Nat)) (last : List (Nat × Bool)) (hm : P.follows .mixedOrders = true) (hQ : ∀ c a d v w, Q (.panic c) (Act.put a d v) w → Q (.panic c) a w)
  (hB : (Region.noSelect l.toArray && decide (p.len + (mixN segs last + 1) = l.toArray.size) && p.within ns && planB .any l.toArray fin p (Array.replicate l.toArray.size false) && shutB .any l.toArray ns (some t) (Array.replicate l.toArray.size false) &&
   decide (Region.ready .any l.toArray fin = [t]) && !ns.contains t && mixB .any l.toArray segs last (fin.setIfInBounds t true)) = true)
  (h : wpPlan P l Q (fun w' => ∃ p : Regrown, w' = Go.Sort.grow (redrawn w p.d) p.os) (fun a' w' => wpList P l.toArray (Exit.then (fun a'' w'' => wpMix (fun w w' => ∃ p : Regrown, w' = Go.Sort.grow (redrawn w p.d) p.os) P l Q segs last a'' w'' w'') Q) (pick l [t]) a' w') p a (w.drewN 1)) : (Code.region id l.toArray true).wp P Q a w := by
 simp only [Bool.and_eq_true, decide_eq_true_eq, Bool.not_eq_true'] at hB;obtain ⟨⟨⟨⟨⟨⟨⟨hsel, hn⟩, hin⟩, hp⟩, hs⟩, hr⟩, ht⟩, hB'⟩ := hB;refine wp_region_any hm ?_;rw [← hn];rw [← hn] at hp hs
 have hz : ZInv .any l.toArray ns (Array.replicate (p.len + (mixN segs last + 1)) false) (Array.replicate (p.len + (mixN segs last + 1)) false) :=
  ⟨⟨by simp [hn], fun j oj _ hl => by rw [getD_repl] at hl; cases hl⟩, fun _ h => h, fun _ h => .inl h⟩
 have hz' := plan_inv p _ hin hz hp;have htr : t ∈ Region.ready .any l.toArray fin := by rw [hr]; simp
 have htn : t ∉ ns := by
  intro hx;rw [List.contains_iff_mem.2 hx] at ht;cases ht
 obtain ⟨_, ot, hot, _⟩ := mem_ready.1 htr;have := wpAnyU_plan (P := P) (Q := Q) (fin := fin) hsel hQ hs (by rw [hr]; intro j hj; rw [List.mem_singleton.1 hj]; exact htn) p _ a (w.drewN 1) hin hz hp (Growing.drew w) h;refine wpAny_of_U (g := mixN segs last + 1) (fun listed' a' w' _ hL => ?_) p.len _ a _ (Growing.drew w) this;refine wpAny_all (rs := [t]) (by rw [hL.1]; exact hr) (by simp) (fun i hi => ?_);rw [List.mem_singleton.1 hi, hL.1];exact wpOp_mono (fun a'' w'' h'' => wpAny_of_mix Growing.refl hsel hQ segs last _ a'' w'' w'' (hz'.closed.put htr) hB' (Growing.refl w'') h'') (wpOp_of_single hot hL.2)
end
theorem wp_region_plan_in {P : Program} {Q : Exit → Act → World → Prop} {id : Nat} {a : Act} {w : World} {l : List Oper} (C : World → Prop) (p : Plan) (ns : List Nat) (fin : Array Bool) (hm : P.follows .mixedOrders = true) (hQ : ∀ c a d v w, Q (.panic c) (Act.put a d v) w → Q (.panic c) a w)
  (hB : (Region.noSelect l.toArray && decide (p.len = l.toArray.size) && p.within ns && planB .any l.toArray fin p (Array.replicate l.toArray.size false) && shutB .any l.toArray ns none (Array.replicate l.toArray.size false) && (Region.ready .any l.toArray fin).isEmpty) = true)
  (hC : C (w.drewN 1)) (h : wpPlan P l Q C (fun a' w' => Q .normal a' w') p a (w.drewN 1)) : (Code.region id l.toArray true).wp P Q a w := by
 simp only [Bool.and_eq_true, decide_eq_true_eq, List.isEmpty_iff] at hB;obtain ⟨⟨⟨⟨⟨hsel, hn⟩, hin⟩, hp⟩, hs⟩, hr⟩ := hB;refine wp_region_any hm ?_;rw [← hn];rw [← hn] at hp hs
 have hz : ZInv .any l.toArray ns (Array.replicate p.len false) (Array.replicate p.len false) :=
  ⟨⟨by simp [hn], fun j oj _ hl => by rw [getD_repl] at hl; cases hl⟩, fun _ h => h, fun _ h => .inl h⟩
 have := wpAnyU_plan (P := P) (Q := Q) (fin := fin) hsel hQ hs (by rw [hr]; simp) p _ a (w.drewN 1) hin hz hp hC h;exact wpAny_of_U (g := 0) (fun listed' a' w' _ hL => wpAny_done (by rw [hL.1]; exact hr) hL.2 0) p.len _ a _ hC this
end Go.Proofs.YtomibmenojdieaaGreat
namespace Go.Proofs.YtomibmenojdieaaGreat
def allOrd (md : Region.Mode) (ops : Array Oper) : Nat → Array Bool → List (List Nat)
 | 0, _ => [[]]
 | f + 1, listed => match Region.ready md ops listed with
  | [] => [[]]
  | r => r.flatMap fun i => (allOrd md ops f (listed.setIfInBounds i true)).map (i :: ·)
theorem go_mem (md : Region.Mode) (ops : Array Oper) : ∀ (fuel t : Nat) (listed : Array Bool), Region.linearise.go md ops fuel t listed [] ∈ allOrd md ops fuel listed
 | 0, t, listed => by simp [Region.linearise.go, allOrd]
 | f + 1, t, listed => by
  simp only [Region.linearise.go]
  change (match (Region.ready md ops listed)[t % (Region.ready md ops listed).length]? with
   | some i => Region.linearise.go md ops f (t / (Region.ready md ops listed).length) (listed.setIfInBounds i true) [i]
   | none => [].reverse) ∈ _
  unfold allOrd;generalize hr : Region.ready md ops listed = r;cases r with
  | nil => simp
  | cons x xs =>
   have hlt : t % (x :: xs).length < (x :: xs).length := Nat.mod_lt _ (by simp);rw [List.getElem?_eq_getElem hlt];simp only [];rw [linearise_go_acc, List.reverse_singleton, List.singleton_append];refine List.mem_flatMap.2 ⟨_, List.getElem_mem hlt, List.mem_map.2 ⟨_, go_mem md ops f _ _, rfl⟩⟩
theorem wpOpsIn_list {F : Fence} {n : Nat} {P : Program} {ops : Array Oper} {Q : Exit → Act → World → Prop} : ∀ (l : List Nat), wpOpsIn F n P ops Q l = wpListIn F n P ops Q (l.filterMap (ops[·]?))
 | [] => by funext a w; rfl
 | i :: l => by
  have ih := wpOpsIn_list (F := F) (n := n) (P := P) (ops := ops) (Q := Q) l
  funext a w
  cases h : ops[i]? with
  | none => simp [wpOpsIn, h, ih]
  | some o => simp [wpOpsIn, wpListIn, h, ih]
theorem wpIn_region_orders {F : Fence} {n : Nat} {P : Program} {Q : Exit → Act → World → Prop} {id : Nat} {l : List Oper} {a : Act} {w : World} (hm : P.follows .mixedOrders = true) (L : List (List Nat))
  (hL : allOrd .any l.toArray l.toArray.size (Array.replicate l.toArray.size false) = L) (h : ∀ x ∈ L, wpListIn F n P l.toArray Q (x.filterMap (l[·]?)) a w.drew) : (Code.region id l.toArray true).wpIn F n P Q a w := by
 refine wpIn_region_draw fun t => ?_
 simp only [Region.schedule, hm, Bool.true_or, if_true];have := h _ (hL ▸ go_mem .any l.toArray l.toArray.size t _);rw [Region.linearise, wpOpsIn_list];simpa using this
end Go.Proofs.YtomibmenojdieaaGreat
