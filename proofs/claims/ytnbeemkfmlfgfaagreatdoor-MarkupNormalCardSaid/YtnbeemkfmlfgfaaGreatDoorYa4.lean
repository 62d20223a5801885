/- Part 4 of 35 of a proof; its texts, joined: RegD, RegE, RegF, RegG, Bls. No condition. -/
import Derived.Test.YtnbeemkfmlfgfaaGreatDoorYa3
import Derived.Lib.AppendStr
set_option maxRecDepth 100000
set_option maxHeartbeats 1000000
namespace Go.Proofs.YtnbeemkfmlfgfaaGreatDoor
open Go.RowKit
section
variable {P : Program} {ops : Array Oper} {md : Region.Mode} {C : World → Prop} {Q : Exit → Act → World → Prop}
inductive Plan where
 | nil
 | plain (i : Nat) (r : Plan)
 | lone (i : Nat) (r : Plan)
 | fork (i : Nat) (p : Plan) (j : Nat) (q : Plan)
def Plan.of : List (Nat × Bool) → Plan → Plan
 | [], r => r
 | (i, true) :: l, r => .plain i (Plan.of l r)
 | (i, false) :: l, r => .lone i (Plan.of l r)
def Plan.len : Plan → Nat
 | .nil => 0
 | .plain _ r => r.len + 1
 | .lone _ r => r.len + 1
 | .fork _ p _ _ => p.len + 1
def Plan.within (ns : List Nat) : Plan → Bool
 | .nil => true
 | .plain i r => ns.contains i && r.within ns
 | .lone i r => ns.contains i && r.within ns
 | .fork i p j q => ns.contains i && p.within ns && ns.contains j && q.within ns
def planB (md : Region.Mode) (ops : Array Oper) (fin : Array Bool) : Plan → Array Bool → Bool
 | .nil, listed => decide (listed = fin)
 | .plain k r, listed => (Region.ready md ops listed).contains k && Region.free md ops listed k && planB md ops fin r (listed.setIfInBounds k true)
 | .lone k r, listed => decide (Region.ready md ops listed = [k]) && planB md ops fin r (listed.setIfInBounds k true)
 | .fork i p j q, listed => decide (Region.ready md ops listed = [i, j]) && decide (p.len = q.len) && planB md ops fin p (listed.setIfInBounds i true) && planB md ops fin q (listed.setIfInBounds j true)
def wpPlan (P : Program) (l : List Oper) (Q : Exit → Act → World → Prop) (C : World → Prop) (L : Act → World → Prop) : Plan → Act → World → Prop
 | .nil, a, w => L a w
 | .plain i r, a, w => match l[i]? with
  | some o => if Region.wanted o (yielded l.toArray a.tmps) then stillV P o a C (fun a' => wpPlan P l Q C L r a' w) else wpPlan P l Q C L r (a.put o.dst undef) w
  | none => wpPlan P l Q C L r a w
 | .lone i r, a, w => wpList P l.toArray (Exit.then (fun a' w' => C w' ∧ wpPlan P l Q C L r a' w') Q) (pick l [i]) a w
 | .fork i p j q, a, w => wpList P l.toArray (Exit.then (fun a' w' => C w' ∧ wpPlan P l Q C L p a' w') Q) (pick l [i]) a w ∧ wpList P l.toArray (Exit.then (fun a' w' => C w' ∧ wpPlan P l Q C L q a' w') Q) (pick l [j]) a w
theorem wpPlan_plain {l : List Oper} {L : Act → World → Prop} {i : Nat} {o : Oper} {r : Plan} {a : Act} {w : World} (ho : l[i]? = some o)
  (h : ∀ K : Act → Prop, (∀ a, wpPlan P l Q C L r a w → K a) → if Region.wanted o (yielded l.toArray a.tmps) then stillV P o a C K else K (a.put o.dst undef)) : wpPlan P l Q C L (.plain i r) a w := by
 unfold wpPlan;rw [ho];exact h _ (fun _ h => h)
theorem wpPlan_lone {l : List Oper} {L : Act → World → Prop} {i : Nat} {o : Oper} {r : Plan} {a : Act} {w : World} (ho : l[i]? = some o)
  (h : ∀ K : Act → World → Prop, (∀ a w, C w → wpPlan P l Q C L r a w → K a w) → wpList P l.toArray (Exit.then K Q) [o] a w) : wpPlan P l Q C L (.lone i r) a w := by
 unfold wpPlan;have hp : pick l [i] = [o] := by simp [pick, ho]
 rw [hp];exact h _ (fun _ _ h1 h2 => ⟨h1, h2⟩)
theorem wpPlan_fork {l : List Oper} {L : Act → World → Prop} {i j : Nat} {p q : Plan} {a : Act} {w : World} (h1 : wpPlan P l Q C L (.lone i p) a w) (h2 : wpPlan P l Q C L (.lone j q) a w) : wpPlan P l Q C L (.fork i p j q) a w := ⟨h1, h2⟩
theorem wpPlan_nil {l : List Oper} {L : Act → World → Prop} {a : Act} {w : World} (h : L a w) : wpPlan P l Q C L .nil a w := h
theorem wpPlan_shut {l : List Oper} {Cl : World → World → Prop} {t : Nat} {o : Oper} {segs : List (List (Nat × Bool) × Nat)} {last : List (Nat × Bool)} {a : Act} {w : World} (ho : l[t]? = some o)
  (h : ∀ K : Act → World → Prop, (∀ a w, wpMix Cl P l Q segs last a w w → K a w) → wpList P l.toArray (Exit.then K Q) [o] a w) : wpPlan P l Q C (fun a' w' => wpList P l.toArray (Exit.then (fun a'' w'' => wpMix Cl P l Q segs last a'' w'' w'') Q) (pick l [t]) a' w') .nil a w := by
 unfold wpPlan;have hp : pick l [t] = [o] := by simp [pick, ho]
 rw [hp];exact h _ (fun _ _ h1 => h1)
theorem plan_inv {ns : List Nat} {listed0 fin : Array Bool} : ∀ (p : Plan) (listed : Array Bool), p.within ns = true → ZInv md ops ns listed0 listed → planB md ops fin p listed = true → ZInv md ops ns listed0 fin
 | .nil, listed, _, inv, hB => by
  simp only [planB, decide_eq_true_eq] at hB;rw [← hB];exact inv
 | .plain k r, listed, hn, inv, hB => by
  simp only [planB, Bool.and_eq_true] at hB;simp only [Plan.within, Bool.and_eq_true] at hn;exact plan_inv r _ hn.2 (inv.put (by simpa using hB.1.1) (by simpa using hn.1)) hB.2
 | .lone k r, listed, hn, inv, hB => by
  simp only [planB, Bool.and_eq_true, decide_eq_true_eq] at hB;simp only [Plan.within, Bool.and_eq_true] at hn;exact plan_inv r _ hn.2 (inv.put (by rw [hB.1]; simp) (by simpa using hn.1)) hB.2
 | .fork i p j q, listed, hn, inv, hB => by
  simp only [planB, Bool.and_eq_true, decide_eq_true_eq] at hB;simp only [Plan.within, Bool.and_eq_true] at hn;exact plan_inv p _ hn.1.1.2 (inv.put (by rw [hB.1.1.1]; simp) (by simpa using hn.1.1.1)) hB.1.2
theorem wpAnyU_plan {l0 : List Oper} {ns : List Nat} {t : Option Nat} {listed0 : Array Bool} {Lq : Act → World → Prop} {fin : Array Bool} (hsel : Region.noSelect l0.toArray = true) (hQ : ∀ c a d v w, Q (.panic c) (Act.put a d v) w → Q (.panic c) a w)
  (hs : shutB md l0.toArray ns t listed0 = true) (hfin : ∀ j ∈ Region.ready md l0.toArray fin, j ∉ ns) :
  ∀ (p : Plan) (listed : Array Bool) (a : Act) (w : World), p.within ns = true → ZInv md l0.toArray ns listed0 listed → planB md l0.toArray fin p listed = true → C w →
  wpPlan P l0 Q C Lq p a w → wpAnyU P md l0.toArray Q C ns (fun listed' a' w' => listed' = fin ∧ Lq a' w') p.len listed a w
 | .nil, listed, a, w, _, _, hB, _, h => by
  simp only [planB, decide_eq_true_eq] at hB;exact ⟨hB, h⟩
 | .plain k r, listed, a, w, hn, inv, hB, hC, h => by
  simp only [planB, Bool.and_eq_true] at hB;simp only [Plan.within, Bool.and_eq_true] at hn;obtain ⟨⟨hr, hfr⟩, hB'⟩ := hB;have hr' : k ∈ Region.ready md l0.toArray listed := by simpa using hr
  obtain ⟨_, o, ho, _⟩ := mem_ready.1 hr';have ho' : l0[k]? = some o := by simpa using ho
  unfold wpPlan at h;rw [ho'] at h;have hkq : k ∈ ns := by simpa using hn.1
  obtain ⟨v, hy, hK⟩ : ∃ v, YieldsIf P l0.toArray C o v a ∧ wpPlan P l0 Q C Lq r (a.put o.dst v) w := by
   by_cases hw : Region.wanted o (yielded l0.toArray a.tmps) = true
   ·simp only [hw, if_true] at h
    obtain ⟨v, h1, h2⟩ := h;exact ⟨v, .inl ⟨hw, fun w hw => stillUpon_ok (h1 w hw)⟩, h2⟩
   ·simp only [hw] at h
    exact ⟨undef, .inr ⟨by simpa using hw, rfl⟩, h⟩
  exact wpAnyU_first ho (Region.noSelect_spec hsel) (fun c a w => hQ c a o.dst v w) hs hkq (fun listed' a' w' hL => by rw [hL.1]; exact hfin) r.len listed a w inv (Region.free_spec ho hfr) hr' hy hC
   (wpAnyU_plan hsel hQ hs hfin r _ _ w hn.2 (inv.put hr' hkq) hB' hC hK)
 | .lone k r, listed, a, w, hn, inv, hB, hC, h => by
  simp only [planB, Bool.and_eq_true, decide_eq_true_eq] at hB;simp only [Plan.within, Bool.and_eq_true] at hn;obtain ⟨hr, hB'⟩ := hB;have hr' : k ∈ Region.ready md l0.toArray listed := by rw [hr]; simp
  obtain ⟨_, o, ho, _⟩ := mem_ready.1 hr';have hkq : k ∈ ns := by simpa using hn.1
  refine ⟨by rw [hr]; simp, fun i hi => ?_⟩;rw [hr] at hi;rw [List.mem_singleton.1 hi];unfold wpPlan at h;exact ⟨hkq, wpOp_mono (fun a' w' h' => ⟨h'.1, wpAnyU_plan hsel hQ hs hfin r _ a' w' hn.2 (inv.put hr' hkq) hB' h'.1 h'.2⟩) (wpOp_of_single ho h)⟩
 | .fork i p j q, listed, a, w, hn, inv, hB, hC, h => by
  simp only [planB, Bool.and_eq_true, decide_eq_true_eq] at hB;simp only [Plan.within, Bool.and_eq_true] at hn;obtain ⟨⟨⟨hr, hlen⟩, hBp⟩, hBq⟩ := hB;have hri : i ∈ Region.ready md l0.toArray listed := by rw [hr]; simp
  have hrj : j ∈ Region.ready md l0.toArray listed := by rw [hr]; simp
  obtain ⟨_, oi, hoi, _⟩ := mem_ready.1 hri;obtain ⟨_, oj, hoj, _⟩ := mem_ready.1 hrj;have hki : i ∈ ns := by simpa using hn.1.1.1
  have hkj : j ∈ ns := by simpa using hn.1.2
  unfold wpPlan at h;refine ⟨by rw [hr]; simp, fun k hk => ?_⟩;rw [hr] at hk
  rcases List.mem_cons.1 hk with rfl | hk
  ·exact ⟨hki, wpOp_mono (fun a' w' h' => ⟨h'.1, wpAnyU_plan hsel hQ hs hfin p _ a' w' hn.1.1.2 (inv.put hri hki) hBp h'.1 h'.2⟩) (wpOp_of_single hoi h.1)⟩
  ·rw [List.mem_singleton.1 hk]
   exact ⟨hkj, wpOp_mono (fun a' w' h' => ⟨h'.1, by rw [hlen]; exact wpAnyU_plan hsel hQ hs hfin q _ a' w' hn.2 (inv.put hrj hkj) hBq h'.1 h'.2⟩) (wpOp_of_single hoj h.2)⟩
theorem wp_region_plan {id : Nat} {a : Act} {w : World} {l : List Oper} (p : Plan) (ns : List Nat) (t : Nat) (fin : Array Bool) (segs : List (List (Nat × Bool) × Nat)) (last : List (Nat × Bool)) (hm : P.follows .mixedOrders = true) (hQ : ∀ c a d v w, Q (.panic c) (Act.put a d v) w → Q (.panic c) a w)
  (hB : (Region.noSelect l.toArray && decide (p.len + (mixN segs last + 1) = l.toArray.size) && p.within ns && planB .any l.toArray fin p (Array.replicate l.toArray.size false) && shutB .any l.toArray ns (some t) (Array.replicate l.toArray.size false) &&
   decide (Region.ready .any l.toArray fin = [t]) && !ns.contains t && mixB .any l.toArray segs last (fin.setIfInBounds t true)) = true)
  (h : wpPlan P l Q (fun w' => ∃ p : Regrown, w' = Go.Sort.grow (redrawn w p.d) p.os) (fun a' w' => wpList P l.toArray (Exit.then (fun a'' w'' => wpMix (fun w w' => ∃ p : Regrown, w' = Go.Sort.grow (redrawn w p.d) p.os) P l Q segs last a'' w'' w'') Q) (pick l [t]) a' w') p a (w.drewN 1)) : (Code.region id l.toArray true).wp P Q a w := by
 simp only [Bool.and_eq_true, decide_eq_true_eq, Bool.not_eq_true'] at hB;obtain ⟨⟨⟨⟨⟨⟨⟨hsel, hn⟩, hin⟩, hp⟩, hs⟩, hr⟩, ht⟩, hB'⟩ := hB;refine wp_region_any hm ?_;rw [← hn];rw [← hn] at hp hs
 have hz : ZInv .any l.toArray ns (Array.replicate (p.len + (mixN segs last + 1)) false) (Array.replicate (p.len + (mixN segs last + 1)) false) :=
  ⟨⟨by simp [hn], fun j oj _ hl => by rw [getD_repl] at hl; cases hl⟩, fun _ h => h, fun _ h => .inl h⟩
 have hz' := plan_inv p _ hin hz hp;have htr : t ∈ Region.ready .any l.toArray fin := by rw [hr]; simp
 have htn : t ∉ ns := by
  intro hx;rw [List.contains_iff_mem.2 hx] at ht;cases ht
 obtain ⟨_, ot, hot, _⟩ := mem_ready.1 htr;have := wpAnyU_plan (P := P) (Q := Q) (fin := fin) hsel hQ hs (by rw [hr]; intro j hj; rw [List.mem_singleton.1 hj]; exact htn) p _ a (w.drewN 1) hin hz hp (Growing.drew w) h;refine wpAny_of_U (g := mixN segs last + 1) (fun listed' a' w' _ hL => ?_) p.len _ a _ (Growing.drew w) this;refine wpAny_all (rs := [t]) (by rw [hL.1]; exact hr) (by simp) (fun i hi => ?_);rw [List.mem_singleton.1 hi, hL.1];exact wpOp_mono (fun a'' w'' h'' => wpAny_of_mix Growing.refl hsel hQ segs last _ a'' w'' w'' (hz'.closed.put htr) hB' (Growing.refl w'') h'') (wpOp_of_single hot hL.2)
end
section
variable {P : Program} {md : Region.Mode} {Q : Exit → Act → World → Prop}
def wpPre (P : Program) (l : List Oper) (L : Act → Prop) : List Nat → Act → Prop
 | [], a => L a
 | i :: r, a => match l[i]? with
  | some o => if Region.wanted o (yielded l.toArray a.tmps) then stillV P o a (fun _ => True) (fun a' => wpPre P l L r a') else wpPre P l L r (a.put o.dst undef)
  | none => wpPre P l L r a
theorem wpPre_step {l : List Oper} {L : Act → Prop} {i : Nat} {o : Oper} {r : List Nat} {a : Act} (ho : l[i]? = some o)
  (h : ∀ K : Act → Prop, (∀ a, wpPre P l L r a → K a) → if Region.wanted o (yielded l.toArray a.tmps) then stillV P o a (fun _ => True) K else K (a.put o.dst undef)) : wpPre P l L (i :: r) a := by
 unfold wpPre;rw [ho];exact h _ (fun _ h => h)
theorem wpPre_end {l : List Oper} {L : Act → Prop} {a : Act} (h : L a) : wpPre P l L [] a := h
def preB (md : Region.Mode) (ops : Array Oper) : List Nat → Array Bool → Bool
 | [], _ => true
 | k :: r, listed => (Region.ready md ops listed).contains k && Region.free md ops listed k && preB md ops r (listed.setIfInBounds k true)
theorem pre_closed {l : List Oper} : ∀ (pre : List Nat) (listed : Array Bool), Closed md l.toArray listed → preB md l.toArray pre listed = true → Closed md l.toArray (setAll pre listed)
 | [], _, inv, _ => inv
 | k :: r, listed, inv, hB => by
  simp only [preB, Bool.and_eq_true] at hB;exact pre_closed r _ (inv.put (by simpa using hB.1.1)) hB.2
theorem wpAny_pre {l : List Oper} (hsel : Region.noSelect l.toArray = true) (hQ : ∀ c a d v w, Q (.panic c) (Act.put a d v) w → Q (.panic c) a w) {w : World} {f : Nat} {L : Act → Prop} :
  ∀ (pre : List Nat) (listed : Array Bool) (a : Act), preB md l.toArray pre listed = true → (∀ a', L a' → wpAny P md l.toArray Q f (setAll pre listed) a' w) → wpPre P l L pre a → wpAny P md l.toArray Q (pre.length + f) listed a w
 | [], listed, a, _, hL, h => by rw [List.length_nil, Nat.zero_add]; exact hL a h
 | k :: r, listed, a, hB, hL, h => by
  simp only [preB, Bool.and_eq_true] at hB;obtain ⟨⟨hr, hfr⟩, hB'⟩ := hB;have hr' : k ∈ Region.ready md l.toArray listed := by simpa using hr
  obtain ⟨_, o, ho, _⟩ := mem_ready.1 hr';have ho' : l[k]? = some o := by simpa using ho
  unfold wpPre at h;rw [ho'] at h
  obtain ⟨v, hy, hK⟩ : ∃ v, Yields P l.toArray o v a ∧ wpPre P l L r (a.put o.dst v) := by
   by_cases hw : Region.wanted o (yielded l.toArray a.tmps) = true
   ·simp only [hw, if_true] at h
    obtain ⟨v, h1, h2⟩ := h;exact ⟨v, .inl ⟨hw, fun w => stillUpon_ok (h1 w trivial)⟩, h2⟩
   ·simp only [hw] at h
    exact ⟨undef, .inr ⟨by simpa using hw, rfl⟩, h⟩
  rw [List.length_cons, show r.length + 1 + f = (r.length + f) + 1 by omega];exact wpAny_take ho hsel hfr hr (fun c a w => hQ c a o.dst v w) hy (wpAny_pre hsel hQ r _ _ hB' hL hK)
theorem wp_region_pre {id : Nat} {a : Act} {w : World} {l : List Oper} (pre : List Nat) (segs : List (List (Nat × Bool) × Nat)) (last : List (Nat × Bool)) (hm : P.follows .mixedOrders = true) (hQ : ∀ c a d v w, Q (.panic c) (Act.put a d v) w → Q (.panic c) a w)
  (hB : (Region.noSelect l.toArray && decide (pre.length + mixN segs last = l.toArray.size) && preB .any l.toArray pre (Array.replicate l.toArray.size false) && mixB .any l.toArray segs last (setAll pre (Array.replicate l.toArray.size false))) = true)
  (h : wpPre P l (fun a' => wpMix (fun w w' => ∃ p : Regrown, w' = Go.Sort.grow (redrawn w p.d) p.os) P l Q segs last a' w (w.drewN 1)) pre a) : (Code.region id l.toArray true).wp P Q a w := by
 simp only [Bool.and_eq_true, decide_eq_true_eq] at hB;obtain ⟨⟨⟨hsel, hn⟩, hp⟩, hB⟩ := hB;refine wp_region_any hm ?_;rw [← hn];rw [← hn] at hp hB;refine wpAny_pre hsel hQ pre _ a hp (fun a' h' => ?_) h;exact wpAny_of_mix Growing.refl hsel hQ segs last _ a' w _ (pre_closed pre _ ⟨by simp [hn], fun j oj _ hl => by rw [getD_repl] at hl; cases hl⟩ hp) hB (Growing.drew w) h'
end
theorem wp_region_in {P : Program} {Q : Exit → Act → World → Prop} {id : Nat} {a : Act} {w : World} {l : List Oper} (C : World → Prop) (last : List (Nat × Bool)) (hm : P.follows .mixedOrders = true) (hQ : ∀ c a d v w, Q (.panic c) (Act.put a d v) w → Q (.panic c) a w)
  (hB : (Region.noSelect l.toArray && decide (last.length = l.toArray.size) && (shutB .any l.toArray (last.map (·.1)) none (Array.replicate l.toArray.size false) && seqB .any l.toArray last (Array.replicate l.toArray.size false) && (Region.ready .any l.toArray (setAll (last.map (·.1)) (Array.replicate l.toArray.size false))).isEmpty)) = true)
  (hC : C (w.drewN 1)) (h : wpSeq P l Q C (fun a' w' => Q .normal a' w') last a (w.drewN 1)) : (Code.region id l.toArray true).wp P Q a w := by
 simp only [Bool.and_eq_true, decide_eq_true_eq, List.isEmpty_iff] at hB;obtain ⟨⟨hsel, hn⟩, ⟨hs, hl⟩, hr⟩ := hB;refine wp_region_any hm ?_;rw [← hn];rw [← hn] at hs hl hr;have inv : Closed .any l.toArray (Array.replicate last.length false) := ⟨by simp [hn], fun j oj _ hl => by rw [getD_repl] at hl; cases hl⟩;have hz : ZInv .any l.toArray (last.map (·.1)) (Array.replicate last.length false) (Array.replicate last.length false) := ⟨inv, fun _ h => h, fun _ h => .inl h⟩;have := wpAnyU_seq (P := P) (C := C) (Q := Q) (fin := setAll (last.map (·.1)) (Array.replicate last.length false)) (Lq := fun a' w' => Q .normal a' w') hsel hQ hs (by rw [hr]; simp) last _ a (w.drewN 1) (fun k hk => List.mem_map.2 ⟨k, hk, rfl⟩) hz hl rfl hC h;exact wpAny_of_U (g := 0) (fun listed' a' w' _ hL => wpAny_done (by rw [hL.1]; exact hr) hL.2 0) last.length _ a _ hC this
theorem wp_region_plan_in {P : Program} {Q : Exit → Act → World → Prop} {id : Nat} {a : Act} {w : World} {l : List Oper} (C : World → Prop) (p : Plan) (ns : List Nat) (fin : Array Bool) (hm : P.follows .mixedOrders = true) (hQ : ∀ c a d v w, Q (.panic c) (Act.put a d v) w → Q (.panic c) a w)
  (hB : (Region.noSelect l.toArray && decide (p.len = l.toArray.size) && p.within ns && planB .any l.toArray fin p (Array.replicate l.toArray.size false) && shutB .any l.toArray ns none (Array.replicate l.toArray.size false) && (Region.ready .any l.toArray fin).isEmpty) = true)
  (hC : C (w.drewN 1)) (h : wpPlan P l Q C (fun a' w' => Q .normal a' w') p a (w.drewN 1)) : (Code.region id l.toArray true).wp P Q a w := by
 simp only [Bool.and_eq_true, decide_eq_true_eq, List.isEmpty_iff] at hB;obtain ⟨⟨⟨⟨⟨hsel, hn⟩, hin⟩, hp⟩, hs⟩, hr⟩ := hB;refine wp_region_any hm ?_;rw [← hn];rw [← hn] at hp hs
 have hz : ZInv .any l.toArray ns (Array.replicate p.len false) (Array.replicate p.len false) :=
  ⟨⟨by simp [hn], fun j oj _ hl => by rw [getD_repl] at hl; cases hl⟩, fun _ h => h, fun _ h => .inl h⟩
 have := wpAnyU_plan (P := P) (Q := Q) (fin := fin) hsel hQ hs (by rw [hr]; simp) p _ a (w.drewN 1) hin hz hp hC h;exact wpAny_of_U (g := 0) (fun listed' a' w' _ hL => wpAny_done (by rw [hL.1]; exact hr) hL.2 0) p.len _ a _ hC this
theorem strCells_eq (s : ByteArray) : Lib.strCells s = Lib.byteCells s.data.toList := by rfl
theorem byteCells_app (l m : List UInt8) : Lib.byteCells (l ++ m) = Lib.byteCells l ++ Lib.byteCells m := by simp [Lib.byteCells]
theorem writeString_any {w : World} {B b o : Nat} {T : TypeId} {cs : Array Value} {v : Value} {l : List UInt8} (h : Bld w B b o T cs v l) (hbB : b < B)
  (hlies : liesAt Tryz.prog Tryz.prog.depth T (cs.size / Tryz.prog.cellsOf T) o 67 1 = true) (s : ByteArray) (hlen : l.length + s.size ≤ 140737488355328) (hB : B ≤ w.heap.size) :
  Calls Tryz.prog 105 #[.pointer (some ⟨b, o, none⟩), .string s] w fun e w' => e = .returned (.tuple #[.int .i64 s.size, .nilIface]) ∧ ∃ v', Bld w' B b o T ((cs.setIfInBounds o (.pointer (some ⟨b, o, none⟩))).setIfInBounds (o + 1) v') v' (l ++ s.data.toList) ∧ Touch (fun k => k = b ∨ v.ownBlock = some k) w w' := by
 obtain ⟨i0, hi, hz0, hz1, hz2⟩ := info_parts infoU8;have ho : o + 1 < cs.size := (Array.getElem?_eq_some_iff.1 h.buf).1;go_enter Tryz.func105, Tryz.ntmps105;go_wp2_with fail
 refine (copyCheck_any h hlies).mono ?_;rintro e w1 ⟨rfl, hb1, ht1, hs1⟩
 have c1 : w1.cell? ⟨b, o + 1, none⟩ = some v := by
  rw [hb1.cell, Array.getElem?_setIfInBounds_ne (by omega)]; exact h.buf
 have hown : w1.ownsRow B 5 1 v l.length (Lib.byteCells l) := ownsRow_touch h.own ht1 (fun k hk e => h.ne (by rw [hk, e]));have HB := hid hb1;have HT := hid ht1;have HS := hid hs1;clear hb1 ht1 hs1
 go_wp2_with (at_builtin; refine Lib.wpList_append_own_string _ rfl _ _ 65 9 rfl B 5 i0 Tryz.underlying65 Tryz.underlying9 hi hz0 hz1 hz2 _ _ _ rfl hown s rfl ?c3 ?c4 ?c5 ?_)
 case c3 => unfold maxLen; omega
 case c4 => omega
 case c5 => have := HS.out; omega
 intro v' w2 hown' hgrow hnl;have hlt1 := HB.out.lt;have ht2 : Touch (fun k => v.ownBlock = some k) w1 w2 := (Touch.refl (fun k => v.ownBlock = some k) w1).grown hgrow (fun g hg => .inl hg);have hb2 : Blk w2 b T (cs.setIfInBounds o (.pointer (some ⟨b, o, none⟩))) := ht2.blk HB.out h.ne
 have d1 : w2.cell? ⟨b, o + 1, none⟩ = some v := by
  rw [hb2.cell, Array.getElem?_setIfInBounds_ne (by omega)]; exact h.buf
 have f1 : w2.frozen? ⟨b, o + 1, none⟩ = false := hb2.frozen _;have hne' : v'.ownBlock ≠ some b := fun e => by have := (hown'.lt b e).1; omega
 have hnil : l ++ s.data.toList = [] → v' = .slice none 0 0 := fun e => by
  obtain ⟨e1, e2⟩ := List.append_eq_nil_iff.1 e;refine hnl.2 ⟨h.nilv e1, ?_⟩;apply ByteArray.ext
  apply Array.toList_inj.1
  rw [e2]; rfl
 obtain ⟨A', cap', rfl⟩ : ∃ A cap, v' = .slice A (l.length + s.size) cap := by
  rcases hown'.2 with ⟨h1, h2⟩ | ⟨g, cap, cur, h1, _⟩
  ·exact ⟨none, 0, by rw [h1, h2]⟩
  ·exact ⟨_, _, h1⟩
 have HB2 := hid hb2;have HT2 := hid ht2;have HO := hid hown';have HN := hid hne';have HNIL := hid hnil;clear hb2 ht2 hown' hne' hgrow hown hnl hnil
 go_wp2
 go_ret2;refine ⟨rfl, _, ⟨HB2.out.put _ _, .inr ?_, ?_, ?_, HN.out, HNIL.out⟩, ?_⟩
 ·rw [Array.getElem?_setIfInBounds_ne (by omega), Array.getElem?_setIfInBounds_self_of_lt (by omega)]
 ·rw [Array.getElem?_setIfInBounds_self_of_lt (by simp; omega)]
 ·have hl : (l ++ s.data.toList).length = l.length + s.size := by simp
  rw [byteCells_app, ← strCells_eq, hl];exact ownsRow_touch HO.out ((Touch.refl (· = b) w2).setCell (p := ⟨b, o + 1, none⟩) (.inl rfl) _) (fun k hk e => HN.out (by rw [hk, e]))
 ·exact ((HT.out.mono (fun _ h => .inl h)).trans (HT2.out.mono (fun _ h => .inr h))).setCell (p := ⟨b, o + 1, none⟩) (.inl (.inl rfl)) _
theorem bLen_any {w : World} {B b o : Nat} {T : TypeId} {cs : Array Value} {v : Value} {l : List UInt8} (h : Bld w B b o T cs v l) :
  Calls Tryz.prog 197 #[.pointer (some ⟨b, o, none⟩)] w fun e w' => e = .returned (.int .i64 l.length) ∧ w' = w := by
 obtain ⟨A, cap, rfl⟩ : ∃ A cap, v = .slice A l.length cap := by
  rcases h.own.2 with ⟨h1, h2⟩ | ⟨g, cap, cur, h1, _⟩
  ·exact ⟨none, 0, by rw [h1, h2]⟩
  ·exact ⟨_, _, h1⟩
 have c1 : w.cell? ⟨b, o + 1, none⟩ = some (.slice A l.length cap) := by rw [h.blk.cell]; exact h.buf
 clear h;go_enter Tryz.func197, Tryz.ntmps197;go_wp2_with fail
 go_ret;exact ⟨rfl, rfl⟩
end Go.Proofs.YtnbeemkfmlfgfaaGreatDoor
