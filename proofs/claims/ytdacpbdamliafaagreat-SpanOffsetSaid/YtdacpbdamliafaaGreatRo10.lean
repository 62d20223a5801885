/- Part 10 of 12 of a proof; its texts, joined: RtE, RegD, RtF, RpH, RpI, NdK, NdL, NdM. No condition. -/
import Derived.Test.YtdacpbdamliafaaGreatRo2
import Derived.Test.YtdacpbdamliafaaGreatRo9
import Derived.Test.YtdacpbdamliafaaGreatRo4
import Derived.Test.YtdacpbdamliafaaGreatRo3
import Derived.Test.YtdacpbdamliafaaGreatRo7
import Derived.Test.YtdacpbdamliafaaGreatRo6

/- The reference's spans: how they lie in memory, and the lists that its loops make. -/
namespace Go.Proofs.YtdacpbdamliafaaGreat
open Go.RowKit
open Tr (Nd View IsRow rowT itemT segs slotAt RSp rsItems rsSegs rsRow rowsOf segLen segsLen)
def rsFrom (T : List Lx.PTok) : List Nd → List Nat → List Nat → Nat → Nat → List RSp
 | a :: r, s :: ss, p, j, f => rsRow T a.kids (p ++ [j]) (f + s) ++ rsFrom T r ss p (j + 1) f
 | _, _, _, _, _ => []
theorem rsSegs_from (T : List Lx.PTok) : ∀ (l : List (Nat × Bool × Nd)) (p : List Nat) (j f g : Nat), rsSegs T l p j (f + g) = rsFrom T (rowsOf l) (slotAt l g) p j f
 | [], p, j, f, g => by rw [rsSegs]; rfl
 | (k, b, a) :: r, p, j, f, g => by
  rw [rsSegs, Nat.add_assoc f g (segLen (k, b, a)), rsSegs_from T r, show f + g + k + b.toNat = f + (g + k + b.toNat) by omega]
  rfl
theorem rsFrom_drop (T : List Lx.PTok) (ks : List Nd) (ss : List Nat) (p : List Nat) (s f : Nat) (h1 : s < ks.length) (h2 : s < ss.length) :
  rsFrom T (ks.drop s) (ss.drop s) p s f = rsRow T ks[s].kids (p ++ [s]) (f + ss[s]) ++ rsFrom T (ks.drop (s + 1)) (ss.drop (s + 1)) p (s + 1) f := by
 rw [List.drop_eq_getElem_cons h1, List.drop_eq_getElem_cons h2, rsFrom]
theorem rsFrom_end (T : List Lx.PTok) (ks : List Nd) (ss : List Nat) (p : List Nat) (f : Nat) : rsFrom T (ks.drop ks.length) (ss.drop ks.length) p ks.length f = [] := by
 rw [List.drop_length]
 rfl
theorem rsItems_drop (T : List Lx.PTok) (ks : List Nd) (p : List Nat) (j f : Nat) (h : j < ks.length) : rsItems T (ks.drop j) p j f =
  ⟨p ++ [j], false, Tr.fromAt T f, Tr.endAt T (f + (itemT ks[j]).length), f, (itemT ks[j]).length⟩ :: (rsFrom T ks[j].kids (slotAt (segs ks[j]) 0) (p ++ [j]) 0 f ++ rsItems T (ks.drop (j + 1)) p (j + 1) (f + (itemT ks[j]).length)) := by
 rw [List.drop_eq_getElem_cons h, rsItems, show f = f + 0 from rfl, rsSegs_from, Nat.add_zero, ← Tr.segs_rows ks[j]]
theorem rsItems_end (T : List Lx.PTok) (ks : List Nd) (p : List Nat) (j f : Nat) : rsItems T (ks.drop ks.length) p j f = [] := by rw [List.drop_length, rsItems]
theorem slot_fits : ∀ (l : List (Nat × Bool × Nd)) (g s : Nat) (h1 : s < (slotAt l g).length) (h2 : s < (rowsOf l).length), (slotAt l g)[s] + (rowT (rowsOf l)[s].kids).length ≤ g + segsLen l
 | [], _, _, h, _ => by cases h
 | (k, b, a) :: r, g, 0, _, _ => by
  show g + k + b.toNat + (rowT a.kids).length ≤ g + (segLen (k, b, a) + segsLen r)
  rw [Tr.segLen_eq]
  omega
 | (k, b, a) :: r, g, s + 1, h1, h2 => by
  have := slot_fits r (g + segLen (k, b, a)) s (by simpa [slotAt] using h1) (by simpa [rowsOf] using h2)
  show (slotAt r (g + segLen (k, b, a)))[s]'_ + (rowT ((rowsOf r)[s]'_).kids).length ≤ g + (segLen (k, b, a) + segsLen r)
  omega
theorem slot_item (n : Nd) (v : View n) (s : Nat) (h1 : s < (slotAt (segs n) 0).length) (h2 : s < n.kids.length) : (slotAt (segs n) 0)[s] + (rowT n.kids[s].kids).length ≤ (itemT n).length := by
 have h := slot_fits (segs n) 0 s h1 (by rw [Tr.segs_rows]; exact h2)
 have e : (rowsOf (segs n))[s]'(by rw [Tr.segs_rows]; exact h2) = n.kids[s] := by simp [Tr.segs_rows]
 rw [e] at h
 rw [Tr.item_segs n v]
 omega
theorem rs_count (T : List Lx.PTok) : (∀ ks p i f, (rsItems T ks p i f).length = Tr.countL ks) ∧ ∀ l p j f, (rsSegs T l p j f).length = Tr.countL (rowsOf l) := by
 refine Tr.rows_ind (P := fun ks => ∀ p i f, (rsItems T ks p i f).length = Tr.countL ks) (Q := fun l => ∀ p j f, (rsSegs T l p j f).length = Tr.countL (rowsOf l)) ?_ ?_ ?_ ?_
 ·intro p i f; rw [rsItems]; rfl
 ·intro n ns h1 h2 p i f
  rw [rsItems, List.length_cons, List.length_append, h1, h2, Tr.segs_rows, Tr.countL, Tr.count_kids]
  omega
 ·intro p j f; rw [rsSegs]; rfl
 ·intro k b a r h1 h2 p j f
  rw [rsSegs, List.length_append, List.length_cons, h1, h2]
  show _ = Tr.count a + Tr.countL (rowsOf r)
  rw [Tr.count_kids]
  omega
theorem rsRow_len (T : List Lx.PTok) (ks : List Nd) (p : List Nat) (f : Nat) : (rsRow T ks p f).length = Tr.countL ks + 1 := by unfold rsRow; rw [List.length_cons, (rs_count T).1]
theorem from_at (T : List Lx.PTok) (f : Nat) (h : f < T.length) : Tr.fromAt T f = T[f].from_ := by unfold Tr.fromAt; simp [h]
theorem end_at (T : List Lx.PTok) (f : Nat) (h : f < T.length) : Tr.endAt T (f + 1) = T[f].to_ := by unfold Tr.endAt; simp [h]
def PthT (w : World) (v : Value) (p : List Nat) : Prop :=
 ∃ A cap, v = .slice A p.length cap ∧ p.length ≤ maxLen ∧ (p = [] ∨ ∃ b, A = some ⟨b, 0, none⟩ ∧ (∃ cs fr, w.heap[b]? = some (.cells cs 3 fr)) ∧ ∀ i (h : i < p.length), w.cell? ⟨b, i, none⟩ = some (.int .i64 (p[i] : Nat)))
def PSp (w : World) (k : Nat) : Prop := ∃ cs fr, w.heap[k]? = some (.cells cs 78 fr)
theorem PthT.slice {w : World} {v : Value} {p : List Nat} (h : PthT w v p) : ∃ A c, v = .slice A p.length c := by
 obtain ⟨A, c, h, _⟩ := h
 exact ⟨A, c, h⟩
theorem PthT.ints {w : World} {v : Value} {p : List Nat} (h : PthT w v p) : Ints w v (up p) := by
 obtain ⟨A, cap, rfl, _, h⟩ := h
 rcases h with rfl | ⟨b, rfl, ⟨cs, fr, h1⟩, h2⟩
 ·exact Ints.nil _ _ _
 ·refine ⟨some ⟨b, 0, none⟩, cap, by rw [List.length_map], .inr ⟨b, 0, rfl, (Array.getElem?_eq_some_iff.1 h1).1, fun i hi => ?_⟩⟩
  rw [Nat.zero_add, List.getElem_map]
  exact h2 i (by simpa using hi)
theorem PthT.nil (w : World) : PthT w (.slice none 0 0) [] := ⟨none, 0, rfl, Nat.zero_le _, .inl rfl⟩
theorem PthT.mv {w w' : World} {S : Nat → Prop} {v : Value} {p : List Nat} (h : PthT w v p) (ht : Touch S w w') (hS : ∀ k, S k → PSp w k) : PthT w' v p := by
 obtain ⟨A, cap, rfl, hl, h⟩ := h
 rcases h with rfl | ⟨b, rfl, ⟨cs, fr, h1⟩, h2⟩
 ·exact ⟨A, cap, rfl, hl, .inl rfl⟩
 ·have hn : ¬ S b := fun hs => by
   obtain ⟨cs', fr', h3⟩ := hS b hs
   rw [h1] at h3
   cases h3
  refine ⟨_, cap, rfl, hl, .inr ⟨b, rfl, ⟨cs, fr, ?_⟩, fun i hi => ht.cell (h2 i hi) hn⟩⟩
  rw [ht.block b (Array.getElem?_eq_some_iff.1 h1).1 hn]
  exact h1
theorem PthT.fresh {w w' : World} {v : Value} {p : List Nat} (h : PthT w v p) (hf : Fresh w w') : PthT w' v p := h.mv hf fun _ h => h.elim
theorem PthT.own {w : World} {B : Nat} {v : Value} {q : List Nat} (h : w.ownsRow B 3 1 v q.length (intVs (up q))) : PthT w v q := by
 rcases h.2 with ⟨h1, h2⟩ | ⟨b, cap, cur, h1, hB, hb, h2, h3, _⟩
 ·exact ⟨none, 0, by rw [h1, h2], by rw [h2]; exact Nat.zero_le _, .inl (List.length_eq_zero_iff.1 h2)⟩
 ·refine ⟨some ⟨b, 0, none⟩, cap, h1, Nat.le_trans h2 h3, .inr ⟨b, rfl, ⟨_, _, hb⟩, fun i hi => ?_⟩⟩
  have := h.cells (g := b) (by rw [h1]; rfl) i (.int .i64 (q[i] : Nat)) (by simp [hi])
  rw [Addr.add_mid, Nat.zero_add] at this
  exact this
theorem PthT.get {w : World} {A : Option Addr} {n c : Nat} {p : List Nat} (h : PthT w (.slice A n c) p) (i : Nat) (hi : i < p.length) : ∃ b, A = some ⟨b, 0, none⟩ ∧ b < w.heap.size ∧ w.cell? ⟨b, i, none⟩ = some (.int .i64 (p[i] : Nat)) := by
 obtain ⟨A', cap, h1, _, h2⟩ := h
 cases h1
 rcases h2 with rfl | ⟨b, rfl, ⟨cs, fr, h3⟩, h4⟩
 ·simp at hi
 ·exact ⟨b, rfl, (Array.getElem?_eq_some_iff.1 h3).1, h4 i hi⟩
def spc (v : Value) (x : RSp) : List Value := [v, .int .i64 (x.from_ : Int), .int .i64 (x.to_ : Int), .bool x.row, .int .i64 (x.first : Int), .int .i64 (x.count : Int)]
def SpsT (w : World) : List RSp → List Value → Prop
 | [], cs => cs = []
 | x :: l, cs => ∃ v ds, cs = spc v x ++ ds ∧ PthT w v x.path ∧ SpsT w l ds
theorem SpsT.mv {w w' : World} {S : Nat → Prop} (ht : Touch S w w') (hS : ∀ k, S k → PSp w k) : ∀ {l : List RSp} {cs : List Value}, SpsT w l cs → SpsT w' l cs
 | [], _, h => h
 | _ :: _, _, ⟨v, ds, h, hp, hd⟩ => ⟨v, ds, h, hp.mv ht hS, hd.mv ht hS⟩
theorem SpsT.fresh {w w' : World} (hf : Fresh w w') {l : List RSp} {cs : List Value} (h : SpsT w l cs) : SpsT w' l cs := h.mv hf fun _ h => h.elim
theorem SpsT.append {w : World} : ∀ {l m : List RSp} {cs ds : List Value}, SpsT w l cs → SpsT w m ds → SpsT w (l ++ m) (cs ++ ds)
 | [], _, _, _, h, hm => by rw [show _ = [] from h]; exact hm
 | _ :: _, _, _, _, ⟨v, es, h, hp, hd⟩, hm => by subst h; exact ⟨v, _, by rw [List.append_assoc], hp, hd.append hm⟩
theorem SpsT.one {w : World} {x : RSp} {v : Value} (h : PthT w v x.path) : SpsT w [x] (spc v x) := ⟨v, [], by simp, h, rfl⟩
theorem SpsT.length {w : World} : ∀ {l : List RSp} {cs : List Value}, SpsT w l cs → cs.length = l.length * 6
 | [], _, h => by rw [show _ = [] from h]; rfl
 | _ :: _, _, ⟨_, _, h, _, hd⟩ => by subst h; simp [hd.length, spc]; omega
theorem spc_one {w : World} {v : Value} {x : RSp} (h : PthT w v x.path) : ∀ u ∈ spc v x, u.oneCell' = true := by
 intro u hu
 obtain ⟨A, c, rfl⟩ := h.slice
 simp only [spc, List.mem_cons, List.not_mem_nil, or_false] at hu
 rcases hu with rfl | rfl | rfl | rfl | rfl | rfl <;> rfl
theorem SpsT.oneCell {w : World} : ∀ {l : List RSp} {cs : List Value}, SpsT w l cs → ∀ u ∈ cs, u.oneCell' = true
 | [], _, h, u, hu => by rw [show _ = [] from h] at hu; cases hu
 | _ :: _, _, ⟨v, ds, h, hp, hd⟩, u, hu => by
  subst h
  rcases List.mem_append.1 hu with hu | hu
  ·exact spc_one hp u hu
  ·exact hd.oneCell u hu
theorem SpsT.get {w : World} : ∀ {l : List RSp} {cs : List Value}, SpsT w l cs → ∀ i (hi : i < l.length), ∃ v, PthT w v l[i].path ∧ ∀ j u, (spc v l[i])[j]? = some u → cs[i * 6 + j]? = some u
 | [], _, _, i, hi => by simp at hi
 | x :: l, _, ⟨v, ds, h, hp, hd⟩, i, hi => by
  subst h
  cases i with
  | zero =>
   refine ⟨v, hp, fun j u hu => ?_⟩
   have hj : j < (spc v x).length := (List.getElem?_eq_some_iff.1 hu).1
   rw [Nat.zero_mul, Nat.zero_add, List.getElem?_append_left hj]
   exact hu
  | succ i =>
   obtain ⟨v', h1, h2⟩ := hd.get i (by simpa using hi)
   refine ⟨v', h1, fun j u hu => ?_⟩
   rw [List.getElem?_append_right (by simp [spc]; omega)]
   have := h2 j u hu
   rw [← this]
   congr 1
   simp [spc]
   omega
def SpansRef (T : List Lx.PTok) (ks : List Nd) (p : List Nat) (f : Nat) (w : World) (e : Ending) (w' : World) : Prop :=
 ∃ v cs, e = .returned v ∧ w'.ownsRow w.heap.size 78 6 v (rsRow T ks p f).length cs ∧ SpsT w' (rsRow T ks p f) cs ∧ Fresh w w'
theorem owns_psp {w : World} {B n : Nat} {v : Value} {xs : List Value} (h : w.ownsRow B 78 6 v n xs) : ∀ k, v.ownBlock = some k → PSp w k := fun _ hk => by
 obtain ⟨_, cur, h1⟩ := owns_type h hk
 exact ⟨cur, _, h1⟩
theorem infoSpan22 : (Tryz.prog.info? 78).map (fun i => (i.zero, i.size, i.bytes)) = some (some (.agg #[.slice none 0 0, .int .i64 0, .int .i64 0, .bool false, .int .i64 0, .int .i64 0]), 6, 64) := by kernel_rfl
end Go.Proofs.YtdacpbdamliafaaGreat

/- A law on regions that draw their order: where two lone operations may come first, both ways are walked. -/
namespace Go.Proofs.YtdacpbdamliafaaGreat
open Go.RowKit
section
variable {P : Program} {ops : Array Oper} {md : Region.Mode} {C : World → Prop} {Q : Exit → Act → World → Prop}
inductive Plan where
 | nil
 | plain (i : Nat) (r : Plan)
 | lone (i : Nat) (r : Plan)
 | fork (i : Nat) (p : Plan) (j : Nat) (q : Plan)
def Plan.of : List (Nat × Bool) → Plan → Plan
 | [], r => r
 | (i, true) :: l, r => .plain i (Plan.of l r)
 | (i, false) :: l, r => .lone i (Plan.of l r)
def Plan.len : Plan → Nat
 | .nil => 0
 | .plain _ r => r.len + 1
 | .lone _ r => r.len + 1
 | .fork _ p _ _ => p.len + 1
def Plan.within (ns : List Nat) : Plan → Bool
 | .nil => true
 | .plain i r => ns.contains i && r.within ns
 | .lone i r => ns.contains i && r.within ns
 | .fork i p j q => ns.contains i && p.within ns && ns.contains j && q.within ns
def planB (md : Region.Mode) (ops : Array Oper) (fin : Array Bool) : Plan → Array Bool → Bool
 | .nil, listed => decide (listed = fin)
 | .plain k r, listed => (Region.ready md ops listed).contains k && Region.free md ops listed k && planB md ops fin r (listed.setIfInBounds k true)
 | .lone k r, listed => decide (Region.ready md ops listed = [k]) && planB md ops fin r (listed.setIfInBounds k true)
 | .fork i p j q, listed => decide (Region.ready md ops listed = [i, j]) && decide (p.len = q.len) && planB md ops fin p (listed.setIfInBounds i true) && planB md ops fin q (listed.setIfInBounds j true)
def wpPlan (P : Program) (l : List Oper) (Q : Exit → Act → World → Prop) (C : World → Prop) (L : Act → World → Prop) : Plan → Act → World → Prop
 | .nil, a, w => L a w
 | .plain i r, a, w => match l[i]? with
  | some o => if Region.wanted o (yielded l.toArray a.tmps) then stillV P o a C (fun a' => wpPlan P l Q C L r a' w) else wpPlan P l Q C L r (a.put o.dst undef) w
  | none => wpPlan P l Q C L r a w
 | .lone i r, a, w => wpList P l.toArray (Exit.then (fun a' w' => C w' ∧ wpPlan P l Q C L r a' w') Q) (pick l [i]) a w
 | .fork i p j q, a, w => wpList P l.toArray (Exit.then (fun a' w' => C w' ∧ wpPlan P l Q C L p a' w') Q) (pick l [i]) a w ∧ wpList P l.toArray (Exit.then (fun a' w' => C w' ∧ wpPlan P l Q C L q a' w') Q) (pick l [j]) a w
theorem wpPlan_plain {l : List Oper} {L : Act → World → Prop} {i : Nat} {o : Oper} {r : Plan} {a : Act} {w : World} (ho : l[i]? = some o)
  (h : ∀ K : Act → Prop, (∀ a, wpPlan P l Q C L r a w → K a) → if Region.wanted o (yielded l.toArray a.tmps) then stillV P o a C K else K (a.put o.dst undef)) : wpPlan P l Q C L (.plain i r) a w := by
 unfold wpPlan
 rw [ho]
 exact h _ (fun _ h => h)
theorem wpPlan_lone {l : List Oper} {L : Act → World → Prop} {i : Nat} {o : Oper} {r : Plan} {a : Act} {w : World} (ho : l[i]? = some o)
  (h : ∀ K : Act → World → Prop, (∀ a w, C w → wpPlan P l Q C L r a w → K a w) → wpList P l.toArray (Exit.then K Q) [o] a w) : wpPlan P l Q C L (.lone i r) a w := by
 unfold wpPlan
 have hp : pick l [i] = [o] := by simp [pick, ho]
 rw [hp]
 exact h _ (fun _ _ h1 h2 => ⟨h1, h2⟩)
theorem wpPlan_fork {l : List Oper} {L : Act → World → Prop} {i j : Nat} {p q : Plan} {a : Act} {w : World} (h1 : wpPlan P l Q C L (.lone i p) a w) (h2 : wpPlan P l Q C L (.lone j q) a w) : wpPlan P l Q C L (.fork i p j q) a w := ⟨h1, h2⟩
theorem wpPlan_nil {l : List Oper} {L : Act → World → Prop} {a : Act} {w : World} (h : L a w) : wpPlan P l Q C L .nil a w := h
theorem wpPlan_shut {l : List Oper} {Cl : World → World → Prop} {t : Nat} {o : Oper} {segs : List (List (Nat × Bool) × Nat)} {last : List (Nat × Bool)} {a : Act} {w : World} (ho : l[t]? = some o)
  (h : ∀ K : Act → World → Prop, (∀ a w, wpMix Cl P l Q segs last a w w → K a w) → wpList P l.toArray (Exit.then K Q) [o] a w) : wpPlan P l Q C (fun a' w' => wpList P l.toArray (Exit.then (fun a'' w'' => wpMix Cl P l Q segs last a'' w'' w'') Q) (pick l [t]) a' w') .nil a w := by
 unfold wpPlan
 have hp : pick l [t] = [o] := by simp [pick, ho]
 rw [hp]
 exact h _ (fun _ _ h1 => h1)
theorem plan_inv {ns : List Nat} {listed0 fin : Array Bool} : ∀ (p : Plan) (listed : Array Bool), p.within ns = true → ZInv md ops ns listed0 listed → planB md ops fin p listed = true → ZInv md ops ns listed0 fin
 | .nil, listed, _, inv, hB => by
  simp only [planB, decide_eq_true_eq] at hB
  rw [← hB]
  exact inv
 | .plain k r, listed, hn, inv, hB => by
  simp only [planB, Bool.and_eq_true] at hB
  simp only [Plan.within, Bool.and_eq_true] at hn
  exact plan_inv r _ hn.2 (inv.put (by simpa using hB.1.1) (by simpa using hn.1)) hB.2
 | .lone k r, listed, hn, inv, hB => by
  simp only [planB, Bool.and_eq_true, decide_eq_true_eq] at hB
  simp only [Plan.within, Bool.and_eq_true] at hn
  exact plan_inv r _ hn.2 (inv.put (by rw [hB.1]; simp) (by simpa using hn.1)) hB.2
 | .fork i p j q, listed, hn, inv, hB => by
  simp only [planB, Bool.and_eq_true, decide_eq_true_eq] at hB
  simp only [Plan.within, Bool.and_eq_true] at hn
  exact plan_inv p _ hn.1.1.2 (inv.put (by rw [hB.1.1.1]; simp) (by simpa using hn.1.1.1)) hB.1.2
theorem wpAnyU_plan {l0 : List Oper} {ns : List Nat} {t : Option Nat} {listed0 : Array Bool} {Lq : Act → World → Prop} {fin : Array Bool} (hsel : Region.noSelect l0.toArray = true) (hQ : ∀ c a d v w, Q (.panic c) (Act.put a d v) w → Q (.panic c) a w)
  (hs : shutB md l0.toArray ns t listed0 = true) (hfin : ∀ j ∈ Region.ready md l0.toArray fin, j ∉ ns) :
  ∀ (p : Plan) (listed : Array Bool) (a : Act) (w : World), p.within ns = true → ZInv md l0.toArray ns listed0 listed → planB md l0.toArray fin p listed = true → C w →
  wpPlan P l0 Q C Lq p a w → wpAnyU P md l0.toArray Q C ns (fun listed' a' w' => listed' = fin ∧ Lq a' w') p.len listed a w
 | .nil, listed, a, w, _, _, hB, _, h => by
  simp only [planB, decide_eq_true_eq] at hB
  exact ⟨hB, h⟩
 | .plain k r, listed, a, w, hn, inv, hB, hC, h => by
  simp only [planB, Bool.and_eq_true] at hB
  simp only [Plan.within, Bool.and_eq_true] at hn
  obtain ⟨⟨hr, hfr⟩, hB'⟩ := hB
  have hr' : k ∈ Region.ready md l0.toArray listed := by simpa using hr
  obtain ⟨_, o, ho, _⟩ := mem_ready.1 hr'
  have ho' : l0[k]? = some o := by simpa using ho
  unfold wpPlan at h
  rw [ho'] at h
  have hkq : k ∈ ns := by simpa using hn.1
  obtain ⟨v, hy, hK⟩ : ∃ v, YieldsIf P l0.toArray C o v a ∧ wpPlan P l0 Q C Lq r (a.put o.dst v) w := by
   by_cases hw : Region.wanted o (yielded l0.toArray a.tmps) = true
   ·simp only [hw, if_true] at h
    obtain ⟨v, h1, h2⟩ := h
    exact ⟨v, .inl ⟨hw, fun w hw => stillUpon_ok (h1 w hw)⟩, h2⟩
   ·simp only [hw] at h
    exact ⟨undef, .inr ⟨by simpa using hw, rfl⟩, h⟩
  exact wpAnyU_first ho (Region.noSelect_spec hsel) (fun c a w => hQ c a o.dst v w) hs hkq (fun listed' a' w' hL => by rw [hL.1]; exact hfin) r.len listed a w inv (Region.free_spec ho hfr) hr' hy hC
   (wpAnyU_plan hsel hQ hs hfin r _ _ w hn.2 (inv.put hr' hkq) hB' hC hK)
 | .lone k r, listed, a, w, hn, inv, hB, hC, h => by
  simp only [planB, Bool.and_eq_true, decide_eq_true_eq] at hB
  simp only [Plan.within, Bool.and_eq_true] at hn
  obtain ⟨hr, hB'⟩ := hB
  have hr' : k ∈ Region.ready md l0.toArray listed := by rw [hr]; simp
  obtain ⟨_, o, ho, _⟩ := mem_ready.1 hr'
  have hkq : k ∈ ns := by simpa using hn.1
  refine ⟨by rw [hr]; simp, fun i hi => ?_⟩
  rw [hr] at hi
  rw [List.mem_singleton.1 hi]
  unfold wpPlan at h
  exact ⟨hkq, wpOp_mono (fun a' w' h' => ⟨h'.1, wpAnyU_plan hsel hQ hs hfin r _ a' w' hn.2 (inv.put hr' hkq) hB' h'.1 h'.2⟩) (wpOp_of_single ho h)⟩
 | .fork i p j q, listed, a, w, hn, inv, hB, hC, h => by
  simp only [planB, Bool.and_eq_true, decide_eq_true_eq] at hB
  simp only [Plan.within, Bool.and_eq_true] at hn
  obtain ⟨⟨⟨hr, hlen⟩, hBp⟩, hBq⟩ := hB
  have hri : i ∈ Region.ready md l0.toArray listed := by rw [hr]; simp
  have hrj : j ∈ Region.ready md l0.toArray listed := by rw [hr]; simp
  obtain ⟨_, oi, hoi, _⟩ := mem_ready.1 hri
  obtain ⟨_, oj, hoj, _⟩ := mem_ready.1 hrj
  have hki : i ∈ ns := by simpa using hn.1.1.1
  have hkj : j ∈ ns := by simpa using hn.1.2
  unfold wpPlan at h
  refine ⟨by rw [hr]; simp, fun k hk => ?_⟩
  rw [hr] at hk
  rcases List.mem_cons.1 hk with rfl | hk
  ·exact ⟨hki, wpOp_mono (fun a' w' h' => ⟨h'.1, wpAnyU_plan hsel hQ hs hfin p _ a' w' hn.1.1.2 (inv.put hri hki) hBp h'.1 h'.2⟩) (wpOp_of_single hoi h.1)⟩
  ·rw [List.mem_singleton.1 hk]
   exact ⟨hkj, wpOp_mono (fun a' w' h' => ⟨h'.1, by rw [hlen]; exact wpAnyU_plan hsel hQ hs hfin q _ a' w' hn.2 (inv.put hrj hkj) hBq h'.1 h'.2⟩) (wpOp_of_single hoj h.2)⟩
theorem wp_region_plan {id : Nat} {a : Act} {w : World} {l : List Oper} (p : Plan) (ns : List Nat) (t : Nat) (fin : Array Bool) (segs : List (List (Nat × Bool) × Nat)) (last : List (Nat × Bool)) (hm : P.follows .mixedOrders = true) (hQ : ∀ c a d v w, Q (.panic c) (Act.put a d v) w → Q (.panic c) a w)
  (hB : (Region.noSelect l.toArray && decide (p.len + (mixN segs last + 1) = l.toArray.size) && p.within ns && planB .any l.toArray fin p (Array.replicate l.toArray.size false) && shutB .any l.toArray ns (some t) (Array.replicate l.toArray.size false) &&
   decide (Region.ready .any l.toArray fin = [t]) && !ns.contains t && mixB .any l.toArray segs last (fin.setIfInBounds t true)) = true)
  (h : wpPlan P l Q (fun w' => ∃ p : Regrown, w' = Go.Sort.grow (redrawn w p.d) p.os) (fun a' w' => wpList P l.toArray (Exit.then (fun a'' w'' => wpMix (fun w w' => ∃ p : Regrown, w' = Go.Sort.grow (redrawn w p.d) p.os) P l Q segs last a'' w'' w'') Q) (pick l [t]) a' w') p a (w.drewN 1)) : (Code.region id l.toArray true).wp P Q a w := by
 simp only [Bool.and_eq_true, decide_eq_true_eq, Bool.not_eq_true'] at hB
 obtain ⟨⟨⟨⟨⟨⟨⟨hsel, hn⟩, hin⟩, hp⟩, hs⟩, hr⟩, ht⟩, hB'⟩ := hB
 refine wp_region_any hm ?_
 rw [← hn]
 rw [← hn] at hp hs
 have hz : ZInv .any l.toArray ns (Array.replicate (p.len + (mixN segs last + 1)) false) (Array.replicate (p.len + (mixN segs last + 1)) false) :=
  ⟨⟨by simp [hn], fun j oj _ hl => by rw [getD_repl] at hl; cases hl⟩, fun _ h => h, fun _ h => .inl h⟩
 have hz' := plan_inv p _ hin hz hp
 have htr : t ∈ Region.ready .any l.toArray fin := by rw [hr]; simp
 have htn : t ∉ ns := by
  intro hx
  rw [List.contains_iff_mem.2 hx] at ht
  cases ht
 obtain ⟨_, ot, hot, _⟩ := mem_ready.1 htr
 have := wpAnyU_plan (P := P) (Q := Q) (fin := fin) hsel hQ hs (by rw [hr]; intro j hj; rw [List.mem_singleton.1 hj]; exact htn) p _ a (w.drewN 1) hin hz hp (Growing.drew w) h
 refine wpAny_of_U (g := mixN segs last + 1) (fun listed' a' w' _ hL => ?_) p.len _ a _ (Growing.drew w) this
 refine wpAny_all (rs := [t]) (by rw [hL.1]; exact hr) (by simp) (fun i hi => ?_)
 rw [List.mem_singleton.1 hi, hL.1]
 exact wpOp_mono (fun a'' w'' h'' => wpAny_of_mix Growing.refl hsel hQ segs last _ a'' w'' w'' (hz'.closed.put htr) hB' (Growing.refl w'') h'') (wpOp_of_single hot hL.2)
end
end Go.Proofs.YtdacpbdamliafaaGreat

/- The reference's spans of a row. -/
namespace Go.Proofs.YtdacpbdamliafaaGreat
open Go.RowKit
open Tr (Nd View IsRow rowT itemT segs slotAt RSp rsItems rsSegs rsRow rowsOf segLen segsLen)
attribute [local go_sem] stillV stillUpon
set_option maxRecDepth 100000 in
set_option maxHeartbeats 1000000 in
theorem spans_ref (T : List Lx.PTok) (tv : Value) (m : Nat) : ∀ (n : Nd) (sl v : Value) (p : List Nat) (f : Nat) (w : World), Tr.count n ≤ m → Tr.count n ≤ 800 → IsRow n → RepL w n.kids sl → PthT w v p → TokRow w tv T → p.length + 2 * Tr.count n ≤ 4000 → T.length ≤ 4000 → f + (rowT n.kids).length ≤ T.length →
  Calls Tryz.prog 71 #[nv n sl, v, .int .i64 (f : Int), tv] w (SpansRef T n.kids p f w) := by
 induction m with
 | zero => intro n sl v p f w h; have := Tr.count_pos n; omega
 | succ m ih =>
  intro n sl v p f w hm hc hrow hr hp ht hpl htl hfit
  obtain ⟨i, hi, hz0, hz1, hz2⟩ := info_parts infoInt
  obtain ⟨i', hi', hz0', hz1', hz2'⟩ := info_parts infoSpan22
  obtain ⟨A, cap, rfl⟩ := hr.slice
  obtain ⟨Ap, cp, rfl⟩ := hp.slice
  have HR := hid hr
  have HP := hid hp
  have HT := hid ht
  have HM := hid hm
  have HC := hid hc
  have HPL := hid hpl
  have HTL := hid htl
  have HFIT := hid hfit
  have HROW := hid hrow
  have HKV := hid hrow.views
  have hk8 : n.kids.length ≤ 800 := by have := Tr.count_kids n; have := Tr.countL_len n.kids; have := HC.out; omega
  have HIH := hid ih
  clear hr hp hm hc hpl ih ht hrow htl hfit
  obtain ⟨At, ct, rfl, htk⟩ := HT.out
  have HTK := hid htk
  clear htk
  go_enter Tryz.func71, Tryz.ntmps71
  go_wp2_with fail
  refine (rowR n HROW.out (by have := HC.out; omega) _ _ (HR.out.fresh ((Touch.refl _ _).alloc _))).mono ?_
  rintro _ W1 ⟨v1, rfl, ho1, hf1⟩
  have HF1 := hid (show Fresh w W1 from Touch.pre hf1)
  have hb1 := hf1.blk (Blk.new w 24 #[.int .i64 n.kind, .string (⟨n.text.toArray⟩ : ByteArray), .int .i64 n.cols, .slice A n.kids.length cap]) (fun h => h)
  have q1 := hb1.cell 3
  have HB1 := hid hb1.lt
  obtain ⟨A1, c1, rfl⟩ := slice_owned ho1
  have hrl : (rowT n.kids).length ≤ 4000 := by have := HFIT.out; have := HTL.out; omega
  have hf4 : f ≤ 4000 := by have := HFIT.out; have := HTL.out; omega
  clear ho1 hf1 hb1
  go_wp2_with fail
  go_loopw [2, 10, 11] (fun ff o i wr => ∃ (j F : Nat) (L : List RSp) (cs : List Value), ff = .int .i64 F ∧ i = .int .i64 j ∧ j ≤ n.kids.length ∧ Hid (L ++ rsItems T (n.kids.drop j) p j F = rsRow T n.kids p f) ∧ Hid (F + (rowT (n.kids.drop j)).length = f + (rowT n.kids).length) ∧ Hid (wr.ownsRow W1.heap.size 78 6 o L.length cs) ∧ Hid (SpsT wr L cs) ∧ Hid (Fresh W1 wr)) (fun _ _ i _ => n.kids.length - (intOf i).toNat)
  case atStart =>
   refine ⟨0, f, [⟨p, true, 0, 0, f, (rowT n.kids).length⟩], spc (.slice Ap p.length cp) ⟨p, true, 0, 0, f, (rowT n.kids).length⟩, rfl, rfl, Nat.zero_le _, rfl, rfl, ?_, SpsT.one (HP.out.fresh (HF1.out.alloc _)), (Touch.refl _ _).alloc _⟩
   exact World.ownsRow_lit W1 (spc (.slice Ap p.length cp) ⟨p, true, 0, 0, f, (rowT n.kids).length⟩).toArray 1 (Nat.le_refl _) (by decide) rfl
  case round =>
   obtain ⟨j, F, L, cs, rfl, rfl, hj, HL, HFF, HO, HPS, HF⟩ := hrel
   obtain ⟨Ao, co, rfl⟩ := slice_owned HO.out
   have q3 := HF.out.cell q1 (fun h => h)
   have HWR := hid (HF1.out.trans HF.out)
   have HLN := hid (show L.length ≤ 1000 from by have h1 := congrArg List.length HL.out; rw [List.length_append, rsRow_len] at h1; have := Tr.count_kids n; have := HC.out; omega)
   have hF4 : F ≤ 4000 := by have := HFF.out; have := HFIT.out; have := HTL.out; omega
   by_cases c2 : j < n.kids.length
   ·have d1 : decide ((j : Int) < (n.kids.length : Int)) = true := by simp; omega
    have d1n : decide (j < n.kids.length) = true := by simp; omega
    have d1' : (j : Int) < (n.kids.length : Int) := by omega
    obtain ⟨g, o', sj, hAe, hg, m0, m1, m2, m3, hrj⟩ := HR.out.get j c2
    cases hAe
    have HVJ := hid (HKV.out _ (List.getElem_mem c2))
    have HCJ := hid (show Tr.count n.kids[j] ≤ m ∧ Tr.count n.kids[j] + 1 ≤ 800 ∧ p.length + 1 + 2 * Tr.count n.kids[j] + 1 ≤ 4000 from by
     have h3 := Tr.count_mem (List.getElem_mem c2)
     have h4 := Tr.count_kids n
     have h5 := HM.out
     have h6 := HC.out
     have h7 := HPL.out
     omega)
    have HD := hid (rsItems_drop T n.kids p j F c2)
    have HFD := hid (show (rowT (n.kids.drop j)).length = (itemT n.kids[j]).length + (rowT (n.kids.drop (j + 1))).length from by rw [List.drop_eq_getElem_cons c2, Tr.rowT_cons, List.length_append])
    generalize n.kids[j] = nj at m0 m1 m2 m3 hrj HVJ HCJ HD HFD
    obtain ⟨Aj, cj, rfl⟩ := hrj.slice
    have HRJ := hid hrj
    have M0 := hid m0
    have M1 := hid m1
    have M2 := hid m2
    have M3 := hid m3
    have a0 := HWR.out.cell m0 (fun h => h)
    have a1 := HWR.out.cell m1 (fun h => h)
    have a2 := HWR.out.cell m2 (fun h => h)
    have a3 := HWR.out.cell m3 (fun h => h)
    have hpos : 1 ≤ (itemT nj).length := Tr.item_pos nj HVJ.out
    have HSI := hid (fun (s : Nat) (h1 : s < (slotAt (segs nj) 0).length) (h2 : s < nj.kids.length) => slot_item nj HVJ.out s h1 h2)
    have HSL := hid (slots_len nj)
    obtain ⟨M, hM⟩ : ∃ M, F + (itemT nj).length = M + 1 := ⟨F + (itemT nj).length - 1, by omega⟩
    have hMT : M < T.length := by have := HFF.out; have := HFD.out; have := HFIT.out; omega
    have hFT : F < T.length := by omega
    have hM4 : M ≤ 4000 := by have := HTL.out; omega
    clear m0 m1 m2 m3 hrj hg
    go_wp2_with fail
    refine (itemOf nj HVJ.out (by have := HCJ.out; omega) _ _ (HRJ.out.fresh HWR.out)).mono ?_
    rintro _ W2 ⟨v2, rfl, ho2, hf2⟩
    obtain ⟨A2, c2', rfl⟩ := slice_owned ho2
    have HF2 := hid hf2
    have HWR2 := hid (HWR.out.trans hf2)
    have HSRC := hid (show Src W2 1 (.slice Ap p.length cp) p.length (intVs (up p)) from by have := Src.of_ints (HP.out.fresh HWR2.out).ints; rwa [List.length_map] at this)
    have q3b := hf2.cell q3 (fun h => h)
    clear ho2 hf2 a0 a1 a2 a3 q3
    go_wp2_with (at_builtin; refine wpList_append_src _ rfl (.tmp 38) (.tmp 39) 25 rfl W2.heap.size 3 i _ 1 8 rfl hi hz0 hz1 hz2 rfl (by decide) (.slice (some ⟨W2.heap.size, 0, none⟩) 0 0) 0 [] (by simp [Act.eval]) (World.ownsRow_lit W2 #[] 0 (Nat.le_refl _) (Nat.zero_le _) rfl) (.slice Ap p.length cp) p.length (intVs (up p)) (by simp [Act.eval]) (HSRC.out.fresh ((Touch.refl _ _).alloc _)) (intVs_one _) (by have := HPL.out; unfold maxLen; omega) (by have := HPL.out; omega) (by simp) ?_; intro v18 w18 ho18 hg18 hv18; refine Stay.mk ?_)
    rw [Nat.zero_add, List.nil_append] at ho18
    obtain ⟨A18, c18, rfl⟩ := slice_owned ho18
    have HF18 := hid (show Fresh W2 w18 from Touch.grown ((Touch.refl _ W2).alloc _) hg18 fun g hg => .inr (by simp only [Value.ownBlock, Option.some.injEq] at hg; omega))
    have HO18 := hid ho18
    clear ho18 hg18 hv18
    refine Stay.go ?_
    go_wp2_with (at_builtin; refine wpList_append_src _ rfl (.tmp 40) (.tmp 42) 25 rfl W2.heap.size 3 i _ 1 8 rfl hi hz0 hz1 hz2 rfl (by decide) (.slice A18 p.length c18) p.length (intVs (up p)) (by simp [Act.eval]) (ownsRow_touch HO18.out ((Touch.refl _ _).alloc _) (fun _ _ h => h)) (.slice (some ⟨w18.heap.size, 0, none⟩) 1 1) 1 [.int .i64 (j : Int)] (by simp [Act.eval]) (Src.of_blk (Blk.new _ _ _) rfl) (by intro u hu; simp at hu; rw [hu]; rfl) (by have := HPL.out; unfold maxLen; omega) (by have := HPL.out; omega) (by have := HF18.out.size; simp; omega) ?_; intro v21 w21 ho21 hg21 hv21; refine Stay.mk ?_)
    have HF21 := hid (show Fresh W2 w21 from touch_grown (HF18.out.alloc _) (ownsRow_touch HO18.out ((Touch.refl _ _).alloc _) (fun _ _ h => h)) (Nat.le_refl _) hg21)
    have hq : w21.ownsRow W2.heap.size 3 1 v21 (p ++ [j]).length (intVs (up (p ++ [j]))) := by
     have e1 : (p ++ [j]).length = p.length + 1 := by simp
     have e2 : intVs (up (p ++ [j])) = intVs (up p) ++ [.int .i64 (j : Int)] := by simp
     rw [e1, e2]
     exact ho21
    have HPA := hid (PthT.own hq)
    obtain ⟨A21, c21, rfl⟩ := slice_owned hq
    have HQL := hid (show (p ++ [j]).length = p.length + 1 from by simp)
    have HD2 := hid (show rsItems T (n.kids.drop j) p j F = ⟨p ++ [j], false, T[F].from_, T[M].to_, F, (itemT nj).length⟩ :: (rsFrom T nj.kids (slotAt (segs nj) 0) (p ++ [j]) 0 F ++ rsItems T (n.kids.drop (j + 1)) p (j + 1) (F + (itemT nj).length)) from by
     have h := HD.out
     rw [from_at T F hFT, show Tr.endAt T (F + (itemT nj).length) = T[M].to_ from by rw [hM, end_at T M hMT]] at h
     exact h)
    generalize p ++ [j] = Q at HPA HQL HD2 ⊢
    have HFR := hid (HF2.out.trans HF21.out)
    have HOR := hid (ownsRow_touch HO.out HFR.out (fun _ _ h => h))
    have HPR := hid (HPS.out.fresh HFR.out)
    clear ho21 hg21 hv21 hq HO18 HF18 HSRC q3b HD
    refine Stay.go ?_
    go_wp2_with fail
    obtain ⟨gt, ot, hAt, hgt, t0, t1, t2, t3⟩ := HTK.out F hFT
    obtain ⟨gt', ot', hAt', _, s0, s1, s2, s3⟩ := HTK.out M hMT
    cases hAt
    cases hAt'
    have HWF := hid (HWR.out.trans HFR.out)
    have g2 := cell_regrown (HWF.out.cell t2 (fun h => h))
    have g3 := cell_regrown (HWF.out.cell s3 (fun h => h))
    have hFT' : (F : Int) < (T.length : Int) := by omega
    have hMT' : (M : Int) < (T.length : Int) := by omega
    have e1 : (F : Int) + ((itemT nj).length : Int) = (M : Int) + 1 := by omega
    have e2 : (M : Int) + 1 - 1 = (M : Int) := by omega
    have e3 : IntKind.i64.wrap ((M : Int) + 1) = (M : Int) + 1 := IntWalk.i64_in _ (by omega)
    have e4 : IntKind.i64.wrap (M : Int) = (M : Int) := IntWalk.i64_in _ (by omega)
    have hgt2 : gt < w21.heap.size := Nat.lt_of_lt_of_le hgt HWF.out.size
    clear t0 t1 t2 t3 s0 s1 s2 s3
    refine wp_region_mix [([(0, true), (1, true), (2, true), (3, true), (4, true), (5, true), (6, true), (7, true), (8, true), (9, true), (10, true), (11, true), (12, true), (13, true), (14, true), (15, true), (16, true), (17, true), (18, false)], 19)] [(20, true)] (by kernel_rfl) (fun _ _ d _ _ h => by cases d <;> exact h) (by kernel_rfl) ?_
    refine wpMix_seg ?_
    repeat (refine wpSeq_plain rfl (fun K hK => ?_); go_simp; refine hK _ ?_; clear hK K)
    refine wpSeq_lone rfl (fun K hK => ?_)
    go_wp2_with fail
    have HF22 := hid (show Fresh w21 ((w21.drewN 1).alloc (.cells (spc (.slice A21 Q.length c21) ⟨Q, false, T[F].from_, T[M].to_, F, (itemT nj).length⟩).toArray 78)) from ((Touch.refl _ _).drewN 1).alloc _)
    have HB22 := hid (show Blk ((w21.drewN 1).alloc (.cells (spc (.slice A21 Q.length c21) ⟨Q, false, T[F].from_, T[M].to_, F, (itemT nj).length⟩).toArray 78)) w21.heap.size 78 (spc (.slice A21 Q.length c21) ⟨Q, false, T[F].from_, T[M].to_, F, (itemT nj).length⟩).toArray from Blk.new (w21.drewN 1) _ _)
    refine hK _ _ (growing_fresh HF22.out) ?_
    clear hK K
    change Hid (Fresh w21 ((w21.drewN 1).alloc (.cells #[.slice A21 Q.length c21, .int .i64 (T[F].from_ : Int), .int .i64 (T[M].to_ : Int), .bool false, .int .i64 (F : Int), .int .i64 ((itemT nj).length : Int)] 78))) at HF22
    change Hid (Blk ((w21.drewN 1).alloc (.cells #[.slice A21 Q.length c21, .int .i64 (T[F].from_ : Int), .int .i64 (T[M].to_ : Int), .bool false, .int .i64 (F : Int), .int .i64 ((itemT nj).length : Int)] 78)) w21.heap.size 78 (spc (.slice A21 Q.length c21) ⟨Q, false, T[F].from_, T[M].to_, F, (itemT nj).length⟩).toArray) at HB22
    generalize ((w21.drewN 1).alloc (.cells #[.slice A21 Q.length c21, .int .i64 (T[F].from_ : Int), .int .i64 (T[M].to_ : Int), .bool false, .int .i64 (F : Int), .int .i64 ((itemT nj).length : Int)] 78)) = W22 at *
    refine wpSeq_shut rfl (fun K hK => ?_)
    go_wp2_with (at_builtin; refine wpList_append_src _ rfl (.tmp 44) (.tmp 62) 39 rfl W1.heap.size 78 i' _ 6 64 rfl hi' hz0' hz1' hz2' rfl (by decide) (.slice Ao L.length co) L.length cs (by simp [Act.eval]) (ownsRow_touch HOR.out HF22.out (fun _ _ h => h)) (.slice (some ⟨w21.heap.size, 0, none⟩) 1 1) 1 (spc (.slice A21 Q.length c21) ⟨Q, false, T[F].from_, T[M].to_, F, (itemT nj).length⟩) (by simp [Act.eval]) (Src.of_blk HB22.out rfl) (spc_one HPA.out) (by have := HLN.out; unfold maxLen; omega) (by have := HLN.out; omega) (by have h1 := HF22.out.size; have h2 := HFR.out.size; have h3 := HF.out.size; omega) ?_; intro v23 W23 ho23 hg23 hv23; refine Stay.mk ?_)
    have HT23 := hid (show Touch (fun b => (Value.slice Ao L.length co).ownBlock = some b) w21 W23 from (HF22.out.mono (fun _ h => h.elim)).grown hg23 fun g h => .inl h)
    have HF23 := hid (show Fresh W1 W23 from touch_grown (HF.out.trans (HFR.out.trans HF22.out)) (ownsRow_touch HOR.out HF22.out (fun _ _ h => h)) (Nat.le_refl _) hg23)
    have HPS23 := hid ((HPR.out.mv HT23.out (owns_psp HOR.out)).append (SpsT.one (x := ⟨Q, false, T[F].from_, T[M].to_, F, (itemT nj).length⟩) (HPA.out.mv HT23.out (owns_psp HOR.out))))
    have HPA23 := hid (HPA.out.mv HT23.out (owns_psp HOR.out))
    have HO23 := hid (show W23.ownsRow W1.heap.size 78 6 v23 (L ++ [(⟨Q, false, T[F].from_, T[M].to_, F, (itemT nj).length⟩ : RSp)]).length (cs ++ spc (.slice A21 Q.length c21) ⟨Q, false, T[F].from_, T[M].to_, F, (itemT nj).length⟩) from by rw [List.length_append]; exact ho23)
    obtain ⟨A23, c23, rfl⟩ := slice_owned ho23
    have HWR3 := hid (HF1.out.trans HF23.out)
    have HL2 := hid (show (L ++ [(⟨Q, false, T[F].from_, T[M].to_, F, (itemT nj).length⟩ : RSp)]) ++ (rsFrom T nj.kids (slotAt (segs nj) 0) Q 0 F ++ rsItems T (n.kids.drop (j + 1)) p (j + 1) (F + (itemT nj).length)) = rsRow T n.kids p f from by rw [← HL.out, HD2.out]; simp)
    generalize hL3 : L ++ [(⟨Q, false, T[F].from_, T[M].to_, F, (itemT nj).length⟩ : RSp)] = L3 at HPS23 HO23 HL2
    have HL3 := hid (show L.length + 1 = L3.length from by rw [← hL3]; simp)
    generalize cs ++ spc (.slice A21 Q.length c21) ⟨Q, false, T[F].from_, T[M].to_, F, (itemT nj).length⟩ = cs3 at HPS23 HO23
    clear ho23 hg23 hv23 hL3 g2 g3 HB22 HF22 HPR HOR HFR HF21 HF2 HWR2 HWF HPS HL HD2
    refine Stay.go ?_
    go_wp2_with fail
    refine wpMix_last ?_
    repeat (refine wpSeq_plain rfl (fun K hK => ?_); go_simp; refine hK _ ?_; clear hK K)
    refine wpSeq_end ?_
    have q4 := HF23.out.cell q1 (fun h => h)
    have b0 := HWR3.out.cell M0.out (fun h => h)
    have b1 := HWR3.out.cell M1.out (fun h => h)
    have b2 := HWR3.out.cell M2.out (fun h => h)
    have b3 := HWR3.out.cell M3.out (fun h => h)
    go_wp2_with fail
    refine (slots_any nj HVJ.out _ _ (HRJ.out.fresh HWR3.out) (by have := HCJ.out; omega)).mono ?_
    rintro _ W24 ⟨v24, rfl, ho24, hf24⟩
    have HF24 := hid (HF23.out.trans hf24)
    have HST := hid (PthT.own ho24)
    have HO24 := hid (ownsRow_touch HO23.out hf24 (fun _ _ h => h))
    have HPS24 := hid (HPS23.out.fresh hf24)
    have HPA24 := hid (HPA23.out.fresh hf24)
    generalize slotAt (segs nj) 0 = SS at HST HSI HSL HL2
    obtain ⟨A24, c24, rfl⟩ := HST.out.slice
    have hssl : (SS.length : Int) = (nj.kids.length : Int) := by have := HSL.out; omega
    clear ho24 hf24 q4 b0 b1 b2 b3 HO23 HPS23 HPA23 HPA
    generalize hRe : rsItems T (n.kids.drop (j + 1)) p (j + 1) (F + (itemT nj).length) = R at HL2
    have HRE := hid hRe
    clear hRe
    go_wp2_with fail
    go_loopw [10, 15] (fun o2 k2 wr2 => ∃ (s : Nat) (L2 : List RSp) (cs2 : List Value), k2 = .int .i64 s ∧ s ≤ nj.kids.length ∧ Hid (L2 ++ (rsFrom T (nj.kids.drop s) (SS.drop s) Q s F ++ R) = rsRow T n.kids p f) ∧ Hid (wr2.ownsRow W1.heap.size 78 6 o2 L2.length cs2) ∧ Hid (SpsT wr2 L2 cs2) ∧ Hid (PthT wr2 (.slice A21 Q.length c21) Q) ∧ Hid (PthT wr2 (.slice A24 SS.length c24) SS) ∧ Hid (Fresh W1 wr2)) (fun _ k2 _ => nj.kids.length - (intOf k2).toNat)
    case atStart => exact ⟨0, L3, cs3, rfl, Nat.zero_le _, by simpa [Hid] using HL2.out, HO24, HPS24, HPA24, HST, HF24⟩
    case round =>
     obtain ⟨s, L2, cs2, rfl, hs, HL4, HO2, HPS2, HPQ, HST2, HFI⟩ := hrel
     clear HO24 HPS24 HPA24 HST HF24 HL2 HF23 HWR3 HT23 HF HWR HL3 HO HLN
     obtain ⟨Ao2, co2, rfl⟩ := slice_owned HO2.out
     have HWR := hid (HF1.out.trans HFI.out)
     have HSRC := hid (show Src wr 1 (.slice A21 Q.length c21) Q.length (intVs (up Q)) from by have := Src.of_ints HPQ.out.ints; rwa [List.length_map] at this)
     have q3 := HFI.out.cell q1 (fun h => h)
     have x3 := HWR.out.cell M3.out (fun h => h)
     by_cases c3 : s < nj.kids.length
     ·have c3s : s < SS.length := by have := HSL.out; omega
      have hnk8 : nj.kids.length ≤ 800 := by have h1 := Tr.countL_len nj.kids; have h2 := Tr.count_kids nj; have h3 := HCJ.out; omega
      have d3 : decide ((s : Int) < (SS.length : Int)) = true := by simp; omega
      have d3n : decide (s < SS.length) = true := by simp; omega
      have d3k : decide (s < nj.kids.length) = true := by simp; omega
      have d3i : decide ((s : Int) < (nj.kids.length : Int)) = true := by simp; omega
      have c3' : (s : Int) < (nj.kids.length : Int) := by omega
      have c3z : (s : Int) < (SS.length : Int) := by omega
      obtain ⟨gk, ok, sk, hAe, hgk, n0, n1, n2, n3, hrk⟩ := HRJ.out.get s c3
      cases hAe
      obtain ⟨bs, hAs, hbs, y0⟩ := HST2.out.get s c3s
      cases hAs
      have HDR := hid (rsFrom_drop T nj.kids SS Q s F c3 c3s)
      have HSX := hid (HSI.out s c3s c3)
      have HNK := hid (show Tr.count nj.kids[s] < Tr.count nj from by have h1 := Tr.count_mem (List.getElem_mem c3); have h2 := Tr.count_kids nj; omega)
      have HRW := hid (view_rows HVJ.out _ (List.getElem_mem c3))
      generalize SS[s] = st at y0 HDR HSX
      generalize nj.kids[s] = nk at n0 n1 n2 n3 hrk HDR HNK HSX HRW
      obtain ⟨G, hG⟩ : ∃ G, F + st = G := ⟨_, rfl⟩
      rw [hG] at HDR
      have HG := hid (show G + (rowT nk.kids).length ≤ T.length from by have h1 := HSX.out; omega)
      have hG4 : G ≤ 4000 := by have h1 := HG.out; have h2 := HTL.out; omega
      have e5 : (F : Int) + (st : Int) = (G : Int) := by omega
      have hst4 : st ≤ 4000 := by omega
      clear hG
      obtain ⟨Ak, ck, rfl⟩ := hrk.slice
      have HRK := hid hrk
      have HLN := hid (show L2.length + (rsRow T nk.kids (Q ++ [s]) G).length ≤ 1000 from by
       have h1 := congrArg List.length HL4.out
       rw [HDR.out, List.length_append, List.length_append, List.length_append, rsRow_len T n.kids] at h1
       have := Tr.count_kids n
       have := HC.out
       omega)
      have z0 := HWR.out.cell n0 (fun h => h)
      have z1 := HWR.out.cell n1 (fun h => h)
      have z2 := HWR.out.cell n2 (fun h => h)
      have z3 := HWR.out.cell n3 (fun h => h)
      clear n0 n1 n2 n3 hrk hgk
      go_wp2_with fail
      have r3 := cell_regrown q3
      have s3 := cell_regrown x3
      have b0 := cell_regrown z0
      have b1 := cell_regrown z1
      have b2 := cell_regrown z2
      have b3 := cell_regrown z3
      have b4 := cell_regrown y0
      clear q3 x3 z0 z1 z2 z3 y0
      refine wp_region_plan (Plan.of [(0, true), (1, true), (2, true), (3, true), (4, true), (5, true), (6, true), (7, true), (8, true), (9, true), (11, true), (13, true), (16, true), (17, true), (18, true), (19, true), (20, true), (21, true), (22, true)] (.fork 10 (.fork 12 (.lone 14 (.lone 15 (.lone 23 .nil))) 14 (.lone 12 (.lone 15 (.lone 23 .nil)))) 14 (.lone 10 (.lone 12 (.lone 15 (.lone 23 .nil))))))
       [0, 1, 2, 3, 4, 5, 6, 7, 8, 9, 10, 11, 12, 13, 14, 15, 16, 17, 18, 19, 20, 21, 22, 23] 24 #[true, true, true, true, true, true, true, true, true, true, true, true, true, true, true, true, true, true, true, true, true, true, true, true, false, false] [] [(25, true)] (by kernel_rfl) (fun _ _ d _ _ h => by cases d <;> exact h) (by kernel_rfl) ?_
      unfold Plan.of
      repeat (refine wpPlan_plain rfl (fun K hK => ?_); go_simp; refine hK _ ?_; clear hK K; first | done | unfold Plan.of)
      clear r3 s3 b0 b1 b2 b3 b4
      refine wpPlan_fork ?_ ?_
      ·skip
       refine wpPlan_lone rfl (fun K hK => ?_)
       go_wp2_with fail
       have HF10 := hid (show Fresh wr ((wr.drewN 1).alloc (.cells #[] 3)) from ((Touch.refl _ wr).drewN 1).alloc _)
       refine hK _ _ (growing_fresh HF10.out) ?_
       clear hK K
       have HO10 := hid (show ((wr.drewN 1).alloc (.cells #[] 3)).ownsRow wr.heap.size 3 1 (.slice (some ⟨wr.heap.size, 0, none⟩) 0 0) 0 [] from World.ownsRow_lit (wr.drewN 1) #[] 0 (by simp) (Nat.zero_le _) rfl)
       have HZ10 := hid (show ((wr.drewN 1).alloc (.cells #[] 3)).heap.size = wr.heap.size + 1 from by simp)
       generalize ((wr.drewN 1).alloc (.cells #[] 3)) = W10 at *
       refine wpPlan_fork ?_ ?_
       ·skip
        refine wpPlan_lone rfl (fun K hK => ?_)
        go_wp2_with (at_builtin; refine wpList_append_src _ rfl (.tmp 86) (.tmp 87) 25 rfl wr.heap.size 3 i _ 1 8 rfl hi hz0 hz1 hz2 rfl (by decide) (.slice (some ⟨wr.heap.size, 0, none⟩) 0 0) 0 [] (by simp [Act.eval]) HO10.out (.slice A21 Q.length c21) Q.length (intVs (up Q)) (by simp [Act.eval]) (HSRC.out.fresh HF10.out) (intVs_one _) (by have h1 := HPL.out; have h2 := HQL.out; unfold maxLen; omega) (by have h1 := HPL.out; have h2 := HQL.out; omega) HF10.out.size ?_; intro v12 W12 ho12 hg12 _; refine Stay.mk ?_)
        rw [Nat.zero_add, List.nil_append] at ho12
        obtain ⟨A12, c12, rfl⟩ := slice_owned ho12
        have HF12 := hid (show Fresh wr W12 from touch_grown HF10.out HO10.out (Nat.le_refl _) hg12)
        have HO12 := hid ho12
        clear ho12 hg12
        refine Stay.go ?_
        go_wp2_with fail
        refine hK _ _ (growing_fresh HF12.out) ?_
        clear hK K
        refine wpPlan_lone rfl (fun K hK => ?_)
        go_wp2_with fail
        have HF15 := hid (show Fresh wr (W12.alloc (.cells #[.int .i64 (s : Int)] 3)) from HF12.out.alloc _)
        refine hK _ _ (growing_fresh HF15.out) ?_
        clear hK K
        have HB15 := hid (show Blk (W12.alloc (.cells #[.int .i64 (s : Int)] 3)) W12.heap.size 3 #[.int .i64 (s : Int)] from Blk.new W12 _ _)
        have HO15 := hid (ownsRow_touch HO12.out (((Touch.refl _ _).alloc _ : Fresh W12 (W12.alloc (.cells #[.int .i64 (s : Int)] 3)))) (fun _ _ h => h))
        generalize (W12.alloc (.cells #[.int .i64 (s : Int)] 3)) = W15 at *
        refine wpPlan_lone rfl (fun K hK => ?_)
        go_wp2_with (at_builtin; refine wpList_append_src _ rfl (.tmp 88) (.tmp 90) 25 rfl wr.heap.size 3 i _ 1 8 rfl hi hz0 hz1 hz2 rfl (by decide) (.slice A12 Q.length c12) Q.length (intVs (up Q)) (by simp [Act.eval]) HO15.out (.slice (some ⟨W12.heap.size, 0, none⟩) 1 1) 1 [.int .i64 (s : Int)] (by simp [Act.eval]) (Src.of_blk HB15.out rfl) (by intro u hu; simp at hu; rw [hu]; rfl) (by have h1 := HPL.out; have h2 := HQL.out; unfold maxLen; omega) (by have h1 := HPL.out; have h2 := HQL.out; omega) HF15.out.size ?_; intro v16 W16 ho16 hg16 _; refine Stay.mk ?_)
        have HF16 := hid (show Fresh wr W16 from touch_grown HF15.out HO15.out (Nat.le_refl _) hg16)
        have hq : W16.ownsRow wr.heap.size 3 1 v16 (Q ++ [s]).length (intVs (up (Q ++ [s]))) := by
         have e1 : (Q ++ [s]).length = Q.length + 1 := by simp
         have e2 : intVs (up (Q ++ [s])) = intVs (up Q) ++ [.int .i64 (s : Int)] := by simp
         rw [e1, e2]
         exact ho16
        have HI16 := hid (PthT.own hq)
        obtain ⟨A16, c16, rfl⟩ := slice_owned ho16
        clear ho16 hg16 hq
        refine Stay.go ?_
        go_wp2_with fail
        refine hK _ _ (growing_fresh HF16.out) ?_
        clear hK K
        refine wpPlan_lone rfl (fun K hK => ?_)
        go_wp2_with fail
        refine (HIH.out nk _ _ (Q ++ [s]) G _ (by have h1 := HNK.out; have h2 := HCJ.out; omega) (by have h1 := HNK.out; have h2 := HCJ.out; omega) HRW.out (HRK.out.fresh (HWR.out.trans HF16.out)) HI16.out (HT.out.fresh (HWR.out.trans HF16.out)) (by have h1 := HNK.out; have h2 := HCJ.out; have h3 := HQL.out; simp only [List.length_append, List.length_cons, List.length_nil]; omega) HTL.out HG.out).mono ?_
        rintro _ W17 ⟨v17, cs17, rfl, ho17, hps17, hf17⟩
        have HF17 := hid (HF16.out.trans hf17)
        have HO17 := hid ho17
        have HPS17 := hid hps17
        have HS16 := hid HF16.out.size
        obtain ⟨A17, c17, rfl⟩ := slice_owned ho17
        clear ho17 hps17 hf17
        go_wp2_with fail
        refine hK _ _ (growing_fresh HF17.out) ?_
        clear hK K
        refine wpPlan_shut rfl (fun K hK => ?_)
        go_wp2_with (at_builtin; refine wpList_append_src _ rfl (.tmp 76) (.tmp 99) 39 rfl W1.heap.size 78 i' _ 6 64 rfl hi' hz0' hz1' hz2' rfl (by decide) (.slice Ao2 L2.length co2) L2.length cs2 (by simp [Act.eval]) (ownsRow_touch HO2.out HF17.out (fun _ _ h => h)) (.slice A17 (rsRow T nk.kids (Q ++ [s]) G).length c17) (rsRow T nk.kids (Q ++ [s]) G).length cs17 (by simp [Act.eval]) (Src.of_own HO17.out) HPS17.out.oneCell (by have := HLN.out; unfold maxLen; omega) (by have := HLN.out; omega) (by have := HF17.out.size; have := HFI.out.size; omega) ?_; intro v18 W18 ho18 hg18 hv18; refine Stay.mk ?_)
        have HT18 := hid (show Touch (fun b => (Value.slice Ao2 L2.length co2).ownBlock = some b) wr W18 from (HF17.out.mono (fun _ h => h.elim)).grown hg18 fun g h => .inl h)
        have HT18' := hid (show Touch (fun b => (Value.slice Ao2 L2.length co2).ownBlock = some b) W17 W18 from (Touch.refl _ _).grown hg18 fun g h => .inl h)
        have HF18' := hid (show Fresh W1 W18 from touch_grown (HFI.out.trans HF17.out) (ownsRow_touch HO2.out HF17.out (fun _ _ h => h)) (Nat.le_refl _) hg18)
        have HO18' := hid (show W18.ownsRow W1.heap.size 78 6 v18 (L2 ++ rsRow T nk.kids (Q ++ [s]) G).length (cs2 ++ cs17) from by rw [List.length_append]; exact ho18)
        have HPS18 := hid ((HPS2.out.mv HT18.out (owns_psp HO2.out)).append (HPS17.out.mv HT18'.out (owns_psp (ownsRow_touch HO2.out HF17.out (fun _ _ h => h)))))
        have HPQ18 := hid (HPQ.out.mv HT18.out (owns_psp HO2.out))
        have HST18 := hid (HST2.out.mv HT18.out (owns_psp HO2.out))
        have HL18 := hid (show (L2 ++ rsRow T nk.kids (Q ++ [s]) G) ++ (rsFrom T (nj.kids.drop (s + 1)) (SS.drop (s + 1)) Q (s + 1) F ++ R) = rsRow T n.kids p f from by rw [← HL4.out, HDR.out]; simp)
        obtain ⟨A18', c18', rfl⟩ := slice_owned ho18
        clear ho18 hg18 hv18
        refine Stay.go ?_
        go_wp2_with fail
        refine wpMix_last ?_
        repeat (refine wpSeq_plain rfl (fun K hK => ?_); go_simp; refine hK _ ?_; clear hK K)
        refine wpSeq_end ?_
        go_wp2_with fail
        go_roundw
        case rel => exact ⟨s + 1, L2 ++ rsRow T nk.kids (Q ++ [s]) G, cs2 ++ cs17, by first | go_num | simp, by omega, HL18, HO18', HPS18, HPQ18, HST18, HF18'⟩
        case measure => first | (simp [intOf]; omega) | (simp [intOf]; done)
       ·skip
        refine wpPlan_lone rfl (fun K hK => ?_)
        go_wp2_with fail
        have HF15 := hid (show Fresh wr (W10.alloc (.cells #[.int .i64 (s : Int)] 3)) from HF10.out.alloc _)
        refine hK _ _ (growing_fresh HF15.out) ?_
        clear hK K
        have HB15 := hid (show Blk (W10.alloc (.cells #[.int .i64 (s : Int)] 3)) W10.heap.size 3 #[.int .i64 (s : Int)] from Blk.new W10 _ _)
        have HO15 := hid (ownsRow_touch HO10.out (((Touch.refl _ _).alloc _ : Fresh W10 (W10.alloc (.cells #[.int .i64 (s : Int)] 3)))) (fun _ _ h => h))
        generalize (W10.alloc (.cells #[.int .i64 (s : Int)] 3)) = W15 at *
        refine wpPlan_lone rfl (fun K hK => ?_)
        go_wp2_with (at_builtin; refine wpList_append_src _ rfl (.tmp 86) (.tmp 87) 25 rfl wr.heap.size 3 i _ 1 8 rfl hi hz0 hz1 hz2 rfl (by decide) (.slice (some ⟨wr.heap.size, 0, none⟩) 0 0) 0 [] (by simp [Act.eval]) HO15.out (.slice A21 Q.length c21) Q.length (intVs (up Q)) (by simp [Act.eval]) (HSRC.out.fresh HF15.out) (intVs_one _) (by have h1 := HPL.out; have h2 := HQL.out; unfold maxLen; omega) (by have h1 := HPL.out; have h2 := HQL.out; omega) HF15.out.size ?_; intro v12 W12 ho12 hg12 _; refine Stay.mk ?_)
        rw [Nat.zero_add, List.nil_append] at ho12
        obtain ⟨A12, c12, rfl⟩ := slice_owned ho12
        have HF12 := hid (show Fresh wr W12 from touch_grown HF15.out HO15.out (Nat.le_refl _) hg12)
        have HO12 := hid ho12
        have HB12 := hid (show Blk W12 W10.heap.size 3 #[.int .i64 (s : Int)] from ((Touch.refl (fun b => b = wr.heap.size) _).grown hg12 fun g h => .inl (by simp only [Value.ownBlock, Option.some.injEq] at h; exact h.symm)).blk HB15.out (by intro e; have := HZ10.out; omega))
        clear ho12 hg12
        refine Stay.go ?_
        go_wp2_with fail
        refine hK _ _ (growing_fresh HF12.out) ?_
        clear hK K
        refine wpPlan_lone rfl (fun K hK => ?_)
        go_wp2_with (at_builtin; refine wpList_append_src _ rfl (.tmp 88) (.tmp 90) 25 rfl wr.heap.size 3 i _ 1 8 rfl hi hz0 hz1 hz2 rfl (by decide) (.slice A12 Q.length c12) Q.length (intVs (up Q)) (by simp [Act.eval]) HO12.out (.slice (some ⟨W10.heap.size, 0, none⟩) 1 1) 1 [.int .i64 (s : Int)] (by simp [Act.eval]) (Src.of_blk HB12.out rfl) (by intro u hu; simp at hu; rw [hu]; rfl) (by have h1 := HPL.out; have h2 := HQL.out; unfold maxLen; omega) (by have h1 := HPL.out; have h2 := HQL.out; omega) HF12.out.size ?_; intro v16 W16 ho16 hg16 _; refine Stay.mk ?_)
        have HF16 := hid (show Fresh wr W16 from touch_grown HF12.out HO12.out (Nat.le_refl _) hg16)
        have hq : W16.ownsRow wr.heap.size 3 1 v16 (Q ++ [s]).length (intVs (up (Q ++ [s]))) := by
         have e1 : (Q ++ [s]).length = Q.length + 1 := by simp
         have e2 : intVs (up (Q ++ [s])) = intVs (up Q) ++ [.int .i64 (s : Int)] := by simp
         rw [e1, e2]
         exact ho16
        have HI16 := hid (PthT.own hq)
        obtain ⟨A16, c16, rfl⟩ := slice_owned ho16
        clear ho16 hg16 hq
        refine Stay.go ?_
        go_wp2_with fail
        refine hK _ _ (growing_fresh HF16.out) ?_
        clear hK K
        refine wpPlan_lone rfl (fun K hK => ?_)
        go_wp2_with fail
        refine (HIH.out nk _ _ (Q ++ [s]) G _ (by have h1 := HNK.out; have h2 := HCJ.out; omega) (by have h1 := HNK.out; have h2 := HCJ.out; omega) HRW.out (HRK.out.fresh (HWR.out.trans HF16.out)) HI16.out (HT.out.fresh (HWR.out.trans HF16.out)) (by have h1 := HNK.out; have h2 := HCJ.out; have h3 := HQL.out; simp only [List.length_append, List.length_cons, List.length_nil]; omega) HTL.out HG.out).mono ?_
        rintro _ W17 ⟨v17, cs17, rfl, ho17, hps17, hf17⟩
        have HF17 := hid (HF16.out.trans hf17)
        have HO17 := hid ho17
        have HPS17 := hid hps17
        have HS16 := hid HF16.out.size
        obtain ⟨A17, c17, rfl⟩ := slice_owned ho17
        clear ho17 hps17 hf17
        go_wp2_with fail
        refine hK _ _ (growing_fresh HF17.out) ?_
        clear hK K
        refine wpPlan_shut rfl (fun K hK => ?_)
        go_wp2_with (at_builtin; refine wpList_append_src _ rfl (.tmp 76) (.tmp 99) 39 rfl W1.heap.size 78 i' _ 6 64 rfl hi' hz0' hz1' hz2' rfl (by decide) (.slice Ao2 L2.length co2) L2.length cs2 (by simp [Act.eval]) (ownsRow_touch HO2.out HF17.out (fun _ _ h => h)) (.slice A17 (rsRow T nk.kids (Q ++ [s]) G).length c17) (rsRow T nk.kids (Q ++ [s]) G).length cs17 (by simp [Act.eval]) (Src.of_own HO17.out) HPS17.out.oneCell (by have := HLN.out; unfold maxLen; omega) (by have := HLN.out; omega) (by have := HF17.out.size; have := HFI.out.size; omega) ?_; intro v18 W18 ho18 hg18 hv18; refine Stay.mk ?_)
        have HT18 := hid (show Touch (fun b => (Value.slice Ao2 L2.length co2).ownBlock = some b) wr W18 from (HF17.out.mono (fun _ h => h.elim)).grown hg18 fun g h => .inl h)
        have HT18' := hid (show Touch (fun b => (Value.slice Ao2 L2.length co2).ownBlock = some b) W17 W18 from (Touch.refl _ _).grown hg18 fun g h => .inl h)
        have HF18' := hid (show Fresh W1 W18 from touch_grown (HFI.out.trans HF17.out) (ownsRow_touch HO2.out HF17.out (fun _ _ h => h)) (Nat.le_refl _) hg18)
        have HO18' := hid (show W18.ownsRow W1.heap.size 78 6 v18 (L2 ++ rsRow T nk.kids (Q ++ [s]) G).length (cs2 ++ cs17) from by rw [List.length_append]; exact ho18)
        have HPS18 := hid ((HPS2.out.mv HT18.out (owns_psp HO2.out)).append (HPS17.out.mv HT18'.out (owns_psp (ownsRow_touch HO2.out HF17.out (fun _ _ h => h)))))
        have HPQ18 := hid (HPQ.out.mv HT18.out (owns_psp HO2.out))
        have HST18 := hid (HST2.out.mv HT18.out (owns_psp HO2.out))
        have HL18 := hid (show (L2 ++ rsRow T nk.kids (Q ++ [s]) G) ++ (rsFrom T (nj.kids.drop (s + 1)) (SS.drop (s + 1)) Q (s + 1) F ++ R) = rsRow T n.kids p f from by rw [← HL4.out, HDR.out]; simp)
        obtain ⟨A18', c18', rfl⟩ := slice_owned ho18
        clear ho18 hg18 hv18
        refine Stay.go ?_
        go_wp2_with fail
        refine wpMix_last ?_
        repeat (refine wpSeq_plain rfl (fun K hK => ?_); go_simp; refine hK _ ?_; clear hK K)
        refine wpSeq_end ?_
        go_wp2_with fail
        go_roundw
        case rel => exact ⟨s + 1, L2 ++ rsRow T nk.kids (Q ++ [s]) G, cs2 ++ cs17, by first | go_num | simp, by omega, HL18, HO18', HPS18, HPQ18, HST18, HF18'⟩
        case measure => first | (simp [intOf]; omega) | (simp [intOf]; done)
      ·skip
       refine wpPlan_lone rfl (fun K hK => ?_)
       go_wp2_with fail
       have HF15 := hid (show Fresh wr ((wr.drewN 1).alloc (.cells #[.int .i64 (s : Int)] 3)) from ((Touch.refl _ wr).drewN 1).alloc _)
       refine hK _ _ (growing_fresh HF15.out) ?_
       clear hK K
       have HB15 := hid (show Blk ((wr.drewN 1).alloc (.cells #[.int .i64 (s : Int)] 3)) wr.heap.size 3 #[.int .i64 (s : Int)] from Blk.new (wr.drewN 1) _ _)
       generalize ((wr.drewN 1).alloc (.cells #[.int .i64 (s : Int)] 3)) = W15 at *
       refine wpPlan_lone rfl (fun K hK => ?_)
       go_wp2_with fail
       have HF10 := hid (show Fresh wr (W15.alloc (.cells #[] 3)) from HF15.out.alloc _)
       refine hK _ _ (growing_fresh HF10.out) ?_
       clear hK K
       have HO10 := hid (show (W15.alloc (.cells #[] 3)).ownsRow wr.heap.size 3 1 (.slice (some ⟨W15.heap.size, 0, none⟩) 0 0) 0 [] from World.ownsRow_lit W15 #[] 0 HF15.out.size (Nat.zero_le _) rfl)
       have HZ10 := hid (show (W15.alloc (.cells #[] 3)).heap.size = W15.heap.size + 1 from by simp)
       have HB10 := hid (HB15.out.alloc (.cells #[] 3))
       generalize (W15.alloc (.cells #[] 3)) = W10 at *
       refine wpPlan_lone rfl (fun K hK => ?_)
       go_wp2_with (at_builtin; refine wpList_append_src _ rfl (.tmp 86) (.tmp 87) 25 rfl wr.heap.size 3 i _ 1 8 rfl hi hz0 hz1 hz2 rfl (by decide) (.slice (some ⟨W15.heap.size, 0, none⟩) 0 0) 0 [] (by simp [Act.eval]) HO10.out (.slice A21 Q.length c21) Q.length (intVs (up Q)) (by simp [Act.eval]) (HSRC.out.fresh HF10.out) (intVs_one _) (by have h1 := HPL.out; have h2 := HQL.out; unfold maxLen; omega) (by have h1 := HPL.out; have h2 := HQL.out; omega) HF10.out.size ?_; intro v12 W12 ho12 hg12 _; refine Stay.mk ?_)
       rw [Nat.zero_add, List.nil_append] at ho12
       obtain ⟨A12, c12, rfl⟩ := slice_owned ho12
       have HF12 := hid (show Fresh wr W12 from touch_grown HF10.out HO10.out (Nat.le_refl _) hg12)
       have HO12 := hid ho12
       have HB12 := hid (show Blk W12 wr.heap.size 3 #[.int .i64 (s : Int)] from ((Touch.refl (fun b => b = W15.heap.size) _).grown hg12 fun g h => .inl (by simp only [Value.ownBlock, Option.some.injEq] at h; exact h.symm)).blk HB10.out (by intro e; have := HB15.out.lt; omega))
       clear ho12 hg12
       refine Stay.go ?_
       go_wp2_with fail
       refine hK _ _ (growing_fresh HF12.out) ?_
       clear hK K
       refine wpPlan_lone rfl (fun K hK => ?_)
       go_wp2_with (at_builtin; refine wpList_append_src _ rfl (.tmp 88) (.tmp 90) 25 rfl wr.heap.size 3 i _ 1 8 rfl hi hz0 hz1 hz2 rfl (by decide) (.slice A12 Q.length c12) Q.length (intVs (up Q)) (by simp [Act.eval]) HO12.out (.slice (some ⟨wr.heap.size, 0, none⟩) 1 1) 1 [.int .i64 (s : Int)] (by simp [Act.eval]) (Src.of_blk HB12.out rfl) (by intro u hu; simp at hu; rw [hu]; rfl) (by have h1 := HPL.out; have h2 := HQL.out; unfold maxLen; omega) (by have h1 := HPL.out; have h2 := HQL.out; omega) HF12.out.size ?_; intro v16 W16 ho16 hg16 _; refine Stay.mk ?_)
       have HF16 := hid (show Fresh wr W16 from touch_grown HF12.out HO12.out (Nat.le_refl _) hg16)
       have hq : W16.ownsRow wr.heap.size 3 1 v16 (Q ++ [s]).length (intVs (up (Q ++ [s]))) := by
        have e1 : (Q ++ [s]).length = Q.length + 1 := by simp
        have e2 : intVs (up (Q ++ [s])) = intVs (up Q) ++ [.int .i64 (s : Int)] := by simp
        rw [e1, e2]
        exact ho16
       have HI16 := hid (PthT.own hq)
       obtain ⟨A16, c16, rfl⟩ := slice_owned ho16
       clear ho16 hg16 hq
       refine Stay.go ?_
       go_wp2_with fail
       refine hK _ _ (growing_fresh HF16.out) ?_
       clear hK K
       refine wpPlan_lone rfl (fun K hK => ?_)
       go_wp2_with fail
       refine (HIH.out nk _ _ (Q ++ [s]) G _ (by have h1 := HNK.out; have h2 := HCJ.out; omega) (by have h1 := HNK.out; have h2 := HCJ.out; omega) HRW.out (HRK.out.fresh (HWR.out.trans HF16.out)) HI16.out (HT.out.fresh (HWR.out.trans HF16.out)) (by have h1 := HNK.out; have h2 := HCJ.out; have h3 := HQL.out; simp only [List.length_append, List.length_cons, List.length_nil]; omega) HTL.out HG.out).mono ?_
       rintro _ W17 ⟨v17, cs17, rfl, ho17, hps17, hf17⟩
       have HF17 := hid (HF16.out.trans hf17)
       have HO17 := hid ho17
       have HPS17 := hid hps17
       have HS16 := hid HF16.out.size
       obtain ⟨A17, c17, rfl⟩ := slice_owned ho17
       clear ho17 hps17 hf17
       go_wp2_with fail
       refine hK _ _ (growing_fresh HF17.out) ?_
       clear hK K
       refine wpPlan_shut rfl (fun K hK => ?_)
       go_wp2_with (at_builtin; refine wpList_append_src _ rfl (.tmp 76) (.tmp 99) 39 rfl W1.heap.size 78 i' _ 6 64 rfl hi' hz0' hz1' hz2' rfl (by decide) (.slice Ao2 L2.length co2) L2.length cs2 (by simp [Act.eval]) (ownsRow_touch HO2.out HF17.out (fun _ _ h => h)) (.slice A17 (rsRow T nk.kids (Q ++ [s]) G).length c17) (rsRow T nk.kids (Q ++ [s]) G).length cs17 (by simp [Act.eval]) (Src.of_own HO17.out) HPS17.out.oneCell (by have := HLN.out; unfold maxLen; omega) (by have := HLN.out; omega) (by have := HF17.out.size; have := HFI.out.size; omega) ?_; intro v18 W18 ho18 hg18 hv18; refine Stay.mk ?_)
       have HT18 := hid (show Touch (fun b => (Value.slice Ao2 L2.length co2).ownBlock = some b) wr W18 from (HF17.out.mono (fun _ h => h.elim)).grown hg18 fun g h => .inl h)
       have HT18' := hid (show Touch (fun b => (Value.slice Ao2 L2.length co2).ownBlock = some b) W17 W18 from (Touch.refl _ _).grown hg18 fun g h => .inl h)
       have HF18' := hid (show Fresh W1 W18 from touch_grown (HFI.out.trans HF17.out) (ownsRow_touch HO2.out HF17.out (fun _ _ h => h)) (Nat.le_refl _) hg18)
       have HO18' := hid (show W18.ownsRow W1.heap.size 78 6 v18 (L2 ++ rsRow T nk.kids (Q ++ [s]) G).length (cs2 ++ cs17) from by rw [List.length_append]; exact ho18)
       have HPS18 := hid ((HPS2.out.mv HT18.out (owns_psp HO2.out)).append (HPS17.out.mv HT18'.out (owns_psp (ownsRow_touch HO2.out HF17.out (fun _ _ h => h)))))
       have HPQ18 := hid (HPQ.out.mv HT18.out (owns_psp HO2.out))
       have HST18 := hid (HST2.out.mv HT18.out (owns_psp HO2.out))
       have HL18 := hid (show (L2 ++ rsRow T nk.kids (Q ++ [s]) G) ++ (rsFrom T (nj.kids.drop (s + 1)) (SS.drop (s + 1)) Q (s + 1) F ++ R) = rsRow T n.kids p f from by rw [← HL4.out, HDR.out]; simp)
       obtain ⟨A18', c18', rfl⟩ := slice_owned ho18
       clear ho18 hg18 hv18
       refine Stay.go ?_
       go_wp2_with fail
       refine wpMix_last ?_
       repeat (refine wpSeq_plain rfl (fun K hK => ?_); go_simp; refine hK _ ?_; clear hK K)
       refine wpSeq_end ?_
       go_wp2_with fail
       go_roundw
       case rel => exact ⟨s + 1, L2 ++ rsRow T nk.kids (Q ++ [s]) G, cs2 ++ cs17, by first | go_num | simp, by omega, HL18, HO18', HPS18, HPQ18, HST18, HF18'⟩
       case measure => first | (simp [intOf]; omega) | (simp [intOf]; done)
     ·have c3s : SS.length = s := by have := HSL.out; omega
      have d3 : decide ((s : Int) < (SS.length : Int)) = false := by simp; omega
      have d3n : decide (s < SS.length) = false := by simp; omega
      have d3k : decide (s < nj.kids.length) = false := by simp; omega
      have d3i : decide ((s : Int) < (nj.kids.length : Int)) = false := by simp; omega
      have HE := hid (show L2 ++ rsItems T (n.kids.drop (j + 1)) p (j + 1) (F + (itemT nj).length) = rsRow T n.kids p f from by
       have h1 := HL4.out
       rw [show s = nj.kids.length by omega, rsFrom_end, List.nil_append] at h1
       rw [HRE.out]
       exact h1)
      have e6 : (F : Int) + ((itemT nj).length : Int) = ((F + (itemT nj).length : Nat) : Int) := by simp
      clear e1
      go_wp2_with fail
      go_roundw
      case rel => exact ⟨j + 1, F + (itemT nj).length, L2, cs2, by first | rfl | go_num | simp, by first | go_num | simp, by omega, HE, by unfold Hid; have h1 := HFF.out; have h2 := HFD.out; omega, HO2, HPS2, HFI⟩
      case measure => first | (simp [intOf]; omega) | (simp [intOf]; done)
   ·have d1 : decide ((j : Int) < (n.kids.length : Int)) = false := by simp; omega
    have d1n : decide (j < n.kids.length) = false := by simp; omega
    obtain rfl : j = n.kids.length := by omega
    have HE := hid (show L = rsRow T n.kids p f from by have h1 := HL.out; rwa [rsItems_end, List.append_nil] at h1)
    go_wp2_with fail
    go_ret
    refine ⟨_, cs, rfl, ?_, ?_, HF1.out.trans HF.out⟩
    ·rw [← HE.out]; exact ownsRow_low HO.out HF1.out.size
    ·rw [← HE.out]; exact HPS.out
end Go.Proofs.YtdacpbdamliafaaGreat

/- The reference's Write: tokens one after the other, with a space where two join. -/
namespace Go.Proofs.YtdacpbdamliafaaGreat
open Go.RowKit
def aT (ts : List Lx.PTok) (j : Nat) : List Lx.PTok × List UInt8 := adds ((ts.take j).map Lx.tok) [] []
theorem aT_step (ts : List Lx.PTok) (j : Nat) (h : j < ts.length) : aT ts (j + 1) = (added (aT ts j).1 (aT ts j).2 (Lx.tok ts[j]), (aT ts j).2 ++ gap (aT ts j).1 (Lx.tok ts[j]) ++ Lx.spell (Lx.tok ts[j])) := by
 unfold aT
 rw [List.take_succ_eq_append_getElem h, List.map_append, adds_app]
 rfl
theorem aT_last (ts : List Lx.PTok) (j : Nat) : (aT ts j).1.map Lx.tok = (ts.take j).map Lx.tok := by
 unfold aT
 rw [adds_wtext, Lx.placed_toks, Tr.sepd_toks]
theorem aT_gap0 (ts : List Lx.PTok) (t : Lx.Tok) : gap (aT ts 0).1 t = [] := rfl
theorem aT_gap (ts : List Lx.PTok) (m : Nat) (h : m < ts.length) (t : Lx.Tok) : gap (aT ts (m + 1)).1 t = if Lx.join (Lx.tok ts[m]) t then [32] else [] := by
 have hl := aT_last ts (m + 1)
 rw [List.take_succ_eq_append_getElem h, List.map_append] at hl
 have hg : (aT ts (m + 1)).1.getLast?.map Lx.tok = some (Lx.tok ts[m]) := by
  rw [← List.getLast?_map, hl]; simp
 unfold gap joinLast
 cases hx : (aT ts (m + 1)).1.getLast? with
 | none => rw [hx] at hg; cases hg
 | some x =>
  rw [hx] at hg
  simp only [Option.map_some, Option.some.injEq] at hg
  simp only [hg]
theorem aT_zero (ts : List Lx.PTok) : aT ts 0 = ([], []) := rfl
theorem aT_all (ts : List Lx.PTok) : aT ts ts.length = (Lx.placed 0 (Tr.sepd none (ts.map Lx.tok)), Tr.wtext (ts.map Lx.tok)) := by
 unfold aT
 rw [List.take_length, adds_wtext]
theorem aT_len (ts : List Lx.PTok) (j : Nat) : (aT ts j).1.length = min j ts.length := by
 rw [← List.length_map (f := Lx.tok), aT_last, List.length_map, List.length_take]
theorem joinsL_tok' (a b : Lx.PTok) : joinsL a.kind b.kind (ByteArray.mk b.text.toArray).data.toList = Lx.join (Lx.tok a) (Lx.tok b) := by
 have h : ∀ (k m : Nat), ((k : Int) == (m : Int)) = (k == m) := fun k m => by rw [Bool.eq_iff_iff]; simp [Int.ofNat_inj]
 unfold joinsL Lx.join Lx.tok
 simp only
 rw [show ((a.kind : Int) == 2) = (a.kind == 2) from h a.kind 2, show ((b.kind : Int) == 2) = (b.kind == 2) from h b.kind 2, show ((a.kind : Int) == 4) = (a.kind == 4) from h a.kind 4, show ((b.kind : Int) == 1) = (b.kind == 1) from h b.kind 1]
 cases b.text <;> rfl
theorem str_app' (a b : List UInt8) : (⟨a.toArray⟩ : ByteArray) ++ ⟨b.toArray⟩ = ⟨(a ++ b).toArray⟩ := by
 apply ByteArray.ext
 simp
theorem rjoins_tok (a b : Lx.PTok) (w : World) : Calls Tryz.prog 26 #[.agg #[.int .i64 a.kind, .string ⟨a.text.toArray⟩, .int .i64 a.from_, .int .i64 a.to_], .agg #[.int .i64 b.kind, .string ⟨b.text.toArray⟩, .int .i64 b.from_, .int .i64 b.to_]] w fun e w' => e = .returned (.bool (Lx.join (Lx.tok a) (Lx.tok b))) ∧ Fresh w w' := by
 rw [← joinsL_tok']
 exact rJoins_any _ _ _ _ _ _ _ _ w
theorem rspell_tok (a : Lx.PTok) (w : World) (h : a.text.length ≤ 1000000000) : Calls Tryz.prog 27 #[.agg #[.int .i64 a.kind, .string ⟨a.text.toArray⟩, .int .i64 a.from_, .int .i64 a.to_]] w fun e w' => e = .returned (.string ⟨(Lx.spell (Lx.tok a)).toArray⟩) ∧ Fresh w w' :=
 rSpell_any _ _ _ _ w (by show a.text.toArray.size ≤ _; simpa using h)
theorem aT_size (ts : List Lx.PTok) (ht : ∀ t ∈ ts, t.text.length ≤ 1000) : ∀ j, j ≤ ts.length → (aT ts j).2.length ≤ 2007 * j
 | 0, _ => Nat.le_refl _
 | j + 1, h => by
  have ih := aT_size ts ht j (by omega)
  rw [aT_step ts j (by omega)]
  have h1 := spellL_le (ts[j].kind) (ts[j].text)
  have h2 := ht ts[j] (List.getElem_mem _)
  have h3 : (Lx.spell (Lx.tok ts[j])).length ≤ 2 * ts[j].text.length + 6 := h1
  have h4 : (gap (aT ts j).1 (Lx.tok ts[j])).length ≤ 1 := by unfold gap; split <;> simp
  simp only [List.length_append]
  omega
theorem spell_size (x : Lx.PTok) (h : x.text.length ≤ 1000) : (Lx.spell (Lx.tok x)).length ≤ 2006 := by
 have h1 := spellL_le x.kind x.text
 have h3 : (Lx.spell (Lx.tok x)).length ≤ 2 * x.text.length + 6 := h1
 omega
set_option maxRecDepth 100000 in
set_option maxHeartbeats 2000000 in
theorem rwrite_any (ts : List Lx.PTok) (v : Value) (w : World) (hv : TokRow w v ts) (hm : ts.length ≤ 4000) (ht : ∀ t ∈ ts, t.text.length ≤ 1000) :
  Calls Tryz.prog 75 #[v] w fun e w' => e = .returned (.string ⟨(Tr.wtext (ts.map Lx.tok)).toArray⟩) ∧ Fresh w w' := by
 obtain ⟨A, cap, rfl, hc⟩ := hv
 have HC := hid hc
 have HTX := hid ht
 have HALL := hid (aT_all ts)
 clear hc ht
 go_enter Tryz.func75, Tryz.ntmps75
 go_wp2_with fail
 go_loopw [3, 4] (fun s i wr => ∃ j : Nat, s = .string ⟨(aT ts j).2.toArray⟩ ∧ i = .int .i64 j ∧ j ≤ ts.length ∧ Hid (Fresh w wr)) (fun _ i _ => ts.length - (intOf i).toNat)
 case atStart => exact ⟨0, rfl, rfl, Nat.zero_le _, Touch.refl _ _⟩
 case round =>
  obtain ⟨j, rfl, rfl, hj, HF⟩ := hrel
  by_cases c1 : j < ts.length
  ·have d1 : decide ((j : Int) < (ts.length : Int)) = true := by simp only [decide_eq_true_eq]; omega
   have d1n : decide (j < ts.length) = true := by simp only [decide_eq_true_eq]; omega
   have d1' : (j : Int) < (ts.length : Int) := by omega
   obtain ⟨g, o, rfl, hg, m0, m1, m2, m3⟩ := HC.out j c1
   have HST := hid (aT_step ts j c1)
   have hsz := aT_size ts HTX.out j hj
   have htx := HTX.out _ (List.getElem_mem c1)
   have hsp := spell_size ts[j] htx
   have x0 := HF.out.cell m0 (fun h => h)
   have x1 := HF.out.cell m1 (fun h => h)
   have x2 := HF.out.cell m2 (fun h => h)
   have x3 := HF.out.cell m3 (fun h => h)
   have hgr : g < wr.heap.size := block_lt_of_cell x0
   clear m0 m1 m2 m3 hg
   obtain ⟨acc, hacc⟩ : ∃ acc, (aT ts j).2 = acc := ⟨_, rfl⟩
   obtain ⟨P, hP⟩ : ∃ P, (aT ts j).1 = P := ⟨_, rfl⟩
   have HP := hid hP
   rw [hacc] at HST hsz
   rw [hP] at HST
   rw [hacc]
   clear hacc hP
   obtain ⟨x, hx⟩ : ∃ x, ts[j] = x := ⟨_, rfl⟩
   rw [hx] at HST htx hsp x0 x1 x2 x3
   clear hx
   by_cases j0 : j = 0
   ·subst j0
    have HGAP := hid (show gap P (Lx.tok x) = [] by rw [← HP.out]; exact aT_gap0 ts _)
    rw [Nat.zero_mul, Nat.add_zero] at x0 x1 x2 x3
    go_wp2_with fail
    go_quiet (fail)
    have HFX := HF
    have hr2 := fun W : World => run_string_add_lists (P := Tryz.prog) W acc (Lx.spell (Lx.tok x)) (by first | omega | (simp only [List.length_append, List.length_cons, List.length_nil]; omega)) (by omega)
    go_wp2_with fail
    refine (rspell_tok x _ (by omega)).mono ?_
    rintro _ w9 ⟨rfl, hf9⟩
    have HF9 := hid (show Fresh w w9 from HFX.out.trans (by first | exact hf9 | exact Touch.ofN hf9 | exact Touch.pre hf9))
    clear hf9
    go_wp2_with fail
    go_roundw
    case rel => exact ⟨0 + 1, by rw [HST.out]; simp only [HGAP.out]; simp, by go_num, c1, HF9⟩
    case measure => simp [intOf]; omega
   ·obtain ⟨m, rfl⟩ : ∃ m, j = m + 1 := ⟨j - 1, by omega⟩
    have e0 : decide ((0 : Int) < ((m + 1 : Nat) : Int)) = true := by simp only [decide_eq_true_eq]; omega
    have e0n : decide (0 < m + 1) = true := by simp
    have e0' : (0 : Int) < ((m + 1 : Nat) : Int) := by omega
    have e1 : IntKind.i64.wrap (m : Int) = (m : Int) := IntWalk.i64_in _ (by omega)
    have e2 : (m : Int) + 1 - 1 = (m : Int) := by omega
    have e3 : (m : Int) < (ts.length : Int) := by omega
    have e4 : (m : Int) + 1 < (ts.length : Int) := by omega
    have e5 : (0 : Int) < (m : Int) + 1 := by omega
    have e7 : (0 : Int) ≤ (m : Int) + 1 := by omega
    have e8 : ((m : Int) + 1).toNat = m + 1 := by omega
    have e6 : decide ((0 : Int) < (m : Int) + 1) = true := by simp only [decide_eq_true_eq]; omega
    obtain ⟨g', o', hA', hg', n0, n1, n2, n3⟩ := HC.out m (by omega)
    cases hA'
    have HGAP0 := hid (show gap P (Lx.tok x) = if Lx.join (Lx.tok (ts[m]'(by omega))) (Lx.tok x) then [32] else [] by rw [← HP.out]; exact aT_gap ts m (by omega) _)
    have z0 := HF.out.cell n0 (fun h => h)
    have z1 := HF.out.cell n1 (fun h => h)
    have z2 := HF.out.cell n2 (fun h => h)
    have z3 := HF.out.cell n3 (fun h => h)
    clear n0 n1 n2 n3 HC j0 hg'
    obtain ⟨y, hy⟩ : ∃ y, ts[m]'(by omega) = y := ⟨_, rfl⟩
    rw [hy] at HGAP0 z0 z1 z2 z3
    clear hy
    have gx0 := cell_regrown x0
    have gx1 := cell_regrown x1
    have gx2 := cell_regrown x2
    have gx3 := cell_regrown x3
    have gz0 := cell_regrown z0
    have gz1 := cell_regrown z1
    have gz2 := cell_regrown z2
    have gz3 := cell_regrown z3
    have CJ := hid (calmP (P := Tryz.prog) (fun w => rjoins_tok y x w) wr)
    cases hjn : Lx.join (Lx.tok y) (Lx.tok x) with
    | false =>
     rw [hjn] at CJ
     have HGAP := hid (show gap P (Lx.tok x) = [] by rw [HGAP0.out, hjn]; rfl)
     clear HGAP0 hjn
     go_wp2_with fail
     refine wp_region_quiet_below (by kernel_rfl) (by kernel_rfl) ?_
     repeat (quiet_step (with_reducible exact CJ.out _ _))
     refine wpQuiet_nil ?_
     rintro W3 ⟨⟨_, _⟩, hW3⟩
     have hf3 : Fresh wr W3 := by rw [hW3]; exact fresh_of_below (below_regrown _ _ _)
     have HFX := hid (HF.out.trans hf3)
     have u0 := hf3.cell x0 (fun h => h)
     have u1 := hf3.cell x1 (fun h => h)
     have u2 := hf3.cell x2 (fun h => h)
     have u3 := hf3.cell x3 (fun h => h)
     have hgr3 : g < W3.heap.size := block_lt_of_cell u0
     clear hW3 hf3 gx0 gx1 gx2 gx3 gz0 gz1 gz2 gz3 x0 x1 x2 x3 z0 z1 z2 z3
     have hr2 := fun W : World => run_string_add_lists (P := Tryz.prog) W acc (Lx.spell (Lx.tok x)) (by first | omega | (simp only [List.length_append, List.length_cons, List.length_nil]; omega)) (by omega)
     go_wp2_with fail
     refine (rspell_tok x _ (by omega)).mono ?_
     rintro _ w9 ⟨rfl, hf9⟩
     have HF9 := hid (show Fresh w w9 from HFX.out.trans (by first | exact hf9 | exact Touch.ofN hf9 | exact Touch.pre hf9))
     clear hf9
     go_wp2_with fail
     go_roundw
     case rel => exact ⟨m + 1 + 1, by rw [HST.out]; simp only [HGAP.out]; simp, by go_num, c1, HF9⟩
     case measure => simp [intOf]; omega
    | true =>
     rw [hjn] at CJ
     have HGAP := hid (show gap P (Lx.tok x) = [32] by rw [HGAP0.out, hjn]; rfl)
     clear HGAP0 hjn
     go_wp2_with fail
     refine wp_region_quiet_below (by kernel_rfl) (by kernel_rfl) ?_
     repeat (quiet_step (with_reducible exact CJ.out _ _))
     refine wpQuiet_nil ?_
     rintro W3 ⟨⟨_, _⟩, hW3⟩
     have hf3 : Fresh wr W3 := by rw [hW3]; exact fresh_of_below (below_regrown _ _ _)
     have HFX := hid (HF.out.trans hf3)
     have u0 := hf3.cell x0 (fun h => h)
     have u1 := hf3.cell x1 (fun h => h)
     have u2 := hf3.cell x2 (fun h => h)
     have u3 := hf3.cell x3 (fun h => h)
     have hgr3 : g < W3.heap.size := block_lt_of_cell u0
     clear hW3 hf3 gx0 gx1 gx2 gx3 gz0 gz1 gz2 gz3 x0 x1 x2 x3 z0 z1 z2 z3
     have hr1 := fun W : World => run_string_add_lists (P := Tryz.prog) W acc [32] (by omega) (by simp)
     have hr2 := fun W : World => run_string_add_lists (P := Tryz.prog) W (acc ++ [32]) (Lx.spell (Lx.tok x)) (by first | omega | (simp only [List.length_append, List.length_cons, List.length_nil]; omega)) (by omega)
     go_wp2_with fail
     refine (rspell_tok x _ (by omega)).mono ?_
     rintro _ w9 ⟨rfl, hf9⟩
     have HF9 := hid (show Fresh w w9 from HFX.out.trans (by first | exact hf9 | exact Touch.ofN hf9 | exact Touch.pre hf9))
     clear hf9
     go_wp2_with fail
     go_roundw
     case rel => exact ⟨m + 1 + 1, by rw [HST.out]; simp only [HGAP.out]; simp, by go_num, c1, HF9⟩
     case measure => simp [intOf]; omega
  ·have d1 : decide ((j : Int) < (ts.length : Int)) = false := by simp only [decide_eq_false_iff_not]; omega
   have d1n : decide (j < ts.length) = false := by simp only [decide_eq_false_iff_not]; omega
   obtain rfl : j = ts.length := by omega
   go_wp2_with fail
   go_ret
   exact ⟨by rw [HALL.out]; rfl, HF.out⟩
end Go.Proofs.YtdacpbdamliafaaGreat

/- The reference printer's Place. -/
namespace Go.Proofs.YtdacpbdamliafaaGreat
open Go.RowKit
theorem own_pcell {B i : Nat} (W : World) (k f t : Int) (s : ByteArray) (hi : W.heap.size = i) (hB : B ≤ W.heap.size) : (W.alloc (.cells #[.int .i64 k, .string s, .int .i64 f, .int .i64 t] 51)).ownsRow B 51 4 (.slice (some ⟨i, 0, none⟩) 1 1) 1 [.int .i64 k, .string s, .int .i64 f, .int .i64 t] := by
 subst hi
 exact ⟨rfl, .inr ⟨W.heap.size, 1, _, rfl, hB, Blk.new W _ _, Nat.le_refl _, by unfold maxLen; omega, rfl, rfl⟩⟩
theorem pcell_one (k f t : Int) (s : ByteArray) : ∀ u ∈ [Value.int .i64 k, .string s, .int .i64 f, .int .i64 t], u.oneCell' = true := by
 intro u hu
 simp only [List.mem_cons, List.not_mem_nil, or_false] at hu
 rcases hu with rfl | rfl | rfl | rfl <;> rfl
theorem added_cells (P : List Lx.PTok) (T gp : List UInt8) (x : Lx.PTok) (f t : Int) (hg : gap P (Lx.tok x) = gp) (hf : f = ((T ++ gp).length : Int)) (ht : t = ((T ++ gp ++ Lx.spell (Lx.tok x)).length : Int)) :
  P.flatMap ptokCells ++ [Value.int .i64 x.kind, .string ⟨x.text.toArray⟩, .int .i64 f, .int .i64 t] = (added P T (Lx.tok x)).flatMap ptokCells := by
 subst hg hf ht
 simp [added, ptokCells, Lx.tok]
set_option maxRecDepth 100000 in
set_option maxHeartbeats 2000000 in
theorem rplace_any (ts : List Lx.PTok) (v : Value) (w : World) (hv : TokRow w v ts) (hm : ts.length ≤ 4000) (ht : ∀ t ∈ ts, t.text.length ≤ 1000) :
  Calls Tryz.prog 101 #[v] w fun e w' => ∃ v', e = .returned v' ∧ w'.ownsRow w.heap.size 51 4 v' (aT ts ts.length).1.length ((aT ts ts.length).1.flatMap ptokCells) ∧ Fresh w w' := by
 obtain ⟨A, cap, rfl, hc⟩ := hv
 obtain ⟨i0, hi, hz0, hz1, hz2⟩ := info_parts infoRTok
 have HC := hid hc
 have HTX := hid ht
 clear hc ht
 go_enter Tryz.func101, Tryz.ntmps101
 go_wp2_with fail
 go_loopw [3, 4, 5] (fun acc p i wr => ∃ (j : Nat) (A0 : Option Addr) (c0 : Nat), acc = .slice A0 (aT ts j).1.length c0 ∧ p = .int .i64 ((aT ts j).2.length : Nat) ∧ i = .int .i64 j ∧ j ≤ ts.length ∧ Hid (wr.ownsRow w.heap.size 51 4 (.slice A0 (aT ts j).1.length c0) (aT ts j).1.length ((aT ts j).1.flatMap ptokCells)) ∧ Hid (Fresh w wr)) (fun _ _ i _ => ts.length - (intOf i).toNat)
 case atStart => exact ⟨0, none, 0, rfl, rfl, rfl, Nat.zero_le _, World.ownsRow_nil _ _ _ _, Touch.refl _ _⟩
 case round =>
  obtain ⟨j, A0, c0, rfl, rfl, rfl, hj, HO, HF⟩ := hrel
  by_cases c1 : j < ts.length
  ·have d1 : decide ((j : Int) < (ts.length : Int)) = true := by simp only [decide_eq_true_eq]; omega
   have d1n : decide (j < ts.length) = true := by simp only [decide_eq_true_eq]; omega
   have d1' : (j : Int) < (ts.length : Int) := by omega
   obtain ⟨g, o, rfl, hg, m0, m1, m2, m3⟩ := HC.out j c1
   have HST := hid (aT_step ts j c1)
   have hsz := aT_size ts HTX.out j hj
   have hpl : (aT ts j).1.length ≤ 4000 := by rw [aT_len]; omega
   have htx := HTX.out _ (List.getElem_mem c1)
   have hsp := spell_size ts[j] htx
   have x0 := HF.out.cell m0 (fun h => h)
   have x1 := HF.out.cell m1 (fun h => h)
   have x2 := HF.out.cell m2 (fun h => h)
   have x3 := HF.out.cell m3 (fun h => h)
   have hgr : g < wr.heap.size := block_lt_of_cell x0
   have hsw : w.heap.size ≤ wr.heap.size := Touch.size HF.out
   clear m0 m1 m2 m3 hg
   obtain ⟨acc, hacc⟩ : ∃ acc, (aT ts j).2 = acc := ⟨_, rfl⟩
   obtain ⟨P, hP⟩ : ∃ P, (aT ts j).1 = P := ⟨_, rfl⟩
   have HP := hid hP
   rw [hacc] at HST hsz
   rw [hP] at HST HO hpl
   rw [hacc, hP]
   clear hacc hP
   obtain ⟨x, hx⟩ : ∃ x, ts[j] = x := ⟨_, rfl⟩
   rw [hx] at HST htx hsp x0 x1 x2 x3
   clear hx
   by_cases j0 : j = 0
   ·subst j0
    have HGAP := hid (show gap P (Lx.tok x) = [] by rw [← HP.out]; exact aT_gap0 ts _)
    rw [Nat.zero_mul, Nat.add_zero] at x0 x1 x2 x3
    go_wp2_with fail
    go_quiet (fail)
    have HFX := HF
    rename_i nq
    have HFW : Fresh wr (wr.drewN nq) := (Touch.refl _ _).drewN _
    have hsW : wr.heap.size ≤ (wr.drewN nq).heap.size := Touch.size HFW
    have u0 := HFW.cell x0 (fun h => h)
    have u1 := HFW.cell x1 (fun h => h)
    have u2 := HFW.cell x2 (fun h => h)
    have u3 := HFW.cell x3 (fun h => h)
    replace HFX := hid (HF.out.trans HFW)
    clear x0 x1 x2 x3
    generalize wr.drewN nq = W3 at *
    have hgr3 : g < W3.heap.size := block_lt_of_cell u0
    go_wp2_with fail
    refine (show Calls Tryz.prog 27 _ _ (fun e w' => e = .returned (.string ⟨(Lx.spell (Lx.tok x)).toArray⟩) ∧ Fresh _ w') from rspell_tok ⟨x.kind, x.text, acc.length, x.to_⟩ _ (by show x.text.length ≤ _; omega)).mono ?_
    rintro _ w9 ⟨rfl, hf9⟩
    have hb9 := hf9.blk (Blk.new _ _ _) (fun h => h)
    obtain ⟨b0, b1, b2, b3, b4, b5, b6, b7, hb8⟩ := Blk.four hb9
    have HO9 := hid (ownsRow_touch (ownsRow_touch HO.out (show Fresh wr W3 from HFW) (fun _ _ h => h)) (Touch.pre hf9) (fun _ _ h => h))
    have HF9 := hid (HFX.out.trans (Touch.pre hf9))
    have hsw9 : w.heap.size ≤ w9.heap.size := Touch.size HF9.out
    have HOs := hid (ownsRow_touch HO9.out (Touch.setCell (S := (· = W3.heap.size)) (Touch.refl _ w9) (p := ⟨W3.heap.size, 3, none⟩) (.inl rfl) (.int .i64 ((acc.length : Int) + ((Lx.spell (Lx.tok x)).length : Int)))) (fun k hk hs => by have h1 := (HO.out.lt k hk).2; have h2 := Touch.size (show Fresh wr W3 from HFW); have h3 : k = W3.heap.size := hs; omega))
    have HFs := hid (show Fresh w (w9.setCell ⟨W3.heap.size, 3, none⟩ (.int .i64 ((acc.length : Int) + ((Lx.spell (Lx.tok x)).length : Int)))) from HF9.out.setCell (.inr (show w.heap.size ≤ W3.heap.size from by have := Touch.size (show Fresh wr W3 from HFW); omega)) _)
    clear hf9 hb9
    go_wp2_with (at_builtin; go_loud (refine wpList_append_src _ rfl (.tmp 42) (.tmp 44) 47 rfl w.heap.size 51 i0 _ 4 40 Tryz.underlying47 hi hz0 hz1 hz2 rfl (by decide) (.slice A0 P.length c0) P.length (P.flatMap ptokCells) (by simp [Act.eval]) (World.ownsRow.alloc HOs.out _) (.slice (some ⟨w9.heap.size, 0, none⟩) 1 1) 1 [.int .i64 x.kind, .string ⟨x.text.toArray⟩, .int .i64 (acc.length : Int), .int .i64 ((acc.length : Int) + ((Lx.spell (Lx.tok x)).length : Int))] (by simp [Act.eval]) (Src.of_own (own_pcell (B := w.heap.size) (i := w9.heap.size) _ _ _ _ _ (by simp [World.setCell]) (by simp [World.setCell]; omega))) (pcell_one _ _ _ _) (by unfold maxLen; omega) (by omega) (by simp [World.setCell]; omega) ?_; intro v10 w10 ho hgr10 _; refine Stay.mk ?_))
    have HF10 := hid (show Fresh w w10 from grown_fresh hgr10 (World.ownsRow.alloc HOs.out _) (HFs.out.alloc _))
    have e10 := added_cells P acc [] x (acc.length : Int) ((acc.length : Int) + ((Lx.spell (Lx.tok x)).length : Int)) HGAP.out (by simp <;> omega) (by simp <;> omega)
    rw [e10] at ho
    have hO9 : w10.ownsRow w.heap.size 51 4 v10 (aT ts (0 + 1)).1.length ((aT ts (0 + 1)).1.flatMap ptokCells) := by rw [HST.out]; simpa [added] using ho
    obtain ⟨A9, c9, rfl⟩ := own_slice hO9
    have HO10 := hid hO9
    clear hO9 ho hgr10 e10
    refine Stay.go ?_
    go_wp2_with fail
    go_roundw
    case rel => exact ⟨0 + 1, A9, c9, rfl, by rw [HST.out]; simp only [HGAP.out]; simp <;> go_num, by go_num, c1, HO10, HF10⟩
    case measure => simp [intOf]; omega
   ·obtain ⟨m, rfl⟩ : ∃ m, j = m + 1 := ⟨j - 1, by omega⟩
    have e0 : decide ((0 : Int) < ((m + 1 : Nat) : Int)) = true := by simp only [decide_eq_true_eq]; omega
    have e0n : decide (0 < m + 1) = true := by simp
    have e0' : (0 : Int) < ((m + 1 : Nat) : Int) := by omega
    have e1 : IntKind.i64.wrap (m : Int) = (m : Int) := IntWalk.i64_in _ (by omega)
    have e2 : (m : Int) + 1 - 1 = (m : Int) := by omega
    have e3 : (m : Int) < (ts.length : Int) := by omega
    have e4 : (m : Int) + 1 < (ts.length : Int) := by omega
    have e5 : (0 : Int) < (m : Int) + 1 := by omega
    have e7 : (0 : Int) ≤ (m : Int) + 1 := by omega
    have e8 : ((m : Int) + 1).toNat = m + 1 := by omega
    have e6 : decide ((0 : Int) < (m : Int) + 1) = true := by simp only [decide_eq_true_eq]; omega
    obtain ⟨g', o', hA', hg', n0, n1, n2, n3⟩ := HC.out m (by omega)
    cases hA'
    have HGAP0 := hid (show gap P (Lx.tok x) = if Lx.join (Lx.tok (ts[m]'(by omega))) (Lx.tok x) then [32] else [] by rw [← HP.out]; exact aT_gap ts m (by omega) _)
    have z0 := HF.out.cell n0 (fun h => h)
    have z1 := HF.out.cell n1 (fun h => h)
    have z2 := HF.out.cell n2 (fun h => h)
    have z3 := HF.out.cell n3 (fun h => h)
    clear n0 n1 n2 n3 HC j0 hg'
    obtain ⟨y, hy⟩ : ∃ y, ts[m]'(by omega) = y := ⟨_, rfl⟩
    rw [hy] at HGAP0 z0 z1 z2 z3
    clear hy
    have gx0 := cell_regrown x0
    have gx1 := cell_regrown x1
    have gx2 := cell_regrown x2
    have gx3 := cell_regrown x3
    have gz0 := cell_regrown z0
    have gz1 := cell_regrown z1
    have gz2 := cell_regrown z2
    have gz3 := cell_regrown z3
    have CJ := hid (calmP (P := Tryz.prog) (fun w => rjoins_tok y x w) wr)
    cases hjn : Lx.join (Lx.tok y) (Lx.tok x) with
    | false =>
     rw [hjn] at CJ
     have HGAP := hid (show gap P (Lx.tok x) = [] by rw [HGAP0.out, hjn]; rfl)
     clear HGAP0 hjn
     go_wp2_with fail
     refine wp_region_quiet_below (by kernel_rfl) (by kernel_rfl) ?_
     repeat (quiet_step (with_reducible exact CJ.out _ _))
     refine wpQuiet_nil ?_
     rintro W3 ⟨⟨_, _⟩, hW3⟩
     have hf3 : Fresh wr W3 := by rw [hW3]; exact fresh_of_below (below_regrown _ _ _)
     have HFX := hid (HF.out.trans hf3)
     have HFW := hf3
     have u0 := hf3.cell x0 (fun h => h)
     have u1 := hf3.cell x1 (fun h => h)
     have u2 := hf3.cell x2 (fun h => h)
     have u3 := hf3.cell x3 (fun h => h)
     have hgr3 : g < W3.heap.size := block_lt_of_cell u0
     clear hW3 hf3 gx0 gx1 gx2 gx3 gz0 gz1 gz2 gz3 x0 x1 x2 x3 z0 z1 z2 z3
     go_wp2_with fail
     refine (show Calls Tryz.prog 27 _ _ (fun e w' => e = .returned (.string ⟨(Lx.spell (Lx.tok x)).toArray⟩) ∧ Fresh _ w') from rspell_tok ⟨x.kind, x.text, acc.length, x.to_⟩ _ (by show x.text.length ≤ _; omega)).mono ?_
     rintro _ w9 ⟨rfl, hf9⟩
     have hb9 := hf9.blk (Blk.new _ _ _) (fun h => h)
     obtain ⟨b0, b1, b2, b3, b4, b5, b6, b7, hb8⟩ := Blk.four hb9
     have HO9 := hid (ownsRow_touch (ownsRow_touch HO.out (show Fresh wr W3 from HFW) (fun _ _ h => h)) (Touch.pre hf9) (fun _ _ h => h))
     have HF9 := hid (HFX.out.trans (Touch.pre hf9))
     have hsw9 : w.heap.size ≤ w9.heap.size := Touch.size HF9.out
     have HOs := hid (ownsRow_touch HO9.out (Touch.setCell (S := (· = W3.heap.size)) (Touch.refl _ w9) (p := ⟨W3.heap.size, 3, none⟩) (.inl rfl) (.int .i64 ((acc.length : Int) + ((Lx.spell (Lx.tok x)).length : Int)))) (fun k hk hs => by have h1 := (HO.out.lt k hk).2; have h2 := Touch.size (show Fresh wr W3 from HFW); have h3 : k = W3.heap.size := hs; omega))
     have HFs := hid (show Fresh w (w9.setCell ⟨W3.heap.size, 3, none⟩ (.int .i64 ((acc.length : Int) + ((Lx.spell (Lx.tok x)).length : Int)))) from HF9.out.setCell (.inr (show w.heap.size ≤ W3.heap.size from by have := Touch.size (show Fresh wr W3 from HFW); omega)) _)
     clear hf9 hb9
     go_wp2_with (at_builtin; go_loud (refine wpList_append_src _ rfl (.tmp 42) (.tmp 44) 47 rfl w.heap.size 51 i0 _ 4 40 Tryz.underlying47 hi hz0 hz1 hz2 rfl (by decide) (.slice A0 P.length c0) P.length (P.flatMap ptokCells) (by simp [Act.eval]) (World.ownsRow.alloc HOs.out _) (.slice (some ⟨w9.heap.size, 0, none⟩) 1 1) 1 [.int .i64 x.kind, .string ⟨x.text.toArray⟩, .int .i64 (acc.length : Int), .int .i64 ((acc.length : Int) + ((Lx.spell (Lx.tok x)).length : Int))] (by simp [Act.eval]) (Src.of_own (own_pcell (B := w.heap.size) (i := w9.heap.size) _ _ _ _ _ (by simp [World.setCell]) (by simp [World.setCell]; omega))) (pcell_one _ _ _ _) (by unfold maxLen; omega) (by omega) (by simp [World.setCell]; omega) ?_; intro v10 w10 ho hgr10 _; refine Stay.mk ?_))
     have HF10 := hid (show Fresh w w10 from grown_fresh hgr10 (World.ownsRow.alloc HOs.out _) (HFs.out.alloc _))
     have e10 := added_cells P acc [] x (acc.length : Int) ((acc.length : Int) + ((Lx.spell (Lx.tok x)).length : Int)) HGAP.out (by simp <;> omega) (by simp <;> omega)
     rw [e10] at ho
     have hO9 : w10.ownsRow w.heap.size 51 4 v10 (aT ts (m + 1 + 1)).1.length ((aT ts (m + 1 + 1)).1.flatMap ptokCells) := by rw [HST.out]; simpa [added] using ho
     obtain ⟨A9, c9, rfl⟩ := own_slice hO9
     have HO10 := hid hO9
     clear hO9 ho hgr10 e10
     refine Stay.go ?_
     go_wp2_with fail
     go_roundw
     case rel => exact ⟨m + 1 + 1, A9, c9, rfl, by rw [HST.out]; simp only [HGAP.out]; simp <;> go_num, by go_num, c1, HO10, HF10⟩
     case measure => simp [intOf]; omega
    | true =>
     rw [hjn] at CJ
     have HGAP := hid (show gap P (Lx.tok x) = [32] by rw [HGAP0.out, hjn]; rfl)
     clear HGAP0 hjn
     go_wp2_with fail
     refine wp_region_quiet_below (by kernel_rfl) (by kernel_rfl) ?_
     repeat (quiet_step (with_reducible exact CJ.out _ _))
     refine wpQuiet_nil ?_
     rintro W3 ⟨⟨_, _⟩, hW3⟩
     have hf3 : Fresh wr W3 := by rw [hW3]; exact fresh_of_below (below_regrown _ _ _)
     have HFX := hid (HF.out.trans hf3)
     have HFW := hf3
     have u0 := hf3.cell x0 (fun h => h)
     have u1 := hf3.cell x1 (fun h => h)
     have u2 := hf3.cell x2 (fun h => h)
     have u3 := hf3.cell x3 (fun h => h)
     have hgr3 : g < W3.heap.size := block_lt_of_cell u0
     clear hW3 hf3 gx0 gx1 gx2 gx3 gz0 gz1 gz2 gz3 x0 x1 x2 x3 z0 z1 z2 z3
     go_wp2_with fail
     refine (show Calls Tryz.prog 27 _ _ (fun e w' => e = .returned (.string ⟨(Lx.spell (Lx.tok x)).toArray⟩) ∧ Fresh _ w') from rspell_tok ⟨x.kind, x.text, acc.length + 1, x.to_⟩ _ (by show x.text.length ≤ _; omega)).mono ?_
     rintro _ w9 ⟨rfl, hf9⟩
     have hb9 := hf9.blk (Blk.new _ _ _) (fun h => h)
     obtain ⟨b0, b1, b2, b3, b4, b5, b6, b7, hb8⟩ := Blk.four hb9
     have HO9 := hid (ownsRow_touch (ownsRow_touch HO.out (show Fresh wr W3 from HFW) (fun _ _ h => h)) (Touch.pre hf9) (fun _ _ h => h))
     have HF9 := hid (HFX.out.trans (Touch.pre hf9))
     have hsw9 : w.heap.size ≤ w9.heap.size := Touch.size HF9.out
     have HOs := hid (ownsRow_touch HO9.out (Touch.setCell (S := (· = W3.heap.size)) (Touch.refl _ w9) (p := ⟨W3.heap.size, 3, none⟩) (.inl rfl) (.int .i64 (((acc.length : Int) + 1) + ((Lx.spell (Lx.tok x)).length : Int)))) (fun k hk hs => by have h1 := (HO.out.lt k hk).2; have h2 := Touch.size (show Fresh wr W3 from HFW); have h3 : k = W3.heap.size := hs; omega))
     have HFs := hid (show Fresh w (w9.setCell ⟨W3.heap.size, 3, none⟩ (.int .i64 (((acc.length : Int) + 1) + ((Lx.spell (Lx.tok x)).length : Int)))) from HF9.out.setCell (.inr (show w.heap.size ≤ W3.heap.size from by have := Touch.size (show Fresh wr W3 from HFW); omega)) _)
     clear hf9 hb9
     go_wp2_with (at_builtin; go_loud (refine wpList_append_src _ rfl (.tmp 42) (.tmp 44) 47 rfl w.heap.size 51 i0 _ 4 40 Tryz.underlying47 hi hz0 hz1 hz2 rfl (by decide) (.slice A0 P.length c0) P.length (P.flatMap ptokCells) (by simp [Act.eval]) (World.ownsRow.alloc HOs.out _) (.slice (some ⟨w9.heap.size, 0, none⟩) 1 1) 1 [.int .i64 x.kind, .string ⟨x.text.toArray⟩, .int .i64 ((acc.length : Int) + 1), .int .i64 (((acc.length : Int) + 1) + ((Lx.spell (Lx.tok x)).length : Int))] (by simp [Act.eval]) (Src.of_own (own_pcell (B := w.heap.size) (i := w9.heap.size) _ _ _ _ _ (by simp [World.setCell]) (by simp [World.setCell]; omega))) (pcell_one _ _ _ _) (by unfold maxLen; omega) (by omega) (by simp [World.setCell]; omega) ?_; intro v10 w10 ho hgr10 _; refine Stay.mk ?_))
     have HF10 := hid (show Fresh w w10 from grown_fresh hgr10 (World.ownsRow.alloc HOs.out _) (HFs.out.alloc _))
     have e10 := added_cells P acc [32] x ((acc.length : Int) + 1) (((acc.length : Int) + 1) + ((Lx.spell (Lx.tok x)).length : Int)) HGAP.out (by simp <;> omega) (by simp <;> omega)
     rw [e10] at ho
     have hO9 : w10.ownsRow w.heap.size 51 4 v10 (aT ts (m + 1 + 1)).1.length ((aT ts (m + 1 + 1)).1.flatMap ptokCells) := by rw [HST.out]; simpa [added] using ho
     obtain ⟨A9, c9, rfl⟩ := own_slice hO9
     have HO10 := hid hO9
     clear hO9 ho hgr10 e10
     refine Stay.go ?_
     go_wp2_with fail
     go_roundw
     case rel => exact ⟨m + 1 + 1, A9, c9, rfl, by rw [HST.out]; simp only [HGAP.out]; simp <;> go_num, by go_num, c1, HO10, HF10⟩
     case measure => simp [intOf]; omega
  ·have d1 : decide ((j : Int) < (ts.length : Int)) = false := by simp only [decide_eq_false_iff_not]; omega
   have d1n : decide (j < ts.length) = false := by simp only [decide_eq_false_iff_not]; omega
   obtain rfl : j = ts.length := by omega
   go_wp2_with fail
   go_ret
   exact ⟨_, rfl, HO.out, HF.out⟩
end Go.Proofs.YtdacpbdamliafaaGreat

/- The walks of the reference's predicates on bytes and texts. -/
namespace Go.Proofs.YtdacpbdamliafaaGreat
open Go.RowKit
theorem letter_ge_256 : ∀ n : Fin 256, Tr.letter (UInt8.ofNat n.1) = ((decide ((97 : Int) ≤ (n.1 : Int)) && decide ((n.1 : Int) ≤ (122 : Int))) || (decide ((65 : Int) ≤ (n.1 : Int)) && decide ((n.1 : Int) ≤ (90 : Int)))) := by decide +kernel
theorem letter_ge (b : UInt8) : Tr.letter b = ((decide ((97 : Int) ≤ (b.toNat : Int)) && decide ((b.toNat : Int) ≤ (122 : Int))) || (decide ((65 : Int) ≤ (b.toNat : Int)) && decide ((b.toNat : Int) ≤ (90 : Int)))) := by
 have := letter_ge_256 ⟨b.toNat, b.toNat_lt⟩
 simpa using this
theorem digit_ge_256 : ∀ n : Fin 256, Tr.digit (UInt8.ofNat n.1) = (decide ((48 : Int) ≤ (n.1 : Int)) && decide ((n.1 : Int) ≤ (57 : Int))) := by decide +kernel
theorem digit_ge (b : UInt8) : Tr.digit b = (decide ((48 : Int) ≤ (b.toNat : Int)) && decide ((b.toNat : Int) ≤ (57 : Int))) := by
 have := digit_ge_256 ⟨b.toNat, b.toNat_lt⟩
 simpa using this
theorem letter_byte (b : UInt8) (w : World) :
  Calls Tryz.prog 59 #[.int .u8 (b.toNat : Int)] w fun e w' => e = .returned (.bool (Tr.letter b)) ∧ w' = w := by
 go_enter Tryz.func59, Tryz.ntmps59
 cases h1 : decide ((97 : Int) ≤ (b.toNat : Int)) with
 | false =>
  have h1n : decide (97 ≤ b.toNat) = false := by have hx := h1; simp only [decide_eq_false_iff_not] at hx ⊢; omega
  cases h2 : decide ((65 : Int) ≤ (b.toNat : Int)) with
  | false =>
   have h2n : decide (65 ≤ b.toNat) = false := by have hx := h2; simp only [decide_eq_false_iff_not] at hx ⊢; omega
   go_wp2_with fail
   go_ret
   exact ⟨ret_bool' _ _ (by rw [letter_ge]; simp only [*] <;> rfl), rfl⟩
  | true =>
   have h2n : decide (65 ≤ b.toNat) = true := by have hx := h2; simp only [decide_eq_true_eq] at hx ⊢; omega
   cases h3 : decide ((b.toNat : Int) ≤ (90 : Int)) with
   | false =>
    go_wp2_with fail
    go_ret
    exact ⟨ret_bool' _ _ (by rw [letter_ge]; simp only [*] <;> rfl), rfl⟩
   | true =>
    go_wp2_with fail
    go_ret
    exact ⟨ret_bool' _ _ (by rw [letter_ge]; simp only [*] <;> rfl), rfl⟩
 | true =>
  have h1n : decide (97 ≤ b.toNat) = true := by have hx := h1; simp only [decide_eq_true_eq] at hx ⊢; omega
  cases h4 : decide ((b.toNat : Int) ≤ (122 : Int)) with
  | false =>
   cases h5 : decide ((65 : Int) ≤ (b.toNat : Int)) with
   | false =>
    have h5n : decide (65 ≤ b.toNat) = false := by have hx := h5; simp only [decide_eq_false_iff_not] at hx ⊢; omega
    go_wp2_with fail
    go_ret
    exact ⟨ret_bool' _ _ (by rw [letter_ge]; simp only [*] <;> rfl), rfl⟩
   | true =>
    have h5n : decide (65 ≤ b.toNat) = true := by have hx := h5; simp only [decide_eq_true_eq] at hx ⊢; omega
    cases h6 : decide ((b.toNat : Int) ≤ (90 : Int)) with
    | false =>
     go_wp2_with fail
     go_ret
     exact ⟨ret_bool' _ _ (by rw [letter_ge]; simp only [*] <;> rfl), rfl⟩
    | true =>
     go_wp2_with fail
     go_ret
     exact ⟨ret_bool' _ _ (by rw [letter_ge]; simp only [*] <;> rfl), rfl⟩
  | true =>
   go_wp2_with fail
   go_ret
   exact ⟨ret_bool' _ _ (by rw [letter_ge]; simp only [*] <;> rfl), rfl⟩
theorem digit_byte (b : UInt8) (w : World) :
  Calls Tryz.prog 86 #[.int .u8 (b.toNat : Int)] w fun e w' => e = .returned (.bool (Tr.digit b)) ∧ w' = w := by
 go_enter Tryz.func86, Tryz.ntmps86
 cases h7 : decide ((48 : Int) ≤ (b.toNat : Int)) with
 | false =>
  have h7n : decide (48 ≤ b.toNat) = false := by have hx := h7; simp only [decide_eq_false_iff_not] at hx ⊢; omega
  go_wp2_with fail
  go_ret
  exact ⟨ret_bool' _ _ (by rw [digit_ge]; simp only [*] <;> rfl), rfl⟩
 | true =>
  have h7n : decide (48 ≤ b.toNat) = true := by have hx := h7; simp only [decide_eq_true_eq] at hx ⊢; omega
  cases h8 : decide ((b.toNat : Int) ≤ (57 : Int)) with
  | false =>
   go_wp2_with fail
   go_ret
   exact ⟨ret_bool' _ _ (by rw [digit_ge]; simp only [*] <;> rfl), rfl⟩
  | true =>
   go_wp2_with fail
   go_ret
   exact ⟨ret_bool' _ _ (by rw [digit_ge]; simp only [*] <;> rfl), rfl⟩
set_option maxHeartbeats 400000 in
theorem printable_any (s : ByteArray) (w : World) (hm : s.size ≤ 9223372036854775807) :
  Calls Tryz.prog 164 #[.string s] w fun e w' => e = .returned (.bool (s.data.toList.all plainB)) ∧ w' = w := by
 go_enter Tryz.func164, Tryz.ntmps164
 go_wp2_with fail
 go_loopw [3] (fun i wr => ∃ j : Nat, i = .int .i64 j ∧ j ≤ s.size ∧ Hid ((s.data.toList.take j).all plainB = true) ∧ wr = w) (fun i _ => s.size - (intOf i).toNat)
 case atStart => exact ⟨0, rfl, Nat.zero_le _, by simp [Hid], rfl⟩
 case round =>
  obtain ⟨j, rfl, hj, HA, rfl⟩ := hrel
  by_cases c1 : j < s.size
  ·have d1 : decide ((j : Int) < (s.size : Int)) = true := by simp; omega
   have d1' : (j : Int) < (s.size : Int) := by omega
   obtain ⟨b, hb⟩ : ∃ b, s[j]'c1 = b := ⟨_, rfl⟩
   have hst := all_snoc' s.data.toList j (by simpa using c1) plainB
   have hno := all_no s.data.toList j (by simpa using c1) plainB
   have hbl : s.data.toList[j]'(by simpa using c1) = b := hb
   rw [hbl] at hst hno
   have HS := hid hst
   have HN := hid hno
   clear hst hno hbl
   cases h9 : decide ((b.toNat : Int) < (32 : Int)) with
   | false =>
    cases h10 : decide ((126 : Int) < (b.toNat : Int)) with
    | false =>
     have h10n : decide (126 < b.toNat) = false := by have hx := h10; simp only [decide_eq_false_iff_not] at hx ⊢; omega
     go_wp2_with fail
     go_roundw
     case rel => exact ⟨j + 1, by go_num, c1, by unfold Hid; rw [HS.out, HA.out]; rw [plain_or]; simp_all, trivial⟩
     case measure => simp [intOf]; omega
    | true =>
     have h10n : decide (126 < b.toNat) = true := by have hx := h10; simp only [decide_eq_true_eq] at hx ⊢; omega
     go_wp2_with fail
     go_ret
     exact ⟨by rw [HN.out (by rw [plain_or]; simp_all)]; rfl, rfl⟩
   | true =>
    go_wp2_with fail
    go_ret
    exact ⟨by rw [HN.out (by rw [plain_or]; simp_all)]; rfl, rfl⟩
  ·have d1 : decide ((j : Int) < (s.size : Int)) = false := by simp; omega
   go_wp2_with fail
   go_ret
   exact ⟨by rw [all_end s plainB j hj c1 HA.out]; rfl, rfl⟩
def notB (c b : UInt8) : Bool := !(b == c)
theorem notB_int (c b : UInt8) : notB c b = !((b.toNat : Int) == (c.toNat : Int)) := by
 unfold notB
 congr 1
 rw [Bool.eq_iff_iff, beq_iff_eq, beq_iff_eq]
 constructor
 ·rintro rfl; rfl
 ·intro h; exact UInt8.toNat_inj.1 (by omega)
theorem has_not (l : List UInt8) (c : UInt8) : l.contains c = !(l.all (notB c)) := by
 induction l with
 | nil => rfl
 | cons b l ih =>
  rw [List.contains_cons, List.all_cons, ih]
  unfold notB
  rw [show (c == b) = (b == c) from by rw [Bool.eq_iff_iff, beq_iff_eq, beq_iff_eq]; exact eq_comm]
  cases b == c <;> simp
set_option maxHeartbeats 400000 in
theorem has_any (s : ByteArray) (c : UInt8) (w : World) (hm : s.size ≤ 9223372036854775807) :
  Calls Tryz.prog 122 #[.string s, .int .u8 (c.toNat : Int)] w fun e w' => e = .returned (.bool (s.data.toList.contains c)) ∧ w' = w := by
 rw [has_not]
 go_enter Tryz.func122, Tryz.ntmps122
 go_wp2_with fail
 go_loopw [5] (fun i wr => ∃ j : Nat, i = .int .i64 j ∧ j ≤ s.size ∧ Hid ((s.data.toList.take j).all (notB c) = true) ∧ wr = w) (fun i _ => s.size - (intOf i).toNat)
 case atStart => exact ⟨0, rfl, Nat.zero_le _, by simp [Hid], rfl⟩
 case round =>
  obtain ⟨j, rfl, hj, HA, rfl⟩ := hrel
  by_cases c1 : j < s.size
  ·have d1 : decide ((j : Int) < (s.size : Int)) = true := by simp; omega
   have d1' : (j : Int) < (s.size : Int) := by omega
   obtain ⟨b, hb⟩ : ∃ b, s[j]'c1 = b := ⟨_, rfl⟩
   have hst := all_snoc' s.data.toList j (by simpa using c1) (notB c)
   have hno := all_no s.data.toList j (by simpa using c1) (notB c)
   have hbl : s.data.toList[j]'(by simpa using c1) = b := hb
   rw [hbl] at hst hno
   have HS := hid hst
   have HN := hid hno
   clear hst hno hbl
   cases h11 : ((b.toNat : Int) == (c.toNat : Int)) with
   | false =>
    have h11m : ((b.toNat : Int) != (c.toNat : Int)) = true := by rw [bne, h11]; rfl
    go_wp2_with fail
    go_roundw
    case rel => exact ⟨j + 1, by go_num, c1, by unfold Hid; rw [HS.out, HA.out]; rw [notB_int]; simp only [*] <;> rfl, trivial⟩
    case measure => simp [intOf]; omega
   | true =>
    have h11m : ((b.toNat : Int) != (c.toNat : Int)) = false := by rw [bne, h11]; rfl
    go_wp2_with fail
    go_ret
    exact ⟨by rw [HN.out (by rw [notB_int]; simp only [*] <;> rfl)]; rfl, rfl⟩
  ·have d1 : decide ((j : Int) < (s.size : Int)) = false := by simp; omega
   go_wp2_with fail
   go_ret
   exact ⟨by rw [all_end s (notB c) j hj c1 HA.out]; rfl, rfl⟩
end Go.Proofs.YtdacpbdamliafaaGreat

/- The walks of the reference's predicates on texts and lists. -/
namespace Go.Proofs.YtdacpbdamliafaaGreat
open Go.RowKit
theorem character_byte (b : UInt8) (w : World) :
  Calls Tryz.prog 92 #[.int .u8 (b.toNat : Int)] w fun e w' => e = .returned (.bool (Tr.character b)) ∧ w' = w := by
 go_enter Tryz.func92, Tryz.ntmps92
 go_wp2_with fail
 refine Calls.mono (letter_byte b _) ?_
 rintro _ w1q ⟨rfl, hqw1⟩
 replace hqw1 := hqw1.symm
 subst hqw1
 cases h1 : (Tr.letter b) with
 | false =>
  go_wp2_with fail
  refine Calls.mono (has_any ⟨(Tr.signs).toArray⟩ b _ (by decide)) ?_
  rintro _ w2q ⟨rfl, hqw2⟩
  replace hqw2 := hqw2.symm
  subst hqw2
  cases h2 : (Tr.signs.contains b) with
  | false =>
   go_wp2_with fail
   go_ret
   exact ⟨ret_bool' _ _ (by unfold Tr.character; simp only [*] <;> rfl), rfl⟩
  | true =>
   go_wp2_with fail
   go_ret
   exact ⟨ret_bool' _ _ (by unfold Tr.character; simp only [*] <;> rfl), rfl⟩
 | true =>
  go_wp2_with fail
  go_ret
  exact ⟨ret_bool' _ _ (by unfold Tr.character; simp only [*] <;> rfl), rfl⟩
def strRow (l : List Tr.Bytes) : Array Value := (l.map fun s => Value.string ⟨s.toArray⟩).toArray
theorem strRow_get {l : List Tr.Bytes} {W : World} {g : Nat} (h : Blk W g 9 (strRow l)) (i : Nat) (hi : i < l.length) : W.cell? ⟨g, i, none⟩ = some (.string ⟨l[i].toArray⟩) := by
 rw [h.cell]
 simp [strRow, hi]
theorem keywords_any (w : World) : Calls Tryz.prog 186 #[] w fun e w' => e = .returned (.slice (some ⟨w.heap.size, 0, none⟩) 4 4) ∧ Fresh w w' ∧ Blk w' w.heap.size 9 (strRow Tr.keywords) := by
 go_enter Tryz.func186, Tryz.ntmps186
 go_wp2_with fail
 go_ret
 exact ⟨rfl, (Touch.refl _ _).alloc _, Blk.new _ _ _⟩
theorem accents_any (w : World) : Calls Tryz.prog 166 #[] w fun e w' => e = .returned (.slice (some ⟨w.heap.size, 0, none⟩) 6 6) ∧ Fresh w w' ∧ Blk w' w.heap.size 9 (strRow Tr.accents) := by
 go_enter Tryz.func166, Tryz.ntmps166
 go_wp2_with fail
 go_ret
 exact ⟨rfl, (Touch.refl _ _).alloc _, Blk.new _ _ _⟩
theorem contains_snoc (l : List Tr.Bytes) (x : Tr.Bytes) (j : Nat) (h : j < l.length) : (l.take (j + 1)).contains x = ((l.take j).contains x || (l[j] == x)) := by
 rw [List.take_succ_eq_append_getElem h]
 rw [Bool.eq_iff_iff]
 simp only [List.contains_iff_mem, List.mem_append, List.mem_singleton, Bool.or_eq_true, beq_iff_eq]
 rw [eq_comm (a := x)]
theorem contains_in (l : List Tr.Bytes) (x : Tr.Bytes) (j : Nat) (h : j < l.length) (e : (l[j] == x) = true) : l.contains x = true := by
 rw [List.contains_iff_mem]
 rw [beq_iff_eq] at e
 exact e ▸ List.getElem_mem h
set_option maxHeartbeats 1000000 in
theorem in_any (l : List Tr.Bytes) (s : ByteArray) (g : Nat) (w : World) (h : Blk w g 9 (strRow l)) (hl : l.length ≤ 1000) :
  Calls Tryz.prog 165 #[.slice (some ⟨g, 0, none⟩) l.length l.length, .string s] w fun e w' => e = .returned (.bool (l.contains s.data.toList)) ∧ w' = w := by
 have HG := hid h
 have hg := h.lt
 clear h
 go_enter Tryz.func165, Tryz.ntmps165
 go_wp2_with fail
 go_loopw [5] (fun i wr => ∃ j : Nat, i = .int .i64 j ∧ j ≤ l.length ∧ Hid ((l.take j).contains s.data.toList = false) ∧ wr = w) (fun i _ => l.length - (intOf i).toNat)
 case atStart => exact ⟨0, rfl, Nat.zero_le _, by simp [Hid], rfl⟩
 case round =>
  obtain ⟨j, rfl, hj, HA, rfl⟩ := hrel
  by_cases c1 : j < l.length
  ·have d1 : decide ((j : Int) < (l.length : Int)) = true := by simp only [decide_eq_true_eq]; omega
   have d1n : decide (j < l.length) = true := by simp only [decide_eq_true_eq]; omega
   have d1' : (j : Int) < (l.length : Int) := by omega
   have q := strRow_get HG.out j c1
   have HS := hid (contains_snoc l s.data.toList j c1)
   have HN := hid (contains_in l s.data.toList j c1)
   generalize l[j] = x at *
   cases h1 : (x == s.data.toList) with
   | false =>
    have h1s : ((⟨x.toArray⟩ : ByteArray) == s) = false := by rw [str_eq']; exact h1
    have h1t : ((⟨x.toArray⟩ : ByteArray) != s) = true := by rw [bne, h1s]; rfl
    have h1v : (x == ByteArray.toList s) = false := by simp only [ByteArray.toList_eq]; exact h1
    go_wp2_with fail
    go_roundw
    case rel => exact ⟨j + 1, by go_num, c1, by unfold Hid; rw [HS.out, HA.out]; simp_all, trivial⟩
    case measure => simp [intOf]; omega
   | true =>
    have h1s : ((⟨x.toArray⟩ : ByteArray) == s) = true := by rw [str_eq']; exact h1
    have h1t : ((⟨x.toArray⟩ : ByteArray) != s) = false := by rw [bne, h1s]; rfl
    have h1v : (x == ByteArray.toList s) = true := by simp only [ByteArray.toList_eq]; exact h1
    go_wp2_with fail
    go_ret
    exact ⟨by rw [HN.out (by assumption)]; rfl, rfl⟩
  ·have d1 : decide ((j : Int) < (l.length : Int)) = false := by simp only [decide_eq_false_iff_not]; omega
   have d1n : decide (j < l.length) = false := by simp only [decide_eq_false_iff_not]; omega
   obtain rfl : j = l.length := by omega
   go_wp2_with fail
   go_ret
   exact ⟨by have := HA.out; rw [List.take_length] at this; rw [this]; rfl, rfl⟩
theorem symbol_len (s : Tr.Bytes) (h : s.length ≠ 1) : Tr.symbol s = (s.all Tr.letter && decide (2 ≤ s.length) && decide (s.length ≤ 16) && !Tr.keywords.contains s && !Tr.accents.contains s) := by
 unfold Tr.symbol
 match s, h with
 | [], _ => rfl
 | [c], h => exact absurd rfl h
 | a :: b :: l, _ => rfl
set_option maxHeartbeats 1000000 in
theorem rSymbol_any (s : ByteArray) (w : World) (hm : s.size ≤ 9223372036854775807) :
  Calls Tryz.prog 162 #[.string s] w fun e w' => e = .returned (.bool (Tr.symbol s.data.toList)) ∧ Fresh w w' := by
 by_cases h1 : s.size = 1
 ·obtain ⟨b, rfl⟩ := str_one s h1
  clear h1
  go_enter Tryz.func162, Tryz.ntmps162
  go_wp2_with fail
  refine Calls.mono (character_byte b _) ?_
  rintro _ _ ⟨rfl, rfl⟩
  go_wp2_with fail
  go_ret
  exact ⟨rfl, Touch.refl _ _⟩
 ·have d1 : ((s.size : Int) == (1 : Int)) = false := by simp only [beq_eq_false_iff_ne]; omega
  have d1n : (s.size == 1) = false := by simp only [beq_eq_false_iff_ne]; omega
  have d1' : ¬ (s.size : Int) = 1 := by omega
  have HSY := hid (symbol_len s.data.toList (by simpa using h1))
  have hlen : s.data.toList.length = s.size := by simp
  clear h1
  rw [hlen] at HSY
  go_enter Tryz.func162, Tryz.ntmps162
  go_wp2_with fail
  go_loopw [3] (fun i wr => ∃ j : Nat, i = .int .i64 j ∧ j ≤ s.size ∧ Hid ((s.data.toList.take j).all Tr.letter = true) ∧ wr = w) (fun i _ => s.size - (intOf i).toNat)
  case atStart => exact ⟨0, rfl, Nat.zero_le _, by simp [Hid], rfl⟩
  case round =>
   obtain ⟨j, rfl, hj, HA, rfl⟩ := hrel
   by_cases c1 : j < s.size
   ·have d1 : decide ((j : Int) < (s.size : Int)) = true := by simp; omega
    have d1' : (j : Int) < (s.size : Int) := by omega
    obtain ⟨b, hb⟩ : ∃ b, s[j]'c1 = b := ⟨_, rfl⟩
    have hst := all_snoc' s.data.toList j (by simpa using c1) Tr.letter
    have hno := all_no s.data.toList j (by simpa using c1) Tr.letter
    have hbl : s.data.toList[j]'(by simpa using c1) = b := hb
    rw [hbl] at hst hno
    have HS := hid hst
    have HN := hid hno
    clear hst hno hbl
    go_wp2_with fail
    refine Calls.mono (letter_byte b _) ?_
    rintro _ w1q ⟨rfl, hqw1⟩
    replace hqw1 := hqw1.symm
    subst hqw1
    cases h1 : (Tr.letter b) with
    | false =>
     go_wp2_with fail
     go_ret
     exact ⟨ret_bool' _ _ (by rw [HSY.out]; first | (have hn := HN.out (by assumption); simp_all) | (have ha := all_end s Tr.letter j hj c1 HA.out; simp_all <;> omega)), (Touch.refl _ _)⟩
    | true =>
     go_wp2_with fail
     go_roundw
     case rel => exact ⟨j + 1, by go_num, c1, by unfold Hid; rw [HS.out, HA.out]; simp only [*] <;> rfl, trivial⟩
     case measure => simp [intOf]; omega
   ·have d1 : decide ((j : Int) < (s.size : Int)) = false := by simp; omega
    cases h2 : decide ((2 : Int) ≤ (s.size : Int)) with
    | false =>
     have h2n : decide (2 ≤ s.size) = false := by have hx := h2; simp only [decide_eq_false_iff_not] at hx ⊢; omega
     go_wp2_with fail
     go_ret
     exact ⟨ret_bool' _ _ (by rw [HSY.out]; first | (have hn := HN.out (by assumption); simp_all) | (have ha := all_end s Tr.letter j hj c1 HA.out; simp_all <;> omega)), (Touch.refl _ _)⟩
    | true =>
     have h2n : decide (2 ≤ s.size) = true := by have hx := h2; simp only [decide_eq_true_eq] at hx ⊢; omega
     cases h3 : decide ((s.size : Int) ≤ (16 : Int)) with
     | false =>
      go_wp2_with fail
      go_ret
      exact ⟨ret_bool' _ _ (by rw [HSY.out]; first | (have hn := HN.out (by assumption); simp_all) | (have ha := all_end s Tr.letter j hj c1 HA.out; simp_all <;> omega)), (Touch.refl _ _)⟩
     | true =>
      go_wp2_with fail
      refine Calls.mono (keywords_any _) ?_
      rintro _ w2 ⟨rfl, hfw2, hkw2⟩
      have HKW2 := hid hkw2
      clear hkw2
      have HF2 := hid (show Fresh wr w2 from preA hfw2)
      clear hfw2
      go_wp2_with fail
      refine Calls.mono (in_any Tr.keywords s _ _ HKW2.out (by decide)) ?_
      rintro _ w3q ⟨rfl, hqw3⟩
      replace hqw3 := hqw3.symm
      subst hqw3
      cases h4 : (Tr.keywords.contains s.data.toList) with
      | false =>
       go_wp2_with fail
       refine Calls.mono (accents_any _) ?_
       rintro _ w4 ⟨rfl, hfw4, hkw4⟩
       have HKW4 := hid hkw4
       clear hkw4
       have HF4 := hid (show Fresh w2 w4 from preA hfw4)
       clear hfw4
       go_wp2_with fail
       refine Calls.mono (in_any Tr.accents s _ _ HKW4.out (by decide)) ?_
       rintro _ w5q ⟨rfl, hqw5⟩
       replace hqw5 := hqw5.symm
       subst hqw5
       cases h5 : (Tr.accents.contains s.data.toList) with
       | false =>
        go_wp2_with fail
        go_ret
        exact ⟨ret_bool' _ _ (by rw [HSY.out]; first | (have hn := HN.out (by assumption); simp_all) | (have ha := all_end s Tr.letter j hj c1 HA.out; simp_all <;> omega)), (HF2.out.trans HF4.out)⟩
       | true =>
        go_wp2_with fail
        go_ret
        exact ⟨ret_bool' _ _ (by rw [HSY.out]; first | (have hn := HN.out (by assumption); simp_all) | (have ha := all_end s Tr.letter j hj c1 HA.out; simp_all <;> omega)), (HF2.out.trans HF4.out)⟩
      | true =>
       go_wp2_with fail
       go_ret
       exact ⟨ret_bool' _ _ (by rw [HSY.out]; first | (have hn := HN.out (by assumption); simp_all) | (have ha := all_end s Tr.letter j hj c1 HA.out; simp_all <;> omega)), HF2.out⟩
end Go.Proofs.YtdacpbdamliafaaGreat

/- The walks of the reference's Number, text and kids. -/
namespace Go.Proofs.YtdacpbdamliafaaGreat
open Go.RowKit
def pd (b : UInt8) : Bool := b == 46 || Tr.digit b
def numF (s : List UInt8) : Bool := decide (0 < s.length) && (decide (s.length ≤ 20) && (s.all pd && (!(s.head? == some 46) && (!(s.getLast? == some 46) && decide (s.count 46 ≤ 1)))))
theorem pd_no (l : List UInt8) (h : ∀ b ∈ l, b ≠ 46) : l.all pd = l.all Tr.digit ∧ l.count 46 = 0 := by
 induction l with
 | nil => exact ⟨rfl, rfl⟩
 | cons b l ih =>
  obtain ⟨h1, h2⟩ := ih fun x hx => h x (by simp [hx])
  have hb := h b (by simp)
  refine ⟨?_, ?_⟩
  ·rw [List.all_cons, List.all_cons, h1]
   unfold pd
   rw [show (b == 46) = false from by simpa using hb, Bool.false_or]
  ·rw [List.count_cons, h2, show (b == 46) = false from by simpa using hb]
   rfl
theorem pd_digit (l : List UInt8) (h : l.all Tr.digit = true) : ∀ b ∈ l, b ≠ 46 := fun b hb => digit_ne_point b (List.all_eq_true.1 h b hb)
theorem head_no (l : List UInt8) (h : ∀ b ∈ l, b ≠ 46) : (l.head? == some 46) = false := by
 rw [beq_eq_false_iff_ne]
 intro e
 exact h 46 (List.mem_of_head? e) rfl
theorem last_no (l : List UInt8) (h : ∀ b ∈ l, b ≠ 46) : (l.getLast? == some 46) = false := by
 rw [beq_eq_false_iff_ne]
 intro e
 exact h 46 (List.mem_of_getLast? e) rfl
theorem numF_isNum (s : List UInt8) : numF s = Tr.isNum s := by
 rw [isNum_cut]
 obtain ⟨⟨h1, h2⟩, h3⟩ := cut_span s
 have hs : (s.takeWhile (· ≠ 46)) ++ (s.dropWhile (· ≠ 46)) = s := List.takeWhile_append_dropWhile
 have hno : ∀ b ∈ (cutP s).1, b ≠ 46 := by
  rw [← h1]
  intro b hb
  have := List.all_eq_true.1 (List.all_takeWhile (p := fun b : UInt8 => decide (b ≠ 46)) (l := s)) b hb
  simpa using this
 rw [h1, h2] at hs
 clear h1 h2
 generalize cutP s = c at *
 obtain ⟨a, b, f⟩ := c
 simp only at *
 obtain ⟨e1, e2⟩ := pd_no a hno
 cases f with
 | false =>
  simp only [Bool.false_eq_true, if_false, List.append_nil] at hs
  subst hs
  unfold numF digitsNE
  rw [e1, e2, head_no a hno, last_no a hno]
  rw [Bool.eq_iff_iff]
  simp only [Bool.and_eq_true, decide_eq_true_eq, Bool.not_false, Bool.true_or, Bool.and_true, Nat.zero_le, decide_true, Bool.not_eq_true', beq_eq_false_iff_ne, List.length_pos_iff]
  constructor
  ·rintro ⟨g1, g2, g3⟩; exact ⟨g2, g3, g1⟩
  ·rintro ⟨g2, g3, g1⟩; exact ⟨g1, g2, g3⟩
 | true =>
  simp only [if_true] at hs
  subst hs
  unfold numF digitsNE
  rw [Bool.eq_iff_iff]
  simp only [Bool.and_eq_true, decide_eq_true_eq, Bool.not_true, Bool.false_or, Bool.not_eq_true', beq_eq_false_iff_ne, List.all_append, List.all_cons, List.count_append, List.count_cons, e1, e2]
  have hp : pd 46 = true := by decide
  constructor
  ·rintro ⟨_, g2, ⟨g3, _, g4⟩, g5, g6, g7⟩
   have hc : b.count 46 = 0 := by simp at g7; omega
   have hb : ∀ x ∈ b, x ≠ 46 := fun x hx e => by
    have := List.count_pos_iff.2 (e ▸ hx)
    omega
   refine ⟨g2, ⟨g3, ?_⟩, (pd_no b hb).1 ▸ g4, ?_⟩
   ·rintro rfl; exact g5 rfl
   ·rintro rfl; exact g6 (by simp)
  ·rintro ⟨g2, ⟨g3, g4⟩, g5, g6⟩
   have hb := pd_digit b g5
   obtain ⟨k1, k2⟩ := pd_no b hb
   refine ⟨by simp only [List.length_append, List.length_cons]; omega, g2, ⟨g3, hp, by rw [k1]; exact g5⟩, ?_, ?_, by rw [k2]; simp⟩
   ·intro e
    cases a with
    | nil => exact g4 rfl
    | cons x a => simp at e; exact hno x (by simp) e
   ·intro e
    have hl : (a ++ 46 :: b).getLast? = b.getLast? := by
     cases b with
     | nil => exact absurd rfl g6
     | cons y b => 
      obtain ⟨z, hz⟩ : ∃ z, (y :: b).getLast? = some z := ⟨_, List.getLast?_eq_some_getLast (by simp)⟩
      rw [List.getLast?_append, List.getLast?_cons_cons, hz]; rfl
    rw [hl] at e
    exact hb 46 (List.mem_of_getLast? e) rfl
theorem byte_int (b c : UInt8) : (b == c) = ((b.toNat : Int) == (c.toNat : Int)) := by
 rw [Bool.eq_iff_iff, beq_iff_eq, beq_iff_eq]
 constructor
 ·rintro rfl; rfl
 ·intro h; exact UInt8.toNat_inj.1 (by omega)
def numAt (s : List UInt8) (j : Nat) : Bool := (s.take j).all pd && ((j == 0 || !(s.head? == some 46)) && (decide (j < s.length) || !(s.getLast? == some 46)))
theorem numAt_zero (s : List UInt8) (h : 0 < s.length) : numAt s 0 = true := by simp [numAt, h]
theorem last_at (s : List UInt8) (j : Nat) (h : j < s.length) (hl : ¬ j + 1 < s.length) : s.getLast? = some s[j] := by
 rw [List.getLast?_eq_getElem?, List.getElem?_eq_getElem (by omega)]
 congr 2
 omega
theorem numAt_point (s : List UInt8) (j : Nat) (h : j < s.length) (hb : s[j] = 46) (h1 : 0 < j) (h2 : (j : Int) < (s.length : Int) - 1) (hn : numAt s j = true) : numAt s (j + 1) = true ∧ (s.take (j + 1)).count 46 = (s.take j).count 46 + 1 := by
 unfold numAt at hn ⊢
 rw [List.take_succ_eq_append_getElem h, hb]
 simp only [Bool.and_eq_true, Bool.or_eq_true, beq_iff_eq, Bool.not_eq_true', decide_eq_true_eq, List.all_append, List.count_append] at hn ⊢
 obtain ⟨g1, g2, g3⟩ := hn
 refine ⟨⟨⟨g1, by decide⟩, ?_, .inl (by omega)⟩, by simp⟩
 rcases g2 with g2 | g2
 ·omega
 ·exact .inr g2
theorem numAt_digit (s : List UInt8) (j : Nat) (h : j < s.length) (hb : Tr.digit s[j] = true) (hn : numAt s j = true) : numAt s (j + 1) = true ∧ (s.take (j + 1)).count 46 = (s.take j).count 46 := by
 have hne := digit_ne_point _ hb
 unfold numAt at hn ⊢
 rw [List.take_succ_eq_append_getElem h]
 simp only [Bool.and_eq_true, Bool.or_eq_true, beq_iff_eq, Bool.not_eq_true', decide_eq_true_eq, List.all_append, List.count_append, List.all_cons, List.all_nil, and_true] at hn ⊢
 obtain ⟨g1, g2, g3⟩ := hn
 refine ⟨⟨⟨g1, by simp [pd, hb]⟩, .inr ?_, ?_⟩, ?_⟩
 ·rcases g2 with g2 | g2
  ·subst g2
   rw [beq_eq_false_iff_ne]
   intro e
   rw [List.head?_eq_getElem?, List.getElem?_eq_getElem h] at e
   exact hne (by simpa using e)
  ·exact g2
 ·by_cases hl : j + 1 < s.length
  ·exact .inl hl
  ·refine .inr ?_
   rw [last_at s j h hl, beq_eq_false_iff_ne]
   intro e
   exact hne (by simpa using e)
 ·rw [List.count_cons, show (s[j] == 46) = false from by simpa using hne]; simp
theorem numAt_no (s : List UInt8) (j : Nat) (h : j < s.length) (hd : Tr.digit s[j] = false) (hp : s[j] ≠ 46 ∨ j = 0 ∨ ¬ (j : Int) < (s.length : Int) - 1) : Tr.isNum s = false := by
 rw [← numF_isNum, ← Bool.not_eq_true]
 unfold numF
 simp only [Bool.and_eq_true, decide_eq_true_eq, Bool.not_eq_true', beq_eq_false_iff_ne]
 rintro ⟨_, _, g1, g2, g3, _⟩
 have hm := List.all_eq_true.1 g1 s[j] (List.getElem_mem h)
 unfold pd at hm
 rw [hd, Bool.or_false, beq_iff_eq] at hm
 rcases hp with hp | hp | hp
 ·exact hp hm
 ·subst hp
  exact g2 (by rw [List.head?_eq_getElem?, List.getElem?_eq_getElem h, hm])
 ·exact g3 (by rw [last_at s j h (by omega), hm])
theorem numAt_end (s : List UInt8) (h : 0 < s.length → numAt s s.length = true) : Tr.isNum s = (decide (0 < s.length) && (decide (s.length ≤ 20) && decide (s.count 46 ≤ 1))) := by
 rw [← numF_isNum]
 unfold numF
 by_cases h0 : 0 < s.length
 ·have h1 := h h0
  unfold numAt at h1
  rw [List.take_length] at h1
  simp only [Bool.and_eq_true, Bool.or_eq_true, beq_iff_eq, decide_eq_true_eq, Nat.lt_irrefl, false_or, Nat.ne_of_gt h0] at h1
  obtain ⟨g1, g2, g3⟩ := h1
  rw [g1, g2, g3]
  simp
 ·simp [h0]
set_option maxRecDepth 100000 in
set_option maxHeartbeats 2000000 in
theorem rNumber_any (s : ByteArray) (w : World) (hm : s.size ≤ 9223372036854775807) :
  Calls Tryz.prog 163 #[.string s] w fun e w' => e = .returned (.bool (Tr.isNum s.data.toList)) ∧ w' = w := by
 have hlen : s.data.toList.length = s.size := by simp
 have HLEN := hid hlen
 clear hlen
 go_enter Tryz.func163, Tryz.ntmps163
 go_wp2_with fail
 go_loopw [3, 4] (fun p i wr => ∃ j : Nat, p = .int .i64 ((s.data.toList.take j).count 46 : Nat) ∧ i = .int .i64 j ∧ j ≤ s.size ∧ Hid (0 < s.size → numAt s.data.toList j = true) ∧ wr = w) (fun _ i _ => s.size - (intOf i).toNat)
 case atStart => exact ⟨0, rfl, rfl, Nat.zero_le _, fun h => numAt_zero _ (by rw [HLEN.out]; exact h), rfl⟩
 case round =>
  obtain ⟨j, rfl, rfl, hj, HA, rfl⟩ := hrel
  by_cases c1 : j < s.size
  ·have d1 : decide ((j : Int) < (s.size : Int)) = true := by simp only [decide_eq_true_eq]; omega
   have d1n : decide (j < s.size) = true := by simp only [decide_eq_true_eq]; omega
   have d1' : (j : Int) < (s.size : Int) := by omega
   have c2 : j < s.data.toList.length := by rw [HLEN.out]; exact c1
   have hcm : (s.data.toList.take j).count 46 ≤ j := Nat.le_trans List.count_le_length (List.length_take_le _ _)
   have HP := hid (numAt_point s.data.toList j c2)
   have HD := hid (numAt_digit s.data.toList j c2)
   have HN := hid (numAt_no s.data.toList j c2)
   rw [HLEN.out] at HP HN
   obtain ⟨n, hn⟩ : ∃ n, (s.data.toList.take j).count 46 = n := ⟨_, rfl⟩
   rw [hn] at HP HD hcm ⊢
   clear hn
   obtain ⟨b, hb⟩ : ∃ b, s.data.toList[j]'c2 = b := ⟨_, rfl⟩
   have hsb : s[j]'c1 = b := hb
   rw [hb] at HP HD HN
   clear hb c2
   cases h1 : ((b.toNat : Int) == (46 : Int)) with
   | false =>
    have h1m : ((b.toNat : Int) != (46 : Int)) = true := by rw [bne, h1]; rfl
    go_wp2_with fail
    refine Calls.mono (digit_byte b _) ?_
    rintro _ w1q ⟨rfl, hqw1⟩
    replace hqw1 := hqw1.symm
    subst hqw1
    cases h2 : (Tr.digit b) with
    | false =>
     go_wp2_with fail
     go_ret
     exact ⟨ret_bool' _ _ (by rw [HN.out (by assumption) (.inl (by rw [ne_eq, ← beq_iff_eq, byte_int]; simp_all))]), rfl⟩
    | true =>
     go_wp2_with fail
     go_roundw
     case rel =>
      have hz := HD.out (by assumption) (HA.out (by omega))
      exact ⟨j + 1, by rw [hz.2] <;> go_num, by go_num, c1, fun _ => hz.1, trivial⟩
     case measure => simp [intOf]; omega
   | true =>
    have h1m : ((b.toNat : Int) != (46 : Int)) = false := by rw [bne, h1]; rfl
    cases h3 : decide ((0 : Int) < (j : Int)) with
    | false =>
     have h3n : decide (0 < j) = false := by have hx := h3; simp only [decide_eq_false_iff_not] at hx ⊢; omega
     go_wp2_with fail
     refine Calls.mono (digit_byte b _) ?_
     rintro _ w2q ⟨rfl, hqw2⟩
     replace hqw2 := hqw2.symm
     subst hqw2
     cases h4 : (Tr.digit b) with
     | false =>
      go_wp2_with fail
      go_ret
      exact ⟨ret_bool' _ _ (by rw [HN.out (by assumption) (.inr (.inl (by have := of_decide_eq_false (by assumption : decide ((0 : Int) < (j : Int)) = false); omega)))]), rfl⟩
     | true =>
      go_wp2_with fail
      go_roundw
      case rel =>
       have hz := HD.out (by assumption) (HA.out (by omega))
       exact ⟨j + 1, by rw [hz.2] <;> go_num, by go_num, c1, fun _ => hz.1, trivial⟩
      case measure => simp [intOf]; omega
    | true =>
     have h3n : decide (0 < j) = true := by have hx := h3; simp only [decide_eq_true_eq] at hx ⊢; omega
     cases h5 : decide ((j : Int) < ((s.size : Int) - (1 : Int))) with
     | false =>
      go_wp2_with fail
      refine Calls.mono (digit_byte b _) ?_
      rintro _ w3q ⟨rfl, hqw3⟩
      replace hqw3 := hqw3.symm
      subst hqw3
      cases h6 : (Tr.digit b) with
      | false =>
       go_wp2_with fail
       go_ret
       exact ⟨ret_bool' _ _ (by rw [HN.out (by assumption) (.inr (.inr (by have := of_decide_eq_false (by assumption : decide ((j : Int) < (s.size : Int) - (1 : Int)) = false); omega)))]), rfl⟩
      | true =>
       go_wp2_with fail
       go_roundw
       case rel =>
        have hz := HD.out (by assumption) (HA.out (by omega))
        exact ⟨j + 1, by rw [hz.2] <;> go_num, by go_num, c1, fun _ => hz.1, trivial⟩
       case measure => simp [intOf]; omega
     | true =>
      go_wp2_with fail
      go_roundw
      case rel =>
       have hz := HP.out (by rw [← beq_iff_eq, byte_int]; assumption) (by have := of_decide_eq_true (by assumption : decide ((0 : Int) < (j : Int)) = true); omega) (of_decide_eq_true (by assumption)) (HA.out (by omega))
       exact ⟨j + 1, by rw [hz.2] <;> go_num, by go_num, c1, fun _ => hz.1, trivial⟩
      case measure => simp [intOf]; omega
  ·have d1 : decide ((j : Int) < (s.size : Int)) = false := by simp only [decide_eq_false_iff_not]; omega
   have d1n : decide (j < s.size) = false := by simp only [decide_eq_false_iff_not]; omega
   obtain rfl : j = s.size := by omega
   have htk : s.data.toList.take s.size = s.data.toList := List.take_of_length_le (by rw [HLEN.out]; exact Nat.le_refl _)
   have HE := hid (numAt_end s.data.toList (by rw [HLEN.out]; exact HA.out))
   rw [HLEN.out] at HE
   rw [htk]
   obtain ⟨n, hn⟩ : ∃ n, s.data.toList.count 46 = n := ⟨_, rfl⟩
   rw [hn] at HE ⊢
   clear hn htk
   cases h7 : decide ((0 : Int) < (s.size : Int)) with
   | false =>
    have h7n : decide (0 < s.size) = false := by have hx := h7; simp only [decide_eq_false_iff_not] at hx ⊢; omega
    go_wp2_with fail
    go_ret
    exact ⟨ret_bool' _ _ (by rw [HE.out]; simp_all <;> omega), rfl⟩
   | true =>
    have h7n : decide (0 < s.size) = true := by have hx := h7; simp only [decide_eq_true_eq] at hx ⊢; omega
    cases h8 : decide ((s.size : Int) ≤ (20 : Int)) with
    | false =>
     go_wp2_with fail
     go_ret
     exact ⟨ret_bool' _ _ (by rw [HE.out]; simp_all <;> omega), rfl⟩
    | true =>
     cases h9 : decide ((n : Int) ≤ (1 : Int)) with
     | false =>
      have h9n : decide (n ≤ 1) = false := by have hx := h9; simp only [decide_eq_false_iff_not] at hx ⊢; omega
      go_wp2_with fail
      go_ret
      exact ⟨ret_bool' _ _ (by rw [HE.out]; simp_all <;> omega), rfl⟩
     | true =>
      have h9n : decide (n ≤ 1) = true := by have hx := h9; simp only [decide_eq_true_eq] at hx ⊢; omega
      go_wp2_with fail
      go_ret
      exact ⟨ret_bool' _ _ (by rw [HE.out]; simp_all <;> omega), rfl⟩
end Go.Proofs.YtdacpbdamliafaaGreat
