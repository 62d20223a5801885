/- Part 3 of 42 of a proof; its texts, joined: PrG, PrH. No condition. -/
import Derived.Test.YtomibmenojdieaaGreatXx2
set_option maxRecDepth 100000
namespace Go.Proofs.YtomibmenojdieaaGreat.Tr
open Lx (Tok)
theorem stop_mark (b : UInt8) (r : List Tok) (h1 : startTok (mk7 b) = false) (h2 : mk7 b ≠ mk7 95) (h3 : mk7 b ≠ mk7 94) : stop (mk7 b :: r) := ⟨h1, expect_other _ _ _ h2, expect_other _ _ _ h3⟩
theorem kids_small {m : Nat} {a : Nd} (ha : IsRow a) (hc : count a ≤ m + 1) : ∀ x ∈ a.kids, View x ∧ count x ≤ m := fun x hx => ⟨ha.views x hx, by
 have h1 := count_mem hx;have h2 := count_kids a;omega⟩
theorem name_ne (t : Bytes) (h : keywords.contains t = false) : t ≠ sFrac ∧ t ≠ sRoot ∧ t ≠ sMatrix := by
 refine ⟨?_, ?_, ?_⟩ <;> (rintro rfl; revert h; decide)
theorem symbol_names (t : Bytes) (h : symbol t = true) (hl : t.length ≠ 1) : keywords.contains t = false ∧ accents.contains t = false := by
 unfold symbol at h
 match t, hl with
 | [], _ => revert h; decide
 | [c], hl => exact absurd rfl hl
 | a :: b :: l, _ =>
  simp only [Bool.and_eq_true, Bool.not_eq_true'] at h;exact ⟨h.1.2, h.2⟩
theorem plain_sym (t : Bytes) (h : symbol t = true) (hl : t.length ≠ 1) : plainN t = true := by
 obtain ⟨n1, n2⟩ := symbol_names t h hl;obtain ⟨e1, e2, e3⟩ := name_ne t n1;unfold plainN;rw [n2];simp [hl, e1, e2, e3]
theorem PU.braced {m : Nat} (h : PU m) (a : Nd) (ha : IsRow a) (hc : count a ≤ m + 1) (r : List Tok) (b : UInt8) (h1 : startTok (mk7 b) = false) (h2 : mk7 b ≠ mk7 95) (h3 : mk7 b ≠ mk7 94) :
  Ev fun f => pRow f ((rowT a.kids ++ [mk7 b]) ++ r) = some (a.kids, mk7 b :: r) := by
 have := h.row a.kids (kids_small ha hc) (mk7 b :: r) (stop_mark b r h1 h2 h3);simpa using this
theorem PU.arg {m : Nat} (h : PU m) (a : Nd) (ha : IsRow a) (hc : count a ≤ m + 1) (r : List Tok) : Ev fun f => pArg f (argT a ++ r) = some (a, r) := by
 have hr := row_eq a ha.1 ha.2
 have hb : Ev fun f => pArg f ((mk7 123 :: (rowT a.kids ++ [mk7 125])) ++ r) = some (a, r) := by
  refine Ev.succ ((h.braced a ha hc r 125 (by decide) (by decide) (by decide)).mono fun f h1 => ?_);rw [List.cons_append, pArg, if_neg (by first | decide | simp), if_neg (by first | decide | simp), if_neg (by first | decide | simp), if_pos rfl, h1];show some (Tr.row a.kids, r) = _;rw [← hr]
 rw [argT_eq];split
 ·rename_i x hx
  rw [hx] at hb;split
  ·rename_i hl
   have hv := ha.views x (by rw [hx]; simp);rw [hr, hx];unfold leaf at hl;cases hv with
   | sym t ht =>
    rw [itemT_sym];refine Ev.succ (Ev.of fun f => ?_)
    by_cases h1 : t.length = 1
    ·rw [if_pos h1, List.singleton_append, pArg, if_pos (.inl rfl)]
    ·rw [if_neg h1, List.singleton_append, pArg, if_pos (.inr ⟨rfl, plain_sym t ht h1⟩)]
   | num t ht =>
    rw [itemT_num];exact Ev.succ (Ev.of fun f => by rw [List.singleton_append, pArg, if_neg (by first | decide | simp), if_pos rfl])
   | text t ht =>
    rw [itemT_text];exact Ev.succ (Ev.of fun f => by rw [List.singleton_append, pArg, if_neg (by first | decide | simp), if_neg (by first | decide | simp), if_pos rfl])
   | _ => revert hl; simp [Nd.kind]
  ·exact hb
 ·exact hb
theorem PU.baseR {m : Nat} (h : PU m) (a : Nd) (ha : IsRow a) (hc : count a ≤ m + 1) (r : List Tok) : Ev fun f => pBase f (baseT a ++ r) = some (a.kids, r) := by
 have hb : Ev fun f => pBase f ((mk7 123 :: (rowT a.kids ++ [mk7 125])) ++ r) = some (a.kids, r) := by
  refine Ev.succ ((h.braced a ha hc r 125 (by decide) (by decide) (by decide)).mono fun f h1 => ?_);rw [List.cons_append, pBase, if_neg (by first | decide | simp), if_neg (by first | decide | simp), if_neg (by first | decide | simp), if_neg (by first | decide | simp), if_neg (by first | decide | simp), if_neg (by first | decide | simp), if_neg (by first | decide | simp), if_pos rfl, h1];rfl
 rw [baseT_eq];split
 ·rename_i x hx
  rw [hx] at hb ⊢;split
  ·exact hb
  ·rename_i hs
   obtain ⟨hv, hcx⟩ := kids_small ha hc x (by rw [hx]; simp);exact h.base x hcx hv (by simpa using hs) r
 ·exact hb
theorem slot_small {m : Nat} {k : Int} {t : Bytes} {c : Int} {ks : List Nd} (hc : count (.mk k t c ks) ≤ m + 1) (a : Nd) (h : a ∈ ks) : count a ≤ m + 1 := by
 rw [count] at hc;have := count_mem h;omega
theorem accent_names (t : Bytes) (h : accents.contains t = true) : t ≠ sFrac ∧ t ≠ sRoot ∧ t ≠ sMatrix := by
 refine ⟨?_, ?_, ?_⟩ <;> (rintro rfl; revert h; decide)
theorem cols_of (c : Nat) : ∀ (ks : List Nd) (i : Nat), i < c → c ≤ i + ks.length → colsOf ((ks.zipIdx i).map fun p => (p.1, decide (((p.2 : Int) + 1) % (c : Int) = 0))) = (c : Int) - i
 | [], i, h1, h2 => by simp at h2; omega
 | x :: l, i, h1, h2 => by
  rw [List.zipIdx_cons, List.map_cons, colsOf]
  by_cases h : i + 1 = c
  ·have e : decide (((i : Int) + 1) % (c : Int) = 0) = true := by
    rw [decide_eq_true_iff, ← h]; simp
   simp only [e, if_true]; omega
  ·have e : decide (((i : Int) + 1) % (c : Int) = 0) = false := by
    rw [decide_eq_false_iff_not, Int.emod_eq_of_lt (by omega) (by omega)]; omega
   have ih := cols_of c l (i + 1) (by omega) (by simp at h2; omega);simp only [e, Bool.false_eq_true, if_false];rw [ih]; omega
theorem PU.cells {m : Nat} (h : PU m) (c : Int) (r : List Tok) : ∀ (ns : List Nd) (n : Nd) (i : Nat), (∀ k ∈ n :: ns, IsRow k ∧ count k ≤ m + 1) → ((i : Int) + (n :: ns).length) % c = 0 →
  Ev fun f => pCells f (rowT n.kids ++ (cellsT c (i + 1) ns ++ (mk7 125 :: r))) = some (((n :: ns).zipIdx i).map (fun p => (p.1, decide (((p.2 : Int) + 1) % c = 0))), mk7 125 :: r)
 | [], n, i, hk, hm => by
  obtain ⟨hr, hc⟩ := hk n (by simp);have e : cellsT c (i + 1) [] = [] := by rw [cellsT]
  rw [e, List.nil_append];refine Ev.succ ((h.row n.kids (kids_small hr hc) _ (stop_mark 125 r (by decide) (by decide) (by decide))).mono fun f h1 => ?_);rw [pCells, h1];simp only [Option.bind_some];rw [expect_other _ _ _ (by decide), expect_other _ _ _ (by decide)];have e2 : decide (((i : Int) + 1) % c = 0) = true := by rw [decide_eq_true_iff]; simpa using hm
  simp only [List.zipIdx_cons, List.zipIdx_nil, List.map_cons, List.map_nil, e2];rw [← row_eq n hr.1 hr.2]
 | n' :: ns, n, i, hk, hm => by
  obtain ⟨hr, hc⟩ := hk n (by simp)
  have ih := PU.cells h c r ns n' (i + 1) (fun k hk' => hk k (by simp at hk' ⊢; exact .inr hk')) (by
   simp only [List.length_cons] at hm ⊢;rw [← hm]; congr 1; omega)
  have e : cellsT c (i + 1) (n' :: ns) = (if ((i : Int) + 1) % c = 0 then (⟨8, [92, 92]⟩ : Tok) else mk7 38) :: (rowT n'.kids ++ cellsT c (i + 1 + 1) ns) := by
   rw [cellsT, if_neg (by omega)];have : ((i + 1 : Nat) : Int) = (i : Int) + 1 := by omega
   rw [this];split <;> rfl
  rw [e]
  by_cases hb : ((i : Int) + 1) % c = 0
  ·rw [if_pos hb]
   refine Ev.succ (((h.row n.kids (kids_small hr hc) ((⟨8, [92, 92]⟩ : Tok) :: (rowT n'.kids ++ (cellsT c (i + 1 + 1) ns ++ (mk7 125 :: r)))) ⟨by rfl, expect_other _ _ _ (by decide), expect_other _ _ _ (by decide)⟩).and ih).mono fun f ⟨h1, h2⟩ => ?_);rw [List.cons_append, List.append_assoc, pCells, h1];simp only [Option.bind_some];rw [expect_other _ _ _ (by decide), expect_same];simp only [h2, Option.map_some];rw [List.zipIdx_cons («as» := n' :: ns), List.map_cons, ← row_eq n hr.1 hr.2, decide_eq_true hb]
  ·rw [if_neg hb]
   refine Ev.succ (((h.row n.kids (kids_small hr hc) (mk7 38 :: (rowT n'.kids ++ (cellsT c (i + 1 + 1) ns ++ (mk7 125 :: r)))) (stop_mark 38 _ (by decide) (by decide) (by decide))).and ih).mono fun f ⟨h1, h2⟩ => ?_);rw [List.cons_append, List.append_assoc, pCells, h1];simp only [Option.bind_some];rw [expect_same];simp only [h2, Option.map_some];rw [List.zipIdx_cons («as» := n' :: ns), List.map_cons, ← row_eq n hr.1 hr.2, decide_eq_false hb]
theorem PU.base_step {m : Nat} (h : PU m) (n : Nd) (hc : count n ≤ m + 1) (v : View n) (hs : scripted n = false) (r : List Tok):
  Ev fun f => pBase f (itemT n ++ r) = some ([n], r) := by
 cases v with
 | sym t ht =>
  rw [itemT_sym];refine Ev.succ (Ev.of fun f => ?_)
  by_cases h1 : t.length = 1
  ·rw [if_pos h1, List.singleton_append, pBase, if_pos rfl]
  ·obtain ⟨n1, n2⟩ := symbol_names t ht h1
   obtain ⟨e1, e2, e3⟩ := name_ne t n1;rw [if_neg h1, List.singleton_append, pBase, if_neg (by first | decide | simp), if_neg (by first | decide | simp), if_neg (by first | decide | simp), if_neg (by first | decide | simp), if_pos rfl, if_neg e1, if_neg e2, if_neg e3, if_neg (by rw [n2]; decide), if_neg h1]
 | num t ht =>
  rw [itemT_num];exact Ev.succ (Ev.of fun f => by rw [List.singleton_append, pBase, if_neg (by first | decide | simp), if_pos rfl])
 | text t ht =>
  rw [itemT_text];exact Ev.succ (Ev.of fun f => by rw [List.singleton_append, pBase, if_neg (by first | decide | simp), if_neg (by first | decide | simp), if_pos rfl])
 | frac a b ha hb =>
  rw [itemT_frac];refine Ev.succ (((h.arg a ha (slot_small hc a (by simp)) (argT b ++ r)).and (h.arg b hb (slot_small hc b (by simp)) r)).mono fun f ⟨h1, h2⟩ => ?_);rw [List.cons_append, List.append_assoc, name, pBase, if_neg (by first | decide | simp), if_neg (by first | decide | simp), if_neg (by first | decide | simp), if_neg (by first | decide | simp), if_pos rfl, if_pos rfl, h1];simp [h2]
 | root a b ha hb =>
  rw [itemT_root];have hra := row_eq a ha.1 ha.2;have hB := h.arg b hb (slot_small hc b (by simp)) r
  by_cases h0 : a.kids = []
  ·rw [if_pos h0, List.nil_append]
   have hex : expect (mk7 91) (argT b ++ r) = none := by
    have : ∃ x l, argT b = x :: l ∧ x ≠ mk7 91 := by
     rw [argT_eq];split
     ·rename_i x hx
      split
      ·rename_i hl
       have hv := hb.views x (by rw [hx]; simp);unfold leaf at hl;cases hv with
       | sym t ht =>
        rw [itemT_sym];refine ⟨_, _, rfl, ?_⟩;split <;> (intro e; cases e)
       | num t ht => rw [itemT_num]; exact ⟨_, _, rfl, fun e => by cases e⟩
       | text t ht => rw [itemT_text]; exact ⟨_, _, rfl, fun e => by cases e⟩
       | _ => revert hl; simp [Nd.kind]
      ·exact ⟨_, _, rfl, by decide⟩
     ·exact ⟨_, _, rfl, by decide⟩
    obtain ⟨x, l, e, hx⟩ := this;rw [e]; exact expect_other _ _ _ hx
   refine Ev.succ (hB.mono fun f h1 => ?_);rw [List.cons_append, name, pBase, if_neg (by first | decide | simp), if_neg (by first | decide | simp), if_neg (by first | decide | simp), if_neg (by first | decide | simp), if_pos rfl, if_neg (by first | decide | simp), if_pos rfl, hex, h1];rw [hra, h0]; rfl
  ·rw [if_neg h0]
   have hA := h.braced a ha (slot_small hc a (by simp)) (argT b ++ r) 93 (by decide) (by decide) (by decide);refine Ev.succ ((hA.and hB).mono fun f ⟨h1, h2⟩ => ?_);have e : (name sRoot :: ((mk7 91 :: (rowT a.kids ++ [mk7 93])) ++ argT b)) ++ r = name sRoot :: mk7 91 :: ((rowT a.kids ++ [mk7 93]) ++ (argT b ++ r)) := by simp
   rw [e, name, pBase, if_neg (by first | decide | simp), if_neg (by first | decide | simp), if_neg (by first | decide | simp), if_neg (by first | decide | simp), if_pos rfl, if_neg (by first | decide | simp), if_pos rfl, expect_same];simp only [h1, Option.bind_some, expect_same, h2, Option.map_some];rw [← hra]
 | sub a b => cases hs
 | sup a b => cases hs
 | both a b d => cases hs
 | accent t a ht ha =>
  rw [itemT_accent];obtain ⟨e1, e2, e3⟩ := accent_names t ht;refine Ev.succ ((h.arg a ha (slot_small hc a (by simp)) r).mono fun f h1 => ?_);rw [List.cons_append, name, pBase, if_neg (by first | decide | simp), if_neg (by first | decide | simp), if_neg (by first | decide | simp), if_neg (by first | decide | simp), if_pos rfl, if_neg e1, if_neg e2, if_neg e3, if_pos ht, h1];rfl
 | fence t a ht ha =>
  have hra := row_eq a ha.1 ha.2;rw [itemT_fence]
  by_cases h0 : t = [40, 41] ∨ t = [91, 93]
  ·rw [if_pos h0]
   rcases h0 with rfl | rfl
   ·refine Ev.succ ((h.braced a ha (slot_small hc a (by simp)) r 41 (by decide) (by decide) (by decide)).mono fun f h1 => ?_)
    rw [List.cons_append, pBase, if_neg (by first | decide | simp), if_neg (by first | decide | simp), if_neg (by first | decide | simp), if_neg (by first | decide | simp), if_neg (by first | decide | simp), if_pos (by decide)];have h1' : pRow f (rowT a.kids ++ [mk7 (([40, 41] : Bytes).getLastD 0)] ++ r) = some (a.kids, mk7 41 :: r) := h1;rw [h1'];simp only [Option.bind_some, expect_same, Option.map_some];rw [← hra]
   ·refine Ev.succ ((h.braced a ha (slot_small hc a (by simp)) r 93 (by decide) (by decide) (by decide)).mono fun f h1 => ?_)
    rw [List.cons_append, pBase, if_neg (by first | decide | simp), if_neg (by first | decide | simp), if_neg (by first | decide | simp), if_neg (by first | decide | simp), if_neg (by first | decide | simp), if_neg (by first | decide | simp), if_pos (by decide)];have h1' : pRow f (rowT a.kids ++ [mk7 (([91, 93] : Bytes).getLastD 0)] ++ r) = some (a.kids, mk7 93 :: r) := h1;rw [h1'];simp only [Option.bind_some, expect_same, Option.map_some];rw [← hra]
  ·rw [if_neg h0]
   refine Ev.succ ((h.arg a ha (slot_small hc a (by simp)) r).mono fun f h1 => ?_);rw [List.cons_append, pBase, if_neg (by first | decide | simp), if_neg (by first | decide | simp), if_neg (by first | decide | simp), if_pos rfl, h1];rfl
 | matrix c ks hc1 hn hm hk =>
  rw [itemT_matrix c ks (by rintro rfl; simp at hn)]
  have hcells : Ev fun f => pCells f (cellsT c 0 ks ++ (mk7 125 :: r)) = some ((ks.zipIdx.map fun p => (p.1, decide (((p.2 : Int) + 1) % c = 0))), mk7 125 :: r) := by
   match ks, hn with
   | k :: l, _ =>
    have e : cellsT c 0 (k :: l) = rowT k.kids ++ cellsT c 1 l := by rw [cellsT, if_pos rfl, List.nil_append]
    rw [e, List.append_assoc];exact h.cells c r l k 0 (fun x hx => ⟨hk x hx, slot_small hc x hx⟩) (by simpa using hm)
  refine Ev.succ (hcells.mono fun f h1 => ?_);have e : (name sMatrix :: mk7 123 :: (cellsT c 0 ks ++ [mk7 125])) ++ r = name sMatrix :: mk7 123 :: (cellsT c 0 ks ++ (mk7 125 :: r)) := by simp
  rw [e, name, pBase, if_neg (by first | decide | simp), if_neg (by first | decide | simp), if_neg (by first | decide | simp), if_neg (by first | decide | simp), if_pos rfl, if_neg (by first | decide | simp), if_neg (by first | decide | simp), if_pos rfl, expect_same];simp only [Option.bind_some, h1, expect_same];obtain ⟨cn, rfl⟩ : ∃ cn : Nat, c = cn := ⟨c.toNat, by omega⟩
  have hle : cn ≤ ks.length := by
   rcases Nat.lt_or_ge ks.length cn with hlt | hge
   ·rw [Int.emod_eq_of_lt (by omega) (by omega)] at hm; omega
   ·exact hge
  have e1 := cols_of cn ks 0 (by omega) (by omega)
  rw [e1, if_pos (by
   have hz : ((cn : Int) - ((0 : Nat) : Int)) = (cn : Int) := by omega
   rw [hz];unfold ends;apply List.ext_getElem
   ·simp
   ·intro i h1 h2; simp)]
  have e2 : (List.map (fun x => x.fst) (List.map (fun p => (p.fst, decide (((p.2 : Int) + 1) % (cn : Int) = 0))) ks.zipIdx)) = ks := by
   rw [List.map_map];have : ((fun x : Nd × Bool => x.fst) ∘ fun p : Nd × Nat => (p.fst, decide (((p.2 : Int) + 1) % (cn : Int) = 0))) = Prod.fst := rfl;rw [this];simp
  rw [e2];simp
theorem item_noGroup (n : Nd) (v : View n) (hs : scripted n = false) (r : List Tok) : groupAt (itemT n ++ r) = false := by
 cases v with
 | sym t h => rw [itemT_sym]; by_cases hl : t.length = 1 <;> simp [hl, groupAt, mk7]
 | num t h => rw [itemT_num]; simp [groupAt, mk7]
 | text t h => rw [itemT_text]; simp [groupAt, mk7]
 | frac a b ha hb => rw [itemT_frac]; simp [groupAt, mk7, name]
 | root a b ha hb => rw [itemT_root]; simp [groupAt, mk7, name]
 | accent t a h ha => rw [itemT_accent]; simp [groupAt, mk7, name]
 | fence t a h ha =>
  rw [itemT_fence];split
  ·rename_i ht
   rcases ht with rfl | rfl <;> simp [groupAt, mk7]
  ·simp [groupAt, mk7]
 | matrix c ks hc hn hm h => rw [itemT_matrix c ks (by rintro rfl; simp at hn)]; simp [groupAt, mk7, name]
 | _ => cases hs
theorem PU.step {m : Nat} (h : PU m) : PU (m + 1) := by
 have hbase : ∀ n, count n ≤ m + 1 → View n → scripted n = false → ∀ r, Ev fun f => pBase f (itemT n ++ r) = some ([n], r) := fun n hc v hs r => h.base_step n hc v hs r
 refine ⟨fun n hc v r hr => ?_, hbase⟩
 by_cases hs : scripted n = false
 ·refine Ev.succ ((hbase n hc v hs r).mono fun f h1 => ?_)
  rw [pItem, h1];simp only [Option.bind_some];rw [hr.1, hr.2];simp only
  rw [if_neg (by rw [item_noGroup n v hs r]; decide)]
 ·cases v with
  | sub a b ha hb =>
   rw [itemT_sub];have e : (baseT a ++ mk7 95 :: argT b) ++ r = baseT a ++ (mk7 95 :: (argT b ++ r)) := by simp
   rw [e];refine Ev.succ (((h.baseR a ha (slot_small hc a (by simp)) (mk7 95 :: (argT b ++ r))).and (h.arg b hb (slot_small hc b (by simp)) r)).mono fun f ⟨h1, h2⟩ => ?_);rw [pItem, h1];simp only [Option.bind_some];rw [expect_same];simp only [h2, Option.bind_some];rw [hr.2, ← row_eq a ha.1 ha.2]
  | sup a b ha hb =>
   rw [itemT_sup];have e : (baseT a ++ mk7 94 :: argT b) ++ r = baseT a ++ (mk7 94 :: (argT b ++ r)) := by simp
   rw [e];refine Ev.succ (((h.baseR a ha (slot_small hc a (by simp)) (mk7 94 :: (argT b ++ r))).and (h.arg b hb (slot_small hc b (by simp)) r)).mono fun f ⟨h1, h2⟩ => ?_);rw [pItem, h1];simp only [Option.bind_some];rw [expect_other _ _ _ (by decide), expect_same];simp only [h2, Option.map_some];rw [← row_eq a ha.1 ha.2]
  | both a b d ha hb hd =>
   rw [itemT_both];have e : (baseT a ++ mk7 95 :: (argT b ++ mk7 94 :: argT d)) ++ r = baseT a ++ (mk7 95 :: (argT b ++ (mk7 94 :: (argT d ++ r)))) := by simp
   rw [e];refine Ev.succ (((h.baseR a ha (slot_small hc a (by simp)) (mk7 95 :: (argT b ++ (mk7 94 :: (argT d ++ r))))).and ((h.arg b hb (slot_small hc b (by simp)) (mk7 94 :: (argT d ++ r))).and (h.arg d hd (slot_small hc d (by simp)) r))).mono fun f ⟨h1, h2, h3⟩ => ?_);rw [pItem, h1];simp only [Option.bind_some];rw [expect_same];simp only [h2, Option.bind_some];rw [expect_same];simp only [h3, Option.map_some];rw [← row_eq a ha.1 ha.2]
  | _ => exact absurd rfl hs
theorem PU.all (m : Nat) : PU m := by
 induction m with
 | zero => exact ⟨fun n h => by have := count_pos n; omega, fun n h => by have := count_pos n; omega⟩
 | succ m ih => exact ih.step
end Go.Proofs.YtomibmenojdieaaGreat.Tr
namespace Go.Proofs.YtomibmenojdieaaGreat.Tr
open Lx (Tok TokOK)
theorem byte_all (p : UInt8 → Prop) [DecidablePred p] (h : ∀ n : Fin 256, p (UInt8.ofNat n.1)) (c : UInt8) : p c := by
 have := h ⟨c.toNat, c.toNat_lt⟩;simpa using this
theorem letter_isB (c : UInt8) : letter c = Lx.isB 3 c := byte_all (fun c => letter c = Lx.isB 3 c) (by decide +kernel) c
theorem all_letter (l : Bytes) : l.all letter = l.all (Lx.isB 3) := by
 congr 1; funext c; exact letter_isB c
def AllOK (l : List Tok) : Prop := ∀ t ∈ l, TokOK t
theorem AllOK.cons {x : Tok} {m : List Tok} (h : TokOK x) (k : AllOK m) : AllOK (x :: m) := fun t ht => (List.mem_cons.1 ht).elim (fun e => e ▸ h) (k t)
theorem AllOK.nil : AllOK [] := fun t ht => by cases ht
end Go.Proofs.YtomibmenojdieaaGreat.Tr
