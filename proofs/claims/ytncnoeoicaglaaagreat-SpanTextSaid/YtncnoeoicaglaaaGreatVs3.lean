/- Part 3 of 42 of a proof; its texts, joined: PrG, PrH, SxA. No condition. -/
import Derived.Test.YtncnoeoicaglaaaGreatVs2
set_option maxRecDepth 100000
set_option maxHeartbeats 1000000
namespace Go.Proofs.YtncnoeoicaglaaaGreat.Tr
open Lx (Tok)
theorem stop_mark (b : UInt8) (r : List Tok) (h1 : startTok (mk7 b) = false) (h2 : mk7 b ≠ mk7 95) (h3 : mk7 b ≠ mk7 94) : stop (mk7 b :: r) := ⟨h1, expect_other _ _ _ h2, expect_other _ _ _ h3⟩
theorem kids_small {m : Nat} {a : Nd} (ha : IsRow a) (hc : count a ≤ m + 1) : ∀ x ∈ a.kids, View x ∧ count x ≤ m := fun x hx => ⟨ha.views x hx, by
 have h1 := count_mem hx;have h2 := count_kids a;omega⟩
theorem name_ne (t : Bytes) (h : keywords.contains t = false) : t ≠ sFrac ∧ t ≠ sRoot ∧ t ≠ sMatrix := by
 refine ⟨?_, ?_, ?_⟩ <;> (rintro rfl; revert h; decide)
theorem symbol_names (t : Bytes) (h : symbol t = true) (hl : t.length ≠ 1) : keywords.contains t = false ∧ accents.contains t = false := by
 unfold symbol at h
 match t, hl with
 | [], _ => revert h; decide
 | [c], hl => exact absurd rfl hl
 | a :: b :: l, _ =>
  simp only [Bool.and_eq_true, Bool.not_eq_true'] at h;exact ⟨h.1.2, h.2⟩
theorem plain_sym (t : Bytes) (h : symbol t = true) (hl : t.length ≠ 1) : plainN t = true := by
 obtain ⟨n1, n2⟩ := symbol_names t h hl;obtain ⟨e1, e2, e3⟩ := name_ne t n1;unfold plainN;rw [n2];simp [hl, e1, e2, e3]
theorem PU.braced {m : Nat} (h : PU m) (a : Nd) (ha : IsRow a) (hc : count a ≤ m + 1) (r : List Tok) (b : UInt8) (h1 : startTok (mk7 b) = false) (h2 : mk7 b ≠ mk7 95) (h3 : mk7 b ≠ mk7 94) :
  Ev fun f => pRow f ((rowT a.kids ++ [mk7 b]) ++ r) = some (a.kids, mk7 b :: r) := by
 have := h.row a.kids (kids_small ha hc) (mk7 b :: r) (stop_mark b r h1 h2 h3);simpa using this
theorem PU.arg {m : Nat} (h : PU m) (a : Nd) (ha : IsRow a) (hc : count a ≤ m + 1) (r : List Tok) : Ev fun f => pArg f (argT a ++ r) = some (a, r) := by
 have hr := row_eq a ha.1 ha.2
 have hb : Ev fun f => pArg f ((mk7 123 :: (rowT a.kids ++ [mk7 125])) ++ r) = some (a, r) := by
  refine Ev.succ ((h.braced a ha hc r 125 (by decide) (by decide) (by decide)).mono fun f h1 => ?_);rw [List.cons_append, pArg, if_neg (by first | decide | simp), if_neg (by first | decide | simp), if_neg (by first | decide | simp), if_pos rfl, h1];show some (Tr.row a.kids, r) = _;rw [← hr]
 rw [argT_eq];split
 ·rename_i x hx
  rw [hx] at hb;split
  ·rename_i hl
   have hv := ha.views x (by rw [hx]; simp);rw [hr, hx];unfold leaf at hl;cases hv with
   | sym t ht =>
    rw [itemT_sym];refine Ev.succ (Ev.of fun f => ?_)
    by_cases h1 : t.length = 1
    ·rw [if_pos h1, List.singleton_append, pArg, if_pos (.inl rfl)]
    ·rw [if_neg h1, List.singleton_append, pArg, if_pos (.inr ⟨rfl, plain_sym t ht h1⟩)]
   | num t ht =>
    rw [itemT_num];exact Ev.succ (Ev.of fun f => by rw [List.singleton_append, pArg, if_neg (by first | decide | simp), if_pos rfl])
   | text t ht =>
    rw [itemT_text];exact Ev.succ (Ev.of fun f => by rw [List.singleton_append, pArg, if_neg (by first | decide | simp), if_neg (by first | decide | simp), if_pos rfl])
   | _ => revert hl; simp [Nd.kind]
  ·exact hb
 ·exact hb
theorem PU.baseR {m : Nat} (h : PU m) (a : Nd) (ha : IsRow a) (hc : count a ≤ m + 1) (r : List Tok) : Ev fun f => pBase f (baseT a ++ r) = some (a.kids, r) := by
 have hb : Ev fun f => pBase f ((mk7 123 :: (rowT a.kids ++ [mk7 125])) ++ r) = some (a.kids, r) := by
  refine Ev.succ ((h.braced a ha hc r 125 (by decide) (by decide) (by decide)).mono fun f h1 => ?_);rw [List.cons_append, pBase, if_neg (by first | decide | simp), if_neg (by first | decide | simp), if_neg (by first | decide | simp), if_neg (by first | decide | simp), if_neg (by first | decide | simp), if_neg (by first | decide | simp), if_neg (by first | decide | simp), if_pos rfl, h1];rfl
 rw [baseT_eq];split
 ·rename_i x hx
  rw [hx] at hb ⊢;split
  ·exact hb
  ·rename_i hs
   obtain ⟨hv, hcx⟩ := kids_small ha hc x (by rw [hx]; simp);exact h.base x hcx hv (by simpa using hs) r
 ·exact hb
theorem slot_small {m : Nat} {k : Int} {t : Bytes} {c : Int} {ks : List Nd} (hc : count (.mk k t c ks) ≤ m + 1) (a : Nd) (h : a ∈ ks) : count a ≤ m + 1 := by
 rw [count] at hc;have := count_mem h;omega
theorem accent_names (t : Bytes) (h : accents.contains t = true) : t ≠ sFrac ∧ t ≠ sRoot ∧ t ≠ sMatrix := by
 refine ⟨?_, ?_, ?_⟩ <;> (rintro rfl; revert h; decide)
theorem cols_of (c : Nat) : ∀ (ks : List Nd) (i : Nat), i < c → c ≤ i + ks.length → colsOf ((ks.zipIdx i).map fun p => (p.1, decide (((p.2 : Int) + 1) % (c : Int) = 0))) = (c : Int) - i
 | [], i, h1, h2 => by simp at h2; omega
 | x :: l, i, h1, h2 => by
  rw [List.zipIdx_cons, List.map_cons, colsOf]
  by_cases h : i + 1 = c
  ·have e : decide (((i : Int) + 1) % (c : Int) = 0) = true := by
    rw [decide_eq_true_iff, ← h]; simp
   simp only [e, if_true]; omega
  ·have e : decide (((i : Int) + 1) % (c : Int) = 0) = false := by
    rw [decide_eq_false_iff_not, Int.emod_eq_of_lt (by omega) (by omega)]; omega
   have ih := cols_of c l (i + 1) (by omega) (by simp at h2; omega);simp only [e, Bool.false_eq_true, if_false];rw [ih]; omega
theorem PU.cells {m : Nat} (h : PU m) (c : Int) (r : List Tok) : ∀ (ns : List Nd) (n : Nd) (i : Nat), (∀ k ∈ n :: ns, IsRow k ∧ count k ≤ m + 1) → ((i : Int) + (n :: ns).length) % c = 0 →
  Ev fun f => pCells f (rowT n.kids ++ (cellsT c (i + 1) ns ++ (mk7 125 :: r))) = some (((n :: ns).zipIdx i).map (fun p => (p.1, decide (((p.2 : Int) + 1) % c = 0))), mk7 125 :: r)
 | [], n, i, hk, hm => by
  obtain ⟨hr, hc⟩ := hk n (by simp);have e : cellsT c (i + 1) [] = [] := by rw [cellsT]
  rw [e, List.nil_append];refine Ev.succ ((h.row n.kids (kids_small hr hc) _ (stop_mark 125 r (by decide) (by decide) (by decide))).mono fun f h1 => ?_);rw [pCells, h1];simp only [Option.bind_some];rw [expect_other _ _ _ (by decide), expect_other _ _ _ (by decide)];have e2 : decide (((i : Int) + 1) % c = 0) = true := by rw [decide_eq_true_iff]; simpa using hm
  simp only [List.zipIdx_cons, List.zipIdx_nil, List.map_cons, List.map_nil, e2];rw [← row_eq n hr.1 hr.2]
 | n' :: ns, n, i, hk, hm => by
  obtain ⟨hr, hc⟩ := hk n (by simp)
  have ih := PU.cells h c r ns n' (i + 1) (fun k hk' => hk k (by simp at hk' ⊢; exact .inr hk')) (by
   simp only [List.length_cons] at hm ⊢;rw [← hm]; congr 1; omega)
  have e : cellsT c (i + 1) (n' :: ns) = (if ((i : Int) + 1) % c = 0 then (⟨8, [92, 92]⟩ : Tok) else mk7 38) :: (rowT n'.kids ++ cellsT c (i + 1 + 1) ns) := by
   rw [cellsT, if_neg (by omega)];have : ((i + 1 : Nat) : Int) = (i : Int) + 1 := by omega
   rw [this];split <;> rfl
  rw [e]
  by_cases hb : ((i : Int) + 1) % c = 0
  ·rw [if_pos hb]
   refine Ev.succ (((h.row n.kids (kids_small hr hc) ((⟨8, [92, 92]⟩ : Tok) :: (rowT n'.kids ++ (cellsT c (i + 1 + 1) ns ++ (mk7 125 :: r)))) ⟨by rfl, expect_other _ _ _ (by decide), expect_other _ _ _ (by decide)⟩).and ih).mono fun f ⟨h1, h2⟩ => ?_);rw [List.cons_append, List.append_assoc, pCells, h1];simp only [Option.bind_some];rw [expect_other _ _ _ (by decide), expect_same];simp only [h2, Option.map_some];rw [List.zipIdx_cons («as» := n' :: ns), List.map_cons, ← row_eq n hr.1 hr.2, decide_eq_true hb]
  ·rw [if_neg hb]
   refine Ev.succ (((h.row n.kids (kids_small hr hc) (mk7 38 :: (rowT n'.kids ++ (cellsT c (i + 1 + 1) ns ++ (mk7 125 :: r)))) (stop_mark 38 _ (by decide) (by decide) (by decide))).and ih).mono fun f ⟨h1, h2⟩ => ?_);rw [List.cons_append, List.append_assoc, pCells, h1];simp only [Option.bind_some];rw [expect_same];simp only [h2, Option.map_some];rw [List.zipIdx_cons («as» := n' :: ns), List.map_cons, ← row_eq n hr.1 hr.2, decide_eq_false hb]
theorem PU.base_step {m : Nat} (h : PU m) (n : Nd) (hc : count n ≤ m + 1) (v : View n) (hs : scripted n = false) (r : List Tok):
  Ev fun f => pBase f (itemT n ++ r) = some ([n], r) := by
 cases v with
 | sym t ht =>
  rw [itemT_sym];refine Ev.succ (Ev.of fun f => ?_)
  by_cases h1 : t.length = 1
  ·rw [if_pos h1, List.singleton_append, pBase, if_pos rfl]
  ·obtain ⟨n1, n2⟩ := symbol_names t ht h1
   obtain ⟨e1, e2, e3⟩ := name_ne t n1;rw [if_neg h1, List.singleton_append, pBase, if_neg (by first | decide | simp), if_neg (by first | decide | simp), if_neg (by first | decide | simp), if_neg (by first | decide | simp), if_pos rfl, if_neg e1, if_neg e2, if_neg e3, if_neg (by rw [n2]; decide), if_neg h1]
 | num t ht =>
  rw [itemT_num];exact Ev.succ (Ev.of fun f => by rw [List.singleton_append, pBase, if_neg (by first | decide | simp), if_pos rfl])
 | text t ht =>
  rw [itemT_text];exact Ev.succ (Ev.of fun f => by rw [List.singleton_append, pBase, if_neg (by first | decide | simp), if_neg (by first | decide | simp), if_pos rfl])
 | frac a b ha hb =>
  rw [itemT_frac];refine Ev.succ (((h.arg a ha (slot_small hc a (by simp)) (argT b ++ r)).and (h.arg b hb (slot_small hc b (by simp)) r)).mono fun f ⟨h1, h2⟩ => ?_);rw [List.cons_append, List.append_assoc, name, pBase, if_neg (by first | decide | simp), if_neg (by first | decide | simp), if_neg (by first | decide | simp), if_neg (by first | decide | simp), if_pos rfl, if_pos rfl, h1];simp [h2]
 | root a b ha hb =>
  rw [itemT_root];have hra := row_eq a ha.1 ha.2;have hB := h.arg b hb (slot_small hc b (by simp)) r
  by_cases h0 : a.kids = []
  ·rw [if_pos h0, List.nil_append]
   have hex : expect (mk7 91) (argT b ++ r) = none := by
    have : ∃ x l, argT b = x :: l ∧ x ≠ mk7 91 := by
     rw [argT_eq];split
     ·rename_i x hx
      split
      ·rename_i hl
       have hv := hb.views x (by rw [hx]; simp);unfold leaf at hl;cases hv with
       | sym t ht =>
        rw [itemT_sym];refine ⟨_, _, rfl, ?_⟩;split <;> (intro e; cases e)
       | num t ht => rw [itemT_num]; exact ⟨_, _, rfl, fun e => by cases e⟩
       | text t ht => rw [itemT_text]; exact ⟨_, _, rfl, fun e => by cases e⟩
       | _ => revert hl; simp [Nd.kind]
      ·exact ⟨_, _, rfl, by decide⟩
     ·exact ⟨_, _, rfl, by decide⟩
    obtain ⟨x, l, e, hx⟩ := this;rw [e]; exact expect_other _ _ _ hx
   refine Ev.succ (hB.mono fun f h1 => ?_);rw [List.cons_append, name, pBase, if_neg (by first | decide | simp), if_neg (by first | decide | simp), if_neg (by first | decide | simp), if_neg (by first | decide | simp), if_pos rfl, if_neg (by first | decide | simp), if_pos rfl, hex, h1];rw [hra, h0]; rfl
  ·rw [if_neg h0]
   have hA := h.braced a ha (slot_small hc a (by simp)) (argT b ++ r) 93 (by decide) (by decide) (by decide);refine Ev.succ ((hA.and hB).mono fun f ⟨h1, h2⟩ => ?_);have e : (name sRoot :: ((mk7 91 :: (rowT a.kids ++ [mk7 93])) ++ argT b)) ++ r = name sRoot :: mk7 91 :: ((rowT a.kids ++ [mk7 93]) ++ (argT b ++ r)) := by simp
   rw [e, name, pBase, if_neg (by first | decide | simp), if_neg (by first | decide | simp), if_neg (by first | decide | simp), if_neg (by first | decide | simp), if_pos rfl, if_neg (by first | decide | simp), if_pos rfl, expect_same];simp only [h1, Option.bind_some, expect_same, h2, Option.map_some];rw [← hra]
 | sub a b => cases hs
 | sup a b => cases hs
 | both a b d => cases hs
 | accent t a ht ha =>
  rw [itemT_accent];obtain ⟨e1, e2, e3⟩ := accent_names t ht;refine Ev.succ ((h.arg a ha (slot_small hc a (by simp)) r).mono fun f h1 => ?_);rw [List.cons_append, name, pBase, if_neg (by first | decide | simp), if_neg (by first | decide | simp), if_neg (by first | decide | simp), if_neg (by first | decide | simp), if_pos rfl, if_neg e1, if_neg e2, if_neg e3, if_pos ht, h1];rfl
 | fence t a ht ha =>
  have hra := row_eq a ha.1 ha.2;rw [itemT_fence]
  by_cases h0 : t = [40, 41] ∨ t = [91, 93]
  ·rw [if_pos h0]
   rcases h0 with rfl | rfl
   ·refine Ev.succ ((h.braced a ha (slot_small hc a (by simp)) r 41 (by decide) (by decide) (by decide)).mono fun f h1 => ?_)
    rw [List.cons_append, pBase, if_neg (by first | decide | simp), if_neg (by first | decide | simp), if_neg (by first | decide | simp), if_neg (by first | decide | simp), if_neg (by first | decide | simp), if_pos (by decide)];have h1' : pRow f (rowT a.kids ++ [mk7 (([40, 41] : Bytes).getLastD 0)] ++ r) = some (a.kids, mk7 41 :: r) := h1;rw [h1'];simp only [Option.bind_some, expect_same, Option.map_some];rw [← hra]
   ·refine Ev.succ ((h.braced a ha (slot_small hc a (by simp)) r 93 (by decide) (by decide) (by decide)).mono fun f h1 => ?_)
    rw [List.cons_append, pBase, if_neg (by first | decide | simp), if_neg (by first | decide | simp), if_neg (by first | decide | simp), if_neg (by first | decide | simp), if_neg (by first | decide | simp), if_neg (by first | decide | simp), if_pos (by decide)];have h1' : pRow f (rowT a.kids ++ [mk7 (([91, 93] : Bytes).getLastD 0)] ++ r) = some (a.kids, mk7 93 :: r) := h1;rw [h1'];simp only [Option.bind_some, expect_same, Option.map_some];rw [← hra]
  ·rw [if_neg h0]
   refine Ev.succ ((h.arg a ha (slot_small hc a (by simp)) r).mono fun f h1 => ?_);rw [List.cons_append, pBase, if_neg (by first | decide | simp), if_neg (by first | decide | simp), if_neg (by first | decide | simp), if_pos rfl, h1];rfl
 | matrix c ks hc1 hn hm hk =>
  rw [itemT_matrix c ks (by rintro rfl; simp at hn)]
  have hcells : Ev fun f => pCells f (cellsT c 0 ks ++ (mk7 125 :: r)) = some ((ks.zipIdx.map fun p => (p.1, decide (((p.2 : Int) + 1) % c = 0))), mk7 125 :: r) := by
   match ks, hn with
   | k :: l, _ =>
    have e : cellsT c 0 (k :: l) = rowT k.kids ++ cellsT c 1 l := by rw [cellsT, if_pos rfl, List.nil_append]
    rw [e, List.append_assoc];exact h.cells c r l k 0 (fun x hx => ⟨hk x hx, slot_small hc x hx⟩) (by simpa using hm)
  refine Ev.succ (hcells.mono fun f h1 => ?_);have e : (name sMatrix :: mk7 123 :: (cellsT c 0 ks ++ [mk7 125])) ++ r = name sMatrix :: mk7 123 :: (cellsT c 0 ks ++ (mk7 125 :: r)) := by simp
  rw [e, name, pBase, if_neg (by first | decide | simp), if_neg (by first | decide | simp), if_neg (by first | decide | simp), if_neg (by first | decide | simp), if_pos rfl, if_neg (by first | decide | simp), if_neg (by first | decide | simp), if_pos rfl, expect_same];simp only [Option.bind_some, h1, expect_same];obtain ⟨cn, rfl⟩ : ∃ cn : Nat, c = cn := ⟨c.toNat, by omega⟩
  have hle : cn ≤ ks.length := by
   rcases Nat.lt_or_ge ks.length cn with hlt | hge
   ·rw [Int.emod_eq_of_lt (by omega) (by omega)] at hm; omega
   ·exact hge
  have e1 := cols_of cn ks 0 (by omega) (by omega)
  rw [e1, if_pos (by
   have hz : ((cn : Int) - ((0 : Nat) : Int)) = (cn : Int) := by omega
   rw [hz];unfold ends;apply List.ext_getElem
   ·simp
   ·intro i h1 h2; simp)]
  have e2 : (List.map (fun x => x.fst) (List.map (fun p => (p.fst, decide (((p.2 : Int) + 1) % (cn : Int) = 0))) ks.zipIdx)) = ks := by
   rw [List.map_map];have : ((fun x : Nd × Bool => x.fst) ∘ fun p : Nd × Nat => (p.fst, decide (((p.2 : Int) + 1) % (cn : Int) = 0))) = Prod.fst := rfl;rw [this];simp
  rw [e2];simp
theorem item_noGroup (n : Nd) (v : View n) (hs : scripted n = false) (r : List Tok) : groupAt (itemT n ++ r) = false := by
 cases v with
 | sym t h => rw [itemT_sym]; by_cases hl : t.length = 1 <;> simp [hl, groupAt, mk7]
 | num t h => rw [itemT_num]; simp [groupAt, mk7]
 | text t h => rw [itemT_text]; simp [groupAt, mk7]
 | frac a b ha hb => rw [itemT_frac]; simp [groupAt, mk7, name]
 | root a b ha hb => rw [itemT_root]; simp [groupAt, mk7, name]
 | accent t a h ha => rw [itemT_accent]; simp [groupAt, mk7, name]
 | fence t a h ha =>
  rw [itemT_fence];split
  ·rename_i ht
   rcases ht with rfl | rfl <;> simp [groupAt, mk7]
  ·simp [groupAt, mk7]
 | matrix c ks hc hn hm h => rw [itemT_matrix c ks (by rintro rfl; simp at hn)]; simp [groupAt, mk7, name]
 | _ => cases hs
theorem PU.step {m : Nat} (h : PU m) : PU (m + 1) := by
 have hbase : ∀ n, count n ≤ m + 1 → View n → scripted n = false → ∀ r, Ev fun f => pBase f (itemT n ++ r) = some ([n], r) := fun n hc v hs r => h.base_step n hc v hs r
 refine ⟨fun n hc v r hr => ?_, hbase⟩
 by_cases hs : scripted n = false
 ·refine Ev.succ ((hbase n hc v hs r).mono fun f h1 => ?_)
  rw [pItem, h1];simp only [Option.bind_some];rw [hr.1, hr.2];simp only
  rw [if_neg (by rw [item_noGroup n v hs r]; decide)]
 ·cases v with
  | sub a b ha hb =>
   rw [itemT_sub];have e : (baseT a ++ mk7 95 :: argT b) ++ r = baseT a ++ (mk7 95 :: (argT b ++ r)) := by simp
   rw [e];refine Ev.succ (((h.baseR a ha (slot_small hc a (by simp)) (mk7 95 :: (argT b ++ r))).and (h.arg b hb (slot_small hc b (by simp)) r)).mono fun f ⟨h1, h2⟩ => ?_);rw [pItem, h1];simp only [Option.bind_some];rw [expect_same];simp only [h2, Option.bind_some];rw [hr.2, ← row_eq a ha.1 ha.2]
  | sup a b ha hb =>
   rw [itemT_sup];have e : (baseT a ++ mk7 94 :: argT b) ++ r = baseT a ++ (mk7 94 :: (argT b ++ r)) := by simp
   rw [e];refine Ev.succ (((h.baseR a ha (slot_small hc a (by simp)) (mk7 94 :: (argT b ++ r))).and (h.arg b hb (slot_small hc b (by simp)) r)).mono fun f ⟨h1, h2⟩ => ?_);rw [pItem, h1];simp only [Option.bind_some];rw [expect_other _ _ _ (by decide), expect_same];simp only [h2, Option.map_some];rw [← row_eq a ha.1 ha.2]
  | both a b d ha hb hd =>
   rw [itemT_both];have e : (baseT a ++ mk7 95 :: (argT b ++ mk7 94 :: argT d)) ++ r = baseT a ++ (mk7 95 :: (argT b ++ (mk7 94 :: (argT d ++ r)))) := by simp
   rw [e];refine Ev.succ (((h.baseR a ha (slot_small hc a (by simp)) (mk7 95 :: (argT b ++ (mk7 94 :: (argT d ++ r))))).and ((h.arg b hb (slot_small hc b (by simp)) (mk7 94 :: (argT d ++ r))).and (h.arg d hd (slot_small hc d (by simp)) r))).mono fun f ⟨h1, h2, h3⟩ => ?_);rw [pItem, h1];simp only [Option.bind_some];rw [expect_same];simp only [h2, Option.bind_some];rw [expect_same];simp only [h3, Option.map_some];rw [← row_eq a ha.1 ha.2]
  | _ => exact absurd rfl hs
theorem PU.all (m : Nat) : PU m := by
 induction m with
 | zero => exact ⟨fun n h => by have := count_pos n; omega, fun n h => by have := count_pos n; omega⟩
 | succ m ih => exact ih.step
end Go.Proofs.YtncnoeoicaglaaaGreat.Tr
namespace Go.Proofs.YtncnoeoicaglaaaGreat.Tr
open Lx (Tok TokOK)
theorem byte_all (p : UInt8 → Prop) [DecidablePred p] (h : ∀ n : Fin 256, p (UInt8.ofNat n.1)) (c : UInt8) : p c := by
 have := h ⟨c.toNat, c.toNat_lt⟩;simpa using this
theorem letter_isB (c : UInt8) : letter c = Lx.isB 3 c := byte_all (fun c => letter c = Lx.isB 3 c) (by decide +kernel) c
theorem digit_isB (c : UInt8) : digit c = Lx.isB 2 c := byte_all (fun c => digit c = Lx.isB 2 c) (by decide +kernel) c
theorem sign_isB (c : UInt8) : signs.contains c = Lx.isB 4 c := byte_all (fun c => signs.contains c = Lx.isB 4 c) (by decide +kernel) c
theorem delim_is (c : UInt8) : delims.contains c = Lx.isDelim c := byte_all (fun c => delims.contains c = Lx.isDelim c) (by decide +kernel) c
theorem all_letter (l : Bytes) : l.all letter = l.all (Lx.isB 3) := by
 congr 1; funext c; exact letter_isB c
theorem all_digit (l : Bytes) : l.all digit = l.all (Lx.isB 2) := by
 congr 1; funext c; exact digit_isB c
theorem tok_mark (b : UInt8) (h : Lx.isB 5 b = true) : TokOK (mk7 b) := .inr (.inr (.inr (.inr (.inr (.inr (.inl ⟨rfl, b, rfl, h⟩))))))
theorem tok_break : TokOK ⟨8, [92, 92]⟩ := .inr (.inr (.inr (.inr (.inr (.inr (.inr ⟨rfl, rfl⟩))))))
theorem tok_name (t : Bytes) (h1 : t.length ≤ 16) (h2 : t ≠ []) (h3 : t.all letter = true) (h4 : t ≠ [102, 101, 110, 99, 101]) : TokOK (name t) :=
 .inr (.inr (.inr (.inl ⟨rfl, h1, h2, by rw [← all_letter]; exact h3, h4⟩)))
theorem tok_sym (t : Bytes) (h : symbol t = true) : TokOK (if t.length = 1 then ⟨1, t⟩ else ⟨4, t⟩) := by
 unfold symbol at h
 match t, h with
 | [c], h =>
  rw [if_pos (show ([c] : Bytes).length = 1 from rfl)];refine .inl ⟨rfl, c, rfl, ?_⟩;have h' : (letter c || signs.contains c) = true := h;rw [letter_isB, sign_isB, Bool.or_eq_true] at h';exact h'
 | [], h => exact absurd (show symbol [] = true from h) (by decide)
 | a :: b :: l, h =>
  rw [if_neg (by simp)];simp only [Bool.and_eq_true, Bool.not_eq_true', decide_eq_true_eq] at h;obtain ⟨⟨⟨⟨h1, h2⟩, h3⟩, h4⟩, h5⟩ := h;exact tok_name _ h3 (by simp) h1 (by intro e; rw [e] at h4; revert h4; decide)
theorem tok_num (t : Bytes) (h : isNum t = true) : TokOK ⟨2, t⟩ := by
 unfold isNum at h;rw [Bool.and_eq_true, Bool.and_eq_true, decide_eq_true_iff, decide_eq_true_iff, Bool.or_eq_true] at h;obtain ⟨⟨h1, h2⟩, h3⟩ := h;refine .inr (.inl ⟨rfl, h1, ?_⟩)
 rcases h3 with h3 | h3
 ·exact ⟨t, h2, by rw [← all_digit]; exact h3, .inl rfl⟩
 ·split at h3
  ·rename_i x b hd
   simp only [Bool.and_eq_true, decide_eq_true_eq] at h3;obtain ⟨⟨⟨h4, h5⟩, h6⟩, h7⟩ := h3;refine ⟨t.takeWhile (· ≠ 46), h4, by rw [← all_digit]; exact h5, .inr ⟨b, h6, by rw [← all_digit]; exact h7, ?_⟩⟩
   have hx : x = 46 := by
    have := List.head?_dropWhile_not (fun b : UInt8 => decide (b ≠ 46)) t;rw [hd] at this;simpa using this
   have := List.takeWhile_append_dropWhile (p := fun b : UInt8 => decide (b ≠ 46)) (l := t);rw [hd, hx] at this;exact this.symm
  ·cases h3
theorem tok_text (t : Bytes) (h : (decide (t.length ≤ 200) && printable t) = true) : TokOK ⟨3, t⟩ := by
 rw [Bool.and_eq_true, decide_eq_true_iff] at h;refine .inr (.inr (.inl ⟨rfl, h.1, ?_⟩));have h2 := h.2;unfold printable at h2;rw [List.all_eq_true] at h2 ⊢;intro b hb;have := h2 b hb;simpa using this
theorem tok_fence (t : Bytes) (h : fence t = true) : TokOK ⟨5, t⟩ := by
 unfold fence at h;split at h
 ·rename_i a b
  rw [Bool.and_eq_true, delim_is, delim_is] at h;exact .inr (.inr (.inr (.inr (.inl ⟨rfl, a, b, rfl, h.1, h.2⟩))))
 ·cases h
theorem tok_accent (t : Bytes) (h : accents.contains t = true) : TokOK (name t) := by
 have : t ∈ accents := by simpa using h
 simp only [accents, List.mem_cons, List.not_mem_nil, or_false] at this
 rcases this with rfl | rfl | rfl | rfl | rfl | rfl <;> exact tok_name _ (by decide) (by decide) (by decide) (by decide)
def AllOK (l : List Tok) : Prop := ∀ t ∈ l, TokOK t
theorem AllOK.app {l m : List Tok} (h : AllOK l) (k : AllOK m) : AllOK (l ++ m) := fun t ht => (List.mem_append.1 ht).elim (h t) (k t)
theorem AllOK.cons {x : Tok} {m : List Tok} (h : TokOK x) (k : AllOK m) : AllOK (x :: m) := fun t ht => (List.mem_cons.1 ht).elim (fun e => e ▸ h) (k t)
theorem AllOK.nil : AllOK [] := fun t ht => by cases ht
theorem rows_ok (ks : List Nd) (h : ∀ x ∈ ks, AllOK (itemT x)) : AllOK (rowT ks) := by
 induction ks with
 | nil => rw [rowT_nil]; exact .nil
 | cons x ks ih => rw [rowT_cons]; exact (h x (by simp)).app (ih fun y hy => h y (by simp [hy]))
theorem braces_ok (ks : List Nd) (h : ∀ x ∈ ks, AllOK (itemT x)) (a b : UInt8) (ha : Lx.isB 5 a = true) (hb : Lx.isB 5 b = true) : AllOK (mk7 a :: (rowT ks ++ [mk7 b])) :=
 .cons (tok_mark a ha) ((rows_ok ks h).app (.cons (tok_mark b hb) .nil))
theorem args_ok (a : Nd) (h : ∀ x ∈ a.kids, AllOK (itemT x)) : AllOK (argT a) := by
 rw [argT_eq];split
 ·rename_i x hx
  rw [hx] at h;split
  ·exact h x (by simp)
  ·exact braces_ok _ h _ _ rfl rfl
 ·exact braces_ok _ h _ _ rfl rfl
theorem base_ok (a : Nd) (h : ∀ x ∈ a.kids, AllOK (itemT x)) : AllOK (baseT a) := by
 rw [baseT_eq];split
 ·rename_i x hx
  rw [hx] at h;split
  ·exact braces_ok _ h _ _ rfl rfl
  ·exact h x (by simp)
 ·exact braces_ok _ h _ _ rfl rfl
theorem cells_ok (c : Int) (ks : List Nd) : ∀ i, (∀ k ∈ ks, ∀ x ∈ k.kids, AllOK (itemT x)) → AllOK (cellsT c i ks) := by
 induction ks with
 | nil => intro i _; rw [cellsT]; exact .nil
 | cons k ks ih =>
  intro i h;rw [cellsT];refine .app ?_ ((rows_ok _ (h k (by simp))).app (ih _ fun y hy => h y (by simp [hy])));split
  ·exact .nil
  ·split
   ·exact .cons tok_break .nil
   ·exact .cons (tok_mark _ rfl) .nil
theorem item_ok (m : Nat) : ∀ n, count n ≤ m → View n → AllOK (itemT n) := by
 induction m with
 | zero => intro n h; have := count_pos n; omega
 | succ m ih =>
  intro n hc v
  have hk : ∀ (k : Int) (t : Bytes) (c : Int) (ks : List Nd), n = .mk k t c ks → ∀ a ∈ ks, IsRow a → ∀ x ∈ a.kids, AllOK (itemT x) := fun k t c ks e a ha hr x hx => by
   have h1 := count_mem hx;have h2 := count_kids a;have h3 := count_mem ha;rw [e, count] at hc;exact ih x (by omega) (hr.views x hx)
  cases v with
  | sym t h => rw [itemT_sym]; exact .cons (tok_sym t h) .nil
  | num t h => rw [itemT_num]; exact .cons (tok_num t h) .nil
  | text t h => rw [itemT_text]; exact .cons (tok_text t h) .nil
  | frac a b ha hb =>
   rw [itemT_frac];exact .cons (tok_name _ (by decide) (by decide) (by decide) (by decide)) ((args_ok a (hk _ _ _ _ rfl a (by simp) ha)).app (args_ok b (hk _ _ _ _ rfl b (by simp) hb)))
  | root a b ha hb =>
   rw [itemT_root];refine .cons (tok_name _ (by decide) (by decide) (by decide) (by decide)) (.app ?_ (args_ok b (hk _ _ _ _ rfl b (by simp) hb)));split
   ·exact .nil
   ·exact braces_ok _ (hk _ _ _ _ rfl a (by simp) ha) _ _ rfl rfl
  | sub a b ha hb =>
   rw [itemT_sub];exact (base_ok a (hk _ _ _ _ rfl a (by simp) ha)).app (.cons (tok_mark _ rfl) (args_ok b (hk _ _ _ _ rfl b (by simp) hb)))
  | sup a b ha hb =>
   rw [itemT_sup];exact (base_ok a (hk _ _ _ _ rfl a (by simp) ha)).app (.cons (tok_mark _ rfl) (args_ok b (hk _ _ _ _ rfl b (by simp) hb)))
  | both a b d ha hb hd =>
   rw [itemT_both];exact (base_ok a (hk _ _ _ _ rfl a (by simp) ha)).app (.cons (tok_mark _ rfl) ((args_ok b (hk _ _ _ _ rfl b (by simp) hb)).app (.cons (tok_mark _ rfl) (args_ok d (hk _ _ _ _ rfl d (by simp) hd)))))
  | accent t a h ha =>
   rw [itemT_accent];exact .cons (tok_accent t h) (args_ok a (hk _ _ _ _ rfl a (by simp) ha))
  | fence t a h ha =>
   rw [itemT_fence];split
   ·rename_i ht
    rcases ht with rfl | rfl <;> exact braces_ok _ (hk _ _ _ _ rfl a (by simp) ha) _ _ rfl rfl
   ·exact .cons (tok_fence t h) (args_ok a (hk _ _ _ _ rfl a (by simp) ha))
  | matrix c ks hc1 hn hm h =>
   rw [itemT_matrix c ks (by rintro rfl; simp at hn)];exact .cons (tok_name _ (by decide) (by decide) (by decide) (by decide)) (.cons (tok_mark _ rfl) ((cells_ok c ks 0 fun k hk' => hk _ _ _ _ rfl k hk' (h k hk')).app (.cons (tok_mark _ rfl) .nil)))
theorem row_ok (a : Nd) (ha : IsRow a) : AllOK (rowT a.kids) := rows_ok _ fun x hx => item_ok _ x (Nat.le_refl _) (ha.views x hx)
def sepd : Option Tok → List Tok → List (Bytes × Tok)
 | _, [] => []
 | o, t :: ts => ((match o with | some a => if Lx.join a t then [32] else [] | none => []), t) :: sepd (some t) ts
def wtext (l : List Tok) : Bytes := Lx.flat (sepd none l)
theorem sepd_spaced : ∀ (l : List Tok) (o : Option Tok), AllOK l → Lx.spaced o (sepd o l)
 | [], _, _ => trivial
 | t :: ts, o, h => by
  refine ⟨?_, h t (by simp), ?_, sepd_spaced ts (some t) fun x hx => h x (by simp [hx])⟩
  ·cases o with
   | none => rfl
   | some a => simp only; split <;> rfl
  ·intro e a ha
   subst ha;simp only at e;cases hj : Lx.join a t with
   | false => rfl
   | true => rw [hj] at e; simp at e
theorem sepd_toks : ∀ (l : List Tok) (o : Option Tok), (sepd o l).map (·.2) = l
 | [], _ => rfl
 | t :: ts, o => by simp only [sepd, List.map_cons, sepd_toks ts]
theorem wtext_lex (l : List Tok) (h : AllOK l) : Lx.lexAll (wtext l) = (Lx.placed 0 (sepd none l), none) := Lx.lexAll_flat _ (sepd_spaced l none h)
theorem valid_row (a : Nd) (h : valid a = true) : IsRow a := by
 unfold valid at h;simp only [Bool.and_eq_true, beq_iff_eq, decide_eq_true_eq] at h;exact ⟨h.1.1.1, h.1.1.2⟩
end Go.Proofs.YtncnoeoicaglaaaGreat.Tr
namespace Go.Proofs.YtncnoeoicaglaaaGreat.Tr
open Lx (Tok PTok Bytes spell flat placed)
def SegsT : List (Nat × Bool × Nd) → List Tok → Prop
 | [], _ => True
 | (k, b, a) :: r, M => ∃ pre post M', M = pre ++ (rowT a.kids ++ (post ++ M')) ∧ pre.length = k + b.toNat ∧ post.length = b.toNat ∧ SegsT r M'
theorem argT_split (a : Nd) : ∃ pre post, argT a = pre ++ (rowT a.kids ++ post) ∧ pre.length = (grp a).toNat ∧ post.length = (grp a).toNat := by
 rw [argT_eq];unfold grp;generalize a.kids = ks
 match ks with
 | [] => exact ⟨[mk7 123], [mk7 125], rfl, rfl, rfl⟩
 | [x] =>
  cases hl : leaf x with
  | true => exact ⟨[], [], by simp [hl, rowT_cons, rowT_nil], by simp [hl], by simp [hl]⟩
  | false => exact ⟨[mk7 123], [mk7 125], by simp [hl], by simp [hl], by simp [hl]⟩
 | x :: y :: l => exact ⟨[mk7 123], [mk7 125], rfl, rfl, rfl⟩
theorem baseT_split (a : Nd) : ∃ pre post, baseT a = pre ++ (rowT a.kids ++ post) ∧ pre.length = (bgrp a).toNat ∧ post.length = (bgrp a).toNat := by
 rw [baseT_eq];unfold bgrp;generalize a.kids = ks
 match ks with
 | [] => exact ⟨[mk7 123], [mk7 125], rfl, rfl, rfl⟩
 | [x] =>
  cases hl : scripted x with
  | false => exact ⟨[], [], by simp [hl, rowT_cons, rowT_nil], by simp [hl], by simp [hl]⟩
  | true => exact ⟨[mk7 123], [mk7 125], by simp [hl], by simp [hl], by simp [hl]⟩
 | x :: y :: l => exact ⟨[mk7 123], [mk7 125], rfl, rfl, rfl⟩
theorem SegsT.slot {k : Nat} {b : Bool} {a : Nd} {r : List (Nat × Bool × Nd)} {x M pre post M' : List Tok} (h : M = pre ++ (rowT a.kids ++ post)) (h1 : pre.length = b.toNat) (h2 : post.length = b.toNat) (hx : x.length = k) (hr : SegsT r M') : SegsT ((k, b, a) :: r) (x ++ (M ++ M')) :=
 ⟨x ++ pre, post, M', by rw [h]; simp, by rw [List.length_append, hx, h1], h2, hr⟩
theorem SegsT.arg (k : Nat) (a : Nd) {r : List (Nat × Bool × Nd)} (x : List Tok) {M' : List Tok} (hx : x.length = k) (hr : SegsT r M') : SegsT ((k, grp a, a) :: r) (x ++ (argT a ++ M')) := by
 obtain ⟨pre, post, h, h1, h2⟩ := argT_split a;exact SegsT.slot h h1 h2 hx hr
theorem SegsT.base (a : Nd) {r : List (Nat × Bool × Nd)} {M' : List Tok} (hr : SegsT r M') : SegsT ((0, bgrp a, a) :: r) (baseT a ++ M') := by
 obtain ⟨pre, post, h, h1, h2⟩ := baseT_split a;exact SegsT.slot (x := []) h h1 h2 rfl hr
theorem cellsT_segs (c : Int) (e : List Tok) : ∀ (i : Nat) (l : List Nd), SegsT (l.map fun b => (1, false, b)) (cellsT c (i + 1) l ++ e)
 | _, [] => trivial
 | i, n :: ns => by
  rw [cellsT, if_neg (by omega)];simp only [List.map_cons, List.append_assoc];refine ⟨_, [], cellsT c (i + 1 + 1) ns ++ e, rfl, ?_, rfl, cellsT_segs c e (i + 1) ns⟩;split <;> rfl
theorem segsT (n : Nd) (v : View n) : SegsT (segs n) (itemT n) := by
 cases v with
 | sym t ht => trivial
 | num t ht => trivial
 | text t ht => trivial
 | frac a b ha hb =>
  rw [itemT_frac];have h := SegsT.arg 1 a [name sFrac] rfl (SegsT.arg 0 b [] rfl (r := []) (M' := []) trivial);simpa [segs, round] using h
 | root a b ha hb =>
  rw [itemT_root];have h2 := SegsT.arg 0 b [] rfl (r := []) (M' := []) trivial;simp only [List.nil_append, List.append_nil] at h2;cases hk : a.kids with
  | nil =>
   rw [if_pos rfl];have h : SegsT ((1, false, a) :: [(0, grp b, b)]) ([name sRoot] ++ ([] ++ argT b)) := SegsT.slot (pre := []) (post := []) (by rw [hk, rowT_nil]; rfl) rfl rfl rfl h2;simpa [segs, round, hk] using h
  | cons x l =>
   rw [if_neg (by simp)];have h : SegsT ((1, true, a) :: [(0, grp b, b)]) ([name sRoot] ++ ((mk7 91 :: (rowT a.kids ++ [mk7 93])) ++ argT b)) := SegsT.slot (pre := [mk7 91]) (post := [mk7 93]) rfl rfl rfl rfl h2;rw [← hk];simpa [segs, round, hk] using h
 | sub a b ha hb =>
  rw [itemT_sub];have h := SegsT.base a (SegsT.arg 1 b [mk7 95] rfl (r := []) (M' := []) trivial);simpa [segs] using h
 | sup a b ha hb =>
  rw [itemT_sup];have h := SegsT.base a (SegsT.arg 1 b [mk7 94] rfl (r := []) (M' := []) trivial);simpa [segs] using h
 | both a b d ha hb hd =>
  rw [itemT_both];have h := SegsT.base a (SegsT.arg 1 b [mk7 95] rfl (SegsT.arg 1 d [mk7 94] rfl (r := []) (M' := []) trivial));simpa [segs] using h
 | accent t a ht ha =>
  rw [itemT_accent];have h := SegsT.arg 1 a [name t] rfl (r := []) (M' := []) trivial;simpa [segs, round] using h
 | fence t a ht ha =>
  rw [itemT_fence]
  by_cases h : t = [40, 41] ∨ t = [91, 93]
  ·rw [if_pos h]
   have hr : round 11 t = true := by unfold round; simp [h]
   have h2 : SegsT ((0, true, a) :: []) ([] ++ ((mk7 (t.headD 0) :: (rowT a.kids ++ [mk7 (t.getLastD 0)])) ++ [])) := SegsT.slot (pre := [mk7 (t.headD 0)]) (post := [mk7 (t.getLastD 0)]) rfl rfl rfl rfl trivial;rw [List.nil_append, List.append_nil] at h2;simpa [segs, hr] using h2
  ·rw [if_neg h]
   have hr : round 11 t = false := by
    unfold round;simp only [not_or] at h;simp [h.1, h.2]
   have h2 := SegsT.arg 1 a [⟨5, t⟩] rfl (r := []) (M' := []) trivial;rw [List.append_nil] at h2;simpa [segs, hr] using h2
 | matrix c ks hc hn hm h =>
  match ks, hn with
  | a :: l, _ =>
   rw [itemT_matrix c (a :: l) (by simp), cellsT]
   have h2 : SegsT ((2, false, a) :: l.map fun b => (1, false, b)) ([name sMatrix, mk7 123] ++ (rowT a.kids ++ (cellsT c 1 l ++ [mk7 125]))) :=
    SegsT.slot (pre := []) (post := []) (by simp) rfl rfl rfl (cellsT_segs c [mk7 125] 0 l)
   simpa [segs] using h2
def itemAt : List Nd → Path → Option Nd
 | _, [] => none
 | ks, [i] => ks[i]?
 | ks, i :: j :: q =>
  match ks[i]? with
  | none => none
  | some n => match n.kids[j]? with
   | none => none
   | some a => itemAt a.kids q
def Stands (L : List Tok) (T : List PTok) (x : Path × Nat × Nat) (y : Nd) : Prop :=
 (y.kind ≠ 1 ∧ form y = true) ∧ ∃ P Q, L = P ++ (itemT y ++ Q) ∧ x.2.1 = fromAt T P.length ∧ x.2.2 = endAt T (P.length + (itemT y).length)
theorem SegsT.more : ∀ (l : List (Nat × Bool × Nd)) (M N : List Tok), SegsT l M → SegsT l (M ++ N)
 | [], _, _, _ => trivial
 | (_, _, _) :: r, M, N, ⟨pre, post, M', h, h1, h2, h3⟩ => ⟨pre, post, M' ++ N, by rw [h]; simp, h1, h2, SegsT.more r M' N h3⟩
theorem sp_items (L : List Tok) (T : List PTok) :
  (∀ ks, (∀ x ∈ ks, x.kind ≠ 1 ∧ form x = true) → ∀ p i (P Q : List Tok), L = P ++ (rowT ks ++ Q) → ∀ x ∈ spRow T ks p i P.length, ∃ j q y, x.1 = p ++ (i + j) :: q ∧ itemAt ks (j :: q) = some y ∧ Stands L T x y ∧ count y ≤ countL ks ∧ depth y ≤ depthL ks) ∧
  ∀ l : List (Nat × Bool × Nd), (∀ x ∈ l, IsRow x.2.2) → ∀ p j (P M : List Tok), L = P ++ M → SegsT l M → ∀ x ∈ spSegs T l p j P.length, ∃ m a q y, x.1 = p ++ (j + m) :: q ∧ (rowsOf l)[m]? = some a ∧ itemAt a.kids q = some y ∧ Stands L T x y ∧ count y + 1 ≤ countL (rowsOf l) ∧ depth y + 1 ≤ depthL (rowsOf l) := by
 refine rows_ind (P := fun ks => (∀ x ∈ ks, x.kind ≠ 1 ∧ form x = true) → ∀ p i (P Q : List Tok), L = P ++ (rowT ks ++ Q) → ∀ x ∈ spRow T ks p i P.length, ∃ j q y, x.1 = p ++ (i + j) :: q ∧ itemAt ks (j :: q) = some y ∧ Stands L T x y ∧ count y ≤ countL ks ∧ depth y ≤ depthL ks)
  (Q := fun l => (∀ x ∈ l, IsRow x.2.2) → ∀ p j (P M : List Tok), L = P ++ M → SegsT l M → ∀ x ∈ spSegs T l p j P.length, ∃ m a q y, x.1 = p ++ (j + m) :: q ∧ (rowsOf l)[m]? = some a ∧ itemAt a.kids q = some y ∧ Stands L T x y ∧ count y + 1 ≤ countL (rowsOf l) ∧ depth y + 1 ≤ depthL (rowsOf l)) ?_ ?_ ?_ ?_
 ·intro _ p i P Q hL x hx; rw [spRow] at hx; cases hx
 ·intro n ns h1 h2 hv p i P Q hL x hx
  have vn := view_of n (hv n (by simp)).2 (hv n (by simp)).1;have hc := count_kids n;have hd := depth_kids n;rw [rowT_cons] at hL;rw [countL, depthL];rw [spRow] at hx
  rcases List.mem_cons.1 hx with rfl | hx
  ·exact ⟨0, [], n, rfl, rfl, ⟨hv n (by simp), P, rowT ns ++ Q, by rw [hL]; simp, rfl, rfl⟩, by omega, by omega⟩
  ·rcases List.mem_append.1 hx with hx | hx
   ·have hs : SegsT (segs n) (itemT n ++ (rowT ns ++ Q)) := SegsT.more _ _ _ (segsT n vn)
    obtain ⟨m, a, q, y, e1, e2, e3, e4, e5, e6⟩ := h1 vn.segRows (p ++ [i]) 0 P _ (by rw [hL]; simp) hs x hx;rw [segs_rows] at e2 e5 e6;refine ⟨0, m :: q, y, by rw [e1]; simp, ?_, e4, by omega, by omega⟩;simp only [itemAt, List.getElem?_cons_zero, e2];exact e3
   ·have hl : P.length + (itemT n).length = (P ++ itemT n).length := by simp
    rw [hl] at hx;obtain ⟨j, q, y, e1, e2, e3, e4, e5⟩ := h2 (fun y hy => hv y (by simp [hy])) p (i + 1) (P ++ itemT n) Q (by rw [hL]; simp) x hx;refine ⟨j + 1, q, y, by rw [e1]; congr 2; omega, ?_, e3, by omega, by omega⟩;cases q with
    | nil => exact e2
    | cons m q => exact e2
 ·intro _ p j P M hL _ x hx; rw [spSegs] at hx; cases hx
 ·intro k b a r h1 h2 hok p j P M hL hs x hx
  obtain ⟨pre, post, M', hM, hp, hq, hs'⟩ := hs;have hr : IsRow a := hok (k, b, a) (by simp);have hc := count_kids a;have hd := depth_kids a;have er : rowsOf ((k, b, a) :: r) = a :: rowsOf r := rfl;rw [er, countL, depthL];rw [spSegs] at hx
  rcases List.mem_append.1 hx with hx | hx
  ·have hl : P.length + k + b.toNat = (P ++ pre).length := by simp [hp]; omega
   rw [hl] at hx;obtain ⟨i, q, y, e1, e2, e3, e4, e5⟩ := h1 hr.items (p ++ [j]) 0 (P ++ pre) (post ++ M') (by rw [hL, hM]; simp) x hx;exact ⟨0, a, (i :: q), y, by rw [e1]; simp, rfl, e2, e3, by omega, by omega⟩
  ·have hl : P.length + segLen (k, b, a) = (P ++ (pre ++ (rowT a.kids ++ post))).length := by simp [hp, hq, segLen_eq]; omega
   rw [hl] at hx;obtain ⟨m, a', q, y, e1, e2, e3, e4, e5, e6⟩ := h2 (fun y hy => hok y (by simp [hy])) p (j + 1) (P ++ (pre ++ (rowT a.kids ++ post))) M' (by rw [hL, hM]; simp) hs' x hx;exact ⟨m + 1, a', q, y, by rw [e1]; congr 2; omega, by simpa using e2, e3, e4, by omega, by omega⟩
theorem flat_cat : ∀ (l m : List (Bytes × Tok)), flat (l ++ m) = flat l ++ flat m
 | [], m => rfl
 | (s, t) :: l, m => by simp only [List.cons_append, flat, flat_cat l m, List.append_assoc]
theorem sepd_app : ∀ (l m : List Tok) (o : Option Tok), ∃ o', sepd o (l ++ m) = sepd o l ++ sepd o' m
 | [], m, o => ⟨o, rfl⟩
 | t :: l, m, o => by
  obtain ⟨o', h⟩ := sepd_app l m (some t);exact ⟨o', by simp only [List.cons_append, sepd, h]⟩
theorem placed_get : ∀ (W V : List (Bytes × Tok)) (s : Bytes) (t : Tok) (a : Nat), (placed a (W ++ (s, t) :: V))[W.length]? = some ⟨t.kind, t.text, a + (flat W).length + s.length, a + (flat W).length + s.length + (spell t).length⟩
 | [], V, s, t, a => by simp [placed, flat]
 | (s', t') :: W, V, s, t, a => by
  simp only [List.cons_append, placed, List.length_cons, List.getElem?_cons_succ];rw [placed_get W V s t];simp only [flat, List.length_append, Option.some.injEq, PTok.mk.injEq, true_and];omega
theorem placed_end (W V : List (Bytes × Tok)) (h : W ≠ []) (a : Nat) : (placed a (W ++ V))[W.length - 1]?.map (·.to_) = some (a + (flat W).length) := by
 obtain ⟨U, x, rfl⟩ : ∃ U x, W = U ++ [x] := ⟨W.dropLast, W.getLast h, (List.dropLast_concat_getLast h).symm⟩;obtain ⟨s, t⟩ := x;have e : (U ++ [(s, t)] ++ V) = U ++ (s, t) :: V := by simp
 have e2 : (U ++ [(s, t)]).length - 1 = U.length := by simp
 rw [e, e2, placed_get U V s t a, flat_cat];simp [flat]
 omega
theorem span_text (P M Q : List Tok) (hM : M ≠ []) : ∃ f t, fromAt (placed 0 (sepd none (P ++ (M ++ Q)))) P.length = f ∧ endAt (placed 0 (sepd none (P ++ (M ++ Q)))) (P.length + M.length) = t ∧ f ≤ t ∧ t ≤ (wtext (P ++ (M ++ Q))).length ∧ ((wtext (P ++ (M ++ Q))).take t).drop f = wtext M := by
 obtain ⟨x, M', rfl⟩ := List.exists_cons_of_ne_nil hM;obtain ⟨o, h1⟩ := sepd_app P ((x :: M') ++ Q) none;obtain ⟨o', h2⟩ := sepd_app (x :: M') Q o
 have hlen : ∀ (l : List Tok) (o : Option Tok), (sepd o l).length = l.length := fun l o => by
  have := congrArg List.length (sepd_toks l o);simpa using this
 have hx : ∃ g, sepd o (x :: M') = (g, x) :: sepd (some x) M' := ⟨_, rfl⟩;have h0 : sepd none (x :: M') = ([], x) :: sepd (some x) M' := rfl;obtain ⟨g, hx⟩ := hx;have hP := hlen P none;have hXM := hlen (x :: M') o;unfold wtext fromAt endAt;rw [h1, h2, h0, hx];rw [hx] at hXM;generalize sepd none P = p at hP;generalize sepd (some x) M' = m at hXM;generalize sepd o' Q = q;have e1 := placed_get p (m ++ q) g x 0;have e2 := placed_end (p ++ (g, x) :: m) q (by simp) 0
 have l2 : (p ++ (g, x) :: m).length - 1 = P.length + (x :: M').length - 1 := by
  rw [List.length_append, hP, hXM]
 rw [l2, List.append_assoc] at e2;rw [hP] at e1;rw [List.cons_append] at e2 ⊢;rw [e1, if_neg (by simp), e2];refine ⟨_, _, rfl, rfl, ?_, ?_, ?_⟩
 ·simp only [Option.map_some, Option.getD_some, flat_cat, flat, List.length_append]; omega
 ·simp only [Option.getD_some, flat_cat, flat, List.length_append]; omega
 ·have e : flat (p ++ (g, x) :: (m ++ q)) = (flat p ++ g) ++ ((spell x ++ flat m) ++ flat q) := by simp [flat_cat, flat]
  have a1 : 0 + (flat (p ++ (g, x) :: m)).length = (flat p ++ g).length + (spell x ++ flat m).length := by simp [flat_cat, flat]; omega
  have a2 : 0 + (flat p).length + g.length = (flat p ++ g).length := by simp
  simp only [Option.map_some, Option.getD_some];rw [e, a1, a2, List.take_length_add_append, List.drop_left, List.take_left];simp [flat]
mutual
def itemsN : Nd → Nat
 | .mk k _ _ ks => (if k = 1 then ks.length else 0) + itemsL ks
def itemsL : List Nd → Nat
 | [] => 0
 | n :: ns => itemsN n + itemsL ns
end
theorem itemsN_row {a : Nd} (h : a.kind = 1) : itemsN a = a.kids.length + itemsL a.kids := by
 obtain ⟨k, t, c, ks⟩ := a;rw [itemsN, if_pos (show k = 1 from h)]; rfl
theorem itemsN_item {a : Nd} (h : a.kind ≠ 1) : itemsN a = itemsL a.kids := by
 obtain ⟨k, t, c, ks⟩ := a;rw [itemsN, if_neg (show ¬ k = 1 from h), Nat.zero_add]; rfl
theorem sp_length (T : List PTok) : (∀ ks, (∀ x ∈ ks, x.kind ≠ 1 ∧ form x = true) → ∀ p i f, (spRow T ks p i f).length = ks.length + itemsL ks) ∧
  ∀ l : List (Nat × Bool × Nd), (∀ x ∈ l, IsRow x.2.2) → ∀ p j f, (spSegs T l p j f).length = itemsL (rowsOf l) := by
 refine rows_ind (P := fun ks => (∀ x ∈ ks, x.kind ≠ 1 ∧ form x = true) → ∀ p i f, (spRow T ks p i f).length = ks.length + itemsL ks) (Q := fun l => (∀ x ∈ l, IsRow x.2.2) → ∀ p j f, (spSegs T l p j f).length = itemsL (rowsOf l)) ?_ ?_ ?_ ?_
 ·intro _ p i f; rw [spRow]; rfl
 ·intro n ns h1 h2 hv p i f
  have vn := view_of n (hv n (by simp)).2 (hv n (by simp)).1;rw [spRow, List.length_cons, List.length_append, h1 vn.segRows, h2 (fun y hy => hv y (by simp [hy])), segs_rows, itemsL, itemsN_item (hv n (by simp)).1, List.length_cons];omega
 ·intro _ p j f; rw [spSegs]; rfl
 ·intro k b a r h1 h2 hok p j f
  have hr : IsRow a := hok (k, b, a) (by simp);have er : rowsOf ((k, b, a) :: r) = a :: rowsOf r := rfl;rw [spSegs, List.length_append, h1 hr.items, h2 (fun y hy => hok y (by simp [hy])), er, itemsL, itemsN_row hr.1]
theorem slot_isRow {y : Nd} (h : y.kind ≠ 1 ∧ form y = true) : IsRow (.mk 1 [] 0 [y]) := by
 refine ⟨rfl, ?_⟩;rw [form, formL, formL, h.2];have : (y.kind == 1) = false := by rw [beq_eq_false_iff_ne]; exact h.1
 rw [this];rfl
end Go.Proofs.YtncnoeoicaglaaaGreat.Tr
