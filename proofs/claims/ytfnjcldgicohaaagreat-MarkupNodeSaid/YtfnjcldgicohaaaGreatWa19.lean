/- Part 19 of 33 of a proof; its texts, joined: MnS, MoC, MoD. No condition. -/
import Derived.Test.YtfnjcldgicohaaaGreatWa18
import Derived.Test.YtfnjcldgicohaaaGreatWa8
import Derived.Test.YtfnjcldgicohaaaGreatWa13
set_option maxRecDepth 100000
set_option maxHeartbeats 2000000
namespace Go.Proofs.YtfnjcldgicohaaaGreat.El
open Tr (Nd)
theorem formL_in (r : Bool) : ∀ (l : List Nd), Tr.formL r l = true → ∀ x ∈ l, ((x.kind == 1) != r) = true ∧ Tr.form x = true
 | [], _, x, hx => by cases hx
 | y :: l, h, x, hx => by
  rw [Tr.formL, Bool.and_eq_true, Bool.and_eq_true] at h
  rcases List.mem_cons.1 hx with rfl | hx
  ·exact h.1
  ·exact formL_in r l h.2 x hx
theorem slot_items (x : Nd) (hf : Tr.form x = true) (hk : (x.kind == 1) = false) : ∀ r ∈ x.kids, r.kind = 1 ∧ Tr.form r = true ∧ ∀ y ∈ r.kids, (y.kind == 1) = false ∧ Tr.form y = true ∧ Tr.count y < Tr.count r ∧ Tr.count r < Tr.count x := by
 intro r hr;rw [Tr.form_eq, Bool.and_eq_true, hk] at hf;obtain ⟨h1, h2⟩ := formL_in _ _ hf.2 r hr;have h1' : r.kind = 1 := by simpa using h1
 refine ⟨h1', h2, fun y hy => ?_⟩;rw [Tr.form_eq, Bool.and_eq_true, h1'] at h2;obtain ⟨h3, h4⟩ := formL_in _ _ h2.2 y hy;have := Tr.count_mem hy;have := Tr.count_kids r;have := Tr.count_mem hr;have := Tr.count_kids x;exact ⟨by simpa using h3, h4, by omega, by omega⟩
theorem kinds_of (k c : Int) (n : Nat) (h : Tr.kidsOK k c n = true) (h1 : (k == 1) = false) :
  (k = 2 ∧ n = 0) ∨ (k = 3 ∧ n = 0) ∨ (k = 4 ∧ n = 0) ∨ (k = 5 ∧ n = 2) ∨ (k = 6 ∧ n = 2) ∨ (k = 7 ∧ n = 2) ∨ (k = 8 ∧ n = 2) ∨ (k = 9 ∧ n = 3) ∨ (k = 10 ∧ n = 1) ∨ (k = 11 ∧ n = 1) ∨ (k = 12 ∧ 1 ≤ c ∧ c ≤ 16 ∧ 1 ≤ n ∧ n ≤ 256 ∧ (n : Int) % c = 0) := by
 have h1' : k ≠ 1 := by simpa using h1
 unfold Tr.kidsOK at h
 by_cases h12 : k = 12
 ·rw [if_pos h12] at h
  simp only [Bool.and_eq_true, decide_eq_true_eq] at h;exact .inr (.inr (.inr (.inr (.inr (.inr (.inr (.inr (.inr (.inr ⟨h12, h.1.1.1.1, h.1.1.1.2, h.1.1.2, h.1.2, h.2⟩)))))))))
 ·rw [if_neg h12] at h
  by_cases hc : c ≠ 0
  ·rw [if_pos hc] at h; cases h
  ·rw [if_neg hc, if_neg h1'] at h
   by_cases ha : k = 2 ∨ k = 3 ∨ k = 4
   ·rw [if_pos ha, decide_eq_true_eq] at h
    rcases ha with ha | ha | ha
    ·exact .inl ⟨ha, h⟩
    ·exact .inr (.inl ⟨ha, h⟩)
    ·exact .inr (.inr (.inl ⟨ha, h⟩))
   ·rw [if_neg ha] at h
    by_cases hb : k = 5 ∨ k = 6 ∨ k = 7 ∨ k = 8
    ·rw [if_pos hb, decide_eq_true_eq] at h
     rcases hb with hb | hb | hb | hb
     ·exact .inr (.inr (.inr (.inl ⟨hb, h⟩)))
     ·exact .inr (.inr (.inr (.inr (.inl ⟨hb, h⟩))))
     ·exact .inr (.inr (.inr (.inr (.inr (.inl ⟨hb, h⟩)))))
     ·exact .inr (.inr (.inr (.inr (.inr (.inr (.inl ⟨hb, h⟩))))))
    ·rw [if_neg hb] at h
     by_cases h9 : k = 9
     ·rw [if_pos h9, decide_eq_true_eq] at h
      exact .inr (.inr (.inr (.inr (.inr (.inr (.inr (.inl ⟨h9, h⟩)))))))
     ·rw [if_neg h9] at h
      by_cases hd : k = 10 ∨ k = 11
      ·rw [if_pos hd, decide_eq_true_eq] at h
       rcases hd with hd | hd
       ·exact .inr (.inr (.inr (.inr (.inr (.inr (.inr (.inr (.inl ⟨hd, h⟩))))))))
       ·exact .inr (.inr (.inr (.inr (.inr (.inr (.inr (.inr (.inr (.inl ⟨hd, h⟩)))))))))
      ·rw [if_neg hd] at h; cases h
theorem no_text (k : Int) (t : Bytes) (h : Tr.textOK k t = true) (hk : ¬ k = 2 ∧ ¬ k = 3 ∧ ¬ k = 4 ∧ ¬ k = 10 ∧ ¬ k = 11) : t = [] := by
 unfold Tr.textOK at h;rw [if_neg hk.1, if_neg hk.2.1, if_neg hk.2.2.1, if_neg hk.2.2.2.1, if_neg hk.2.2.2.2] at h;exact List.isEmpty_iff.1 h
theorem fence_two (t : Bytes) (h : Tr.fence t = true) : ∃ a b, t = [a, b] := by
 unfold Tr.fence at h;split at h
 ·exact ⟨_, _, rfl⟩
 ·cases h
theorem nil_attrs : (decide ((([] : Attrs)).length ≤ 8) && attrsOK []) = true := rfl
theorem mk_ok (k : Int) (t : Bytes) (c : Int) (ss : List (List E)) (ht : Tr.textOK k t = true) (hk : Tr.kidsOK k c ss.length = true) (h1 : (k == 1) = false) (h : ∀ l ∈ ss, ∀ x ∈ l, ItE x) : ItE (mkE k t c ss) := by
 have hlen : ∀ (f : List E → E), (ss.map f).length = ss.length := fun f => List.length_map f
 rcases kinds_of k c ss.length hk h1 with ⟨rfl, hn⟩ | ⟨rfl, hn⟩ | ⟨rfl, hn⟩ | ⟨rfl, hn⟩ | ⟨rfl, hn⟩ | ⟨rfl, hn⟩ | ⟨rfl, hn⟩ | ⟨rfl, hn⟩ | ⟨rfl, hn⟩ | ⟨rfl, hn⟩ | ⟨rfl, hc1, hc2, hn1, hn2, hm⟩
 ·have hv : validI 2 t 0 = true := by rw [validI_eq _ _ _ (by omega), ht]; rfl
  show ItE (.mk (if lett t then nMi else nMo) [] [] t);cases hl : lett t with
  | true => exact leaf_ok nMi (by decide) t (by show (lett t && true && true && validI 2 t 0) = true; rw [hl, hv]; rfl) (text_value _ _ ht)
  | false => exact leaf_ok nMo (by decide) t (by show (!lett t && true && true && validI 2 t 0) = true; rw [hl, hv]; rfl) (text_value _ _ ht)
 ·exact leaf_ok nMn (by decide) t (by show (true && true && true && validI 3 t 0) = true; rw [validI_eq _ _ _ (by omega), ht]; rfl) (text_value _ _ ht)
 ·exact leaf_ok nMtext (by decide) t (by show (true && true && true && validI 4 t 0) = true; rw [validI_eq _ _ _ (by omega), ht]; rfl) (text_value _ _ ht)
 ·exact rows_ok nMfrac (by decide) (by decide) [] ss h (by show (true && decide ((ss.map (mrow nMrow)).length = 2) && true && decide (0 = 0)) = true; rw [hlen, hn]; rfl) nil_attrs
 ·match ss, hn, h with
  | [] :: [b], _, h => exact rows_ok nMsqrt (by decide) (by decide) [] [b] (fun l hl => h l (List.mem_cons_of_mem _ hl)) rfl nil_attrs
  | (a0 :: a) :: [b], _, h => exact rows_ok nMroot (by decide) (by decide) [] [b, a0 :: a] (fun l hl => h l (by simp only [List.mem_cons, List.not_mem_nil, or_false] at hl ⊢; exact hl.symm)) rfl nil_attrs
 ·exact rows_ok nMsub (by decide) (by decide) [] ss h (by show (true && decide ((ss.map (mrow nMrow)).length = 2) && true && decide (0 = 0)) = true; rw [hlen, hn]; rfl) nil_attrs
 ·exact rows_ok nMsup (by decide) (by decide) [] ss h (by show (true && decide ((ss.map (mrow nMrow)).length = 2) && true && decide (0 = 0)) = true; rw [hlen, hn]; rfl) nil_attrs
 ·exact rows_ok nMsubsup (by decide) (by decide) [] ss h (by show (true && decide ((ss.map (mrow nMrow)).length = 3) && true && decide (0 = 0)) = true; rw [hlen, hn]; rfl) nil_attrs
 ·have hv : validI 10 t 1 = true := by rw [validI_eq _ _ _ (by omega), ht]; rfl
  refine rows_ok nMover (by decide) (by decide) [(nAccent, t)] ss h ?_ ?_
  ·show (true && decide ((ss.map (mrow nMrow)).length = 1) && validI 10 t 1 && decide (1 = 1)) = true
   rw [hlen, hn, hv]; rfl
  ·show (true && ((nameOK nAccent && valueOK t) && true && decide ([nAccent].Nodup))) = true
   rw [text_value _ _ ht]; decide
 ·obtain ⟨a, b, rfl⟩ := fence_two t (by have := ht; unfold Tr.textOK at this; simpa using this)
  have hv : validI 11 [a, b] 1 = true := by rw [validI_eq _ _ _ (by omega), ht]; rfl
  have htv := text_value _ _ ht
  have hva : valueOK [a] = true ∧ valueOK [b] = true := by
   unfold valueOK at htv ⊢;simp only [List.all_cons, List.all_nil, Bool.and_true, Bool.and_eq_true] at htv ⊢;exact ⟨⟨htv.1.1, rfl⟩, htv.1.2, rfl⟩
  refine rows_ok nMfenced (by decide) (by decide) [(nOpen, [a]), (nClose, [b])] ss h ?_ ?_
  ·show (true && decide ((ss.map (mrow nMrow)).length = 1) && (true && true && validI 11 [a, b] 1) && decide (2 = 2)) = true
   rw [hlen, hn, hv]; rfl
  ·show (true && ((nameOK nOpen && valueOK [a]) && ((nameOK nClose && valueOK [b]) && true) && decide ([nOpen, nClose].Nodup))) = true
   rw [hva.1, hva.2]; decide
 ·have hcn : (c.toNat : Int) = c := by omega
  have hmn : ss.length % c.toNat = 0 := by
   have : ((ss.length % c.toNat : Nat) : Int) = 0 := by rw [Int.natCast_emod, hcn]; exact hm
   omega
  have hgl := grid_count c.toNat (by omega) ss hmn;have hga := grid_all c.toNat (by omega) ss hmn
  have hmap : (grid c.toNat (ss.map (mrow nMtd))) = (grid c.toNat ss).map fun r => r.map (mrow nMtd) := by
   unfold grid;rw [List.length_map, List.map_map];refine List.map_congr_left fun r _ => ?_
   show ((ss.map (mrow nMtd)).drop _).take _ = ((ss.drop _).take _).map _;rw [List.map_take, List.map_drop]
  show ItE (.mk nMtable [] ((grid c.toNat (ss.map (mrow nMtd))).map (mrow nMtr)) []);rw [hmap, List.map_map];refine table_ok (grid c.toNat ss) c.toNat ?_ (by omega) (by omega) (fun r hr => (hga r hr).1) (fun r hr l hl => h l ((hga r hr).2 l hl));rw [hgl.1];have : 0 < ss.length / c.toNat := Nat.div_pos (Nat.le_of_dvd (by omega) (Nat.dvd_of_mod_eq_zero hmn)) (by omega);exact this
theorem item_ok : ∀ (m : Nat) (x : Nd), Tr.count x ≤ m → Tr.form x = true → (x.kind == 1) = false → ItE (elE x) := by
 intro m
 induction m with
 | zero => intro x h; have := Tr.count_pos x; omega
 | succ m ih =>
  intro x hm hf hk;have hs := slot_items x hf hk;rw [Tr.form_eq, Bool.and_eq_true, Bool.and_eq_true] at hf;rw [elE_eq];refine mk_ok _ _ _ _ hf.1.1 (by rw [slotsE_map, List.length_map]; exact hf.1.2) hk fun l hl e he => ?_
  rw [slotsE_map] at hl;obtain ⟨r, hr, rfl⟩ := List.mem_map.1 hl;rw [elK_map] at he;obtain ⟨y, hy, rfl⟩ := List.mem_map.1 he;obtain ⟨h1, h2, h3, h4⟩ := (hs r hr).2.2 y hy;exact ih y (by omega) h2 h1
theorem tree_ok (n : Nd) (h : Tr.valid n = true) : okT (elM n) = true ∧ proper (elM n) = true := by
 unfold Tr.valid at h;simp only [Bool.and_eq_true] at h;refine row_ok nMath (by decide) _ fun e he => ?_
 rw [elK_map] at he;obtain ⟨y, hy, rfl⟩ := List.mem_map.1 he;have hf := h.1.1.2;rw [Tr.form_eq, Bool.and_eq_true, h.1.1.1] at hf;obtain ⟨h3, h4⟩ := formL_in _ _ hf.2 y hy;exact item_ok _ y (Nat.le_refl _) h4 (by simpa using h3)
def sumC : List (List E) → Nat
 | [] => 0
 | l :: ls => countL l + sumC ls
def maxD : List (List E) → Nat
 | [] => 0
 | l :: ls => max (depthL l) (maxD ls)
theorem rows_count (nm : Bytes) (ss : List (List E)) : countL (ss.map (mrow nm)) = ss.length + sumC ss := by
 induction ss with
 | nil => rfl
 | cons l ss ih =>
  rw [List.map_cons, countL, ih, sumC, List.length_cons];show count (.mk nm [] l []) + _ = _;rw [count]; omega
theorem rows_depth (nm : Bytes) (ss : List (List E)) : depthL (ss.map (mrow nm)) ≤ 1 + maxD ss := by
 induction ss with
 | nil => exact Nat.zero_le _
 | cons l ss ih =>
  rw [List.map_cons, depthL, maxD];have : depth (mrow nm l) = depthL l + 1 := by show depth (.mk nm [] l []) = _; rw [depth]
  omega
theorem grid_counts (nm : Bytes) (gs : List (List E)) : countL (gs.map (mrow nm)) = gs.length + countL gs.flatten := by
 induction gs with
 | nil => rfl
 | cons g gs ih =>
  rw [List.map_cons, countL, ih, List.flatten_cons, countL_app, List.length_cons];show count (.mk nm [] g []) + _ = _;rw [count]; omega
theorem grid_depths (nm : Bytes) (gs : List (List E)) : depthL (gs.map (mrow nm)) ≤ 1 + depthL gs.flatten := by
 induction gs with
 | nil => exact Nat.zero_le _
 | cons g gs ih =>
  rw [List.map_cons, depthL, List.flatten_cons, depthL_app];have : depth (mrow nm g) = depthL g + 1 := by show depth (.mk nm [] g []) = _; rw [depth]
  omega
theorem mk_size (k : Int) (t : Bytes) (c : Int) (ss : List (List E)) (hk : Tr.kidsOK k c ss.length = true) (h1 : (k == 1) = false) :
  count (mkE k t c ss) ≤ 1 + 2 * ss.length + sumC ss ∧ depth (mkE k t c ss) ≤ (if ss.length = 0 then 1 else 3 + maxD ss) := by
 have hrc := rows_count nMrow ss;have hrd := rows_depth nMrow ss
 rcases kinds_of k c ss.length hk h1 with ⟨rfl, hn⟩ | ⟨rfl, hn⟩ | ⟨rfl, hn⟩ | ⟨rfl, hn⟩ | ⟨rfl, hn⟩ | ⟨rfl, hn⟩ | ⟨rfl, hn⟩ | ⟨rfl, hn⟩ | ⟨rfl, hn⟩ | ⟨rfl, hn⟩ | ⟨rfl, hc1, hc2, hn1, hn2, hm⟩
 ·rw [if_pos hn]
  show count (.mk _ [] [] t) ≤ _ ∧ depth (.mk _ [] [] t) ≤ _;rw [count, countL, depth, depthL]; omega
 ·rw [if_pos hn]
  show count (.mk _ [] [] t) ≤ _ ∧ depth (.mk _ [] [] t) ≤ _;rw [count, countL, depth, depthL]; omega
 ·rw [if_pos hn]
  show count (.mk _ [] [] t) ≤ _ ∧ depth (.mk _ [] [] t) ≤ _;rw [count, countL, depth, depthL]; omega
 ·rw [if_neg (by omega)]
  show count (.mk _ [] (ss.map (mrow nMrow)) []) ≤ _ ∧ depth (.mk _ [] (ss.map (mrow nMrow)) []) ≤ _;rw [count, depth]; omega
 ·rw [if_neg (by omega)]
  match ss, hn with
  | [] :: [b], _ =>
   show count (.mk nMsqrt [] [mrow nMrow b] []) ≤ _ ∧ depth (.mk nMsqrt [] [mrow nMrow b] []) ≤ _;have h2 := rows_count nMrow [b];have h3 := rows_depth nMrow [b];simp only [List.map_cons, List.map_nil, sumC, maxD, List.length_cons, List.length_nil] at h2 h3 ⊢;rw [count, depth, h2];simp only [countL, depthL] at *;omega
  | (a0 :: a) :: [b], _ =>
   show count (.mk nMroot [] [mrow nMrow b, mrow nMrow (a0 :: a)] []) ≤ _ ∧ depth (.mk nMroot [] [mrow nMrow b, mrow nMrow (a0 :: a)] []) ≤ _;have h2 := rows_count nMrow [b, a0 :: a];have h3 := rows_depth nMrow [b, a0 :: a];simp only [List.map_cons, List.map_nil, sumC, maxD, List.length_cons, List.length_nil] at h2 h3 ⊢;rw [count, depth, h2];omega
 ·rw [if_neg (by omega)]
  show count (.mk _ [] (ss.map (mrow nMrow)) []) ≤ _ ∧ depth (.mk _ [] (ss.map (mrow nMrow)) []) ≤ _;rw [count, depth]; omega
 ·rw [if_neg (by omega)]
  show count (.mk _ [] (ss.map (mrow nMrow)) []) ≤ _ ∧ depth (.mk _ [] (ss.map (mrow nMrow)) []) ≤ _;rw [count, depth]; omega
 ·rw [if_neg (by omega)]
  show count (.mk _ [] (ss.map (mrow nMrow)) []) ≤ _ ∧ depth (.mk _ [] (ss.map (mrow nMrow)) []) ≤ _;rw [count, depth]; omega
 ·rw [if_neg (by omega)]
  show count (.mk _ _ (ss.map (mrow nMrow)) []) ≤ _ ∧ depth (.mk _ _ (ss.map (mrow nMrow)) []) ≤ _;rw [count, depth]; omega
 ·rw [if_neg (by omega)]
  show count (.mk _ _ (ss.map (mrow nMrow)) []) ≤ _ ∧ depth (.mk _ _ (ss.map (mrow nMrow)) []) ≤ _;rw [count, depth]; omega
 ·rw [if_neg (by omega)]
  have hcn : (c.toNat : Int) = c := by omega
  have hmn : (ss.map (mrow nMtd)).length % c.toNat = 0 := by
   have : ((ss.length % c.toNat : Nat) : Int) = 0 := by rw [Int.natCast_emod, hcn]; exact hm
   rw [List.length_map]; omega
  have hg := grid_count c.toNat (by omega) (ss.map (mrow nMtd)) hmn;have h2 := grid_counts nMtr (grid c.toNat (ss.map (mrow nMtd)));have h3 := grid_depths nMtr (grid c.toNat (ss.map (mrow nMtd)));have h4 := rows_count nMtd ss;have h5 := rows_depth nMtd ss;have h6 : ss.length / c.toNat ≤ ss.length := Nat.div_le_self _ _;rw [hg.2] at h2 h3;rw [hg.1, List.length_map] at h2;show count (.mk nMtable [] ((grid c.toNat (ss.map (mrow nMtd))).map (mrow nMtr)) []) ≤ _ ∧ depth (.mk nMtable [] ((grid c.toNat (ss.map (mrow nMtd))).map (mrow nMtr)) []) ≤ _;rw [count, depth];omega
theorem items_size (l : List Nd) (h : ∀ y ∈ l, count (elE y) ≤ 2 * Tr.count y ∧ 2 * depth (elE y) ≤ 3 * Tr.depth y) : countL (elK l) ≤ 2 * Tr.countL l ∧ 2 * depthL (elK l) ≤ 3 * Tr.depthL l := by
 induction l with
 | nil => rw [elK, countL, depthL]; omega
 | cons y l ih =>
  have h1 := ih fun z hz => h z (List.mem_cons_of_mem _ hz)
  have h2 := h y (List.mem_cons_self ..);rw [elK, countL, depthL, Tr.countL, Tr.depthL];omega
theorem item_size : ∀ (m : Nat) (x : Nd), Tr.count x ≤ m → Tr.form x = true → (x.kind == 1) = false → count (elE x) ≤ 2 * Tr.count x ∧ 2 * depth (elE x) ≤ 3 * Tr.depth x := by
 intro m
 induction m with
 | zero => intro x h; have := Tr.count_pos x; omega
 | succ m ih =>
  intro x hm hf hk;have hs := slot_items x hf hk;rw [Tr.form_eq, Bool.and_eq_true, Bool.and_eq_true] at hf;rw [elE_eq];have hz := mk_size x.kind x.text x.cols (slotsE x.kids) (by rw [slotsE_map, List.length_map]; exact hf.1.2) hk;have hl : (slotsE x.kids).length = x.kids.length := by rw [slotsE_map, List.length_map]
  have hsum : ∀ l : List Nd, (∀ r ∈ l, r ∈ x.kids) → l.length + sumC (slotsE l) ≤ 2 * Tr.countL l - l.length ∧ l.length ≤ Tr.countL l ∧ (l ≠ [] → 2 * maxD (slotsE l) + 3 ≤ 3 * Tr.depthL l) := by
   intro l
   induction l with
   | nil => intro _; rw [slotsE, sumC, Tr.countL]; exact ⟨Nat.le_refl _, Nat.le_refl _, fun h => absurd rfl h⟩
   | cons r l ihl =>
    intro hm';obtain ⟨h1, h2, h3⟩ := ihl fun z hz => hm' z (List.mem_cons_of_mem _ hz)
    have hr := hs r (hm' r (List.mem_cons_self ..))
    have h4 := items_size r.kids fun y hy => by
     obtain ⟨g1, g2, g3, g4⟩ := hr.2.2 y hy;exact ih y (by omega) g2 g1
    rw [slotsE_map, List.map_cons, ← slotsE_map, sumC, maxD, Tr.countL, Tr.depthL, Tr.count_kids r, Tr.depth_kids r, List.length_cons];refine ⟨by omega, by omega, fun _ => ?_⟩
    by_cases hl0 : l = []
    ·subst hl0
     rw [slotsE, maxD, Tr.depthL];omega
    ·have := h3 hl0
     omega
  obtain ⟨h1, h2, h3⟩ := hsum x.kids fun r hr => hr
  rw [Tr.count_kids x, Tr.depth_kids x];refine ⟨by omega, ?_⟩
  by_cases h0 : (slotsE x.kids).length = 0
  ·rw [if_pos h0] at hz; omega
  ·rw [if_neg h0] at hz
   have := h3 (fun h => by rw [hl, h] at h0; exact h0 rfl);omega
theorem tree_size (n : Nd) (h : Tr.valid n = true) : count (elM n) ≤ 2 * Tr.count n ∧ 2 * depth (elM n) ≤ 3 * Tr.depth n := by
 unfold Tr.valid at h;simp only [Bool.and_eq_true] at h;have hf := h.1.1.2;rw [Tr.form_eq, Bool.and_eq_true, h.1.1.1] at hf
 have := items_size n.kids fun y hy => by
  obtain ⟨h3, h4⟩ := formL_in _ _ hf.2 y hy;exact item_size _ y (Nat.le_refl _) h4 (by simpa using h3)
 show count (.mk nMath [] (elK n.kids) []) ≤ _ ∧ 2 * depth (.mk nMath [] (elK n.kids) []) ≤ _;rw [count, depth, Tr.count_kids n, Tr.depth_kids n];omega
theorem tree_valid (n : Nd) (h : Tr.valid n = true) : valid (elM n) = true := by
 have h1 := tree_ok n h;have h2 := tree_size n h;unfold Tr.valid at h;simp only [Bool.and_eq_true, decide_eq_true_eq] at h;unfold valid;rw [h1.2, Bool.true_and, Bool.and_eq_true, decide_eq_true_eq, decide_eq_true_eq];omega
end Go.Proofs.YtfnjcldgicohaaaGreat.El
namespace Go.Proofs.YtfnjcldgicohaaaGreat.El
open Tr (Nd)
def kindR (n : Bytes) : Int :=
 if n = nMi then 2 else if n = nMo then 2 else if n = nMn then 3 else if n = nMtext then 4 else if n = nMfrac then 5 else if n = nMsqrt then 6 else if n = nMroot then 6
 else if n = nMsub then 7 else if n = nMsup then 8 else if n = nMsubsup then 9 else if n = nMover then 10 else if n = nMfenced then 11 else if n = nMtable then 12 else 0
def hasA (a : Attrs) (nm : Bytes) : Bool := a.any (fun x => x.1 == nm)
def lettsR (s : Bytes) : Bool := decide (1 < s.length) || (s.length == 1 && lett s)
def textR : E → Int → Bytes × Bool
 | .mk n a _ t, k =>
  if k = 2 then (t, a.isEmpty && Tr.symbol t && (lettsR t == decide (n = nMi)))
  else if k = 3 ∨ k = 4 then (t, a.isEmpty && Tr.valid (.mk 1 [] 0 [.mk k t 0 []]))
  else if k = 10 then (attrV a nAccent, hasA a nAccent && decide (a.length = 1) && t.isEmpty && Tr.accents.contains (attrV a nAccent))
  else if k = 11 then (attrV a nOpen ++ attrV a nClose, hasA a nOpen && hasA a nClose && decide (a.length = 2) && t.isEmpty && decide ((attrV a nOpen).length = 1) && decide ((attrV a nClose).length = 1) && Tr.valid (.mk 1 [] 0 [.mk k (attrV a nOpen ++ attrV a nClose) 0 [rowNil]]))
  else ([], a.isEmpty && t.isEmpty)
def slotsK (nm : Bytes) (m : Nat) (k : Int) : Bool :=
 if k = 2 ∨ k = 3 ∨ k = 4 then decide (m = 0)
 else if nm = nMsqrt ∨ k = 10 ∨ k = 11 then decide (m = 1)
 else if k = 9 then decide (m = 3)
 else if k = 12 then decide (1 ≤ m)
 else decide (m = 2)
abbrev Rd := Nat × Int
def ent (ok : Bool) (s : Rd) : Rd := (s.1 + 1, if !ok && decide (s.2 < 0) then (s.1 : Int) else s.2)
def okRow (nm : Bytes) (e : E) : Bool := decide (e.name = nm) && e.attrs.isEmpty && e.text.isEmpty
def okItem (e : E) : Bool := decide (0 < kindR e.name) && (textR e (kindR e.name)).2 && slotsK e.name e.kids.length (kindR e.name)
def okLine (c : Int) (e : E) : Bool := decide (e.name = nMtr) && e.attrs.isEmpty && e.text.isEmpty && decide (1 ≤ e.kids.length) && decide (e.kids.length ≤ 16) && decide ((e.kids.length : Int) = c)
def endItem (e : E) (ns : List Nd) (bad : Int) : Nd :=
 if kindR e.name = 6 ∧ bad < 0 then (if e.name = nMsqrt then .mk 6 (textR e 6).1 0 (rowNil :: ns) else .mk 6 (textR e 6).1 0 ((ns.drop 1).take 1 ++ ns.take 1 ++ ns.drop 2))
 else .mk (kindR e.name) (textR e (kindR e.name)).1 (if kindR e.name = 12 then (colsN e.kids : Int) else 0) ns
mutual
def rRow (nm : Bytes) : E → Rd → Nd × Rd
 | .mk n a ks t, s => let r := rItems ks (ent (okRow nm (.mk n a ks t)) s); (.mk 1 [] 0 r.1, r.2)
def rItems : List E → Rd → List Nd × Rd
 | [], s => ([], s)
 | x :: xs, s => if s.2 < 0 then (let r := rItem x s; let q := rItems xs r.2; (r.1 :: q.1, q.2)) else ([], s)
def rItem : E → Rd → Nd × Rd
 | .mk n a ks t, s =>
  let s1 := ent (okItem (.mk n a ks t)) s
  let r := if kindR n = 12 then rLines (colsN ks) ks s1 else rRows nMrow ks s1
  (endItem (.mk n a ks t) r.1 r.2.2, r.2)
def rRows (nm : Bytes) : List E → Rd → List Nd × Rd
 | [], s => ([], s)
 | x :: xs, s => if s.2 < 0 then (let r := rRow nm x s; let q := rRows nm xs r.2; (r.1 :: q.1, q.2)) else ([], s)
def rLines (c : Int) : List E → Rd → List Nd × Rd
 | [], s => ([], s)
 | .mk n a ks t :: xs, s => if s.2 < 0 then (let r := rRows nMtd ks (ent (okLine c (.mk n a ks t)) s); let q := rLines c xs r.2; (r.1 ++ q.1, q.2)) else ([], s)
end
def refNodeF (e : E) : Nd × Int × Int :=
 if valid e then (if 0 ≤ (rRow nMath e (0, -1)).2.2 then (nilNd, (rRow nMath e (0, -1)).2.2, 19) else if Tr.valid (rRow nMath e (0, -1)).1 then ((rRow nMath e (0, -1)).1, 0, 0) else (nilNd, 0, 6)) else (nilNd, 0, 1)
end Go.Proofs.YtfnjcldgicohaaaGreat.El
namespace Go.Proofs.YtfnjcldgicohaaaGreat
open Go.RowKit
open Tr (Nd)
open El (E Attrs attrV Rd ent kindR hasA slotsK)
def rdC (s : Rd) : Array Value := #[.int .i64 (s.1 : Int), .int .i64 s.2]
theorem Blk.two {w : World} {g : Nat} {t : TypeId} {x0 x1 : Value} (h : Blk w g t #[x0, x1]) :
  w.cell? ⟨g, 0, none⟩ = some x0 ∧ w.cell? ⟨g, 1, none⟩ = some x1 ∧ w.frozen? ⟨g, 0, none⟩ = false ∧ w.frozen? ⟨g, 1, none⟩ = false ∧ g < w.heap.size := by
 exact ⟨h.cell 0, h.cell 1, h.frozen 0, h.frozen 1, h.lt⟩
theorem enter_any (s : Rd) (b : Bool) (g : Nat) (w : World) (hb : Blk w g 46 (rdC s)) (hs : s.1 ≤ 1000000) :
  Calls Tryz.prog 31 #[.pointer (some ⟨g, 0, none⟩), .bool b] w fun x w' => x = .returned (.tuple #[]) ∧ Touch (fun k => k = g) w w' ∧ Blk w' g 46 (rdC (ent b s)) := by
 have HB := hid hb;obtain ⟨a, c⟩ := s;have hw : IntKind.i64.wrap ((a : Int) + 1) = (a : Int) + 1 := IntWalk.i64_in _ (by simp only at hs; omega);obtain ⟨hb0, hb1, hf0, hf1, hlt⟩ := Blk.two (x0 := .int .i64 (a : Int)) (x1 := .int .i64 c) hb;clear hb hs;cases b with
 | true =>
  go_enter Tryz.func31, Tryz.ntmps31;go_wp2_with fail
  refine bodyPost_end (v := .tuple #[]) (results_none rfl _ _ _) rfl ?_;exact ⟨rfl, (Touch.refl (fun k => k = g) _).setCell (p := ⟨g, 0, none⟩) (.inl rfl) _, HB.out.put 0 (.int .i64 ((a : Int) + 1))⟩
 | false =>
  by_cases c1 : c < 0
  ·have d1 : decide (c < (0 : Int)) = true := dT c1
   have hb2 := Blk.put HB.out 1 (.int .i64 (a : Int));obtain ⟨_, _, hf2, hf3, _⟩ := Blk.two (x0 := .int .i64 (a : Int)) (x1 := .int .i64 (a : Int)) hb2;have HB2 := hid hb2;clear hb2;go_enter Tryz.func31, Tryz.ntmps31;go_wp2_with fail
   refine bodyPost_end (v := .tuple #[]) (results_none rfl _ _ _) rfl ?_;refine ⟨rfl, ((Touch.refl (fun k => k = g) _).setCell (p := ⟨g, 1, none⟩) (.inl rfl) _).setCell (p := ⟨g, 0, none⟩) (.inl rfl) _, ?_⟩;have := HB2.out.put 0 (.int .i64 ((a : Int) + 1));rw [show ent false (a, c) = (a + 1, (a : Int)) by unfold ent; simp [c1]];exact this
  ·have d1 : decide (c < (0 : Int)) = false := dF c1
   go_enter Tryz.func31, Tryz.ntmps31;go_wp2_with fail
   rw [show ent false (a, c) = (a + 1, c) by simp only [ent, Bool.not_false, Bool.true_and, d1, Bool.false_eq_true, if_false]];refine bodyPost_end (v := .tuple #[]) (results_none rfl _ _ _) rfl ?_;exact ⟨rfl, (Touch.refl (fun k => k = g) _).setCell (p := ⟨g, 0, none⟩) (.inl rfl) _, HB.out.put 0 (.int .i64 ((a : Int) + 1))⟩
def kNames : List (List UInt8) := [El.nMi, El.nMo, El.nMn, El.nMtext, El.nMfrac, El.nMsqrt, El.nMroot, El.nMsub, El.nMsup, El.nMsubsup, El.nMover, El.nMfenced, El.nMtable]
def kInts : List Int := [2, 2, 3, 4, 5, 6, 6, 7, 8, 9, 10, 11, 12]
def intRow (l : List Int) : Array Value := (l.map fun s => Value.int .i64 s).toArray
theorem intRow_get {l : List Int} {W : World} {g : Nat} (h : Blk W g 3 (intRow l)) (i : Nat) (hi : i < l.length) : W.cell? ⟨g, i, none⟩ = some (.int .i64 l[i]) := by
 rw [h.cell];simp [intRow, hi]
theorem kind_at (n : List UInt8) (j : Nat) (h : j < kNames.length) (e : kNames[j] = n) : kindR n = kInts[j]'h := by
 have : ∀ i : Fin 13, kindR (kNames[i.1]'i.2) = kInts[i.1]'i.2 := by decide
 rw [← e];exact this ⟨j, h⟩
theorem kind_none (n : List UInt8) (h : kNames.contains n = false) : kindR n = 0 := by
 have h' : n ∉ kNames := by intro hm; rw [List.contains_iff_mem.2 hm] at h; cases h
 simp only [kNames, List.mem_cons, List.not_mem_nil, or_false, not_or] at h';unfold kindR;simp only [h', if_false]
theorem rkind_any (n : List UInt8) (w : World) : Calls Tryz.prog 56 #[.string ⟨n.toArray⟩] w fun e w' => e = .returned (.int .i64 (kindR n)) ∧ Fresh w w' := by
 go_enter Tryz.func56, Tryz.ntmps56;go_wp2_with fail
 have hb1 := Blk.new2 w (.cells (strRow kNames) 9) 3 (intRow kInts);have hb0 := (Blk.new w 9 (strRow kNames)).alloc (.cells (intRow kInts) 3);have hf := ((Touch.refl (fun _ => False) w).alloc (.cells (strRow kNames) 9)).alloc (.cells (intRow kInts) 3);have HH := hid (And.intro hb0 (And.intro hb1 hf));clear hb0 hb1 hf;refine forget_world (fun W => Blk W w.heap.size 9 (strRow kNames) ∧ Blk W (w.heap.size + 1) 3 (intRow kInts) ∧ Fresh w W) HH.out ?_;rintro W1 ⟨hb0, hb1, hf⟩;have HB0 := hid hb0;have HB1 := hid hb1;have HF := hid hf;have hlt0 := hb0.lt;have hlt1 := hb1.lt;clear hb0 hb1 hf HH
 go_loopw [5] (fun i wr => ∃ j : Nat, i = .int .i64 j ∧ j ≤ 13 ∧ Hid ((kNames.take j).contains n = false) ∧ wr = W1) (fun i _ => 13 - (intOf i).toNat)
 case atStart => exact ⟨0, rfl, Nat.zero_le _, by simp [Hid], rfl⟩
 case round =>
  obtain ⟨j, rfl, hj, HA, rfl⟩ := hrel
  by_cases c1 : j < 13
  ·have d1 : decide ((j : Int) < (13 : Int)) = true := dT (by omega)
   have d1n : decide (j < 13) = true := dT (by omega);have d1' : (j : Int) < (13 : Int) := by omega
   have q := strRow_get HB0.out j c1;have q1 := intRow_get HB1.out j c1;have HS := hid (contains_snoc kNames n j c1);have HN := hid (kind_at n j c1);generalize kNames[j]'c1 = x at *;cases h1 : (x == n) with
   | false =>
    go_wp2_with fail
    go_roundw
    case rel => exact ⟨j + 1, by go_num, c1, by unfold Hid; rw [HS.out, HA.out]; simp_all, trivial⟩
    case measure => simp [intOf]; omega
   | true =>
    have HV := hid (HN.out (by simpa using h1));go_wp2_with fail
    go_ret;exact ⟨by rw [HV.out]; rfl, HF.out⟩
  ·have d1 : decide ((j : Int) < (13 : Int)) = false := dF (by omega)
   have d1n : decide (j < 13) = false := dF (by omega);obtain rfl : j = 13 := by omega
   go_wp2_with fail
   go_ret;exact ⟨by rw [kind_none n HA.out]; rfl, HF.out⟩
theorem hasA_snoc (a : Attrs) (nm : List UInt8) (j : Nat) (h : j < a.length) (hx : a[j].1 = nm) : hasA a nm = true := by
 unfold hasA;rw [List.any_eq_true];exact ⟨a[j], List.getElem_mem h, by simpa using hx⟩
theorem rattr_any (e : E) (nm : List UInt8) (va vk : Value) (w : World) (hr : RepV w e va vk) : Calls Tryz.prog 83 #[ev e va vk, .string ⟨nm.toArray⟩] w fun x w' => x = .returned (.tuple #[.string ⟨(attrV e.attrs nm).toArray⟩, .bool (hasA e.attrs nm)]) ∧ Fresh w w' := by
 obtain ⟨n, ats, ks, t⟩ := e;obtain ⟨A, ca, hva⟩ := hr.1.slice;replace hva : va = .slice A ats.length ca := hva;subst hva;have hl1 : ats.length ≤ maxLen := by obtain ⟨_, _, _, h, _⟩ := hr.1; exact h.1
 unfold maxLen at hl1;have HA := hid (show RepA w ats _ from hr.1);clear hr;unfold ev;show Calls _ _ _ _ (fun x w' => x = .returned (.tuple #[.string ⟨(attrV ats nm).toArray⟩, .bool (hasA ats nm)]) ∧ Fresh w w');simp only [E.name, E.text];go_enter Tryz.func83, Tryz.ntmps83;go_wp2_with fail
 have hf := (Touch.refl (fun _ => False) w).alloc (.cells #[.string ⟨n.toArray⟩, .slice A ats.length ca, vk, .string ⟨t.toArray⟩] 25);have hb := Blk.new w 25 #[.string ⟨n.toArray⟩, .slice A ats.length ca, vk, .string ⟨t.toArray⟩];have HH := hid (And.intro hf hb);clear hf hb;refine forget_world (fun W => Fresh w W ∧ Blk W w.heap.size 25 #[.string ⟨n.toArray⟩, .slice A ats.length ca, vk, .string ⟨t.toArray⟩]) HH.out ?_;clear HH;rintro W1 ⟨hf, hb⟩;obtain ⟨_, q1, _, _, _, _, _, _, hg⟩ := Blk.four hb;have HF := hid hf;clear hf hb
 go_loopw [6] (fun i wr => ∃ j : Nat, i = .int .i64 j ∧ j ≤ ats.length ∧ Hid ((ats.take j).any (fun x => x.1 == nm) = false) ∧ wr = W1) (fun i _ => ats.length - (intOf i).toNat)
 case atStart => exact ⟨0, rfl, Nat.zero_le _, by simp [Hid], rfl⟩
 case round =>
  obtain ⟨j, rfl, hj, HT, rfl⟩ := hrel
  by_cases c1 : j < ats.length
  ·have d1 : decide ((j : Int) < (ats.length : Int)) = true := dT (by omega)
   have d1' : (j : Int) < (ats.length : Int) := by omega
   obtain ⟨g, o, rfl, hg2, m0, m1, _, _⟩ := HA.out.get j c1;have e0 := HF.out.cell m0 (fun h => h);have f0 := HF.out.cell m1 (fun h => h);have hg3 : g < wr.heap.size := Nat.lt_of_lt_of_le hg2 HF.out.size;clear m0 m1;have HS := hid (attrV_snoc ats nm j c1 HT.out);have HN := hid (hasA_snoc ats nm j c1);generalize ats[j] = x at *;cases h4 : decide (x.1 = nm) with
   | true =>
    have e1 : (x.1 == nm) = true := by simpa using h4
    have HV := hid (HS.out.1 (of_decide_eq_true h4));have HV2 := hid (HN.out (of_decide_eq_true h4));clear h4;go_wp2_with fail
    refine bodyPost_ret (results_tmp2 rfl _ _ _) rfl ?_;exact ⟨by rw [HV.out, HV2.out]; rfl, HF.out⟩
   | false =>
    have e1 : (x.1 == nm) = false := by simpa using h4
    have HV := hid (HS.out.2 (of_decide_eq_false h4));clear h4;go_wp2_with fail
    go_roundw
    case rel => exact ⟨j + 1, by go_num, c1, HV, trivial⟩
    case measure => simp [intOf]; omega
  ·have d1 : decide ((j : Int) < (ats.length : Int)) = false := dF (by omega)
   obtain rfl : j = ats.length := by omega
   have HT2 := hid (show hasA ats nm = false by have := HT.out; rwa [List.take_length] at this);have HV := hid (attrV_none ats nm HT2.out);go_wp2_with fail
   refine bodyPost_ret (results_tmp2 rfl _ _ _) rfl ?_;exact ⟨by rw [HV.out, HT2.out]; rfl, HF.out⟩
theorem rslots_any (e : E) (k : Int) (va vk : Value) (w : World) (hr : RepV w e va vk) : Calls Tryz.prog 58 #[ev e va vk, .int .i64 k] w fun x w' => x = .returned (.bool (slotsK e.name e.kids.length k)) ∧ Fresh w w' := by
 obtain ⟨n, ats, ks, t⟩ := e;obtain ⟨B, cb, hvk⟩ := hr.2.1.slice;replace hvk : vk = .slice B ks.length cb := hvk;subst hvk;clear hr;unfold ev;show Calls _ _ _ _ (fun x w' => x = .returned (.bool (slotsK n ks.length k)) ∧ Fresh w w');simp only [E.name, E.text];go_enter Tryz.func58, Tryz.ntmps58;go_wp2_with fail
 all_goals
  go_ret;refine ⟨ret_bool' _ _ ?_, (Touch.refl _ _).alloc _⟩;rw [Bool.eq_iff_iff];simp_all [slotsK, El.nMsqrt]
  try omega
end Go.Proofs.YtfnjcldgicohaaaGreat
