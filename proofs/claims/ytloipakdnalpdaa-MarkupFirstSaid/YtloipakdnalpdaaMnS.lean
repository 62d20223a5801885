/- The element of a valid tree is valid and can be carried: by kinds, and the tree itself. -/
import Derived.Test.YtloipakdnalpdaaMnQ
namespace Go.Proofs.Ytloipakdnalpdaa.El
open Tr (Nd)

theorem formL_in (r : Bool) : ∀ (l : List Nd), Tr.formL r l = true → ∀ x ∈ l, ((x.kind == 1) != r) = true ∧ Tr.form x = true
  | [], _, x, hx => by cases hx
  | y :: l, h, x, hx => by
    rw [Tr.formL, Bool.and_eq_true, Bool.and_eq_true] at h
    rcases List.mem_cons.1 hx with rfl | hx
    · exact h.1
    · exact formL_in r l h.2 x hx
/-- The items in the slots of an item. -/
theorem slot_items (x : Nd) (hf : Tr.form x = true) (hk : (x.kind == 1) = false) : ∀ r ∈ x.kids, r.kind = 1 ∧ Tr.form r = true ∧ ∀ y ∈ r.kids, (y.kind == 1) = false ∧ Tr.form y = true ∧ Tr.count y < Tr.count r ∧ Tr.count r < Tr.count x := by
  intro r hr
  rw [Tr.form_eq, Bool.and_eq_true, hk] at hf
  obtain ⟨h1, h2⟩ := formL_in _ _ hf.2 r hr
  have h1' : r.kind = 1 := by simpa using h1
  refine ⟨h1', h2, fun y hy => ?_⟩
  rw [Tr.form_eq, Bool.and_eq_true, h1'] at h2
  obtain ⟨h3, h4⟩ := formL_in _ _ h2.2 y hy
  have := Tr.count_mem hy
  have := Tr.count_kids r
  have := Tr.count_mem hr
  have := Tr.count_kids x
  exact ⟨by simpa using h3, h4, by omega, by omega⟩
theorem kinds_of (k c : Int) (n : Nat) (h : Tr.kidsOK k c n = true) (h1 : (k == 1) = false) :
    (k = 2 ∧ n = 0) ∨ (k = 3 ∧ n = 0) ∨ (k = 4 ∧ n = 0) ∨ (k = 5 ∧ n = 2) ∨ (k = 6 ∧ n = 2) ∨ (k = 7 ∧ n = 2) ∨ (k = 8 ∧ n = 2) ∨ (k = 9 ∧ n = 3) ∨ (k = 10 ∧ n = 1) ∨ (k = 11 ∧ n = 1) ∨ (k = 12 ∧ 1 ≤ c ∧ c ≤ 16 ∧ 1 ≤ n ∧ n ≤ 256 ∧ (n : Int) % c = 0) := by
  have h1' : k ≠ 1 := by simpa using h1
  unfold Tr.kidsOK at h
  by_cases h12 : k = 12
  · rw [if_pos h12] at h
    simp only [Bool.and_eq_true, decide_eq_true_eq] at h
    exact .inr (.inr (.inr (.inr (.inr (.inr (.inr (.inr (.inr (.inr ⟨h12, h.1.1.1.1, h.1.1.1.2, h.1.1.2, h.1.2, h.2⟩)))))))))
  · rw [if_neg h12] at h
    by_cases hc : c ≠ 0
    · rw [if_pos hc] at h; cases h
    · rw [if_neg hc, if_neg h1'] at h
      by_cases ha : k = 2 ∨ k = 3 ∨ k = 4
      · rw [if_pos ha, decide_eq_true_eq] at h
        rcases ha with ha | ha | ha
        · exact .inl ⟨ha, h⟩
        · exact .inr (.inl ⟨ha, h⟩)
        · exact .inr (.inr (.inl ⟨ha, h⟩))
      · rw [if_neg ha] at h
        by_cases hb : k = 5 ∨ k = 6 ∨ k = 7 ∨ k = 8
        · rw [if_pos hb, decide_eq_true_eq] at h
          rcases hb with hb | hb | hb | hb
          · exact .inr (.inr (.inr (.inl ⟨hb, h⟩)))
          · exact .inr (.inr (.inr (.inr (.inl ⟨hb, h⟩))))
          · exact .inr (.inr (.inr (.inr (.inr (.inl ⟨hb, h⟩)))))
          · exact .inr (.inr (.inr (.inr (.inr (.inr (.inl ⟨hb, h⟩))))))
        · rw [if_neg hb] at h
          by_cases h9 : k = 9
          · rw [if_pos h9, decide_eq_true_eq] at h
            exact .inr (.inr (.inr (.inr (.inr (.inr (.inr (.inl ⟨h9, h⟩)))))))
          · rw [if_neg h9] at h
            by_cases hd : k = 10 ∨ k = 11
            · rw [if_pos hd, decide_eq_true_eq] at h
              rcases hd with hd | hd
              · exact .inr (.inr (.inr (.inr (.inr (.inr (.inr (.inr (.inl ⟨hd, h⟩))))))))
              · exact .inr (.inr (.inr (.inr (.inr (.inr (.inr (.inr (.inr (.inl ⟨hd, h⟩)))))))))
            · rw [if_neg hd] at h; cases h
theorem no_text (k : Int) (t : Bytes) (h : Tr.textOK k t = true) (hk : ¬ k = 2 ∧ ¬ k = 3 ∧ ¬ k = 4 ∧ ¬ k = 10 ∧ ¬ k = 11) : t = [] := by
  unfold Tr.textOK at h
  rw [if_neg hk.1, if_neg hk.2.1, if_neg hk.2.2.1, if_neg hk.2.2.2.1, if_neg hk.2.2.2.2] at h
  exact List.isEmpty_iff.1 h
theorem fence_two (t : Bytes) (h : Tr.fence t = true) : ∃ a b, t = [a, b] := by
  unfold Tr.fence at h
  split at h
  · exact ⟨_, _, rfl⟩
  · cases h
theorem nil_attrs : (decide ((([] : Attrs)).length ≤ 8) && attrsOK []) = true := rfl
set_option maxRecDepth 10000 in
theorem mk_ok (k : Int) (t : Bytes) (c : Int) (ss : List (List E)) (ht : Tr.textOK k t = true) (hk : Tr.kidsOK k c ss.length = true) (h1 : (k == 1) = false) (h : ∀ l ∈ ss, ∀ x ∈ l, ItE x) : ItE (mkE k t c ss) := by
  have hlen : ∀ (f : List E → E), (ss.map f).length = ss.length := fun f => List.length_map f
  rcases kinds_of k c ss.length hk h1 with ⟨rfl, hn⟩ | ⟨rfl, hn⟩ | ⟨rfl, hn⟩ | ⟨rfl, hn⟩ | ⟨rfl, hn⟩ | ⟨rfl, hn⟩ | ⟨rfl, hn⟩ | ⟨rfl, hn⟩ | ⟨rfl, hn⟩ | ⟨rfl, hn⟩ | ⟨rfl, hc1, hc2, hn1, hn2, hm⟩
  · have hv : validI 2 t 0 = true := by rw [validI_eq _ _ _ (by omega), ht]; rfl
    show ItE (.mk (if lett t then nMi else nMo) [] [] t)
    cases hl : lett t with
    | true => exact leaf_ok nMi (by decide) t (by show (lett t && true && true && validI 2 t 0) = true; rw [hl, hv]; rfl) (text_value _ _ ht)
    | false => exact leaf_ok nMo (by decide) t (by show (!lett t && true && true && validI 2 t 0) = true; rw [hl, hv]; rfl) (text_value _ _ ht)
  · exact leaf_ok nMn (by decide) t (by show (true && true && true && validI 3 t 0) = true; rw [validI_eq _ _ _ (by omega), ht]; rfl) (text_value _ _ ht)
  · exact leaf_ok nMtext (by decide) t (by show (true && true && true && validI 4 t 0) = true; rw [validI_eq _ _ _ (by omega), ht]; rfl) (text_value _ _ ht)
  · exact rows_ok nMfrac (by decide) (by decide) [] ss h (by show (true && decide ((ss.map (mrow nMrow)).length = 2) && true && decide (0 = 0)) = true; rw [hlen, hn]; rfl) nil_attrs
  · match ss, hn, h with
    | [] :: [b], _, h => exact rows_ok nMsqrt (by decide) (by decide) [] [b] (fun l hl => h l (List.mem_cons_of_mem _ hl)) rfl nil_attrs
    | (a0 :: a) :: [b], _, h => exact rows_ok nMroot (by decide) (by decide) [] [b, a0 :: a] (fun l hl => h l (by simp only [List.mem_cons, List.not_mem_nil, or_false] at hl ⊢; exact hl.symm)) rfl nil_attrs
  · exact rows_ok nMsub (by decide) (by decide) [] ss h (by show (true && decide ((ss.map (mrow nMrow)).length = 2) && true && decide (0 = 0)) = true; rw [hlen, hn]; rfl) nil_attrs
  · exact rows_ok nMsup (by decide) (by decide) [] ss h (by show (true && decide ((ss.map (mrow nMrow)).length = 2) && true && decide (0 = 0)) = true; rw [hlen, hn]; rfl) nil_attrs
  · exact rows_ok nMsubsup (by decide) (by decide) [] ss h (by show (true && decide ((ss.map (mrow nMrow)).length = 3) && true && decide (0 = 0)) = true; rw [hlen, hn]; rfl) nil_attrs
  · have hv : validI 10 t 1 = true := by rw [validI_eq _ _ _ (by omega), ht]; rfl
    refine rows_ok nMover (by decide) (by decide) [(nAccent, t)] ss h ?_ ?_
    · show (true && decide ((ss.map (mrow nMrow)).length = 1) && validI 10 t 1 && decide (1 = 1)) = true
      rw [hlen, hn, hv]; rfl
    · show (true && ((nameOK nAccent && valueOK t) && true && decide ([nAccent].Nodup))) = true
      rw [text_value _ _ ht]; decide
  · obtain ⟨a, b, rfl⟩ := fence_two t (by have := ht; unfold Tr.textOK at this; simpa using this)
    have hv : validI 11 [a, b] 1 = true := by rw [validI_eq _ _ _ (by omega), ht]; rfl
    have htv := text_value _ _ ht
    have hva : valueOK [a] = true ∧ valueOK [b] = true := by
      unfold valueOK at htv ⊢
      simp only [List.all_cons, List.all_nil, Bool.and_true, Bool.and_eq_true] at htv ⊢
      exact ⟨⟨htv.1.1, rfl⟩, htv.1.2, rfl⟩
    refine rows_ok nMfenced (by decide) (by decide) [(nOpen, [a]), (nClose, [b])] ss h ?_ ?_
    · show (true && decide ((ss.map (mrow nMrow)).length = 1) && (true && true && validI 11 [a, b] 1) && decide (2 = 2)) = true
      rw [hlen, hn, hv]; rfl
    · show (true && ((nameOK nOpen && valueOK [a]) && ((nameOK nClose && valueOK [b]) && true) && decide ([nOpen, nClose].Nodup))) = true
      rw [hva.1, hva.2]; decide
  · have hcn : (c.toNat : Int) = c := by omega
    have hmn : ss.length % c.toNat = 0 := by
      have : ((ss.length % c.toNat : Nat) : Int) = 0 := by rw [Int.natCast_emod, hcn]; exact hm
      omega
    have hgl := grid_count c.toNat (by omega) ss hmn
    have hga := grid_all c.toNat (by omega) ss hmn
    have hmap : (grid c.toNat (ss.map (mrow nMtd))) = (grid c.toNat ss).map fun r => r.map (mrow nMtd) := by
      unfold grid
      rw [List.length_map, List.map_map]
      refine List.map_congr_left fun r _ => ?_
      show ((ss.map (mrow nMtd)).drop _).take _ = ((ss.drop _).take _).map _
      rw [List.map_take, List.map_drop]
    show ItE (.mk nMtable [] ((grid c.toNat (ss.map (mrow nMtd))).map (mrow nMtr)) [])
    rw [hmap, List.map_map]
    refine table_ok (grid c.toNat ss) c.toNat ?_ (by omega) (by omega) (fun r hr => (hga r hr).1) (fun r hr l hl => h l ((hga r hr).2 l hl))
    rw [hgl.1]
    have : 0 < ss.length / c.toNat := Nat.div_pos (Nat.le_of_dvd (by omega) (Nat.dvd_of_mod_eq_zero hmn)) (by omega)
    exact this
theorem item_ok : ∀ (m : Nat) (x : Nd), Tr.count x ≤ m → Tr.form x = true → (x.kind == 1) = false → ItE (elE x) := by
  intro m
  induction m with
  | zero => intro x h; have := Tr.count_pos x; omega
  | succ m ih =>
    intro x hm hf hk
    have hs := slot_items x hf hk
    rw [Tr.form_eq, Bool.and_eq_true, Bool.and_eq_true] at hf
    rw [elE_eq]
    refine mk_ok _ _ _ _ hf.1.1 (by rw [slotsE_map, List.length_map]; exact hf.1.2) hk fun l hl e he => ?_
    rw [slotsE_map] at hl
    obtain ⟨r, hr, rfl⟩ := List.mem_map.1 hl
    rw [elK_map] at he
    obtain ⟨y, hy, rfl⟩ := List.mem_map.1 he
    obtain ⟨h1, h2, h3, h4⟩ := (hs r hr).2.2 y hy
    exact ih y (by omega) h2 h1
theorem tree_ok (n : Nd) (h : Tr.valid n = true) : okT (elM n) = true ∧ proper (elM n) = true := by
  unfold Tr.valid at h
  simp only [Bool.and_eq_true] at h
  refine row_ok nMath (by decide) _ fun e he => ?_
  rw [elK_map] at he
  obtain ⟨y, hy, rfl⟩ := List.mem_map.1 he
  have hf := h.1.1.2
  rw [Tr.form_eq, Bool.and_eq_true, h.1.1.1] at hf
  obtain ⟨h3, h4⟩ := formL_in _ _ hf.2 y hy
  exact item_ok _ y (Nat.le_refl _) h4 (by simpa using h3)

def sumC : List (List E) → Nat
  | [] => 0
  | l :: ls => countL l + sumC ls
def maxD : List (List E) → Nat
  | [] => 0
  | l :: ls => max (depthL l) (maxD ls)
theorem rows_count (nm : Bytes) (ss : List (List E)) : countL (ss.map (mrow nm)) = ss.length + sumC ss := by
  induction ss with
  | nil => rfl
  | cons l ss ih =>
    rw [List.map_cons, countL, ih, sumC, List.length_cons]
    show count (.mk nm [] l []) + _ = _
    rw [count]; omega
theorem rows_depth (nm : Bytes) (ss : List (List E)) : depthL (ss.map (mrow nm)) ≤ 1 + maxD ss := by
  induction ss with
  | nil => exact Nat.zero_le _
  | cons l ss ih =>
    rw [List.map_cons, depthL, maxD]
    have : depth (mrow nm l) = depthL l + 1 := by show depth (.mk nm [] l []) = _; rw [depth]
    omega
theorem grid_counts (nm : Bytes) (gs : List (List E)) : countL (gs.map (mrow nm)) = gs.length + countL gs.flatten := by
  induction gs with
  | nil => rfl
  | cons g gs ih =>
    rw [List.map_cons, countL, ih, List.flatten_cons, countL_app, List.length_cons]
    show count (.mk nm [] g []) + _ = _
    rw [count]; omega
theorem grid_depths (nm : Bytes) (gs : List (List E)) : depthL (gs.map (mrow nm)) ≤ 1 + depthL gs.flatten := by
  induction gs with
  | nil => exact Nat.zero_le _
  | cons g gs ih =>
    rw [List.map_cons, depthL, List.flatten_cons, depthL_app]
    have : depth (mrow nm g) = depthL g + 1 := by show depth (.mk nm [] g []) = _; rw [depth]
    omega
theorem mk_size (k : Int) (t : Bytes) (c : Int) (ss : List (List E)) (hk : Tr.kidsOK k c ss.length = true) (h1 : (k == 1) = false) :
    count (mkE k t c ss) ≤ 1 + 2 * ss.length + sumC ss ∧ depth (mkE k t c ss) ≤ (if ss.length = 0 then 1 else 3 + maxD ss) := by
  have hrc := rows_count nMrow ss
  have hrd := rows_depth nMrow ss
  rcases kinds_of k c ss.length hk h1 with ⟨rfl, hn⟩ | ⟨rfl, hn⟩ | ⟨rfl, hn⟩ | ⟨rfl, hn⟩ | ⟨rfl, hn⟩ | ⟨rfl, hn⟩ | ⟨rfl, hn⟩ | ⟨rfl, hn⟩ | ⟨rfl, hn⟩ | ⟨rfl, hn⟩ | ⟨rfl, hc1, hc2, hn1, hn2, hm⟩
  · rw [if_pos hn]
    show count (.mk _ [] [] t) ≤ _ ∧ depth (.mk _ [] [] t) ≤ _
    rw [count, countL, depth, depthL]; omega
  · rw [if_pos hn]
    show count (.mk _ [] [] t) ≤ _ ∧ depth (.mk _ [] [] t) ≤ _
    rw [count, countL, depth, depthL]; omega
  · rw [if_pos hn]
    show count (.mk _ [] [] t) ≤ _ ∧ depth (.mk _ [] [] t) ≤ _
    rw [count, countL, depth, depthL]; omega
  · rw [if_neg (by omega)]
    show count (.mk _ [] (ss.map (mrow nMrow)) []) ≤ _ ∧ depth (.mk _ [] (ss.map (mrow nMrow)) []) ≤ _
    rw [count, depth]; omega
  · rw [if_neg (by omega)]
    match ss, hn with
    | [] :: [b], _ =>
      show count (.mk nMsqrt [] [mrow nMrow b] []) ≤ _ ∧ depth (.mk nMsqrt [] [mrow nMrow b] []) ≤ _
      have h2 := rows_count nMrow [b]
      have h3 := rows_depth nMrow [b]
      simp only [List.map_cons, List.map_nil, sumC, maxD, List.length_cons, List.length_nil] at h2 h3 ⊢
      rw [count, depth, h2]
      simp only [countL, depthL] at *
      omega
    | (a0 :: a) :: [b], _ =>
      show count (.mk nMroot [] [mrow nMrow b, mrow nMrow (a0 :: a)] []) ≤ _ ∧ depth (.mk nMroot [] [mrow nMrow b, mrow nMrow (a0 :: a)] []) ≤ _
      have h2 := rows_count nMrow [b, a0 :: a]
      have h3 := rows_depth nMrow [b, a0 :: a]
      simp only [List.map_cons, List.map_nil, sumC, maxD, List.length_cons, List.length_nil] at h2 h3 ⊢
      rw [count, depth, h2]
      omega
  · rw [if_neg (by omega)]
    show count (.mk _ [] (ss.map (mrow nMrow)) []) ≤ _ ∧ depth (.mk _ [] (ss.map (mrow nMrow)) []) ≤ _
    rw [count, depth]; omega
  · rw [if_neg (by omega)]
    show count (.mk _ [] (ss.map (mrow nMrow)) []) ≤ _ ∧ depth (.mk _ [] (ss.map (mrow nMrow)) []) ≤ _
    rw [count, depth]; omega
  · rw [if_neg (by omega)]
    show count (.mk _ [] (ss.map (mrow nMrow)) []) ≤ _ ∧ depth (.mk _ [] (ss.map (mrow nMrow)) []) ≤ _
    rw [count, depth]; omega
  · rw [if_neg (by omega)]
    show count (.mk _ _ (ss.map (mrow nMrow)) []) ≤ _ ∧ depth (.mk _ _ (ss.map (mrow nMrow)) []) ≤ _
    rw [count, depth]; omega
  · rw [if_neg (by omega)]
    show count (.mk _ _ (ss.map (mrow nMrow)) []) ≤ _ ∧ depth (.mk _ _ (ss.map (mrow nMrow)) []) ≤ _
    rw [count, depth]; omega
  · rw [if_neg (by omega)]
    have hcn : (c.toNat : Int) = c := by omega
    have hmn : (ss.map (mrow nMtd)).length % c.toNat = 0 := by
      have : ((ss.length % c.toNat : Nat) : Int) = 0 := by rw [Int.natCast_emod, hcn]; exact hm
      rw [List.length_map]; omega
    have hg := grid_count c.toNat (by omega) (ss.map (mrow nMtd)) hmn
    have h2 := grid_counts nMtr (grid c.toNat (ss.map (mrow nMtd)))
    have h3 := grid_depths nMtr (grid c.toNat (ss.map (mrow nMtd)))
    have h4 := rows_count nMtd ss
    have h5 := rows_depth nMtd ss
    have h6 : ss.length / c.toNat ≤ ss.length := Nat.div_le_self _ _
    rw [hg.2] at h2 h3
    rw [hg.1, List.length_map] at h2
    show count (.mk nMtable [] ((grid c.toNat (ss.map (mrow nMtd))).map (mrow nMtr)) []) ≤ _ ∧ depth (.mk nMtable [] ((grid c.toNat (ss.map (mrow nMtd))).map (mrow nMtr)) []) ≤ _
    rw [count, depth]
    omega
theorem items_size (l : List Nd) (h : ∀ y ∈ l, count (elE y) ≤ 2 * Tr.count y ∧ 2 * depth (elE y) ≤ 3 * Tr.depth y) : countL (elK l) ≤ 2 * Tr.countL l ∧ 2 * depthL (elK l) ≤ 3 * Tr.depthL l := by
  induction l with
  | nil => rw [elK, countL, depthL]; omega
  | cons y l ih =>
    have h1 := ih fun z hz => h z (List.mem_cons_of_mem _ hz)
    have h2 := h y (List.mem_cons_self ..)
    rw [elK, countL, depthL, Tr.countL, Tr.depthL]
    omega
theorem item_size : ∀ (m : Nat) (x : Nd), Tr.count x ≤ m → Tr.form x = true → (x.kind == 1) = false → count (elE x) ≤ 2 * Tr.count x ∧ 2 * depth (elE x) ≤ 3 * Tr.depth x := by
  intro m
  induction m with
  | zero => intro x h; have := Tr.count_pos x; omega
  | succ m ih =>
    intro x hm hf hk
    have hs := slot_items x hf hk
    rw [Tr.form_eq, Bool.and_eq_true, Bool.and_eq_true] at hf
    rw [elE_eq]
    have hz := mk_size x.kind x.text x.cols (slotsE x.kids) (by rw [slotsE_map, List.length_map]; exact hf.1.2) hk
    have hl : (slotsE x.kids).length = x.kids.length := by rw [slotsE_map, List.length_map]
    have hsum : ∀ l : List Nd, (∀ r ∈ l, r ∈ x.kids) → l.length + sumC (slotsE l) ≤ 2 * Tr.countL l - l.length ∧ l.length ≤ Tr.countL l ∧ (l ≠ [] → 2 * maxD (slotsE l) + 3 ≤ 3 * Tr.depthL l) := by
      intro l
      induction l with
      | nil => intro _; rw [slotsE, sumC, Tr.countL]; exact ⟨Nat.le_refl _, Nat.le_refl _, fun h => absurd rfl h⟩
      | cons r l ihl =>
        intro hm'
        obtain ⟨h1, h2, h3⟩ := ihl fun z hz => hm' z (List.mem_cons_of_mem _ hz)
        have hr := hs r (hm' r (List.mem_cons_self ..))
        have h4 := items_size r.kids fun y hy => by
          obtain ⟨g1, g2, g3, g4⟩ := hr.2.2 y hy
          exact ih y (by omega) g2 g1
        rw [slotsE_map, List.map_cons, ← slotsE_map, sumC, maxD, Tr.countL, Tr.depthL, Tr.count_kids r, Tr.depth_kids r, List.length_cons]
        refine ⟨by omega, by omega, fun _ => ?_⟩
        by_cases hl0 : l = []
        · subst hl0
          rw [slotsE, maxD, Tr.depthL]
          omega
        · have := h3 hl0
          omega
    obtain ⟨h1, h2, h3⟩ := hsum x.kids fun r hr => hr
    rw [Tr.count_kids x, Tr.depth_kids x]
    refine ⟨by omega, ?_⟩
    by_cases h0 : (slotsE x.kids).length = 0
    · rw [if_pos h0] at hz; omega
    · rw [if_neg h0] at hz
      have := h3 (fun h => by rw [hl, h] at h0; exact h0 rfl)
      omega
theorem tree_size (n : Nd) (h : Tr.valid n = true) : count (elM n) ≤ 2 * Tr.count n ∧ 2 * depth (elM n) ≤ 3 * Tr.depth n := by
  unfold Tr.valid at h
  simp only [Bool.and_eq_true] at h
  have hf := h.1.1.2
  rw [Tr.form_eq, Bool.and_eq_true, h.1.1.1] at hf
  have := items_size n.kids fun y hy => by
    obtain ⟨h3, h4⟩ := formL_in _ _ hf.2 y hy
    exact item_size _ y (Nat.le_refl _) h4 (by simpa using h3)
  show count (.mk nMath [] (elK n.kids) []) ≤ _ ∧ 2 * depth (.mk nMath [] (elK n.kids) []) ≤ _
  rw [count, depth, Tr.count_kids n, Tr.depth_kids n]
  omega
theorem tree_valid (n : Nd) (h : Tr.valid n = true) : valid (elM n) = true := by
  have h1 := tree_ok n h
  have h2 := tree_size n h
  unfold Tr.valid at h
  simp only [Bool.and_eq_true, decide_eq_true_eq] at h
  unfold valid
  rw [h1.2, Bool.true_and, Bool.and_eq_true, decide_eq_true_eq, decide_eq_true_eq]
  omega
end Go.Proofs.Ytloipakdnalpdaa.El
