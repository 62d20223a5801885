/- The element of a valid tree is valid and can be carried: no program in sight. -/
import Derived.Test.YtloipakdnalpdaaMnR
namespace Go.Proofs.Ytloipakdnalpdaa.El
open Tr (Nd)

theorem valid_one (x : Nd) (hc : Tr.count x ≤ 10) (hd : Tr.depth x ≤ 10) : Tr.valid (.mk 1 [] 0 [x]) = ((x.kind != 1) && Tr.form x) := by
  unfold Tr.valid
  have h1 : decide (Tr.count (.mk 1 [] 0 [x]) ≤ 1000) = true := by rw [Tr.count, Tr.countL, Tr.countL]; exact decide_eq_true (by omega)
  have h2 : decide (Tr.depth (.mk 1 [] 0 [x]) ≤ 24) = true := by rw [Tr.depth, Tr.depthL, Tr.depthL]; exact decide_eq_true (by omega)
  rw [h1, h2, Bool.and_true, Bool.and_true, Tr.form, Tr.formL, Tr.formL, Bool.and_true]
  show (true && (true && ((x.kind == 1) != true) && Tr.form x)) = _ 
  rw [Bool.true_and, Bool.true_and]
  cases h : x.kind == 1 <;> simp [bne, h]
theorem validI_eq (k : Int) (t : Bytes) (s : Nat) (hs : s ≤ 1) : validI k t s = ((k != 1) && (Tr.textOK k t && Tr.kidsOK k 0 s)) := by
  have h : s = 0 ∨ s = 1 := by omega
  unfold validI
  rcases h with rfl | rfl
  · rw [valid_one _ (by rw [Tr.count, List.replicate, Tr.countL]; omega) (by rw [Tr.depth, List.replicate, Tr.depthL]; omega), Tr.form, List.replicate, Tr.formL, Bool.and_true]; rfl
  · rw [valid_one _ (by simp only [Tr.count, List.replicate, Tr.countL, rowNil]; omega) (by simp only [Tr.depth, List.replicate, Tr.depthL, rowNil]; decide), Tr.form]
    show ((k != 1) && (Tr.textOK k t && Tr.kidsOK k 0 1 && Tr.formL (k == 1) [rowNil])) = _
    cases h : k == 1 with
    | true => simp [bne, h]
    | false =>
      rw [show Tr.formL false [rowNil] = true from by simp only [Tr.formL, rowNil, Tr.form]; rfl, Bool.and_true]
def itemNames : List Bytes := [nMi, nMo, nMn, nMtext, nMfrac, nMsqrt, nMroot, nMsub, nMsup, nMsubsup, nMover, nMfenced, nMtable]
def rowNames : List Bytes := [nMath, nMrow, nMtd]
theorem names_ok : ∀ n ∈ itemNames ++ rowNames ++ [nMtr], nameOK n = true := by decide
/-- An element that stands for an item. -/
def ItE (e : E) : Prop := okT e = true ∧ proper e = true ∧ e.name ∈ itemNames
theorem adm_item (n : Bytes) (hn : n ∈ rowNames) (a : Attrs) (ks : List E) (t : Bytes) (x : E) (hx : x.name ∈ itemNames) : admF (.mk n a ks t) x = true := by
  obtain ⟨m, b, ls, s⟩ := x
  have h1 : n = nMath ∨ n = nMrow ∨ n = nMtd := by simpa [rowNames] using hn
  have h2 : ∀ m ∈ itemNames, !(decide (m = nMath) || decide (m = nMrow) || decide (m = nMtd) || decide (m = nMtr)) := by decide
  show (if _ then _ else _) = true
  rw [if_pos h1]
  exact h2 m hx
theorem ownF_row (n : Bytes) (hn : n ∈ rowNames) (l : List E) : ownF (.mk n [] l []) = true := by
  have h1 : n = nMath ∨ n = nMrow ∨ n = nMtd := by simpa [rowNames] using hn
  rcases h1 with rfl | rfl | rfl <;> rfl
theorem ownOK_bare (n : Bytes) (hn : nameOK n = true) (l : List E) : ownOK (.mk n [] l []) = true := by
  show (nameOK n && valueOK [] && (([] : Bytes).isEmpty || l.isEmpty) && decide (0 ≤ 8) && attrsOK []) = true
  rw [hn]; rfl
/-- A row of items. -/
theorem row_ok (n : Bytes) (hn : n ∈ rowNames) (l : List E) (h : ∀ x ∈ l, ItE x) : okT (mrow n l) = true ∧ proper (mrow n l) = true := by
  unfold mrow
  rw [okT_eq, ownF_row n hn, proper_eq, ownOK_bare n (names_ok n (by simp [hn]))]
  refine ⟨?_, ?_⟩
  · rw [Bool.true_and, okL_all, List.all_eq_true]
    intro x hx
    rw [adm_item n hn _ _ _ x (h x hx).2.2, (h x hx).1]; rfl
  · rw [Bool.true_and, properL_all, List.all_eq_true]
    exact fun x hx => (h x hx).2.1
/-- An element whose kids are rows. -/
theorem rows_ok (n : Bytes) (hn : n ∈ itemNames) (h0 : n ≠ nMtable) (a : Attrs) (ls : List (List E)) (h : ∀ l ∈ ls, ∀ x ∈ l, ItE x) (ho : ownF (.mk n a (ls.map (mrow nMrow)) []) = true) (ha : (decide (a.length ≤ 8) && attrsOK a) = true) : ItE (.mk n a (ls.map (mrow nMrow)) []) := by
  have hadm : ∀ m ∈ itemNames, m ≠ nMtable → ¬ (m = nMath ∨ m = nMrow ∨ m = nMtd) ∧ m ≠ nMtr := by decide
  have hr : ∀ x ∈ ls.map (mrow nMrow), okT x = true ∧ proper x = true ∧ x.name = nMrow := by
    intro x hx
    obtain ⟨l, hl, rfl⟩ := List.mem_map.1 hx
    have := row_ok nMrow (by simp [rowNames]) l (h l hl)
    exact ⟨this.1, this.2, rfl⟩
  refine ⟨?_, ?_, hn⟩
  · rw [okT_eq, ho, Bool.true_and, okL_all, List.all_eq_true]
    intro x hx
    obtain ⟨h1, _, h3⟩ := hr x hx
    obtain ⟨m, b, js, s⟩ := x
    rw [h1, Bool.and_true]
    show (if _ then _ else _) = true
    rw [if_neg (hadm n hn h0).1, if_neg h0, if_neg (hadm n hn h0).2]
    exact decide_eq_true h3
  · rw [proper_eq, Bool.and_eq_true]
    refine ⟨?_, ?_⟩
    · show (nameOK n && valueOK [] && (([] : Bytes).isEmpty || (ls.map (mrow nMrow)).isEmpty) && decide (a.length ≤ 8) && attrsOK a) = true
      rw [Bool.and_eq_true] at ha
      rw [names_ok n (by simp [hn]), ha.1, ha.2]; rfl
    · rw [properL_all, List.all_eq_true]
      exact fun x hx => (hr x hx).2.1
theorem leaf_ok (n : Bytes) (hn : n ∈ itemNames) (t : Bytes) (ho : ownF (.mk n [] [] t) = true) (ht : valueOK t = true) : ItE (.mk n [] [] t) := by
  refine ⟨?_, ?_, hn⟩
  · rw [okT_eq, ho]; exact (by rw [E.kids, okL]; rfl)
  · rw [proper_eq, Bool.and_eq_true]
    refine ⟨?_, by rw [E.kids, properL]⟩
    show (nameOK n && valueOK t && (t.isEmpty || true) && decide (0 ≤ 8) && attrsOK []) = true
    rw [names_ok n (by simp [hn]), ht, Bool.or_true]; rfl

theorem grid_all {α : Type} (c : Nat) (hc : 0 < c) (l : List α) (hd : l.length % c = 0) : ∀ r ∈ grid c l, r.length = c ∧ ∀ x ∈ r, x ∈ l := by
  intro r hr
  unfold grid at hr
  obtain ⟨i, hi, rfl⟩ := List.mem_map.1 hr
  have hi := List.mem_range.1 hi
  have h1 : l.length = l.length / c * c := by have := Nat.div_add_mod l.length c; rw [Nat.mul_comm] at this; omega
  have h2 : (l.length + c - 1) / c = l.length / c := by
    have := ceil_mul c (l.length / c) hc
    rw [← h1] at this
    exact this
  rw [h2] at hi
  have h3 : (i + 1) * c ≤ l.length / c * c := Nat.mul_le_mul_right c hi
  rw [Nat.add_mul, Nat.one_mul] at h3
  refine ⟨by rw [List.length_take, List.length_drop]; omega, fun x hx => List.mem_of_mem_drop (List.mem_of_mem_take hx)⟩
theorem grid_count {α : Type} (c : Nat) (hc : 0 < c) (l : List α) (hd : l.length % c = 0) : (grid c l).length = l.length / c ∧ (grid c l).flatten = l := by
  have h1 : l.length = l.length / c * c := by have := Nat.div_add_mod l.length c; rw [Nat.mul_comm] at this; omega
  have h2 : (l.length + c - 1) / c = l.length / c := by
    have := ceil_mul c (l.length / c) hc
    rw [← h1] at this
    exact this
  refine ⟨by unfold grid; rw [List.length_map, List.length_range, h2], ?_⟩
  unfold grid
  rw [h2]
  have : ∀ k, k * c ≤ l.length → ((List.range k).map fun r => (l.drop (r * c)).take c).flatten = l.take (k * c) := by
    intro k
    induction k with
    | zero => intro _; simp
    | succ k ih =>
      intro hk
      rw [Nat.add_mul, Nat.one_mul] at hk ⊢
      rw [List.range_succ, List.map_append, List.flatten_append, ih (by omega), List.map_singleton, List.flatten_singleton, List.take_add]
  rw [this _ (by omega), List.take_of_length_le (by omega)]
/-- A table of rows of cells. -/
theorem table_ok (gs : List (List (List E))) (c : Nat) (h0 : 0 < gs.length) (hc : 1 ≤ c) (hc2 : c ≤ 16) (hl : ∀ r ∈ gs, r.length = c) (h : ∀ r ∈ gs, ∀ l ∈ r, ∀ x ∈ l, ItE x) : ItE (.mk nMtable [] (gs.map fun r => mrow nMtr (r.map (mrow nMtd))) []) := by
  have hr : ∀ r ∈ gs, okT (mrow nMtr (r.map (mrow nMtd))) = true ∧ proper (mrow nMtr (r.map (mrow nMtd))) = true := by
    intro r hr
    have hx : ∀ x ∈ r.map (mrow nMtd), okT x = true ∧ proper x = true ∧ x.name = nMtd := by
      intro x hx
      obtain ⟨l, hl, rfl⟩ := List.mem_map.1 hx
      have := row_ok nMtd (by simp [rowNames]) l (h r hr l hl)
      exact ⟨this.1, this.2, rfl⟩
    have ho : ownF (mrow nMtr (r.map (mrow nMtd))) = true := by
      show (true && (decide (1 ≤ (r.map (mrow nMtd)).length) && decide ((r.map (mrow nMtd)).length ≤ 16)) && true && decide (0 = 0)) = true
      rw [List.length_map, hl r hr, decide_eq_true hc, decide_eq_true hc2]; rfl
    refine ⟨?_, ?_⟩
    · rw [okT_eq, ho, Bool.true_and, okL_all, List.all_eq_true]
      intro x hx'
      obtain ⟨h1, _, h3⟩ := hx x hx'
      obtain ⟨m, b, js, s⟩ := x
      rw [h1, Bool.and_true]
      exact decide_eq_true h3
    · rw [proper_eq, Bool.and_eq_true]
      refine ⟨ownOK_bare nMtr (by decide) _, ?_⟩
      rw [properL_all, List.all_eq_true]
      exact fun x hx' => (hx x hx').2.1
  refine ⟨?_, ?_, (show nMtable ∈ itemNames by decide)⟩
  · have ho : ownF (.mk nMtable [] (gs.map fun r => mrow nMtr (r.map (mrow nMtd))) []) = true := by
      show (true && decide (1 ≤ (gs.map fun r => mrow nMtr (r.map (mrow nMtd))).length) && true && decide (0 = 0)) = true
      rw [List.length_map, decide_eq_true (show 1 ≤ gs.length from h0)]; rfl
    rw [okT_eq, ho, Bool.true_and, okL_all, List.all_eq_true]
    intro x hx
    obtain ⟨r, hr', rfl⟩ := List.mem_map.1 hx
    rw [(hr r hr').1, Bool.and_true]
    have hlr := hl r hr'
    match gs, h0, hl with
    | g :: gs', _, hl =>
      show (true && decide ((r.map (mrow nMtd)).length = (g.map (mrow nMtd)).length)) = true
      rw [List.length_map, List.length_map, hlr, hl g (List.mem_cons_self ..)]
      simp
  · rw [proper_eq, Bool.and_eq_true]
    refine ⟨ownOK_bare nMtable (by decide) _, ?_⟩
    rw [properL_all, List.all_eq_true]
    intro x hx
    obtain ⟨r, hr', rfl⟩ := List.mem_map.1 hx
    exact (hr r hr').2

theorem char_prints : ∀ n : Fin 256, Tr.character (UInt8.ofNat n.1) = true → printable (UInt8.ofNat n.1) = true := by decide +kernel
theorem char_print (b : UInt8) (h : Tr.character b = true) : printable b = true := by
  have := char_prints ⟨b.toNat, b.toNat_lt⟩
  simp only [UInt8.ofNat_toNat] at this
  exact this h
theorem digit_prints : ∀ n : Fin 256, Tr.digit (UInt8.ofNat n.1) = true → printable (UInt8.ofNat n.1) = true := by decide +kernel
theorem digit_print (b : UInt8) (h : Tr.digit b = true) : printable b = true := by
  have := digit_prints ⟨b.toNat, b.toNat_lt⟩
  simp only [UInt8.ofNat_toNat] at this
  exact this h
theorem letter_print (b : UInt8) (h : Tr.letter b = true) : printable b = true := char_print b (by unfold Tr.character; rw [h]; rfl)
theorem all_imp {p q : UInt8 → Bool} (h : ∀ b, p b = true → q b = true) (s : Bytes) (hs : s.all p = true) : s.all q = true := by
  rw [List.all_eq_true] at hs ⊢
  exact fun b hb => h b (hs b hb)
theorem num_print (s : Bytes) (h1 : (s.takeWhile (· ≠ 46)).all Tr.digit = true) (h2 : ∀ d b, s.dropWhile (· ≠ 46) = d :: b → b.all Tr.digit = true) : s.all printable = true := by
  induction s with
  | nil => rfl
  | cons x r ih =>
    rw [List.all_cons, Bool.and_eq_true]
    by_cases hx : x = 46
    · subst hx
      refine ⟨by decide, all_imp digit_print r (h2 46 r (by simp [List.dropWhile]))⟩
    · rw [List.takeWhile_cons_of_pos (by simpa using hx), List.all_cons, Bool.and_eq_true] at h1
      refine ⟨digit_print x h1.1, ih h1.2 fun d b hd => h2 d b ?_⟩
      rw [List.dropWhile_cons_of_pos (by simpa using hx), hd]
theorem text_value (k : Int) (s : Bytes) (h : Tr.textOK k s = true) : valueOK s = true := by
  unfold valueOK
  rw [Bool.and_eq_true, decide_eq_true_eq]
  unfold Tr.textOK at h
  split at h
  · unfold Tr.symbol at h
    split at h
    · exact ⟨by rw [List.all_cons, char_print _ h]; rfl, by simp⟩
    · simp only [Bool.and_eq_true, decide_eq_true_eq] at h
      exact ⟨all_imp letter_print s h.1.1.1.1, by omega⟩
  split at h
  · unfold Tr.isNum at h
    simp only [Bool.and_eq_true, decide_eq_true_eq, Bool.or_eq_true] at h
    refine ⟨?_, by omega⟩
    rcases h.2 with h2 | h2
    · exact all_imp digit_print s h2
    · split at h2
      · rename_i d b hd
        simp only [Bool.and_eq_true] at h2
        refine num_print s h2.1.1.2 fun d' b' hd' => ?_
        rw [hd] at hd'
        cases hd'
        exact h2.2
      · cases h2
  split at h
  · simp only [Bool.and_eq_true, decide_eq_true_eq] at h
    exact ⟨by have := h.2; unfold Tr.printable at this; exact this, h.1⟩
  split at h
  · have hm := List.contains_iff_mem.1 h
    have ha : ∀ t ∈ Tr.accents, t.all printable = true ∧ t.length ≤ 200 := by decide
    exact ha s hm
  split at h
  · unfold Tr.fence at h
    split at h
    · rename_i a b
      rw [Bool.and_eq_true] at h
      have hd : ∀ c ∈ Tr.delims, printable c = true := by decide
      exact ⟨by rw [List.all_cons, List.all_cons, hd a (List.contains_iff_mem.1 h.1), hd b (List.contains_iff_mem.1 h.2)]; rfl, by simp⟩
    · cases h
  · rw [List.isEmpty_iff.1 h]; exact ⟨rfl, by simp⟩
end Go.Proofs.Ytloipakdnalpdaa.El
