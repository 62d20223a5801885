/- Part 30 of 35 of a proof; its texts, joined: MnQ, MnS, MqA, MqB. No condition. -/
import Derived.Test.YtnbeemkfmlfgfaaGreatDoorYa29
import Derived.Test.YtnbeemkfmlfgfaaGreatDoorYa18
set_option maxRecDepth 100000
namespace Go.Proofs.YtnbeemkfmlfgfaaGreatDoor.El
open Tr (Nd)
theorem valid_one (x : Nd) (hc : Tr.count x ≤ 10) (hd : Tr.depth x ≤ 10) : Tr.valid (.mk 1 [] 0 [x]) = ((x.kind != 1) && Tr.form x) := by
 unfold Tr.valid;have h1 : decide (Tr.count (.mk 1 [] 0 [x]) ≤ 1000) = true := by rw [Tr.count, Tr.countL, Tr.countL]; exact decide_eq_true (by omega)
 have h2 : decide (Tr.depth (.mk 1 [] 0 [x]) ≤ 24) = true := by rw [Tr.depth, Tr.depthL, Tr.depthL]; exact decide_eq_true (by omega)
 rw [h1, h2, Bool.and_true, Bool.and_true, Tr.form, Tr.formL, Tr.formL, Bool.and_true];show (true && (true && ((x.kind == 1) != true) && Tr.form x)) = _;rw [Bool.true_and, Bool.true_and];cases h : x.kind == 1 <;> simp [bne, h]
theorem validI_eq (k : Int) (t : Bytes) (s : Nat) (hs : s ≤ 1) : validI k t s = ((k != 1) && (Tr.textOK k t && Tr.kidsOK k 0 s)) := by
 have h : s = 0 ∨ s = 1 := by omega
 unfold validI
 rcases h with rfl | rfl
 ·rw [valid_one _ (by rw [Tr.count, List.replicate, Tr.countL]; omega) (by rw [Tr.depth, List.replicate, Tr.depthL]; omega), Tr.form, List.replicate, Tr.formL, Bool.and_true]; rfl
 ·rw [valid_one _ (by simp only [Tr.count, List.replicate, Tr.countL, rowNil]; omega) (by simp only [Tr.depth, List.replicate, Tr.depthL, rowNil]; decide), Tr.form]
  show ((k != 1) && (Tr.textOK k t && Tr.kidsOK k 0 1 && Tr.formL (k == 1) [rowNil])) = _;cases h : k == 1 with
  | true => simp [bne, h]
  | false =>
   rw [show Tr.formL false [rowNil] = true from by simp only [Tr.formL, rowNil, Tr.form]; rfl, Bool.and_true]
def itemNames : List Bytes := [nMi, nMo, nMn, nMtext, nMfrac, nMsqrt, nMroot, nMsub, nMsup, nMsubsup, nMover, nMfenced, nMtable]
def rowNames : List Bytes := [nMath, nMrow, nMtd]
theorem names_ok : ∀ n ∈ itemNames ++ rowNames ++ [nMtr], nameOK n = true := by decide
def ItE (e : E) : Prop := okT e = true ∧ proper e = true ∧ e.name ∈ itemNames
theorem adm_item (n : Bytes) (hn : n ∈ rowNames) (a : Attrs) (ks : List E) (t : Bytes) (x : E) (hx : x.name ∈ itemNames) : admF (.mk n a ks t) x = true := by
 obtain ⟨m, b, ls, s⟩ := x;have h1 : n = nMath ∨ n = nMrow ∨ n = nMtd := by simpa [rowNames] using hn
 have h2 : ∀ m ∈ itemNames, !(decide (m = nMath) || decide (m = nMrow) || decide (m = nMtd) || decide (m = nMtr)) := by decide
 show (if _ then _ else _) = true;rw [if_pos h1];exact h2 m hx
theorem ownF_row (n : Bytes) (hn : n ∈ rowNames) (l : List E) : ownF (.mk n [] l []) = true := by
 have h1 : n = nMath ∨ n = nMrow ∨ n = nMtd := by simpa [rowNames] using hn
 rcases h1 with rfl | rfl | rfl <;> rfl
theorem ownOK_bare (n : Bytes) (hn : nameOK n = true) (l : List E) : ownOK (.mk n [] l []) = true := by
 show (nameOK n && valueOK [] && (([] : Bytes).isEmpty || l.isEmpty) && decide (0 ≤ 8) && attrsOK []) = true;rw [hn]; rfl
theorem row_ok (n : Bytes) (hn : n ∈ rowNames) (l : List E) (h : ∀ x ∈ l, ItE x) : okT (mrow n l) = true ∧ proper (mrow n l) = true := by
 unfold mrow;rw [okT_eq, ownF_row n hn, proper_eq, ownOK_bare n (names_ok n (by simp [hn]))];refine ⟨?_, ?_⟩
 ·rw [Bool.true_and, okL_all, List.all_eq_true]
  intro x hx;rw [adm_item n hn _ _ _ x (h x hx).2.2, (h x hx).1]; rfl
 ·rw [Bool.true_and, properL_all, List.all_eq_true]
  exact fun x hx => (h x hx).2.1
theorem rows_ok (n : Bytes) (hn : n ∈ itemNames) (h0 : n ≠ nMtable) (a : Attrs) (ls : List (List E)) (h : ∀ l ∈ ls, ∀ x ∈ l, ItE x) (ho : ownF (.mk n a (ls.map (mrow nMrow)) []) = true) (ha : (decide (a.length ≤ 8) && attrsOK a) = true) : ItE (.mk n a (ls.map (mrow nMrow)) []) := by
 have hadm : ∀ m ∈ itemNames, m ≠ nMtable → ¬ (m = nMath ∨ m = nMrow ∨ m = nMtd) ∧ m ≠ nMtr := by decide
 have hr : ∀ x ∈ ls.map (mrow nMrow), okT x = true ∧ proper x = true ∧ x.name = nMrow := by
  intro x hx;obtain ⟨l, hl, rfl⟩ := List.mem_map.1 hx;have := row_ok nMrow (by simp [rowNames]) l (h l hl);exact ⟨this.1, this.2, rfl⟩
 refine ⟨?_, ?_, hn⟩
 ·rw [okT_eq, ho, Bool.true_and, okL_all, List.all_eq_true]
  intro x hx;obtain ⟨h1, _, h3⟩ := hr x hx;obtain ⟨m, b, js, s⟩ := x;rw [h1, Bool.and_true];show (if _ then _ else _) = true;rw [if_neg (hadm n hn h0).1, if_neg h0, if_neg (hadm n hn h0).2];exact decide_eq_true h3
 ·rw [proper_eq, Bool.and_eq_true]
  refine ⟨?_, ?_⟩
  ·show (nameOK n && valueOK [] && (([] : Bytes).isEmpty || (ls.map (mrow nMrow)).isEmpty) && decide (a.length ≤ 8) && attrsOK a) = true
   rw [Bool.and_eq_true] at ha;rw [names_ok n (by simp [hn]), ha.1, ha.2]; rfl
  ·rw [properL_all, List.all_eq_true]
   exact fun x hx => (hr x hx).2.1
theorem leaf_ok (n : Bytes) (hn : n ∈ itemNames) (t : Bytes) (ho : ownF (.mk n [] [] t) = true) (ht : valueOK t = true) : ItE (.mk n [] [] t) := by
 refine ⟨?_, ?_, hn⟩
 ·rw [okT_eq, ho]; exact (by rw [E.kids, okL]; rfl)
 ·rw [proper_eq, Bool.and_eq_true]
  refine ⟨?_, by rw [E.kids, properL]⟩;show (nameOK n && valueOK t && (t.isEmpty || true) && decide (0 ≤ 8) && attrsOK []) = true;rw [names_ok n (by simp [hn]), ht, Bool.or_true]; rfl
theorem grid_all {α : Type} (c : Nat) (hc : 0 < c) (l : List α) (hd : l.length % c = 0) : ∀ r ∈ grid c l, r.length = c ∧ ∀ x ∈ r, x ∈ l := by
 intro r hr;unfold grid at hr;obtain ⟨i, hi, rfl⟩ := List.mem_map.1 hr;have hi := List.mem_range.1 hi;have h1 : l.length = l.length / c * c := by have := Nat.div_add_mod l.length c; rw [Nat.mul_comm] at this; omega
 have h2 : (l.length + c - 1) / c = l.length / c := by
  have := ceil_mul c (l.length / c) hc;rw [← h1] at this;exact this
 rw [h2] at hi;have h3 : (i + 1) * c ≤ l.length / c * c := Nat.mul_le_mul_right c hi;rw [Nat.add_mul, Nat.one_mul] at h3;refine ⟨by rw [List.length_take, List.length_drop]; omega, fun x hx => List.mem_of_mem_drop (List.mem_of_mem_take hx)⟩
theorem grid_count {α : Type} (c : Nat) (hc : 0 < c) (l : List α) (hd : l.length % c = 0) : (grid c l).length = l.length / c ∧ (grid c l).flatten = l := by
 have h1 : l.length = l.length / c * c := by have := Nat.div_add_mod l.length c; rw [Nat.mul_comm] at this; omega
 have h2 : (l.length + c - 1) / c = l.length / c := by
  have := ceil_mul c (l.length / c) hc;rw [← h1] at this;exact this
 refine ⟨by unfold grid; rw [List.length_map, List.length_range, h2], ?_⟩;unfold grid;rw [h2]
 have : ∀ k, k * c ≤ l.length → ((List.range k).map fun r => (l.drop (r * c)).take c).flatten = l.take (k * c) := by
  intro k
  induction k with
  | zero => intro _; simp
  | succ k ih =>
   intro hk;rw [Nat.add_mul, Nat.one_mul] at hk ⊢;rw [List.range_succ, List.map_append, List.flatten_append, ih (by omega), List.map_singleton, List.flatten_singleton, List.take_add]
 rw [this _ (by omega), List.take_of_length_le (by omega)]
theorem table_ok (gs : List (List (List E))) (c : Nat) (h0 : 0 < gs.length) (hc : 1 ≤ c) (hc2 : c ≤ 16) (hl : ∀ r ∈ gs, r.length = c) (h : ∀ r ∈ gs, ∀ l ∈ r, ∀ x ∈ l, ItE x) : ItE (.mk nMtable [] (gs.map fun r => mrow nMtr (r.map (mrow nMtd))) []) := by
 have hr : ∀ r ∈ gs, okT (mrow nMtr (r.map (mrow nMtd))) = true ∧ proper (mrow nMtr (r.map (mrow nMtd))) = true := by
  intro r hr
  have hx : ∀ x ∈ r.map (mrow nMtd), okT x = true ∧ proper x = true ∧ x.name = nMtd := by
   intro x hx;obtain ⟨l, hl, rfl⟩ := List.mem_map.1 hx;have := row_ok nMtd (by simp [rowNames]) l (h r hr l hl);exact ⟨this.1, this.2, rfl⟩
  have ho : ownF (mrow nMtr (r.map (mrow nMtd))) = true := by
   show (true && (decide (1 ≤ (r.map (mrow nMtd)).length) && decide ((r.map (mrow nMtd)).length ≤ 16)) && true && decide (0 = 0)) = true;rw [List.length_map, hl r hr, decide_eq_true hc, decide_eq_true hc2]; rfl
  refine ⟨?_, ?_⟩
  ·rw [okT_eq, ho, Bool.true_and, okL_all, List.all_eq_true]
   intro x hx';obtain ⟨h1, _, h3⟩ := hx x hx';obtain ⟨m, b, js, s⟩ := x;rw [h1, Bool.and_true];exact decide_eq_true h3
  ·rw [proper_eq, Bool.and_eq_true]
   refine ⟨ownOK_bare nMtr (by decide) _, ?_⟩;rw [properL_all, List.all_eq_true];exact fun x hx' => (hx x hx').2.1
 refine ⟨?_, ?_, (show nMtable ∈ itemNames by decide)⟩
 ·have ho : ownF (.mk nMtable [] (gs.map fun r => mrow nMtr (r.map (mrow nMtd))) []) = true := by
   show (true && decide (1 ≤ (gs.map fun r => mrow nMtr (r.map (mrow nMtd))).length) && true && decide (0 = 0)) = true;rw [List.length_map, decide_eq_true (show 1 ≤ gs.length from h0)]; rfl
  rw [okT_eq, ho, Bool.true_and, okL_all, List.all_eq_true];intro x hx;obtain ⟨r, hr', rfl⟩ := List.mem_map.1 hx;rw [(hr r hr').1, Bool.and_true];have hlr := hl r hr'
  match gs, h0, hl with
  | g :: gs', _, hl =>
   show (true && decide ((r.map (mrow nMtd)).length = (g.map (mrow nMtd)).length)) = true;rw [List.length_map, List.length_map, hlr, hl g (List.mem_cons_self ..)];simp
 ·rw [proper_eq, Bool.and_eq_true]
  refine ⟨ownOK_bare nMtable (by decide) _, ?_⟩;rw [properL_all, List.all_eq_true];intro x hx;obtain ⟨r, hr', rfl⟩ := List.mem_map.1 hx;exact (hr r hr').2
theorem char_prints : ∀ n : Fin 256, Tr.character (UInt8.ofNat n.1) = true → printable (UInt8.ofNat n.1) = true := by decide +kernel
theorem char_print (b : UInt8) (h : Tr.character b = true) : printable b = true := by
 have := char_prints ⟨b.toNat, b.toNat_lt⟩;simp only [UInt8.ofNat_toNat] at this;exact this h
theorem digit_prints : ∀ n : Fin 256, Tr.digit (UInt8.ofNat n.1) = true → printable (UInt8.ofNat n.1) = true := by decide +kernel
theorem digit_print (b : UInt8) (h : Tr.digit b = true) : printable b = true := by
 have := digit_prints ⟨b.toNat, b.toNat_lt⟩;simp only [UInt8.ofNat_toNat] at this;exact this h
theorem letter_print (b : UInt8) (h : Tr.letter b = true) : printable b = true := char_print b (by unfold Tr.character; rw [h]; rfl)
theorem all_imp {p q : UInt8 → Bool} (h : ∀ b, p b = true → q b = true) (s : Bytes) (hs : s.all p = true) : s.all q = true := by
 rw [List.all_eq_true] at hs ⊢;exact fun b hb => h b (hs b hb)
theorem num_print (s : Bytes) (h1 : (s.takeWhile (· ≠ 46)).all Tr.digit = true) (h2 : ∀ d b, s.dropWhile (· ≠ 46) = d :: b → b.all Tr.digit = true) : s.all printable = true := by
 induction s with
 | nil => rfl
 | cons x r ih =>
  rw [List.all_cons, Bool.and_eq_true]
  by_cases hx : x = 46
  ·subst hx
   refine ⟨by decide, all_imp digit_print r (h2 46 r (by simp [List.dropWhile]))⟩
  ·rw [List.takeWhile_cons_of_pos (by simpa using hx), List.all_cons, Bool.and_eq_true] at h1
   refine ⟨digit_print x h1.1, ih h1.2 fun d b hd => h2 d b ?_⟩;rw [List.dropWhile_cons_of_pos (by simpa using hx), hd]
theorem text_value (k : Int) (s : Bytes) (h : Tr.textOK k s = true) : valueOK s = true := by
 unfold valueOK;rw [Bool.and_eq_true, decide_eq_true_eq];unfold Tr.textOK at h;split at h
 ·unfold Tr.symbol at h
  split at h
  ·exact ⟨by rw [List.all_cons, char_print _ h]; rfl, by simp⟩
  ·simp only [Bool.and_eq_true, decide_eq_true_eq] at h
   exact ⟨all_imp letter_print s h.1.1.1.1, by omega⟩
 split at h
 ·unfold Tr.isNum at h
  simp only [Bool.and_eq_true, decide_eq_true_eq, Bool.or_eq_true] at h;refine ⟨?_, by omega⟩
  rcases h.2 with h2 | h2
  ·exact all_imp digit_print s h2
  ·split at h2
   ·rename_i d b hd
    simp only [Bool.and_eq_true] at h2;refine num_print s h2.1.1.2 fun d' b' hd' => ?_
    rw [hd] at hd';cases hd';exact h2.2
   ·cases h2
 split at h
 ·simp only [Bool.and_eq_true, decide_eq_true_eq] at h
  exact ⟨by have := h.2; unfold Tr.printable at this; exact this, h.1⟩
 split at h
 ·have hm := List.contains_iff_mem.1 h
  have ha : ∀ t ∈ Tr.accents, t.all printable = true ∧ t.length ≤ 200 := by decide
  exact ha s hm
 split at h
 ·unfold Tr.fence at h
  split at h
  ·rename_i a b
   rw [Bool.and_eq_true] at h;have hd : ∀ c ∈ Tr.delims, printable c = true := by decide
   exact ⟨by rw [List.all_cons, List.all_cons, hd a (List.contains_iff_mem.1 h.1), hd b (List.contains_iff_mem.1 h.2)]; rfl, by simp⟩
  ·cases h
 ·rw [List.isEmpty_iff.1 h]; exact ⟨rfl, by simp⟩
end Go.Proofs.YtnbeemkfmlfgfaaGreatDoor.El
namespace Go.Proofs.YtnbeemkfmlfgfaaGreatDoor.El
open Tr (Nd)
theorem formL_in (r : Bool) : ∀ (l : List Nd), Tr.formL r l = true → ∀ x ∈ l, ((x.kind == 1) != r) = true ∧ Tr.form x = true
 | [], _, x, hx => by cases hx
 | y :: l, h, x, hx => by
  rw [Tr.formL, Bool.and_eq_true, Bool.and_eq_true] at h
  rcases List.mem_cons.1 hx with rfl | hx
  ·exact h.1
  ·exact formL_in r l h.2 x hx
theorem slot_items (x : Nd) (hf : Tr.form x = true) (hk : (x.kind == 1) = false) : ∀ r ∈ x.kids, r.kind = 1 ∧ Tr.form r = true ∧ ∀ y ∈ r.kids, (y.kind == 1) = false ∧ Tr.form y = true ∧ Tr.count y < Tr.count r ∧ Tr.count r < Tr.count x := by
 intro r hr;rw [Tr.form_eq, Bool.and_eq_true, hk] at hf;obtain ⟨h1, h2⟩ := formL_in _ _ hf.2 r hr;have h1' : r.kind = 1 := by simpa using h1
 refine ⟨h1', h2, fun y hy => ?_⟩;rw [Tr.form_eq, Bool.and_eq_true, h1'] at h2;obtain ⟨h3, h4⟩ := formL_in _ _ h2.2 y hy;have := Tr.count_mem hy;have := Tr.count_kids r;have := Tr.count_mem hr;have := Tr.count_kids x;exact ⟨by simpa using h3, h4, by omega, by omega⟩
theorem kinds_of (k c : Int) (n : Nat) (h : Tr.kidsOK k c n = true) (h1 : (k == 1) = false) :
  (k = 2 ∧ n = 0) ∨ (k = 3 ∧ n = 0) ∨ (k = 4 ∧ n = 0) ∨ (k = 5 ∧ n = 2) ∨ (k = 6 ∧ n = 2) ∨ (k = 7 ∧ n = 2) ∨ (k = 8 ∧ n = 2) ∨ (k = 9 ∧ n = 3) ∨ (k = 10 ∧ n = 1) ∨ (k = 11 ∧ n = 1) ∨ (k = 12 ∧ 1 ≤ c ∧ c ≤ 16 ∧ 1 ≤ n ∧ n ≤ 256 ∧ (n : Int) % c = 0) := by
 have h1' : k ≠ 1 := by simpa using h1
 unfold Tr.kidsOK at h
 by_cases h12 : k = 12
 ·rw [if_pos h12] at h
  simp only [Bool.and_eq_true, decide_eq_true_eq] at h;exact .inr (.inr (.inr (.inr (.inr (.inr (.inr (.inr (.inr (.inr ⟨h12, h.1.1.1.1, h.1.1.1.2, h.1.1.2, h.1.2, h.2⟩)))))))))
 ·rw [if_neg h12] at h
  by_cases hc : c ≠ 0
  ·rw [if_pos hc] at h; cases h
  ·rw [if_neg hc, if_neg h1'] at h
   by_cases ha : k = 2 ∨ k = 3 ∨ k = 4
   ·rw [if_pos ha, decide_eq_true_eq] at h
    rcases ha with ha | ha | ha
    ·exact .inl ⟨ha, h⟩
    ·exact .inr (.inl ⟨ha, h⟩)
    ·exact .inr (.inr (.inl ⟨ha, h⟩))
   ·rw [if_neg ha] at h
    by_cases hb : k = 5 ∨ k = 6 ∨ k = 7 ∨ k = 8
    ·rw [if_pos hb, decide_eq_true_eq] at h
     rcases hb with hb | hb | hb | hb
     ·exact .inr (.inr (.inr (.inl ⟨hb, h⟩)))
     ·exact .inr (.inr (.inr (.inr (.inl ⟨hb, h⟩))))
     ·exact .inr (.inr (.inr (.inr (.inr (.inl ⟨hb, h⟩)))))
     ·exact .inr (.inr (.inr (.inr (.inr (.inr (.inl ⟨hb, h⟩))))))
    ·rw [if_neg hb] at h
     by_cases h9 : k = 9
     ·rw [if_pos h9, decide_eq_true_eq] at h
      exact .inr (.inr (.inr (.inr (.inr (.inr (.inr (.inl ⟨h9, h⟩)))))))
     ·rw [if_neg h9] at h
      by_cases hd : k = 10 ∨ k = 11
      ·rw [if_pos hd, decide_eq_true_eq] at h
       rcases hd with hd | hd
       ·exact .inr (.inr (.inr (.inr (.inr (.inr (.inr (.inr (.inl ⟨hd, h⟩))))))))
       ·exact .inr (.inr (.inr (.inr (.inr (.inr (.inr (.inr (.inr (.inl ⟨hd, h⟩)))))))))
      ·rw [if_neg hd] at h; cases h
theorem no_text (k : Int) (t : Bytes) (h : Tr.textOK k t = true) (hk : ¬ k = 2 ∧ ¬ k = 3 ∧ ¬ k = 4 ∧ ¬ k = 10 ∧ ¬ k = 11) : t = [] := by
 unfold Tr.textOK at h;rw [if_neg hk.1, if_neg hk.2.1, if_neg hk.2.2.1, if_neg hk.2.2.2.1, if_neg hk.2.2.2.2] at h;exact List.isEmpty_iff.1 h
theorem fence_two (t : Bytes) (h : Tr.fence t = true) : ∃ a b, t = [a, b] := by
 unfold Tr.fence at h;split at h
 ·exact ⟨_, _, rfl⟩
 ·cases h
theorem nil_attrs : (decide ((([] : Attrs)).length ≤ 8) && attrsOK []) = true := rfl
theorem mk_ok (k : Int) (t : Bytes) (c : Int) (ss : List (List E)) (ht : Tr.textOK k t = true) (hk : Tr.kidsOK k c ss.length = true) (h1 : (k == 1) = false) (h : ∀ l ∈ ss, ∀ x ∈ l, ItE x) : ItE (mkE k t c ss) := by
 have hlen : ∀ (f : List E → E), (ss.map f).length = ss.length := fun f => List.length_map f
 rcases kinds_of k c ss.length hk h1 with ⟨rfl, hn⟩ | ⟨rfl, hn⟩ | ⟨rfl, hn⟩ | ⟨rfl, hn⟩ | ⟨rfl, hn⟩ | ⟨rfl, hn⟩ | ⟨rfl, hn⟩ | ⟨rfl, hn⟩ | ⟨rfl, hn⟩ | ⟨rfl, hn⟩ | ⟨rfl, hc1, hc2, hn1, hn2, hm⟩
 ·have hv : validI 2 t 0 = true := by rw [validI_eq _ _ _ (by omega), ht]; rfl
  show ItE (.mk (if lett t then nMi else nMo) [] [] t);cases hl : lett t with
  | true => exact leaf_ok nMi (by decide) t (by show (lett t && true && true && validI 2 t 0) = true; rw [hl, hv]; rfl) (text_value _ _ ht)
  | false => exact leaf_ok nMo (by decide) t (by show (!lett t && true && true && validI 2 t 0) = true; rw [hl, hv]; rfl) (text_value _ _ ht)
 ·exact leaf_ok nMn (by decide) t (by show (true && true && true && validI 3 t 0) = true; rw [validI_eq _ _ _ (by omega), ht]; rfl) (text_value _ _ ht)
 ·exact leaf_ok nMtext (by decide) t (by show (true && true && true && validI 4 t 0) = true; rw [validI_eq _ _ _ (by omega), ht]; rfl) (text_value _ _ ht)
 ·exact rows_ok nMfrac (by decide) (by decide) [] ss h (by show (true && decide ((ss.map (mrow nMrow)).length = 2) && true && decide (0 = 0)) = true; rw [hlen, hn]; rfl) nil_attrs
 ·match ss, hn, h with
  | [] :: [b], _, h => exact rows_ok nMsqrt (by decide) (by decide) [] [b] (fun l hl => h l (List.mem_cons_of_mem _ hl)) rfl nil_attrs
  | (a0 :: a) :: [b], _, h => exact rows_ok nMroot (by decide) (by decide) [] [b, a0 :: a] (fun l hl => h l (by simp only [List.mem_cons, List.not_mem_nil, or_false] at hl ⊢; exact hl.symm)) rfl nil_attrs
 ·exact rows_ok nMsub (by decide) (by decide) [] ss h (by show (true && decide ((ss.map (mrow nMrow)).length = 2) && true && decide (0 = 0)) = true; rw [hlen, hn]; rfl) nil_attrs
 ·exact rows_ok nMsup (by decide) (by decide) [] ss h (by show (true && decide ((ss.map (mrow nMrow)).length = 2) && true && decide (0 = 0)) = true; rw [hlen, hn]; rfl) nil_attrs
 ·exact rows_ok nMsubsup (by decide) (by decide) [] ss h (by show (true && decide ((ss.map (mrow nMrow)).length = 3) && true && decide (0 = 0)) = true; rw [hlen, hn]; rfl) nil_attrs
 ·have hv : validI 10 t 1 = true := by rw [validI_eq _ _ _ (by omega), ht]; rfl
  refine rows_ok nMover (by decide) (by decide) [(nAccent, t)] ss h ?_ ?_
  ·show (true && decide ((ss.map (mrow nMrow)).length = 1) && validI 10 t 1 && decide (1 = 1)) = true
   rw [hlen, hn, hv]; rfl
  ·show (true && ((nameOK nAccent && valueOK t) && true && decide ([nAccent].Nodup))) = true
   rw [text_value _ _ ht]; decide
 ·obtain ⟨a, b, rfl⟩ := fence_two t (by have := ht; unfold Tr.textOK at this; simpa using this)
  have hv : validI 11 [a, b] 1 = true := by rw [validI_eq _ _ _ (by omega), ht]; rfl
  have htv := text_value _ _ ht
  have hva : valueOK [a] = true ∧ valueOK [b] = true := by
   unfold valueOK at htv ⊢;simp only [List.all_cons, List.all_nil, Bool.and_true, Bool.and_eq_true] at htv ⊢;exact ⟨⟨htv.1.1, rfl⟩, htv.1.2, rfl⟩
  refine rows_ok nMfenced (by decide) (by decide) [(nOpen, [a]), (nClose, [b])] ss h ?_ ?_
  ·show (true && decide ((ss.map (mrow nMrow)).length = 1) && (true && true && validI 11 [a, b] 1) && decide (2 = 2)) = true
   rw [hlen, hn, hv]; rfl
  ·show (true && ((nameOK nOpen && valueOK [a]) && ((nameOK nClose && valueOK [b]) && true) && decide ([nOpen, nClose].Nodup))) = true
   rw [hva.1, hva.2]; decide
 ·have hcn : (c.toNat : Int) = c := by omega
  have hmn : ss.length % c.toNat = 0 := by
   have : ((ss.length % c.toNat : Nat) : Int) = 0 := by rw [Int.natCast_emod, hcn]; exact hm
   omega
  have hgl := grid_count c.toNat (by omega) ss hmn;have hga := grid_all c.toNat (by omega) ss hmn
  have hmap : (grid c.toNat (ss.map (mrow nMtd))) = (grid c.toNat ss).map fun r => r.map (mrow nMtd) := by
   unfold grid;rw [List.length_map, List.map_map];refine List.map_congr_left fun r _ => ?_
   show ((ss.map (mrow nMtd)).drop _).take _ = ((ss.drop _).take _).map _;rw [List.map_take, List.map_drop]
  show ItE (.mk nMtable [] ((grid c.toNat (ss.map (mrow nMtd))).map (mrow nMtr)) []);rw [hmap, List.map_map];refine table_ok (grid c.toNat ss) c.toNat ?_ (by omega) (by omega) (fun r hr => (hga r hr).1) (fun r hr l hl => h l ((hga r hr).2 l hl));rw [hgl.1];have : 0 < ss.length / c.toNat := Nat.div_pos (Nat.le_of_dvd (by omega) (Nat.dvd_of_mod_eq_zero hmn)) (by omega);exact this
theorem item_ok : ∀ (m : Nat) (x : Nd), Tr.count x ≤ m → Tr.form x = true → (x.kind == 1) = false → ItE (elE x) := by
 intro m
 induction m with
 | zero => intro x h; have := Tr.count_pos x; omega
 | succ m ih =>
  intro x hm hf hk;have hs := slot_items x hf hk;rw [Tr.form_eq, Bool.and_eq_true, Bool.and_eq_true] at hf;rw [elE_eq];refine mk_ok _ _ _ _ hf.1.1 (by rw [slotsE_map, List.length_map]; exact hf.1.2) hk fun l hl e he => ?_
  rw [slotsE_map] at hl;obtain ⟨r, hr, rfl⟩ := List.mem_map.1 hl;rw [elK_map] at he;obtain ⟨y, hy, rfl⟩ := List.mem_map.1 he;obtain ⟨h1, h2, h3, h4⟩ := (hs r hr).2.2 y hy;exact ih y (by omega) h2 h1
theorem tree_ok (n : Nd) (h : Tr.valid n = true) : okT (elM n) = true ∧ proper (elM n) = true := by
 unfold Tr.valid at h;simp only [Bool.and_eq_true] at h;refine row_ok nMath (by decide) _ fun e he => ?_
 rw [elK_map] at he;obtain ⟨y, hy, rfl⟩ := List.mem_map.1 he;have hf := h.1.1.2;rw [Tr.form_eq, Bool.and_eq_true, h.1.1.1] at hf;obtain ⟨h3, h4⟩ := formL_in _ _ hf.2 y hy;exact item_ok _ y (Nat.le_refl _) h4 (by simpa using h3)
def sumC : List (List E) → Nat
 | [] => 0
 | l :: ls => countL l + sumC ls
def maxD : List (List E) → Nat
 | [] => 0
 | l :: ls => max (depthL l) (maxD ls)
theorem rows_count (nm : Bytes) (ss : List (List E)) : countL (ss.map (mrow nm)) = ss.length + sumC ss := by
 induction ss with
 | nil => rfl
 | cons l ss ih =>
  rw [List.map_cons, countL, ih, sumC, List.length_cons];show count (.mk nm [] l []) + _ = _;rw [count]; omega
theorem rows_depth (nm : Bytes) (ss : List (List E)) : depthL (ss.map (mrow nm)) ≤ 1 + maxD ss := by
 induction ss with
 | nil => exact Nat.zero_le _
 | cons l ss ih =>
  rw [List.map_cons, depthL, maxD];have : depth (mrow nm l) = depthL l + 1 := by show depth (.mk nm [] l []) = _; rw [depth]
  omega
theorem grid_counts (nm : Bytes) (gs : List (List E)) : countL (gs.map (mrow nm)) = gs.length + countL gs.flatten := by
 induction gs with
 | nil => rfl
 | cons g gs ih =>
  rw [List.map_cons, countL, ih, List.flatten_cons, countL_app, List.length_cons];show count (.mk nm [] g []) + _ = _;rw [count]; omega
theorem grid_depths (nm : Bytes) (gs : List (List E)) : depthL (gs.map (mrow nm)) ≤ 1 + depthL gs.flatten := by
 induction gs with
 | nil => exact Nat.zero_le _
 | cons g gs ih =>
  rw [List.map_cons, depthL, List.flatten_cons, depthL_app];have : depth (mrow nm g) = depthL g + 1 := by show depth (.mk nm [] g []) = _; rw [depth]
  omega
theorem mk_size (k : Int) (t : Bytes) (c : Int) (ss : List (List E)) (hk : Tr.kidsOK k c ss.length = true) (h1 : (k == 1) = false) :
  count (mkE k t c ss) ≤ 1 + 2 * ss.length + sumC ss ∧ depth (mkE k t c ss) ≤ (if ss.length = 0 then 1 else 3 + maxD ss) := by
 have hrc := rows_count nMrow ss;have hrd := rows_depth nMrow ss
 rcases kinds_of k c ss.length hk h1 with ⟨rfl, hn⟩ | ⟨rfl, hn⟩ | ⟨rfl, hn⟩ | ⟨rfl, hn⟩ | ⟨rfl, hn⟩ | ⟨rfl, hn⟩ | ⟨rfl, hn⟩ | ⟨rfl, hn⟩ | ⟨rfl, hn⟩ | ⟨rfl, hn⟩ | ⟨rfl, hc1, hc2, hn1, hn2, hm⟩
 ·rw [if_pos hn]
  show count (.mk _ [] [] t) ≤ _ ∧ depth (.mk _ [] [] t) ≤ _;rw [count, countL, depth, depthL]; omega
 ·rw [if_pos hn]
  show count (.mk _ [] [] t) ≤ _ ∧ depth (.mk _ [] [] t) ≤ _;rw [count, countL, depth, depthL]; omega
 ·rw [if_pos hn]
  show count (.mk _ [] [] t) ≤ _ ∧ depth (.mk _ [] [] t) ≤ _;rw [count, countL, depth, depthL]; omega
 ·rw [if_neg (by omega)]
  show count (.mk _ [] (ss.map (mrow nMrow)) []) ≤ _ ∧ depth (.mk _ [] (ss.map (mrow nMrow)) []) ≤ _;rw [count, depth]; omega
 ·rw [if_neg (by omega)]
  match ss, hn with
  | [] :: [b], _ =>
   show count (.mk nMsqrt [] [mrow nMrow b] []) ≤ _ ∧ depth (.mk nMsqrt [] [mrow nMrow b] []) ≤ _;have h2 := rows_count nMrow [b];have h3 := rows_depth nMrow [b];simp only [List.map_cons, List.map_nil, sumC, maxD, List.length_cons, List.length_nil] at h2 h3 ⊢;rw [count, depth, h2];simp only [countL, depthL] at *;omega
  | (a0 :: a) :: [b], _ =>
   show count (.mk nMroot [] [mrow nMrow b, mrow nMrow (a0 :: a)] []) ≤ _ ∧ depth (.mk nMroot [] [mrow nMrow b, mrow nMrow (a0 :: a)] []) ≤ _;have h2 := rows_count nMrow [b, a0 :: a];have h3 := rows_depth nMrow [b, a0 :: a];simp only [List.map_cons, List.map_nil, sumC, maxD, List.length_cons, List.length_nil] at h2 h3 ⊢;rw [count, depth, h2];omega
 ·rw [if_neg (by omega)]
  show count (.mk _ [] (ss.map (mrow nMrow)) []) ≤ _ ∧ depth (.mk _ [] (ss.map (mrow nMrow)) []) ≤ _;rw [count, depth]; omega
 ·rw [if_neg (by omega)]
  show count (.mk _ [] (ss.map (mrow nMrow)) []) ≤ _ ∧ depth (.mk _ [] (ss.map (mrow nMrow)) []) ≤ _;rw [count, depth]; omega
 ·rw [if_neg (by omega)]
  show count (.mk _ [] (ss.map (mrow nMrow)) []) ≤ _ ∧ depth (.mk _ [] (ss.map (mrow nMrow)) []) ≤ _;rw [count, depth]; omega
 ·rw [if_neg (by omega)]
  show count (.mk _ _ (ss.map (mrow nMrow)) []) ≤ _ ∧ depth (.mk _ _ (ss.map (mrow nMrow)) []) ≤ _;rw [count, depth]; omega
 ·rw [if_neg (by omega)]
  show count (.mk _ _ (ss.map (mrow nMrow)) []) ≤ _ ∧ depth (.mk _ _ (ss.map (mrow nMrow)) []) ≤ _;rw [count, depth]; omega
 ·rw [if_neg (by omega)]
  have hcn : (c.toNat : Int) = c := by omega
  have hmn : (ss.map (mrow nMtd)).length % c.toNat = 0 := by
   have : ((ss.length % c.toNat : Nat) : Int) = 0 := by rw [Int.natCast_emod, hcn]; exact hm
   rw [List.length_map]; omega
  have hg := grid_count c.toNat (by omega) (ss.map (mrow nMtd)) hmn;have h2 := grid_counts nMtr (grid c.toNat (ss.map (mrow nMtd)));have h3 := grid_depths nMtr (grid c.toNat (ss.map (mrow nMtd)));have h4 := rows_count nMtd ss;have h5 := rows_depth nMtd ss;have h6 : ss.length / c.toNat ≤ ss.length := Nat.div_le_self _ _;rw [hg.2] at h2 h3;rw [hg.1, List.length_map] at h2;show count (.mk nMtable [] ((grid c.toNat (ss.map (mrow nMtd))).map (mrow nMtr)) []) ≤ _ ∧ depth (.mk nMtable [] ((grid c.toNat (ss.map (mrow nMtd))).map (mrow nMtr)) []) ≤ _;rw [count, depth];omega
theorem items_size (l : List Nd) (h : ∀ y ∈ l, count (elE y) ≤ 2 * Tr.count y ∧ 2 * depth (elE y) ≤ 3 * Tr.depth y) : countL (elK l) ≤ 2 * Tr.countL l ∧ 2 * depthL (elK l) ≤ 3 * Tr.depthL l := by
 induction l with
 | nil => rw [elK, countL, depthL]; omega
 | cons y l ih =>
  have h1 := ih fun z hz => h z (List.mem_cons_of_mem _ hz)
  have h2 := h y (List.mem_cons_self ..);rw [elK, countL, depthL, Tr.countL, Tr.depthL];omega
theorem item_size : ∀ (m : Nat) (x : Nd), Tr.count x ≤ m → Tr.form x = true → (x.kind == 1) = false → count (elE x) ≤ 2 * Tr.count x ∧ 2 * depth (elE x) ≤ 3 * Tr.depth x := by
 intro m
 induction m with
 | zero => intro x h; have := Tr.count_pos x; omega
 | succ m ih =>
  intro x hm hf hk;have hs := slot_items x hf hk;rw [Tr.form_eq, Bool.and_eq_true, Bool.and_eq_true] at hf;rw [elE_eq];have hz := mk_size x.kind x.text x.cols (slotsE x.kids) (by rw [slotsE_map, List.length_map]; exact hf.1.2) hk;have hl : (slotsE x.kids).length = x.kids.length := by rw [slotsE_map, List.length_map]
  have hsum : ∀ l : List Nd, (∀ r ∈ l, r ∈ x.kids) → l.length + sumC (slotsE l) ≤ 2 * Tr.countL l - l.length ∧ l.length ≤ Tr.countL l ∧ (l ≠ [] → 2 * maxD (slotsE l) + 3 ≤ 3 * Tr.depthL l) := by
   intro l
   induction l with
   | nil => intro _; rw [slotsE, sumC, Tr.countL]; exact ⟨Nat.le_refl _, Nat.le_refl _, fun h => absurd rfl h⟩
   | cons r l ihl =>
    intro hm';obtain ⟨h1, h2, h3⟩ := ihl fun z hz => hm' z (List.mem_cons_of_mem _ hz)
    have hr := hs r (hm' r (List.mem_cons_self ..))
    have h4 := items_size r.kids fun y hy => by
     obtain ⟨g1, g2, g3, g4⟩ := hr.2.2 y hy;exact ih y (by omega) g2 g1
    rw [slotsE_map, List.map_cons, ← slotsE_map, sumC, maxD, Tr.countL, Tr.depthL, Tr.count_kids r, Tr.depth_kids r, List.length_cons];refine ⟨by omega, by omega, fun _ => ?_⟩
    by_cases hl0 : l = []
    ·subst hl0
     rw [slotsE, maxD, Tr.depthL];omega
    ·have := h3 hl0
     omega
  obtain ⟨h1, h2, h3⟩ := hsum x.kids fun r hr => hr
  rw [Tr.count_kids x, Tr.depth_kids x];refine ⟨by omega, ?_⟩
  by_cases h0 : (slotsE x.kids).length = 0
  ·rw [if_pos h0] at hz; omega
  ·rw [if_neg h0] at hz
   have := h3 (fun h => by rw [hl, h] at h0; exact h0 rfl);omega
theorem tree_size (n : Nd) (h : Tr.valid n = true) : count (elM n) ≤ 2 * Tr.count n ∧ 2 * depth (elM n) ≤ 3 * Tr.depth n := by
 unfold Tr.valid at h;simp only [Bool.and_eq_true] at h;have hf := h.1.1.2;rw [Tr.form_eq, Bool.and_eq_true, h.1.1.1] at hf
 have := items_size n.kids fun y hy => by
  obtain ⟨h3, h4⟩ := formL_in _ _ hf.2 y hy;exact item_size _ y (Nat.le_refl _) h4 (by simpa using h3)
 show count (.mk nMath [] (elK n.kids) []) ≤ _ ∧ 2 * depth (.mk nMath [] (elK n.kids) []) ≤ _;rw [count, depth, Tr.count_kids n, Tr.depth_kids n];omega
theorem tree_valid (n : Nd) (h : Tr.valid n = true) : valid (elM n) = true := by
 have h1 := tree_ok n h;have h2 := tree_size n h;unfold Tr.valid at h;simp only [Bool.and_eq_true, decide_eq_true_eq] at h;unfold valid;rw [h1.2, Bool.true_and, Bool.and_eq_true, decide_eq_true_eq, decide_eq_true_eq];omega
end Go.Proofs.YtnbeemkfmlfgfaaGreatDoor.El
namespace Go.Proofs.YtnbeemkfmlfgfaaGreatDoor.El
open Tr (Nd)
theorem rows_of (ss : List (List E)) : rowsN (ss.map (mrow nMrow)) = ss.map fun l => .mk 1 [] 0 (itemsN l) := by
 rw [rowsN_map, List.map_map];exact List.map_congr_left fun l _ => rfl
theorem cells_grid (gs : List (List (List E))) : cellsN ((gs.map fun r => r.map (mrow nMtd)).map (mrow nMtr)) = gs.flatten.map fun l => .mk 1 [] 0 (itemsN l) := by
 rw [cellsN_map]
 induction gs with
 | nil => rfl
 | cons r gs ih =>
  rw [List.map_cons, List.map_cons, List.flatMap_cons, ih, List.flatten_cons, List.map_append]
  congr 1
  show rowsN (r.map (mrow nMtd)) = _;rw [rowsN_map, List.map_map];exact List.map_congr_left fun l _ => rfl
theorem mk_back (k : Int) (t : Bytes) (c : Int) (ss : List (List E)) (ht : Tr.textOK k t = true) (hk : Tr.kidsOK k c ss.length = true) (h1 : (k == 1) = false) : itemN (mkE k t c ss) = .mk k t c (ss.map fun l => .mk 1 [] 0 (itemsN l)) := by
 have hc0 : k ≠ 12 → c = 0 := by
  intro h;have h2 := hk;unfold Tr.kidsOK at h2;rw [if_neg h] at h2
  by_cases hc : c = 0
  ·exact hc
  ·rw [if_pos hc] at h2; cases h2
 have hnt := no_text k t ht
 rcases kinds_of k c ss.length hk h1 with ⟨rfl, hn⟩ | ⟨rfl, hn⟩ | ⟨rfl, hn⟩ | ⟨rfl, hn⟩ | ⟨rfl, hn⟩ | ⟨rfl, hn⟩ | ⟨rfl, hn⟩ | ⟨rfl, hn⟩ | ⟨rfl, hn⟩ | ⟨rfl, hn⟩ | ⟨rfl, hc1, hc2, hn1, hn2, hm⟩
 ·rw [hc0 (by decide), List.length_eq_zero_iff.1 hn]
  show itemN (.mk (if lett t then nMi else nMo) [] [] t) = .mk 2 t 0 [];cases lett t <;> rfl
 ·rw [hc0 (by decide), List.length_eq_zero_iff.1 hn]; rfl
 ·rw [hc0 (by decide), List.length_eq_zero_iff.1 hn]; rfl
 ·rw [hc0 (by decide), hnt (by decide)]
  show Nd.mk 5 [] 0 (rowsN (ss.map (mrow nMrow))) = _;rw [rows_of]
 ·rw [hc0 (by decide), hnt (by decide)]
  match ss, hn with
  | [] :: [b], _ => rfl
  | (a0 :: a) :: [b], _ => rfl
 ·rw [hc0 (by decide), hnt (by decide)]
  show Nd.mk 7 [] 0 (rowsN (ss.map (mrow nMrow))) = _;rw [rows_of]
 ·rw [hc0 (by decide), hnt (by decide)]
  show Nd.mk 8 [] 0 (rowsN (ss.map (mrow nMrow))) = _;rw [rows_of]
 ·rw [hc0 (by decide), hnt (by decide)]
  show Nd.mk 9 [] 0 (rowsN (ss.map (mrow nMrow))) = _;rw [rows_of]
 ·rw [hc0 (by decide)]
  match ss, hn with
  | [l], _ => rfl
 ·rw [hc0 (by decide)]
  obtain ⟨a, b, rfl⟩ := fence_two t (by have := ht; unfold Tr.textOK at this; simpa using this)
  match ss, hn with
  | [l], _ => rfl
 ·rw [hnt (by decide)]
  have hcn : (c.toNat : Int) = c := by omega
  have hmn : ss.length % c.toNat = 0 := by
   have : ((ss.length % c.toNat : Nat) : Int) = 0 := by rw [Int.natCast_emod, hcn]; exact hm
   omega
  have hgl := grid_count c.toNat (by omega) ss hmn;have hga := grid_all c.toNat (by omega) ss hmn
  have hmap : (grid c.toNat (ss.map (mrow nMtd))) = (grid c.toNat ss).map fun r => r.map (mrow nMtd) := by
   unfold grid;rw [List.length_map, List.map_map];refine List.map_congr_left fun r _ => ?_
   show ((ss.map (mrow nMtd)).drop _).take _ = ((ss.drop _).take _).map _;rw [List.map_take, List.map_drop]
  have hcols : colsN (((grid c.toNat ss).map fun r => r.map (mrow nMtd)).map (mrow nMtr)) = c.toNat := by
   have hpos : 0 < (grid c.toNat ss).length := by
    rw [hgl.1];exact Nat.div_pos (Nat.le_of_dvd (by omega) (Nat.dvd_of_mod_eq_zero hmn)) (by omega)
   cases hg : grid c.toNat ss with
   | nil => rw [hg] at hpos; cases hpos
   | cons r gs =>
    have := (hga r (by rw [hg]; exact List.mem_cons_self ..)).1;show (r.map (mrow nMtd)).length = _;rw [List.length_map, this]
  show Nd.mk 12 [] (colsN ((grid c.toNat (ss.map (mrow nMtd))).map (mrow nMtr)) : Int) (cellsN ((grid c.toNat (ss.map (mrow nMtd))).map (mrow nMtr))) = _;rw [hmap, hcols, cells_grid, hgl.2, hcn]
theorem row_bare (r : Nd) (h1 : r.kind = 1) (hf : Tr.form r = true) : r = .mk 1 [] 0 r.kids := by
 rw [Tr.form_eq, Bool.and_eq_true, Bool.and_eq_true, h1] at hf;have ht : r.text = [] := no_text 1 r.text hf.1.1 (by decide)
 have hc : r.cols = 0 := by
  have h2 := hf.1.2;unfold Tr.kidsOK at h2;rw [if_neg (by decide)] at h2
  by_cases hc : r.cols = 0
  ·exact hc
  ·rw [if_pos hc] at h2; cases h2
 obtain ⟨k, t, c, ks⟩ := r;show Nd.mk k t c ks = _;replace h1 : k = 1 := h1;replace ht : t = [] := ht;replace hc : c = 0 := hc;subst h1 ht hc;rfl
theorem items_back (l : List Nd) (h : ∀ x ∈ l, itemN (elE x) = x) : itemsN (elK l) = l := by
 rw [itemsN_map, elK_map, List.map_map]
 conv => rhs; rw [← List.map_id l]
 exact List.map_congr_left h
theorem item_back : ∀ (m : Nat) (x : Nd), Tr.count x ≤ m → Tr.form x = true → (x.kind == 1) = false → itemN (elE x) = x := by
 intro m
 induction m with
 | zero => intro x h; have := Tr.count_pos x; omega
 | succ m ih =>
  intro x hm hf hk;have hs := slot_items x hf hk;have hf2 := hf;rw [Tr.form_eq, Bool.and_eq_true, Bool.and_eq_true] at hf2;rw [elE_eq, mk_back _ _ _ _ hf2.1.1 (by rw [slotsE_map, List.length_map]; exact hf2.1.2) hk, slotsE_map, List.map_map]
  have hks : (x.kids.map ((fun l => Nd.mk 1 [] 0 (itemsN l)) ∘ fun n => elK n.kids)) = x.kids := by
   conv => rhs; rw [← List.map_id x.kids]
   refine List.map_congr_left fun r hr => ?_
   obtain ⟨g1, g2, g3⟩ := hs r hr;show Nd.mk 1 [] 0 (itemsN (elK r.kids)) = r
   rw [items_back r.kids fun y hy => by
    obtain ⟨h1, h2, h3, h4⟩ := g3 y hy;exact ih y (by omega) h2 h1]
   exact (row_bare r g1 g2).symm
  rw [hks];cases x;rfl
theorem tree_back (n : Nd) (h : Tr.valid n = true) : rowN (elM n) = n := by
 have h2 := h;unfold Tr.valid at h2;simp only [Bool.and_eq_true] at h2;have hk : n.kind = 1 := by simpa using h2.1.1.1
 have hf := h2.1.1.2;show Nd.mk 1 [] 0 (itemsN (elK n.kids)) = n
 rw [items_back n.kids fun y hy => by
  have hf2 := hf;rw [Tr.form_eq, Bool.and_eq_true, h2.1.1.1] at hf2;obtain ⟨h3, h4⟩ := formL_in _ _ hf2.2 y hy;exact item_back _ y (Nat.le_refl _) h4 (by simpa using h3)]
 exact (row_bare n hk hf).symm
theorem node_back (n : Nd) (h : Tr.valid n = true) : nodeF (elM n) = (n, 0, 0) := by
 have hv := tree_valid n h;have ho := (tree_ok n h).1;have hs := (vis_spec (elM n) true 0).1 (by rw [ho]; rfl)
 have hft : faultF (elM n) = (0, false) := by
  unfold faultF;rw [show (decide ((elM n).name = nMath)) = true from decide_eq_true rfl, hs];rfl
 unfold nodeF;rw [if_pos hv, hft, tree_back n h, if_pos h];rfl
theorem node_valid (e : E) (h : (nodeF e).2.2 = 0) : Tr.valid (nodeF e).1 = true ∧ (nodeF e).2.1 = 0 := by
 unfold nodeF at h ⊢;split at h
 ·rename_i hv
  rw [if_pos hv];split at h
  ·cases h
  ·rename_i hf
   rw [if_neg hf];split at h
   ·rename_i ht
    rw [if_pos ht];exact ⟨ht, rfl⟩
   ·cases h
 ·cases h
theorem node_nil (e : E) (h : (nodeF e).2.2 ≠ 0) : (nodeF e).1 = nilNd := by
 unfold nodeF at h ⊢;split
 ·split
  ·rfl
  ·split
   ·rename_i h1 h2 h3
    rw [if_pos h1, if_neg h2, if_pos h3] at h;exact absurd rfl h
   ·rfl
 ·rfl
end Go.Proofs.YtnbeemkfmlfgfaaGreatDoor.El
namespace Go.Proofs.YtnbeemkfmlfgfaaGreatDoor.El
open Tr (Nd)
theorem esc_six (l : List UInt8) : (escL l).length ≤ 6 * l.length := by
 induction l with
 | nil => exact Nat.le_refl _
 | cons b l ih =>
  have h : (escB b).length ≤ 6 := by unfold escB; (repeat' split) <;> simp
  have h2 : (escL (b :: l)).length = (escB b).length + (escL l).length := by unfold escL; rw [List.flatMap_cons, List.length_append]
  rw [h2, List.length_cons];omega
def Sh (e : E) : Prop := (writeE e).length ≤ 3700 * count e
theorem sh_list (l : List E) (h : ∀ x ∈ l, Sh x) : (writeL l).length ≤ 3700 * countL l := by
 induction l with
 | nil => rw [writeL]; exact Nat.zero_le _
 | cons x l ih =>
  have h1 := h x (List.mem_cons_self ..);have h2 := ih fun y hy => h y (List.mem_cons_of_mem _ hy)
  unfold Sh at h1;rw [writeL, countL, List.length_append];omega
theorem sh_mk (n : Bytes) (a : Attrs) (ks : List E) (t : Bytes) (hn : n.length ≤ 20) (ha : (attrsW a).length ≤ 2430) (ht : t.length ≤ 200) (h : ∀ x ∈ ks, Sh x) : Sh (.mk n a ks t) := by
 have h1 := sh_list ks h;have h2 := esc_six t;unfold Sh;rw [writeE, count];split
 ·simp only [List.length_append, List.length_cons, List.length_nil]; omega
 ·simp only [List.length_append, List.length_cons, List.length_nil]; omega
theorem sh_rows (n m : Bytes) (a : Attrs) (hn : n.length ≤ 20) (hm : m.length ≤ 20) (ha : (attrsW a).length ≤ 2430) (ss : List (List E)) (h : ∀ l ∈ ss, ∀ x ∈ l, Sh x) : Sh (.mk n a (ss.map (mrow m)) []) := by
 refine sh_mk n a _ [] hn ha (by decide) fun x hx => ?_
 obtain ⟨l, hl, rfl⟩ := List.mem_map.1 hx;exact sh_mk m [] l [] hm (by decide) (by decide) (h l hl)
theorem value_len {s : Bytes} (h : valueOK s = true) : s.length ≤ 200 := by
 unfold valueOK at h;rw [Bool.and_eq_true, decide_eq_true_eq] at h;exact h.2
theorem mk_sh (k : Int) (t : Bytes) (c : Int) (ss : List (List E)) (ht : Tr.textOK k t = true) (hk : Tr.kidsOK k c ss.length = true) (h1 : (k == 1) = false) (h : ∀ l ∈ ss, ∀ x ∈ l, Sh x) : Sh (mkE k t c ss) := by
 have htl := value_len (text_value _ _ ht)
 rcases kinds_of k c ss.length hk h1 with ⟨rfl, hn⟩ | ⟨rfl, hn⟩ | ⟨rfl, hn⟩ | ⟨rfl, hn⟩ | ⟨rfl, hn⟩ | ⟨rfl, hn⟩ | ⟨rfl, hn⟩ | ⟨rfl, hn⟩ | ⟨rfl, hn⟩ | ⟨rfl, hn⟩ | ⟨rfl, hc1, hc2, hn1, hn2, hm⟩
 ·show Sh (.mk (if lett t then nMi else nMo) [] [] t)
  exact sh_mk _ _ _ _ (by cases lett t <;> decide) (by decide) htl fun _ hx => nomatch hx
 ·exact sh_mk nMn [] [] t (by decide) (by decide) htl fun _ hx => nomatch hx
 ·exact sh_mk nMtext [] [] t (by decide) (by decide) htl fun _ hx => nomatch hx
 ·exact sh_rows nMfrac nMrow [] (by decide) (by decide) (by decide) ss h
 ·match ss, hn, h with
  | [] :: [b], _, h => exact sh_rows nMsqrt nMrow [] (by decide) (by decide) (by decide) [b] fun l hl => h l (List.mem_cons_of_mem _ hl)
  | (a0 :: a) :: [b], _, h => exact sh_rows nMroot nMrow [] (by decide) (by decide) (by decide) [b, a0 :: a] fun l hl => h l (by simp only [List.mem_cons, List.not_mem_nil, or_false] at hl ⊢; exact hl.symm)
 ·exact sh_rows nMsub nMrow [] (by decide) (by decide) (by decide) ss h
 ·exact sh_rows nMsup nMrow [] (by decide) (by decide) (by decide) ss h
 ·exact sh_rows nMsubsup nMrow [] (by decide) (by decide) (by decide) ss h
 ·refine sh_rows nMover nMrow [(nAccent, t)] (by decide) (by decide) ?_ ss h
  have h6 := esc_six t;unfold attrsW attrW;simp only [List.flatMap_cons, List.flatMap_nil, List.length_append, List.length_cons, List.length_nil];have : nAccent.length = 6 := rfl;omega
 ·refine sh_rows nMfenced nMrow [(nOpen, t.take 1), (nClose, t.drop 1)] (by decide) (by decide) ?_ ss h
  have h6 := esc_six (t.take 1);have h7 := esc_six (t.drop 1);have h8 : (t.take 1).length ≤ 1 := by rw [List.length_take]; omega
  have h9 : (t.drop 1).length ≤ 200 := by rw [List.length_drop]; omega
  unfold attrsW attrW;simp only [List.flatMap_cons, List.flatMap_nil, List.length_append, List.length_cons, List.length_nil];have : nOpen.length = 4 := rfl;have : nClose.length = 5 := rfl;omega
 ·have hmn : ss.length % c.toNat = 0 := by
   have hcn : (c.toNat : Int) = c := by omega
   have : ((ss.length % c.toNat : Nat) : Int) = 0 := by rw [Int.natCast_emod, hcn]; exact hm
   omega
  have hga := grid_all c.toNat (by omega) ss hmn
  have hmap : (grid c.toNat (ss.map (mrow nMtd))) = (grid c.toNat ss).map fun r => r.map (mrow nMtd) := by
   unfold grid;rw [List.length_map, List.map_map];refine List.map_congr_left fun r _ => ?_
   show ((ss.map (mrow nMtd)).drop _).take _ = ((ss.drop _).take _).map _;rw [List.map_take, List.map_drop]
  show Sh (.mk nMtable [] ((grid c.toNat (ss.map (mrow nMtd))).map (mrow nMtr)) []);rw [hmap, List.map_map];refine sh_mk nMtable [] _ [] (by decide) (by decide) (by decide) fun x hx => ?_
  obtain ⟨r, hr, rfl⟩ := List.mem_map.1 hx;exact sh_rows nMtr nMtd [] (by decide) (by decide) (by decide) r fun l hl => h l ((hga r hr).2 l hl)
theorem item_sh : ∀ (m : Nat) (x : Nd), Tr.count x ≤ m → Tr.form x = true → (x.kind == 1) = false → Sh (elE x) := by
 intro m
 induction m with
 | zero => intro x h; have := Tr.count_pos x; omega
 | succ m ih =>
  intro x hm hf hk;have hs := slot_items x hf hk;rw [Tr.form_eq, Bool.and_eq_true, Bool.and_eq_true] at hf;rw [elE_eq];refine mk_sh _ _ _ _ hf.1.1 (by rw [slotsE_map, List.length_map]; exact hf.1.2) hk fun l hl e he => ?_
  rw [slotsE_map] at hl;obtain ⟨r, hr, rfl⟩ := List.mem_map.1 hl;rw [elK_map] at he;obtain ⟨y, hy, rfl⟩ := List.mem_map.1 he;obtain ⟨h1, h2, h3, h4⟩ := (hs r hr).2.2 y hy;exact ih y (by omega) h2 h1
theorem tree_short (n : Nd) (h : Tr.valid n = true) : (writeE (elM n)).length ≤ 8000000 := by
 have h2 := (tree_size n h).1
 have hc : Tr.count n ≤ 1000 := by
  unfold Tr.valid at h;simp only [Bool.and_eq_true, decide_eq_true_eq] at h;exact h.1.2
 have h3 : Sh (elM n) := by
  refine sh_mk nMath [] (elK n.kids) [] (by decide) (by decide) (by decide) fun x hx => ?_
  unfold Tr.valid at h;simp only [Bool.and_eq_true] at h;rw [elK_map] at hx;obtain ⟨y, hy, rfl⟩ := List.mem_map.1 hx;have hf := h.1.1.2;rw [Tr.form_eq, Bool.and_eq_true, h.1.1.1] at hf;obtain ⟨h3, h4⟩ := formL_in _ _ hf.2 y hy;exact item_sh _ y (Nat.le_refl _) h4 (by simpa using h3)
 unfold Sh at h3;omega
end Go.Proofs.YtnbeemkfmlfgfaaGreatDoor.El
