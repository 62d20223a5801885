/- The walks of name and next, all ways joined. -/
import Derived.Test.YtleclhmdcdichaaLxG
import Derived.Test.YtleclhmdcdichaaLxQ
namespace Go.Proofs.Ytleclhmdcdichaa
open Go.RowKit

theorem runLen_i (l : Lx.Bytes) (c k : Nat) : Lx.runLen c (l.drop k) = Lx.runI c l k := by
  unfold Lx.runLen Lx.runI
  have : (Lx.isB c) = fun b : UInt8 => ((Lx.cls b.toNat : Int) == (c : Int)) := by
    funext b
    unfold Lx.isB
    rw [Bool.eq_iff_iff]; simp; omega
  rw [this]

theorem extract_list (s : ByteArray) (i j : Nat) : (s.extract i j).data.toList = (s.data.toList.drop i).take (j - i) := by
  simp [ByteArray.data_extract, Array.toList_extract, List.extract_eq_take_drop]

theorem name_any (L : Nat) (s : ByteArray) (a : Nat) (p e : Int) (w : World) (h : LexAt w L s a p e) (hm : s.size ≤ 1000000000) (ha : a < s.size) :
    Calls Try.prog 31 #[.pointer (some ⟨L, 0, none⟩)] w (LexRes w L s a p e (Lx.name (s.data.toList.drop a))) := by
  have hll : s.data.toList.length = s.size := by simp
  have hle := Lx.runI_le 3 s.data.toList (a + 1)
  rw [hll] at hle
  obtain ⟨n, hn⟩ : ∃ n, n = Lx.runI 3 s.data.toList (a + 1) := ⟨_, rfl⟩
  have hmd : a + 1 + n = a + 1 + Lx.runI 3 s.data.toList (a + 1) := by rw [hn]
  have hN : Lx.runLen 3 ((s.data.toList.drop a).drop 1) = n := by rw [List.drop_drop, runLen_i, hn]; rfl
  have hT : ((s.data.toList.drop a).drop 1).take n = (s.extract (a + 1) (a + 1 + n)).data.toList := by
    rw [extract_list, List.drop_drop, Nat.add_sub_cancel_left]
  have hbl : (s.extract (a + 1) (a + 1 + n)).toList = (s.extract (a + 1) (a + 1 + n)).data.toList := ByteArray.toList_eq _
  have hget : ∀ i, (s.data.toList.drop a)[i]? = s.data.toList[a + i]? := fun i => by rw [List.getElem?_drop]
  unfold Lx.name
  simp only [hN, hT]
  by_cases c1 : (s.extract (a + 1) (a + 1 + n)).data.toList = [102, 101, 110, 99, 101]
  · rw [if_neg (by simpa using c1)]
    have F : ((s.extract (a + 1) (a + 1 + n)).toList == [102, 101, 110, 99, 101]) = true := by rw [hbl, c1]; rfl
    by_cases c2 : a + 1 + n + 1 < s.size
    · have g1 : (s.data.toList.drop a)[1 + n]? = some (s[a + 1 + n]'(Nat.lt_of_succ_lt c2)) := by
        rw [hget, List.getElem?_eq_getElem (by omega)]
        simp only [Nat.add_assoc]; rfl
      have g2 : (s.data.toList.drop a)[2 + n]? = some (s[a + 1 + n + 1]'c2) := by
        rw [hget, List.getElem?_eq_getElem (by omega)]
        congr 1
        show s.data.toList[a + (2 + n)] = s.data.toList[a + 1 + n + 1]'(by omega)
        congr 1; omega
      have d1 : Lx.delimAt (s.data.toList.drop a) (1 + n) = Lx.isDelim (s[a + 1 + n]'(Nat.lt_of_succ_lt c2)) := by unfold Lx.delimAt; rw [g1]
      have d2 : Lx.delimAt (s.data.toList.drop a) (2 + n) = Lx.isDelim (s[a + 1 + n + 1]'c2) := by unfold Lx.delimAt; rw [g2]
      rw [d1, d2]
      cases e1 : Lx.isDelim (s[a + 1 + n]'(Nat.lt_of_succ_lt c2)) with
      | false => exact name_bad1 L s a _ p e w h hm hmd (by omega) _ F c2 e1 (by simp)
      | true =>
        cases e2 : Lx.isDelim (s[a + 1 + n + 1]'c2) with
        | false => exact name_bad2 L s a _ p e w h hm hmd (by omega) _ F c2 e1 e2 (by simp)
        | true =>
          refine name_fence L s a _ p e w h hm hmd (by omega) _ F c2 e1 e2 ?_
          rw [if_pos ⟨rfl, rfl⟩, extract_list]
          have hl : (List.take (a + 1 + n + 2 - (a + 1 + n)) (List.drop (a + 1 + n) s.data.toList)).length = 2 := by
            rw [List.length_take, List.length_drop, hll]; omega
          unfold Lx.lim
          rw [if_neg (by simp only [hl]; omega)]
          congr 1
          · congr 1
            rw [List.drop_drop, show a + 1 + n + 2 - (a + 1 + n) = 2 from by omega, show a + (1 + n) = a + 1 + n from by omega]
          · omega
    · have hd : ¬ (Lx.delimAt (s.data.toList.drop a) (1 + n) = true ∧ Lx.delimAt (s.data.toList.drop a) (2 + n) = true) := by
        rintro ⟨_, h2⟩
        unfold Lx.delimAt at h2
        rw [hget, List.getElem?_eq_none (by omega)] at h2
        cases h2
      rw [if_neg hd]
      exact name_short L s a _ p e w h hm hmd (by omega) _ F (by omega) rfl
  · rw [if_pos (by simpa using c1)]
    have F : ((s.extract (a + 1) (a + 1 + n)).toList == [102, 101, 110, 99, 101]) = false := by rw [hbl]; simpa using c1
    refine name_plain L s a _ p e w h hm hmd (by omega) _ F ?_
    congr 1
    omega

theorem next_any (L : Nat) (s : ByteArray) (a : Nat) (p e : Int) (w : World) (h : LexAt w L s a p e) (hm : s.size ≤ 1000000000) (ha : a < s.size) :
    Calls Try.prog 25 #[.pointer (some ⟨L, 0, none⟩)] w (LexRes w L s a p e (Lx.next (s.data.toList.drop a))) := by
  have HM : s.size ≤ maxLen := by unfold maxLen; omega
  have hll : s.data.toList.length = s.size := by simp
  have hd : s.data.toList.drop a = s[a] :: s.data.toList.drop (a + 1) := List.drop_eq_getElem_cons (by simpa using ha)
  have hcl : Lx.clsI s.data.toList a = (Lx.cls s[a].toNat : Int) := by rw [Lx.clsI_lt _ _ (by omega)]; rfl
  have F : ∀ k : Nat, (Lx.clsI s.data.toList a == (k : Int)) = (Lx.cls s[a].toNat == k) := fun k => by
    rw [hcl, Bool.eq_iff_iff]; simp; omega
  have B : ∀ k : Nat, Lx.isB k s[a] = (Lx.cls s[a].toNat == k) := fun k => rfl
  have C : ∀ x : UInt8, ((s.extract a (a + 1)).toList == [x]) = (s[a] == x) := one_byte_eq s a ha
  have O := one_byte s a ha
  have one : ∀ k : Nat, Lx.lim 1 ⟨k, (s.extract a (a + 1)).data.toList⟩ 1 = .ok ⟨k, [s[a]]⟩ 1 := fun k => by rw [O]; rfl
  have hnum : Lx.isB 2 s[a] = true → Lx.next (s.data.toList.drop a) = Lx.number (s.data.toList.drop a) := fun hb => by
    rw [hd]; simp only [Lx.next, hb, if_true]
  by_cases b2 : (Lx.cls s[a].toNat == 2) = true
  · exact next_number L s a p e w h HM ha _ ((F 2).trans b2) (hnum ((B 2).trans b2)).symm
  have b2' : (Lx.cls s[a].toNat == 2) = false := by simpa using b2
  rw [hd]
  simp only [Lx.next, B, b2', Bool.false_eq_true, if_false]
  have F2 := (F 2).trans b2'
  by_cases b5 : (Lx.cls s[a].toNat == 5) = true
  · rw [if_pos b5]
    exact next_mark L s a p e w h HM ha _ F2 ((F 5).trans b5) (one 7)
  have b5' : (Lx.cls s[a].toNat == 5) = false := by simpa using b5
  simp only [b5', Bool.false_eq_true, if_false]
  have F5 := (F 5).trans b5'
  by_cases c34 : s[a] = 34
  · rw [if_pos c34]
    exact next_quoted L s a p e w h HM ha _ F2 F5 ((C 34).trans (by simp [c34])) (fun w' h' => quoted_any L s a p e w' h' hm ha)
  rw [if_neg c34]
  have C34 := (C 34).trans (show (s[a] == 34) = false by simpa using c34)
  have hq : (s.data.toList.drop (a + 1)).head? = s.data.toList[a + 1]? := by rw [List.head?_drop]
  have hat3 : Lx.isAt 3 (s.data.toList.drop (a + 1)) 0 = (Lx.clsI s.data.toList (a + 1) == 3) := by
    unfold Lx.isAt Lx.clsI
    rw [List.getElem?_drop]
    cases s.data.toList[a + 1 + 0]? with
    | none => simp
    | some b => simp only [Lx.isB]; rw [Bool.eq_iff_iff]; simp; omega
  rw [hq, hat3]
  by_cases c92 : s[a] = 92
  · have C92 := (C 92).trans (show (s[a] == 92) = true by simpa using c92)
    have C35 := (C 35).trans (show (s[a] == 35) = false by rw [c92]; rfl)
    have N3 : (Lx.clsI s.data.toList a == 3) = false := (F 3).trans (by rw [c92]; rfl)
    have N4 : (Lx.clsI s.data.toList a == 4) = false := (F 4).trans (by rw [c92]; rfl)
    have n35 : ¬ s[a] = 35 := by rw [c92]; decide
    have n3 : ¬ ((Lx.cls s[a].toNat == 3) = true ∨ (Lx.cls s[a].toNat == 4) = true) := by rw [c92]; decide
    by_cases hs : a + 1 < s.size
    · have hx : s.data.toList[a + 1]? = some (s[a + 1]'hs) := by rw [List.getElem?_eq_getElem (by omega)]; rfl
      rw [hx]
      by_cases d92 : s[a + 1]'hs = 92
      · rw [if_pos ⟨c92, by rw [d92]⟩]
        exact next_break L s a p e w h HM ha _ F2 F5 C34 C92 hs (u8_eq_of _ 92 d92) rfl
      · rw [if_neg (fun hh => d92 (by simpa using hh.2))]
        cases e3 : (Lx.clsI s.data.toList (a + 1) == 3) with
        | true =>
          rw [if_pos ⟨c92, rfl⟩, ← hd]
          exact next_name L s a p e w h HM ha _ F2 F5 C34 C92 hs (u8_ne_of _ 92 d92) e3 (fun w' h' => name_any L s a p e w' h' hm ha)
        | false =>
          rw [if_neg (fun hh => by cases hh.2), if_neg (fun hh => n35 hh.1), if_neg n3]
          exact next_slash_a L s a p e w h HM ha _ F2 F5 C34 C92 C35 hs (u8_ne_of _ 92 d92) e3 N3 N4 rfl
    · have hx : s.data.toList[a + 1]? = none := List.getElem?_eq_none (by omega)
      have e3 : (Lx.clsI s.data.toList (a + 1) == 3) = false := by rw [Lx.clsI_ge _ _ (by omega)]; rfl
      rw [hx, e3, if_neg (fun hh => by cases hh.2), if_neg (fun hh => by cases hh.2), if_neg (fun hh => n35 hh.1), if_neg n3]
      exact next_slash_b L s a p e w h HM ha _ F2 F5 C34 C92 C35 hs e3 N3 N4 rfl
  rw [if_neg (fun hh => c92 hh.1), if_neg (fun hh => c92 hh.1)]
  have C92 := (C 92).trans (show (s[a] == 92) = false by simpa using c92)
  by_cases c35 : s[a] = 35
  · have C35 := (C 35).trans (show (s[a] == 35) = true by simpa using c35)
    have N3 : (Lx.clsI s.data.toList a == 3) = false := (F 3).trans (by rw [c35]; rfl)
    have N4 : (Lx.clsI s.data.toList a == 4) = false := (F 4).trans (by rw [c35]; rfl)
    have n3 : ¬ ((Lx.cls s[a].toNat == 3) = true ∨ (Lx.cls s[a].toNat == 4) = true) := by rw [c35]; decide
    by_cases hs : a + 1 < s.size
    · have hx : s.data.toList.drop (a + 1) = (s[a + 1]'hs) :: s.data.toList.drop (a + 2) := List.drop_eq_getElem_cons (by omega)
      have hp : Lx.parAt (s.data.toList.drop (a + 1)) = decide (49 ≤ (s[a + 1]'hs) ∧ (s[a + 1]'hs) ≤ 52) := by rw [hx]; rfl
      rw [hp]
      have le1 : (49 ≤ (s[a + 1]'hs)) ↔ 49 ≤ (s[a + 1]'hs).toNat := by rw [UInt8.le_iff_toNat_le]; rfl
      have le2 : ((s[a + 1]'hs) ≤ 52) ↔ (s[a + 1]'hs).toNat ≤ 52 := by rw [UInt8.le_iff_toNat_le]; rfl
      by_cases d1 : 49 ≤ (s[a + 1]'hs).toNat
      · have D1 : decide (49 ≤ ((s[a + 1]'hs).toNat : Int)) = true := by simp; omega
        by_cases d2 : (s[a + 1]'hs).toNat ≤ 52
        · have D2 : decide (((s[a + 1]'hs).toNat : Int) ≤ 52) = true := by simp; omega
          rw [if_pos ⟨c35, by simp [le1, le2, d1, d2]⟩, hx]
          refine next_param L s a p e w h HM ha _ F2 F5 C34 C92 C35 hs D1 D2 ?_
          have hw : wrap32 ((s[a + 1]'hs).toNat : Int) = ((s[a + 1]'hs).toNat : Int) := IntWalk.wrap32_in _ (by have := (s[a + 1]'hs).toNat_lt; constructor <;> omega)
          rw [hw, utf8_digit _ d1 d2]
          rfl
        · have D2 : decide (((s[a + 1]'hs).toNat : Int) ≤ 52) = false := by simp; omega
          rw [if_neg (fun hh => by simp [le1, le2, d2] at hh), if_neg n3]
          exact next_hash_b L s a p e w h HM ha _ F2 F5 C34 C92 C35 hs D1 D2 N3 N4 rfl
      · have D1 : decide (49 ≤ ((s[a + 1]'hs).toNat : Int)) = false := by simp; omega
        rw [if_neg (fun hh => by simp [le1, le2, d1] at hh), if_neg n3]
        exact next_hash_a L s a p e w h HM ha _ F2 F5 C34 C92 C35 hs D1 N3 N4 rfl
    · have hp : Lx.parAt (s.data.toList.drop (a + 1)) = false := by rw [List.drop_eq_nil_of_le (by omega)]; rfl
      rw [hp, if_neg (fun hh => by cases hh.2), if_neg n3]
      exact next_hash_c L s a p e w h HM ha _ F2 F5 C34 C92 C35 hs N3 N4 rfl
  rw [if_neg (fun hh => c35 hh.1)]
  have C35 := (C 35).trans (show (s[a] == 35) = false by simpa using c35)
  by_cases b3 : (Lx.cls s[a].toNat == 3) = true
  · rw [if_pos (.inl b3)]
    exact next_letter L s a p e w h HM ha _ F2 F5 C34 C92 C35 ((F 3).trans b3) (one 1)
  have b3' : (Lx.cls s[a].toNat == 3) = false := by simpa using b3
  by_cases b4 : (Lx.cls s[a].toNat == 4) = true
  · rw [if_pos (.inr b4)]
    exact next_sign L s a p e w h HM ha _ F2 F5 C34 C92 C35 ((F 3).trans b3') ((F 4).trans b4) (one 1)
  have b4' : (Lx.cls s[a].toNat == 4) = false := by simpa using b4
  rw [if_neg (fun hh => hh.elim b3 b4)]
  exact next_none L s a p e w h HM ha _ F2 F5 C34 C92 C35 ((F 3).trans b3') ((F 4).trans b4') rfl
end Go.Proofs.Ytleclhmdcdichaa
