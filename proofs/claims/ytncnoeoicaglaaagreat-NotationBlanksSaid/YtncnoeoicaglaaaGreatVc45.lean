/- Part 45 of 48 of a proof; its texts, joined: NwC. No condition. -/
import Derived.Test.YtncnoeoicaglaaaGreatVc44

/- The walks of the reference lexer's name and next. -/
namespace Go.Proofs.YtncnoeoicaglaaaGreat
open Go.RowKit
theorem extract18 (s : ByteArray) (i j : Nat) : (s.extract i j).data.toList = (s.data.toList.drop i).take (j - i) := by
 simp [ByteArray.data_extract, Array.toList_extract, List.extract_eq_take_drop]
theorem extract18_str (s : ByteArray) (i j : Nat) : s.extract i j = ⟨((s.data.toList.drop i).take (j - i)).toArray⟩ := by
 apply ByteArray.ext
 apply Array.toList_inj.1
 rw [extract18]
theorem one18 (s : ByteArray) (a : Nat) (h : a < s.size) : (s.extract a (a + 1)).data.toList = [s[a]] := by
 have h1 : a < s.data.toList.length := by simpa using h
 rw [extract18, Nat.add_sub_cancel_left, List.drop_eq_getElem_cons h1]
 rfl
theorem marks_is : ∀ c : UInt8, ([123, 125, 40, 41, 91, 93, 94, 95, 38] : List UInt8).contains c = Lx.isB 5 c := Tr.byte_all (fun c => ([123, 125, 40, 41, 91, 93, 94, 95, 38] : List UInt8).contains c = Lx.isB 5 c) (by decide +kernel)
theorem delims_is : ∀ c : UInt8, ([40, 41, 91, 93, 123, 125, 124, 60, 62, 47, 46] : List UInt8).contains c = Lx.isDelim c := Tr.byte_all (fun c => ([40, 41, 91, 93, 123, 125, 124, 60, 62, 47, 46] : List UInt8).contains c = Lx.isDelim c) (by decide +kernel)
theorem chars_is (c : UInt8) : Tr.character c = (Lx.isB 3 c || Lx.isB 4 c) := by unfold Tr.character; rw [Tr.letter_isB, Tr.sign_isB]
theorem delimAt_cb (l : List UInt8) (a i : Nat) : Lx.delimAt (l.drop a) i = Lx.isDelim (cb l (a + i)) := by
 unfold Lx.delimAt cb
 rw [List.getElem?_drop]
 cases l[a + i]? with
 | none => rfl
 | some b => rfl
theorem isAt_cb (k : Nat) (l : List UInt8) (a i : Nat) (hk : Lx.isB k 0 = false) : Lx.isAt k (l.drop a) i = Lx.isB k (cb l (a + i)) := by
 unfold Lx.isAt cb
 rw [List.getElem?_drop]
 cases l[a + i]? with
 | none => exact hk.symm
 | some b => rfl
theorem get_cb (l : List UInt8) (a i : Nat) (x : UInt8) (hx : x ≠ 0) : (l.drop a)[i]? = some x ↔ cb l (a + i) = x := by
 unfold cb
 rw [List.getElem?_drop]
 cases l[a + i]? with
 | none => exact ⟨fun h => (by cases h), fun h => absurd h.symm hx⟩
 | some b => simp
theorem nextP_at (l : List UInt8) (a : Nat) (h : a < l.length) : Lx.nextP (l.drop a) =
  if Lx.isB 2 l[a] then .ok ⟨2, (l.drop a).take (Lx.numLen (l.drop a))⟩ (Lx.numLen (l.drop a)) else if Lx.isB 5 l[a] then .ok ⟨7, [l[a]]⟩ 1 else if l[a] = 34 then Lx.quoP (l.drop (a + 1)) [] 1
  else if l[a] = 92 ∧ cb l (a + 1) = 92 then .ok ⟨8, [92, 92]⟩ 2 else if l[a] = 92 ∧ Lx.isB 3 (cb l (a + 1)) = true then Lx.nameP (l.drop a)
  else if l[a] = 35 ∧ (49 ≤ cb l (a + 1) ∧ cb l (a + 1) ≤ 52) then .ok ⟨6, [cb l (a + 1)]⟩ 2 else if Lx.isB 3 l[a] ∨ Lx.isB 4 l[a] then .ok ⟨1, [l[a]]⟩ 1 else .err 0 3 := by
 rw [List.drop_eq_getElem_cons h]
 unfold Lx.nextP
 simp only
 have e1 : (l.drop (a + 1)).head? = some 92 ↔ cb l (a + 1) = 92 := by
  have := get_cb l (a + 1) 0 92 (by decide)
  rw [← this, List.head?_eq_getElem?]
 have e2 := isAt_cb 3 l (a + 1) 0 (by decide)
 have e3 : Lx.parAt (l.drop (a + 1)) = decide (49 ≤ cb l (a + 1) ∧ cb l (a + 1) ≤ 52) := by
  rcases Nat.lt_or_ge (a + 1) l.length with h1 | h1
  ·rw [List.drop_eq_getElem_cons h1, cb_lt l _ h1]; rfl
  ·rw [List.drop_eq_nil_of_le h1, cb_ge l _ h1]; rfl
 have e4 : (49 ≤ cb l (a + 1) ∧ cb l (a + 1) ≤ 52) → (l.drop (a + 1)).take 1 = [cb l (a + 1)] := by
  intro hp
  rcases Nat.lt_or_ge (a + 1) l.length with h1 | h1
  ·rw [List.drop_eq_getElem_cons h1, cb_lt l _ h1]; rfl
  ·rw [cb_ge l _ h1] at hp; exact absurd hp.1 (by decide)
 rw [Nat.add_zero] at e2
 simp only [e1, e2, e3, decide_eq_true_eq]
 split
 ·rfl
 ·split
  ·rfl
  ·split
   ·rfl
   ·split
    ·rfl
    ·split
     ·rfl
     ·split
      ·rename_i hp
       rw [e4 hp.2]
      ·rfl
theorem numLen_cb (l : List UInt8) (a : Nat) : Lx.numLen (l.drop a) = if cb l (a + Lx.runLen 2 (l.drop a)) = 46 ∧ Lx.isB 2 (cb l (a + Lx.runLen 2 (l.drop a) + 1)) = true then Lx.runLen 2 (l.drop a) + 1 + Lx.runLen 2 (l.drop (a + Lx.runLen 2 (l.drop a) + 1)) else Lx.runLen 2 (l.drop a) := by
 unfold Lx.numLen
 simp only [get_cb l a _ 46 (by decide), isAt_cb 2 l a _ (by decide), List.drop_drop, ← Nat.add_assoc]
theorem letters18_at (s : ByteArray) (x : Int) (i : Nat) (w : World) (hm : s.size ≤ 1000000000) (hx : x = (i : Int)) (hi : i ≤ s.size) :
  Calls Tryz.prog 83 #[.string s, .int .i64 x] w fun e w' => e = .returned (.int .i64 ((i + Lx.runLen 3 (s.data.toList.drop i) : Nat) : Int)) ∧ w' = w := by subst hx; exact letters18_any s i w hm hi
theorem digits18_at (s : ByteArray) (x : Int) (i : Nat) (w : World) (hm : s.size ≤ 1000000000) (hx : x = (i : Int)) (hi : i ≤ s.size) :
  Calls Tryz.prog 48 #[.string s, .int .i64 x] w fun e w' => e = .returned (.int .i64 ((i + Lx.runLen 2 (s.data.toList.drop i) : Nat) : Int)) ∧ w' = w := by subst hx; exact digits18_any s i w hm hi
theorem character18 (b : UInt8) (w : World) :
  Calls Tryz.prog 53 #[.int .u8 (b.toNat : Int)] w fun e w' => e = .returned (.bool (Tr.character b)) ∧ w' = w := by
 go_enter Tryz.func53, Tryz.ntmps53
 go_wp2_with fail
 refine Calls.mono (letter_byte b _) ?_
 rintro _ w1q ⟨rfl, hqw1⟩
 replace hqw1 := hqw1.symm
 subst hqw1
 cases h1 : (Tr.letter b) with
 | false =>
  go_wp2_with fail
  refine Calls.mono (has_any ⟨(Tr.signs).toArray⟩ b _ (by decide)) ?_
  rintro _ w2q ⟨rfl, hqw2⟩
  replace hqw2 := hqw2.symm
  subst hqw2
  cases h2 : (Tr.signs.contains b) with
  | false =>
   go_wp2_with fail
   go_ret
   exact ⟨ret_bool' _ _ (by unfold Tr.character; simp only [*] <;> rfl), rfl⟩
  | true =>
   go_wp2_with fail
   go_ret
   exact ⟨ret_bool' _ _ (by unfold Tr.character; simp only [*] <;> rfl), rfl⟩
 | true =>
  go_wp2_with fail
  go_ret
  exact ⟨ret_bool' _ _ (by unfold Tr.character; simp only [*] <;> rfl), rfl⟩
theorem character18_at (x : Int) (b : UInt8) (w : World) (hx : x = (b.toNat : Int)) :
  Calls Tryz.prog 53 #[.int .u8 x] w fun e w' => e = .returned (.bool (Tr.character b)) ∧ w' = w := by subst hx; exact character18 b w
set_option maxRecDepth 100000 in
set_option maxHeartbeats 2000000 in
theorem name18_any (s : ByteArray) (a : Nat) (w : World) (hm : s.size ≤ 1000000000) (ha : a < s.size) :
  Calls Tryz.prog 52 #[.string s, .int .i64 (a : Int)] w fun e w' => Tok18 a (Lx.nameP (s.data.toList.drop a)) e ∧ Fresh w w' := by
 have hll : s.data.toList.length = s.size := by simp
 have hn := Lx.runLen_le 3 (s.data.toList.drop (a + 1))
 rw [List.length_drop, hll] at hn
 have hT : ∀ m, m = a + 1 + Lx.runLen 3 (s.data.toList.drop (a + 1)) → ((s.data.toList.drop a).drop 1).take (Lx.runLen 3 ((s.data.toList.drop a).drop 1)) = (s.extract (a + 1) m).data.toList := fun m hmm => by
  rw [extract18, List.drop_drop, hmm, Nat.add_sub_cancel_left]
 have hr2 : Lx.runLen 3 ((s.data.toList.drop a).drop 1) = Lx.runLen 3 (s.data.toList.drop (a + 1)) := by rw [List.drop_drop]
 obtain ⟨m, hmd⟩ : ∃ m, m = a + 1 + Lx.runLen 3 (s.data.toList.drop (a + 1)) := ⟨_, rfl⟩
 have hP : Lx.nameP (s.data.toList.drop a) = if (s.extract (a + 1) m).data.toList ≠ [102, 101, 110, 99, 101] then .ok ⟨4, (s.extract (a + 1) m).data.toList⟩ (m - a)
   else if Lx.isDelim (cb s.data.toList m) = true ∧ Lx.isDelim (cb s.data.toList (m + 1)) = true then .ok ⟨5, (s.extract m (m + 2)).data.toList⟩ (m - a + 2) else .err 0 3 := by
  unfold Lx.nameP
  simp only
  rw [hT m hmd, hr2, delimAt_cb, delimAt_cb]
  rw [show a + (1 + Lx.runLen 3 (s.data.toList.drop (a + 1))) = m by omega, show a + (2 + Lx.runLen 3 (s.data.toList.drop (a + 1))) = m + 1 by omega, show 1 + Lx.runLen 3 (s.data.toList.drop (a + 1)) = m - a by omega, show 3 + Lx.runLen 3 (s.data.toList.drop (a + 1)) = m - a + 2 by omega]
  rw [extract18 s m (m + 2), List.drop_drop, show a + (m - a) = m by omega, Nat.add_sub_cancel_left]
 have HP := hid hP
 have HL := hid (fun w : World => letters18_at s ((a : Int) + 1) (a + 1) w hm (by omega) (by omega))
 have HM := hid (show (a + 1 + Lx.runLen 3 (s.data.toList.drop (a + 1)) : Nat) = m from hmd.symm)
 have am : a + 1 ≤ m := by omega
 have ms : m ≤ s.size := by omega
 clear hP hT hr2 hmd hn
 have e1 : ((a : Int) + 1) ≤ (m : Int) := by omega
 have e2 : (0 : Int) ≤ (a : Int) + 1 := by omega
 have e3 : (m : Int) ≤ (s.size : Int) := by omega
 have hbl : (s.extract (a + 1) m).toList = (s.extract (a + 1) m).data.toList := ByteArray.toList_eq _
 have HBL := hid hbl
 have HLL := hid hll
 clear hbl hll
 go_enter Tryz.func52, Tryz.ntmps52
 go_wp2_with fail
 have HB := hid (Blk.new w 34 #[.int .i64 0, .string ⟨#[]⟩, .int .i64 0, .int .i64 0])
 have HF := hid ((Touch.refl (fun _ => False) w).alloc (.cells #[.int .i64 0, .string ⟨#[]⟩, .int .i64 0, .int .i64 0] 34))
 generalize w.alloc (.cells #[.int .i64 0, .string ⟨#[]⟩, .int .i64 0, .int .i64 0] 34) = W0 at HB HF ⊢
 refine (HL.out _).mono ?_
 rintro _ _ ⟨rfl, hw5⟩
 replace hw5 := hw5.symm
 subst hw5
 rw [HM.out]
 by_cases c1 : (s.extract (a + 1) m).data.toList = [102, 101, 110, 99, 101]
 ·have F : ((s.extract (a + 1) m).toList == [102, 101, 110, 99, 101]) = true := by rw [HBL.out, c1]; rfl
  have HP2 := hid (show Lx.nameP (s.data.toList.drop a) = if Lx.isDelim (cb s.data.toList m) = true ∧ Lx.isDelim (cb s.data.toList (m + 1)) = true then .ok ⟨5, (s.extract m (m + 2)).data.toList⟩ (m - a + 2) else .err 0 3 by rw [HP.out, if_neg (by simpa using c1)])
  clear HP c1
  by_cases c2 : m + 2 ≤ s.size
  ·have d1 : decide ((s.size : Int) < (m : Int) + 2) = false := by simp only [decide_eq_false_iff_not]; omega
   have g1 : (m : Int) < (s.size : Int) := by omega
   have g2 : (m : Int) + 1 < (s.size : Int) := by omega
   have g3 : (m : Int) + 2 ≤ (s.size : Int) := by omega
   have h1 : cb s.data.toList m = s[m]'(by omega) := cb_lt _ _ (by rw [HLL.out]; omega)
   have h2 : cb s.data.toList (m + 1) = s[m + 1]'(by omega) := cb_lt _ _ (by rw [HLL.out]; omega)
   rw [h1, h2] at HP2
   clear h1 h2
   obtain ⟨x, hx⟩ : ∃ x, s[m]'(by omega) = x := ⟨_, rfl⟩
   obtain ⟨y, hy⟩ : ∃ y, s[m + 1]'(by omega) = y := ⟨_, rfl⟩
   rw [hx, hy] at HP2
   have HI := hid (fun (c : UInt8) (w : World) => in18_any ⟨#[40, 41, 91, 93, 123, 125, 124, 60, 62, 47, 46]⟩ c w (by decide))
   go_wp2_with fail
   refine Calls.mono (HI.out x _) ?_
   rintro _ _ ⟨rfl, hw5⟩
   replace hw5 := hw5.symm
   subst hw5
   rw [show (⟨#[40, 41, 91, 93, 123, 125, 124, 60, 62, 47, 46]⟩ : ByteArray).data.toList.contains x = Lx.isDelim x from delims_is x]
   cases hdx : Lx.isDelim x with
   | false =>
    have HE := hid (show Lx.nameP (s.data.toList.drop a) = .err 0 3 by rw [HP2.out, hdx]; rfl)
    obtain ⟨p0, p1, p2, p3, z0, z1, z2, z3, hlt⟩ := Blk.four HB.out
    go_wp2_with fail
    refine bodyPost_ret (v := .tuple #[.agg #[.int .i64 0, .string ⟨#[]⟩, .int .i64 0, .int .i64 0], .int .i64 (a : Int), .int .i64 3]) (by simp [results, Tryz.results52, go_sem, p0, p1, p2, p3]) rfl ?_
    exact ⟨by rw [HE.out]; rfl, Touch.put4 HF.out (.inr (Nat.le_refl _)) _ _ _ _⟩
   | true =>
    go_wp2_with fail
    refine Calls.mono (HI.out y _) ?_
    rintro _ _ ⟨rfl, hw5⟩
    replace hw5 := hw5.symm
    subst hw5
    rw [show (⟨#[40, 41, 91, 93, 123, 125, 124, 60, 62, 47, 46]⟩ : ByteArray).data.toList.contains y = Lx.isDelim y from delims_is y]
    cases hdy : Lx.isDelim y with
    | false =>
     have HE := hid (show Lx.nameP (s.data.toList.drop a) = .err 0 3 by rw [HP2.out, hdx, hdy]; rfl)
     obtain ⟨p0, p1, p2, p3, z0, z1, z2, z3, hlt⟩ := Blk.four HB.out
     go_wp2_with fail
     refine bodyPost_ret (v := .tuple #[.agg #[.int .i64 0, .string ⟨#[]⟩, .int .i64 0, .int .i64 0], .int .i64 (a : Int), .int .i64 3]) (by simp [results, Tryz.results52, go_sem, p0, p1, p2, p3]) rfl ?_
     exact ⟨by rw [HE.out]; rfl, Touch.put4 HF.out (.inr (Nat.le_refl _)) _ _ _ _⟩
    | true =>
     have HE := hid (show Lx.nameP (s.data.toList.drop a) = .ok ⟨5, (s.extract m (m + 2)).data.toList⟩ (m - a + 2) by rw [HP2.out, hdx, hdy]; rfl)
     obtain ⟨p0, p1, p2, p3, z0, z1, z2, z3, hlt⟩ := Blk.four HB.out
     go_wp2_with fail
     refine bodyPost_ret (v := .tuple #[.agg #[.int .i64 5, .string (s.extract m (m + 2)), .int .i64 (a : Int), .int .i64 ((m : Int) + 2)], .int .i64 0, .int .i64 0]) (by simp [results, Tryz.results52, go_sem, p0, p1, p2, p3]) rfl ?_
     exact ⟨by rw [HE.out]; unfold Tok18; simp only; rw [show ((a + (m - a + 2) : Nat) : Int) = (m : Int) + 2 by omega]; rfl, Touch.put4 HF.out (.inr (Nat.le_refl _)) _ _ _ _⟩
  ·have d1 : decide ((s.size : Int) < (m : Int) + 2) = true := by simp only [decide_eq_true_eq]; omega
   have HE := hid (show Lx.nameP (s.data.toList.drop a) = .err 0 3 by rw [HP2.out, if_neg]; rintro ⟨_, h2⟩; rw [cb_ge _ (m + 1) (by rw [HLL.out]; omega)] at h2; revert h2; decide)
   obtain ⟨p0, p1, p2, p3, z0, z1, z2, z3, hlt⟩ := Blk.four HB.out
   go_wp2_with fail
   refine bodyPost_ret (v := .tuple #[.agg #[.int .i64 0, .string ⟨#[]⟩, .int .i64 0, .int .i64 0], .int .i64 (a : Int), .int .i64 3]) (by simp [results, Tryz.results52, go_sem, p0, p1, p2, p3]) rfl ?_
   exact ⟨by rw [HE.out]; rfl, Touch.put4 HF.out (.inr (Nat.le_refl _)) _ _ _ _⟩
 ·have F : ((s.extract (a + 1) m).toList == [102, 101, 110, 99, 101]) = false := by rw [HBL.out]; simpa using c1
  have F2 : ((s.extract (a + 1) m).toList != [102, 101, 110, 99, 101]) = true := by rw [bne, F]; rfl
  have HE := hid (show Lx.nameP (s.data.toList.drop a) = .ok ⟨4, (s.extract (a + 1) m).data.toList⟩ (m - a) by rw [HP.out, if_pos (by simpa using c1)])
  clear HP c1
  obtain ⟨p0, p1, p2, p3, z0, z1, z2, z3, hlt⟩ := Blk.four HB.out
  go_wp2_with fail
  refine bodyPost_ret (v := .tuple #[.agg #[.int .i64 4, .string (s.extract (a + 1) m), .int .i64 (a : Int), .int .i64 (m : Int)], .int .i64 0, .int .i64 0]) (by simp [results, Tryz.results52, go_sem, p0, p1, p2, p3]) rfl ?_
  exact ⟨by rw [HE.out]; unfold Tok18; simp only; rw [show ((a + (m - a) : Nat) : Int) = (m : Int) by omega]; rfl, Touch.put4 HF.out (.inr (Nat.le_refl _)) _ _ _ _⟩
end Go.Proofs.YtncnoeoicaglaaaGreat
