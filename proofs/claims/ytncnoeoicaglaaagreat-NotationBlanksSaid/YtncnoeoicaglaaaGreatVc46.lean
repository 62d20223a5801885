/- Part 46 of 48 of a proof; its texts, joined: NwG. No condition. -/
import Derived.Test.YtncnoeoicaglaaaGreatVc45

/- The walk of the reference lexer's next. -/
namespace Go.Proofs.YtncnoeoicaglaaaGreat
open Go.RowKit
set_option maxRecDepth 100000 in
set_option maxHeartbeats 4000000 in
theorem next18_any (s : ByteArray) (a : Nat) (w : World) (hm : s.size ≤ 1000000000) (ha : a < s.size) :
  Calls Tryz.prog 21 #[.string s, .int .i64 (a : Int)] w fun e w' => Tok18 a (Lx.nextP (s.data.toList.drop a)) e ∧ Fresh w w' := by
 have hll : s.data.toList.length = s.size := by simp
 have hP := nextP_at s.data.toList a (by rw [hll]; exact ha)
 have hsl : s.data.toList[a]'(by rw [hll]; exact ha) = s[a]'ha := rfl
 rw [hsl] at hP
 have h1 := one18 s a ha
 obtain ⟨c, hc⟩ : ∃ c, s[a]'ha = c := ⟨_, rfl⟩
 rw [hc] at hP h1
 have H1 := hid h1
 have HP := hid hP
 have HLL := hid hll
 have HCH := hid (fun (x : Int) (i : Nat) (w : World) (hx : x = (i : Int)) (hi : i ≤ 1000000002) => char18_at s x i w hm hx hi)
 have HDG := hid (fun (x : Int) (i : Nat) (w : World) (hx : x = (i : Int)) (hi : i ≤ s.size) => digits18_at s x i w hm hx hi)
 have HQ := hid (fun (w : World) => quoted18_any s a w hm ha)
 have HNM := hid (fun (w : World) => name18_any s a w hm ha)
 clear hP hsl h1 hll
 have d1 : (a : Int) < (s.size : Int) := by omega
 have d2 : (a : Int) + 1 ≤ (s.size : Int) := by omega
 have hx1 : s.extract a (a + 1) = ⟨#[c]⟩ := by apply ByteArray.ext; apply Array.toList_inj.1; rw [H1.out]
 go_enter Tryz.func21, Tryz.ntmps21
 go_wp2_with fail
 have HB := hid ((Blk.new w 34 #[.int .i64 0, .string ⟨#[]⟩, .int .i64 0, .int .i64 0]).alloc (.cells #[.int .i64 0, .string ⟨#[c]⟩, .int .i64 (a : Int), .int .i64 ((a : Int) + 1)] 34))
 have HO := hid (Blk.new2 w (.cells #[.int .i64 0, .string ⟨#[]⟩, .int .i64 0, .int .i64 0] 34) 34 #[.int .i64 0, .string ⟨#[c]⟩, .int .i64 (a : Int), .int .i64 ((a : Int) + 1)])
 have HF := hid (((Touch.refl (fun _ => False) w).alloc (.cells #[.int .i64 0, .string ⟨#[]⟩, .int .i64 0, .int .i64 0] 34)).alloc (.cells #[.int .i64 0, .string ⟨#[c]⟩, .int .i64 (a : Int), .int .i64 ((a : Int) + 1)] 34))
 generalize (w.alloc (.cells #[.int .i64 0, .string ⟨#[]⟩, .int .i64 0, .int .i64 0] 34)).alloc (.cells #[.int .i64 0, .string ⟨#[c]⟩, .int .i64 (a : Int), .int .i64 ((a : Int) + 1)] 34) = W0 at HB HO HF ⊢
 refine Calls.mono (digit_byte c _) ?_
 rintro _ _ ⟨rfl, hw5⟩
 replace hw5 := hw5.symm
 subst hw5
 cases hd : Tr.digit c with
 | true =>
  have HP1 := hid (show Lx.nextP (s.data.toList.drop a) = .ok ⟨2, (s.data.toList.drop a).take (Lx.numLen (s.data.toList.drop a))⟩ (Lx.numLen (s.data.toList.drop a)) by rw [HP.out, if_pos (by rw [← Tr.digit_isB]; exact hd)])
  have hn := Lx.runLen_le 2 (s.data.toList.drop a)
  rw [List.length_drop, HLL.out] at hn
  obtain ⟨t, ht⟩ : ∃ t, t = a + Lx.runLen 2 (s.data.toList.drop a) := ⟨_, rfl⟩
  have HT := hid (show (a + Lx.runLen 2 (s.data.toList.drop a) : Nat) = t from ht.symm)
  have ta : a ≤ t := by omega
  have ts : t ≤ s.size := by omega
  have HNL := hid (numLen_cb s.data.toList a)
  rw [HT.out] at HNL
  have HNE := hid (fun (u : Nat) (h1 : a ≤ u) (h2 : Lx.numLen (s.data.toList.drop a) = u - a) => show Lx.nextP (s.data.toList.drop a) = .ok ⟨2, (s.extract a u).data.toList⟩ (u - a) by rw [HP1.out, h2, extract18])
  clear ht hn hd HP HP1
  go_wp2_with fail
  refine Calls.mono (HDG.out _ a _ rfl (by omega)) ?_
  rintro _ _ ⟨rfl, hw5⟩
  replace hw5 := hw5.symm
  subst hw5
  rw [HT.out]
  go_wp2_with fail
  refine Calls.mono (HCH.out _ t _ rfl (by omega)) ?_
  rintro _ _ ⟨rfl, hw5⟩
  replace hw5 := hw5.symm
  subst hw5
  have e1 : (a : Int) ≤ (t : Int) := by omega
  have e2 : (t : Int) ≤ (s.size : Int) := by omega
  by_cases c46 : cb s.data.toList t = 46
  ·have b46 : (((cb s.data.toList t).toNat : Int) == 46) = true := u8_eq_of _ 46 c46
   go_wp2_with fail
   refine Calls.mono (HCH.out _ (t + 1) _ (by omega) (by omega)) ?_
   rintro _ _ ⟨rfl, hw5⟩
   replace hw5 := hw5.symm
   subst hw5
   go_wp2_with fail
   refine Calls.mono (digit_byte (cb s.data.toList (t + 1)) _) ?_
   rintro _ _ ⟨rfl, hw5⟩
   replace hw5 := hw5.symm
   subst hw5
   cases hd2 : Tr.digit (cb s.data.toList (t + 1)) with
   | true =>
    have hb2 : Lx.isB 2 (cb s.data.toList (t + 1)) = true := by rw [← Tr.digit_isB]; exact hd2
    have hlt := (run_step 2 s.data.toList (t + 1) (by decide) hb2).1
    rw [HLL.out] at hlt
    have hn := Lx.runLen_le 2 (s.data.toList.drop (t + 1))
    rw [List.length_drop, HLL.out] at hn
    obtain ⟨u, hu⟩ : ∃ u, u = t + 1 + Lx.runLen 2 (s.data.toList.drop (t + 1)) := ⟨_, rfl⟩
    have HU := hid (show (t + 1 + Lx.runLen 2 (s.data.toList.drop (t + 1)) : Nat) = u from hu.symm)
    have ua : a ≤ u := by omega
    have us : u ≤ s.size := by omega
    have HW := hid (show Lx.runLen 2 (s.data.toList.drop a) + 1 + Lx.runLen 2 (s.data.toList.drop (t + 1)) = u - a by have := HT.out; omega)
    clear hu hn hd2
    go_wp2_with fail
    refine Calls.mono (HDG.out _ (t + 1) _ (by omega) (by omega)) ?_
    rintro _ _ ⟨rfl, hw5⟩
    replace hw5 := hw5.symm
    subst hw5
    rw [HU.out]
    have e3 : (a : Int) ≤ (u : Int) := by omega
    have e4 : (u : Int) ≤ (s.size : Int) := by omega
    have HE := hid (HNE.out u (by omega) (by rw [HNL.out, if_pos ⟨c46, hb2⟩, HW.out]))
    obtain ⟨p0, p1, p2, p3, z0, z1, z2, z3, hlt⟩ := Blk.four HB.out
    go_wp2_with fail
    refine bodyPost_ret (v := .tuple #[.agg #[.int .i64 2, .string (s.extract a u), .int .i64 (a : Int), .int .i64 (u : Int)], .int .i64 0, .int .i64 0]) (by simp [results, Tryz.results21, go_sem, p0, p1, p2, p3] <;> exact c92.symm) rfl ?_
    exact ⟨by rw [HE.out]; unfold Tok18; simp only; rw [show ((a + (u - a) : Nat) : Int) = (u : Int) by omega]; rfl, Touch.put4 HF.out (.inr (Nat.le_refl _)) _ _ _ _⟩
   | false =>
    have hb2 : ¬ Lx.isB 2 (cb s.data.toList (t + 1)) = true := by rw [← Tr.digit_isB, hd2]; decide
    have HX := hid (show Lx.runLen 2 (s.data.toList.drop a) = t - a by have := HT.out; omega)
    have HE := hid (HNE.out t (by omega) (by rw [HNL.out, if_neg (fun h => hb2 h.2), HX.out]))
    obtain ⟨p0, p1, p2, p3, z0, z1, z2, z3, hlt⟩ := Blk.four HB.out
    go_wp2_with fail
    refine bodyPost_ret (v := .tuple #[.agg #[.int .i64 2, .string (s.extract a t), .int .i64 (a : Int), .int .i64 (t : Int)], .int .i64 0, .int .i64 0]) (by simp [results, Tryz.results21, go_sem, p0, p1, p2, p3] <;> exact c92.symm) rfl ?_
    exact ⟨by rw [HE.out]; unfold Tok18; simp only; rw [show ((a + (t - a) : Nat) : Int) = (t : Int) by omega]; rfl, Touch.put4 HF.out (.inr (Nat.le_refl _)) _ _ _ _⟩
  ·have b46 : (((cb s.data.toList t).toNat : Int) == 46) = false := u8_ne_of _ 46 c46
   have HX := hid (show Lx.runLen 2 (s.data.toList.drop a) = t - a by have := HT.out; omega)
   have HE := hid (HNE.out t (by omega) (by rw [HNL.out, if_neg (fun h => c46 h.1), HX.out]))
   clear c46
   obtain ⟨p0, p1, p2, p3, z0, z1, z2, z3, hlt⟩ := Blk.four HB.out
   go_wp2_with fail
   refine bodyPost_ret (v := .tuple #[.agg #[.int .i64 2, .string (s.extract a t), .int .i64 (a : Int), .int .i64 (t : Int)], .int .i64 0, .int .i64 0]) (by simp [results, Tryz.results21, go_sem, p0, p1, p2, p3] <;> exact c92.symm) rfl ?_
   exact ⟨by rw [HE.out]; unfold Tok18; simp only; rw [show ((a + (t - a) : Nat) : Int) = (t : Int) by omega]; rfl, Touch.put4 HF.out (.inr (Nat.le_refl _)) _ _ _ _⟩
 | false =>
  have HP0 := hid (show Lx.nextP (s.data.toList.drop a) = if Lx.isB 5 c then .ok ⟨7, [c]⟩ 1 else if c = 34 then Lx.quoP (s.data.toList.drop (a + 1)) [] 1 else if c = 92 ∧ cb s.data.toList (a + 1) = 92 then .ok ⟨8, [92, 92]⟩ 2 else if c = 92 ∧ Lx.isB 3 (cb s.data.toList (a + 1)) = true then Lx.nameP (s.data.toList.drop a) else if c = 35 ∧ (49 ≤ cb s.data.toList (a + 1) ∧ cb s.data.toList (a + 1) ≤ 52) then .ok ⟨6, [cb s.data.toList (a + 1)]⟩ 2 else if Lx.isB 3 c ∨ Lx.isB 4 c then .ok ⟨1, [c]⟩ 1 else .err 0 3 by rw [HP.out, if_neg (by rw [← Tr.digit_isB, hd]; decide)])
  clear HP
  clear hd
  go_wp2_with fail
  refine Calls.mono (in18_any ⟨#[123, 125, 40, 41, 91, 93, 94, 95, 38]⟩ c _ (by decide)) ?_
  rintro _ _ ⟨rfl, hw5⟩
  replace hw5 := hw5.symm
  subst hw5
  rw [show (⟨#[123, 125, 40, 41, 91, 93, 94, 95, 38]⟩ : ByteArray).data.toList.contains c = Lx.isB 5 c from marks_is c]
  cases h5 : Lx.isB 5 c with
  | true =>
   have HE := hid (show Lx.nextP (s.data.toList.drop a) = .ok ⟨7, [c]⟩ 1 by rw [HP0.out, if_pos (h5)])
   obtain ⟨o0, o1, o2, o3, y0, y1, y2, y3, hlo⟩ := Blk.four HO.out
   obtain ⟨p0, p1, p2, p3, z0, z1, z2, z3, hlt⟩ := Blk.four HB.out
   go_wp2_with fail
   refine bodyPost_ret (v := .tuple #[.agg #[.int .i64 7, .string ⟨#[c]⟩, .int .i64 (a : Int), .int .i64 ((a : Int) + 1)], .int .i64 0, .int .i64 0]) (by simp [results, Tryz.results21, go_sem, p0, p1, p2, p3] <;> exact c92.symm) rfl ?_
   exact ⟨by rw [HE.out]; rfl, Touch.put4 (HF.out.setCell (p := ⟨w.heap.size + 1, 0, none⟩) (.inr (Nat.le_succ _)) _) (.inr (Nat.le_refl _)) _ _ _ _⟩
  | false =>
   have HP1 := hid (show Lx.nextP (s.data.toList.drop a) = if c = 34 then Lx.quoP (s.data.toList.drop (a + 1)) [] 1 else if c = 92 ∧ cb s.data.toList (a + 1) = 92 then .ok ⟨8, [92, 92]⟩ 2 else if c = 92 ∧ Lx.isB 3 (cb s.data.toList (a + 1)) = true then Lx.nameP (s.data.toList.drop a) else if c = 35 ∧ (49 ≤ cb s.data.toList (a + 1) ∧ cb s.data.toList (a + 1) ≤ 52) then .ok ⟨6, [cb s.data.toList (a + 1)]⟩ 2 else if Lx.isB 3 c ∨ Lx.isB 4 c then .ok ⟨1, [c]⟩ 1 else .err 0 3 by rw [HP0.out, if_neg (by rw [h5]; decide)])
   clear HP0
   clear h5
   by_cases c34 : c = 34
   ·have b34 : ((c.toNat : Int) == 34) = true := u8_eq_of c 34 c34
    have HE := hid (show Lx.nextP (s.data.toList.drop a) = Lx.quoP (s.data.toList.drop (a + 1)) [] 1 by rw [HP1.out, if_pos (c34)])
    go_wp2_with fail
    refine Calls.mono (HQ.out _) ?_
    rintro e1 w1 ⟨he, hf⟩
    have HB1 := hid (hf.blk HB.out fun h => h)
    have HF1 := hid (HF.out.trans hf)
    clear hf
    cases hq : Lx.quoP (s.data.toList.drop (a + 1)) [] 1 with
    | ok t n =>
     rw [hq] at he HE
     unfold Tok18 at he
     simp only at he
     subst he
     clear hq
     obtain ⟨p0, p1, p2, p3, z0, z1, z2, z3, hlt⟩ := Blk.four HB1.out
     go_wp2_with fail
     refine bodyPost_ret (v := .tuple #[.agg #[.int .i64 t.kind, .string ⟨t.text.toArray⟩, .int .i64 (a : Int), .int .i64 ((a + n : Nat) : Int)], .int .i64 0, .int .i64 0]) (by simp [results, Tryz.results21, go_sem, p0, p1, p2, p3] <;> exact c92.symm) rfl ?_
     exact ⟨by rw [HE.out]; rfl, Touch.put4 HF1.out (.inr (Nat.le_refl _)) _ _ _ _⟩
    | err i er =>
     rw [hq] at he HE
     unfold Tok18 at he
     simp only at he
     subst he
     clear hq
     obtain ⟨p0, p1, p2, p3, z0, z1, z2, z3, hlt⟩ := Blk.four HB1.out
     go_wp2_with fail
     refine bodyPost_ret (v := .tuple #[.agg #[.int .i64 0, .string ⟨#[]⟩, .int .i64 0, .int .i64 0], .int .i64 ((a + i : Nat) : Int), .int .i64 (er : Int)]) (by simp [results, Tryz.results21, go_sem, p0, p1, p2, p3] <;> exact c92.symm) rfl ?_
     exact ⟨by rw [HE.out]; rfl, Touch.put4 HF1.out (.inr (Nat.le_refl _)) _ _ _ _⟩
   have b34 : ((c.toNat : Int) == 34) = false := u8_ne_of c 34 c34
   have HP2 := hid (show Lx.nextP (s.data.toList.drop a) = if c = 92 ∧ cb s.data.toList (a + 1) = 92 then .ok ⟨8, [92, 92]⟩ 2 else if c = 92 ∧ Lx.isB 3 (cb s.data.toList (a + 1)) = true then Lx.nameP (s.data.toList.drop a) else if c = 35 ∧ (49 ≤ cb s.data.toList (a + 1) ∧ cb s.data.toList (a + 1) ≤ 52) then .ok ⟨6, [cb s.data.toList (a + 1)]⟩ 2 else if Lx.isB 3 c ∨ Lx.isB 4 c then .ok ⟨1, [c]⟩ 1 else .err 0 3 by rw [HP1.out, if_neg (c34)])
   clear HP1
   clear c34
   obtain ⟨d, hd⟩ : ∃ d, cb s.data.toList (a + 1) = d := ⟨_, rfl⟩
   rw [hd] at HP2
   have HD := hid hd
   clear hd
   by_cases c92 : c = 92
   ·have b92 : ((c.toNat : Int) == 92) = true := u8_eq_of c 92 c92
    have b35 : ((c.toNat : Int) == 35) = false := u8_ne_of c 35 (by rw [c92]; decide)
    go_wp2_with fail
    refine Calls.mono (HCH.out _ (a + 1) _ (by omega) (by omega)) ?_
    rintro _ _ ⟨rfl, hw5⟩
    replace hw5 := hw5.symm
    subst hw5
    rw [HD.out]
    by_cases d92 : d = 92
    ·have f92 : ((d.toNat : Int) == 92) = true := u8_eq_of d 92 d92
     have HE := hid (show Lx.nextP (s.data.toList.drop a) = .ok ⟨8, [92, 92]⟩ 2 by rw [HP2.out, if_pos (⟨c92, d92⟩)])
     obtain ⟨p0, p1, p2, p3, z0, z1, z2, z3, hlt⟩ := Blk.four HB.out
     go_wp2_with fail
     refine bodyPost_ret (v := .tuple #[.agg #[.int .i64 8, .string ⟨#[92, 92]⟩, .int .i64 (a : Int), .int .i64 ((a : Int) + 2)], .int .i64 0, .int .i64 0]) (by simp [results, Tryz.results21, go_sem, p0, p1, p2, p3] <;> exact c92.symm) rfl ?_
     exact ⟨by rw [HE.out]; rfl, Touch.put4 HF.out (.inr (Nat.le_refl _)) _ _ _ _⟩
    have f92 : ((d.toNat : Int) == 92) = false := u8_ne_of d 92 d92
    have HP3 := hid (show Lx.nextP (s.data.toList.drop a) = if c = 92 ∧ Lx.isB 3 (d) = true then Lx.nameP (s.data.toList.drop a) else if c = 35 ∧ (49 ≤ d ∧ d ≤ 52) then .ok ⟨6, [d]⟩ 2 else if Lx.isB 3 c ∨ Lx.isB 4 c then .ok ⟨1, [c]⟩ 1 else .err 0 3 by rw [HP2.out, if_neg (fun h => d92 h.2)])
    clear HP2
    go_wp2_with fail
    refine Calls.mono (HCH.out _ (a + 1) _ (by omega) (by omega)) ?_
    rintro _ _ ⟨rfl, hw5⟩
    replace hw5 := hw5.symm
    subst hw5
    rw [HD.out]
    go_wp2_with fail
    refine Calls.mono (letter_byte d _) ?_
    rintro _ _ ⟨rfl, hw5⟩
    replace hw5 := hw5.symm
    subst hw5
    cases hl : Tr.letter d with
    | true =>
     have HE := hid (show Lx.nextP (s.data.toList.drop a) = Lx.nameP (s.data.toList.drop a) by rw [HP3.out, if_pos (⟨c92, by rw [← Tr.letter_isB]; exact hl⟩)])
     clear hl c92 d92
     go_wp2_with fail
     refine Calls.mono (HNM.out _) ?_
     rintro e1 w1 ⟨he, hf⟩
     have HB1 := hid (hf.blk HB.out fun h => h)
     have HF1 := hid (HF.out.trans hf)
     clear hf
     cases hq : Lx.nameP (s.data.toList.drop a) with
     | ok t n =>
      rw [hq] at he HE
      unfold Tok18 at he
      simp only at he
      subst he
      clear hq
      obtain ⟨p0, p1, p2, p3, z0, z1, z2, z3, hlt⟩ := Blk.four HB1.out
      go_wp2_with fail
      refine bodyPost_ret (v := .tuple #[.agg #[.int .i64 t.kind, .string ⟨t.text.toArray⟩, .int .i64 (a : Int), .int .i64 ((a + n : Nat) : Int)], .int .i64 0, .int .i64 0]) (by simp [results, Tryz.results21, go_sem, p0, p1, p2, p3] <;> exact c92.symm) rfl ?_
      exact ⟨by rw [HE.out]; rfl, Touch.put4 HF1.out (.inr (Nat.le_refl _)) _ _ _ _⟩
     | err i er =>
      rw [hq] at he HE
      unfold Tok18 at he
      simp only at he
      subst he
      clear hq
      obtain ⟨p0, p1, p2, p3, z0, z1, z2, z3, hlt⟩ := Blk.four HB1.out
      go_wp2_with fail
      refine bodyPost_ret (v := .tuple #[.agg #[.int .i64 0, .string ⟨#[]⟩, .int .i64 0, .int .i64 0], .int .i64 ((a + i : Nat) : Int), .int .i64 (er : Int)]) (by simp [results, Tryz.results21, go_sem, p0, p1, p2, p3] <;> exact c92.symm) rfl ?_
      exact ⟨by rw [HE.out]; rfl, Touch.put4 HF1.out (.inr (Nat.le_refl _)) _ _ _ _⟩
    | false =>
     have HP4 := hid (show Lx.nextP (s.data.toList.drop a) = if c = 35 ∧ (49 ≤ d ∧ d ≤ 52) then .ok ⟨6, [d]⟩ 2 else if Lx.isB 3 c ∨ Lx.isB 4 c then .ok ⟨1, [c]⟩ 1 else .err 0 3 by rw [HP3.out, if_neg (fun h => by rw [← Tr.letter_isB, hl] at h; exact absurd h.2 (by decide))])
     clear HP3
     have HP5 := hid (show Lx.nextP (s.data.toList.drop a) = if Lx.isB 3 c ∨ Lx.isB 4 c then .ok ⟨1, [c]⟩ 1 else .err 0 3 by rw [HP4.out, if_neg (fun h => by rw [c92] at h; exact absurd h.1 (by decide))])
     clear HP4
     clear hl d92
     go_wp2_with fail
     refine Calls.mono (character18_at _ c _ (by first | rfl | (have := eq_of_beq b92; omega) | (have := eq_of_beq b35; omega))) ?_
     rintro _ _ ⟨rfl, hw5⟩
     replace hw5 := hw5.symm
     subst hw5
     rw [chars_is c]
     cases hk : (Lx.isB 3 c || Lx.isB 4 c) with
     | true =>
      have HE := hid (show Lx.nextP (s.data.toList.drop a) = .ok ⟨1, [c]⟩ 1 by rw [HP5.out, if_pos (by simpa using hk)])
      obtain ⟨o0, o1, o2, o3, y0, y1, y2, y3, hlo⟩ := Blk.four HO.out
      obtain ⟨p0, p1, p2, p3, z0, z1, z2, z3, hlt⟩ := Blk.four HB.out
      go_wp2_with fail
      refine bodyPost_ret (v := .tuple #[.agg #[.int .i64 1, .string ⟨#[c]⟩, .int .i64 (a : Int), .int .i64 ((a : Int) + 1)], .int .i64 0, .int .i64 0]) (by simp [results, Tryz.results21, go_sem, p0, p1, p2, p3] <;> exact c92.symm) rfl ?_
      exact ⟨by rw [HE.out]; rfl, Touch.put4 (HF.out.setCell (p := ⟨w.heap.size + 1, 0, none⟩) (.inr (Nat.le_succ _)) _) (.inr (Nat.le_refl _)) _ _ _ _⟩
     | false =>
      have HE := hid (show Lx.nextP (s.data.toList.drop a) = .err 0 3 by rw [HP5.out, if_neg (by simpa using hk)])
      obtain ⟨p0, p1, p2, p3, z0, z1, z2, z3, hlt⟩ := Blk.four HB.out
      go_wp2_with fail
      refine bodyPost_ret (v := .tuple #[.agg #[.int .i64 0, .string ⟨#[]⟩, .int .i64 0, .int .i64 0], .int .i64 (a : Int), .int .i64 3]) (by simp [results, Tryz.results21, go_sem, p0, p1, p2, p3] <;> exact c92.symm) rfl ?_
      exact ⟨by rw [HE.out]; rfl, Touch.put4 HF.out (.inr (Nat.le_refl _)) _ _ _ _⟩
   have b92 : ((c.toNat : Int) == 92) = false := u8_ne_of c 92 c92
   have HP3 := hid (show Lx.nextP (s.data.toList.drop a) = if c = 92 ∧ Lx.isB 3 (d) = true then Lx.nameP (s.data.toList.drop a) else if c = 35 ∧ (49 ≤ d ∧ d ≤ 52) then .ok ⟨6, [d]⟩ 2 else if Lx.isB 3 c ∨ Lx.isB 4 c then .ok ⟨1, [c]⟩ 1 else .err 0 3 by rw [HP2.out, if_neg (fun h => c92 h.1)])
   clear HP2
   have HP4 := hid (show Lx.nextP (s.data.toList.drop a) = if c = 35 ∧ (49 ≤ d ∧ d ≤ 52) then .ok ⟨6, [d]⟩ 2 else if Lx.isB 3 c ∨ Lx.isB 4 c then .ok ⟨1, [c]⟩ 1 else .err 0 3 by rw [HP3.out, if_neg (fun h => c92 h.1)])
   clear HP3
   clear c92
   by_cases c35 : c = 35
   ·have b35 : ((c.toNat : Int) == 35) = true := u8_eq_of c 35 c35
    go_wp2_with fail
    refine Calls.mono (HCH.out _ (a + 1) _ (by omega) (by omega)) ?_
    rintro _ _ ⟨rfl, hw5⟩
    replace hw5 := hw5.symm
    subst hw5
    rw [HD.out]
    by_cases d49 : 49 ≤ d
    ·have f49 : decide ((49 : Int) ≤ (d.toNat : Int)) = true := by rw [decide_eq_true_iff]; have := UInt8.le_iff_toNat_le.1 d49; simp at this; omega
     have f49n : decide (49 ≤ d.toNat) = true := by have h := of_decide_eq_true f49; simp only [decide_eq_true_eq]; omega
     go_wp2_with fail
     refine Calls.mono (HCH.out _ (a + 1) _ (by omega) (by omega)) ?_
     rintro _ _ ⟨rfl, hw5⟩
     replace hw5 := hw5.symm
     subst hw5
     rw [HD.out]
     by_cases d52 : d ≤ 52
     ·have f52 : decide ((d.toNat : Int) ≤ 52) = true := by rw [decide_eq_true_iff]; have := UInt8.le_iff_toNat_le.1 d52; simp at this; omega
      have f52n : decide (d.toNat ≤ 52) = true := by have h := of_decide_eq_true f52; simp only [decide_eq_true_eq]; omega
      have HE := hid (show Lx.nextP (s.data.toList.drop a) = .ok ⟨6, [d]⟩ 2 by rw [HP4.out, if_pos (⟨c35, d49, d52⟩)])
      have hin : a + 1 < s.size := by
       rcases Nat.lt_or_ge (a + 1) s.size with h | h
       ·exact h
       ·have h0 := cb_ge s.data.toList (a + 1) (by rw [HLL.out]; exact h)
        rw [HD.out] at h0
        subst h0
        exact absurd d49 (by decide)
      have hx2 : s.extract (a + 1) (a + 2) = ⟨#[d]⟩ := by
       apply ByteArray.ext
       apply Array.toList_inj.1
       have := one18 s (a + 1) hin
       rw [show a + 1 + 1 = a + 2 by omega] at this
       rw [this]
       have h2 := cb_lt s.data.toList (a + 1) (by rw [HLL.out]; exact hin)
       rw [HD.out] at h2
       rw [h2]
       rfl
      have g2 : (a : Int) + 2 ≤ (s.size : Int) := by omega
      clear d49 d52 c35
      obtain ⟨p0, p1, p2, p3, z0, z1, z2, z3, hlt⟩ := Blk.four HB.out
      go_wp2_with fail
      refine bodyPost_ret (v := .tuple #[.agg #[.int .i64 6, .string ⟨#[d]⟩, .int .i64 (a : Int), .int .i64 ((a : Int) + 2)], .int .i64 0, .int .i64 0]) (by simp [results, Tryz.results21, go_sem, p0, p1, p2, p3] <;> exact c92.symm) rfl ?_
      exact ⟨by rw [HE.out]; rfl, Touch.put4 HF.out (.inr (Nat.le_refl _)) _ _ _ _⟩
     have f52 : decide ((d.toNat : Int) ≤ 52) = false := by rw [decide_eq_false_iff_not]; intro h; exact d52 (UInt8.le_iff_toNat_le.2 (by simp; omega))
     have f52n : decide (d.toNat ≤ 52) = false := by have h := of_decide_eq_false f52; simp only [decide_eq_false_iff_not]; omega
     have HP5 := hid (show Lx.nextP (s.data.toList.drop a) = if Lx.isB 3 c ∨ Lx.isB 4 c then .ok ⟨1, [c]⟩ 1 else .err 0 3 by rw [HP4.out, if_neg (fun h => d52 h.2.2)])
     clear HP4
     clear d49 d52 c35
     go_wp2_with fail
     refine Calls.mono (character18_at _ c _ (by first | rfl | (have := eq_of_beq b92; omega) | (have := eq_of_beq b35; omega))) ?_
     rintro _ _ ⟨rfl, hw5⟩
     replace hw5 := hw5.symm
     subst hw5
     rw [chars_is c]
     cases hk : (Lx.isB 3 c || Lx.isB 4 c) with
     | true =>
      have HE := hid (show Lx.nextP (s.data.toList.drop a) = .ok ⟨1, [c]⟩ 1 by rw [HP5.out, if_pos (by simpa using hk)])
      obtain ⟨o0, o1, o2, o3, y0, y1, y2, y3, hlo⟩ := Blk.four HO.out
      obtain ⟨p0, p1, p2, p3, z0, z1, z2, z3, hlt⟩ := Blk.four HB.out
      go_wp2_with fail
      refine bodyPost_ret (v := .tuple #[.agg #[.int .i64 1, .string ⟨#[c]⟩, .int .i64 (a : Int), .int .i64 ((a : Int) + 1)], .int .i64 0, .int .i64 0]) (by simp [results, Tryz.results21, go_sem, p0, p1, p2, p3] <;> exact c92.symm) rfl ?_
      exact ⟨by rw [HE.out]; rfl, Touch.put4 (HF.out.setCell (p := ⟨w.heap.size + 1, 0, none⟩) (.inr (Nat.le_succ _)) _) (.inr (Nat.le_refl _)) _ _ _ _⟩
     | false =>
      have HE := hid (show Lx.nextP (s.data.toList.drop a) = .err 0 3 by rw [HP5.out, if_neg (by simpa using hk)])
      obtain ⟨p0, p1, p2, p3, z0, z1, z2, z3, hlt⟩ := Blk.four HB.out
      go_wp2_with fail
      refine bodyPost_ret (v := .tuple #[.agg #[.int .i64 0, .string ⟨#[]⟩, .int .i64 0, .int .i64 0], .int .i64 (a : Int), .int .i64 3]) (by simp [results, Tryz.results21, go_sem, p0, p1, p2, p3] <;> exact c92.symm) rfl ?_
      exact ⟨by rw [HE.out]; rfl, Touch.put4 HF.out (.inr (Nat.le_refl _)) _ _ _ _⟩
    have f49 : decide ((49 : Int) ≤ (d.toNat : Int)) = false := by rw [decide_eq_false_iff_not]; intro h; exact d49 (UInt8.le_iff_toNat_le.2 (by simp; omega))
    have f49n : decide (49 ≤ d.toNat) = false := by have h := of_decide_eq_false f49; simp only [decide_eq_false_iff_not]; omega
    have HP5 := hid (show Lx.nextP (s.data.toList.drop a) = if Lx.isB 3 c ∨ Lx.isB 4 c then .ok ⟨1, [c]⟩ 1 else .err 0 3 by rw [HP4.out, if_neg (fun h => d49 h.2.1)])
    clear HP4
    clear d49 c35
    go_wp2_with fail
    refine Calls.mono (character18_at _ c _ (by first | rfl | (have := eq_of_beq b92; omega) | (have := eq_of_beq b35; omega))) ?_
    rintro _ _ ⟨rfl, hw5⟩
    replace hw5 := hw5.symm
    subst hw5
    rw [chars_is c]
    cases hk : (Lx.isB 3 c || Lx.isB 4 c) with
    | true =>
     have HE := hid (show Lx.nextP (s.data.toList.drop a) = .ok ⟨1, [c]⟩ 1 by rw [HP5.out, if_pos (by simpa using hk)])
     obtain ⟨o0, o1, o2, o3, y0, y1, y2, y3, hlo⟩ := Blk.four HO.out
     obtain ⟨p0, p1, p2, p3, z0, z1, z2, z3, hlt⟩ := Blk.four HB.out
     go_wp2_with fail
     refine bodyPost_ret (v := .tuple #[.agg #[.int .i64 1, .string ⟨#[c]⟩, .int .i64 (a : Int), .int .i64 ((a : Int) + 1)], .int .i64 0, .int .i64 0]) (by simp [results, Tryz.results21, go_sem, p0, p1, p2, p3] <;> exact c92.symm) rfl ?_
     exact ⟨by rw [HE.out]; rfl, Touch.put4 (HF.out.setCell (p := ⟨w.heap.size + 1, 0, none⟩) (.inr (Nat.le_succ _)) _) (.inr (Nat.le_refl _)) _ _ _ _⟩
    | false =>
     have HE := hid (show Lx.nextP (s.data.toList.drop a) = .err 0 3 by rw [HP5.out, if_neg (by simpa using hk)])
     obtain ⟨p0, p1, p2, p3, z0, z1, z2, z3, hlt⟩ := Blk.four HB.out
     go_wp2_with fail
     refine bodyPost_ret (v := .tuple #[.agg #[.int .i64 0, .string ⟨#[]⟩, .int .i64 0, .int .i64 0], .int .i64 (a : Int), .int .i64 3]) (by simp [results, Tryz.results21, go_sem, p0, p1, p2, p3] <;> exact c92.symm) rfl ?_
     exact ⟨by rw [HE.out]; rfl, Touch.put4 HF.out (.inr (Nat.le_refl _)) _ _ _ _⟩
   have b35 : ((c.toNat : Int) == 35) = false := u8_ne_of c 35 c35
   have HP5 := hid (show Lx.nextP (s.data.toList.drop a) = if Lx.isB 3 c ∨ Lx.isB 4 c then .ok ⟨1, [c]⟩ 1 else .err 0 3 by rw [HP4.out, if_neg (fun h => c35 h.1)])
   clear HP4
   clear c35
   go_wp2_with fail
   refine Calls.mono (character18_at _ c _ (by first | rfl | (have := eq_of_beq b92; omega) | (have := eq_of_beq b35; omega))) ?_
   rintro _ _ ⟨rfl, hw5⟩
   replace hw5 := hw5.symm
   subst hw5
   rw [chars_is c]
   cases hk : (Lx.isB 3 c || Lx.isB 4 c) with
   | true =>
    have HE := hid (show Lx.nextP (s.data.toList.drop a) = .ok ⟨1, [c]⟩ 1 by rw [HP5.out, if_pos (by simpa using hk)])
    obtain ⟨o0, o1, o2, o3, y0, y1, y2, y3, hlo⟩ := Blk.four HO.out
    obtain ⟨p0, p1, p2, p3, z0, z1, z2, z3, hlt⟩ := Blk.four HB.out
    go_wp2_with fail
    refine bodyPost_ret (v := .tuple #[.agg #[.int .i64 1, .string ⟨#[c]⟩, .int .i64 (a : Int), .int .i64 ((a : Int) + 1)], .int .i64 0, .int .i64 0]) (by simp [results, Tryz.results21, go_sem, p0, p1, p2, p3] <;> exact c92.symm) rfl ?_
    exact ⟨by rw [HE.out]; rfl, Touch.put4 (HF.out.setCell (p := ⟨w.heap.size + 1, 0, none⟩) (.inr (Nat.le_succ _)) _) (.inr (Nat.le_refl _)) _ _ _ _⟩
   | false =>
    have HE := hid (show Lx.nextP (s.data.toList.drop a) = .err 0 3 by rw [HP5.out, if_neg (by simpa using hk)])
    obtain ⟨p0, p1, p2, p3, z0, z1, z2, z3, hlt⟩ := Blk.four HB.out
    go_wp2_with fail
    refine bodyPost_ret (v := .tuple #[.agg #[.int .i64 0, .string ⟨#[]⟩, .int .i64 0, .int .i64 0], .int .i64 (a : Int), .int .i64 3]) (by simp [results, Tryz.results21, go_sem, p0, p1, p2, p3] <;> exact c92.symm) rfl ?_
    exact ⟨by rw [HE.out]; rfl, Touch.put4 HF.out (.inr (Nat.le_refl _)) _ _ _ _⟩
end Go.Proofs.YtncnoeoicaglaaaGreat
