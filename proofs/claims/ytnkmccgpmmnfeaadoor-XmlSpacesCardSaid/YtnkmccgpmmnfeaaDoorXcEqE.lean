/- The reference's Equal of elements. -/
import Derived.Test.YtnkmccgpmmnfeaaDoorXa7
import Derived.Test.YtnkmccgpmmnfeaaDoorXa5
import Derived.Laws.StructEq
namespace Go.Proofs.YtnkmccgpmmnfeaaDoor
open Go.RowKit
open El (E Attrs)

theorem guardAttr : Tryd.prog.eqGuardType Tryd.prog.depth 40 = false := by kernel_rfl
theorem stoodAttr : Tryd.prog.stoodInHeld 40 = false := by kernel_rfl
theorem fieldsAttr : Tryd.prog.underlying 40 = some (.struct (Tryd.prog.fieldsOf 40)) := by kernel_rfl
theorem eqAttr (a b c d : ByteArray) (w : World) : (Op.equalIn 10000 40 (.agg #[.string a, .string b]) (.agg #[.string c, .string d])).run Tryd.prog w = .ok (a == c && b == d) w := by
  rw [show (10000 : Nat) = 9999 + 1 from rfl, run_equalIn_struct w 9999 40 _ _ fieldsAttr stoodAttr]
  simp only [Program.fieldsOf, Tryd.underlying40]
  go_simp
  rw [beq_toListBytes a c, beq_toListBytes b d]
  by_cases h1 : a.toList = c.toList <;> by_cases h2 : b.toList = d.toList <;> simp [h1, h2]

theorem eqE_snoc : ∀ (xs ys : List E) (k : Nat) (hx : k < xs.length) (hy : k < ys.length), El.eqL (xs.take (k + 1)) (ys.take (k + 1)) = (El.eqL (xs.take k) (ys.take k) && El.eqE xs[k] ys[k])
  | x :: xs, y :: ys, 0, _, _ => by simp [El.eqL]
  | x :: xs, y :: ys, k + 1, hx, hy => by
    simp only [List.take_succ_cons, El.eqL, List.getElem_cons_succ]
    rw [eqE_snoc xs ys k (by simpa using hx) (by simpa using hy), Bool.and_assoc]
  | [], _, _, hx, _ => by simp at hx
  | _ :: _, [], _, _, hy => by simp at hy
theorem eqE_no : ∀ (xs ys : List E) (k : Nat) (hx : k < xs.length) (hy : k < ys.length), El.eqE xs[k] ys[k] = false → El.eqL xs ys = false
  | x :: xs, y :: ys, 0, _, _, h => by simp only [List.getElem_cons_zero] at h; rw [El.eqL, h, Bool.false_and]
  | x :: xs, y :: ys, k + 1, hx, hy, h => by
    simp only [List.getElem_cons_succ] at h
    rw [El.eqL, eqE_no xs ys k (by simpa using hx) (by simpa using hy) h, Bool.and_false]
  | [], _, _, hx, _, _ => by simp at hx
  | _ :: _, [], _, _, hy, _ => by simp at hy

theorem str_dec (a b : List UInt8) (p : Bool) (h : decide (a = b) = p) : ((⟨a.toArray⟩ : ByteArray) != (⟨b.toArray⟩ : ByteArray)) = !p := by
  rw [bne, str_eq', ← h]
  rw [Bool.eq_iff_iff]
  simp
theorem int_dec (a b : Nat) (p : Bool) (h : decide (a = b) = p) : ((a : Int) != (b : Int)) = !p := by
  rw [bne, ← h, Bool.eq_iff_iff]
  simp only [Bool.not_eq_true', beq_eq_false_iff_ne, ne_eq, decide_eq_false_iff_not]
  omega
theorem take_eq_snoc {α : Type} (l m : List α) (j : Nat) (hl : j < l.length) (hm : j < m.length) (h : l.take j = m.take j) (he : l[j] = m[j]) : l.take (j + 1) = m.take (j + 1) := by
  rw [List.take_add_one, List.take_add_one, h, List.getElem?_eq_getElem hl, List.getElem?_eq_getElem hm, he]

set_option maxRecDepth 100000 in
set_option maxHeartbeats 2000000 in
/-- Equal, if it is known for the kids. -/
theorem eqE_step (n1 t1 n2 t2 : List UInt8) (a1 a2 : Attrs) (k1 k2 : List E) (va vk ub uk : Value) (w : World) (hA1 : RepA w a1 va) (hA2 : RepA w a2 ub) (hK1 : RepE w k1 vk) (hK2 : RepE w k2 uk)
    (hi : ∀ x ∈ k1, ∀ (y : E) (vx vy ux uy : Value) (w' : World), RepV w' x vx vy → RepV w' y ux uy → Calls Tryd.prog 15 #[.agg #[.string ⟨x.name.toArray⟩, vx, vy, .string ⟨x.text.toArray⟩], .agg #[.string ⟨y.name.toArray⟩, ux, uy, .string ⟨y.text.toArray⟩]] w' fun e w'' => e = .returned (.bool (El.eqE x y)) ∧ Fresh w' w'') :
    Calls Tryd.prog 15 #[.agg #[.string ⟨n1.toArray⟩, va, vk, .string ⟨t1.toArray⟩], .agg #[.string ⟨n2.toArray⟩, ub, uk, .string ⟨t2.toArray⟩]] w fun e w' => e = .returned (.bool (El.eqE (.mk n1 a1 k1 t1) (.mk n2 a2 k2 t2))) ∧ Fresh w w' := by
  have HI := hid hi
  have hl1 : a1.length ≤ maxLen := by obtain ⟨_, _, _, h, _⟩ := hA1; exact h.1
  have hl2 := hK1.len
  unfold maxLen at hl1 hl2
  obtain ⟨A, ca, rfl⟩ := hA1.slice
  obtain ⟨B, cb, rfl⟩ := hA2.slice
  obtain ⟨C, cc, rfl⟩ := hK1.slice
  obtain ⟨D, cd, rfl⟩ := hK2.slice
  have HA1 := hid hA1
  have HA2 := hid hA2
  have HK1 := hid hK1
  have HK2 := hid hK2
  clear hi hA1 hA2 hK1 hK2
  have HQ := hid (El.eqE_eq (.mk n1 a1 k1 t1) (.mk n2 a2 k2 t2))
  have HG := hid guardAttr
  cases h1 : decide (n1 = n2) with
  | false =>
    have e1 := str_dec n1 n2 _ h1
    have HD := hid (of_decide_eq_false h1)
    clear h1
    go_enter Tryd.func15, Tryd.ntmps15
    go_wp2_with fail
    go_ret
    exact ⟨ret_bool' _ _ (by rw [HQ.out]; simp [E.name, HD.out]), frR⟩
  | true =>
  obtain rfl := of_decide_eq_true h1
  clear h1
  cases h2 : decide (t1 = t2) with
  | false =>
    have e2 := str_dec t1 t2 _ h2
    have HD := hid (of_decide_eq_false h2)
    clear h2
    go_enter Tryd.func15, Tryd.ntmps15
    go_wp2_with fail
    go_ret
    exact ⟨ret_bool' _ _ (by rw [HQ.out]; simp [E.text, HD.out]), frR⟩
  | true =>
  obtain rfl := of_decide_eq_true h2
  clear h2
  cases h3 : decide (a1.length = a2.length) with
  | false =>
    have e3 := int_dec a1.length a2.length _ h3
    have HD := hid (of_decide_eq_false h3)
    clear h3
    go_enter Tryd.func15, Tryd.ntmps15
    go_wp2_with fail
    go_ret
    exact ⟨ret_bool' _ _ (by rw [HQ.out]; have : a1 ≠ a2 := fun h => HD.out (by rw [h]); simp [E.attrs, this]), frR⟩
  | true =>
  have HD3 := hid (of_decide_eq_true h3)
  clear h3
  rw [← HD3.out]
  cases h4 : decide (k1.length = k2.length) with
  | false =>
    have e4 := int_dec k1.length k2.length _ h4
    have HD := hid (of_decide_eq_false h4)
    clear h4
    go_enter Tryd.func15, Tryd.ntmps15
    go_wp2_with fail
    go_ret
    exact ⟨ret_bool' _ _ (by rw [HQ.out]; rw [show El.eqL (E.kids (.mk n1 a1 k1 t1)) (E.kids (.mk n1 a2 k2 t1)) = false from El.eqL_length _ _ HD.out]; simp), frR⟩
  | true =>
  have HD4 := hid (of_decide_eq_true h4)
  clear h4
  rw [← HD4.out]
  go_enter Tryd.func15, Tryd.ntmps15
  go_wp2_with fail
  refine forget_world (fun W => Fresh w W ∧ Blk W w.heap.size 26 #[.string ⟨n1.toArray⟩, .slice A a1.length ca, .slice C k1.length cc, .string ⟨t1.toArray⟩] ∧ Blk W (w.heap.size + 1) 26 #[.string ⟨n1.toArray⟩, .slice B a1.length cb, .slice D k1.length cd, .string ⟨t1.toArray⟩]) ⟨frR, blkN, blkN⟩ ?_
  rintro W1 ⟨hf1, hb1, hb2⟩
  have HF1 := hid hf1
  have HB1 := hid hb1
  have HB2 := hid hb2
  clear hf1 hb1 hb2
  go_loopw [5] (fun i wr => ∃ j : Nat, i = .int .i64 j ∧ j ≤ a1.length ∧ Hid (a1.take j = a2.take j) ∧ Hid (Fresh w wr) ∧ Hid (Blk wr w.heap.size 26 #[.string ⟨n1.toArray⟩, .slice A a1.length ca, .slice C k1.length cc, .string ⟨t1.toArray⟩]) ∧ Hid (Blk wr (w.heap.size + 1) 26 #[.string ⟨n1.toArray⟩, .slice B a1.length cb, .slice D k1.length cd, .string ⟨t1.toArray⟩])) (fun i _ => a1.length - (intOf i).toNat)
  case atStart => exact ⟨0, rfl, Nat.zero_le _, rfl, HF1, HB1, HB2⟩
  case round =>
    obtain ⟨j, rfl, hj, HT, HF, HX1, HX2⟩ := hrel
    rename_i wr _
    obtain ⟨p0, p1, p2, p3, _, _, _, _, _⟩ := Blk.four HX1.out
    obtain ⟨r0, r1, r2, r3, _, _, _, _, _⟩ := Blk.four HX2.out
    by_cases c1 : j < a1.length
    · have d1 : decide ((j : Int) < (a1.length : Int)) = true := dT (by omega)
      have d1' : (j : Int) < (a1.length : Int) := by omega
      have c1y : j < a2.length := by have := HD3.out; omega
      have d1y : (j : Int) < (a2.length : Int) := by omega
      obtain ⟨g, o, rfl, hg, m0, m1, _, _⟩ := HA1.out.get j c1
      obtain ⟨g', o', rfl, hg', q0, q1, _, _⟩ := HA2.out.get j c1y
      have e0 := HF.out.cell m0 (fun h => h)
      have f0 := HF.out.cell m1 (fun h => h)
      have e1' := HF.out.cell q0 (fun h => h)
      have f1 := HF.out.cell q1 (fun h => h)
      clear m0 m1 q0 q1
      by_cases hx : a1[j] = a2[j]
      · have hq : ∀ W, (Op.equalIn 10000 40 (.agg #[.string ⟨a1[j].1.toArray⟩, .string ⟨a1[j].2.toArray⟩]) (.agg #[.string ⟨a2[j].1.toArray⟩, .string ⟨a2[j].2.toArray⟩])).run Tryd.prog W = .ok true W := fun W => by rw [eqAttr, hx, str_eq', str_eq']; simp
        have HS := hid (take_eq_snoc a1 a2 j c1 c1y HT.out hx)
        clear hx
        generalize a1[j] = x at *
        generalize a2[j] = y at *
        have hg1 := HG.out
        go_wp2_with fail
        go_quiet (fail)
        go_wp2_with fail
        go_roundw
        case rel => exact ⟨j + 1, by go_num, c1, HS.out, frA HF.out, blkA HX1.out, blkA HX2.out⟩
        case measure => simp [intOf]; omega
      · have hq : ∀ W, (Op.equalIn 10000 40 (.agg #[.string ⟨a1[j].1.toArray⟩, .string ⟨a1[j].2.toArray⟩]) (.agg #[.string ⟨a2[j].1.toArray⟩, .string ⟨a2[j].2.toArray⟩])).run Tryd.prog W = .ok false W := fun W => by
          rw [eqAttr, str_eq', str_eq']
          congr 1
          rw [← Bool.not_eq_true, Bool.and_eq_true, beq_iff_eq, beq_iff_eq]
          exact fun h => hx (Prod.ext (by simpa using h.1) (by simpa using h.2))
        have HN := hid (show a1 ≠ a2 from fun h => hx (by subst h; rfl))
        clear hx
        generalize a1[j] = x at *
        generalize a2[j] = y at *
        have hg1 := HG.out
        go_wp2_with fail
        go_quiet (fail)
        go_wp2_with fail
        go_ret
        exact ⟨ret_bool' _ _ (by rw [HQ.out]; simp [E.attrs, HN.out]), frA HF.out⟩
    · have d1 : decide ((j : Int) < (a1.length : Int)) = false := dF (by omega)
      obtain rfl : j = a1.length := by omega
      have HEA := hid (show a1 = a2 from by have := HT.out; rw [List.take_length, HD3.out, List.take_length] at this; exact this)
      go_wp2_with fail
      go_loopw [6] (fun i wr => ∃ j : Nat, i = .int .i64 j ∧ j ≤ k1.length ∧ Hid (El.eqL (k1.take j) (k2.take j) = true) ∧ Hid (Fresh w wr) ∧ Hid (Blk wr w.heap.size 26 #[.string ⟨n1.toArray⟩, .slice A a1.length ca, .slice C k1.length cc, .string ⟨t1.toArray⟩]) ∧ Hid (Blk wr (w.heap.size + 1) 26 #[.string ⟨n1.toArray⟩, .slice B a1.length cb, .slice D k1.length cd, .string ⟨t1.toArray⟩])) (fun i _ => k1.length - (intOf i).toNat)
      case atStart => exact ⟨0, rfl, Nat.zero_le _, by simp [El.eqL, Hid], HF, HX1, HX2⟩
      case round =>
        clear p0 p1 p2 p3 r0 r1 r2 r3 HX1 HX2 HF HT hj d1 c1 HB1 HB2 HF1
        obtain ⟨j, rfl, hj, HT, HF, HX1, HX2⟩ := hrel
        obtain ⟨p0, p1, p2, p3, _, _, _, _, _⟩ := Blk.four HX1.out
        obtain ⟨r0, r1, r2, r3, _, _, _, _, _⟩ := Blk.four HX2.out
        by_cases c1 : j < k1.length
        · have d1 : decide ((j : Int) < (k1.length : Int)) = true := dT (by omega)
          have d1' : (j : Int) < (k1.length : Int) := by omega
          have c1y : j < k2.length := by have := HD4.out; omega
          have HS := hid (eqE_snoc k1 k2 j c1 c1y)
          have HN := hid (eqE_no k1 k2 j c1 c1y)
          obtain ⟨g, o, vx, vy, rfl, hg, m0, m1, m2, m3, hrk⟩ := HK1.out.get j c1
          obtain ⟨g', o', ux, uy, rfl, hg', n0, n1', n2, n3, hrl⟩ := HK2.out.get j c1y
          have HC := hid (HI.out k1[j] (List.getElem_mem c1) k2[j] vx vy ux uy)
          have HRK := hid hrk
          have HRL := hid hrl
          obtain ⟨a0, a1', a2', a3⟩ := mv4 HF.out m0 m1 m2 m3
          obtain ⟨b0, b1, b2, b3⟩ := mv4 HF.out n0 n1' n2 n3
          clear m0 m1 m2 m3 n0 n1' n2 n3 hrk hrl
          generalize k1[j] = x at *
          generalize k2[j] = y at *
          go_wp2_with fail
          refine forget_world (fun W => Fresh wr W ∧ Blk W w.heap.size 26 #[.string ⟨n1.toArray⟩, .slice A a1.length ca, .slice (some ⟨g, o, none⟩) k1.length cc, .string ⟨t1.toArray⟩] ∧ Blk W (w.heap.size + 1) 26 #[.string ⟨n1.toArray⟩, .slice B a1.length cb, .slice (some ⟨g', o', none⟩) k1.length cd, .string ⟨t1.toArray⟩]) ⟨frR, blkA HX1.out, blkA HX2.out⟩ ?_
          rintro w4 ⟨hfw4, hb41, hb42⟩
          have HF4 := hid hfw4
          have HY1 := hid hb41
          have HY2 := hid hb42
          obtain ⟨a0_w4, a1_w4, a2_w4, a3_w4⟩ := mv4 HF4.out a0 a1' a2' a3
          obtain ⟨b0_w4, b1_w4, b2_w4, b3_w4⟩ := mv4 HF4.out b0 b1 b2 b3
          clear a0 a1' a2' a3 b0 b1 b2 b3 p0 p1 p2 p3 r0 r1 r2 r3
          clear hfw4 hb41 hb42
          have ga0_w4 := cR a0_w4
          have ga1_w4 := cR a1_w4
          have ga2_w4 := cR a2_w4
          have ga3_w4 := cR a3_w4
          have gb0_w4 := cR b0_w4
          have gb1_w4 := cR b1_w4
          have gb2_w4 := cR b2_w4
          have gb3_w4 := cR b3_w4
          have gp2 := cR ((Blk.cell HY1.out 2).trans rfl)
          have gr2 := cR ((Blk.cell HY2.out 2).trans rfl)
          have C0_w4 := hid (calmF (P := Tryd.prog) w4 (fun w hw => HC.out _ (HRK.out.fresh (Touch.trans (HF.out.trans HF4.out) hw)) (HRL.out.fresh (Touch.trans (HF.out.trans HF4.out) hw))))
          refine wp_region_quiet_below (by kernel_rfl) (by kernel_rfl) ?_
          repeat (quiet_step (first | with_reducible exact C0_w4.out _ _))
          refine wpQuiet_nil ?_
          rintro w5 ⟨⟨_, _⟩, hWw5⟩
          have hfw5 : Fresh w4 w5 := by rw [hWw5]; exact fresh_of_below (below_regrown _ _ _)
          clear hWw5 ga0_w4 ga1_w4 ga2_w4 ga3_w4 gb0_w4 gb1_w4 gb2_w4 gb3_w4 gp2 gr2
          have HF5 := hid hfw5
          clear hfw5
          cases h4 : El.eqE x y with
          | false =>
            have HN2 := hid (HN.out h4)
            go_wp2_with fail
            go_ret
            exact ⟨ret_bool' _ _ (by rw [HQ.out]; rw [show El.eqL (E.kids (.mk n1 a1 k1 t1)) (E.kids (.mk n1 a2 k2 t1)) = false from HN2.out]; simp), HF.out.trans (HF4.out.trans HF5.out)⟩
          | true =>
            have HS2 := hid (show El.eqL (k1.take (j + 1)) (k2.take (j + 1)) = true by rw [HS.out, HT.out, h4]; rfl)
            go_wp2_with fail
            go_roundw
            case rel => exact ⟨j + 1, by go_num, c1, HS2, hid (HF.out.trans (HF4.out.trans HF5.out)), hid (HF5.out.blk HY1.out fun h => h), hid (HF5.out.blk HY2.out fun h => h)⟩
            case measure => simp [intOf]; omega
        · have d1 : decide ((j : Int) < (k1.length : Int)) = false := dF (by omega)
          obtain rfl : j = k1.length := by omega
          go_wp2_with fail
          go_ret
          refine ⟨ret_bool' _ _ ?_, HF.out⟩
          have := HT.out
          rw [List.take_length, HD4.out, List.take_length] at this
          rw [HQ.out]
          simp only [E.name, E.attrs, E.text, E.kids, this, HEA.out]
          simp
theorem elEqual_any (m : Nat) : ∀ (a b : E) (va vk ub uk : Value) (w : World), El.count a ≤ m → RepV w a va vk → RepV w b ub uk → Calls Tryd.prog 15 #[.agg #[.string ⟨a.name.toArray⟩, va, vk, .string ⟨a.text.toArray⟩], .agg #[.string ⟨b.name.toArray⟩, ub, uk, .string ⟨b.text.toArray⟩]] w fun e w' => e = .returned (.bool (El.eqE a b)) ∧ Fresh w w' := by
  induction m with
  | zero => intro n _ _ _ _ _ _ h; have := El.count_pos n; omega
  | succ m ih =>
    intro a b va vk ub uk w hc h1 h2
    obtain ⟨n1, a1, k1, t1⟩ := a
    obtain ⟨n2, a2, k2, t2⟩ := b
    refine eqE_step n1 t1 n2 t2 a1 a2 k1 k2 va vk ub uk w h1.1 h2.1 h1.2.1 h2.2.1 fun x hx y vx vy ux uy w' g1 g2 => ih x y vx vy ux uy w' ?_ g1 g2
    have := El.count_mem hx
    rw [El.count] at hc
    omega
end Go.Proofs.YtnkmccgpmmnfeaaDoor
