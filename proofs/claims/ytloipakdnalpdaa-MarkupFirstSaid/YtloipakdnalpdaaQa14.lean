/- Part 14 of 20 of a proof; its texts, joined: EqE, XmD, XmE. No condition. -/
import Derived.Test.YtloipakdnalpdaaQa13
import Derived.Test.YtloipakdnalpdaaQa5
import Derived.Laws.StructEq
set_option maxRecDepth 100000
set_option maxHeartbeats 2000000
namespace Go.Proofs.Ytloipakdnalpdaa
open Go.RowKit
open El (E Attrs)
theorem guardAttr : Try.prog.eqGuardType Try.prog.depth 51 = false := by kernel_rfl
theorem stoodAttr : Try.prog.stoodInHeld 51 = false := by kernel_rfl
theorem fieldsAttr : Try.prog.underlying 51 = some (.struct (Try.prog.fieldsOf 51)) := by kernel_rfl
theorem eqAttr (a b c d : ByteArray) (w : World) : (Op.equalIn 10000 51 (.agg #[.string a, .string b]) (.agg #[.string c, .string d])).run Try.prog w = .ok (a == c && b == d) w := by
 rw [show (10000 : Nat) = 9999 + 1 from rfl, run_equalIn_struct w 9999 51 _ _ fieldsAttr stoodAttr];simp only [Program.fieldsOf, Try.underlying51];go_simp;rw [beq_toListBytes a c, beq_toListBytes b d]
 by_cases h1 : a.toList = c.toList <;> by_cases h2 : b.toList = d.toList <;> simp [h1, h2]
theorem eqE_snoc : ∀ (xs ys : List E) (k : Nat) (hx : k < xs.length) (hy : k < ys.length), El.eqL (xs.take (k + 1)) (ys.take (k + 1)) = (El.eqL (xs.take k) (ys.take k) && El.eqE xs[k] ys[k])
 | x :: xs, y :: ys, 0, _, _ => by simp [El.eqL]
 | x :: xs, y :: ys, k + 1, hx, hy => by
  simp only [List.take_succ_cons, El.eqL, List.getElem_cons_succ];rw [eqE_snoc xs ys k (by simpa using hx) (by simpa using hy), Bool.and_assoc]
 | [], _, _, hx, _ => by simp at hx
 | _ :: _, [], _, _, hy => by simp at hy
theorem eqE_no : ∀ (xs ys : List E) (k : Nat) (hx : k < xs.length) (hy : k < ys.length), El.eqE xs[k] ys[k] = false → El.eqL xs ys = false
 | x :: xs, y :: ys, 0, _, _, h => by simp only [List.getElem_cons_zero] at h; rw [El.eqL, h, Bool.false_and]
 | x :: xs, y :: ys, k + 1, hx, hy, h => by
  simp only [List.getElem_cons_succ] at h;rw [El.eqL, eqE_no xs ys k (by simpa using hx) (by simpa using hy) h, Bool.and_false]
 | [], _, _, hx, _, _ => by simp at hx
 | _ :: _, [], _, _, hy, _ => by simp at hy
theorem str_dec (a b : List UInt8) (p : Bool) (h : decide (a = b) = p) : ((⟨a.toArray⟩ : ByteArray) != (⟨b.toArray⟩ : ByteArray)) = !p := by
 rw [bne, str_eq', ← h];rw [Bool.eq_iff_iff];simp
theorem int_dec (a b : Nat) (p : Bool) (h : decide (a = b) = p) : ((a : Int) != (b : Int)) = !p := by
 rw [bne, ← h, Bool.eq_iff_iff];simp only [Bool.not_eq_true', beq_eq_false_iff_ne, ne_eq, decide_eq_false_iff_not];omega
theorem take_eq_snoc {α : Type} (l m : List α) (j : Nat) (hl : j < l.length) (hm : j < m.length) (h : l.take j = m.take j) (he : l[j] = m[j]) : l.take (j + 1) = m.take (j + 1) := by
 rw [List.take_add_one, List.take_add_one, h, List.getElem?_eq_getElem hl, List.getElem?_eq_getElem hm, he]
theorem eqE_step (n1 t1 n2 t2 : List UInt8) (a1 a2 : Attrs) (k1 k2 : List E) (va vk ub uk : Value) (w : World) (hA1 : RepA w a1 va) (hA2 : RepA w a2 ub) (hK1 : RepE w k1 vk) (hK2 : RepE w k2 uk)
  (hi : ∀ x ∈ k1, ∀ (y : E) (vx vy ux uy : Value) (w' : World), RepV w' x vx vy → RepV w' y ux uy → Calls Try.prog 9 #[.agg #[.string ⟨x.name.toArray⟩, vx, vy, .string ⟨x.text.toArray⟩], .agg #[.string ⟨y.name.toArray⟩, ux, uy, .string ⟨y.text.toArray⟩]] w' fun e w'' => e = .returned (.bool (El.eqE x y)) ∧ Fresh w' w'') :
  Calls Try.prog 9 #[.agg #[.string ⟨n1.toArray⟩, va, vk, .string ⟨t1.toArray⟩], .agg #[.string ⟨n2.toArray⟩, ub, uk, .string ⟨t2.toArray⟩]] w fun e w' => e = .returned (.bool (El.eqE (.mk n1 a1 k1 t1) (.mk n2 a2 k2 t2))) ∧ Fresh w w' := by
 have HI := hid hi;have hl1 : a1.length ≤ maxLen := by obtain ⟨_, _, _, h, _⟩ := hA1; exact h.1
 have hl2 := hK1.len;unfold maxLen at hl1 hl2;obtain ⟨A, ca, rfl⟩ := hA1.slice;obtain ⟨B, cb, rfl⟩ := hA2.slice;obtain ⟨C, cc, rfl⟩ := hK1.slice;obtain ⟨D, cd, rfl⟩ := hK2.slice;have HA1 := hid hA1;have HA2 := hid hA2;have HK1 := hid hK1;have HK2 := hid hK2;clear hi hA1 hA2 hK1 hK2;have HQ := hid (El.eqE_eq (.mk n1 a1 k1 t1) (.mk n2 a2 k2 t2));have HG := hid guardAttr;cases h1 : decide (n1 = n2) with
 | false =>
  have e1 := str_dec n1 n2 _ h1;have HD := hid (of_decide_eq_false h1);clear h1;go_enter Try.func9, Try.ntmps9;go_wp2_with fail
  go_ret;exact ⟨ret_bool' _ _ (by rw [HQ.out]; simp [E.name, HD.out]), frR⟩
 | true =>
 obtain rfl := of_decide_eq_true h1;clear h1;cases h2 : decide (t1 = t2) with
 | false =>
  have e2 := str_dec t1 t2 _ h2;have HD := hid (of_decide_eq_false h2);clear h2;go_enter Try.func9, Try.ntmps9;go_wp2_with fail
  go_ret;exact ⟨ret_bool' _ _ (by rw [HQ.out]; simp [E.text, HD.out]), frR⟩
 | true =>
 obtain rfl := of_decide_eq_true h2;clear h2;cases h3 : decide (a1.length = a2.length) with
 | false =>
  have e3 := int_dec a1.length a2.length _ h3;have HD := hid (of_decide_eq_false h3);clear h3;go_enter Try.func9, Try.ntmps9;go_wp2_with fail
  go_ret;exact ⟨ret_bool' _ _ (by rw [HQ.out]; have : a1 ≠ a2 := fun h => HD.out (by rw [h]); simp [E.attrs, this]), frR⟩
 | true =>
 have HD3 := hid (of_decide_eq_true h3);clear h3;rw [← HD3.out];cases h4 : decide (k1.length = k2.length) with
 | false =>
  have e4 := int_dec k1.length k2.length _ h4;have HD := hid (of_decide_eq_false h4);clear h4;go_enter Try.func9, Try.ntmps9;go_wp2_with fail
  go_ret;exact ⟨ret_bool' _ _ (by rw [HQ.out]; rw [show El.eqL (E.kids (.mk n1 a1 k1 t1)) (E.kids (.mk n1 a2 k2 t1)) = false from El.eqL_length _ _ HD.out]; simp), frR⟩
 | true =>
 have HD4 := hid (of_decide_eq_true h4);clear h4;rw [← HD4.out];go_enter Try.func9, Try.ntmps9;go_wp2_with fail
 refine forget_world (fun W => Fresh w W ∧ Blk W w.heap.size 30 #[.string ⟨n1.toArray⟩, .slice A a1.length ca, .slice C k1.length cc, .string ⟨t1.toArray⟩] ∧ Blk W (w.heap.size + 1) 30 #[.string ⟨n1.toArray⟩, .slice B a1.length cb, .slice D k1.length cd, .string ⟨t1.toArray⟩]) ⟨frR, blkN, blkN⟩ ?_;rintro W1 ⟨hf1, hb1, hb2⟩;have HF1 := hid hf1;have HB1 := hid hb1;have HB2 := hid hb2;clear hf1 hb1 hb2
 go_loopw [5] (fun i wr => ∃ j : Nat, i = .int .i64 j ∧ j ≤ a1.length ∧ Hid (a1.take j = a2.take j) ∧ Hid (Fresh w wr) ∧ Hid (Blk wr w.heap.size 30 #[.string ⟨n1.toArray⟩, .slice A a1.length ca, .slice C k1.length cc, .string ⟨t1.toArray⟩]) ∧ Hid (Blk wr (w.heap.size + 1) 30 #[.string ⟨n1.toArray⟩, .slice B a1.length cb, .slice D k1.length cd, .string ⟨t1.toArray⟩])) (fun i _ => a1.length - (intOf i).toNat)
 case atStart => exact ⟨0, rfl, Nat.zero_le _, rfl, HF1, HB1, HB2⟩
 case round =>
  obtain ⟨j, rfl, hj, HT, HF, HX1, HX2⟩ := hrel;rename_i wr _;obtain ⟨p0, p1, p2, p3, _, _, _, _, _⟩ := Blk.four HX1.out;obtain ⟨r0, r1, r2, r3, _, _, _, _, _⟩ := Blk.four HX2.out
  by_cases c1 : j < a1.length
  ·have d1 : decide ((j : Int) < (a1.length : Int)) = true := dT (by omega)
   have d1' : (j : Int) < (a1.length : Int) := by omega
   have c1y : j < a2.length := by have := HD3.out; omega
   have d1y : (j : Int) < (a2.length : Int) := by omega
   obtain ⟨g, o, rfl, hg, m0, m1, _, _⟩ := HA1.out.get j c1;obtain ⟨g', o', rfl, hg', q0, q1, _, _⟩ := HA2.out.get j c1y;have e0 := HF.out.cell m0 (fun h => h);have f0 := HF.out.cell m1 (fun h => h);have e1' := HF.out.cell q0 (fun h => h);have f1 := HF.out.cell q1 (fun h => h);clear m0 m1 q0 q1
   by_cases hx : a1[j] = a2[j]
   ·have hq : ∀ W, (Op.equalIn 10000 51 (.agg #[.string ⟨a1[j].1.toArray⟩, .string ⟨a1[j].2.toArray⟩]) (.agg #[.string ⟨a2[j].1.toArray⟩, .string ⟨a2[j].2.toArray⟩])).run Try.prog W = .ok true W := fun W => by rw [eqAttr, hx, str_eq', str_eq']; simp
    have HS := hid (take_eq_snoc a1 a2 j c1 c1y HT.out hx);clear hx;generalize a1[j] = x at *;generalize a2[j] = y at *;have hg1 := HG.out;go_wp2_with fail
    go_quiet (fail)
    go_wp2_with fail
    go_roundw
    case rel => exact ⟨j + 1, by go_num, c1, HS.out, frA HF.out, blkA HX1.out, blkA HX2.out⟩
    case measure => simp [intOf]; omega
   ·have hq : ∀ W, (Op.equalIn 10000 51 (.agg #[.string ⟨a1[j].1.toArray⟩, .string ⟨a1[j].2.toArray⟩]) (.agg #[.string ⟨a2[j].1.toArray⟩, .string ⟨a2[j].2.toArray⟩])).run Try.prog W = .ok false W := fun W => by
     rw [eqAttr, str_eq', str_eq']
     congr 1
     rw [← Bool.not_eq_true, Bool.and_eq_true, beq_iff_eq, beq_iff_eq];exact fun h => hx (Prod.ext (by simpa using h.1) (by simpa using h.2))
    have HN := hid (show a1 ≠ a2 from fun h => hx (by subst h; rfl));clear hx;generalize a1[j] = x at *;generalize a2[j] = y at *;have hg1 := HG.out;go_wp2_with fail
    go_quiet (fail)
    go_wp2_with fail
    go_ret;exact ⟨ret_bool' _ _ (by rw [HQ.out]; simp [E.attrs, HN.out]), frA HF.out⟩
  ·have d1 : decide ((j : Int) < (a1.length : Int)) = false := dF (by omega)
   obtain rfl : j = a1.length := by omega
   have HEA := hid (show a1 = a2 from by have := HT.out; rw [List.take_length, HD3.out, List.take_length] at this; exact this);go_wp2_with fail
   go_loopw [6] (fun i wr => ∃ j : Nat, i = .int .i64 j ∧ j ≤ k1.length ∧ Hid (El.eqL (k1.take j) (k2.take j) = true) ∧ Hid (Fresh w wr) ∧ Hid (Blk wr w.heap.size 30 #[.string ⟨n1.toArray⟩, .slice A a1.length ca, .slice C k1.length cc, .string ⟨t1.toArray⟩]) ∧ Hid (Blk wr (w.heap.size + 1) 30 #[.string ⟨n1.toArray⟩, .slice B a1.length cb, .slice D k1.length cd, .string ⟨t1.toArray⟩])) (fun i _ => k1.length - (intOf i).toNat)
   case atStart => exact ⟨0, rfl, Nat.zero_le _, by simp [El.eqL, Hid], HF, HX1, HX2⟩
   case round =>
    clear p0 p1 p2 p3 r0 r1 r2 r3 HX1 HX2 HF HT hj d1 c1 HB1 HB2 HF1;obtain ⟨j, rfl, hj, HT, HF, HX1, HX2⟩ := hrel;obtain ⟨p0, p1, p2, p3, _, _, _, _, _⟩ := Blk.four HX1.out;obtain ⟨r0, r1, r2, r3, _, _, _, _, _⟩ := Blk.four HX2.out
    by_cases c1 : j < k1.length
    ·have d1 : decide ((j : Int) < (k1.length : Int)) = true := dT (by omega)
     have d1' : (j : Int) < (k1.length : Int) := by omega
     have c1y : j < k2.length := by have := HD4.out; omega
     have HS := hid (eqE_snoc k1 k2 j c1 c1y);have HN := hid (eqE_no k1 k2 j c1 c1y);obtain ⟨g, o, vx, vy, rfl, hg, m0, m1, m2, m3, hrk⟩ := HK1.out.get j c1;obtain ⟨g', o', ux, uy, rfl, hg', n0, n1', n2, n3, hrl⟩ := HK2.out.get j c1y;have HC := hid (HI.out k1[j] (List.getElem_mem c1) k2[j] vx vy ux uy);have HRK := hid hrk;have HRL := hid hrl;obtain ⟨a0, a1', a2', a3⟩ := mv4 HF.out m0 m1 m2 m3;obtain ⟨b0, b1, b2, b3⟩ := mv4 HF.out n0 n1' n2 n3;clear m0 m1 m2 m3 n0 n1' n2 n3 hrk hrl;generalize k1[j] = x at *;generalize k2[j] = y at *;go_wp2_with fail
     refine forget_world (fun W => Fresh wr W ∧ Blk W w.heap.size 30 #[.string ⟨n1.toArray⟩, .slice A a1.length ca, .slice (some ⟨g, o, none⟩) k1.length cc, .string ⟨t1.toArray⟩] ∧ Blk W (w.heap.size + 1) 30 #[.string ⟨n1.toArray⟩, .slice B a1.length cb, .slice (some ⟨g', o', none⟩) k1.length cd, .string ⟨t1.toArray⟩]) ⟨frR, blkA HX1.out, blkA HX2.out⟩ ?_;rintro w4 ⟨hfw4, hb41, hb42⟩;have HF4 := hid hfw4;have HY1 := hid hb41;have HY2 := hid hb42;obtain ⟨a0_w4, a1_w4, a2_w4, a3_w4⟩ := mv4 HF4.out a0 a1' a2' a3;obtain ⟨b0_w4, b1_w4, b2_w4, b3_w4⟩ := mv4 HF4.out b0 b1 b2 b3;clear a0 a1' a2' a3 b0 b1 b2 b3 p0 p1 p2 p3 r0 r1 r2 r3;clear hfw4 hb41 hb42;have ga0_w4 := cR a0_w4;have ga1_w4 := cR a1_w4;have ga2_w4 := cR a2_w4;have ga3_w4 := cR a3_w4;have gb0_w4 := cR b0_w4;have gb1_w4 := cR b1_w4;have gb2_w4 := cR b2_w4;have gb3_w4 := cR b3_w4;have gp2 := cR ((Blk.cell HY1.out 2).trans rfl);have gr2 := cR ((Blk.cell HY2.out 2).trans rfl);have C0_w4 := hid (calmF (P := Try.prog) w4 (fun w hw => HC.out _ (HRK.out.fresh (Touch.trans (HF.out.trans HF4.out) hw)) (HRL.out.fresh (Touch.trans (HF.out.trans HF4.out) hw))));refine wp_region_quiet_below (by kernel_rfl) (by kernel_rfl) ?_
     repeat (quiet_step (first | with_reducible exact C0_w4.out _ _))
     refine wpQuiet_nil ?_;rintro w5 ⟨⟨_, _⟩, hWw5⟩;have hfw5 : Fresh w4 w5 := by rw [hWw5]; exact fresh_of_below (below_regrown _ _ _)
     clear hWw5 ga0_w4 ga1_w4 ga2_w4 ga3_w4 gb0_w4 gb1_w4 gb2_w4 gb3_w4 gp2 gr2;have HF5 := hid hfw5;clear hfw5;cases h4 : El.eqE x y with
     | false =>
      have HN2 := hid (HN.out h4);go_wp2_with fail
      go_ret;exact ⟨ret_bool' _ _ (by rw [HQ.out]; rw [show El.eqL (E.kids (.mk n1 a1 k1 t1)) (E.kids (.mk n1 a2 k2 t1)) = false from HN2.out]; simp), HF.out.trans (HF4.out.trans HF5.out)⟩
     | true =>
      have HS2 := hid (show El.eqL (k1.take (j + 1)) (k2.take (j + 1)) = true by rw [HS.out, HT.out, h4]; rfl);go_wp2_with fail
      go_roundw
      case rel => exact ⟨j + 1, by go_num, c1, HS2, hid (HF.out.trans (HF4.out.trans HF5.out)), hid (HF5.out.blk HY1.out fun h => h), hid (HF5.out.blk HY2.out fun h => h)⟩
      case measure => simp [intOf]; omega
    ·have d1 : decide ((j : Int) < (k1.length : Int)) = false := dF (by omega)
     obtain rfl : j = k1.length := by omega
     go_wp2_with fail
     go_ret;refine ⟨ret_bool' _ _ ?_, HF.out⟩;have := HT.out;rw [List.take_length, HD4.out, List.take_length] at this;rw [HQ.out];simp only [E.name, E.attrs, E.text, E.kids, this, HEA.out];simp
theorem elEqual_any (m : Nat) : ∀ (a b : E) (va vk ub uk : Value) (w : World), El.count a ≤ m → RepV w a va vk → RepV w b ub uk → Calls Try.prog 9 #[.agg #[.string ⟨a.name.toArray⟩, va, vk, .string ⟨a.text.toArray⟩], .agg #[.string ⟨b.name.toArray⟩, ub, uk, .string ⟨b.text.toArray⟩]] w fun e w' => e = .returned (.bool (El.eqE a b)) ∧ Fresh w w' := by
 induction m with
 | zero => intro n _ _ _ _ _ _ h; have := El.count_pos n; omega
 | succ m ih =>
  intro a b va vk ub uk w hc h1 h2;obtain ⟨n1, a1, k1, t1⟩ := a;obtain ⟨n2, a2, k2, t2⟩ := b;refine eqE_step n1 t1 n2 t2 a1 a2 k1 k2 va vk ub uk w h1.1 h2.1 h1.2.1 h2.2.1 fun x hx y vx vy ux uy w' g1 g2 => ih x y vx vy ux uy w' ?_ g1 g2
  have := El.count_mem hx;rw [El.count] at hc;omega
end Go.Proofs.Ytloipakdnalpdaa
namespace Go.Proofs.Ytloipakdnalpdaa
open Go.RowKit
open El (E Attrs vald valdL)
def ValidEnd (d k c : Nat) (e : E) (w : World) (x : Ending) (w' : World) : Prop := x = .returned (.bool (vald d k e)) ∧ Touch (fun b => b = c) w w' ∧ ∃ k' : Int, Blk w' c 3 #[.int .i64 k'] ∧ (vald d k e = true → k' = ((k + El.count e : Nat) : Int))
def XvalidC (e : E) : Prop := ∀ (g o c d k : Nat) (va vk : Value) (w : World), ElAt w g o e va vk → Blk w c 3 #[.int .i64 (k : Int)] → k ≤ 3000 → d ≤ 65 → Calls Try.prog 34 #[.pointer (some ⟨g, o, none⟩), .int .i64 (d : Int), .pointer (some ⟨c, 0, none⟩)] w (ValidEnd d k c e w)
theorem xname_list (l : List UInt8) (w : World) (h : l.length ≤ 9223372036854775807) : Calls Try.prog 60 #[.string ⟨l.toArray⟩] w fun e w' => e = .returned (.bool (El.nameOK l)) ∧ Fresh w w' :=
 (xname_any ⟨l.toArray⟩ w h).mono fun e w' ⟨h1, h2⟩ => ⟨h1, by rw [h2]; exact Touch.refl _ _⟩
theorem xvalue_list (l : List UInt8) (w : World) (h : l.length ≤ 9223372036854775807) : Calls Try.prog 61 #[.string ⟨l.toArray⟩] w fun e w' => e = .returned (.bool (El.valueOK l)) ∧ Fresh w w' :=
 (xvalue_any ⟨l.toArray⟩ w h).mono fun e w' ⟨h1, h2⟩ => ⟨h1, by rw [h2]; exact Touch.refl _ _⟩
theorem validEnd_false {d k c : Nat} {e : E} {w w' : World} {k' : Int} (hv : vald d k e = false) (ht : Touch (fun b => b = c) w w') (hb : Blk w' c 3 #[.int .i64 k']) : ValidEnd d k c e w (.returned (.bool false)) w' :=
 ⟨by rw [hv], ht, k', hb, fun h => by rw [hv] at h; cases h⟩
theorem xvalid_step (e : E) (ih : ∀ x ∈ e.kids, XvalidC x) : XvalidC e := by
 intro g o c d k va vk w he hc hk hd;have HQ := hid (El.vald_eq d k e);obtain ⟨n, ats, ks, t⟩ := e;obtain ⟨hg, h0, h1, h2, h3, ha, hks, hnl, htl⟩ := he;have HE := hid (show ElAt w g o (.mk n ats ks t) va vk from ⟨hg, h0, h1, h2, h3, ha, hks, hnl, htl⟩);have hne : g ≠ c := HE.out.ne (NoStr.int hc);have HA := hid (show RepA w ats va from ha);have HK := hid (show RepE w ks vk from hks);have HIH := hid ih;have hnl' : n.length ≤ maxLen := hnl;have htl' : t.length ≤ maxLen := htl;unfold maxLen at hnl' htl';have hl1 : ats.length ≤ maxLen := by obtain ⟨_, _, _, h, _⟩ := ha; exact h.1
 have hl2 : ks.length ≤ maxLen := hks.len;unfold maxLen at hl1 hl2;obtain ⟨A, ca, hva⟩ := ha.slice;obtain ⟨B, cb, hvb⟩ := hks.slice;replace hva : va = .slice A ats.length ca := hva;replace hvb : vk = .slice B ks.length cb := hvb;subst hva;subst hvb;replace h0 : w.cell? ⟨g, o, none⟩ = some (.string ⟨n.toArray⟩) := h0;replace h3 : w.cell? ⟨g, o + 3, none⟩ = some (.string ⟨t.toArray⟩) := h3;obtain ⟨q0⟩ : Nonempty (PLift (w.cell? ⟨c, 0, none⟩ = some (.int .i64 (k : Int)))) := ⟨⟨hc.cell 0⟩⟩;have q0 := q0.down;have qf : w.frozen? ⟨c, 0, none⟩ = false := hc.frozen 0;have qg : c < w.heap.size := hc.lt;have HC := hid hc;clear ih ha hks hnl htl hc;have HC1 := hid (show Blk (w.setCell ⟨c, 0, none⟩ (.int .i64 ((k : Int) + 1))) c 3 #[.int .i64 ((k : Int) + 1)] from HC.out.put 0 (.int .i64 ((k : Int) + 1)));have HT1 := hid ((Touch.refl (fun b => b = c) w).setCell (p := ⟨c, 0, none⟩) (.inl rfl) (.int .i64 ((k : Int) + 1)));have HE1 := hid (HE.out.turn HT1.out fun b hb => by rw [show b = c from hb]; exact NoStr.int HC.out);have hkw : (k : Int) ≤ 3000 := by omega
 have hdw : (d : Int) ≤ 65 := by omega
 by_cases hb1 : k + 1 ≤ 3000
 ·by_cases hb2 : d ≤ 64
  ·by_cases hb3 : ats.length ≤ 8
   ·have d1 : decide ((3000 : Int) < (k : Int) + 1) = false := dF (by omega)
    have d2 : decide ((64 : Int) < (d : Int)) = false := dF (by omega);have d3 : decide ((8 : Int) < (ats.length : Int)) = false := dF (by omega);go_enter Try.func34, Try.ntmps34;go_wp2_with fail
    generalize hW1 : w.setCell ⟨c, 0, none⟩ (.int .i64 ((k : Int) + 1)) = W1 at *;clear hW1 h0 h1 h2 h3 q0 qf qg d1 d2 d3;have HE0 := HE;have HC0 := HC;clear HE HC;obtain ⟨hgW, h0, h1, h2, h3, _⟩ := HE1.out;replace h0 : W1.cell? ⟨g, o, none⟩ = some (.string ⟨n.toArray⟩) := h0;replace h3 : W1.cell? ⟨g, o + 3, none⟩ = some (.string ⟨t.toArray⟩) := h3;have HOWN := hid (show El.ownOK (.mk n ats ks t) = (El.nameOK n && El.valueOK t && (t.isEmpty || ks.isEmpty) && decide (ats.length ≤ 8) && El.attrsOK ats) from rfl);refine (xname_any ⟨n.toArray⟩ _ (show n.length ≤ 9223372036854775807 by omega)).mono ?_;rintro _ w2 ⟨rfl, hw⟩;replace hw := hw.symm;subst hw;cases hnm : El.nameOK n with
    | false =>
     have HV := hid (show vald d k (.mk n ats ks t) = false by rw [HQ.out, HOWN.out, hnm]; simp);go_wp2_with fail
     go_ret;exact validEnd_false HV.out HT1.out HC1.out
    | true =>
    go_wp2_with fail
    refine (xvalue_any ⟨t.toArray⟩ _ (show t.length ≤ 9223372036854775807 by omega)).mono ?_;rintro _ w2 ⟨rfl, hw⟩;replace hw := hw.symm;subst hw;cases hvl : El.valueOK t with
    | false =>
     have HV := hid (show vald d k (.mk n ats ks t) = false by rw [HQ.out, HOWN.out, hvl]; simp);go_wp2_with fail
     go_ret;exact validEnd_false HV.out HT1.out HC1.out
    | true =>
    by_cases hk0 : 0 < ks.length ∧ t ≠ []
    ·obtain ⟨hk0, ht0⟩ := hk0
     have HV := hid (show vald d k (.mk n ats ks t) = false by
      rw [HQ.out, HOWN.out, show t.isEmpty = false from List.isEmpty_eq_false_iff.2 ht0, show ks.isEmpty = false from List.isEmpty_eq_false_iff.2 (List.ne_nil_of_length_pos hk0)]; simp)
     have e0 : ((⟨t.toArray⟩ : ByteArray) != ⟨#[]⟩) = true := by rw [bne, str_eq']; simpa using ht0
     have d5 : decide ((0 : Int) < (ks.length : Int)) = true := dT (by omega);have et : (!t.isEmpty) = true := by rw [List.isEmpty_eq_false_iff.2 ht0]; rfl
     go_wp2_with fail
     go_ret;exact validEnd_false HV.out HT1.out HC1.out
    have HTK := hid (show (t.isEmpty || ks.isEmpty) = true by
     rw [Bool.or_eq_true, List.isEmpty_iff, List.isEmpty_iff]
     by_cases ht : t = []
     ·exact .inl ht
     ·exact .inr (List.eq_nil_of_length_eq_zero (by have : ¬ 0 < ks.length := fun h => hk0 ⟨h, ht⟩; omega)))
    by_cases ht0 : t = []
    focus
     have et : (!t.isEmpty) = false := by rw [ht0]; rfl
     clear hk0;go_wp2_with fail
    rotate_left
    focus
     have hk1 : ks.length = 0 := by have : ¬ 0 < ks.length := fun h => hk0 ⟨h, ht0⟩; omega
     have hk2 : ¬ 0 < ks.length := by omega
     have e0 : ((⟨t.toArray⟩ : ByteArray) != ⟨#[]⟩) = true := by rw [bne, str_eq']; simpa using ht0
     have d5 : decide ((0 : Int) < (ks.length : Int)) = false := dF (by omega);have et : (!t.isEmpty) = true := by rw [List.isEmpty_eq_false_iff.2 ht0]; rfl
     clear hk0 hk1;go_wp2_with fail
    all_goals
     clear et ht0 h0 h1 h2 h3
     try clear hk2 e0 d5
     go_loopw [65] (fun i wr => ∃ j : Nat, i = .int .i64 j ∧ j ≤ ats.length ∧ Hid (El.attrsOK (ats.take j) = true) ∧ Hid (Touch (fun b => b = c) w wr) ∧ Hid (Fresh W1 wr) ∧ Hid (Blk wr c 3 #[.int .i64 ((k : Int) + 1)])) (fun i _ => ats.length - (intOf i).toNat)
     case atStart => exact ⟨0, rfl, Nat.zero_le _, El.attrsOK_nil, HT1, Touch.refl _ _, HC1⟩
     case round =>
      obtain ⟨j, rfl, hj, HOK, HT, HF, HC⟩ := hrel
      by_cases c1 : j < ats.length
      ·have d1 : decide ((j : Int) < (ats.length : Int)) = true := dT (by omega)
       have d1' : (j : Int) < (ats.length : Int) := by omega
       have hjc : j ≤ ca := by have := HA.out.cap; omega
       have HA1 := hid (show RepA W1 ats _ from HE1.out.2.2.2.2.2.1);obtain ⟨ga, oa, rfl, hga, m0, m1, hx1, hx2⟩ := HA1.out.get j c1;have HAJ := hid (HA1.out.take j hj);have HX1 := hid hx1;have HX2 := hid hx2;have e0 := HF.out.cell m0 (fun h => h);have f0 := HF.out.cell m1 (fun h => h);have h1r := (HE1.out.fresh HF.out).2.2.1;have HS := hid (El.attrsOK_snoc ats j c1);clear m0 m1 hx1 hx2;generalize ats[j] = x at *;cases hA : El.nameOK x.1 with
       | false =>
        go_wp2_with fail
        refine forget_world (fun W => Fresh wr W ∧ Blk W wr.heap.size 51 #[.string ⟨x.1.toArray⟩, .string ⟨x.2.toArray⟩]) ⟨frR, blkN⟩ ?_;rintro w4 ⟨hf4, hb4⟩;have HF4 := hid hf4;have HB4 := hid hb4;have z0 := HF4.out.cell h1r (fun h => h);have zg := HF4.out.size;clear hf4 hb4 e0 f0 h1r;have g0 := cR z0;have g1 := cR (show w4.cell? ⟨wr.heap.size, 0, none⟩ = some (.string ⟨x.1.toArray⟩) from HB4.out.cell 0);have g2 := cR (show w4.cell? ⟨wr.heap.size, 1, none⟩ = some (.string ⟨x.2.toArray⟩) from HB4.out.cell 1);have C0 := hid (calmF (P := Try.prog) w4 (fun w hw => (show Calls _ _ _ _ (fun e w' => e = .returned (.bool false) ∧ Fresh w w') from hA ▸ xname_list x.1 w (by have := HX1.out; unfold maxLen at this; omega))));refine wp_region_quiet_below (by kernel_rfl) (by kernel_rfl) ?_
        repeat (with_reducible refine wpQuiet_step (fun K hK => ?_); go_simp; first | (refine hK _ ?_; clear hK K) | (apply Exists.intro; refine ⟨fun _ => ?_, hK _ ?_⟩; (first | with_reducible exact C0.out _ _); clear hK K))
        refine wpQuiet_nil ?_;rintro w5 ⟨⟨_, _⟩, hW5⟩;have hf5 : Fresh w4 w5 := by rw [hW5]; exact fresh_of_below (below_regrown _ _ _)
        clear hW5 g0 g1 g2 z0;have HF5 := hid (HF4.out.trans hf5);clear hf5;have HV := hid (show vald d k (.mk n ats ks t) = false by rw [HQ.out, HOWN.out, El.attrsOK_no ats (j + 1) (by rw [HS.out, HOK.out, hA]; simp)]; simp);go_wp2_with fail
        go_ret;exact validEnd_false HV.out (HT.out.trans (HF5.out.mono fun _ h => h.elim)) (HF5.out.blk HC.out fun h => h)
       | true =>
       cases hB : El.valueOK x.2 with
       | false =>
        go_wp2_with fail
        refine forget_world (fun W => Fresh wr W ∧ Blk W wr.heap.size 51 #[.string ⟨x.1.toArray⟩, .string ⟨x.2.toArray⟩]) ⟨frR, blkN⟩ ?_;rintro w4 ⟨hf4, hb4⟩;have HF4 := hid hf4;have HB4 := hid hb4;have z0 := HF4.out.cell h1r (fun h => h);have zg := HF4.out.size;clear hf4 hb4 e0 f0 h1r;have g0 := cR z0;have g1 := cR (show w4.cell? ⟨wr.heap.size, 0, none⟩ = some (.string ⟨x.1.toArray⟩) from HB4.out.cell 0);have g2 := cR (show w4.cell? ⟨wr.heap.size, 1, none⟩ = some (.string ⟨x.2.toArray⟩) from HB4.out.cell 1);have C0 := hid (calmF (P := Try.prog) w4 (fun w hw => (show Calls _ _ _ _ (fun e w' => e = .returned (.bool true) ∧ Fresh w w') from hA ▸ xname_list x.1 w (by have := HX1.out; unfold maxLen at this; omega))));have C1 := hid (calmF (P := Try.prog) w4 (fun w hw => (show Calls _ _ _ _ (fun e w' => e = .returned (.bool false) ∧ Fresh w w') from hB ▸ xvalue_list x.2 w (by have := HX2.out; unfold maxLen at this; omega))));refine wp_region_quiet_below (by kernel_rfl) (by kernel_rfl) ?_
        repeat (with_reducible refine wpQuiet_step (fun K hK => ?_); go_simp; first | (refine hK _ ?_; clear hK K) | (apply Exists.intro; refine ⟨fun _ => ?_, hK _ ?_⟩; (first | with_reducible exact C0.out _ _ | with_reducible exact C1.out _ _); clear hK K))
        refine wpQuiet_nil ?_;rintro w5 ⟨⟨_, _⟩, hW5⟩;have hf5 : Fresh w4 w5 := by rw [hW5]; exact fresh_of_below (below_regrown _ _ _)
        clear hW5 g0 g1 g2 z0;have HF5 := hid (HF4.out.trans hf5);clear hf5;have HV := hid (show vald d k (.mk n ats ks t) = false by rw [HQ.out, HOWN.out, El.attrsOK_no ats (j + 1) (by rw [HS.out, HOK.out, hB]; simp)]; simp);go_wp2_with fail
        go_ret;exact validEnd_false HV.out (HT.out.trans (HF5.out.mono fun _ h => h.elim)) (HF5.out.blk HC.out fun h => h)
       | true =>
       cases hC : (ats.take j).any (fun y => y.1 == x.1) with
       | true =>
        go_wp2_with fail
        refine forget_world (fun W => Fresh wr W ∧ Blk W wr.heap.size 51 #[.string ⟨x.1.toArray⟩, .string ⟨x.2.toArray⟩]) ⟨frR, blkN⟩ ?_;rintro w4 ⟨hf4, hb4⟩;have HF4 := hid hf4;have HB4 := hid hb4;have z0 := HF4.out.cell h1r (fun h => h);have zg := HF4.out.size;clear hf4 hb4 e0 f0 h1r;have g0 := cR z0;have g1 := cR (show w4.cell? ⟨wr.heap.size, 0, none⟩ = some (.string ⟨x.1.toArray⟩) from HB4.out.cell 0);have g2 := cR (show w4.cell? ⟨wr.heap.size, 1, none⟩ = some (.string ⟨x.2.toArray⟩) from HB4.out.cell 1);have C0 := hid (calmF (P := Try.prog) w4 (fun w hw => (show Calls _ _ _ _ (fun e w' => e = .returned (.bool true) ∧ Fresh w w') from hA ▸ xname_list x.1 w (by have := HX1.out; unfold maxLen at this; omega))));have C1 := hid (calmF (P := Try.prog) w4 (fun w hw => (show Calls _ _ _ _ (fun e w' => e = .returned (.bool true) ∧ Fresh w w') from hB ▸ xvalue_list x.2 w (by have := HX2.out; unfold maxLen at this; omega))));have C2 := hid (calmF (P := Try.prog) w4 (fun w hw => (show Calls _ _ _ _ (fun e w' => e = .returned (.bool true) ∧ Fresh w w') from hC ▸ xhas_any (ats.take j) x.1 (.slice (some ⟨ga, oa, none⟩) j ca) w ((HAJ.out.fresh (HF.out.trans HF4.out)).fresh hw))));refine wp_region_quiet_below (by kernel_rfl) (by kernel_rfl) ?_
        repeat (with_reducible refine wpQuiet_step (fun K hK => ?_); go_simp; first | (refine hK _ ?_; clear hK K) | (apply Exists.intro; refine ⟨fun _ => ?_, hK _ ?_⟩; (first | with_reducible exact C0.out _ _ | with_reducible exact C1.out _ _ | with_reducible exact C2.out _ _); clear hK K))
        refine wpQuiet_nil ?_;rintro w5 ⟨⟨_, _⟩, hW5⟩;have hf5 : Fresh w4 w5 := by rw [hW5]; exact fresh_of_below (below_regrown _ _ _)
        clear hW5 g0 g1 g2 z0;have HF5 := hid (HF4.out.trans hf5);clear hf5;have HV := hid (show vald d k (.mk n ats ks t) = false by rw [HQ.out, HOWN.out, El.attrsOK_no ats (j + 1) (by rw [HS.out, HOK.out, hC]; simp)]; simp);go_wp2_with fail
        go_ret;exact validEnd_false HV.out (HT.out.trans (HF5.out.mono fun _ h => h.elim)) (HF5.out.blk HC.out fun h => h)
       | false =>
        go_wp2_with fail
        refine forget_world (fun W => Fresh wr W ∧ Blk W wr.heap.size 51 #[.string ⟨x.1.toArray⟩, .string ⟨x.2.toArray⟩]) ⟨frR, blkN⟩ ?_;rintro w4 ⟨hf4, hb4⟩;have HF4 := hid hf4;have HB4 := hid hb4;have z0 := HF4.out.cell h1r (fun h => h);have zg := HF4.out.size;clear hf4 hb4 e0 f0 h1r;have g0 := cR z0;have g1 := cR (show w4.cell? ⟨wr.heap.size, 0, none⟩ = some (.string ⟨x.1.toArray⟩) from HB4.out.cell 0);have g2 := cR (show w4.cell? ⟨wr.heap.size, 1, none⟩ = some (.string ⟨x.2.toArray⟩) from HB4.out.cell 1);have C0 := hid (calmF (P := Try.prog) w4 (fun w hw => (show Calls _ _ _ _ (fun e w' => e = .returned (.bool true) ∧ Fresh w w') from hA ▸ xname_list x.1 w (by have := HX1.out; unfold maxLen at this; omega))));have C1 := hid (calmF (P := Try.prog) w4 (fun w hw => (show Calls _ _ _ _ (fun e w' => e = .returned (.bool true) ∧ Fresh w w') from hB ▸ xvalue_list x.2 w (by have := HX2.out; unfold maxLen at this; omega))));have C2 := hid (calmF (P := Try.prog) w4 (fun w hw => (show Calls _ _ _ _ (fun e w' => e = .returned (.bool false) ∧ Fresh w w') from hC ▸ xhas_any (ats.take j) x.1 (.slice (some ⟨ga, oa, none⟩) j ca) w ((HAJ.out.fresh (HF.out.trans HF4.out)).fresh hw))));refine wp_region_quiet_below (by kernel_rfl) (by kernel_rfl) ?_
        repeat (with_reducible refine wpQuiet_step (fun K hK => ?_); go_simp; first | (refine hK _ ?_; clear hK K) | (apply Exists.intro; refine ⟨fun _ => ?_, hK _ ?_⟩; (first | with_reducible exact C0.out _ _ | with_reducible exact C1.out _ _ | with_reducible exact C2.out _ _); clear hK K))
        refine wpQuiet_nil ?_;rintro w5 ⟨⟨_, _⟩, hW5⟩;have hf5 : Fresh w4 w5 := by rw [hW5]; exact fresh_of_below (below_regrown _ _ _)
        clear hW5 g0 g1 g2 z0;have HF5 := hid (HF4.out.trans hf5);clear hf5;have HS2 := hid (show El.attrsOK (ats.take (j + 1)) = true by rw [HS.out, HOK.out, hA, hB, hC]; rfl);go_wp2_with fail
        go_roundw
        case rel => exact ⟨j + 1, by go_num, c1, HS2, hid (HT.out.trans (HF5.out.mono fun _ h => h.elim)), hid (HF.out.trans HF5.out), hid (HF5.out.blk HC.out fun h => h)⟩
        case measure => simp [intOf]; omega
      ·have d1 : decide ((j : Int) < (ats.length : Int)) = false := dF (by omega)
       obtain rfl : j = ats.length := by omega
       have HAT := hid (show El.attrsOK ats = true by have := HOK.out; rwa [List.take_length] at this)
       have HVV := hid (show vald d k (.mk n ats ks t) = valdL (d + 1) (k + 1) ks by
        rw [HQ.out, HOWN.out, HAT.out, hnm, hvl, HTK.out, show decide (ats.length ≤ 8) = true from dT hb3, show decide (k + 1 ≤ 3000) = true from dT hb1, show decide (d ≤ 64) = true from dT hb2]; rfl)
       clear HAT HOK d1 hj;have h2r : wr.cell? ⟨g, o + 2, none⟩ = some (.slice B ks.length cb) := (HE1.out.fresh HF.out).2.2.2.1;go_wp2_with fail
       clear h2r
       go_loopw [97] (fun i wr => ∃ j : Nat, i = .int .i64 j ∧ j ≤ ks.length ∧ Hid (valdL (d + 1) (k + 1) (ks.take j) = true) ∧ Hid (Touch (fun b => b = c) w wr) ∧ Hid (Blk wr c 3 #[.int .i64 ((k + 1 + El.countL (ks.take j) : Nat) : Int)])) (fun i _ => ks.length - (intOf i).toNat)
       case atStart =>
        refine ⟨0, rfl, Nat.zero_le _, ?_, HT, ?_⟩
        ·show valdL (d + 1) (k + 1) [] = true
         unfold valdL;rw [El.properL, El.depthL, El.countL, dT (by omega), dT (by omega)]; rfl
        ·have := HC.out
         show Blk _ _ _ #[.int .i64 ((k + 1 + El.countL [] : Nat) : Int)];rw [El.countL, Nat.add_zero];exact this
       case round =>
        clear HT HC HF;obtain ⟨j, rfl, hj, HV, HT, HC⟩ := hrel;rename_i wr _;have HE2 := hid (HE0.out.turn HT.out fun b hb => by rw [show b = c from hb]; exact NoStr.int HC0.out)
        by_cases c1 : j < ks.length
        ·have d1 : decide ((j : Int) < (ks.length : Int)) = true := dT (by omega)
         have d1' : (j : Int) < (ks.length : Int) := by omega
         have h2r : wr.cell? ⟨g, o + 2, none⟩ = some (.slice B ks.length cb) := HE2.out.2.2.2.1;have hgr := HE2.out.1;obtain ⟨gk, ok, wa, wk, rfl, hek⟩ := (show RepE wr ks _ from HE2.out.2.2.2.2.2.2.1).elAt j c1
         have hsm : k + 1 + El.countL (ks.take j) ≤ 3000 := by
          have := HV.out;unfold valdL at this;rw [Bool.and_eq_true, decide_eq_true_eq] at this;exact this.2
         have HS := hid (El.valdL_snoc (d + 1) (k + 1) ks j c1);have HN := hid (El.valdL_no (d + 1) (k + 1) ks (j + 1));have HCT := hid (El.countL_take ks j c1);have hcall := HIH.out ks[j] (List.getElem_mem c1) gk (ok + j * 4) c (d + 1) _ wa wk wr hek HC.out hsm (by omega);rw [show ((d + 1 : Nat) : Int) = (d : Int) + 1 by omega] at hcall;have HCALL := hid hcall;clear hek hcall;generalize ks[j] = x at *;go_wp2_with fail
         refine HCALL.out.mono ?_;rintro _ w5 ⟨rfl, ht5, k5, hb5, hk5⟩;have HT5 := hid (HT.out.trans ht5);have HB5 := hid hb5;have HK5 := hid hk5;clear ht5 hb5 hk5;cases hv : vald (d + 1) (k + 1 + El.countL (ks.take j)) x with
         | false =>
          have HVF := hid (show vald d k (.mk n ats ks t) = false by rw [HVV.out]; exact HN.out (by rw [HS.out, HV.out, hv]; rfl));clear hv;go_wp2_with fail
          go_ret;exact validEnd_false HVF.out HT5.out HB5.out
         | true =>
          have HVT := hid (show valdL (d + 1) (k + 1) (ks.take (j + 1)) = true by rw [HS.out, HV.out, hv]; rfl);have HKK := hid (HK5.out hv);clear hv;go_wp2_with fail
          go_roundw
          case rel => exact ⟨j + 1, by go_num, c1, HVT, HT5, hid (by rw [HCT.out]; have := HB5.out; rw [HKK.out] at this; rw [← Nat.add_assoc]; exact this)⟩
          case measure => simp [intOf]; omega
        ·have d1 : decide ((j : Int) < (ks.length : Int)) = false := dF (by omega)
         obtain rfl : j = ks.length := by omega
         have HVT := hid (show vald d k (.mk n ats ks t) = true by rw [HVV.out]; have := HV.out; rwa [List.take_length] at this);go_wp2_with fail
         go_ret;refine ⟨by rw [HVT.out]; rfl, HT.out, _, HC.out, fun _ => ?_⟩;rw [List.take_length, El.count, Nat.add_assoc]
   ·have d1 : decide ((3000 : Int) < (k : Int) + 1) = false := dF (by omega)
    have d2 : decide ((64 : Int) < (d : Int)) = false := dF (by omega);have d3 : decide ((8 : Int) < (ats.length : Int)) = true := dT (by omega);have HV := hid (show vald d k (.mk n ats ks t) = false by rw [HQ.out]; unfold El.ownOK; rw [show decide ((E.attrs (.mk n ats ks t)).length ≤ 8) = false from dF hb3]; simp);go_enter Try.func34, Try.ntmps34;go_wp2_with fail
    go_ret;exact validEnd_false HV.out HT1.out HC1.out
  ·have d1 : decide ((3000 : Int) < (k : Int) + 1) = false := dF (by omega)
   have d2 : decide ((64 : Int) < (d : Int)) = true := dT (by omega);have HV := hid (show vald d k (.mk n ats ks t) = false by rw [HQ.out, show decide (d ≤ 64) = false from dF hb2]; simp);go_enter Try.func34, Try.ntmps34;go_wp2_with fail
   go_ret;exact validEnd_false HV.out HT1.out HC1.out
 ·have d1 : decide ((3000 : Int) < (k : Int) + 1) = true := dT (by omega)
  have HV := hid (show vald d k (.mk n ats ks t) = false by rw [HQ.out, show decide (k + 1 ≤ 3000) = false from dF hb1]; simp);go_enter Try.func34, Try.ntmps34;go_wp2_with fail
  go_ret;exact validEnd_false HV.out HT1.out HC1.out
theorem xvalid_any (e : E) : XvalidC e := El.E.ind (p := XvalidC) xvalid_step e
end Go.Proofs.Ytloipakdnalpdaa
namespace Go.Proofs.Ytloipakdnalpdaa
open Go.RowKit
open El (E Attrs vald)
theorem xValid_any (e : E) (va vk : Value) (w : World) (hr : RepV w e va vk) : Calls Try.prog 23 #[ev e va vk] w fun x w' => x = .returned (.bool (El.valid e)) ∧ Fresh w w' := by
 obtain ⟨A, ca, hva⟩ := hr.1.slice;obtain ⟨B, cb, hvk⟩ := hr.2.1.slice;have HR := hid hr;have HX := hid (xvalid_any e);subst hva;subst hvk;clear hr;obtain ⟨n, ats, ks, t⟩ := e;unfold ev;simp only [E.name, E.attrs, E.kids, E.text] at *;go_enter Try.func23, Try.ntmps23;go_wp2_with fail
 have hE : ElAt ((w.alloc (.cells #[.string ⟨n.toArray⟩, .slice A ats.length ca, .slice B ks.length cb, .string ⟨t.toArray⟩] 30)).alloc (.cells #[.int .i64 0] 3)) w.heap.size 0 (.mk n ats ks t) (.slice A ats.length ca) (.slice B ks.length cb) := by
  have hb := (Blk.new w 30 #[.string ⟨n.toArray⟩, .slice A ats.length ca, .slice B ks.length cb, .string ⟨t.toArray⟩]).alloc (.cells #[.int .i64 0] 3);obtain ⟨q0, q1, q2, q3, _, _, _, _, hg⟩ := Blk.four hb;exact ⟨hg, q0, q1, q2, q3, HR.out.fresh (((Touch.refl _ w).alloc _).alloc _)⟩
 refine (HX.out w.heap.size 0 (w.heap.size + 1) 1 0 _ _ _ hE (Blk.new2 _ _ _ _) (by omega) (by omega)).mono ?_;rintro _ w1 ⟨rfl, ht, _, _, _⟩;have HF := hid (show Fresh w w1 from (((Touch.refl (fun _ => False) w).alloc _).alloc _).trans' ht (fun i hi => by right; have hi : i = w.heap.size + 1 := hi; omega));have HVT := hid (El.vald_top (.mk n ats ks t));rw [HVT.out];clear hE ht;go_wp2_with fail
 go_ret;exact ⟨rfl, HF.out⟩
end Go.Proofs.Ytloipakdnalpdaa
