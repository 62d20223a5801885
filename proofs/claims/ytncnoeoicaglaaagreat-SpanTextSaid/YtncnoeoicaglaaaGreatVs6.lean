/- Part 6 of 42 of a proof; its texts, joined: SlA, SlB, Row, Bld, Bls, LxZ. No condition. -/
import Derived.Test.YtncnoeoicaglaaaGreatVs5
import Derived.Lib.AppendZeros
import Derived.Lib.SliceRun
import Derived.Test.YtncnoeoicaglaaaGreatRows
import Derived.ProofKit
import Derived.ChangeMaps5
import Derived.WideKeyArgs
import Derived.Lib.SmallJoins
import Derived.Lib.Builder
import Derived.Lib.UnsafeStr
import Derived.Maps.AppendAt
import Derived.Deep.RegionHeld3
import Derived.Lib.AppendStr
import Derived.Test.YtncnoeoicaglaaaGreatVs1
set_option maxRecDepth 100000
set_option maxHeartbeats 2000000
namespace Go.Proofs.YtncnoeoicaglaaaGreat
open Go.RowKit
def Ints (w : World) (v : Value) (l : List Int) : Prop :=
 ∃ A cap, v = .slice A l.length cap ∧ (l = [] ∨ ∃ g o, A = some ⟨g, o, none⟩ ∧ g < w.heap.size ∧ ∀ i (h : i < l.length), w.cell? ⟨g, o + i, none⟩ = some (.int .i64 l[i]))
theorem Ints.get {w : World} {A : Option Addr} {n cap : Nat} {l : List Int} (h : Ints w (.slice A n cap) l) (i : Nat) (hi : i < l.length) : ∃ g o, A = some ⟨g, o, none⟩ ∧ g < w.heap.size ∧ w.cell? ⟨g, o + i, none⟩ = some (.int .i64 l[i]) := by
 obtain ⟨A', cap', hv, h⟩ := h;cases hv
 rcases h with rfl | ⟨g, o, h1, h2, h3⟩
 ·simp at hi
 ·exact ⟨g, o, h1, h2, h3 i hi⟩
theorem Ints.slice {w : World} {v : Value} {l : List Int} (h : Ints w v l) : ∃ A cap, v = .slice A l.length cap := by
 obtain ⟨A, cap, h, _⟩ := h;exact ⟨A, cap, h⟩
theorem Ints.nil (w : World) (A : Option Addr) (cap : Nat) : Ints w (.slice A 0 cap) [] := ⟨A, cap, rfl, .inl rfl⟩
theorem Ints.fresh {w w' : World} {v : Value} {l : List Int} (h : Ints w v l) (hf : Fresh w w') : Ints w' v l := by
 obtain ⟨A, cap, h, h'⟩ := h;exact ⟨A, cap, h, h'.imp id fun ⟨g, o, h1, h2, h3⟩ => ⟨g, o, h1, Nat.lt_of_lt_of_le h2 hf.size, fun i hi => hf.cell (h3 i hi) (fun h => h)⟩⟩
theorem Ints.own {w : World} {B e : Nat} {v : Value} {l : List Int} (h : w.ownsRow B e 1 v l.length (l.map fun x => .int .i64 x)) : Ints w v l := by
 rcases h.2 with ⟨h1, h2⟩ | ⟨g, cap, cur, h1, _⟩
 ·rw [List.length_eq_zero_iff.1 h2, h1]
  exact Ints.nil _ _ _
 ·refine ⟨_, cap, h1, .inr ⟨g, 0, rfl, (h.lt g (by rw [h1]; rfl)).2, fun i hi => ?_⟩⟩
  have := h.cells (g := g) (by rw [h1]; rfl) i (.int .i64 l[i]) (by simp [hi]);rw [Addr.add_mid, Nat.zero_add] at this;rw [Nat.zero_add];exact this
theorem take_snoc_eq (a b : List Int) (j : Nat) (ha : j < a.length) (hb : j < b.length) (h : a.take j = b.take j) (he : a[j] = b[j]) : a.take (j + 1) = b.take (j + 1) := by
 rw [List.take_succ_eq_append_getElem ha, List.take_succ_eq_append_getElem hb, h, he]
theorem equal_ints (a b : List Int) (va vb : Value) (w : World) (h1 : Ints w va a) (h2 : Ints w vb b) (ha : a.length ≤ maxLen) (hb : b.length ≤ maxLen) :
  Calls Tryz.prog 55 #[va, vb] w fun e w' => e = .returned (.bool (decide (a = b))) ∧ Fresh w w' := by
 unfold maxLen at ha hb;obtain ⟨A, cap, rfl⟩ := h1.slice;obtain ⟨B, cbp, rfl⟩ := h2.slice;have HA := hid h1;have HB := hid h2;clear h1 h2
 by_cases c0 : a.length = b.length
 ·have b0 : ((a.length : Int) == (b.length : Int)) = true := by rw [c0]; simp
  have b0' : ((a.length : Int) != (b.length : Int)) = false := by rw [bne, b0]; rfl
  have C0 := hid c0;clear c0;go_enter Tryz.func55, Tryz.ntmps55;go_wp2_with fail
  go_loopw [13] (fun i wr => ∃ j : Nat, i = .int .i64 j ∧ j ≤ a.length ∧ Hid (a.take j = b.take j) ∧ Hid (Fresh w wr)) (fun i _ => a.length - (intOf i).toNat)
  case atStart => exact ⟨0, rfl, Nat.zero_le _, rfl, Touch.refl _ _⟩
  case round =>
   obtain ⟨j, rfl, hj, HT, HF⟩ := hrel
   by_cases c1 : j < a.length
   ·have d1 : decide ((j : Int) < (a.length : Int)) = true := by simp; omega
    have d1' : (j : Int) < (a.length : Int) := by omega
    have c1y : j < b.length := by rw [← C0.out]; exact c1
    have d1y : (j : Int) < (b.length : Int) := by omega
    obtain ⟨g, o, rfl, _, m0⟩ := HA.out.get j c1;obtain ⟨g', o', rfl, _, n0⟩ := HB.out.get j c1y;have HS := hid (take_snoc_eq a b j c1 c1y HT.out);have HN := hid (show a[j] ≠ b[j] → a ≠ b from fun h e => by subst e; exact h rfl);have a0 := HF.out.cell m0 (fun h => h);have b1 := HF.out.cell n0 (fun h => h);clear m0 n0;generalize a[j] = x at *;generalize b[j] = y at *;cases e : (x == y) with
    | true =>
     have e' : (x != y) = false := by rw [bne, e]; rfl
     go_wp2_with fail
     go_quiet (fail)
     go_wp2_with fail
     go_roundw
     case rel => exact ⟨j + 1, by go_num, c1, HS.out (by simpa using e), HF.out.drewN _⟩
     case measure => simp [intOf]; omega
    | false =>
     have e' : (x != y) = true := by rw [bne, e]; rfl
     go_wp2_with fail
     go_quiet (fail)
     go_wp2_with fail
     go_ret;exact ⟨by rw [decide_eq_false (HN.out (by simpa using e))]; rfl, HF.out.drewN _⟩
   ·have d1 : decide ((j : Int) < (a.length : Int)) = false := by simp; omega
    obtain rfl : j = a.length := by omega
    go_wp2_with fail
    go_ret;refine ⟨?_, HF.out⟩;have := HT.out;rw [List.take_length, C0.out, List.take_length] at this;rw [decide_eq_true this];rfl
 ·have b0 : ((a.length : Int) == (b.length : Int)) = false := by rw [beq_eq_false_iff_ne]; omega
  have b0' : ((a.length : Int) != (b.length : Int)) = true := by rw [bne, b0]; rfl
  have HLN := hid (show a ≠ b from fun e => c0 (by rw [e]));clear c0;go_enter Tryz.func55, Tryz.ntmps55;go_wp2_with fail
  go_ret;exact ⟨by rw [decide_eq_false HLN.out]; rfl, Touch.refl _ _⟩
def cmpI : List Int → List Int → Int
 | [], [] => 0
 | [], _ :: _ => -1
 | _ :: _, [] => 1
 | a :: l, b :: m => if a < b then -1 else if b < a then 1 else cmpI l m
def cmp1 (a b : Int) : Int := if a < b then -1 else if b < a then 1 else 0
theorem nan_int (x : Int) (w : World) : Calls Tryz.prog 142 #[.int .i64 x] w fun e w' => e = .returned (.bool false) ∧ w' = w := by
 have e : (x == x) = true := by simp
 have e' : (x != x) = false := by simp
 go_enter Tryz.func142, Tryz.ntmps142;go_wp2_with fail
 go_ret;exact ⟨rfl, rfl⟩
theorem cmp_int (x y : Int) (w : World) : Calls Tryz.prog 118 #[.int .i64 x, .int .i64 y] w fun e w' => e = .returned (.int .i64 (cmp1 x y)) ∧ w' = w := by
 by_cases c1 : x < y
 ·have e1 : decide (x < y) = true := by simp [c1]
  have HR := hid (show cmp1 x y = -1 by unfold cmp1; rw [if_pos c1]);go_enter Tryz.func118, Tryz.ntmps118
  go_wp2_with (with_reducible refine (nan_int _ _).mono ?_; rintro _ _ ⟨rfl, rfl⟩)
  go_ret;exact ⟨by rw [HR.out]; rfl, rfl⟩
 ·have e1 : decide (x < y) = false := by simp; omega
  by_cases c2 : y < x
  ·have e2 : decide (y < x) = true := by simp [c2]
   have HR := hid (show cmp1 x y = 1 by unfold cmp1; rw [if_neg c1, if_pos c2]);go_enter Tryz.func118, Tryz.ntmps118
   go_wp2_with (with_reducible refine (nan_int _ _).mono ?_; rintro _ _ ⟨rfl, rfl⟩)
   go_ret;exact ⟨by rw [HR.out]; rfl, rfl⟩
  ·have e2 : decide (y < x) = false := by simp; omega
   have HR := hid (show cmp1 x y = 0 by unfold cmp1; rw [if_neg c1, if_neg c2]);go_enter Tryz.func118, Tryz.ntmps118
   go_wp2_with (with_reducible refine (nan_int _ _).mono ?_; rintro _ _ ⟨rfl, rfl⟩)
   go_ret;exact ⟨by rw [HR.out]; rfl, rfl⟩
theorem cmpI_cons (a b : Int) (l m : List Int) : cmpI (a :: l) (b :: m) = if cmp1 a b = 0 then cmpI l m else cmp1 a b := by
 rw [cmpI];unfold cmp1
 by_cases h1 : a < b
 ·rw [if_pos h1, if_pos h1]; rfl
 ·rw [if_neg h1, if_neg h1]
  by_cases h2 : b < a
  ·rw [if_pos h2, if_pos h2]; rfl
  ·rw [if_neg h2, if_neg h2]; rfl
theorem compare_ints (a b : List Int) (va vb : Value) (w : World) (h1 : Ints w va a) (h2 : Ints w vb b) (ha : a.length ≤ maxLen) (_hb : b.length ≤ maxLen) :
  Calls Tryz.prog 86 #[va, vb] w fun e w' => e = .returned (.int .i64 (cmpI a b)) ∧ Fresh w w' := by
 unfold maxLen at ha _hb;obtain ⟨A, cap, rfl⟩ := h1.slice;obtain ⟨B, cbp, rfl⟩ := h2.slice;have HA := hid h1;have HB := hid h2;clear h1 h2;go_enter Tryz.func86, Tryz.ntmps86;go_wp2_with fail
 go_loopw [11] (fun i wr => ∃ j : Nat, i = .int .i64 j ∧ j ≤ a.length ∧ j ≤ b.length ∧ Hid (cmpI (a.drop j) (b.drop j) = cmpI a b) ∧ Hid (Fresh w wr)) (fun i _ => a.length - (intOf i).toNat)
 case atStart => exact ⟨0, rfl, Nat.zero_le _, Nat.zero_le _, rfl, Touch.refl _ _⟩
 case round =>
  obtain ⟨j, rfl, hj, hjb, HT, HF⟩ := hrel
  by_cases c1 : j < a.length
  ·have d1 : decide ((j : Int) < (a.length : Int)) = true := by simp; omega
   have d1' : (j : Int) < (a.length : Int) := by omega
   by_cases c2 : j < b.length
   ·have d2 : decide ((b.length : Int) ≤ (j : Int)) = false := by simp; omega
    have d2' : (j : Int) < (b.length : Int) := by omega
    obtain ⟨g, o, rfl, _, m0⟩ := HA.out.get j c1;obtain ⟨g', o', rfl, _, n0⟩ := HB.out.get j c2
    have HS := hid (show cmpI a b = if cmp1 a[j] b[j] = 0 then cmpI (a.drop (j + 1)) (b.drop (j + 1)) else cmp1 a[j] b[j] by
     rw [← HT.out, List.drop_eq_getElem_cons c1, List.drop_eq_getElem_cons c2, cmpI_cons])
    have a0 := HF.out.cell m0 (fun h => h);have b1 := HF.out.cell n0 (fun h => h);clear m0 n0;generalize a[j] = x at *;generalize b[j] = y at *;cases e : (cmp1 x y == 0) with
    | true =>
     have e' : (cmp1 x y != 0) = false := by rw [bne, e]; rfl
     go_wp2_with fail
     refine (cmp_int _ _ _).mono ?_;rintro _ wq ⟨rfl, hw⟩;replace hw := hw.symm;subst hw;go_wp2_with fail
     go_roundw
     case rel => exact ⟨j + 1, by go_num, c1, c2, by unfold Hid; rw [HS.out, if_pos (by simpa using e)], HF.out⟩
     case measure => simp [intOf]; omega
    | false =>
     have e' : (cmp1 x y != 0) = true := by rw [bne, e]; rfl
     go_wp2_with fail
     refine (cmp_int _ _ _).mono ?_;rintro _ wq ⟨rfl, hw⟩;replace hw := hw.symm;subst hw;go_wp2_with fail
     go_ret;exact ⟨by rw [HS.out, if_neg (by simpa using e)]; rfl, HF.out⟩
   ·have d2 : decide ((b.length : Int) ≤ (j : Int)) = true := by simp; omega
    have HR := hid (show cmpI a b = 1 by
     rw [← HT.out, List.drop_eq_getElem_cons c1, List.drop_eq_nil_of_le (show b.length ≤ j by omega)]; rfl)
    obtain ⟨g, o, rfl, _, m0⟩ := HA.out.get j c1;have a0 := HF.out.cell m0 (fun h => h);clear m0;generalize a[j] = x at *;go_wp2_with fail
    go_ret;exact ⟨by rw [HR.out]; rfl, HF.out⟩
  ·have d1 : decide ((j : Int) < (a.length : Int)) = false := by simp; omega
   obtain rfl : j = a.length := by omega
   by_cases c2 : a.length < b.length
   ·have d2 : decide ((a.length : Int) < (b.length : Int)) = true := by simp; omega
    have HR := hid (show cmpI a b = -1 by
     rw [← HT.out, List.drop_eq_nil_of_le (Nat.le_refl _), List.drop_eq_getElem_cons c2]; rfl)
    go_wp2_with fail
    go_ret;exact ⟨by rw [HR.out]; rfl, HF.out⟩
   ·have d2 : decide ((a.length : Int) < (b.length : Int)) = false := by simp; omega
    have HR := hid (show cmpI a b = 0 by
     rw [← HT.out, List.drop_eq_nil_of_le (Nat.le_refl _), List.drop_eq_nil_of_le (by omega)]; rfl)
    go_wp2_with fail
    go_ret;exact ⟨by rw [HR.out]; rfl, HF.out⟩
theorem pcompare_ints (a b : List Int) (va vb : Value) (w : World) (h1 : Ints w va a) (h2 : Ints w vb b) (ha : a.length ≤ maxLen) (hb : b.length ≤ maxLen) :
  Calls Tryz.prog 58 #[va, vb] w fun e w' => e = .returned (.int .i64 (cmpI a b)) ∧ Fresh w w' := by
 go_enter Tryz.func58, Tryz.ntmps58;go_wp2_with fail
 refine (compare_ints a b va vb _ h1 h2 ha hb).mono ?_;rintro _ w1 ⟨rfl, hf⟩;go_wp2_with fail
 go_ret;exact ⟨rfl, hf⟩
abbrev intVs (l : List Int) : List Value := l.map fun x => .int .i64 x
theorem intVs_len (l : List Int) : (intVs l).length = l.length * 1 := by simp
theorem intVs_one (l : List Int) : ∀ u ∈ intVs l, u.oneCell' = true := by
 intro u hu;obtain ⟨x, _, rfl⟩ := List.mem_map.1 hu;rfl
theorem Src.of_ints {w : World} {v : Value} {l : List Int} (h : Ints w v l) : Src w 1 v l.length (intVs l) := by
 obtain ⟨A, cap, rfl, h⟩ := h;refine ⟨A, cap, rfl, intVs_len l, ?_⟩
 rcases h with rfl | ⟨g, o, rfl, _, hc⟩
 ·cases A with
  | none => exact .inl ⟨rfl, rfl, rfl⟩
  | some a => exact .inr ⟨a, rfl, fun j u hu => by simp at hu⟩
 ·refine .inr ⟨_, rfl, fun j u hu => ?_⟩
  have hj : j < l.length := by have := (List.getElem?_eq_some_iff.1 hu).1; simpa using this
  rw [List.getElem?_map, List.getElem?_eq_getElem hj] at hu;simp only [Option.map_some, Option.some.injEq] at hu;rw [Addr.add_mid, ← hu];exact hc j hj
theorem infoInt : (Tryz.prog.info? 3).map (fun i => (i.zero, i.size, i.bytes)) = some (some (.int .i64 0), 1, 8) := by kernel_rfl
def IntsRow (w : World) (l : List Int) (e : Ending) (w' : World) : Prop := ∃ v, e = .returned v ∧ w'.ownsRow w.heap.size 3 1 v l.length (intVs l) ∧ Fresh w w'
theorem touch_grown {w w1 w2 : World} {v : Value} {B e size n : Nat} {xs : List Value} (hf : Fresh w w1) (ho : w1.ownsRow B e size v n xs) (hB : w.heap.size ≤ B) (hg : w1.grownBy w2 v.ownBlock) : Fresh w w2 :=
 Touch.grown hf hg fun g hgv => .inr (Nat.le_trans hB (ho.lt g hgv).1)
theorem clone_ints (l : List Int) (v : Value) (w : World) (h : Ints w v l) (hl : l.length ≤ 1000000) :
  Calls Tryz.prog 61 #[v] w (IntsRow w l) := by
 obtain ⟨i, hi, hz0, hz1, hz2⟩ := info_parts infoInt;have HI := hid h;have HL := hid hl;obtain ⟨A, cap, rfl⟩ := h.slice;cases A with
 | none =>
  have h0 : l = [] := by
   obtain ⟨A', cap', hv, h'⟩ := h;cases hv
   rcases h' with h' | ⟨g, o, h', _⟩
   ·exact h'
   ·cases h'
  clear h hl;subst h0;have hnil := fun w => Lib.run_eql_slice_nil (P := Tryz.prog) w 46 3 none 0 cap 0 0 rfl
  go_enter Tryz.func61, Tryz.ntmps61;go_wp2_with fail
  go_ret;exact ⟨_, rfl, World.ownsRow_nil _ _ _ _, Touch.refl _ _⟩
 | some a =>
  clear h hl;have hm : l.length ≤ maxLen := by have := HL.out; unfold maxLen; omega
  have hnil := fun w => Lib.run_eql_slice_nil (P := Tryz.prog) w 46 3 (some a) l.length cap 0 0 rfl
  go_enter Tryz.func61, Tryz.ntmps61
  go_wp2_with (at_builtin; refine wpList_append_src _ rfl (.tmp 5) (.tmp 6) 46 rfl w.heap.size 3 i _ 1 8 rfl hi hz0 hz1 hz2 rfl (by decide) (.slice (some ⟨w.heap.size, 0, none⟩) 0 0) 0 [] (by simp [Act.eval]) (World.ownsRow_lit w #[] 0 (Nat.le_refl _) (Nat.zero_le _) rfl) (.slice (some a) l.length cap) l.length (intVs l) (by simp [Act.eval]) ((Src.of_ints HI.out).fresh ((Touch.refl _ _).alloc _)) (intVs_one l) (by have := HL.out; unfold maxLen; omega) (by have := HL.out; omega) (by simp) ?_; intro v' w' ho hg _; have HO := hid ho; have HG := hid hg; clear ho hg)
  go_ret;refine ⟨_, rfl, by have := HO.out; rwa [Nat.zero_add, List.nil_append] at this, ?_⟩;exact Touch.grown ((Touch.refl _ w).alloc _) HG.out fun g hg => .inr (by simp only [Value.ownBlock, Option.some.injEq] at hg; omega)
theorem ints_any (l : List Int) (v : Value) (w : World) (h : Ints w v l) (hl : l.length ≤ 1000000) :
  Calls Tryz.prog 32 #[v] w (IntsRow w l) := by
 go_enter Tryz.func32, Tryz.ntmps32;go_wp2_with fail
 refine (clone_ints l v _ h hl).mono ?_;rintro _ w1 ⟨v', rfl, ho, hf⟩;go_wp2_with fail
 go_ret;exact ⟨_, rfl, ho, hf⟩
theorem grow_nil (n : Nat) (w : World) (h0 : 0 < n) (hn : n ≤ 2000000) :
  Calls Tryz.prog 119 #[.slice none 0 0, .int .i64 n] w (IntsRow w []) := by
 obtain ⟨i, hi, hz0, hz1, hz2⟩ := info_parts infoInt;have b1 : decide ((n : Int) < 0) = false := dF (by omega);have b2 : decide ((0 : Int) < (n : Int)) = true := dT (by omega);have b2n : decide (0 < n) = true := dT (by omega)
 have hr : ∀ ty, (Builtin.append_ #[46, 3] ty #[.slice none 0 0, .int .i64 n]).run Tryz.prog w = .ok (.slice (some ⟨w.heap.size, 0, none⟩) n (grownCap w n 0 3)) (w.drew.alloc (.cells (Builtin.zeroCells #[.int .i64 0] n ++ Builtin.zeroCells #[.int .i64 0] (grownCap w n 0 3 - n)) 3)) :=
  fun ty => Lib.run_append_nil_zeros w 46 3 ty 3 i (.int .i64 0) .i64 .i64 rfl rfl hi hz0 n h0 (by rw [hz1]; decide) (by omega) (by rw [hz2]; omega)
 have HR := hid hr;have HGE := hid (grownCap_ge w n 0 3);have HLE := hid (grownCap_le_maxLen w n 0 3 (by unfold maxLen; omega));clear hr;generalize grownCap w n 0 3 = cap at *;go_enter Tryz.func119, Tryz.ntmps119
 go_wp2_with (at_builtin; refine Lib.wpList_append_run _ rfl (.tmp 20) (.tmp 21) 46 3 rfl (.slice none 0 0) (.int .i64 n) (by simp [Act.eval]) (by simp [Act.eval]) _ _ (HR.out _) ?_)
 go_ret;exact ⟨_, rfl, World.ownsRow_made (w := w.drew) _ cap (Nat.le_refl _) HLE.out (by have := HGE.out; simp [Builtin.zeroCells]; omega), ((Touch.refl _ w).drew).alloc _⟩
def catS (a b : List Int) (j : Nat) : Nat := if j = 0 then 0 else if j = 1 then a.length else a.length + b.length
def catL (a b : List Int) (j : Nat) : List Int := if j = 0 then [] else if j = 1 then a else a ++ b
theorem concat2 (a b : List Int) (va vb : Value) (g : Nat) (w : World) (h1 : Ints w va a) (h2 : Ints w vb b) (c0 : w.cell? ⟨g, 0, none⟩ = some va) (c1 : w.cell? ⟨g, 1, none⟩ = some vb) (hn : 0 < a.length + b.length) (hl : a.length + b.length ≤ 1000000) :
  Calls Tryz.prog 87 #[.slice (some ⟨g, 0, none⟩) 2 2] w (IntsRow w (a ++ b)) := by
 obtain ⟨i, hi, hz0, hz1, hz2⟩ := info_parts infoInt;obtain ⟨A, cap, rfl⟩ := h1.slice;obtain ⟨B, cbp, rfl⟩ := h2.slice;have HA := hid h1;have HB := hid h2;have HL := hid hl;have HN := hid hn;have C0 := hid c0;have C1 := hid c1;clear h1 h2 c0 c1;go_enter Tryz.func87, Tryz.ntmps87;go_wp2_with fail
 go_loop [3, 11] (fun s i => ∃ j : Nat, i = .int .i64 j ∧ j ≤ 2 ∧ s = .int .i64 (catS a b j : Nat)) (fun _ i => 2 - (intOf i).toNat)
 case atStart => exact ⟨0, rfl, Nat.zero_le _, rfl⟩
 case round =>
  obtain ⟨j, rfl, hj, rfl⟩ := hrel;have q0 := C0.out;have q1 := C1.out;have hs : catS a b j ≤ 1000000 := by unfold catS; split <;> (try split) <;> omega
  by_cases j0 : j = 0
  ·subst j0
   have hst : (catS a b 1 : Nat) = a.length := rfl;go_wp2_with fail
   go_round
   case rel => exact ⟨1, rfl, by omega, by simp [catS]⟩
   case measure => simp [intOf]
  ·by_cases j1 : j = 1
   ·subst j1
    have hlt : decide ((a.length : Int) + (b.length : Int) < 0) = false := dF (by omega);have hst : (catS a b 1 : Nat) = a.length := rfl;rw [hst];go_wp2_with fail
    go_round
    case rel => exact ⟨2, rfl, by omega, by simp [catS]⟩
    case measure => simp [intOf]
   ·obtain rfl : j = 2 := by omega
    have hst : (catS a b 2 : Nat) = a.length + b.length := rfl;rw [hst];go_wp2_with fail
    refine (grow_nil (a.length + b.length) _ HN.out (by have := HL.out; omega)).mono ?_;rintro _ w1 ⟨v1, rfl, ho, hf⟩;have HO := hid ho;have HF := hid hf;clear ho hf;have q0 := HF.out.cell C0.out (fun h => h);have q1 := HF.out.cell C1.out (fun h => h);have hbw : w.heap.size ≤ w1.heap.size := HF.out.size;go_wp2_with fail
    go_loopw [6, 27] (fun s i wr => ∃ j : Nat, i = .int .i64 j ∧ j ≤ 2 ∧ Hid (wr.ownsRow w.heap.size 3 1 s (catL a b j).length (intVs (catL a b j))) ∧ Hid (Fresh w wr)) (fun _ i _ => 2 - (intOf i).toNat)
    case atStart => exact ⟨0, rfl, Nat.zero_le _, HO.out, HF.out⟩
    case round =>
     obtain ⟨j, rfl, hj, HO2, HF2⟩ := hrel;have q0 := HF2.out.cell C0.out (fun h => h);have q1 := HF2.out.cell C1.out (fun h => h);have hbw : w.heap.size ≤ wr.heap.size := HF2.out.size
     by_cases j0 : j = 0
     ·subst j0
      have HO3 := hid (show wr.ownsRow w.heap.size 3 1 u6 0 [] from HO2.out)
      go_wp2_with (at_builtin; refine wpList_append_src _ rfl (.tmp 31) (.tmp 32) 46 rfl w.heap.size 3 i _ 1 8 rfl hi hz0 hz1 hz2 rfl (by decide) u6 0 [] (by simp [Act.eval]) HO3.out (.slice A a.length cap) a.length (intVs a) (by simp [Act.eval]) ((Src.of_ints HA.out).fresh HF2.out) (intVs_one a) (by have := HL.out; unfold maxLen; omega) (by have := HL.out; omega) hbw ?_; intro v' w' ho hg _; have HO4 := hid ho; have HG := hid hg; clear ho hg)
      go_roundw
      case rel => exact ⟨1, rfl, by omega, by have := HO4.out; rwa [Nat.zero_add, List.nil_append] at this, touch_grown HF2.out HO3.out (Nat.le_refl _) HG.out⟩
      case measure => simp [intOf]
     ·by_cases j1 : j = 1
      ·subst j1
       have HO3 := hid (show wr.ownsRow w.heap.size 3 1 u6 a.length (intVs a) from HO2.out)
       go_wp2_with (at_builtin; refine wpList_append_src _ rfl (.tmp 31) (.tmp 32) 46 rfl w.heap.size 3 i _ 1 8 rfl hi hz0 hz1 hz2 rfl (by decide) u6 a.length (intVs a) (by simp [Act.eval]) HO3.out (.slice B b.length cbp) b.length (intVs b) (by simp [Act.eval]) ((Src.of_ints HB.out).fresh HF2.out) (intVs_one b) (by have := HL.out; unfold maxLen; omega) (by have := HL.out; omega) hbw ?_; intro v' w' ho hg _; have HO4 := hid ho; have HG := hid hg; clear ho hg)
       go_roundw
       case rel => exact ⟨2, rfl, by omega, by have := HO4.out; rw [← List.map_append, ← List.length_append] at this; exact this, touch_grown HF2.out HO3.out (Nat.le_refl _) HG.out⟩
       case measure => simp [intOf]
      ·obtain rfl : j = 2 := by omega
       have HO3 := hid (show wr.ownsRow w.heap.size 3 1 u6 (a ++ b).length (intVs (a ++ b)) from HO2.out);go_wp2_with fail
       go_ret;exact ⟨_, rfl, HO3.out, HF2.out⟩
abbrev up (p : List Nat) : List Int := p.map fun n : Nat => (n : Int)
end Go.Proofs.YtncnoeoicaglaaaGreat
namespace Go.Proofs.YtncnoeoicaglaaaGreat
open Go.ChangeShapes Go.WideShapes Go.ChangeAt Go.RowKit
open Go.ChangeMaps (open_string shut_string)
theorem Tryz.ownKnob : ownKnob Tryz.prog.godebug = none := by kernel_rfl
theorem Tryz.laidOut : laidOutB Tryz.prog = true := by kernel_rfl
section
variable {H : Type} {enc : TypeId × Value → H} {P : Program}
theorem post_of_below {f : Func} {s : ChangeSpec} {apart fresh handsOn again : Bool} {W W' : World} {args : Array Value} {v : Value} {ds gs : List (DataW H)} {before pa pv : List MemPlace}
  (hW : DataW.Whole enc P f.params.toList s.vars apart W args.toList ds gs before)
  (hres : ∀ (b : Nat) (sp : Nat → Bool) (hd : Bool), DataW.TrodAll enc P W' b sp hd f.resultTypes.toList (v.resultList f.resultTypes.size) (s.fn H (ds ++ gs)).results [])
  (hargs : ∀ sp : Nat → Bool, (∀ p ∈ before, sp p.block = true) → DataW.TrodAll enc P W' 0 sp true f.params.toList args.toList (s.fn H (ds ++ gs)).args pa)
  (hvars : ∀ sp : Nat → Bool, (∀ p ∈ before, sp p.block = true) → DataW.TrodVars enc P W' sp s.vars (s.fn H (ds ++ gs)).vars pv)
  (hps : before = pa ++ pv) (hb : Below W.heap.size W W')
  (hok : ∀ (j : Nat) (t : TypeId) (r : Value), f.resultTypes[j]? = some t → (v.resultList f.resultTypes.size)[j]? = some r → Value.okWide P W' .any 0 t r) :
  s.post enc P f apart fresh handsOn again W args v W' := by
 have hlt : ∀ p ∈ before, p.block < W.heap.size := fun p hp => hW.lt p hp
 have hold : ∀ p ∈ before, (fun b => decide (b < W.heap.size)) p.block = true := fun p hp => by simpa using hlt p hp
 refine ⟨ds, gs, before, [], pa, pv, hW, hres _ _ _, hargs _ hold, hvars _ hold, World.keptBut_mono (fun p hp => ⟨hp, ?_⟩) (hb.frame (· ∈ before)), fun _ => ?_⟩
 ·rw [hps, List.mem_append] at hp
  exact Or.inr hp
 ·obtain ⟨_, _, _, _, _, hz, hn⟩ := hW
  refine ⟨hok, _, _, ([] ++ pa) ++ pv, ⟨[] ++ pa, pv, trodAll_append (hargs _ (fun _ _ => rfl)) (hres _ _ _), hvars _ (fun _ _ => rfl), rfl, ?_, ?_⟩, ?_⟩
  ·intro b off hp
   have hin : MemPlace.cell b off ∈ before := by rw [hps]; simpa using hp
   rw [hb.frozen (hlt _ hin)];exact hz b off hin
  ·intro ha
   have := hn ha;rw [hps] at this;simpa using this
  ·intro p hp _
   rw [hps];simpa using hp
theorem trodAll_stays (hl : laidOutB P = true) {W W' : World} {sp' : Nat → Bool} (hb : Below W.heap.size W W') : ∀ {ts : List TypeId} {vs : List Value} {ds : List (DataW H)} {ps : List MemPlace}, (∀ t ∈ ts, P.readableRec t = true ∧ t < P.types.size) →
  DataW.TrodAll enc P W 0 (fun _ => true) true ts vs ds ps → (∀ x ∈ ps, x.block < W.heap.size) → (∀ x ∈ ps, sp' x.block = true) → DataW.TrodAll enc P W' 0 sp' true ts vs ds ps
 | [], [], [], _, _, h, _, _ => h
 | _ :: _, _ :: _, _ :: _, _, ht, ⟨p, q, h1, h2, e⟩, hlt, hs => by
  subst e
  exact ⟨p, q, WideElems.Trod_stays hl (ht _ (List.mem_cons_self ..)).1 (ht _ (List.mem_cons_self ..)).2 h1 (fun x hx => hb.same (hlt x (List.mem_append_left _ hx))) (fun x hx => hs x (List.mem_append_left _ hx)),
   trodAll_stays hl hb (fun t h => ht t (List.mem_cons_of_mem _ h)) h2 (fun x hx => hlt x (List.mem_append_right _ hx)) (fun x hx => hs x (List.mem_append_right _ hx)), rfl⟩
theorem post_true {f : Func} {s : ChangeSpec} {W W' : World} {args : Array Value} {ds : List (DataW H)} {before : List MemPlace} {tb : TypeId} (hl : laidOutB P = true)
  (htb : P.underlying tb = some .bool) (hres : f.resultTypes = #[tb]) (hp : (f.params.toList.all fun t => P.readableRec t && decide (t < P.types.size)) = true) (hv : s.vars = [])
  (hfn : s.fn H ds = ({ results := [.lit (.bool true)], args := ds } : Left H))
  (hW : DataW.Whole enc P f.params.toList s.vars false W args.toList ds [] before) (hb : Fresh W W') : s.post enc P f false true false false W args (.bool true) W' := by
 have hW' := hW;obtain ⟨p, q, hA, hV, rfl, hfz, hnd⟩ := hW;have hlt := hW'.lt;rw [hv] at hV;obtain ⟨_, rfl⟩ := trodVars_none hV
 have hpt : ∀ t ∈ f.params.toList, P.readableRec t = true ∧ t < P.types.size := fun t ht => by
  have := List.all_eq_true.1 hp t ht;simpa using this
 refine post_of_below (pa := p) (pv := []) (gs := []) hW' ?_ ?_ ?_ rfl hb.below ?_
 ·intro b sp hd
  rw [hres, List.append_nil, hfn];exact trodAll_mk1 (shut_bool htb _)
 ·intro sp hs
  rw [List.append_nil, hfn];exact trodAll_stays hl hb.below hpt hA (fun x hx => hlt x (List.mem_append_left _ hx)) (fun x hx => hs x (List.mem_append_left _ hx))
 ·intro sp hs
  rw [hv, List.append_nil, hfn];rfl
 ·exact ok_one (f := f) (t := tb) hres rfl (okWide_bool_mk htb _)
end
end Go.Proofs.YtncnoeoicaglaaaGreat
namespace Go.Proofs.YtncnoeoicaglaaaGreat
open Go.RowKit
structure Bld (w : World) (B b o : Nat) (T : TypeId) (cs : Array Value) (v : Value) (l : List UInt8) : Prop where
 blk : Blk w b T cs
 addr : cs[o]? = some (.pointer none) ∨ cs[o]? = some (.pointer (some ⟨b, o, none⟩))
 buf : cs[o + 1]? = some v
 own : w.ownsRow B 5 1 v l.length (Lib.byteCells l)
 ne : v.ownBlock ≠ some b
 nilv : l = [] → v = .slice none 0 0
theorem byteCells_snoc (l : List UInt8) (c : UInt8) : Lib.byteCells (l ++ [c]) = Lib.byteCells l ++ [.int .u8 c.toNat] := by simp [Lib.byteCells]
theorem infoU8 : (Tryz.prog.info? 5).map (fun i => (i.zero, i.size, i.bytes)) = some (some (.int .u8 0), 1, 1) := by kernel_rfl
theorem infoBuilder : ∃ j, Tryz.prog.info? 81 = some j ∧ j.size = 2 := by
 have h : (Tryz.prog.info? 81).map (·.size) = some 2 := by kernel_rfl
 exact Option.map_eq_some_iff.1 h
theorem shape_of_blk {w : World} {g : Nat} {t : TypeId} {cs : Array Value} (h : Blk w g t cs) : w.shape? g = some (t, cs.size) := by
 unfold Blk at h; simp [World.shape?, h]
theorem copyCheck_used (b o : Nat) (w : World) (h0 : w.cell? ⟨b, o, none⟩ = some (.pointer (some ⟨b, o, none⟩))) :
  Calls Tryz.prog 158 #[.pointer (some ⟨b, o, none⟩)] w fun e w' => e = .returned (.tuple #[]) ∧ w' = w := by
 obtain ⟨j, hj, _⟩ := infoBuilder;go_enter Tryz.func158, Tryz.ntmps158
 go_wp2
 rw [Lib.run_neq_ptr_same w _ Tryz.underlying79 hj]
 go_wp2
 go_end0
 exact ⟨rfl, rfl⟩
theorem copyCheck_fresh (b o : Nat) (T : TypeId) (n : Nat) (w : World) (h0 : w.cell? ⟨b, o, none⟩ = some (.pointer none)) (hsh : w.shape? b = some (T, n)) (hfz : w.frozen? ⟨b, o, none⟩ = false)
  (hon : o < n) (hlies : liesAt Tryz.prog Tryz.prog.depth T (n / Tryz.prog.cellsOf T) o 81 1 = true) :
  Calls Tryz.prog 158 #[.pointer (some ⟨b, o, none⟩)] w fun e w' => e = .returned (.tuple #[]) ∧ w' = w.setCell ⟨b, o, none⟩ (.pointer (some ⟨b, o, none⟩)) := by
 obtain ⟨j, hj, hjs⟩ := infoBuilder;go_enter Tryz.func158, Tryz.ntmps158
 go_wp2
 rw [Lib.run_to_unsafe w ⟨b, o, none⟩ Tryz.underlying79 Tryz.underlying187 hj (by rw [hjs]; decide) hsh hon];simp only [Result.andThen];rw [Oper.upon_value]
 go_wp2
 rw [run_callFunc_extern Tryz.func166 (by kernel_rfl) (by kernel_rfl) (by kernel_rfl) (e := Extern.AbiNoEscape.same) (by kernel_rfl)];rw [Lib.run_noEscape];simp only [Result.andThen];rw [Oper.upon_value]
 go_wp2
 rw [Lib.run_from_unsafe w ⟨b, o, none⟩ Tryz.underlying187 Tryz.underlying79 hj hsh hlies];simp only [Result.andThen];rw [Oper.upon_value]
 go_wp2
 go_end0
 exact ⟨rfl, rfl⟩
theorem copyCheck_any {w : World} {B b o : Nat} {T : TypeId} {cs : Array Value} {v : Value} {l : List UInt8} (h : Bld w B b o T cs v l)
  (hlies : liesAt Tryz.prog Tryz.prog.depth T (cs.size / Tryz.prog.cellsOf T) o 81 1 = true) :
  Calls Tryz.prog 158 #[.pointer (some ⟨b, o, none⟩)] w fun e w' => e = .returned (.tuple #[]) ∧ Blk w' b T (cs.setIfInBounds o (.pointer (some ⟨b, o, none⟩))) ∧ Touch (· = b) w w' ∧ w'.heap.size = w.heap.size := by
 have ho : o < cs.size := by
  rcases h.addr with h1 | h1 <;> exact (Array.getElem?_eq_some_iff.1 h1).1
 rcases h.addr with h1 | h1
 ·refine (copyCheck_fresh b o T cs.size w ((h.blk.cell o).trans h1) (shape_of_blk h.blk) (h.blk.frozen o) ho hlies).mono ?_
  rintro e w' ⟨rfl, rfl⟩;exact ⟨rfl, h.blk.put _ _, (Touch.refl (· = b) w).setCell (p := ⟨b, o, none⟩) (.inl rfl) _, by simp [World.setCell]⟩
 ·refine (copyCheck_used b o w ((h.blk.cell o).trans h1)).mono ?_
  rintro e w' ⟨rfl, rfl⟩;refine ⟨rfl, ?_, Touch.refl _ _, rfl⟩
  have : cs.setIfInBounds o (.pointer (some ⟨b, o, none⟩)) = cs := by
   apply Array.ext_getElem?
   intro i;rw [Array.getElem?_setIfInBounds];split
   ·rename_i hi; subst hi; simp [ho] at *; exact h1.symm
   ·rfl
  rw [this];exact h.blk
theorem Bld.lt {w : World} {B b o : Nat} {T : TypeId} {cs : Array Value} {v : Value} {l : List UInt8} (h : Bld w B b o T cs v l) : b < w.heap.size := h.blk.lt
theorem Bld.drewN {w : World} {B b o : Nat} {T : TypeId} {cs : Array Value} {v : Value} {l : List UInt8} (h : Bld w B b o T cs v l) (n : Nat) : Bld (w.drewN n) B b o T cs v l := ⟨h.blk, h.addr, h.buf, h.own, h.ne, h.nilv⟩
theorem ownsRow_base {w : World} {B B' e size n : Nat} {v : Value} {xs : List Value} (h : w.ownsRow B e size v n xs) (hB : B' ≤ B) : w.ownsRow B' e size v n xs := by
 obtain ⟨h1, h2⟩ := h;refine ⟨h1, ?_⟩
 rcases h2 with h2 | ⟨g, cap, cur, h3, h4, r⟩
 ·exact .inl h2
 ·exact .inr ⟨g, cap, cur, h3, by omega, r⟩
theorem ownsRow_touch {S : Nat → Prop} {w w' : World} {B e size n : Nat} {v : Value} {xs : List Value} (h : w.ownsRow B e size v n xs) (ht : Touch S w w') (hn : ∀ k, v.ownBlock = some k → ¬ S k) : w'.ownsRow B e size v n xs := by
 obtain ⟨h1, h2⟩ := h;refine ⟨h1, ?_⟩
 rcases h2 with h2 | ⟨g, cap, cur, rfl, hb, hh, r⟩
 ·exact .inl h2
 ·exact .inr ⟨g, cap, cur, rfl, hb, (ht.block g (Array.getElem?_eq_some_iff.1 hh).1 (hn g rfl)).trans hh, r⟩
theorem writeByte_any {w : World} {B b o : Nat} {T : TypeId} {cs : Array Value} {v : Value} {l : List UInt8} (h : Bld w B b o T cs v l)
  (hlies : liesAt Tryz.prog Tryz.prog.depth T (cs.size / Tryz.prog.cellsOf T) o 81 1 = true) (x : Int) (c : UInt8) (hx : x = c.toNat) (hlen : l.length + 1 ≤ 140737488355328) (hB : B ≤ w.heap.size) :
  Calls Tryz.prog 144 #[.pointer (some ⟨b, o, none⟩), .int .u8 x] w fun e w' => e = .returned .nilIface ∧ ∃ v', Bld w' B b o T ((cs.setIfInBounds o (.pointer (some ⟨b, o, none⟩))).setIfInBounds (o + 1) v') v' (l ++ [c]) ∧ Touch (fun k => k = b ∨ v.ownBlock = some k) w w' := by
 obtain ⟨i0, hi, hz0, hz1, hz2⟩ := info_parts infoU8;have ho : o + 1 < cs.size := (Array.getElem?_eq_some_iff.1 h.buf).1;go_enter Tryz.func144, Tryz.ntmps144;go_wp2_with fail
 refine (copyCheck_any h hlies).mono ?_;rintro e w1 ⟨rfl, hb1, ht1, hs1⟩
 have c1 : w1.cell? ⟨b, o + 1, none⟩ = some v := by
  rw [hb1.cell, Array.getElem?_setIfInBounds_ne (by omega)]; exact h.buf
 have hown : w1.ownsRow B 5 1 v l.length (Lib.byteCells l) := ownsRow_touch h.own ht1 (fun k hk e => h.ne (by rw [hk, e]));have HB := hid hb1;have HT := hid ht1;have HS := hid hs1;have HX := hid hx;clear hb1 ht1 hs1 hx
 go_wp2_with (at_builtin; refine wpList_append_own_at _ rfl _ _ 22 rfl B 5 i0 (.int .u8 0) 1 1 Tryz.underlying22 hi hz0 hz1 hz2 rfl (by decide) _ _ _ rfl (hown.alloc _) ⟨w1.heap.size, 0, none⟩ 1 1 [.int .u8 x] rfl rfl ?c1 ?c2 ?c3 ?c4 ?c5 ?_)
 case c1 =>
  intro j u hj
  match j, hj with
  | 0, hj => simp at hj; subst hj; simp [Addr.add]
 case c2 => intro u hu; simp at hu; subst hu; rfl
 case c3 => unfold maxLen; omega
 case c4 => omega
 case c5 => have := HS.out; simp; omega
 intro v' w2 hown' hgrow _ hat;have hlt1 := HB.out.lt;have ht2 : Touch (fun k => v.ownBlock = some k) w1 w2 := ((Touch.refl (fun k => v.ownBlock = some k) w1).alloc _).grown hgrow (fun g hg => .inl hg);have hb2 : Blk w2 b T (cs.setIfInBounds o (.pointer (some ⟨b, o, none⟩))) := ht2.blk HB.out h.ne
 have d1 : w2.cell? ⟨b, o + 1, none⟩ = some v := by
  rw [hb2.cell, Array.getElem?_setIfInBounds_ne (by omega)]; exact h.buf
 have f1 : w2.frozen? ⟨b, o + 1, none⟩ = false := hb2.frozen _
 have hne' : v'.ownBlock ≠ some b := by
  rcases hat with h1 | h1
  ·rw [h1]; exact h.ne
  ·rw [h1]; simp; omega
 obtain ⟨g, cap, rfl⟩ : ∃ g cap, v' = .slice (some ⟨g, 0, none⟩) (l.length + 1) cap := by
  rcases hown'.2 with ⟨_, h0⟩ | ⟨g, cap, cur, hv, _⟩
  ·omega
  ·exact ⟨g, cap, hv⟩
 have HB2 := hid hb2;have HT2 := hid ht2;have HO := hid hown';have HN := hid hne';clear hb2 ht2 hown' hne' hat hgrow hown
 go_wp2
 go_ret;refine ⟨rfl, _, ⟨HB2.out.put _ _, .inr ?_, ?_, ?_, HN.out, by simp⟩, ?_⟩
 ·rw [Array.getElem?_setIfInBounds_ne (by omega), Array.getElem?_setIfInBounds_self_of_lt (by omega)]
 ·rw [Array.getElem?_setIfInBounds_self_of_lt (by simp; omega)]
 ·rw [byteCells_snoc, List.length_append, ← HX.out]
  exact ownsRow_touch HO.out ((Touch.refl (· = b) w2).setCell (p := ⟨b, o + 1, none⟩) (.inl rfl) _) (fun k hk e => HN.out (by rw [hk, e]))
 ·exact ((HT.out.mono (fun _ h => .inl h)).trans (HT2.out.mono (fun _ h => .inr h))).setCell (p := ⟨b, o + 1, none⟩) (.inl (.inl rfl)) _
theorem touch_freeze {S : Nat → Prop} {a w : World} (h : Touch S a w) {p : Addr} (hp : S p.block ∨ a.heap.size ≤ p.block) (n : Nat) : Touch S a (w.freeze p n) := by
 unfold World.freeze;split
 ·exact h
 ·refine ⟨h.os, h.tape, h.output, by simpa using h.size, fun i hi hn => ?_⟩
  refine Eq.trans ?_ (h.block i hi hn);show (w.heap.modify p.block _)[i]? = _;rw [Array.getElem?_modify, if_neg];rintro rfl;exact hp.elim hn (fun hle => absurd hi (by omega))
theorem unsafeString_nil (W : World) (q : Option Addr) : (Builtin.unsafeString_ #[123, 3] 9 #[.pointer q, .int .i64 0]).run Tryz.prog W = .ok (.string .empty) W := Lib.run_unsafeString_none W _ _ _ q
theorem bstring_any {w : World} {B b o : Nat} {T : TypeId} {cs : Array Value} {v : Value} {l : List UInt8} (h : Bld w B b o T cs v l) :
  Calls Tryz.prog 37 #[.pointer (some ⟨b, o, none⟩)] w fun e w' => e = .returned (.string ⟨l.toArray⟩) ∧ Touch (fun k => v.ownBlock = some k) w w' := by
 have c1 : w.cell? ⟨b, o + 1, none⟩ = some v := (h.blk.cell _).trans h.buf
 by_cases h0 : l = []
 ·obtain rfl := h.nilv h0
  subst h0;have hUS := unsafeString_nil;have hSD : ∀ n : Nat, (Builtin.unsafeSliceData_ #[22] 123 #[.slice none 0 0]).run Tryz.prog (w.drewN n) = .ok (.pointer none) (w.drewN n) := fun _ => rfl
  clear h;go_enter Tryz.func37, Tryz.ntmps37
  go_wp2
  go_quiet (fail)
  go_wp2
  go_ret;exact ⟨rfl, (Touch.refl _ w).drewN _⟩
 ·have hl0 : l.length ≠ 0 := by simpa using h0
  obtain ⟨g, cap, cur, rfl, hbg, hg, hnc, hcm, hcs, htake⟩ : ∃ g cap cur, v = .slice (some ⟨g, 0, none⟩) l.length cap ∧ B ≤ g ∧ w.heap[g]? = some (.cells cur 5 (0, 0)) ∧ l.length ≤ cap ∧ cap ≤ maxLen ∧ cur.size = cap * 1 ∧ cur.toList.take (l.length * 1) = Lib.byteCells l := by
   rcases h.own.2 with ⟨_, hz⟩ | ⟨g, cap, cur, hv, r⟩
   ·exact absurd hz hl0
   ·exact ⟨g, cap, cur, hv, r⟩
  have hown := h.own
  have hSD : ∀ n : Nat, (Builtin.unsafeSliceData_ #[22] 123 #[.slice (some ⟨g, 0, none⟩) l.length cap]).run Tryz.prog (w.drewN n) = .ok (.pointer (some ⟨g, 0, none⟩)) (w.drewN n) := fun n =>
   Lib.run_unsafeSliceData_row _ _ _ _ _ _ (by omega)
  have hUS : ∀ n : Nat, (Builtin.unsafeString_ #[123, 3] 9 #[.pointer (some ⟨g, 0, none⟩), .int .i64 l.length]).run Tryz.prog (w.drewN n) = .ok (.string ⟨l.toArray⟩) ((w.drewN n).freeze ⟨g, 0, none⟩ l.length) := fun n => by
   refine Lib.run_unsafeString_row (w.drewN n) 123 3 9 5 Tryz.underlying123 (by kernel_rfl) g cur.size (by simp [World.shape?, hg]) l h0 (by omega) (by unfold maxLen at hcm; omega) ?_;intro j x hx;have := hown.cells (g := g) rfl j (.int .u8 x.toNat) (by simp [Lib.byteCells, hx]);exact this
  have HG := hid hg;clear h htake hcs hcm hnc hg hown h0 hl0;go_enter Tryz.func37, Tryz.ntmps37
  go_wp2
  refine wp_region_segs [([0,1,2,3,4,5,6,7,8,9],10)] [11] (by kernel_rfl) (by kernel_rfl) ?_;simp only [wpSegs, pick, List.getElem?_cons_zero, List.getElem?_cons_succ]
  repeat (quiet_step (fail))
  refine wpQuiet_nil ?_;rintro _ ⟨nq, rfl⟩
  go_wp2
  repeat (quiet_step (fail))
  refine wpQuiet_nil ?_;rintro _ ⟨nq2, rfl⟩
  go_wp2
  go_ret;refine ⟨rfl, ?_⟩;exact (touch_freeze ((Touch.refl (fun k => Value.ownBlock (.slice (some ⟨g, 0, none⟩) l.length cap) = some k) w).drewN nq) (p := ⟨g, 0, none⟩) (.inl rfl) _).drewN _
theorem strCells_eq (s : ByteArray) : Lib.strCells s = Lib.byteCells s.data.toList := by rfl
theorem byteCells_app (l m : List UInt8) : Lib.byteCells (l ++ m) = Lib.byteCells l ++ Lib.byteCells m := by simp [Lib.byteCells]
theorem writeString_any {w : World} {B b o : Nat} {T : TypeId} {cs : Array Value} {v : Value} {l : List UInt8} (h : Bld w B b o T cs v l) (hbB : b < B)
  (hlies : liesAt Tryz.prog Tryz.prog.depth T (cs.size / Tryz.prog.cellsOf T) o 81 1 = true) (s : ByteArray) (hlen : l.length + s.size ≤ 140737488355328) (hB : B ≤ w.heap.size) :
  Calls Tryz.prog 146 #[.pointer (some ⟨b, o, none⟩), .string s] w fun e w' => e = .returned (.tuple #[.int .i64 s.size, .nilIface]) ∧ ∃ v', Bld w' B b o T ((cs.setIfInBounds o (.pointer (some ⟨b, o, none⟩))).setIfInBounds (o + 1) v') v' (l ++ s.data.toList) ∧ Touch (fun k => k = b ∨ v.ownBlock = some k) w w' := by
 obtain ⟨i0, hi, hz0, hz1, hz2⟩ := info_parts infoU8;have ho : o + 1 < cs.size := (Array.getElem?_eq_some_iff.1 h.buf).1;go_enter Tryz.func146, Tryz.ntmps146;go_wp2_with fail
 refine (copyCheck_any h hlies).mono ?_;rintro e w1 ⟨rfl, hb1, ht1, hs1⟩
 have c1 : w1.cell? ⟨b, o + 1, none⟩ = some v := by
  rw [hb1.cell, Array.getElem?_setIfInBounds_ne (by omega)]; exact h.buf
 have hown : w1.ownsRow B 5 1 v l.length (Lib.byteCells l) := ownsRow_touch h.own ht1 (fun k hk e => h.ne (by rw [hk, e]));have HB := hid hb1;have HT := hid ht1;have HS := hid hs1;clear hb1 ht1 hs1
 go_wp2_with (at_builtin; refine Lib.wpList_append_own_string _ rfl _ _ 22 9 rfl B 5 i0 Tryz.underlying22 Tryz.underlying9 hi hz0 hz1 hz2 _ _ _ rfl hown s rfl ?c3 ?c4 ?c5 ?_)
 case c3 => unfold maxLen; omega
 case c4 => omega
 case c5 => have := HS.out; omega
 intro v' w2 hown' hgrow hnl;have hlt1 := HB.out.lt;have ht2 : Touch (fun k => v.ownBlock = some k) w1 w2 := (Touch.refl (fun k => v.ownBlock = some k) w1).grown hgrow (fun g hg => .inl hg);have hb2 : Blk w2 b T (cs.setIfInBounds o (.pointer (some ⟨b, o, none⟩))) := ht2.blk HB.out h.ne
 have d1 : w2.cell? ⟨b, o + 1, none⟩ = some v := by
  rw [hb2.cell, Array.getElem?_setIfInBounds_ne (by omega)]; exact h.buf
 have f1 : w2.frozen? ⟨b, o + 1, none⟩ = false := hb2.frozen _;have hne' : v'.ownBlock ≠ some b := fun e => by have := (hown'.lt b e).1; omega
 have hnil : l ++ s.data.toList = [] → v' = .slice none 0 0 := fun e => by
  obtain ⟨e1, e2⟩ := List.append_eq_nil_iff.1 e;refine hnl.2 ⟨h.nilv e1, ?_⟩;apply ByteArray.ext
  apply Array.toList_inj.1
  rw [e2]; rfl
 obtain ⟨A', cap', rfl⟩ : ∃ A cap, v' = .slice A (l.length + s.size) cap := by
  rcases hown'.2 with ⟨h1, h2⟩ | ⟨g, cap, cur, h1, _⟩
  ·exact ⟨none, 0, by rw [h1, h2]⟩
  ·exact ⟨_, _, h1⟩
 have HB2 := hid hb2;have HT2 := hid ht2;have HO := hid hown';have HN := hid hne';have HNIL := hid hnil;clear hb2 ht2 hown' hne' hgrow hown hnl hnil
 go_wp2
 go_ret2;refine ⟨rfl, _, ⟨HB2.out.put _ _, .inr ?_, ?_, ?_, HN.out, HNIL.out⟩, ?_⟩
 ·rw [Array.getElem?_setIfInBounds_ne (by omega), Array.getElem?_setIfInBounds_self_of_lt (by omega)]
 ·rw [Array.getElem?_setIfInBounds_self_of_lt (by simp; omega)]
 ·have hl : (l ++ s.data.toList).length = l.length + s.size := by simp
  rw [byteCells_app, ← strCells_eq, hl];exact ownsRow_touch HO.out ((Touch.refl (· = b) w2).setCell (p := ⟨b, o + 1, none⟩) (.inl rfl) _) (fun k hk e => HN.out (by rw [hk, e]))
 ·exact ((HT.out.mono (fun _ h => .inl h)).trans (HT2.out.mono (fun _ h => .inr h))).setCell (p := ⟨b, o + 1, none⟩) (.inl (.inl rfl)) _
theorem bLen_any {w : World} {B b o : Nat} {T : TypeId} {cs : Array Value} {v : Value} {l : List UInt8} (h : Bld w B b o T cs v l) :
  Calls Tryz.prog 145 #[.pointer (some ⟨b, o, none⟩)] w fun e w' => e = .returned (.int .i64 l.length) ∧ w' = w := by
 obtain ⟨A, cap, rfl⟩ : ∃ A cap, v = .slice A l.length cap := by
  rcases h.own.2 with ⟨h1, h2⟩ | ⟨g, cap, cur, h1, _⟩
  ·exact ⟨none, 0, by rw [h1, h2]⟩
  ·exact ⟨_, _, h1⟩
 have c1 : w.cell? ⟨b, o + 1, none⟩ = some (.slice A l.length cap) := by rw [h.blk.cell]; exact h.buf
 clear h;go_enter Tryz.func145, Tryz.ntmps145;go_wp2_with fail
 go_ret;exact ⟨rfl, rfl⟩
theorem liesBuilder : liesAt Tryz.prog Tryz.prog.depth 81 (2 / Tryz.prog.cellsOf 81) 0 81 1 = true := by kernel_rfl
theorem u8_eq_of (x y : UInt8) (h : x = y) : ((x.toNat : Int) == (y.toNat : Int)) = true := by rw [h]; simp
theorem u8_ne_of (x y : UInt8) (h : ¬ x = y) : ((x.toNat : Int) == (y.toNat : Int)) = false := by
 rw [beq_eq_false_iff_ne]; intro hx; exact h (UInt8.toNat_inj.1 (by omega))
theorem u8_bne_of (x y : UInt8) (h : ¬ x = y) : ((x.toNat : Int) != (y.toNat : Int)) = true := by
 rw [bne_iff_ne]; intro hx; exact h (UInt8.toNat_inj.1 (by omega))
theorem u8_nbne_of (x y : UInt8) (h : x = y) : ((x.toNat : Int) != (y.toNat : Int)) = false := by rw [h]; simp
end Go.Proofs.YtncnoeoicaglaaaGreat
