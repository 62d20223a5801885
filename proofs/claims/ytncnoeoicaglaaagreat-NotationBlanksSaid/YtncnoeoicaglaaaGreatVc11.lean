/- Part 11 of 48 of a proof; its texts, joined: SlA, SlB. No condition. -/
import Derived.Test.YtncnoeoicaglaaaGreatVc10
import Derived.Test.YtncnoeoicaglaaaGreatVc8
import Derived.Lib.AppendZeros
import Derived.Lib.SliceRun

/- Slices of numbers: slices.Equal, slices.Compare. -/
namespace Go.Proofs.YtncnoeoicaglaaaGreat
open Go.RowKit
def Ints (w : World) (v : Value) (l : List Int) : Prop :=
 ∃ A cap, v = .slice A l.length cap ∧ (l = [] ∨ ∃ g o, A = some ⟨g, o, none⟩ ∧ g < w.heap.size ∧ ∀ i (h : i < l.length), w.cell? ⟨g, o + i, none⟩ = some (.int .i64 l[i]))
theorem Ints.get {w : World} {A : Option Addr} {n cap : Nat} {l : List Int} (h : Ints w (.slice A n cap) l) (i : Nat) (hi : i < l.length) : ∃ g o, A = some ⟨g, o, none⟩ ∧ g < w.heap.size ∧ w.cell? ⟨g, o + i, none⟩ = some (.int .i64 l[i]) := by
 obtain ⟨A', cap', hv, h⟩ := h
 cases hv
 rcases h with rfl | ⟨g, o, h1, h2, h3⟩
 ·simp at hi
 ·exact ⟨g, o, h1, h2, h3 i hi⟩
theorem Ints.slice {w : World} {v : Value} {l : List Int} (h : Ints w v l) : ∃ A cap, v = .slice A l.length cap := by
 obtain ⟨A, cap, h, _⟩ := h
 exact ⟨A, cap, h⟩
theorem Ints.nil (w : World) (A : Option Addr) (cap : Nat) : Ints w (.slice A 0 cap) [] := ⟨A, cap, rfl, .inl rfl⟩
theorem Ints.fresh {w w' : World} {v : Value} {l : List Int} (h : Ints w v l) (hf : Fresh w w') : Ints w' v l := by
 obtain ⟨A, cap, h, h'⟩ := h
 exact ⟨A, cap, h, h'.imp id fun ⟨g, o, h1, h2, h3⟩ => ⟨g, o, h1, Nat.lt_of_lt_of_le h2 hf.size, fun i hi => hf.cell (h3 i hi) (fun h => h)⟩⟩
theorem Ints.own {w : World} {B e : Nat} {v : Value} {l : List Int} (h : w.ownsRow B e 1 v l.length (l.map fun x => .int .i64 x)) : Ints w v l := by
 rcases h.2 with ⟨h1, h2⟩ | ⟨g, cap, cur, h1, _⟩
 ·rw [List.length_eq_zero_iff.1 h2, h1]
  exact Ints.nil _ _ _
 ·refine ⟨_, cap, h1, .inr ⟨g, 0, rfl, (h.lt g (by rw [h1]; rfl)).2, fun i hi => ?_⟩⟩
  have := h.cells (g := g) (by rw [h1]; rfl) i (.int .i64 l[i]) (by simp [hi])
  rw [Addr.add_mid, Nat.zero_add] at this
  rw [Nat.zero_add]
  exact this
theorem take_snoc_eq (a b : List Int) (j : Nat) (ha : j < a.length) (hb : j < b.length) (h : a.take j = b.take j) (he : a[j] = b[j]) : a.take (j + 1) = b.take (j + 1) := by
 rw [List.take_succ_eq_append_getElem ha, List.take_succ_eq_append_getElem hb, h, he]
set_option maxHeartbeats 1000000 in
theorem equal_ints (a b : List Int) (va vb : Value) (w : World) (h1 : Ints w va a) (h2 : Ints w vb b) (ha : a.length ≤ maxLen) (hb : b.length ≤ maxLen) :
  Calls Tryz.prog 55 #[va, vb] w fun e w' => e = .returned (.bool (decide (a = b))) ∧ Fresh w w' := by
 unfold maxLen at ha hb
 obtain ⟨A, cap, rfl⟩ := h1.slice
 obtain ⟨B, cbp, rfl⟩ := h2.slice
 have HA := hid h1
 have HB := hid h2
 clear h1 h2
 by_cases c0 : a.length = b.length
 ·have b0 : ((a.length : Int) == (b.length : Int)) = true := by rw [c0]; simp
  have b0' : ((a.length : Int) != (b.length : Int)) = false := by rw [bne, b0]; rfl
  have C0 := hid c0
  clear c0
  go_enter Tryz.func55, Tryz.ntmps55
  go_wp2_with fail
  go_loopw [13] (fun i wr => ∃ j : Nat, i = .int .i64 j ∧ j ≤ a.length ∧ Hid (a.take j = b.take j) ∧ Hid (Fresh w wr)) (fun i _ => a.length - (intOf i).toNat)
  case atStart => exact ⟨0, rfl, Nat.zero_le _, rfl, Touch.refl _ _⟩
  case round =>
   obtain ⟨j, rfl, hj, HT, HF⟩ := hrel
   by_cases c1 : j < a.length
   ·have d1 : decide ((j : Int) < (a.length : Int)) = true := by simp; omega
    have d1' : (j : Int) < (a.length : Int) := by omega
    have c1y : j < b.length := by rw [← C0.out]; exact c1
    have d1y : (j : Int) < (b.length : Int) := by omega
    obtain ⟨g, o, rfl, _, m0⟩ := HA.out.get j c1
    obtain ⟨g', o', rfl, _, n0⟩ := HB.out.get j c1y
    have HS := hid (take_snoc_eq a b j c1 c1y HT.out)
    have HN := hid (show a[j] ≠ b[j] → a ≠ b from fun h e => by subst e; exact h rfl)
    have a0 := HF.out.cell m0 (fun h => h)
    have b1 := HF.out.cell n0 (fun h => h)
    clear m0 n0
    generalize a[j] = x at *
    generalize b[j] = y at *
    cases e : (x == y) with
    | true =>
     have e' : (x != y) = false := by rw [bne, e]; rfl
     go_wp2_with fail
     go_quiet (fail)
     go_wp2_with fail
     go_roundw
     case rel => exact ⟨j + 1, by go_num, c1, HS.out (by simpa using e), HF.out.drewN _⟩
     case measure => simp [intOf]; omega
    | false =>
     have e' : (x != y) = true := by rw [bne, e]; rfl
     go_wp2_with fail
     go_quiet (fail)
     go_wp2_with fail
     go_ret
     exact ⟨by rw [decide_eq_false (HN.out (by simpa using e))]; rfl, HF.out.drewN _⟩
   ·have d1 : decide ((j : Int) < (a.length : Int)) = false := by simp; omega
    obtain rfl : j = a.length := by omega
    go_wp2_with fail
    go_ret
    refine ⟨?_, HF.out⟩
    have := HT.out
    rw [List.take_length, C0.out, List.take_length] at this
    rw [decide_eq_true this]
    rfl
 ·have b0 : ((a.length : Int) == (b.length : Int)) = false := by rw [beq_eq_false_iff_ne]; omega
  have b0' : ((a.length : Int) != (b.length : Int)) = true := by rw [bne, b0]; rfl
  have HLN := hid (show a ≠ b from fun e => c0 (by rw [e]))
  clear c0
  go_enter Tryz.func55, Tryz.ntmps55
  go_wp2_with fail
  go_ret
  exact ⟨by rw [decide_eq_false HLN.out]; rfl, Touch.refl _ _⟩
def cmpI : List Int → List Int → Int
 | [], [] => 0
 | [], _ :: _ => -1
 | _ :: _, [] => 1
 | a :: l, b :: m => if a < b then -1 else if b < a then 1 else cmpI l m
def cmp1 (a b : Int) : Int := if a < b then -1 else if b < a then 1 else 0
theorem nan_int (x : Int) (w : World) : Calls Tryz.prog 142 #[.int .i64 x] w fun e w' => e = .returned (.bool false) ∧ w' = w := by
 have e : (x == x) = true := by simp
 have e' : (x != x) = false := by simp
 go_enter Tryz.func142, Tryz.ntmps142
 go_wp2_with fail
 go_ret
 exact ⟨rfl, rfl⟩
theorem cmp_int (x y : Int) (w : World) : Calls Tryz.prog 118 #[.int .i64 x, .int .i64 y] w fun e w' => e = .returned (.int .i64 (cmp1 x y)) ∧ w' = w := by
 by_cases c1 : x < y
 ·have e1 : decide (x < y) = true := by simp [c1]
  have HR := hid (show cmp1 x y = -1 by unfold cmp1; rw [if_pos c1])
  go_enter Tryz.func118, Tryz.ntmps118
  go_wp2_with (with_reducible refine (nan_int _ _).mono ?_; rintro _ _ ⟨rfl, rfl⟩)
  go_ret
  exact ⟨by rw [HR.out]; rfl, rfl⟩
 ·have e1 : decide (x < y) = false := by simp; omega
  by_cases c2 : y < x
  ·have e2 : decide (y < x) = true := by simp [c2]
   have HR := hid (show cmp1 x y = 1 by unfold cmp1; rw [if_neg c1, if_pos c2])
   go_enter Tryz.func118, Tryz.ntmps118
   go_wp2_with (with_reducible refine (nan_int _ _).mono ?_; rintro _ _ ⟨rfl, rfl⟩)
   go_ret
   exact ⟨by rw [HR.out]; rfl, rfl⟩
  ·have e2 : decide (y < x) = false := by simp; omega
   have HR := hid (show cmp1 x y = 0 by unfold cmp1; rw [if_neg c1, if_neg c2])
   go_enter Tryz.func118, Tryz.ntmps118
   go_wp2_with (with_reducible refine (nan_int _ _).mono ?_; rintro _ _ ⟨rfl, rfl⟩)
   go_ret
   exact ⟨by rw [HR.out]; rfl, rfl⟩
theorem cmpI_cons (a b : Int) (l m : List Int) : cmpI (a :: l) (b :: m) = if cmp1 a b = 0 then cmpI l m else cmp1 a b := by
 rw [cmpI]
 unfold cmp1
 by_cases h1 : a < b
 ·rw [if_pos h1, if_pos h1]; rfl
 ·rw [if_neg h1, if_neg h1]
  by_cases h2 : b < a
  ·rw [if_pos h2, if_pos h2]; rfl
  ·rw [if_neg h2, if_neg h2]; rfl
set_option maxHeartbeats 1000000 in
theorem compare_ints (a b : List Int) (va vb : Value) (w : World) (h1 : Ints w va a) (h2 : Ints w vb b) (ha : a.length ≤ maxLen) (_hb : b.length ≤ maxLen) :
  Calls Tryz.prog 86 #[va, vb] w fun e w' => e = .returned (.int .i64 (cmpI a b)) ∧ Fresh w w' := by
 unfold maxLen at ha _hb
 obtain ⟨A, cap, rfl⟩ := h1.slice
 obtain ⟨B, cbp, rfl⟩ := h2.slice
 have HA := hid h1
 have HB := hid h2
 clear h1 h2
 go_enter Tryz.func86, Tryz.ntmps86
 go_wp2_with fail
 go_loopw [11] (fun i wr => ∃ j : Nat, i = .int .i64 j ∧ j ≤ a.length ∧ j ≤ b.length ∧ Hid (cmpI (a.drop j) (b.drop j) = cmpI a b) ∧ Hid (Fresh w wr)) (fun i _ => a.length - (intOf i).toNat)
 case atStart => exact ⟨0, rfl, Nat.zero_le _, Nat.zero_le _, rfl, Touch.refl _ _⟩
 case round =>
  obtain ⟨j, rfl, hj, hjb, HT, HF⟩ := hrel
  by_cases c1 : j < a.length
  ·have d1 : decide ((j : Int) < (a.length : Int)) = true := by simp; omega
   have d1' : (j : Int) < (a.length : Int) := by omega
   by_cases c2 : j < b.length
   ·have d2 : decide ((b.length : Int) ≤ (j : Int)) = false := by simp; omega
    have d2' : (j : Int) < (b.length : Int) := by omega
    obtain ⟨g, o, rfl, _, m0⟩ := HA.out.get j c1
    obtain ⟨g', o', rfl, _, n0⟩ := HB.out.get j c2
    have HS := hid (show cmpI a b = if cmp1 a[j] b[j] = 0 then cmpI (a.drop (j + 1)) (b.drop (j + 1)) else cmp1 a[j] b[j] by
     rw [← HT.out, List.drop_eq_getElem_cons c1, List.drop_eq_getElem_cons c2, cmpI_cons])
    have a0 := HF.out.cell m0 (fun h => h)
    have b1 := HF.out.cell n0 (fun h => h)
    clear m0 n0
    generalize a[j] = x at *
    generalize b[j] = y at *
    cases e : (cmp1 x y == 0) with
    | true =>
     have e' : (cmp1 x y != 0) = false := by rw [bne, e]; rfl
     go_wp2_with fail
     refine (cmp_int _ _ _).mono ?_
     rintro _ wq ⟨rfl, hw⟩
     replace hw := hw.symm
     subst hw
     go_wp2_with fail
     go_roundw
     case rel => exact ⟨j + 1, by go_num, c1, c2, by unfold Hid; rw [HS.out, if_pos (by simpa using e)], HF.out⟩
     case measure => simp [intOf]; omega
    | false =>
     have e' : (cmp1 x y != 0) = true := by rw [bne, e]; rfl
     go_wp2_with fail
     refine (cmp_int _ _ _).mono ?_
     rintro _ wq ⟨rfl, hw⟩
     replace hw := hw.symm
     subst hw
     go_wp2_with fail
     go_ret
     exact ⟨by rw [HS.out, if_neg (by simpa using e)]; rfl, HF.out⟩
   ·have d2 : decide ((b.length : Int) ≤ (j : Int)) = true := by simp; omega
    have HR := hid (show cmpI a b = 1 by
     rw [← HT.out, List.drop_eq_getElem_cons c1, List.drop_eq_nil_of_le (show b.length ≤ j by omega)]; rfl)
    obtain ⟨g, o, rfl, _, m0⟩ := HA.out.get j c1
    have a0 := HF.out.cell m0 (fun h => h)
    clear m0
    generalize a[j] = x at *
    go_wp2_with fail
    go_ret
    exact ⟨by rw [HR.out]; rfl, HF.out⟩
  ·have d1 : decide ((j : Int) < (a.length : Int)) = false := by simp; omega
   obtain rfl : j = a.length := by omega
   by_cases c2 : a.length < b.length
   ·have d2 : decide ((a.length : Int) < (b.length : Int)) = true := by simp; omega
    have HR := hid (show cmpI a b = -1 by
     rw [← HT.out, List.drop_eq_nil_of_le (Nat.le_refl _), List.drop_eq_getElem_cons c2]; rfl)
    go_wp2_with fail
    go_ret
    exact ⟨by rw [HR.out]; rfl, HF.out⟩
   ·have d2 : decide ((a.length : Int) < (b.length : Int)) = false := by simp; omega
    have HR := hid (show cmpI a b = 0 by
     rw [← HT.out, List.drop_eq_nil_of_le (Nat.le_refl _), List.drop_eq_nil_of_le (by omega)]; rfl)
    go_wp2_with fail
    go_ret
    exact ⟨by rw [HR.out]; rfl, HF.out⟩
theorem pcompare_ints (a b : List Int) (va vb : Value) (w : World) (h1 : Ints w va a) (h2 : Ints w vb b) (ha : a.length ≤ maxLen) (hb : b.length ≤ maxLen) :
  Calls Tryz.prog 58 #[va, vb] w fun e w' => e = .returned (.int .i64 (cmpI a b)) ∧ Fresh w w' := by
 go_enter Tryz.func58, Tryz.ntmps58
 go_wp2_with fail
 refine (compare_ints a b va vb _ h1 h2 ha hb).mono ?_
 rintro _ w1 ⟨rfl, hf⟩
 go_wp2_with fail
 go_ret
 exact ⟨rfl, hf⟩
end Go.Proofs.YtncnoeoicaglaaaGreat

/- Slices of numbers: slices.Clone, slices.Grow, slices.Concat, deep.Ints. -/
namespace Go.Proofs.YtncnoeoicaglaaaGreat
open Go.RowKit
abbrev intVs (l : List Int) : List Value := l.map fun x => .int .i64 x
theorem intVs_len (l : List Int) : (intVs l).length = l.length * 1 := by simp
theorem intVs_one (l : List Int) : ∀ u ∈ intVs l, u.oneCell' = true := by
 intro u hu
 obtain ⟨x, _, rfl⟩ := List.mem_map.1 hu
 rfl
theorem Src.of_ints {w : World} {v : Value} {l : List Int} (h : Ints w v l) : Src w 1 v l.length (intVs l) := by
 obtain ⟨A, cap, rfl, h⟩ := h
 refine ⟨A, cap, rfl, intVs_len l, ?_⟩
 rcases h with rfl | ⟨g, o, rfl, _, hc⟩
 ·cases A with
  | none => exact .inl ⟨rfl, rfl, rfl⟩
  | some a => exact .inr ⟨a, rfl, fun j u hu => by simp at hu⟩
 ·refine .inr ⟨_, rfl, fun j u hu => ?_⟩
  have hj : j < l.length := by have := (List.getElem?_eq_some_iff.1 hu).1; simpa using this
  rw [List.getElem?_map, List.getElem?_eq_getElem hj] at hu
  simp only [Option.map_some, Option.some.injEq] at hu
  rw [Addr.add_mid, ← hu]
  exact hc j hj
theorem infoInt : (Tryz.prog.info? 3).map (fun i => (i.zero, i.size, i.bytes)) = some (some (.int .i64 0), 1, 8) := by kernel_rfl
def IntsRow (w : World) (l : List Int) (e : Ending) (w' : World) : Prop := ∃ v, e = .returned v ∧ w'.ownsRow w.heap.size 3 1 v l.length (intVs l) ∧ Fresh w w'
theorem touch_grown {w w1 w2 : World} {v : Value} {B e size n : Nat} {xs : List Value} (hf : Fresh w w1) (ho : w1.ownsRow B e size v n xs) (hB : w.heap.size ≤ B) (hg : w1.grownBy w2 v.ownBlock) : Fresh w w2 :=
 Touch.grown hf hg fun g hgv => .inr (Nat.le_trans hB (ho.lt g hgv).1)
set_option maxRecDepth 100000 in
set_option maxHeartbeats 1000000 in
theorem clone_ints (l : List Int) (v : Value) (w : World) (h : Ints w v l) (hl : l.length ≤ 1000000) :
  Calls Tryz.prog 61 #[v] w (IntsRow w l) := by
 obtain ⟨i, hi, hz0, hz1, hz2⟩ := info_parts infoInt
 have HI := hid h
 have HL := hid hl
 obtain ⟨A, cap, rfl⟩ := h.slice
 cases A with
 | none =>
  have h0 : l = [] := by
   obtain ⟨A', cap', hv, h'⟩ := h
   cases hv
   rcases h' with h' | ⟨g, o, h', _⟩
   ·exact h'
   ·cases h'
  clear h hl
  subst h0
  have hnil := fun w => Lib.run_eql_slice_nil (P := Tryz.prog) w 46 3 none 0 cap 0 0 rfl
  go_enter Tryz.func61, Tryz.ntmps61
  go_wp2_with fail
  go_ret
  exact ⟨_, rfl, World.ownsRow_nil _ _ _ _, Touch.refl _ _⟩
 | some a =>
  clear h hl
  have hm : l.length ≤ maxLen := by have := HL.out; unfold maxLen; omega
  have hnil := fun w => Lib.run_eql_slice_nil (P := Tryz.prog) w 46 3 (some a) l.length cap 0 0 rfl
  go_enter Tryz.func61, Tryz.ntmps61
  go_wp2_with (at_builtin; refine wpList_append_src _ rfl (.tmp 5) (.tmp 6) 46 rfl w.heap.size 3 i _ 1 8 rfl hi hz0 hz1 hz2 rfl (by decide) (.slice (some ⟨w.heap.size, 0, none⟩) 0 0) 0 [] (by simp [Act.eval]) (World.ownsRow_lit w #[] 0 (Nat.le_refl _) (Nat.zero_le _) rfl) (.slice (some a) l.length cap) l.length (intVs l) (by simp [Act.eval]) ((Src.of_ints HI.out).fresh ((Touch.refl _ _).alloc _)) (intVs_one l) (by have := HL.out; unfold maxLen; omega) (by have := HL.out; omega) (by simp) ?_; intro v' w' ho hg _; have HO := hid ho; have HG := hid hg; clear ho hg)
  go_ret
  refine ⟨_, rfl, by have := HO.out; rwa [Nat.zero_add, List.nil_append] at this, ?_⟩
  exact Touch.grown ((Touch.refl _ w).alloc _) HG.out fun g hg => .inr (by simp only [Value.ownBlock, Option.some.injEq] at hg; omega)
set_option maxRecDepth 100000 in
theorem ints_any (l : List Int) (v : Value) (w : World) (h : Ints w v l) (hl : l.length ≤ 1000000) :
  Calls Tryz.prog 32 #[v] w (IntsRow w l) := by
 go_enter Tryz.func32, Tryz.ntmps32
 go_wp2_with fail
 refine (clone_ints l v _ h hl).mono ?_
 rintro _ w1 ⟨v', rfl, ho, hf⟩
 go_wp2_with fail
 go_ret
 exact ⟨_, rfl, ho, hf⟩
set_option maxRecDepth 100000 in
set_option maxHeartbeats 1000000 in
theorem grow_nil (n : Nat) (w : World) (h0 : 0 < n) (hn : n ≤ 2000000) :
  Calls Tryz.prog 119 #[.slice none 0 0, .int .i64 n] w (IntsRow w []) := by
 obtain ⟨i, hi, hz0, hz1, hz2⟩ := info_parts infoInt
 have b1 : decide ((n : Int) < 0) = false := by simp only [decide_eq_false_iff_not]; omega
 have b2 : decide ((0 : Int) < (n : Int)) = true := by simp only [decide_eq_true_eq]; omega
 have b2n : decide (0 < n) = true := by simp only [decide_eq_true_eq]; omega
 have hr : ∀ ty, (Builtin.append_ #[46, 3] ty #[.slice none 0 0, .int .i64 n]).run Tryz.prog w = .ok (.slice (some ⟨w.heap.size, 0, none⟩) n (grownCap w n 0 3)) (w.drew.alloc (.cells (Builtin.zeroCells #[.int .i64 0] n ++ Builtin.zeroCells #[.int .i64 0] (grownCap w n 0 3 - n)) 3)) :=
  fun ty => Lib.run_append_nil_zeros w 46 3 ty 3 i (.int .i64 0) .i64 .i64 rfl rfl hi hz0 n h0 (by rw [hz1]; decide) (by omega) (by rw [hz2]; omega)
 have HR := hid hr
 have HGE := hid (grownCap_ge w n 0 3)
 have HLE := hid (grownCap_le_maxLen w n 0 3 (by unfold maxLen; omega))
 clear hr
 generalize grownCap w n 0 3 = cap at *
 go_enter Tryz.func119, Tryz.ntmps119
 go_wp2_with (at_builtin; refine Lib.wpList_append_run _ rfl (.tmp 20) (.tmp 21) 46 3 rfl (.slice none 0 0) (.int .i64 n) (by simp [Act.eval]) (by simp [Act.eval]) _ _ (HR.out _) ?_)
 go_ret
 exact ⟨_, rfl, World.ownsRow_made (w := w.drew) _ cap (Nat.le_refl _) HLE.out (by have := HGE.out; simp [Builtin.zeroCells]; omega), ((Touch.refl _ w).drew).alloc _⟩
def catS (a b : List Int) (j : Nat) : Nat := if j = 0 then 0 else if j = 1 then a.length else a.length + b.length
def catL (a b : List Int) (j : Nat) : List Int := if j = 0 then [] else if j = 1 then a else a ++ b
set_option maxRecDepth 100000 in
set_option maxHeartbeats 2000000 in
theorem concat2 (a b : List Int) (va vb : Value) (g : Nat) (w : World) (h1 : Ints w va a) (h2 : Ints w vb b) (c0 : w.cell? ⟨g, 0, none⟩ = some va) (c1 : w.cell? ⟨g, 1, none⟩ = some vb) (hn : 0 < a.length + b.length) (hl : a.length + b.length ≤ 1000000) :
  Calls Tryz.prog 87 #[.slice (some ⟨g, 0, none⟩) 2 2] w (IntsRow w (a ++ b)) := by
 obtain ⟨i, hi, hz0, hz1, hz2⟩ := info_parts infoInt
 obtain ⟨A, cap, rfl⟩ := h1.slice
 obtain ⟨B, cbp, rfl⟩ := h2.slice
 have HA := hid h1
 have HB := hid h2
 have HL := hid hl
 have HN := hid hn
 have C0 := hid c0
 have C1 := hid c1
 clear h1 h2 c0 c1
 go_enter Tryz.func87, Tryz.ntmps87
 go_wp2_with fail
 go_loop [3, 11] (fun s i => ∃ j : Nat, i = .int .i64 j ∧ j ≤ 2 ∧ s = .int .i64 (catS a b j : Nat)) (fun _ i => 2 - (intOf i).toNat)
 case atStart => exact ⟨0, rfl, Nat.zero_le _, rfl⟩
 case round =>
  obtain ⟨j, rfl, hj, rfl⟩ := hrel
  have q0 := C0.out
  have q1 := C1.out
  have hs : catS a b j ≤ 1000000 := by unfold catS; split <;> (try split) <;> omega
  by_cases j0 : j = 0
  ·subst j0
   have hst : (catS a b 1 : Nat) = a.length := rfl
   go_wp2_with fail
   go_round
   case rel => exact ⟨1, rfl, by omega, by simp [catS]⟩
   case measure => simp [intOf]
  ·by_cases j1 : j = 1
   ·subst j1
    have hlt : decide ((a.length : Int) + (b.length : Int) < 0) = false := by simp only [decide_eq_false_iff_not]; omega
    have hst : (catS a b 1 : Nat) = a.length := rfl
    rw [hst]
    go_wp2_with fail
    go_round
    case rel => exact ⟨2, rfl, by omega, by simp [catS]⟩
    case measure => simp [intOf]
   ·obtain rfl : j = 2 := by omega
    have hst : (catS a b 2 : Nat) = a.length + b.length := rfl
    rw [hst]
    go_wp2_with fail
    refine (grow_nil (a.length + b.length) _ HN.out (by have := HL.out; omega)).mono ?_
    rintro _ w1 ⟨v1, rfl, ho, hf⟩
    have HO := hid ho
    have HF := hid hf
    clear ho hf
    have q0 := HF.out.cell C0.out (fun h => h)
    have q1 := HF.out.cell C1.out (fun h => h)
    have hbw : w.heap.size ≤ w1.heap.size := HF.out.size
    go_wp2_with fail
    go_loopw [6, 27] (fun s i wr => ∃ j : Nat, i = .int .i64 j ∧ j ≤ 2 ∧ Hid (wr.ownsRow w.heap.size 3 1 s (catL a b j).length (intVs (catL a b j))) ∧ Hid (Fresh w wr)) (fun _ i _ => 2 - (intOf i).toNat)
    case atStart => exact ⟨0, rfl, Nat.zero_le _, HO.out, HF.out⟩
    case round =>
     obtain ⟨j, rfl, hj, HO2, HF2⟩ := hrel
     have q0 := HF2.out.cell C0.out (fun h => h)
     have q1 := HF2.out.cell C1.out (fun h => h)
     have hbw : w.heap.size ≤ wr.heap.size := HF2.out.size
     by_cases j0 : j = 0
     ·subst j0
      have HO3 := hid (show wr.ownsRow w.heap.size 3 1 u6 0 [] from HO2.out)
      go_wp2_with (at_builtin; refine wpList_append_src _ rfl (.tmp 31) (.tmp 32) 46 rfl w.heap.size 3 i _ 1 8 rfl hi hz0 hz1 hz2 rfl (by decide) u6 0 [] (by simp [Act.eval]) HO3.out (.slice A a.length cap) a.length (intVs a) (by simp [Act.eval]) ((Src.of_ints HA.out).fresh HF2.out) (intVs_one a) (by have := HL.out; unfold maxLen; omega) (by have := HL.out; omega) hbw ?_; intro v' w' ho hg _; have HO4 := hid ho; have HG := hid hg; clear ho hg)
      go_roundw
      case rel => exact ⟨1, rfl, by omega, by have := HO4.out; rwa [Nat.zero_add, List.nil_append] at this, touch_grown HF2.out HO3.out (Nat.le_refl _) HG.out⟩
      case measure => simp [intOf]
     ·by_cases j1 : j = 1
      ·subst j1
       have HO3 := hid (show wr.ownsRow w.heap.size 3 1 u6 a.length (intVs a) from HO2.out)
       go_wp2_with (at_builtin; refine wpList_append_src _ rfl (.tmp 31) (.tmp 32) 46 rfl w.heap.size 3 i _ 1 8 rfl hi hz0 hz1 hz2 rfl (by decide) u6 a.length (intVs a) (by simp [Act.eval]) HO3.out (.slice B b.length cbp) b.length (intVs b) (by simp [Act.eval]) ((Src.of_ints HB.out).fresh HF2.out) (intVs_one b) (by have := HL.out; unfold maxLen; omega) (by have := HL.out; omega) hbw ?_; intro v' w' ho hg _; have HO4 := hid ho; have HG := hid hg; clear ho hg)
       go_roundw
       case rel => exact ⟨2, rfl, by omega, by have := HO4.out; rw [← List.map_append, ← List.length_append] at this; exact this, touch_grown HF2.out HO3.out (Nat.le_refl _) HG.out⟩
       case measure => simp [intOf]
      ·obtain rfl : j = 2 := by omega
       have HO3 := hid (show wr.ownsRow w.heap.size 3 1 u6 (a ++ b).length (intVs (a ++ b)) from HO2.out)
       go_wp2_with fail
       go_ret
       exact ⟨_, rfl, HO3.out, HF2.out⟩
abbrev up (p : List Nat) : List Int := p.map fun n : Nat => (n : Int)
end Go.Proofs.YtncnoeoicaglaaaGreat
