/- Part 4 of 12 of a proof; its texts, joined: SlB, SnM, SnL, PrO. No condition. -/
import Derived.Test.YtdacpbdamliafaaGreatUa3
import Derived.Lib.AppendZeros
import Derived.Lib.SliceRun
import Derived.Test.YtdacpbdamliafaaGreatUa1

/- Slices of numbers: slices.Clone, slices.Grow, slices.Concat, deep.Ints. -/
namespace Go.Proofs.YtdacpbdamliafaaGreat
open Go.RowKit
abbrev intVs (l : List Int) : List Value := l.map fun x => .int .i64 x
theorem intVs_len (l : List Int) : (intVs l).length = l.length * 1 := by simp
theorem intVs_one (l : List Int) : ∀ u ∈ intVs l, u.oneCell' = true := by
 intro u hu
 obtain ⟨x, _, rfl⟩ := List.mem_map.1 hu
 rfl
theorem Src.of_ints {w : World} {v : Value} {l : List Int} (h : Ints w v l) : Src w 1 v l.length (intVs l) := by
 obtain ⟨A, cap, rfl, h⟩ := h
 refine ⟨A, cap, rfl, intVs_len l, ?_⟩
 rcases h with rfl | ⟨g, o, rfl, _, hc⟩
 ·cases A with
  | none => exact .inl ⟨rfl, rfl, rfl⟩
  | some a => exact .inr ⟨a, rfl, fun j u hu => by simp at hu⟩
 ·refine .inr ⟨_, rfl, fun j u hu => ?_⟩
  have hj : j < l.length := by have := (List.getElem?_eq_some_iff.1 hu).1; simpa using this
  rw [List.getElem?_map, List.getElem?_eq_getElem hj] at hu
  simp only [Option.map_some, Option.some.injEq] at hu
  rw [Addr.add_mid, ← hu]
  exact hc j hj
theorem infoInt : (Tryz.prog.info? 3).map (fun i => (i.zero, i.size, i.bytes)) = some (some (.int .i64 0), 1, 8) := by kernel_rfl
def IntsRow (w : World) (l : List Int) (e : Ending) (w' : World) : Prop := ∃ v, e = .returned v ∧ w'.ownsRow w.heap.size 3 1 v l.length (intVs l) ∧ Fresh w w'
theorem touch_grown {w w1 w2 : World} {v : Value} {B e size n : Nat} {xs : List Value} (hf : Fresh w w1) (ho : w1.ownsRow B e size v n xs) (hB : w.heap.size ≤ B) (hg : w1.grownBy w2 v.ownBlock) : Fresh w w2 :=
 Touch.grown hf hg fun g hgv => .inr (Nat.le_trans hB (ho.lt g hgv).1)
set_option maxRecDepth 100000 in
set_option maxHeartbeats 1000000 in
theorem clone_ints (l : List Int) (v : Value) (w : World) (h : Ints w v l) (hl : l.length ≤ 1000000) :
  Calls Tryz.prog 74 #[v] w (IntsRow w l) := by
 obtain ⟨i, hi, hz0, hz1, hz2⟩ := info_parts infoInt
 have HI := hid h
 have HL := hid hl
 obtain ⟨A, cap, rfl⟩ := h.slice
 cases A with
 | none =>
  have h0 : l = [] := by
   obtain ⟨A', cap', hv, h'⟩ := h
   cases hv
   rcases h' with h' | ⟨g, o, h', _⟩
   ·exact h'
   ·cases h'
  clear h hl
  subst h0
  have hnil := fun w => Lib.run_eql_slice_nil (P := Tryz.prog) w 25 3 none 0 cap 0 0 rfl
  go_enter Tryz.func74, Tryz.ntmps74
  go_wp2_with fail
  go_ret
  exact ⟨_, rfl, World.ownsRow_nil _ _ _ _, Touch.refl _ _⟩
 | some a =>
  clear h hl
  have hm : l.length ≤ maxLen := by have := HL.out; unfold maxLen; omega
  have hnil := fun w => Lib.run_eql_slice_nil (P := Tryz.prog) w 25 3 (some a) l.length cap 0 0 rfl
  go_enter Tryz.func74, Tryz.ntmps74
  go_wp2_with (at_builtin; refine wpList_append_src _ rfl (.tmp 5) (.tmp 6) 25 rfl w.heap.size 3 i _ 1 8 rfl hi hz0 hz1 hz2 rfl (by decide) (.slice (some ⟨w.heap.size, 0, none⟩) 0 0) 0 [] (by simp [Act.eval]) (World.ownsRow_lit w #[] 0 (Nat.le_refl _) (Nat.zero_le _) rfl) (.slice (some a) l.length cap) l.length (intVs l) (by simp [Act.eval]) ((Src.of_ints HI.out).fresh ((Touch.refl _ _).alloc _)) (intVs_one l) (by have := HL.out; unfold maxLen; omega) (by have := HL.out; omega) (by simp) ?_; intro v' w' ho hg _; have HO := hid ho; have HG := hid hg; clear ho hg)
  go_ret
  refine ⟨_, rfl, by have := HO.out; rwa [Nat.zero_add, List.nil_append] at this, ?_⟩
  exact Touch.grown ((Touch.refl _ w).alloc _) HG.out fun g hg => .inr (by simp only [Value.ownBlock, Option.some.injEq] at hg; omega)
set_option maxRecDepth 100000 in
theorem ints_any (l : List Int) (v : Value) (w : World) (h : Ints w v l) (hl : l.length ≤ 1000000) :
  Calls Tryz.prog 47 #[v] w (IntsRow w l) := by
 go_enter Tryz.func47, Tryz.ntmps47
 go_wp2_with fail
 refine (clone_ints l v _ h hl).mono ?_
 rintro _ w1 ⟨v', rfl, ho, hf⟩
 go_wp2_with fail
 go_ret
 exact ⟨_, rfl, ho, hf⟩
set_option maxRecDepth 100000 in
set_option maxHeartbeats 1000000 in
theorem grow_nil (n : Nat) (w : World) (h0 : 0 < n) (hn : n ≤ 2000000) :
  Calls Tryz.prog 134 #[.slice none 0 0, .int .i64 n] w (IntsRow w []) := by
 obtain ⟨i, hi, hz0, hz1, hz2⟩ := info_parts infoInt
 have b1 : decide ((n : Int) < 0) = false := by simp only [decide_eq_false_iff_not]; omega
 have b2 : decide ((0 : Int) < (n : Int)) = true := by simp only [decide_eq_true_eq]; omega
 have b2n : decide (0 < n) = true := by simp only [decide_eq_true_eq]; omega
 have hr : ∀ ty, (Builtin.append_ #[25, 3] ty #[.slice none 0 0, .int .i64 n]).run Tryz.prog w = .ok (.slice (some ⟨w.heap.size, 0, none⟩) n (grownCap w n 0 3)) (w.drew.alloc (.cells (Builtin.zeroCells #[.int .i64 0] n ++ Builtin.zeroCells #[.int .i64 0] (grownCap w n 0 3 - n)) 3)) :=
  fun ty => Lib.run_append_nil_zeros w 25 3 ty 3 i (.int .i64 0) .i64 .i64 rfl rfl hi hz0 n h0 (by rw [hz1]; decide) (by omega) (by rw [hz2]; omega)
 have HR := hid hr
 have HGE := hid (grownCap_ge w n 0 3)
 have HLE := hid (grownCap_le_maxLen w n 0 3 (by unfold maxLen; omega))
 clear hr
 generalize grownCap w n 0 3 = cap at *
 go_enter Tryz.func134, Tryz.ntmps134
 go_wp2_with (at_builtin; refine Lib.wpList_append_run _ rfl (.tmp 20) (.tmp 21) 25 3 rfl (.slice none 0 0) (.int .i64 n) (by simp [Act.eval]) (by simp [Act.eval]) _ _ (HR.out _) ?_)
 go_ret
 exact ⟨_, rfl, World.ownsRow_made (w := w.drew) _ cap (Nat.le_refl _) HLE.out (by have := HGE.out; simp [Builtin.zeroCells]; omega), ((Touch.refl _ w).drew).alloc _⟩
def catS (a b : List Int) (j : Nat) : Nat := if j = 0 then 0 else if j = 1 then a.length else a.length + b.length
def catL (a b : List Int) (j : Nat) : List Int := if j = 0 then [] else if j = 1 then a else a ++ b
set_option maxRecDepth 100000 in
set_option maxHeartbeats 2000000 in
theorem concat2 (a b : List Int) (va vb : Value) (g : Nat) (w : World) (h1 : Ints w va a) (h2 : Ints w vb b) (c0 : w.cell? ⟨g, 0, none⟩ = some va) (c1 : w.cell? ⟨g, 1, none⟩ = some vb) (hn : 0 < a.length + b.length) (hl : a.length + b.length ≤ 1000000) :
  Calls Tryz.prog 98 #[.slice (some ⟨g, 0, none⟩) 2 2] w (IntsRow w (a ++ b)) := by
 obtain ⟨i, hi, hz0, hz1, hz2⟩ := info_parts infoInt
 obtain ⟨A, cap, rfl⟩ := h1.slice
 obtain ⟨B, cbp, rfl⟩ := h2.slice
 have HA := hid h1
 have HB := hid h2
 have HL := hid hl
 have HN := hid hn
 have C0 := hid c0
 have C1 := hid c1
 clear h1 h2 c0 c1
 go_enter Tryz.func98, Tryz.ntmps98
 go_wp2_with fail
 go_loop [3, 11] (fun s i => ∃ j : Nat, i = .int .i64 j ∧ j ≤ 2 ∧ s = .int .i64 (catS a b j : Nat)) (fun _ i => 2 - (intOf i).toNat)
 case atStart => exact ⟨0, rfl, Nat.zero_le _, rfl⟩
 case round =>
  obtain ⟨j, rfl, hj, rfl⟩ := hrel
  have q0 := C0.out
  have q1 := C1.out
  have hs : catS a b j ≤ 1000000 := by unfold catS; split <;> (try split) <;> omega
  by_cases j0 : j = 0
  ·subst j0
   have hst : (catS a b 1 : Nat) = a.length := rfl
   go_wp2_with fail
   go_round
   case rel => exact ⟨1, rfl, by omega, by simp [catS]⟩
   case measure => simp [intOf]
  ·by_cases j1 : j = 1
   ·subst j1
    have hlt : decide ((a.length : Int) + (b.length : Int) < 0) = false := by simp only [decide_eq_false_iff_not]; omega
    have hst : (catS a b 1 : Nat) = a.length := rfl
    rw [hst]
    go_wp2_with fail
    go_round
    case rel => exact ⟨2, rfl, by omega, by simp [catS]⟩
    case measure => simp [intOf]
   ·obtain rfl : j = 2 := by omega
    have hst : (catS a b 2 : Nat) = a.length + b.length := rfl
    rw [hst]
    go_wp2_with fail
    refine (grow_nil (a.length + b.length) _ HN.out (by have := HL.out; omega)).mono ?_
    rintro _ w1 ⟨v1, rfl, ho, hf⟩
    have HO := hid ho
    have HF := hid hf
    clear ho hf
    have q0 := HF.out.cell C0.out (fun h => h)
    have q1 := HF.out.cell C1.out (fun h => h)
    have hbw : w.heap.size ≤ w1.heap.size := HF.out.size
    go_wp2_with fail
    go_loopw [6, 27] (fun s i wr => ∃ j : Nat, i = .int .i64 j ∧ j ≤ 2 ∧ Hid (wr.ownsRow w.heap.size 3 1 s (catL a b j).length (intVs (catL a b j))) ∧ Hid (Fresh w wr)) (fun _ i _ => 2 - (intOf i).toNat)
    case atStart => exact ⟨0, rfl, Nat.zero_le _, HO.out, HF.out⟩
    case round =>
     obtain ⟨j, rfl, hj, HO2, HF2⟩ := hrel
     have q0 := HF2.out.cell C0.out (fun h => h)
     have q1 := HF2.out.cell C1.out (fun h => h)
     have hbw : w.heap.size ≤ wr.heap.size := HF2.out.size
     by_cases j0 : j = 0
     ·subst j0
      have HO3 := hid (show wr.ownsRow w.heap.size 3 1 u6 0 [] from HO2.out)
      go_wp2_with (at_builtin; refine wpList_append_src _ rfl (.tmp 31) (.tmp 32) 25 rfl w.heap.size 3 i _ 1 8 rfl hi hz0 hz1 hz2 rfl (by decide) u6 0 [] (by simp [Act.eval]) HO3.out (.slice A a.length cap) a.length (intVs a) (by simp [Act.eval]) ((Src.of_ints HA.out).fresh HF2.out) (intVs_one a) (by have := HL.out; unfold maxLen; omega) (by have := HL.out; omega) hbw ?_; intro v' w' ho hg _; have HO4 := hid ho; have HG := hid hg; clear ho hg)
      go_roundw
      case rel => exact ⟨1, rfl, by omega, by have := HO4.out; rwa [Nat.zero_add, List.nil_append] at this, touch_grown HF2.out HO3.out (Nat.le_refl _) HG.out⟩
      case measure => simp [intOf]
     ·by_cases j1 : j = 1
      ·subst j1
       have HO3 := hid (show wr.ownsRow w.heap.size 3 1 u6 a.length (intVs a) from HO2.out)
       go_wp2_with (at_builtin; refine wpList_append_src _ rfl (.tmp 31) (.tmp 32) 25 rfl w.heap.size 3 i _ 1 8 rfl hi hz0 hz1 hz2 rfl (by decide) u6 a.length (intVs a) (by simp [Act.eval]) HO3.out (.slice B b.length cbp) b.length (intVs b) (by simp [Act.eval]) ((Src.of_ints HB.out).fresh HF2.out) (intVs_one b) (by have := HL.out; unfold maxLen; omega) (by have := HL.out; omega) hbw ?_; intro v' w' ho hg _; have HO4 := hid ho; have HG := hid hg; clear ho hg)
       go_roundw
       case rel => exact ⟨2, rfl, by omega, by have := HO4.out; rw [← List.map_append, ← List.length_append] at this; exact this, touch_grown HF2.out HO3.out (Nat.le_refl _) HG.out⟩
       case measure => simp [intOf]
      ·obtain rfl : j = 2 := by omega
       have HO3 := hid (show wr.ownsRow w.heap.size 3 1 u6 (a ++ b).length (intVs (a ++ b)) from HO2.out)
       go_wp2_with fail
       go_ret
       exact ⟨_, rfl, HO3.out, HF2.out⟩
end Go.Proofs.YtdacpbdamliafaaGreat

/- The items and the positions of a tree in its tokens: what a walk over a row calls, in order. No program in sight. -/
namespace Go.Proofs.YtdacpbdamliafaaGreat.Tr
open Lx (Tok PTok)
def grp (a : Nd) : Bool := match a.kids with | [x] => !leaf x | _ => true
def bgrp (a : Nd) : Bool := match a.kids with | [x] => scripted x | _ => true
def round (k : Int) (t : Bytes) : Bool := (k == 11) && ((t == [40, 41]) || (t == [91, 93]))
def segs : Nd → List (Nat × Bool × Nd)
 | .mk k t _ ks =>
  match ks with
  | [] => []
  | a :: r =>
   if k = 12 then (2, false, a) :: r.map fun b => (1, false, b)
   else if k = 7 ∨ k = 8 ∨ k = 9 then (0, bgrp a, a) :: r.map fun b => (1, grp b, b)
   else if round k t = true then (0, true, a) :: r.map fun b => (0, grp b, b)
   else if k = 6 then (1, !a.kids.isEmpty, a) :: r.map fun b => (0, grp b, b)
   else (1, grp a, a) :: r.map fun b => (0, grp b, b)
def tailN (n : Nd) : Nat := if n.kind = 12 ∨ n.kids = [] then 1 else 0
def rowsOf (l : List (Nat × Bool × Nd)) : List Nd := l.map fun x => x.2.2
theorem rowsOf_map (c : Nat) (f : Nd → Bool) (l : List Nd) : rowsOf (l.map fun b => (c, f b, b)) = l := by
 unfold rowsOf
 rw [List.map_map]
 exact (List.map_congr_left fun x _ => rfl).trans (List.map_id l)
theorem segs_rows (n : Nd) : rowsOf (segs n) = n.kids := by
 obtain ⟨k, t, c, ks⟩ := n
 cases ks with
 | nil => rfl
 | cons a r =>
  unfold segs
  simp only
  have h1 := rowsOf_map 1 (fun _ => false) r
  have h2 := rowsOf_map 1 grp r
  have h3 := rowsOf_map 0 grp r
  unfold rowsOf at h1 h2 h3 ⊢
  split
  ·rw [List.map_cons, h1]; rfl
  ·split
   ·rw [List.map_cons, h2]; rfl
   ·split
    ·rw [List.map_cons, h3]; rfl
    ·split <;> (rw [List.map_cons, h3]; rfl)
def segLen (x : Nat × Bool × Nd) : Nat := x.1 + (if x.2.1 then 2 else 0) + (rowT x.2.2.kids).length
def segsLen : List (Nat × Bool × Nd) → Nat
 | [] => 0
 | x :: r => segLen x + segsLen r
theorem segLen_eq (k : Nat) (b : Bool) (a : Nd) : segLen (k, b, a) = k + 2 * b.toNat + (rowT a.kids).length := by cases b <;> simp [segLen]
structure Clo (σ κ : Type) where
 off : σ → List Nat → Nat → σ
 item : σ → List Nat → Nat → σ
 key : σ → κ
 done : σ → κ → Nat → σ
def fromAt (T : List PTok) (k : Nat) : Nat := (T[k]?.map (·.from_)).getD 0
def endAt (T : List PTok) (k : Nat) : Nat := if k = 0 then 0 else (T[k - 1]?.map (·.to_)).getD 0
section
variable {σ κ : Type} (C : Clo σ κ) (T : List PTok)
mutual
def runRow : List Nd → List Nat → Nat → Nat → σ → σ
 | [], p, i, f, s => C.off s (p ++ [i]) (endAt T f)
 | n :: ns, p, i, f, s =>
  let s1 := C.off s (p ++ [i]) (fromAt T f)
  let s2 := C.item s1 (p ++ [i]) (fromAt T f)
  let s3 := runSegs (segs n) (p ++ [i]) 0 f s2
  let f' := f + (itemT n).length
  runRow ns p (i + 1) f' (C.done s3 (C.key s1) (endAt T f'))
 termination_by ns => 2 * countL ns + 1
 decreasing_by
  ·have := segs_rows n
   unfold rowsOf at this
   rw [this]
   simp only [countL, count_kids]
   omega
  ·simp only [countL, count_kids]
   omega
def runSegs : List (Nat × Bool × Nd) → List Nat → Nat → Nat → σ → σ
 | [], _, _, _, s => s
 | (k, b, a) :: r, p, j, f, s => runSegs r p (j + 1) (f + segLen (k, b, a)) (runRow a.kids (p ++ [j]) 0 (f + k + b.toNat) s)
 termination_by l => 2 * countL (l.map fun x => x.2.2) + 1
 decreasing_by
  ·simp only [List.map_cons, countL, count_kids]
   omega
  ·simp only [List.map_cons, countL, count_kids]
   omega
end
end
theorem argT_grpLen (a : Nd) : (argT a).length = (if grp a then 2 else 0) + (rowT a.kids).length := by
 rw [argT_eq]
 unfold grp
 generalize a.kids = ks
 match ks with
 | [] => simp [rowT_nil]
 | [x] =>
  cases hl : leaf x with
  | true => simp [hl, rowT_cons, rowT_nil]
  | false => simp [hl]; omega
 | x :: y :: l => simp; omega
theorem baseT_grpLen (a : Nd) : (baseT a).length = (if bgrp a then 2 else 0) + (rowT a.kids).length := by
 rw [baseT_eq]
 unfold bgrp
 generalize a.kids = ks
 match ks with
 | [] => simp [rowT_nil]
 | [x] =>
  cases hl : scripted x with
  | true => simp [hl]; omega
  | false => simp [hl, rowT_cons, rowT_nil]
 | x :: y :: l => simp; omega
theorem cellsT_grpLen (c : Int) : ∀ (i : Nat) (l : List Nd), (cellsT c (i + 1) l).length = segsLen (l.map fun b => (1, false, b))
 | _, [] => by rw [cellsT]; rfl
 | i, n :: ns => by
  rw [cellsT, if_neg (by omega)]
  simp only [List.length_append, List.map_cons, segsLen, segLen]
  rw [cellsT_grpLen c (i + 1) ns]
  split <;> simp <;> omega
theorem item_segs (n : Nd) (v : View n) : (itemT n).length = segsLen (segs n) + tailN n := by
 cases v with
 | sym t ht => rw [itemT_sym]; rfl
 | num t ht => rw [itemT_num]; rfl
 | text t ht => rw [itemT_text]; rfl
 | frac a b ha hb =>
  rw [itemT_frac]
  simp [segs, round, segsLen, segLen, tailN, Nd.kind, Nd.kids, argT_grpLen]
  omega
 | root a b ha hb =>
  rw [itemT_root]
  obtain ⟨ka, ta, ca, la⟩ := a
  cases la with
  | nil => simp [segs, round, segsLen, segLen, tailN, Nd.kind, Nd.kids, argT_grpLen, rowT_nil]; omega
  | cons x l => simp [segs, round, segsLen, segLen, tailN, Nd.kind, Nd.kids, argT_grpLen]; omega
 | sub a b ha hb =>
  rw [itemT_sub]
  simp [segs, segsLen, segLen, tailN, Nd.kind, Nd.kids, argT_grpLen, baseT_grpLen]
  omega
 | sup a b ha hb =>
  rw [itemT_sup]
  simp [segs, segsLen, segLen, tailN, Nd.kind, Nd.kids, argT_grpLen, baseT_grpLen]
  omega
 | both a b d ha hb hd =>
  rw [itemT_both]
  simp [segs, segsLen, segLen, tailN, Nd.kind, Nd.kids, argT_grpLen, baseT_grpLen]
  omega
 | accent t a ht ha =>
  rw [itemT_accent]
  simp [segs, round, segsLen, segLen, tailN, Nd.kind, Nd.kids, argT_grpLen]
  omega
 | fence t a ht ha =>
  rw [itemT_fence]
  by_cases h : t = [40, 41] ∨ t = [91, 93]
  ·rw [if_pos h]
   have hr : round 11 t = true := by unfold round; simp [h]
   simp [segs, hr, segsLen, segLen, tailN, Nd.kind, Nd.kids]
   omega
  ·rw [if_neg h]
   have hr : round 11 t = false := by
    unfold round
    simp only [not_or] at h
    simp [h.1, h.2]
   simp [segs, hr, segsLen, segLen, tailN, Nd.kind, Nd.kids, argT_grpLen]
   omega
 | matrix c ks hc hn hm h =>
  match ks, hn with
  | a :: l, _ =>
   rw [itemT_matrix c (a :: l) (by simp), cellsT]
   simp [segs, segsLen, segLen, tailN, Nd.kind, cellsT_grpLen]
   omega
theorem item_pos (n : Nd) (v : View n) : 1 ≤ (itemT n).length := by
 obtain ⟨t, r, h, _⟩ := item_start n v
 rw [h]
 simp
theorem segs_first (n : Nd) (v : View n) : ∀ x ∈ segs n, x.1 = 0 → x.2.1 = false → x.2.2.kids ≠ [] := by
 have hg : ∀ a : Nd, grp a = false → a.kids ≠ [] := by
  intro a h h2
  unfold grp at h
  rw [h2] at h
  cases h
 have hb : ∀ a : Nd, bgrp a = false → a.kids ≠ [] := by
  intro a h h2
  unfold bgrp at h
  rw [h2] at h
  cases h
 obtain ⟨k, t, c, ks⟩ := n
 cases ks with
 | nil => intro x hx; cases hx
 | cons a r =>
  intro x hx h0 h1
  unfold segs at hx
  simp only at hx
  split at hx
  ·rcases List.mem_cons.1 hx with rfl | hx
   ·cases h0
   ·obtain ⟨b, _, rfl⟩ := List.mem_map.1 hx; cases h0
  ·split at hx
   ·rcases List.mem_cons.1 hx with rfl | hx
    ·exact hb _ h1
    ·obtain ⟨b, _, rfl⟩ := List.mem_map.1 hx; cases h0
   ·split at hx
    ·rcases List.mem_cons.1 hx with rfl | hx
     ·cases h1
     ·obtain ⟨b, _, rfl⟩ := List.mem_map.1 hx; exact hg _ h1
    ·split at hx
     ·rcases List.mem_cons.1 hx with rfl | hx
      ·cases h0
      ·obtain ⟨b, _, rfl⟩ := List.mem_map.1 hx; exact hg _ h1
     ·rcases List.mem_cons.1 hx with rfl | hx
      ·cases h0
      ·obtain ⟨b, _, rfl⟩ := List.mem_map.1 hx; exact hg _ h1
end Go.Proofs.YtdacpbdamliafaaGreat.Tr

/- The spans of items, the positions and the rows of a tree, as lists; their order. No program in sight. -/
namespace Go.Proofs.YtdacpbdamliafaaGreat.Tr
open Lx (Tok PTok)
abbrev Path := List Nat
section
variable (T : List PTok)
mutual
def spRow : List Nd → Path → Nat → Nat → List (Path × Nat × Nat)
 | [], _, _, _ => []
 | n :: ns, p, i, f => (p ++ [i], fromAt T f, endAt T (f + (itemT n).length)) :: (spSegs (segs n) (p ++ [i]) 0 f ++ spRow ns p (i + 1) (f + (itemT n).length))
 termination_by ns => 2 * countL ns + 1
 decreasing_by
  ·have := segs_rows n
   unfold rowsOf at this
   rw [this]
   simp only [countL, count_kids]
   omega
  ·simp only [countL, count_kids]
   omega
def spSegs : List (Nat × Bool × Nd) → Path → Nat → Nat → List (Path × Nat × Nat)
 | [], _, _, _ => []
 | (k, b, a) :: r, p, j, f => spRow a.kids (p ++ [j]) 0 (f + k + b.toNat) ++ spSegs r p (j + 1) (f + segLen (k, b, a))
 termination_by l => 2 * countL (l.map fun x => x.2.2) + 1
 decreasing_by
  ·simp only [List.map_cons, countL, count_kids]
   omega
  ·simp only [List.map_cons, countL, count_kids]
   omega
end
mutual
def posRow : List Nd → Path → Nat → Nat → List (Path × Nat)
 | [], p, i, f => [(p ++ [i], endAt T f)]
 | n :: ns, p, i, f => (p ++ [i], fromAt T f) :: (posSegs (segs n) (p ++ [i]) 0 f ++ posRow ns p (i + 1) (f + (itemT n).length))
 termination_by ns => 2 * countL ns + 1
 decreasing_by
  ·have := segs_rows n
   unfold rowsOf at this
   rw [this]
   simp only [countL, count_kids]
   omega
  ·simp only [countL, count_kids]
   omega
def posSegs : List (Nat × Bool × Nd) → Path → Nat → Nat → List (Path × Nat)
 | [], _, _, _ => []
 | (k, b, a) :: r, p, j, f => posRow a.kids (p ++ [j]) 0 (f + k + b.toNat) ++ posSegs r p (j + 1) (f + segLen (k, b, a))
 termination_by l => 2 * countL (l.map fun x => x.2.2) + 1
 decreasing_by
  ·simp only [List.map_cons, countL, count_kids]
   omega
  ·simp only [List.map_cons, countL, count_kids]
   omega
end
end
theorem rows_ind {P : List Nd → Prop} {Q : List (Nat × Bool × Nd) → Prop} (h0 : P []) (h1 : ∀ n ns, Q (segs n) → P ns → P (n :: ns)) (q0 : Q []) (q1 : ∀ k b a r, P a.kids → Q r → Q ((k, b, a) :: r)) :
  (∀ ks, P ks) ∧ ∀ l, Q l := by
 have : ∀ m, (∀ ks, 2 * countL ks + 1 ≤ m → P ks) ∧ ∀ l : List (Nat × Bool × Nd), 2 * countL (rowsOf l) + 1 ≤ m → Q l := by
  intro m
  induction m with
  | zero => exact ⟨fun _ h => by omega, fun _ h => by omega⟩
  | succ m ih =>
   refine ⟨fun ks h => ?_, fun l h => ?_⟩
   ·cases ks with
    | nil => exact h0
    | cons n ns =>
     refine h1 n ns (ih.2 _ ?_) (ih.1 _ ?_)
     ·rw [segs_rows]; simp only [countL, count_kids] at h; omega
     ·simp only [countL, count_kids] at h; omega
   ·match l with
    | [] => exact q0
    | (k, b, a) :: r =>
     have h' : 2 * (count a + countL (rowsOf r)) + 1 ≤ m + 1 := h
     rw [count_kids] at h'
     exact q1 k b a r (ih.1 _ (by omega)) (ih.2 _ (by omega))
 exact ⟨fun ks => (this _).1 ks (Nat.le_refl _), fun l => (this _).2 l (Nat.le_refl _)⟩
def itemsC : Clo (List (Path × Nat × Nat)) Nat where
 off s _ _ := s
 item s p f := s ++ [(p, f, 0)]
 key s := s.length
 done s k t := s.modify k fun x => (x.1, x.2.1, t)
theorem modify_mid {α : Type} (f : α → α) (l r : List α) (x : α) : (l ++ x :: r).modify l.length f = l ++ f x :: r := by
 induction l with
 | nil => rfl
 | cons y l ih => simpa [List.modify] using ih
theorem items_run (T : List PTok) : (∀ ks p i f s, runRow itemsC T ks p i f s = s ++ spRow T ks p i f) ∧ ∀ l p j f s, runSegs itemsC T l p j f s = s ++ spSegs T l p j f := by
 refine rows_ind (P := fun ks => ∀ p i f s, runRow itemsC T ks p i f s = s ++ spRow T ks p i f) (Q := fun l => ∀ p j f s, runSegs itemsC T l p j f s = s ++ spSegs T l p j f) ?_ ?_ ?_ ?_
 ·intro p i f s; rw [runRow, spRow, List.append_nil]; rfl
 ·intro n ns h1 h2 p i f s
  rw [runRow, spRow, h1, h2]
  show (((s ++ [(p ++ [i], fromAt T f, 0)]) ++ spSegs T (segs n) (p ++ [i]) 0 f).modify s.length _) ++ _ = _
  rw [List.append_assoc, List.singleton_append, modify_mid]
  simp
 ·intro p j f s; rw [runSegs, spSegs, List.append_nil]
 ·intro k b a r h1 h2 p j f s
  rw [runSegs, spSegs, h1, h2, List.append_assoc]
def offC {σ : Type} (g : σ → Path → Nat → σ) : Clo σ Unit where
 off := g
 item s _ _ := s
 key _ := ()
 done s _ _ := s
theorem off_run {σ : Type} (g : σ → Path → Nat → σ) (T : List PTok) : (∀ ks p i f s, runRow (offC g) T ks p i f s = (posRow T ks p i f).foldl (fun s x => g s x.1 x.2) s) ∧ ∀ l p j f s, runSegs (offC g) T l p j f s = (posSegs T l p j f).foldl (fun s x => g s x.1 x.2) s := by
 refine rows_ind (P := fun ks => ∀ p i f s, runRow (offC g) T ks p i f s = (posRow T ks p i f).foldl (fun s x => g s x.1 x.2) s) (Q := fun l => ∀ p j f s, runSegs (offC g) T l p j f s = (posSegs T l p j f).foldl (fun s x => g s x.1 x.2) s) ?_ ?_ ?_ ?_
 ·intro p i f s; rw [runRow, posRow]; rfl
 ·intro n ns h1 h2 p i f s
  rw [runRow, posRow, h1, h2]
  simp only [List.foldl_cons, List.foldl_append]
  rfl
 ·intro p j f s; rw [runSegs, posSegs]; rfl
 ·intro k b a r h1 h2 p j f s
  rw [runSegs, posSegs, h1, h2, List.foldl_append]
def cmp : Path → Path → Int
 | [], [] => 0
 | [], _ :: _ => -1
 | _ :: _, [] => 1
 | a :: l, b :: m => if a < b then -1 else if b < a then 1 else cmp l m
theorem cmp_refl : ∀ l : Path, cmp l l = 0
 | [] => rfl
 | a :: l => by rw [cmp, if_neg (Nat.lt_irrefl _), if_neg (Nat.lt_irrefl _)]; exact cmp_refl l
theorem cmp_eq : ∀ l m : Path, cmp l m = 0 → l = m
 | [], [], _ => rfl
 | [], _ :: _, h => by cases h
 | _ :: _, [], h => by cases h
 | a :: l, b :: m, h => by
  rw [cmp] at h
  split at h
  ·cases h
  ·split at h
   ·cases h
   ·rw [cmp_eq l m h, show a = b by omega]
theorem cmp_swap : ∀ l m : Path, cmp l m = -1 → cmp m l = 1
 | [], [], h => by cases h
 | [], _ :: _, _ => rfl
 | _ :: _, [], h => by cases h
 | a :: l, b :: m, h => by
  rw [cmp] at h ⊢
  split at h
  ·rw [if_neg (by omega), if_pos (by omega)]
  ·split at h
   ·cases h
   ·rw [if_neg (by omega), if_neg (by omega)]; exact cmp_swap l m h
theorem cmp_pre : ∀ p l m : Path, cmp (p ++ l) (p ++ m) = cmp l m
 | [], _, _ => rfl
 | a :: p, l, m => by rw [List.cons_append, List.cons_append, cmp, if_neg (Nat.lt_irrefl _), if_neg (Nat.lt_irrefl _)]; exact cmp_pre p l m
theorem cmp_lt {i j : Nat} (h : i < j) (p q r : Path) : cmp (p ++ i :: q) (p ++ j :: r) = -1 := by rw [cmp_pre, cmp, if_pos h]
theorem cmp_ext (p : Path) (i x : Nat) (r : Path) : cmp (p ++ [i]) (p ++ i :: x :: r) = -1 := by
 rw [cmp_pre, cmp, if_neg (Nat.lt_irrefl _), if_neg (Nat.lt_irrefl _)]; rfl
theorem pos_under (T : List PTok) : (∀ ks p i f, ∀ x ∈ posRow T ks p i f, ∃ j q, i ≤ j ∧ x.1 = p ++ j :: q) ∧ ∀ l p j f, ∀ x ∈ posSegs T l p j f, ∃ j' m q, j ≤ j' ∧ x.1 = p ++ j' :: m :: q := by
 refine rows_ind (P := fun ks => ∀ p i f, ∀ x ∈ posRow T ks p i f, ∃ j q, i ≤ j ∧ x.1 = p ++ j :: q) (Q := fun l => ∀ p j f, ∀ x ∈ posSegs T l p j f, ∃ j' m q, j ≤ j' ∧ x.1 = p ++ j' :: m :: q) ?_ ?_ ?_ ?_
 ·intro p i f x hx
  rw [posRow] at hx
  rcases List.mem_singleton.1 hx with rfl
  exact ⟨i, [], Nat.le_refl _, rfl⟩
 ·intro n ns h1 h2 p i f x hx
  rw [posRow] at hx
  rcases List.mem_cons.1 hx with rfl | hx
  ·exact ⟨i, [], Nat.le_refl _, rfl⟩
  ·rcases List.mem_append.1 hx with hx | hx
   ·obtain ⟨j, m, q, _, h⟩ := h1 _ _ _ x hx
    exact ⟨i, j :: m :: q, Nat.le_refl _, by rw [h, List.append_assoc]; rfl⟩
   ·obtain ⟨j, q, h3, h⟩ := h2 _ _ _ x hx
    exact ⟨j, q, by omega, h⟩
 ·intro p j f x hx; rw [posSegs] at hx; cases hx
 ·intro k b a r h1 h2 p j f x hx
  rw [posSegs] at hx
  rcases List.mem_append.1 hx with hx | hx
  ·obtain ⟨m, q, _, h⟩ := h1 _ _ _ x hx
   exact ⟨j, m, q, Nat.le_refl _, by rw [h, List.append_assoc]; rfl⟩
  ·obtain ⟨j', m, q, h3, h⟩ := h2 _ _ _ x hx
   exact ⟨j', m, q, by omega, h⟩
theorem sp_under (T : List PTok) : (∀ ks p i f, ∀ x ∈ spRow T ks p i f, ∃ j q, i ≤ j ∧ x.1 = p ++ j :: q) ∧ ∀ l p j f, ∀ x ∈ spSegs T l p j f, ∃ j' m q, j ≤ j' ∧ x.1 = p ++ j' :: m :: q := by
 refine rows_ind (P := fun ks => ∀ p i f, ∀ x ∈ spRow T ks p i f, ∃ j q, i ≤ j ∧ x.1 = p ++ j :: q) (Q := fun l => ∀ p j f, ∀ x ∈ spSegs T l p j f, ∃ j' m q, j ≤ j' ∧ x.1 = p ++ j' :: m :: q) ?_ ?_ ?_ ?_
 ·intro p i f x hx; rw [spRow] at hx; cases hx
 ·intro n ns h1 h2 p i f x hx
  rw [spRow] at hx
  rcases List.mem_cons.1 hx with rfl | hx
  ·exact ⟨i, [], Nat.le_refl _, rfl⟩
  ·rcases List.mem_append.1 hx with hx | hx
   ·obtain ⟨j, m, q, _, h⟩ := h1 _ _ _ x hx
    exact ⟨i, j :: m :: q, Nat.le_refl _, by rw [h, List.append_assoc]; rfl⟩
   ·obtain ⟨j, q, h3, h⟩ := h2 _ _ _ x hx
    exact ⟨j, q, by omega, h⟩
 ·intro p j f x hx; rw [spSegs] at hx; cases hx
 ·intro k b a r h1 h2 p j f x hx
  rw [spSegs] at hx
  rcases List.mem_append.1 hx with hx | hx
  ·obtain ⟨m, q, _, h⟩ := h1 _ _ _ x hx
   exact ⟨j, m, q, Nat.le_refl _, by rw [h, List.append_assoc]; rfl⟩
  ·obtain ⟨j', m, q, h3, h⟩ := h2 _ _ _ x hx
   exact ⟨j', m, q, by omega, h⟩
theorem pos_sorted (T : List PTok) : (∀ ks p i f, (posRow T ks p i f).Pairwise fun x y => cmp x.1 y.1 = -1) ∧ ∀ l p j f, (posSegs T l p j f).Pairwise fun x y => cmp x.1 y.1 = -1 := by
 obtain ⟨u1, u2⟩ := pos_under T
 refine rows_ind (P := fun ks => ∀ p i f, (posRow T ks p i f).Pairwise fun x y => cmp x.1 y.1 = -1) (Q := fun l => ∀ p j f, (posSegs T l p j f).Pairwise fun x y => cmp x.1 y.1 = -1) ?_ ?_ ?_ ?_
 ·intro p i f; rw [posRow]; simp
 ·intro n ns h1 h2 p i f
  rw [posRow, List.pairwise_cons, List.pairwise_append]
  refine ⟨fun y hy => ?_, h1 _ _ _, h2 _ _ _, fun x hx y hy => ?_⟩
  ·rcases List.mem_append.1 hy with hy | hy
   ·obtain ⟨j, m, q, _, h⟩ := u2 _ _ _ _ y hy
    rw [h, List.append_assoc]
    exact cmp_ext p i j _
   ·obtain ⟨j, q, h3, h⟩ := u1 _ _ _ _ y hy
    rw [h]
    exact cmp_lt (by omega) p [] q
  ·obtain ⟨j, m, q, _, h⟩ := u2 _ _ _ _ x hx
   obtain ⟨j', q', h3, h'⟩ := u1 _ _ _ _ y hy
   rw [h, h', List.append_assoc]
   exact cmp_lt (by omega) p _ _
 ·intro p j f; rw [posSegs]; exact List.Pairwise.nil
 ·intro k b a r h1 h2 p j f
  rw [posSegs, List.pairwise_append]
  refine ⟨h1 _ _ _, h2 _ _ _, fun x hx y hy => ?_⟩
  obtain ⟨m, q, _, h⟩ := u1 _ _ _ _ x hx
  obtain ⟨j', m', q', h3, h'⟩ := u2 _ _ _ _ y hy
  rw [h, h', List.append_assoc]
  exact cmp_lt (by omega) p _ _
theorem sp_pos (T : List PTok) : (∀ ks p i f, ∀ x ∈ spRow T ks p i f, (x.1, x.2.1) ∈ posRow T ks p i f) ∧ ∀ l p j f, ∀ x ∈ spSegs T l p j f, (x.1, x.2.1) ∈ posSegs T l p j f := by
 refine rows_ind (P := fun ks => ∀ p i f, ∀ x ∈ spRow T ks p i f, (x.1, x.2.1) ∈ posRow T ks p i f) (Q := fun l => ∀ p j f, ∀ x ∈ spSegs T l p j f, (x.1, x.2.1) ∈ posSegs T l p j f) ?_ ?_ ?_ ?_
 ·intro p i f x hx; rw [spRow] at hx; cases hx
 ·intro n ns h1 h2 p i f x hx
  rw [spRow] at hx
  rw [posRow]
  rcases List.mem_cons.1 hx with rfl | hx
  ·exact List.mem_cons_self ..
  ·rcases List.mem_append.1 hx with hx | hx
   ·exact List.mem_cons_of_mem _ (List.mem_append_left _ (h1 _ _ _ x hx))
   ·exact List.mem_cons_of_mem _ (List.mem_append_right _ (h2 _ _ _ x hx))
 ·intro p j f x hx; rw [spSegs] at hx; cases hx
 ·intro k b a r h1 h2 p j f x hx
  rw [spSegs] at hx
  rw [posSegs]
  rcases List.mem_append.1 hx with hx | hx
  ·exact List.mem_append_left _ (h1 _ _ _ x hx)
  ·exact List.mem_append_right _ (h2 _ _ _ x hx)
end Go.Proofs.YtdacpbdamliafaaGreat.Tr

/- The printer's group, argument, fraction, root, accent, scripts. -/
namespace Go.Proofs.YtdacpbdamliafaaGreat
open Go.RowKit
open Tr (Nd argT baseT rowT itemT)
theorem PrAdd.cast {w w' : World} {p B : Nat} {toks : List Lx.PTok} {txt : List UInt8} {l l' : List Lx.Tok} (h : PrAdd w w' p B toks txt l) (e : l = l') : PrAdd w w' p B toks txt l' := e ▸ h
theorem PrAdd.freshR {a b c : World} {p B : Nat} {toks : List Lx.PTok} {txt : List UInt8} {l : List Lx.Tok} (k : PrAdd a b p B toks txt l) (hf : Fresh b c) : PrAdd a c p B toks txt l := by
 obtain ⟨vt, vb, cs, hp, ht⟩ := k
 exact ⟨vt, vb, cs, hp.fresh hf, PS.freshR ht hf⟩
theorem PrAdd.blk {a b : World} {p B g : Nat} {t : TypeId} {cs : Array Value} {toks : List Lx.PTok} {txt : List UInt8} {l : List Lx.Tok} (k : PrAdd a b p B toks txt l) (hb : Blk a g t cs) (hp : g ≠ p) (h1 : t ≠ 150) (h2 : t ≠ 5) : Blk b g t cs := by
 obtain ⟨vt, vb, cs', _, ht⟩ := k
 exact PS.blk ht hb hp h1 h2
theorem RepL.one {W : World} {x : Nd} {v : Value} (h : RepL W [x] v) : ∃ g o cap sx, v = .slice (some ⟨g, o, none⟩) 1 cap ∧
  W.cell? ⟨g, o, none⟩ = some (.int .i64 x.kind) ∧ W.cell? ⟨g, o + 1, none⟩ = some (.string ⟨x.text.toArray⟩) ∧ W.cell? ⟨g, o + 2, none⟩ = some (.int .i64 x.cols) ∧ W.cell? ⟨g, o + 3, none⟩ = some sx ∧ RepL W x.kids sx := by
 obtain ⟨A, cap, rfl⟩ := h.slice
 obtain ⟨g, o, sx, rfl, _, h0, h1, h2, h3, hr⟩ := h.get 0 (by simp)
 simp only [Nat.zero_mul, Nat.add_zero] at h0 h1 h2 h3
 exact ⟨g, o, cap, sx, rfl, h0, h1, h2, h3, hr⟩
theorem RepL.two {W : World} {x y : Nd} {v : Value} (h : RepL W [x, y] v) : ∃ g o cap sx sy, v = .slice (some ⟨g, o, none⟩) 2 cap ∧
  W.cell? ⟨g, o, none⟩ = some (.int .i64 x.kind) ∧ W.cell? ⟨g, o + 1, none⟩ = some (.string ⟨x.text.toArray⟩) ∧ W.cell? ⟨g, o + 2, none⟩ = some (.int .i64 x.cols) ∧ W.cell? ⟨g, o + 3, none⟩ = some sx ∧ RepL W x.kids sx ∧
  W.cell? ⟨g, o + 4, none⟩ = some (.int .i64 y.kind) ∧ W.cell? ⟨g, o + 4 + 1, none⟩ = some (.string ⟨y.text.toArray⟩) ∧ W.cell? ⟨g, o + 4 + 2, none⟩ = some (.int .i64 y.cols) ∧ W.cell? ⟨g, o + 4 + 3, none⟩ = some sy ∧ RepL W y.kids sy := by
 obtain ⟨A, cap, rfl⟩ := h.slice
 obtain ⟨g, o, sx, rfl, _, h0, h1, h2, h3, hr⟩ := h.get 0 (by simp)
 obtain ⟨g', o', sy, hg, _, k0, k1, k2, k3, kr⟩ := h.get 1 (by simp)
 cases hg
 simp only [Nat.zero_mul, Nat.add_zero] at h0 h1 h2 h3
 simp only [Nat.one_mul] at k0 k1 k2 k3
 exact ⟨g, o, cap, sx, sy, rfl, h0, h1, h2, h3, hr, k0, k1, k2, k3, kr⟩
theorem RepL.three {W : World} {x y z : Nd} {v : Value} (h : RepL W [x, y, z] v) : ∃ g o cap sx sy sz, v = .slice (some ⟨g, o, none⟩) 3 cap ∧
  W.cell? ⟨g, o, none⟩ = some (.int .i64 x.kind) ∧ W.cell? ⟨g, o + 1, none⟩ = some (.string ⟨x.text.toArray⟩) ∧ W.cell? ⟨g, o + 2, none⟩ = some (.int .i64 x.cols) ∧ W.cell? ⟨g, o + 3, none⟩ = some sx ∧ RepL W x.kids sx ∧
  W.cell? ⟨g, o + 4, none⟩ = some (.int .i64 y.kind) ∧ W.cell? ⟨g, o + 4 + 1, none⟩ = some (.string ⟨y.text.toArray⟩) ∧ W.cell? ⟨g, o + 4 + 2, none⟩ = some (.int .i64 y.cols) ∧ W.cell? ⟨g, o + 4 + 3, none⟩ = some sy ∧ RepL W y.kids sy ∧
  W.cell? ⟨g, o + 8, none⟩ = some (.int .i64 z.kind) ∧ W.cell? ⟨g, o + 8 + 1, none⟩ = some (.string ⟨z.text.toArray⟩) ∧ W.cell? ⟨g, o + 8 + 2, none⟩ = some (.int .i64 z.cols) ∧ W.cell? ⟨g, o + 8 + 3, none⟩ = some sz ∧ RepL W z.kids sz := by
 obtain ⟨A, cap, rfl⟩ := h.slice
 obtain ⟨g, o, sx, rfl, _, h0, h1, h2, h3, hr⟩ := h.get 0 (by simp)
 obtain ⟨g', o', sy, hg, _, k0, k1, k2, k3, kr⟩ := h.get 1 (by simp)
 cases hg
 obtain ⟨g', o', sz, hg, _, l0, l1, l2, l3, lr⟩ := h.get 2 (by simp)
 cases hg
 simp only [Nat.zero_mul, Nat.add_zero] at h0 h1 h2 h3
 simp only [Nat.one_mul] at k0 k1 k2 k3
 simp only [Nat.reduceMul] at l0 l1 l2 l3
 exact ⟨g, o, cap, sx, sy, sz, rfl, h0, h1, h2, h3, hr, k0, k1, k2, k3, kr, l0, l1, l2, l3, lr⟩
set_option maxRecDepth 100000 in
set_option maxHeartbeats 1000000 in
theorem group_em (W0 : World) (p B : Nat) (n : Nd) (hr : RowE W0 p B n) : GroupE W0 p B n := by
 intro sl hsl w toks txt hp hf
 have PST0 := hid hp
 have FIT0 := hid hf
 have ROWn := hid (hr sl hsl)
 clear hp hf hr hsl
 go_enter Tryz.func171, Tryz.ntmps171
 go_wp2_with fail
 refine Calls.mono ((mark_em W0 p B [123]) _ _ _ (PSt.fresh PST0.out (frA (Touch.refl _ _))) FIT0.out.left) ?_
 rintro _ w1 ⟨rfl, htw1⟩
 have PSTw1 := hid (PSt.add (PSt.fresh PST0.out (frA (Touch.refl _ _))) htw1)
 have ACCw1 := hid (PrAdd.freshL (show Fresh w _ from (frA (Touch.refl _ _))) htw1)
 have FITw1 := hid (Fits.right FIT0.out)
 have B0_w1 : Blk w1 (w.heap.size) 24 #[.int .i64 n.kind, .string (⟨n.text.toArray⟩ : ByteArray), .int .i64 n.cols, sl] := PrAdd.blk htw1 (by first | exact blkN | assumption | exact blkA (by assumption)) (by have := PSt.lt PST0.out; have := PSt.hB PST0.out; omega) (by decide) (by decide)
 obtain ⟨q0_0_w1, q0_1_w1, q0_2_w1, q0_3_w1, _⟩ := Blk.four B0_w1
 clear htw1
 go_wp2_with fail
 refine Calls.mono ((ROWn.out) _ _ _ (PSt.fresh PSTw1.out (frA (Touch.refl _ _))) FITw1.out.left) ?_
 rintro _ w2 ⟨rfl, htw2⟩
 have PSTw2 := hid (PSt.add2 (PSt.fresh PSTw1.out (frA (Touch.refl _ _))) htw2)
 have ACCw2 := hid (PrAdd.app ACCw1.out (PrAdd.freshL (show Fresh w1 _ from (frA (Touch.refl _ _))) htw2))
 have FITw2 := hid (Fits.right2 FITw1.out)
 have B0_w2 : Blk w2 (w.heap.size) 24 #[.int .i64 n.kind, .string (⟨n.text.toArray⟩ : ByteArray), .int .i64 n.cols, sl] := PrAdd.blk htw2 (by first | exact blkN | assumption | exact blkA (by assumption)) (by have := PSt.lt PST0.out; have := PSt.hB PST0.out; omega) (by decide) (by decide)
 clear q0_0_w1 q0_1_w1 q0_2_w1 q0_3_w1 B0_w1
 obtain ⟨q0_0_w2, q0_1_w2, q0_2_w2, q0_3_w2, _⟩ := Blk.four B0_w2
 clear htw2
 go_wp2_with fail
 refine Calls.mono ((mark_em W0 p B [125]) _ _ _ (PSt.fresh PSTw2.out (frA (Touch.refl _ _))) FITw2.out) ?_
 rintro _ w3 ⟨rfl, htw3⟩
 have PSTw3 := hid (PSt.add2 (PSt.fresh PSTw2.out (frA (Touch.refl _ _))) htw3)
 have ACCw3 := hid (PrAdd.app ACCw2.out (PrAdd.freshL (show Fresh w2 _ from (frA (Touch.refl _ _))) htw3))
 have B0_w3 : Blk w3 (w.heap.size) 24 #[.int .i64 n.kind, .string (⟨n.text.toArray⟩ : ByteArray), .int .i64 n.cols, sl] := PrAdd.blk htw3 (by first | exact blkN | assumption | exact blkA (by assumption)) (by have := PSt.lt PST0.out; have := PSt.hB PST0.out; omega) (by decide) (by decide)
 clear q0_0_w2 q0_1_w2 q0_2_w2 q0_3_w2 B0_w2
 obtain ⟨q0_0_w3, q0_1_w3, q0_2_w3, q0_3_w3, _⟩ := Blk.four B0_w3
 clear htw3
 go_wp2_with fail
 first | go_end0 | refine bodyPost_ret (v := .tuple #[]) (results_none rfl _ _ _) rfl ?_
 exact ⟨rfl, PrAdd.cast ACCw3.out (by first | rfl | (simp only [List.append_assoc] <;> rfl))⟩
theorem argT_leaf (n x : Nd) (h : n.kids = [x]) (hx : Tr.leaf x = true) : argT n = rowT n.kids := by
 rw [Tr.argT_eq, h]; simp [hx, Tr.rowT_cons, Tr.rowT_nil]
theorem argT_grp (n x : Nd) (h : n.kids = [x]) (hx : Tr.leaf x = false) : argT n = [Tr.mk7 123] ++ (rowT n.kids ++ [Tr.mk7 125]) := by
 rw [Tr.argT_eq, h]; simp [hx]
theorem argT_len1 (n : Nd) (h : n.kids.length ≠ 1) : argT n = [Tr.mk7 123] ++ (rowT n.kids ++ [Tr.mk7 125]) := by
 rw [Tr.argT_eq]
 split
 ·rename_i x hx; rw [hx] at h; simp at h
 ·rfl
theorem baseT_row (n x : Nd) (h : n.kids = [x]) (hx : Tr.scripted x = false) : baseT n = rowT n.kids := by
 rw [Tr.baseT_eq, h]; simp [hx, Tr.rowT_cons, Tr.rowT_nil]
theorem baseT_grp (n x : Nd) (h : n.kids = [x]) (hx : Tr.scripted x = true) : baseT n = [Tr.mk7 123] ++ (rowT n.kids ++ [Tr.mk7 125]) := by
 rw [Tr.baseT_eq, h]; simp [hx]
theorem baseT_len1 (n : Nd) (h : n.kids.length ≠ 1) : baseT n = [Tr.mk7 123] ++ (rowT n.kids ++ [Tr.mk7 125]) := by
 rw [Tr.baseT_eq]
 split
 ·rename_i x hx; rw [hx] at h; simp at h
 ·rfl
set_option maxRecDepth 100000 in
set_option maxHeartbeats 1000000 in
theorem argument_row (W0 : World) (p B : Nat) (n x : Nd) (hx : n.kids = [x]) (hl : Tr.leaf x = true) (hr : RowE W0 p B n) : ArgE W0 p B n := by
 intro sl hsl w toks txt hp hf
 rw [argT_leaf n x hx hl] at hf ⊢
 have ROWn := hid (hr sl hsl)
 rw [hx] at hsl
 obtain ⟨g, o, cap, sx, rfl, x0, x1, x2, x3, hrx⟩ := hsl.one
 have PST0 := hid hp
 have FIT0 := hid hf
 clear hp hf hr hsl hrx
 have XX0 := hid x0
 have XX1 := hid x1
 have XX2 := hid x2
 have XX3 := hid x3
 clear x0 x1 x2 x3
 simp only [Tr.leaf, Bool.or_eq_true, beq_iff_eq] at hl
 rcases hl with (hl | hl) | hl
 ·have k2 : x.kind = 2 := hl
  clear hl
  have d2 : (x.kind == (2 : Int)) = true := by rw [k2]; rfl
  have d3 : (x.kind == (3 : Int)) = false := by rw [k2]; rfl
  have d4 : (x.kind == (4 : Int)) = false := by rw [k2]; rfl
  clear k2
  obtain ⟨xx0_w, xx1_w, xx2_w, xx3_w⟩ := low4 (PSt.low PST0.out) XX0.out XX1.out XX2.out XX3.out
  have hlt_g_w : g < w.heap.size := block_lt_of_cell xx0_w
  go_enter Tryz.func168, Tryz.ntmps168
  go_wp2_with fail
  refine Calls.mono ((ROWn.out) _ _ _ (PSt.fresh PST0.out (frA (Touch.refl _ _))) FIT0.out) ?_
  rintro _ w1 ⟨rfl, htw1⟩
  have PSTw1 := hid (PSt.add (PSt.fresh PST0.out (frA (Touch.refl _ _))) htw1)
  have ACCw1 := hid (PrAdd.freshL (show Fresh w _ from (frA (Touch.refl _ _))) htw1)
  have B0_w1 : Blk w1 (w.heap.size) 24 #[.int .i64 n.kind, .string (⟨n.text.toArray⟩ : ByteArray), .int .i64 n.cols, .slice (some ⟨g, o, none⟩) 1 cap] := PrAdd.blk htw1 (by first | exact blkN | assumption | exact blkA (by assumption)) (by have := PSt.lt PST0.out; have := PSt.hB PST0.out; omega) (by decide) (by decide)
  obtain ⟨q0_0_w1, q0_1_w1, q0_2_w1, q0_3_w1, _⟩ := Blk.four B0_w1
  clear xx0_w xx1_w xx2_w xx3_w
  obtain ⟨xx0_w1, xx1_w1, xx2_w1, xx3_w1⟩ := low4 (PSt.low PSTw1.out) XX0.out XX1.out XX2.out XX3.out
  have hlt_g_w1 : g < w1.heap.size := block_lt_of_cell xx0_w1
  clear htw1
  go_wp2_with fail
  first | go_end0 | refine bodyPost_ret (v := .tuple #[]) (results_none rfl _ _ _) rfl ?_
  exact ⟨rfl, PrAdd.cast ACCw1.out (by first | rfl | (simp only [List.append_assoc] <;> rfl))⟩
 ·have k2 : x.kind = 3 := hl
  clear hl
  have d2 : (x.kind == (2 : Int)) = false := by rw [k2]; rfl
  have d3 : (x.kind == (3 : Int)) = true := by rw [k2]; rfl
  have d4 : (x.kind == (4 : Int)) = false := by rw [k2]; rfl
  clear k2
  obtain ⟨xx0_w, xx1_w, xx2_w, xx3_w⟩ := low4 (PSt.low PST0.out) XX0.out XX1.out XX2.out XX3.out
  have hlt_g_w : g < w.heap.size := block_lt_of_cell xx0_w
  go_enter Tryz.func168, Tryz.ntmps168
  go_wp2_with fail
  refine Calls.mono ((ROWn.out) _ _ _ (PSt.fresh PST0.out (frA (Touch.refl _ _))) FIT0.out) ?_
  rintro _ w1 ⟨rfl, htw1⟩
  have PSTw1 := hid (PSt.add (PSt.fresh PST0.out (frA (Touch.refl _ _))) htw1)
  have ACCw1 := hid (PrAdd.freshL (show Fresh w _ from (frA (Touch.refl _ _))) htw1)
  have B0_w1 : Blk w1 (w.heap.size) 24 #[.int .i64 n.kind, .string (⟨n.text.toArray⟩ : ByteArray), .int .i64 n.cols, .slice (some ⟨g, o, none⟩) 1 cap] := PrAdd.blk htw1 (by first | exact blkN | assumption | exact blkA (by assumption)) (by have := PSt.lt PST0.out; have := PSt.hB PST0.out; omega) (by decide) (by decide)
  obtain ⟨q0_0_w1, q0_1_w1, q0_2_w1, q0_3_w1, _⟩ := Blk.four B0_w1
  clear xx0_w xx1_w xx2_w xx3_w
  obtain ⟨xx0_w1, xx1_w1, xx2_w1, xx3_w1⟩ := low4 (PSt.low PSTw1.out) XX0.out XX1.out XX2.out XX3.out
  have hlt_g_w1 : g < w1.heap.size := block_lt_of_cell xx0_w1
  clear htw1
  go_wp2_with fail
  first | go_end0 | refine bodyPost_ret (v := .tuple #[]) (results_none rfl _ _ _) rfl ?_
  exact ⟨rfl, PrAdd.cast ACCw1.out (by first | rfl | (simp only [List.append_assoc] <;> rfl))⟩
 ·have k2 : x.kind = 4 := hl
  clear hl
  have d2 : (x.kind == (2 : Int)) = false := by rw [k2]; rfl
  have d3 : (x.kind == (3 : Int)) = false := by rw [k2]; rfl
  have d4 : (x.kind == (4 : Int)) = true := by rw [k2]; rfl
  clear k2
  obtain ⟨xx0_w, xx1_w, xx2_w, xx3_w⟩ := low4 (PSt.low PST0.out) XX0.out XX1.out XX2.out XX3.out
  have hlt_g_w : g < w.heap.size := block_lt_of_cell xx0_w
  go_enter Tryz.func168, Tryz.ntmps168
  go_wp2_with fail
  refine Calls.mono ((ROWn.out) _ _ _ (PSt.fresh PST0.out (frA (Touch.refl _ _))) FIT0.out) ?_
  rintro _ w1 ⟨rfl, htw1⟩
  have PSTw1 := hid (PSt.add (PSt.fresh PST0.out (frA (Touch.refl _ _))) htw1)
  have ACCw1 := hid (PrAdd.freshL (show Fresh w _ from (frA (Touch.refl _ _))) htw1)
  have B0_w1 : Blk w1 (w.heap.size) 24 #[.int .i64 n.kind, .string (⟨n.text.toArray⟩ : ByteArray), .int .i64 n.cols, .slice (some ⟨g, o, none⟩) 1 cap] := PrAdd.blk htw1 (by first | exact blkN | assumption | exact blkA (by assumption)) (by have := PSt.lt PST0.out; have := PSt.hB PST0.out; omega) (by decide) (by decide)
  obtain ⟨q0_0_w1, q0_1_w1, q0_2_w1, q0_3_w1, _⟩ := Blk.four B0_w1
  clear xx0_w xx1_w xx2_w xx3_w
  obtain ⟨xx0_w1, xx1_w1, xx2_w1, xx3_w1⟩ := low4 (PSt.low PSTw1.out) XX0.out XX1.out XX2.out XX3.out
  have hlt_g_w1 : g < w1.heap.size := block_lt_of_cell xx0_w1
  clear htw1
  go_wp2_with fail
  first | go_end0 | refine bodyPost_ret (v := .tuple #[]) (results_none rfl _ _ _) rfl ?_
  exact ⟨rfl, PrAdd.cast ACCw1.out (by first | rfl | (simp only [List.append_assoc] <;> rfl))⟩
set_option maxRecDepth 100000 in
set_option maxHeartbeats 1000000 in
theorem argument_grp (W0 : World) (p B : Nat) (n x : Nd) (hx : n.kids = [x]) (hl : Tr.leaf x = false) (hr : GroupE W0 p B n) : ArgE W0 p B n := by
 intro sl hsl w toks txt hp hf
 rw [argT_grp n x hx hl] at hf ⊢
 have GRPn := hid (hr sl hsl)
 rw [hx] at hsl
 obtain ⟨g, o, cap, sx, rfl, x0, x1, x2, x3, hrx⟩ := hsl.one
 have PST0 := hid hp
 have FIT0 := hid hf
 clear hp hf hr hsl hrx
 have XX0 := hid x0
 have XX1 := hid x1
 have XX2 := hid x2
 have XX3 := hid x3
 clear x0 x1 x2 x3
 simp only [Tr.leaf, Bool.or_eq_false_iff] at hl
 obtain ⟨⟨d2, d3⟩, d4⟩ := hl
 obtain ⟨xx0_w, xx1_w, xx2_w, xx3_w⟩ := low4 (PSt.low PST0.out) XX0.out XX1.out XX2.out XX3.out
 have hlt_g_w : g < w.heap.size := block_lt_of_cell xx0_w
 go_enter Tryz.func168, Tryz.ntmps168
 go_wp2_with fail
 refine Calls.mono ((GRPn.out) _ _ _ (PSt.fresh PST0.out (frA (Touch.refl _ _))) FIT0.out) ?_
 rintro _ w1 ⟨rfl, htw1⟩
 have PSTw1 := hid (PSt.add (PSt.fresh PST0.out (frA (Touch.refl _ _))) htw1)
 have ACCw1 := hid (PrAdd.freshL (show Fresh w _ from (frA (Touch.refl _ _))) htw1)
 have B0_w1 : Blk w1 (w.heap.size) 24 #[.int .i64 n.kind, .string (⟨n.text.toArray⟩ : ByteArray), .int .i64 n.cols, .slice (some ⟨g, o, none⟩) 1 cap] := PrAdd.blk htw1 (by first | exact blkN | assumption | exact blkA (by assumption)) (by have := PSt.lt PST0.out; have := PSt.hB PST0.out; omega) (by decide) (by decide)
 obtain ⟨q0_0_w1, q0_1_w1, q0_2_w1, q0_3_w1, _⟩ := Blk.four B0_w1
 clear xx0_w xx1_w xx2_w xx3_w
 obtain ⟨xx0_w1, xx1_w1, xx2_w1, xx3_w1⟩ := low4 (PSt.low PSTw1.out) XX0.out XX1.out XX2.out XX3.out
 have hlt_g_w1 : g < w1.heap.size := block_lt_of_cell xx0_w1
 clear htw1
 go_wp2_with fail
 first | go_end0 | refine bodyPost_ret (v := .tuple #[]) (results_none rfl _ _ _) rfl ?_
 exact ⟨rfl, PrAdd.cast ACCw1.out (by first | rfl | (simp only [List.append_assoc] <;> rfl))⟩
set_option maxRecDepth 100000 in
set_option maxHeartbeats 1000000 in
theorem argument_len (W0 : World) (p B : Nat) (n : Nd) (hx : n.kids.length ≠ 1) (hr : GroupE W0 p B n) : ArgE W0 p B n := by
 intro sl hsl w toks txt hp hf
 rw [argT_len1 n hx] at hf ⊢
 obtain ⟨A, cap, rfl⟩ := hsl.slice
 have GRPn := hid (hr _ hsl)
 have PST0 := hid hp
 have FIT0 := hid hf
 have d1 : ((n.kids.length : Int) == 1) = false := by simp only [beq_eq_false_iff_ne]; omega
 have d2 : ¬ (n.kids.length : Int) = 1 := by omega
 clear hp hf hr hsl
 go_enter Tryz.func168, Tryz.ntmps168
 go_wp2_with fail
 refine Calls.mono ((GRPn.out) _ _ _ (PSt.fresh PST0.out (frA (Touch.refl _ _))) FIT0.out) ?_
 rintro _ w1 ⟨rfl, htw1⟩
 have PSTw1 := hid (PSt.add (PSt.fresh PST0.out (frA (Touch.refl _ _))) htw1)
 have ACCw1 := hid (PrAdd.freshL (show Fresh w _ from (frA (Touch.refl _ _))) htw1)
 have B0_w1 : Blk w1 (w.heap.size) 24 #[.int .i64 n.kind, .string (⟨n.text.toArray⟩ : ByteArray), .int .i64 n.cols, .slice A n.kids.length cap] := PrAdd.blk htw1 (by first | exact blkN | assumption | exact blkA (by assumption)) (by have := PSt.lt PST0.out; have := PSt.hB PST0.out; omega) (by decide) (by decide)
 obtain ⟨q0_0_w1, q0_1_w1, q0_2_w1, q0_3_w1, _⟩ := Blk.four B0_w1
 clear htw1
 go_wp2_with fail
 first | go_end0 | refine bodyPost_ret (v := .tuple #[]) (results_none rfl _ _ _) rfl ?_
 exact ⟨rfl, PrAdd.cast ACCw1.out (by first | rfl | (simp only [List.append_assoc] <;> rfl))⟩
theorem argument_em (W0 : World) (p B : Nat) (n : Nd) (hr : RowE W0 p B n) : ArgE W0 p B n := by
 by_cases h1 : n.kids.length = 1
 ·obtain ⟨x, hx⟩ := List.length_eq_one_iff.1 h1
  cases hl : Tr.leaf x with
  | true => exact argument_row W0 p B n x hx hl hr
  | false => exact argument_grp W0 p B n x hx hl (group_em W0 p B n hr)
 ·exact argument_len W0 p B n h1 (group_em W0 p B n hr)
set_option maxRecDepth 100000 in
set_option maxHeartbeats 1000000 in
theorem fraction_em (W0 : World) (p B : Nat) (kd tx cl : Value) (a b : Nd) (ha : ArgE W0 p B a) (hb : ArgE W0 p B b) (sl : Value) (hsl : RepL W0 [a, b] sl) : Emits 128 #[pp p, .agg #[kd, tx, cl, sl]] W0 p B ([Tr.name Tr.sFrac] ++ (argT a ++ argT b)) := by
 intro w toks txt hp hf
 obtain ⟨g, o, cap, sa, sb, rfl, a0, a1, a2, a3, hra, b0, b1, b2, b3, hrb⟩ := hsl.two
 have ARGa := hid (ha sa hra)
 have ARGb := hid (hb sb hrb)
 have PST0 := hid hp
 have FIT0 := hid hf
 clear hp hf ha hb hsl hra hrb
 have XA0 := hid a0
 have XA1 := hid a1
 have XA2 := hid a2
 have XA3 := hid a3
 have XB0 := hid b0
 have XB1 := hid b1
 have XB2 := hid b2
 have XB3 := hid b3
 clear a0 a1 a2 a3 b0 b1 b2 b3
 obtain ⟨xa0_w, xa1_w, xa2_w, xa3_w⟩ := low4 (PSt.low PST0.out) XA0.out XA1.out XA2.out XA3.out
 obtain ⟨xb0_w, xb1_w, xb2_w, xb3_w⟩ := low4 (PSt.low PST0.out) XB0.out XB1.out XB2.out XB3.out
 have hlt_g_w : g < w.heap.size := block_lt_of_cell xa0_w
 go_enter Tryz.func128, Tryz.ntmps128
 go_wp2_with fail
 refine Calls.mono ((add_em W0 p B 4 [102, 114, 97, 99]) _ _ _ (PSt.fresh PST0.out (frA (Touch.refl _ _))) FIT0.out.left) ?_
 rintro _ w1 ⟨rfl, htw1⟩
 have PSTw1 := hid (PSt.add (PSt.fresh PST0.out (frA (Touch.refl _ _))) htw1)
 have ACCw1 := hid (PrAdd.freshL (show Fresh w _ from (frA (Touch.refl _ _))) htw1)
 have FITw1 := hid (Fits.right FIT0.out)
 have B0_w1 : Blk w1 (w.heap.size) 24 #[kd, tx, cl, .slice (some ⟨g, o, none⟩) 2 cap] := PrAdd.blk htw1 (by first | exact blkN | assumption | exact blkA (by assumption)) (by have := PSt.lt PST0.out; have := PSt.hB PST0.out; omega) (by decide) (by decide)
 obtain ⟨q0_0_w1, q0_1_w1, q0_2_w1, q0_3_w1, _⟩ := Blk.four B0_w1
 clear xa0_w xa1_w xa2_w xa3_w xb0_w xb1_w xb2_w xb3_w
 obtain ⟨xa0_w1, xa1_w1, xa2_w1, xa3_w1⟩ := low4 (PSt.low PSTw1.out) XA0.out XA1.out XA2.out XA3.out
 obtain ⟨xb0_w1, xb1_w1, xb2_w1, xb3_w1⟩ := low4 (PSt.low PSTw1.out) XB0.out XB1.out XB2.out XB3.out
 have hlt_g_w1 : g < w1.heap.size := block_lt_of_cell xa0_w1
 clear htw1
 go_wp2_with fail
 refine Calls.mono ((ARGa.out) _ _ _ (PSt.fresh PSTw1.out (frA (Touch.refl _ _))) FITw1.out.left) ?_
 rintro _ w2 ⟨rfl, htw2⟩
 have PSTw2 := hid (PSt.add2 (PSt.fresh PSTw1.out (frA (Touch.refl _ _))) htw2)
 have ACCw2 := hid (PrAdd.app ACCw1.out (PrAdd.freshL (show Fresh w1 _ from (frA (Touch.refl _ _))) htw2))
 have FITw2 := hid (Fits.right2 FITw1.out)
 have B0_w2 : Blk w2 (w.heap.size) 24 #[kd, tx, cl, .slice (some ⟨g, o, none⟩) 2 cap] := PrAdd.blk htw2 (by first | exact blkN | assumption | exact blkA (by assumption)) (by have := PSt.lt PST0.out; have := PSt.hB PST0.out; omega) (by decide) (by decide)
 clear q0_0_w1 q0_1_w1 q0_2_w1 q0_3_w1 B0_w1
 obtain ⟨q0_0_w2, q0_1_w2, q0_2_w2, q0_3_w2, _⟩ := Blk.four B0_w2
 clear xa0_w1 xa1_w1 xa2_w1 xa3_w1 xb0_w1 xb1_w1 xb2_w1 xb3_w1
 obtain ⟨xa0_w2, xa1_w2, xa2_w2, xa3_w2⟩ := low4 (PSt.low PSTw2.out) XA0.out XA1.out XA2.out XA3.out
 obtain ⟨xb0_w2, xb1_w2, xb2_w2, xb3_w2⟩ := low4 (PSt.low PSTw2.out) XB0.out XB1.out XB2.out XB3.out
 have hlt_g_w2 : g < w2.heap.size := block_lt_of_cell xa0_w2
 clear htw2
 go_wp2_with fail
 refine Calls.mono ((ARGb.out) _ _ _ (PSt.fresh PSTw2.out (frA (Touch.refl _ _))) FITw2.out) ?_
 rintro _ w3 ⟨rfl, htw3⟩
 have PSTw3 := hid (PSt.add2 (PSt.fresh PSTw2.out (frA (Touch.refl _ _))) htw3)
 have ACCw3 := hid (PrAdd.app ACCw2.out (PrAdd.freshL (show Fresh w2 _ from (frA (Touch.refl _ _))) htw3))
 have B0_w3 : Blk w3 (w.heap.size) 24 #[kd, tx, cl, .slice (some ⟨g, o, none⟩) 2 cap] := PrAdd.blk htw3 (by first | exact blkN | assumption | exact blkA (by assumption)) (by have := PSt.lt PST0.out; have := PSt.hB PST0.out; omega) (by decide) (by decide)
 clear q0_0_w2 q0_1_w2 q0_2_w2 q0_3_w2 B0_w2
 obtain ⟨q0_0_w3, q0_1_w3, q0_2_w3, q0_3_w3, _⟩ := Blk.four B0_w3
 clear xa0_w2 xa1_w2 xa2_w2 xa3_w2 xb0_w2 xb1_w2 xb2_w2 xb3_w2
 obtain ⟨xa0_w3, xa1_w3, xa2_w3, xa3_w3⟩ := low4 (PSt.low PSTw3.out) XA0.out XA1.out XA2.out XA3.out
 obtain ⟨xb0_w3, xb1_w3, xb2_w3, xb3_w3⟩ := low4 (PSt.low PSTw3.out) XB0.out XB1.out XB2.out XB3.out
 have hlt_g_w3 : g < w3.heap.size := block_lt_of_cell xa0_w3
 clear htw3
 go_wp2_with fail
 first | go_end0 | refine bodyPost_ret (v := .tuple #[]) (results_none rfl _ _ _) rfl ?_
 exact ⟨rfl, PrAdd.cast ACCw3.out (by first | rfl | (simp only [List.append_assoc] <;> rfl))⟩
set_option maxRecDepth 100000 in
set_option maxHeartbeats 1000000 in
theorem root_full (W0 : World) (p B : Nat) (kd tx cl : Value) (a b : Nd) (hk : a.kids ≠ []) (ha : RowE W0 p B a) (hb : ArgE W0 p B b) (sl : Value) (hsl : RepL W0 [a, b] sl) : Emits 129 #[pp p, .agg #[kd, tx, cl, sl]] W0 p B ([Tr.name Tr.sRoot] ++ ([Tr.mk7 91] ++ (rowT a.kids ++ ([Tr.mk7 93] ++ argT b)))) := by
 intro w toks txt hp hf
 obtain ⟨g, o, cap, sa, sb, rfl, a0, a1, a2, a3, hra, b0, b1, b2, b3, hrb⟩ := hsl.two
 obtain ⟨Aa, capa, rfl⟩ := hra.slice
 have ROWa := hid (ha _ hra)
 clear ha
 have ARGb := hid (hb sb hrb)
 have PST0 := hid hp
 have FIT0 := hid hf
 have hpos : 0 < a.kids.length := by exact List.length_pos_iff.2 hk
 have d1 : decide ((0 : Int) < (a.kids.length : Int)) = true := by simp only [decide_eq_true_eq]; omega
 have d1n : decide (0 < a.kids.length) = true := by simp only [decide_eq_true_eq]; omega
 have d1' : (0 : Int) < (a.kids.length : Int) := by omega
 clear hpos
 clear hp hf hb hsl hra hrb hk
 have XA0 := hid a0
 have XA1 := hid a1
 have XA2 := hid a2
 have XA3 := hid a3
 have XB0 := hid b0
 have XB1 := hid b1
 have XB2 := hid b2
 have XB3 := hid b3
 clear a0 a1 a2 a3 b0 b1 b2 b3
 obtain ⟨xa0_w, xa1_w, xa2_w, xa3_w⟩ := low4 (PSt.low PST0.out) XA0.out XA1.out XA2.out XA3.out
 obtain ⟨xb0_w, xb1_w, xb2_w, xb3_w⟩ := low4 (PSt.low PST0.out) XB0.out XB1.out XB2.out XB3.out
 have hlt_g_w : g < w.heap.size := block_lt_of_cell xa0_w
 go_enter Tryz.func129, Tryz.ntmps129
 go_wp2_with fail
 refine Calls.mono ((add_em W0 p B 4 [114, 111, 111, 116]) _ _ _ (PSt.fresh PST0.out (frA (Touch.refl _ _))) FIT0.out.left) ?_
 rintro _ w1 ⟨rfl, htw1⟩
 have PSTw1 := hid (PSt.add (PSt.fresh PST0.out (frA (Touch.refl _ _))) htw1)
 have ACCw1 := hid (PrAdd.freshL (show Fresh w _ from (frA (Touch.refl _ _))) htw1)
 have FITw1 := hid (Fits.right FIT0.out)
 have B0_w1 : Blk w1 (w.heap.size) 24 #[kd, tx, cl, .slice (some ⟨g, o, none⟩) 2 cap] := PrAdd.blk htw1 (by first | exact blkN | assumption | exact blkA (by assumption)) (by have := PSt.lt PST0.out; have := PSt.hB PST0.out; omega) (by decide) (by decide)
 obtain ⟨q0_0_w1, q0_1_w1, q0_2_w1, q0_3_w1, _⟩ := Blk.four B0_w1
 clear xa0_w xa1_w xa2_w xa3_w xb0_w xb1_w xb2_w xb3_w
 obtain ⟨xa0_w1, xa1_w1, xa2_w1, xa3_w1⟩ := low4 (PSt.low PSTw1.out) XA0.out XA1.out XA2.out XA3.out
 obtain ⟨xb0_w1, xb1_w1, xb2_w1, xb3_w1⟩ := low4 (PSt.low PSTw1.out) XB0.out XB1.out XB2.out XB3.out
 have hlt_g_w1 : g < w1.heap.size := block_lt_of_cell xa0_w1
 clear htw1
 go_wp2_with fail
 refine Calls.mono ((mark_em W0 p B [91]) _ _ _ (PSt.fresh PSTw1.out (frA (Touch.refl _ _))) FITw1.out.left) ?_
 rintro _ w2 ⟨rfl, htw2⟩
 have PSTw2 := hid (PSt.add2 (PSt.fresh PSTw1.out (frA (Touch.refl _ _))) htw2)
 have ACCw2 := hid (PrAdd.app ACCw1.out (PrAdd.freshL (show Fresh w1 _ from (frA (Touch.refl _ _))) htw2))
 have FITw2 := hid (Fits.right2 FITw1.out)
 have B0_w2 : Blk w2 (w.heap.size) 24 #[kd, tx, cl, .slice (some ⟨g, o, none⟩) 2 cap] := PrAdd.blk htw2 (by first | exact blkN | assumption | exact blkA (by assumption)) (by have := PSt.lt PST0.out; have := PSt.hB PST0.out; omega) (by decide) (by decide)
 clear q0_0_w1 q0_1_w1 q0_2_w1 q0_3_w1 B0_w1
 obtain ⟨q0_0_w2, q0_1_w2, q0_2_w2, q0_3_w2, _⟩ := Blk.four B0_w2
 clear xa0_w1 xa1_w1 xa2_w1 xa3_w1 xb0_w1 xb1_w1 xb2_w1 xb3_w1
 obtain ⟨xa0_w2, xa1_w2, xa2_w2, xa3_w2⟩ := low4 (PSt.low PSTw2.out) XA0.out XA1.out XA2.out XA3.out
 obtain ⟨xb0_w2, xb1_w2, xb2_w2, xb3_w2⟩ := low4 (PSt.low PSTw2.out) XB0.out XB1.out XB2.out XB3.out
 have hlt_g_w2 : g < w2.heap.size := block_lt_of_cell xa0_w2
 clear htw2
 go_wp2_with fail
 refine Calls.mono ((ROWa.out) _ _ _ (PSt.fresh PSTw2.out (frA (Touch.refl _ _))) FITw2.out.left) ?_
 rintro _ w3 ⟨rfl, htw3⟩
 have PSTw3 := hid (PSt.add2 (PSt.fresh PSTw2.out (frA (Touch.refl _ _))) htw3)
 have ACCw3 := hid (PrAdd.app ACCw2.out (PrAdd.freshL (show Fresh w2 _ from (frA (Touch.refl _ _))) htw3))
 have FITw3 := hid (Fits.right2 FITw2.out)
 have B0_w3 : Blk w3 (w.heap.size) 24 #[kd, tx, cl, .slice (some ⟨g, o, none⟩) 2 cap] := PrAdd.blk htw3 (by first | exact blkN | assumption | exact blkA (by assumption)) (by have := PSt.lt PST0.out; have := PSt.hB PST0.out; omega) (by decide) (by decide)
 clear q0_0_w2 q0_1_w2 q0_2_w2 q0_3_w2 B0_w2
 obtain ⟨q0_0_w3, q0_1_w3, q0_2_w3, q0_3_w3, _⟩ := Blk.four B0_w3
 clear xa0_w2 xa1_w2 xa2_w2 xa3_w2 xb0_w2 xb1_w2 xb2_w2 xb3_w2
 obtain ⟨xa0_w3, xa1_w3, xa2_w3, xa3_w3⟩ := low4 (PSt.low PSTw3.out) XA0.out XA1.out XA2.out XA3.out
 obtain ⟨xb0_w3, xb1_w3, xb2_w3, xb3_w3⟩ := low4 (PSt.low PSTw3.out) XB0.out XB1.out XB2.out XB3.out
 have hlt_g_w3 : g < w3.heap.size := block_lt_of_cell xa0_w3
 clear htw3
 go_wp2_with fail
 refine Calls.mono ((mark_em W0 p B [93]) _ _ _ (PSt.fresh PSTw3.out (frA (Touch.refl _ _))) FITw3.out.left) ?_
 rintro _ w4 ⟨rfl, htw4⟩
 have PSTw4 := hid (PSt.add2 (PSt.fresh PSTw3.out (frA (Touch.refl _ _))) htw4)
 have ACCw4 := hid (PrAdd.app ACCw3.out (PrAdd.freshL (show Fresh w3 _ from (frA (Touch.refl _ _))) htw4))
 have FITw4 := hid (Fits.right2 FITw3.out)
 have B0_w4 : Blk w4 (w.heap.size) 24 #[kd, tx, cl, .slice (some ⟨g, o, none⟩) 2 cap] := PrAdd.blk htw4 (by first | exact blkN | assumption | exact blkA (by assumption)) (by have := PSt.lt PST0.out; have := PSt.hB PST0.out; omega) (by decide) (by decide)
 clear q0_0_w3 q0_1_w3 q0_2_w3 q0_3_w3 B0_w3
 obtain ⟨q0_0_w4, q0_1_w4, q0_2_w4, q0_3_w4, _⟩ := Blk.four B0_w4
 clear xa0_w3 xa1_w3 xa2_w3 xa3_w3 xb0_w3 xb1_w3 xb2_w3 xb3_w3
 obtain ⟨xa0_w4, xa1_w4, xa2_w4, xa3_w4⟩ := low4 (PSt.low PSTw4.out) XA0.out XA1.out XA2.out XA3.out
 obtain ⟨xb0_w4, xb1_w4, xb2_w4, xb3_w4⟩ := low4 (PSt.low PSTw4.out) XB0.out XB1.out XB2.out XB3.out
 have hlt_g_w4 : g < w4.heap.size := block_lt_of_cell xa0_w4
 clear htw4
 go_wp2_with fail
 refine Calls.mono ((ARGb.out) _ _ _ (PSt.fresh PSTw4.out (frA (Touch.refl _ _))) FITw4.out) ?_
 rintro _ w5 ⟨rfl, htw5⟩
 have PSTw5 := hid (PSt.add2 (PSt.fresh PSTw4.out (frA (Touch.refl _ _))) htw5)
 have ACCw5 := hid (PrAdd.app ACCw4.out (PrAdd.freshL (show Fresh w4 _ from (frA (Touch.refl _ _))) htw5))
 have B0_w5 : Blk w5 (w.heap.size) 24 #[kd, tx, cl, .slice (some ⟨g, o, none⟩) 2 cap] := PrAdd.blk htw5 (by first | exact blkN | assumption | exact blkA (by assumption)) (by have := PSt.lt PST0.out; have := PSt.hB PST0.out; omega) (by decide) (by decide)
 clear q0_0_w4 q0_1_w4 q0_2_w4 q0_3_w4 B0_w4
 obtain ⟨q0_0_w5, q0_1_w5, q0_2_w5, q0_3_w5, _⟩ := Blk.four B0_w5
 clear xa0_w4 xa1_w4 xa2_w4 xa3_w4 xb0_w4 xb1_w4 xb2_w4 xb3_w4
 obtain ⟨xa0_w5, xa1_w5, xa2_w5, xa3_w5⟩ := low4 (PSt.low PSTw5.out) XA0.out XA1.out XA2.out XA3.out
 obtain ⟨xb0_w5, xb1_w5, xb2_w5, xb3_w5⟩ := low4 (PSt.low PSTw5.out) XB0.out XB1.out XB2.out XB3.out
 have hlt_g_w5 : g < w5.heap.size := block_lt_of_cell xa0_w5
 clear htw5
 go_wp2_with fail
 first | go_end0 | refine bodyPost_ret (v := .tuple #[]) (results_none rfl _ _ _) rfl ?_
 exact ⟨rfl, PrAdd.cast ACCw5.out (by first | rfl | (simp only [List.append_assoc] <;> rfl))⟩
set_option maxRecDepth 100000 in
set_option maxHeartbeats 1000000 in
theorem root_bare (W0 : World) (p B : Nat) (kd tx cl : Value) (a b : Nd) (hk : a.kids = []) (hb : ArgE W0 p B b) (sl : Value) (hsl : RepL W0 [a, b] sl) : Emits 129 #[pp p, .agg #[kd, tx, cl, sl]] W0 p B ([Tr.name Tr.sRoot] ++ argT b) := by
 intro w toks txt hp hf
 obtain ⟨g, o, cap, sa, sb, rfl, a0, a1, a2, a3, hra, b0, b1, b2, b3, hrb⟩ := hsl.two
 obtain ⟨Aa, capa, rfl⟩ := hra.slice
 have ARGb := hid (hb sb hrb)
 have PST0 := hid hp
 have FIT0 := hid hf
 have hpos : a.kids.length = 0 := by rw [hk]; rfl
 have d1 : decide ((0 : Int) < (a.kids.length : Int)) = false := by simp only [decide_eq_false_iff_not]; omega
 have d1n : decide (0 < a.kids.length) = false := by simp only [decide_eq_false_iff_not]; omega
 have HPOS := hid hpos
 clear hpos
 clear hp hf hb hsl hra hrb hk
 have XA0 := hid a0
 have XA1 := hid a1
 have XA2 := hid a2
 have XA3 := hid a3
 have XB0 := hid b0
 have XB1 := hid b1
 have XB2 := hid b2
 have XB3 := hid b3
 clear a0 a1 a2 a3 b0 b1 b2 b3
 obtain ⟨xa0_w, xa1_w, xa2_w, xa3_w⟩ := low4 (PSt.low PST0.out) XA0.out XA1.out XA2.out XA3.out
 obtain ⟨xb0_w, xb1_w, xb2_w, xb3_w⟩ := low4 (PSt.low PST0.out) XB0.out XB1.out XB2.out XB3.out
 have hlt_g_w : g < w.heap.size := block_lt_of_cell xa0_w
 go_enter Tryz.func129, Tryz.ntmps129
 go_wp2_with fail
 refine Calls.mono ((add_em W0 p B 4 [114, 111, 111, 116]) _ _ _ (PSt.fresh PST0.out (frA (Touch.refl _ _))) FIT0.out.left) ?_
 rintro _ w1 ⟨rfl, htw1⟩
 have PSTw1 := hid (PSt.add (PSt.fresh PST0.out (frA (Touch.refl _ _))) htw1)
 have ACCw1 := hid (PrAdd.freshL (show Fresh w _ from (frA (Touch.refl _ _))) htw1)
 have FITw1 := hid (Fits.right FIT0.out)
 have B0_w1 : Blk w1 (w.heap.size) 24 #[kd, tx, cl, .slice (some ⟨g, o, none⟩) 2 cap] := PrAdd.blk htw1 (by first | exact blkN | assumption | exact blkA (by assumption)) (by have := PSt.lt PST0.out; have := PSt.hB PST0.out; omega) (by decide) (by decide)
 obtain ⟨q0_0_w1, q0_1_w1, q0_2_w1, q0_3_w1, _⟩ := Blk.four B0_w1
 clear xa0_w xa1_w xa2_w xa3_w xb0_w xb1_w xb2_w xb3_w
 obtain ⟨xa0_w1, xa1_w1, xa2_w1, xa3_w1⟩ := low4 (PSt.low PSTw1.out) XA0.out XA1.out XA2.out XA3.out
 obtain ⟨xb0_w1, xb1_w1, xb2_w1, xb3_w1⟩ := low4 (PSt.low PSTw1.out) XB0.out XB1.out XB2.out XB3.out
 have hlt_g_w1 : g < w1.heap.size := block_lt_of_cell xa0_w1
 clear htw1
 go_wp2_with fail
 refine Calls.mono ((ARGb.out) _ _ _ (PSt.fresh PSTw1.out (frA (Touch.refl _ _))) FITw1.out) ?_
 rintro _ w2 ⟨rfl, htw2⟩
 have PSTw2 := hid (PSt.add2 (PSt.fresh PSTw1.out (frA (Touch.refl _ _))) htw2)
 have ACCw2 := hid (PrAdd.app ACCw1.out (PrAdd.freshL (show Fresh w1 _ from (frA (Touch.refl _ _))) htw2))
 have B0_w2 : Blk w2 (w.heap.size) 24 #[kd, tx, cl, .slice (some ⟨g, o, none⟩) 2 cap] := PrAdd.blk htw2 (by first | exact blkN | assumption | exact blkA (by assumption)) (by have := PSt.lt PST0.out; have := PSt.hB PST0.out; omega) (by decide) (by decide)
 clear q0_0_w1 q0_1_w1 q0_2_w1 q0_3_w1 B0_w1
 obtain ⟨q0_0_w2, q0_1_w2, q0_2_w2, q0_3_w2, _⟩ := Blk.four B0_w2
 clear xa0_w1 xa1_w1 xa2_w1 xa3_w1 xb0_w1 xb1_w1 xb2_w1 xb3_w1
 obtain ⟨xa0_w2, xa1_w2, xa2_w2, xa3_w2⟩ := low4 (PSt.low PSTw2.out) XA0.out XA1.out XA2.out XA3.out
 obtain ⟨xb0_w2, xb1_w2, xb2_w2, xb3_w2⟩ := low4 (PSt.low PSTw2.out) XB0.out XB1.out XB2.out XB3.out
 have hlt_g_w2 : g < w2.heap.size := block_lt_of_cell xa0_w2
 clear htw2
 go_wp2_with fail
 first | go_end0 | refine bodyPost_ret (v := .tuple #[]) (results_none rfl _ _ _) rfl ?_
 exact ⟨rfl, PrAdd.cast ACCw2.out (by first | rfl | (simp only [List.append_assoc] <;> rfl))⟩
set_option maxRecDepth 100000 in
set_option maxHeartbeats 1000000 in
theorem accent_em (W0 : World) (p B : Nat) (kd cl : Value) (t : List UInt8) (a : Nd) (ha : ArgE W0 p B a) (sl : Value) (hsl : RepL W0 [a] sl) : Emits 131 #[pp p, .agg #[kd, .string ⟨t.toArray⟩, cl, sl]] W0 p B ([Tr.name t] ++ argT a) := by
 intro w toks txt hp hf
 obtain ⟨g, o, cap, sa, rfl, a0, a1, a2, a3, hra⟩ := hsl.one
 have ARGa := hid (ha sa hra)
 have PST0 := hid hp
 have FIT0 := hid hf
 clear hp hf ha hsl hra
 have XA0 := hid a0
 have XA1 := hid a1
 have XA2 := hid a2
 have XA3 := hid a3
 clear a0 a1 a2 a3
 obtain ⟨xa0_w, xa1_w, xa2_w, xa3_w⟩ := low4 (PSt.low PST0.out) XA0.out XA1.out XA2.out XA3.out
 have hlt_g_w : g < w.heap.size := block_lt_of_cell xa0_w
 go_enter Tryz.func131, Tryz.ntmps131
 go_wp2_with fail
 refine Calls.mono ((add_em W0 p B 4 t) _ _ _ (PSt.fresh PST0.out (frA (Touch.refl _ _))) FIT0.out.left) ?_
 rintro _ w1 ⟨rfl, htw1⟩
 have PSTw1 := hid (PSt.add (PSt.fresh PST0.out (frA (Touch.refl _ _))) htw1)
 have ACCw1 := hid (PrAdd.freshL (show Fresh w _ from (frA (Touch.refl _ _))) htw1)
 have FITw1 := hid (Fits.right FIT0.out)
 have B0_w1 : Blk w1 (w.heap.size) 24 #[kd, .string (⟨t.toArray⟩ : ByteArray), cl, .slice (some ⟨g, o, none⟩) 1 cap] := PrAdd.blk htw1 (by first | exact blkN | assumption | exact blkA (by assumption)) (by have := PSt.lt PST0.out; have := PSt.hB PST0.out; omega) (by decide) (by decide)
 obtain ⟨q0_0_w1, q0_1_w1, q0_2_w1, q0_3_w1, _⟩ := Blk.four B0_w1
 clear xa0_w xa1_w xa2_w xa3_w
 obtain ⟨xa0_w1, xa1_w1, xa2_w1, xa3_w1⟩ := low4 (PSt.low PSTw1.out) XA0.out XA1.out XA2.out XA3.out
 have hlt_g_w1 : g < w1.heap.size := block_lt_of_cell xa0_w1
 clear htw1
 go_wp2_with fail
 refine Calls.mono ((ARGa.out) _ _ _ (PSt.fresh PSTw1.out (frA (Touch.refl _ _))) FITw1.out) ?_
 rintro _ w2 ⟨rfl, htw2⟩
 have PSTw2 := hid (PSt.add2 (PSt.fresh PSTw1.out (frA (Touch.refl _ _))) htw2)
 have ACCw2 := hid (PrAdd.app ACCw1.out (PrAdd.freshL (show Fresh w1 _ from (frA (Touch.refl _ _))) htw2))
 have B0_w2 : Blk w2 (w.heap.size) 24 #[kd, .string (⟨t.toArray⟩ : ByteArray), cl, .slice (some ⟨g, o, none⟩) 1 cap] := PrAdd.blk htw2 (by first | exact blkN | assumption | exact blkA (by assumption)) (by have := PSt.lt PST0.out; have := PSt.hB PST0.out; omega) (by decide) (by decide)
 clear q0_0_w1 q0_1_w1 q0_2_w1 q0_3_w1 B0_w1
 obtain ⟨q0_0_w2, q0_1_w2, q0_2_w2, q0_3_w2, _⟩ := Blk.four B0_w2
 clear xa0_w1 xa1_w1 xa2_w1 xa3_w1
 obtain ⟨xa0_w2, xa1_w2, xa2_w2, xa3_w2⟩ := low4 (PSt.low PSTw2.out) XA0.out XA1.out XA2.out XA3.out
 have hlt_g_w2 : g < w2.heap.size := block_lt_of_cell xa0_w2
 clear htw2
 go_wp2_with fail
 first | go_end0 | refine bodyPost_ret (v := .tuple #[]) (results_none rfl _ _ _) rfl ?_
 exact ⟨rfl, PrAdd.cast ACCw2.out (by first | rfl | (simp only [List.append_assoc] <;> rfl))⟩
set_option maxRecDepth 100000 in
set_option maxHeartbeats 1000000 in
theorem scripted_any (n : Nd) (sl : Value) (w : World) : Calls Tryz.prog 170 #[nv n sl] w fun e w' => e = .returned (.bool (Tr.scripted n)) ∧ Fresh w w' := by
 cases k7 : (n.kind == 7) with
 | true =>
  go_enter Tryz.func170, Tryz.ntmps170
  go_wp2_with fail
  go_ret
  exact ⟨ret_bool' _ _ (by simp [Tr.scripted, k7]), (Touch.refl _ _).alloc _⟩
 | false =>
  cases k8 : (n.kind == 8) with
  | true =>
   go_enter Tryz.func170, Tryz.ntmps170
   go_wp2_with fail
   go_ret
   exact ⟨ret_bool' _ _ (by simp [Tr.scripted, k8]), (Touch.refl _ _).alloc _⟩
  | false =>
   go_enter Tryz.func170, Tryz.ntmps170
   go_wp2_with fail
   go_ret
   exact ⟨ret_bool' _ _ (by simp [Tr.scripted, k7, k8]), (Touch.refl _ _).alloc _⟩
end Go.Proofs.YtdacpbdamliafaaGreat
