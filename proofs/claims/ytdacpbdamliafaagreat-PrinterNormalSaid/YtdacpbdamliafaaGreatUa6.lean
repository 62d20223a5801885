/- Part 6 of 12 of a proof; its texts, joined: NdG, NdH, NdI, NdJ, PrU, SnC, TrS, NqA, RegC, NqB, RegE, NqC. No condition. -/
import Derived.Test.YtdacpbdamliafaaGreatUa5
import Derived.Test.YtdacpbdamliafaaGreatUa4
import Derived.Test.YtdacpbdamliafaaGreatUa2
import Derived.Test.YtdacpbdamliafaaGreatUa1
import Derived.Test.YtdacpbdamliafaaGreatUa3
import Derived.OrdersHeld

/- What checker.own reports. -/
namespace Go.Proofs.YtdacpbdamliafaaGreat
open Go.RowKit
def ownF (n : Tr.Nd) : Bool := decide (1 ≤ n.kind) && (decide (n.kind ≤ 12) && (Tr.textOK n.kind n.text && Tr.kidsOK n.kind n.cols n.kids.length))
theorem own_lo (n : Tr.Nd) (c g o : Nat) (w : World) (hk : n.kind < 1)
  (a0 : w.cell? ⟨g, o, none⟩ = some (.int .i64 n.kind)) :
  Calls Tryz.prog 120 #[.pointer (some ⟨c, 0, none⟩), .pointer (some ⟨g, o, none⟩)] w fun e w' => e = .returned (.bool false) ∧ Fresh w w' := by
 have e1 : decide (n.kind < (1 : Int)) = true := by simp only [decide_eq_true_eq]; omega
 have e2 : decide ((12 : Int) < n.kind) = false := by simp only [decide_eq_false_iff_not]; omega
 clear hk
 go_enter Tryz.func120, Tryz.ntmps120
 go_wp2_with fail
 go_quiet (fail)
 go_wp2_with fail
 go_ret
 exact ⟨rfl, (frA (Touch.refl _ _))⟩
theorem own_hi (n : Tr.Nd) (c g o : Nat) (w : World) (hk : 12 < n.kind)
  (a0 : w.cell? ⟨g, o, none⟩ = some (.int .i64 n.kind)) :
  Calls Tryz.prog 120 #[.pointer (some ⟨c, 0, none⟩), .pointer (some ⟨g, o, none⟩)] w fun e w' => e = .returned (.bool false) ∧ Fresh w w' := by
 have e1 : decide (n.kind < (1 : Int)) = false := by simp only [decide_eq_false_iff_not]; omega
 have e2 : decide ((12 : Int) < n.kind) = true := by simp only [decide_eq_true_eq]; omega
 clear hk
 go_enter Tryz.func120, Tryz.ntmps120
 go_wp2_with fail
 go_quiet (fail)
 go_wp2_with fail
 go_ret
 exact ⟨rfl, (frA (Touch.refl _ _))⟩
theorem dec_len (a b : Nat) : decide ((a : Int) ≤ (b : Int)) = decide (a ≤ b) := by rw [Bool.eq_iff_iff, decide_eq_true_iff, decide_eq_true_iff]; omega
theorem plain_text (t : List UInt8) : Tr.textOK ((4 : Nat) : Int) t = (t.all plainB && decide ((ByteArray.size ⟨t.toArray⟩ : Int) ≤ (200 : Int))) := by
 show (decide (t.length ≤ 200) && Tr.printable t) = _
 have : (ByteArray.size ⟨t.toArray⟩) = t.length := by show t.toArray.size = _; simp
 rw [this, show decide ((t.length : Int) ≤ (200 : Int)) = decide (t.length ≤ 200) from dec_len t.length 200, Bool.and_comm]
 rfl
theorem ownF_at (k : Nat) (n : Tr.Nd) (tx : Bool) (slots : Int) (hk : n.kind = k) (h1 : 1 ≤ k) (h2 : k ≤ 12) (ht : Tr.textOK n.kind n.text = tx)
  (hs : (k = 5 ∨ k = 6 ∨ k = 7 ∨ k = 8 → slots = 2) ∧ (k = 9 → slots = 3) ∧ (k = 10 ∨ k = 11 → slots = 1) ∧ (k = 2 ∨ k = 3 ∨ k = 4 → slots = 0)) : ownF n = (tx && ownRest k n.cols n.kids.length slots) := by
 unfold ownF
 rw [ht, hk]
 have e1 : decide ((1 : Int) ≤ (k : Int)) = true := by simp; omega
 have e2 : decide ((k : Int) ≤ 12) = true := by simp; omega
 rw [e1, e2, Bool.true_and, Bool.true_and]
 congr 1
 unfold Tr.kidsOK ownRest
 generalize n.kids.length = m
 generalize n.cols = c
 obtain ⟨s1, s2, s3, s4⟩ := hs
 by_cases k12 : k = 12
 ·subst k12
  rw [if_pos (show ((12 : Nat) : Int) = 12 from rfl), if_neg (show ¬ (((12 : Nat) : Int) == 1) = true by decide), if_pos (show (((12 : Nat) : Int) == 12) = true by decide)]
  have f1 : decide ((1 : Int) ≤ (m : Int)) = decide (1 ≤ m) := dec_len 1 m
  have f2 : decide ((m : Int) ≤ (256 : Int)) = decide (m ≤ 256) := dec_len m 256
  show (decide (1 ≤ c) && decide (c ≤ 16) && decide (1 ≤ m) && decide (m ≤ 256) && decide ((m : Int) % c = 0)) = (decide (1 ≤ c) && (decide (c ≤ 16) && (decide ((1 : Int) ≤ (m : Int)) && (decide ((m : Int) ≤ (256 : Int)) && ((m : Int) % c == 0)))))
  rw [f1, f2]
  simp only [Bool.and_assoc]
  rfl
 ·have k12' : ¬ (k : Int) = 12 := by omega
  have k12'' : ((k : Int) == 12) = false := by simpa using k12'
  rw [if_neg k12', k12'']
  by_cases hc : c = 0
  ·subst hc
   simp only [ne_eq, not_true_eq_false, if_false, Bool.false_eq_true]
   by_cases k1 : k = 1
   ·subst k1
    rw [if_pos (show ((1 : Nat) : Int) = 1 from rfl), if_pos (show (((1 : Nat) : Int) == 1) = true by decide)]
    exact (dec_len m 200).symm
   ·have k1' : ¬ (k : Int) = 1 := by omega
    have k1'' : ((k : Int) == 1) = false := by simpa using k1'
    rw [if_neg k1', k1'']
    simp only [Bool.false_eq_true, if_false, BEq.rfl, Bool.true_and]
    have dn : ∀ (j : Nat) (sl : Int), sl = j → decide (m = j) = ((m : Int) == sl) := by
     intro j sl h; subst h; rw [Bool.eq_iff_iff, decide_eq_true_iff, beq_iff_eq]; omega
    split
    ·exact dn 0 slots (s4 (by omega))
    ·split
     ·exact dn 2 slots (s1 (by omega))
     ·split
      ·exact dn 3 slots (s2 (by omega))
      ·split
       ·exact dn 1 slots (s3 (by omega))
       ·omega
  ·have hc' : (c == 0) = false := by simpa using hc
   rw [if_pos hc, hc']
   simp
set_option maxRecDepth 100000 in
set_option maxHeartbeats 1000000 in
theorem own_any (n : Tr.Nd) (A : Option Addr) (cap c g o : Nat) (m : Int) (w : World) (hc : Blk w c 138 (checkCells m)) (hm : n.text.length ≤ 9223372036854775807)
  (a0 : w.cell? ⟨g, o, none⟩ = some (.int .i64 n.kind)) (a1 : w.cell? ⟨g, o + 1, none⟩ = some (.string ⟨n.text.toArray⟩)) (a2 : w.cell? ⟨g, o + 2, none⟩ = some (.int .i64 n.cols)) (a3 : w.cell? ⟨g, o + 3, none⟩ = some (.slice A n.kids.length cap)) :
  Calls Tryz.prog 120 #[.pointer (some ⟨c, 0, none⟩), .pointer (some ⟨g, o, none⟩)] w fun e w' => e = .returned (.bool (ownF n)) ∧ Fresh w w' := by
 by_cases h1 : n.kind < 1
 ·have e : ownF n = false := by
   unfold ownF
   have : decide (1 ≤ n.kind) = false := by simp; omega
   rw [this]; rfl
  rw [e]
  exact own_lo n c g o w h1 a0
 by_cases h2 : 12 < n.kind
 ·have e : ownF n = false := by
   unfold ownF
   have : decide (n.kind ≤ 12) = false := by simp; omega
   rw [this, Bool.false_and, Bool.and_false]
  rw [e]
  exact own_hi n c g o w h2 a0
 obtain ⟨k, hk⟩ : ∃ k : Nat, n.kind = k := ⟨n.kind.toNat, by omega⟩
 have k1 : 1 ≤ k := by omega
 have k2 : k ≤ 12 := by omega
 rw [hk] at a0
 match k, k1, k2, hk, a0 with
 | 1, k1, k2, hk, a0 =>
  rw [ownF_at 1 n (n.text.isEmpty) 0 hk k1 k2 (by rw [hk]; rfl) (by decide)]
  exact own_gen n.text n.cols 0 1 n.kids.length 114 _ A cap c g o w k1 k2 (fun _ _ => by kernel_rfl) (fun w' => same_fresh (empty_any ⟨n.text.toArray⟩ w')) a0 a1 a2 a3 (hc.cell 4) (hc.cell 5)
 | 2, k1, k2, hk, a0 =>
  rw [ownF_at 2 n (Tr.symbol n.text) 0 hk k1 k2 (by rw [hk]; rfl) (by decide)]
  exact own_gen n.text n.cols 0 2 n.kids.length 115 _ A cap c g o w k1 k2 (fun _ _ => by kernel_rfl) (fun w' => same_fresh (symbol_any ⟨n.text.toArray⟩ w' (by show n.text.toArray.size ≤ _; simpa using hm))) a0 a1 a2 a3 (hc.cell 7) (hc.cell 8)
 | 3, k1, k2, hk, a0 =>
  rw [ownF_at 3 n (Tr.isNum n.text) 0 hk k1 k2 (by rw [hk]; rfl) (by decide)]
  exact own_gen n.text n.cols 0 3 n.kids.length 116 _ A cap c g o w k1 k2 (fun _ _ => by kernel_rfl) (fun w' => numText_any ⟨n.text.toArray⟩ w' (by show n.text.toArray.size ≤ _; simpa using hm)) a0 a1 a2 a3 (hc.cell 10) (hc.cell 11)
 | 4, k1, k2, hk, a0 =>
  rw [ownF_at 4 n ((n.text.all plainB && decide ((ByteArray.size ⟨n.text.toArray⟩ : Int) ≤ (200 : Int)))) 0 hk k1 k2 (by rw [hk]; exact plain_text n.text) (by decide)]
  exact own_gen n.text n.cols 0 4 n.kids.length 117 _ A cap c g o w k1 k2 (fun _ _ => by kernel_rfl) (fun w' => same_fresh (plain_any ⟨n.text.toArray⟩ w' (by show n.text.toArray.size ≤ _; simpa using hm))) a0 a1 a2 a3 (hc.cell 13) (hc.cell 14)
 | 5, k1, k2, hk, a0 =>
  rw [ownF_at 5 n (n.text.isEmpty) 2 hk k1 k2 (by rw [hk]; rfl) (by decide)]
  exact own_gen n.text n.cols 2 5 n.kids.length 114 _ A cap c g o w k1 k2 (fun _ _ => by kernel_rfl) (fun w' => same_fresh (empty_any ⟨n.text.toArray⟩ w')) a0 a1 a2 a3 (hc.cell 16) (hc.cell 17)
 | 6, k1, k2, hk, a0 =>
  rw [ownF_at 6 n (n.text.isEmpty) 2 hk k1 k2 (by rw [hk]; rfl) (by decide)]
  exact own_gen n.text n.cols 2 6 n.kids.length 114 _ A cap c g o w k1 k2 (fun _ _ => by kernel_rfl) (fun w' => same_fresh (empty_any ⟨n.text.toArray⟩ w')) a0 a1 a2 a3 (hc.cell 19) (hc.cell 20)
 | 7, k1, k2, hk, a0 =>
  rw [ownF_at 7 n (n.text.isEmpty) 2 hk k1 k2 (by rw [hk]; rfl) (by decide)]
  exact own_gen n.text n.cols 2 7 n.kids.length 114 _ A cap c g o w k1 k2 (fun _ _ => by kernel_rfl) (fun w' => same_fresh (empty_any ⟨n.text.toArray⟩ w')) a0 a1 a2 a3 (hc.cell 22) (hc.cell 23)
 | 8, k1, k2, hk, a0 =>
  rw [ownF_at 8 n (n.text.isEmpty) 2 hk k1 k2 (by rw [hk]; rfl) (by decide)]
  exact own_gen n.text n.cols 2 8 n.kids.length 114 _ A cap c g o w k1 k2 (fun _ _ => by kernel_rfl) (fun w' => same_fresh (empty_any ⟨n.text.toArray⟩ w')) a0 a1 a2 a3 (hc.cell 25) (hc.cell 26)
 | 9, k1, k2, hk, a0 =>
  rw [ownF_at 9 n (n.text.isEmpty) 3 hk k1 k2 (by rw [hk]; rfl) (by decide)]
  exact own_gen n.text n.cols 3 9 n.kids.length 114 _ A cap c g o w k1 k2 (fun _ _ => by kernel_rfl) (fun w' => same_fresh (empty_any ⟨n.text.toArray⟩ w')) a0 a1 a2 a3 (hc.cell 28) (hc.cell 29)
 | 10, k1, k2, hk, a0 =>
  rw [ownF_at 10 n (Tr.accents.contains n.text) 1 hk k1 k2 (by rw [hk]; rfl) (by decide)]
  exact own_gen n.text n.cols 1 10 n.kids.length 118 _ A cap c g o w k1 k2 (fun _ _ => by kernel_rfl) (fun w' => same_fresh (accent_any ⟨n.text.toArray⟩ w')) a0 a1 a2 a3 (hc.cell 31) (hc.cell 32)
 | 11, k1, k2, hk, a0 =>
  rw [ownF_at 11 n (Tr.fence n.text) 1 hk k1 k2 (by rw [hk]; rfl) (by decide)]
  exact own_gen n.text n.cols 1 11 n.kids.length 119 _ A cap c g o w k1 k2 (fun _ _ => by kernel_rfl) (fun w' => same_fresh (fence_any ⟨n.text.toArray⟩ w')) a0 a1 a2 a3 (hc.cell 34) (hc.cell 35)
 | 12, k1, k2, hk, a0 =>
  rw [ownF_at 12 n (n.text.isEmpty) 0 hk k1 k2 (by rw [hk]; rfl) (by decide)]
  exact own_gen n.text n.cols 0 12 n.kids.length 114 _ A cap c g o w k1 k2 (fun _ _ => by kernel_rfl) (fun w' => same_fresh (empty_any ⟨n.text.toArray⟩ w')) a0 a1 a2 a3 (hc.cell 37) (hc.cell 38)
end Go.Proofs.YtdacpbdamliafaaGreat

/- The walk of checker.node. -/
namespace Go.Proofs.YtdacpbdamliafaaGreat
open Go.RowKit
mutual
def chkN : Nat → Tr.Nd → Bool
 | d, .mk k t c ks => decide (d ≤ 24) && (ownF (.mk k t c ks) && chkL (k == 1) (d + 1) ks)
def chkL : Bool → Nat → List Tr.Nd → Bool
 | _, _, [] => true
 | r, d, n :: ns => (!((n.kind == 1) == r)) && (chkN d n && chkL r d ns)
end
theorem chkN_eq (d : Nat) (n : Tr.Nd) : chkN d n = (decide (d ≤ 24) && (ownF n && chkL (n.kind == 1) (d + 1) n.kids)) := by cases n; rw [chkN]; rfl
theorem chkL_take (r : Bool) (d : Nat) : ∀ (l : List Tr.Nd) (i : Nat) (h : i < l.length), chkL r d (l.take (i + 1)) = (chkL r d (l.take i) && ((!((l[i].kind == 1) == r)) && chkN d l[i]))
 | [], i, h => by simp at h
 | x :: l, 0, h => by simp [chkL]
 | x :: l, i + 1, h => by
  simp only [List.take_succ_cons, chkL, List.getElem_cons_succ]
  rw [chkL_take r d l i (by simpa using h)]
  simp only [Bool.and_assoc]
theorem chkL_no (r : Bool) (d : Nat) : ∀ (l : List Tr.Nd) (i : Nat) (h : i < l.length), ((!((l[i].kind == 1) == r)) && chkN d l[i]) = false → chkL r d l = false
 | [], i, h, _ => by simp at h
 | x :: l, 0, h, hn => by
  simp only [List.getElem_cons_zero] at hn
  rw [chkL, ← Bool.and_assoc, hn, Bool.false_and]
 | x :: l, i + 1, h, hn => by
  simp only [List.getElem_cons_succ] at hn
  rw [chkL, chkL_no r d l i (by simpa using h) hn, Bool.and_false, Bool.and_false]
def NodeEnd (c : Nat) (d m : Nat) (n : Tr.Nd) (w : World) (e : Ending) (w' : World) : Prop :=
 ∃ m' : Nat, e = .returned (.bool (chkN d n && decide (m + Tr.count n ≤ 1000))) ∧ Blk w' c 138 (checkCells m') ∧ Touch (· = c) w w' ∧ ((chkN d n && decide (m + Tr.count n ≤ 1000)) = true → m' = m + Tr.count n)
theorem check_put (m : Nat) : (checkCells (m : Int)).setIfInBounds 39 (.int .i64 ((m : Int) + 1)) = checkCells ((m + 1 : Nat) : Int) := by rfl
theorem check_39 (m : Int) : (checkCells m)[39]? = some (.int .i64 m) := by rfl
set_option maxRecDepth 100000 in
set_option maxHeartbeats 4000000 in
theorem node_any (W0 : World) (c : Nat) (hcW : W0.heap.size ≤ c) (k : Nat) : ∀ (n : Tr.Nd) (A : Option Addr) (g o cap d m : Nat) (dd : Int) (w : World), dd = d → Tr.count n ≤ k →
  W0.cell? ⟨g, o, none⟩ = some (.int .i64 n.kind) → W0.cell? ⟨g, o + 1, none⟩ = some (.string ⟨n.text.toArray⟩) → W0.cell? ⟨g, o + 2, none⟩ = some (.int .i64 n.cols) → W0.cell? ⟨g, o + 3, none⟩ = some (.slice A n.kids.length cap) →
  RepL W0 n.kids (.slice A n.kids.length cap) → n.text.length ≤ maxLen → Blk w c 138 (checkCells m) → Touch (· = c) W0 w → m ≤ 1000 → d ≤ 1000 →
  Calls Tryz.prog 85 #[.pointer (some ⟨c, 0, none⟩), .pointer (some ⟨g, o, none⟩), .int .i64 dd] w (NodeEnd c d m n w) := by
 induction k with
 | zero => intro n _ _ _ _ _ _ _ _ _ h; have := Tr.count_pos n; omega
 | succ k ih =>
  intro n A g o cap d m dd w hdd hcn a0 a1 a2 a3 hrep htx hb htw hm hd
  subst hdd
  have hgc : g < W0.heap.size := block_lt_of_cell a0
  have hne : g ≠ c := by omega
  have hlen := hrep.len
  unfold maxLen at htx hlen
  have hck := Tr.count_kids n
  have hnl := Tr.countL_len n.kids
  have HIH := hid ih
  have HREP := hid hrep
  have HCE := hid (chkN_eq d n)
  have HTW := hid htw
  have HB := hid hb
  have ht1 : Touch (· = c) w (w.setCell ⟨c, 39, none⟩ (.int .i64 ((m : Int) + 1))) := Touch.setCell (S := (· = c)) (Touch.refl _ w) (p := ⟨c, 39, none⟩) (.inl rfl) _
  have hb1 : Blk (w.setCell ⟨c, 39, none⟩ (.int .i64 ((m : Int) + 1))) c 138 (checkCells ((m + 1 : Nat) : Int)) := by
   rw [← check_put]; exact hb.put 39 _
  have q39 : w.cell? ⟨c, 39, none⟩ = some (.int .i64 (m : Int)) := (hb.cell 39).trans (check_39 m)
  have z39 : w.frozen? ⟨c, 39, none⟩ = false := hb.frozen 39
  have r39 : (w.setCell ⟨c, 39, none⟩ (.int .i64 ((m : Int) + 1))).cell? ⟨c, 39, none⟩ = some (.int .i64 ((m : Int) + 1)) := (hb1.cell 39).trans (check_39 _)
  have HT1 := hid ht1
  have HB1 := hid hb1
  clear ih hrep htw hb ht1 hb1
  by_cases hm1 : m = 1000
  ·have lim : decide ((1000 : Int) < (m : Int) + 1) = true := by simp only [decide_eq_true_eq]; omega
   have limp : (1000 : Int) < (m : Int) + 1 := by omega
   have HCH := hid (show (chkN d n && decide (m + Tr.count n ≤ 1000)) = false by
    have := Tr.count_pos n
    have e : decide (m + Tr.count n ≤ 1000) = false := by simp only [decide_eq_false_iff_not]; omega
    rw [e, Bool.and_false])
   clear hm1 HCE
   go_enter Tryz.func85, Tryz.ntmps85
   go_wp2_with fail
   go_ret
   exact ⟨m + 1, by rw [HCH.out]; rfl, HB1.out, HT1.out, fun h => by rw [HCH.out] at h; cases h⟩
  have lim : decide ((1000 : Int) < (m : Int) + 1) = false := by simp only [decide_eq_false_iff_not]; omega
  by_cases hd24 : 24 < d
  ·have dl : decide ((24 : Int) < (d : Int)) = true := by simp only [decide_eq_true_eq]; omega
   have dln : decide (24 < d) = true := by simp only [decide_eq_true_eq]; omega
   have hch : chkN d n = false := by
    rw [HCE.out]
    have : decide (d ≤ 24) = false := by simp only [decide_eq_false_iff_not]; omega
    rw [this]; rfl
   have HCH := hid (show (chkN d n && decide (m + Tr.count n ≤ 1000)) = false by rw [hch]; rfl)
   clear hch HCE
   go_enter Tryz.func85, Tryz.ntmps85
   go_wp2_with fail
   go_ret
   exact ⟨m + 1, by rw [HCH.out]; rfl, HB1.out, HT1.out, fun h => by rw [HCH.out] at h; cases h⟩
  ·have dl : decide ((24 : Int) < (d : Int)) = false := by simp only [decide_eq_false_iff_not]; omega
   have dln : decide (24 < d) = false := by simp only [decide_eq_false_iff_not]; omega
   have b0 := (HTW.out.trans HT1.out).cell a0 hne
   have b1 := (HTW.out.trans HT1.out).cell a1 hne
   have b2 := (HTW.out.trans HT1.out).cell a2 hne
   have b3 := (HTW.out.trans HT1.out).cell a3 hne
   have HOWN := hid (own_any n A cap c g o _ _ HB1.out htx b0 b1 b2 b3)
   have hd24' : decide (d ≤ 24) = true := by simp only [decide_eq_true_eq]; omega
   have HC2 := hid (show chkN d n = (ownF n && chkL (n.kind == 1) (d + 1) n.kids) by rw [HCE.out, hd24']; rfl)
   clear HCE hd24' b0 b1 b2 b3
   go_enter Tryz.func85, Tryz.ntmps85
   go_wp2_with fail
   refine HOWN.out.mono ?_
   rintro _ w2 ⟨rfl, hf2⟩
   have hb2 := hf2.blk HB1.out (fun h => h)
   have ht2 : Touch (· = c) w w2 := HT1.out.trans (hf2.mono (fun _ h => h.elim))
   have HB2 := hid hb2
   have HT2 := hid ht2
   have b0 := (HTW.out.trans ht2).cell a0 hne
   have b3 := (HTW.out.trans ht2).cell a3 hne
   clear hf2 hb2 ht2 r39 q39 z39
   cases how : ownF n with
   | false =>
    have HCH := hid (show (chkN d n && decide (m + Tr.count n ≤ 1000)) = false by rw [HC2.out, how]; rfl)
    go_wp2_with fail
    go_ret
    exact ⟨m + 1, by rw [HCH.out]; rfl, HB2.out, HT2.out, fun h => by rw [HCH.out] at h; cases h⟩
   | true =>
    have HC3 := hid (show chkN d n = chkL (n.kind == 1) (d + 1) n.kids by rw [HC2.out, how]; rfl)
    clear HC2 how
    go_wp2_with fail
    go_loopw [35] (fun i wr => ∃ (j m' : Nat), i = .int .i64 j ∧ j ≤ n.kids.length ∧ Hid (Blk wr c 138 (checkCells m')) ∧ Hid (Touch (· = c) w wr) ∧ Hid (m' = m + 1 + Tr.countL (n.kids.take j) ∧ m' ≤ 1000) ∧ Hid (chkL (n.kind == 1) (d + 1) (n.kids.take j) = true)) (fun i _ => n.kids.length - (intOf i).toNat)
    case atStart => exact ⟨0, m + 1, rfl, Nat.zero_le _, HB2.out, HT2.out, ⟨by simp [Tr.countL], by omega⟩, by simp [chkL, Hid]⟩
    case round =>
     obtain ⟨j, m', rfl, hj, HB3, HT3, HM, HL⟩ := hrel
     by_cases c1 : j < n.kids.length
     ·have d1 : decide ((j : Int) < (n.kids.length : Int)) = true := by simp only [decide_eq_true_eq]; omega
      have d1n : decide (j < n.kids.length) = true := by simp only [decide_eq_true_eq]; omega
      have d1' : (j : Int) < (n.kids.length : Int) := by omega
      obtain ⟨g', o', sl, rfl, hg', n0, n1, n2, n3, hrk⟩ := HREP.out.get j c1
      have htx' := HREP.out.texts j c1
      obtain ⟨A', cap', rfl⟩ := hrk.slice
      have hne' : g' ≠ c := by omega
      have e0 := (HTW.out.trans HT3.out).cell a0 hne
      have e3 := (HTW.out.trans HT3.out).cell a3 hne
      have x0 := (HTW.out.trans HT3.out).cell n0 hne'
      have hcm := Tr.count_mem (List.getElem_mem (l := n.kids) (n := j) c1)
      have hct := Tr.countL_take n.kids j c1
      have hcl := Tr.countL_le n.kids (j + 1)
      have hcj := Tr.countL_le n.kids j
      have HS := hid (chkL_take (n.kind == 1) (d + 1) n.kids j c1)
      have HN := hid (chkL_no (n.kind == 1) (d + 1) n.kids j c1)
      have HM0 := HM.out.1
      have HM1 := HM.out.2
      have HX := hid (fun (w' : World) (hb' : Blk w' c 138 (checkCells m')) (ht' : Touch (· = c) W0 w') => HIH.out n.kids[j] A' g' (o' + j * 4) cap' (d + 1) m' ((d : Int) + 1) w' (by omega) (by omega) n0 n1 n2 n3 hrk htx' hb' ht' (by omega) (by omega))
      have HCT := hid hct
      clear n0 n1 n2 n3 hrk HIH HREP hct
      generalize n.kids[j] = x at *
      cases p1 : (n.kind == 1) with
      | false =>
       rw [p1] at HS HN
       cases p2 : (x.kind == 1) with
       | false =>
        have HCH := hid (show (chkN d n && decide (m + Tr.count n ≤ 1000)) = false by rw [HC3.out, p1, HN.out (by rw [p2]; rfl)]; rfl)
        go_wp2_with fail
        go_quiet (fail)
        go_wp2_with fail
        go_ret
        exact ⟨m', by rw [HCH.out]; rfl, HB3.out, HT3.out.drewN _, fun h => by rw [HCH.out] at h; cases h⟩
       | true =>
        go_wp2_with fail
        refine wp_region_segs [([0,1,2,3,4,5,6,7,8,9,10,11,12,13,14,15,16,17,18,19,20,21,22,23,24],25)] [26,27] (by kernel_rfl) (by kernel_rfl) ?_
        simp only [wpSegs, pick, List.getElem?_cons_zero, List.getElem?_cons_succ]
        repeat (quiet_step (fail))
        refine wpQuiet_nil ?_
        rintro _ ⟨nq, rfl⟩
        go_wp2_with fail
        refine (HX.out _ (HB3.out.drewN nq) ((HTW.out.trans HT3.out).drewN nq)).mono ?_
        rintro _ w5 ⟨m5, rfl, hb5, ht5, hm5'⟩
        have HB5 := hid hb5
        have HT5 := hid (HT3.out.trans (Touch.ofN ht5))
        clear hb5 ht5 e0 e3 x0
        cases hx : (chkN (d + 1) x && decide (m' + Tr.count x ≤ 1000)) with
        | false =>
         have HCH := hid (show (chkN d n && decide (m + Tr.count n ≤ 1000)) = false by
          rcases Bool.and_eq_false_iff.1 hx with hx1 | hx1
          ·rw [HC3.out, p1, HN.out (by rw [hx1, Bool.and_false]), Bool.false_and]
          ·rw [decide_eq_false_iff_not] at hx1
           have := HCT.out
           have e : decide (m + Tr.count n ≤ 1000) = false := by simp only [decide_eq_false_iff_not]; omega
           rw [e, Bool.and_false])
         rw [hx] at hm5'
         go_wp2_with fail
         repeat (quiet_step (fail))
         refine wpQuiet_nil ?_
         rintro _ ⟨nq2, rfl⟩
         go_wp2_with fail
         go_ret
         exact ⟨m5, by rw [HCH.out]; rfl, HB5.out.drewN _, HT5.out.drewN _, fun h => by rw [HCH.out] at h; cases h⟩
        | true =>
         rw [hx] at hm5'
         have hm6 := hm5' rfl
         clear hm5'
         obtain ⟨hx1, hx2⟩ := Bool.and_eq_true_iff.1 hx
         rw [decide_eq_true_eq] at hx2
         have HL5 := hid (show chkL false (d + 1) (n.kids.take (j + 1)) = true by
          have hl := HL.out
          rw [p1] at hl
          rw [HS.out, hl, p2, hx1]; rfl)
         go_wp2_with fail
         repeat (quiet_step (fail))
         refine wpQuiet_nil ?_
         rintro _ ⟨nq2, rfl⟩
         go_wp2_with fail
         go_roundw
         case rel => exact ⟨j + 1, m5, by go_num, by omega, HB5.out.drewN _, HT5.out.drewN _, ⟨by rw [HCT.out]; omega, by omega⟩, HL5⟩
         case measure => simp [intOf]; omega
      | true =>
       rw [p1] at HS HN
       cases p2 : (x.kind == 1) with
       | false =>
        go_wp2_with fail
        refine wp_region_segs [([0,1,2,3,4,5,6,7,8,9,10,11,12,13,14,15,16,17,18,19,20,21,22,23,24],25)] [26,27] (by kernel_rfl) (by kernel_rfl) ?_
        simp only [wpSegs, pick, List.getElem?_cons_zero, List.getElem?_cons_succ]
        repeat (quiet_step (fail))
        refine wpQuiet_nil ?_
        rintro _ ⟨nq, rfl⟩
        go_wp2_with fail
        refine (HX.out _ (HB3.out.drewN nq) ((HTW.out.trans HT3.out).drewN nq)).mono ?_
        rintro _ w5 ⟨m5, rfl, hb5, ht5, hm5'⟩
        have HB5 := hid hb5
        have HT5 := hid (HT3.out.trans (Touch.ofN ht5))
        clear hb5 ht5 e0 e3 x0
        cases hx : (chkN (d + 1) x && decide (m' + Tr.count x ≤ 1000)) with
        | false =>
         have HCH := hid (show (chkN d n && decide (m + Tr.count n ≤ 1000)) = false by
          rcases Bool.and_eq_false_iff.1 hx with hx1 | hx1
          ·rw [HC3.out, p1, HN.out (by rw [hx1, Bool.and_false]), Bool.false_and]
          ·rw [decide_eq_false_iff_not] at hx1
           have := HCT.out
           have e : decide (m + Tr.count n ≤ 1000) = false := by simp only [decide_eq_false_iff_not]; omega
           rw [e, Bool.and_false])
         rw [hx] at hm5'
         go_wp2_with fail
         repeat (quiet_step (fail))
         refine wpQuiet_nil ?_
         rintro _ ⟨nq2, rfl⟩
         go_wp2_with fail
         go_ret
         exact ⟨m5, by rw [HCH.out]; rfl, HB5.out.drewN _, HT5.out.drewN _, fun h => by rw [HCH.out] at h; cases h⟩
        | true =>
         rw [hx] at hm5'
         have hm6 := hm5' rfl
         clear hm5'
         obtain ⟨hx1, hx2⟩ := Bool.and_eq_true_iff.1 hx
         rw [decide_eq_true_eq] at hx2
         have HL5 := hid (show chkL true (d + 1) (n.kids.take (j + 1)) = true by
          have hl := HL.out
          rw [p1] at hl
          rw [HS.out, hl, p2, hx1]; rfl)
         go_wp2_with fail
         repeat (quiet_step (fail))
         refine wpQuiet_nil ?_
         rintro _ ⟨nq2, rfl⟩
         go_wp2_with fail
         go_roundw
         case rel => exact ⟨j + 1, m5, by go_num, by omega, HB5.out.drewN _, HT5.out.drewN _, ⟨by rw [HCT.out]; omega, by omega⟩, HL5⟩
         case measure => simp [intOf]; omega
       | true =>
        have HCH := hid (show (chkN d n && decide (m + Tr.count n ≤ 1000)) = false by rw [HC3.out, p1, HN.out (by rw [p2]; rfl)]; rfl)
        go_wp2_with fail
        go_quiet (fail)
        go_wp2_with fail
        go_ret
        exact ⟨m', by rw [HCH.out]; rfl, HB3.out, HT3.out.drewN _, fun h => by rw [HCH.out] at h; cases h⟩
     ·have d1 : decide ((j : Int) < (n.kids.length : Int)) = false := by simp only [decide_eq_false_iff_not]; omega
      have d1n : decide (j < n.kids.length) = false := by simp only [decide_eq_false_iff_not]; omega
      obtain rfl : j = n.kids.length := by omega
      have hl := HL.out
      rw [List.take_length] at hl
      obtain ⟨hmm, hmx⟩ := HM.out
      rw [List.take_length] at hmm
      have HCH := hid (show (chkN d n && decide (m + Tr.count n ≤ 1000)) = true by
       have e : decide (m + Tr.count n ≤ 1000) = true := by simp only [decide_eq_true_eq]; omega
       rw [HC3.out, hl, e]; rfl)
      clear hl
      go_wp2_with fail
      go_ret
      exact ⟨m', by rw [HCH.out]; rfl, HB3.out, HT3.out, fun _ => by omega⟩
end Go.Proofs.YtdacpbdamliafaaGreat

/- The walk of node.Valid. -/
namespace Go.Proofs.YtdacpbdamliafaaGreat
open Go.RowKit
attribute [local go_sem] Oper.semAt_some
theorem built_check : Tryz.prog.built 138 [(0, .agg kindCells)] = some (checkCells 0) := by kernel_rfl
set_option maxRecDepth 100000 in
set_option maxHeartbeats 1000000 in
theorem valid_any (n : Tr.Nd) (sl : Value) (w : World) (hr : RepL w n.kids sl) (ht : n.text.length ≤ maxLen) :
  Calls Tryz.prog 56 #[.agg #[.int .i64 n.kind, .string ⟨n.text.toArray⟩, .int .i64 n.cols, sl]] w fun e w' => e = .returned (.bool ((n.kind == 1) && (chkN 1 n && decide (Tr.count n ≤ 1000)))) ∧ Fresh w w' := by
 obtain ⟨A, cap, rfl⟩ := hr.slice
 have HR := hid hr
 clear hr
 go_enter Tryz.func56, Tryz.ntmps56
 go_wp2_with fail
 refine (kinds_any _).mono ?_
 rintro _ w1 ⟨rfl, hf1⟩
 have hf1' : Fresh w w1 := hf1.pre
 have hb1 := hf1.blk (Blk.new w 24 #[.int .i64 n.kind, .string ⟨n.text.toArray⟩, .int .i64 n.cols, .slice A n.kids.length cap]) (fun h => h)
 obtain ⟨q0, q1, q2, q3, _, _, _, _, hg⟩ := Blk.four hb1
 have HN := hid (node_any w1 w1.heap.size (Nat.le_refl _) _ n A w.heap.size 0 cap 1 0 1 (w1.alloc (.cells (checkCells 0) 138)) rfl (Nat.le_refl _) q0 q1 q2 q3 (HR.out.fresh hf1') ht (Blk.new _ _ _) ((Touch.refl _ _).alloc _) (by omega) (by decide))
 have HF1 := hid hf1'
 have hb2 := hb1.alloc (.cells (checkCells 0) 138)
 obtain ⟨r0, r1, r2, r3, _, _, _, _, hg2⟩ := Blk.four hb2
 clear hf1 hf1' hb1 hb2
 cases hk : (n.kind == 1) with
 | false =>
  go_wp2_with (refine wpList_build_kind [(0, .agg kindCells)] built_check _ rfl rfl rfl (.agg (checkCells 0)) rfl ?_)
  go_ret
  exact ⟨ret_bool' _ _ (by rw [hk]; rfl), HF1.out.alloc _⟩
 | true =>
  go_wp2_with (refine wpList_build_kind [(0, .agg kindCells)] built_check _ rfl rfl rfl (.agg (checkCells 0)) rfl ?_)
  refine HN.out.mono ?_
  rintro _ w2 ⟨m', rfl, hb3, ht3, _⟩
  rw [Nat.zero_add]
  have hf2 : Fresh w w2 := HF1.out.trans' (Touch.pre ht3) (fun i hi => by right; have := HF1.out.size; omega)
  have HF2 := hid hf2
  clear hf2 hb3 ht3 q0 q1 q2 q3 r0 r1 r2 r3
  go_wp2_with fail
  go_ret
  exact ⟨ret_bool' _ _ (by rw [hk]; rfl), HF2.out⟩
end Go.Proofs.YtdacpbdamliafaaGreat

/- What node.Valid reports is validity. -/
namespace Go.Proofs.YtdacpbdamliafaaGreat
open Go.RowKit
theorem ownF_form (n : Tr.Nd) : ownF n = (Tr.textOK n.kind n.text && Tr.kidsOK n.kind n.cols n.kids.length) := by
 unfold ownF
 by_cases h1 : 1 ≤ n.kind
 ·by_cases h2 : n.kind ≤ 12
  ·simp [h1, h2]
  ·have : Tr.kidsOK n.kind n.cols n.kids.length = false := by
    unfold Tr.kidsOK
    rw [if_neg (by omega)]
    split
    ·rfl
    ·rw [if_neg (by omega), if_neg (by omega), if_neg (by omega), if_neg (by omega), if_neg (by omega)]
   simp [this]
 ·have : Tr.kidsOK n.kind n.cols n.kids.length = false := by
   unfold Tr.kidsOK
   rw [if_neg (by omega)]
   split
   ·rfl
   ·rw [if_neg (by omega), if_neg (by omega), if_neg (by omega), if_neg (by omega), if_neg (by omega)]
  simp [this]
theorem chk_form (n : Tr.Nd) : ∀ d, chkN d n = (Tr.form n && decide (d + Tr.depth n ≤ 25)) := by
 induction n using Tr.Nd.ind with
 | h n ih =>
  have hL : ∀ (r : Bool) (l : List Tr.Nd) (d : Nat), d ≤ 25 → (∀ x ∈ l, ∀ d, chkN d x = (Tr.form x && decide (d + Tr.depth x ≤ 25))) → chkL r d l = (Tr.formL r l && decide (d + Tr.depthL l ≤ 25)) := by
   intro r l
   induction l with
   | nil => intro d hd _; simp [chkL, Tr.formL, Tr.depthL, hd]
   | cons x l ihl =>
    intro d hd h
    rw [chkL, Tr.formL, Tr.depthL, h x (by simp) d, ihl d hd (fun y hy => h y (by simp [hy]))]
    have e : decide (d + max (Tr.depth x) (Tr.depthL l) ≤ 25) = (decide (d + Tr.depth x ≤ 25) && decide (d + Tr.depthL l ≤ 25)) := by
     rw [Bool.eq_iff_iff, Bool.and_eq_true, decide_eq_true_iff, decide_eq_true_iff, decide_eq_true_iff]; omega
    rw [e, bne]
    generalize (!((x.kind == 1) == r)) = a
    generalize Tr.form x = b
    generalize Tr.formL r l = c
    generalize decide (d + Tr.depth x ≤ 25) = p
    generalize decide (d + Tr.depthL l ≤ 25) = q
    cases a <;> cases b <;> cases c <;> cases p <;> cases q <;> rfl
  intro d
  rw [chkN_eq, ownF_form, Tr.form_eq, Tr.depth_kids]
  by_cases hd : d ≤ 24
  ·rw [hL _ _ (d + 1) (by omega) ih]
   have e : decide (d + 1 + Tr.depthL n.kids ≤ 25) = decide (d + (Tr.depthL n.kids + 1) ≤ 25) := by
    rw [Bool.eq_iff_iff, decide_eq_true_iff, decide_eq_true_iff]; omega
   rw [e]
   simp [hd, Bool.and_assoc]
  ·have e : decide (d + (Tr.depthL n.kids + 1) ≤ 25) = false := by simp only [decide_eq_false_iff_not]; omega
   rw [e]
   simp [hd]
theorem valid_is (n : Tr.Nd) : ((n.kind == 1) && (chkN 1 n && decide (Tr.count n ≤ 1000))) = Tr.valid n := by
 rw [chk_form]
 unfold Tr.valid
 have e2 : decide (1 + Tr.depth n ≤ 25) = decide (Tr.depth n ≤ 24) := by rw [Bool.eq_iff_iff, decide_eq_true_iff, decide_eq_true_iff]; omega
 rw [e2]
 cases (n.kind == 1) <;> cases Tr.form n <;> cases decide (Tr.depth n ≤ 24) <;> cases decide (Tr.count n ≤ 1000) <;> rfl
theorem valid_all (n : Tr.Nd) (sl : Value) (w : World) (hr : RepL w n.kids sl) (ht : n.text.length ≤ maxLen) :
  Calls Tryz.prog 56 #[.agg #[.int .i64 n.kind, .string ⟨n.text.toArray⟩, .int .i64 n.cols, sl]] w fun e w' => e = .returned (.bool (Tr.valid n)) ∧ Fresh w w' := by
 rw [← valid_is n]; exact valid_any n sl w hr ht
theorem valid_call (n : Tr.Nd) (sl : Value) (w : World) (hr : RepL w n.kids sl) (ht : n.text.length ≤ maxLen) (_hc : Tr.count n ≤ 1000) :
  Calls Tryz.prog 56 #[.agg #[.int .i64 n.kind, .string ⟨n.text.toArray⟩, .int .i64 n.cols, sl]] w fun e w' => e = .returned (.bool (Tr.valid n)) ∧ Fresh w w' := valid_all n sl w hr ht
end Go.Proofs.YtdacpbdamliafaaGreat

/- The methods of all kinds: the printer's row adds the tokens of a valid row; Print and Tokens. -/
namespace Go.Proofs.YtdacpbdamliafaaGreat
open Go.RowKit
open Tr (Nd argT baseT rowT itemT cellsT View IsRow)
attribute [local go_sem] Oper.semAt_some
theorem base_scripts_sub (W0 : World) (p B : Nat) (tx cl : Value) (a b : Nd) (ha : RowE W0 p B a) (hb : ArgE W0 p B b) (sl : Value) (hsl : RepL W0 [a, b] sl) : Emits 130 #[pp p, .agg #[.int .i64 7, tx, cl, sl]] W0 p B (baseT a ++ ([Tr.mk7 95] ++ argT b)) := by
 by_cases h1 : a.kids.length = 1
 ·obtain ⟨x, hx⟩ := List.length_eq_one_iff.1 h1
  cases hs : Tr.scripted x with
  | true => exact scripts_7_item W0 p B tx cl a b x hx hs (group_em W0 p B a ha) hb sl hsl
  | false => exact scripts_7_row W0 p B tx cl a b x hx hs ha hb sl hsl
 ·exact scripts_7_len W0 p B tx cl a b h1 (group_em W0 p B a ha) hb sl hsl
theorem base_scripts_sup (W0 : World) (p B : Nat) (tx cl : Value) (a b : Nd) (ha : RowE W0 p B a) (hb : ArgE W0 p B b) (sl : Value) (hsl : RepL W0 [a, b] sl) : Emits 130 #[pp p, .agg #[.int .i64 8, tx, cl, sl]] W0 p B (baseT a ++ ([Tr.mk7 94] ++ argT b)) := by
 by_cases h1 : a.kids.length = 1
 ·obtain ⟨x, hx⟩ := List.length_eq_one_iff.1 h1
  cases hs : Tr.scripted x with
  | true => exact scripts_8_item W0 p B tx cl a b x hx hs (group_em W0 p B a ha) hb sl hsl
  | false => exact scripts_8_row W0 p B tx cl a b x hx hs ha hb sl hsl
 ·exact scripts_8_len W0 p B tx cl a b h1 (group_em W0 p B a ha) hb sl hsl
theorem base_scripts_both (W0 : World) (p B : Nat) (tx cl : Value) (a b d : Nd) (ha : RowE W0 p B a) (hb : ArgE W0 p B b) (hd : ArgE W0 p B d) (sl : Value) (hsl : RepL W0 [a, b, d] sl) : Emits 130 #[pp p, .agg #[.int .i64 9, tx, cl, sl]] W0 p B (baseT a ++ ([Tr.mk7 95] ++ (argT b ++ ([Tr.mk7 94] ++ argT d)))) := by
 by_cases h1 : a.kids.length = 1
 ·obtain ⟨x, hx⟩ := List.length_eq_one_iff.1 h1
  cases hs : Tr.scripted x with
  | true => exact scripts_9_item W0 p B tx cl a b d x hx hs (group_em W0 p B a ha) hb hd sl hsl
  | false => exact scripts_9_row W0 p B tx cl a b d x hx hs ha hb hd sl hsl
 ·exact scripts_9_len W0 p B tx cl a b d h1 (group_em W0 p B a ha) hb hd sl hsl
theorem sym_tok (t : Tr.Bytes) : (if t.length = 1 then (⟨1, t⟩ : Lx.Tok) else ⟨4, t⟩) = ⟨if t.length = 1 then 1 else 4, t⟩ := by split <;> rfl
theorem item_em (W0 : World) (p B : Nat) (x : Nd) (v : View x) (hc : Tr.count x ≤ 1000000) (h : ∀ a ∈ x.kids, RowE W0 p B a) : ItemE W0 p B x := by
 have hA : ∀ a ∈ x.kids, ArgE W0 p B a := fun a ha => argument_em W0 p B a (h a ha)
 cases v with
 | sym t ht => exact ⟨_, fun _ => by kernel_rfl, fun _ _ => by kernel_rfl, fun sx hr => by rw [Tr.itemT_sym, sym_tok]; exact symbol_em W0 p B (.mk 2 t 0 []) sx⟩
 | num t ht => exact ⟨_, fun _ => by kernel_rfl, fun _ _ => by kernel_rfl, fun sx hr => by rw [Tr.itemT_num]; exact number_em W0 p B (.mk 3 t 0 []) sx⟩
 | text t ht => exact ⟨_, fun _ => by kernel_rfl, fun _ _ => by kernel_rfl, fun sx hr => by rw [Tr.itemT_text]; exact quoted_em W0 p B (.mk 4 t 0 []) sx⟩
 | frac a b ha hb => exact ⟨_, fun _ => by kernel_rfl, fun _ _ => by kernel_rfl, fun sx hr => by rw [Tr.itemT_frac]; exact fraction_em W0 p B _ _ _ a b (hA a (by simp [Nd.kids])) (hA b (by simp [Nd.kids])) sx hr⟩
 | root a b ha hb =>
  refine ⟨129, fun _ => by kernel_rfl, fun _ _ => by kernel_rfl, fun sx hr => ?_⟩
  rw [Tr.itemT_root]
  by_cases hk : a.kids = []
  ·rw [if_pos hk]; exact root_bare W0 p B _ _ _ a b hk (hA b (by simp [Nd.kids])) sx hr
  ·rw [if_neg hk, List.cons_append, List.append_assoc]; exact root_full W0 p B _ _ _ a b hk (h a (by simp [Nd.kids])) (hA b (by simp [Nd.kids])) sx hr
 | sub a b ha hb => exact ⟨_, fun _ => by kernel_rfl, fun _ _ => by kernel_rfl, fun sx hr => by rw [Tr.itemT_sub]; exact base_scripts_sub W0 p B _ _ a b (h a (by simp [Nd.kids])) (hA b (by simp [Nd.kids])) sx hr⟩
 | sup a b ha hb => exact ⟨_, fun _ => by kernel_rfl, fun _ _ => by kernel_rfl, fun sx hr => by rw [Tr.itemT_sup]; exact base_scripts_sup W0 p B _ _ a b (h a (by simp [Nd.kids])) (hA b (by simp [Nd.kids])) sx hr⟩
 | both a b d ha hb hd => exact ⟨_, fun _ => by kernel_rfl, fun _ _ => by kernel_rfl, fun sx hr => by rw [Tr.itemT_both]; exact base_scripts_both W0 p B _ _ a b d (h a (by simp [Nd.kids])) (hA b (by simp [Nd.kids])) (hA d (by simp [Nd.kids])) sx hr⟩
 | accent t a ht ha => exact ⟨_, fun _ => by kernel_rfl, fun _ _ => by kernel_rfl, fun sx hr => by rw [Tr.itemT_accent]; exact accent_em W0 p B _ _ t a (hA a (by simp [Nd.kids])) sx hr⟩
 | fence t a ht ha =>
  refine ⟨132, fun _ => by kernel_rfl, fun _ _ => by kernel_rfl, fun sx hr => ?_⟩
  rw [Tr.itemT_fence]
  by_cases h1 : t = [40, 41]
  ·subst h1
   rw [if_pos (.inl rfl)]
   exact fence_round W0 p B _ _ a (h a (by simp [Nd.kids])) sx hr
  ·by_cases h2 : t = [91, 93]
   ·subst h2
    rw [if_pos (.inr rfl)]
    exact fence_square W0 p B _ _ a (h a (by simp [Nd.kids])) sx hr
   ·rw [if_neg (fun h => h.elim h1 h2)]
    exact fence_other W0 p B _ _ t h1 h2 a (hA a (by simp [Nd.kids])) sx hr
 | matrix c ks hc1 hn hm hk =>
  refine ⟨133, fun _ => by kernel_rfl, fun _ _ => by kernel_rfl, fun sx hr => ?_⟩
  rw [Tr.itemT_matrix c ks (by rintro rfl; simp at hn)]
  have hle : c ≤ ks.length := by
   rcases Int.lt_or_le (ks.length : Int) c with h' | h'
   ·rw [Int.emod_eq_of_lt (by omega) h'] at hm
    omega
   ·exact h'
  have := Tr.countL_len ks
  rw [Tr.count] at hc
  exact matrix_em W0 p B _ _ c ks hc1 (by omega) (fun k hk' => h k (by simpa [Nd.kids] using hk')) sx hr
theorem rows_em (W0 : World) (p B : Nat) (m : Nat) : ∀ a : Nd, Tr.count a ≤ m → m ≤ 1000000 → IsRow a → RowE W0 p B a := by
 induction m with
 | zero => intro a h; have := Tr.count_pos a; omega
 | succ m ih =>
  intro a hc hm ha
  have h1 := Tr.count_kids a
  refine row_em W0 p B a fun x hx => ?_
  have h2 := Tr.count_mem hx
  have hv := ha.views x hx
  refine item_em W0 p B x hv (by omega) fun b hb => ?_
  have h3 := Tr.count_mem hb
  have h4 := Tr.count_kids x
  refine ih b (by omega) (by omega) ?_
  cases hv with
  | sym t h => simp [Nd.kids] at hb
  | num t h => simp [Nd.kids] at hb
  | text t h => simp [Nd.kids] at hb
  | frac a b ha hb' => simp only [Nd.kids, List.mem_cons, List.not_mem_nil, or_false] at hb; rcases hb with rfl | rfl <;> assumption
  | root a b ha hb' => simp only [Nd.kids, List.mem_cons, List.not_mem_nil, or_false] at hb; rcases hb with rfl | rfl <;> assumption
  | sub a b ha hb' => simp only [Nd.kids, List.mem_cons, List.not_mem_nil, or_false] at hb; rcases hb with rfl | rfl <;> assumption
  | sup a b ha hb' => simp only [Nd.kids, List.mem_cons, List.not_mem_nil, or_false] at hb; rcases hb with rfl | rfl <;> assumption
  | both a b d ha hb' hd => simp only [Nd.kids, List.mem_cons, List.not_mem_nil, or_false] at hb; rcases hb with rfl | rfl | rfl <;> assumption
  | accent t a h ha => simp only [Nd.kids, List.mem_cons, List.not_mem_nil, or_false] at hb; subst hb; assumption
  | fence t a h ha => simp only [Nd.kids, List.mem_cons, List.not_mem_nil, or_false] at hb; subst hb; assumption
  | matrix c ks hc1 hn hm hk => exact hk b hb
theorem ownsRow_low {w : World} {base base' e size n : Nat} {v : Value} {xs : List Value} (h : w.ownsRow base e size v n xs) (hb : base' ≤ base) : w.ownsRow base' e size v n xs := by
 refine ⟨h.1, h.2.imp id ?_⟩
 rintro ⟨g, cap, cur, h1, h2, h3⟩
 exact ⟨g, cap, cur, h1, Nat.le_trans hb h2, h3⟩
def prCells : Array Value := #[.slice none 0 0, .pointer none, .slice none 0 0]
theorem built_pr : Tryz.prog.built 103 [] = some prCells := by kernel_rfl
theorem Pr.new (w : World) : Pr (w.alloc (.cells prCells 103)) w.heap.size (w.heap.size + 1) (.slice none 0 0) (.slice none 0 0) prCells [] [] :=
 ⟨by omega, ⟨Blk.new _ _ _, .inl rfl, rfl, World.ownsRow_nil _ _ _ _, by simp [Value.ownBlock], fun _ => rfl⟩, rfl, rfl, World.ownsRow_nil _ _ _ _⟩
theorem PSt.new (w : World) : PSt w w.heap.size (w.heap.size + 1) (w.alloc (.cells prCells 103)) [] [] :=
 ⟨(Touch.refl _ _).alloc _, Nat.le_refl _, by simp, _, _, _, Pr.new w⟩
def printS (n : Nd) : List UInt8 := if Tr.valid n then Tr.wtext (rowT n.kids) else []
def printE (n : Nd) : Int := if Tr.valid n then 0 else 1
def printT (n : Nd) : List Lx.PTok := if Tr.valid n then Lx.placed 0 (Tr.sepd none (rowT n.kids)) else []
def TokensOf (n : Nd) (w : World) (e : Ending) (w' : World) : Prop := ∃ v, e = .returned (.tuple #[v, .int .i64 (printE n)]) ∧ w'.ownsRow w.heap.size 150 4 v (printT n).length ((printT n).flatMap ptokCellsP) ∧ Fresh w w'
set_option maxRecDepth 100000 in
set_option maxHeartbeats 1000000 in
theorem print_any (n : Nd) (sl : Value) (w : World) (hr : RepL w n.kids sl) (ht : n.text.length ≤ maxLen) (hc : Tr.count n ≤ 1000) :
  Calls Tryz.prog 33 #[nv n sl] w fun e w' => e = .returned (.tuple #[.string ⟨(printS n).toArray⟩, .int .i64 (printE n)]) ∧ Fresh w w' := by
 have HV := hid (fun (w : World) (hr : RepL w n.kids sl) => valid_call n sl w hr ht (by omega))
 have HR := hid hr
 have HC := hid hc
 clear hr hc
 cases hv : Tr.valid n with
 | false =>
  have HS := hid (show printS n = [] from by unfold printS; rw [hv]; rfl)
  have HE := hid (show printE n = 1 from by unfold printE; rw [hv]; rfl)
  rw [HS.out, HE.out]
  go_enter Tryz.func33, Tryz.ntmps33
  go_wp2_with fail
  refine (HV.out _ (HR.out.fresh ((Touch.refl _ _).alloc _))).mono ?_
  rintro _ w1 ⟨rfl, hf⟩
  have HF := hid (Touch.pre hf)
  clear hf
  go_wp2_with fail
  go_ret2
  exact ⟨rfl, HF.out⟩
 | true =>
  have HS := hid (show printS n = Tr.wtext (rowT n.kids) from by unfold printS; rw [hv]; rfl)
  have HE := hid (show printE n = 0 from by unfold printE; rw [hv]; rfl)
  have HROW := hid (Tr.valid_row n hv)
  rw [HS.out, HE.out]
  go_enter Tryz.func33, Tryz.ntmps33
  go_wp2_with fail
  refine (HV.out _ (HR.out.fresh ((Touch.refl _ _).alloc _))).mono ?_
  rintro _ w1 ⟨rfl, hf⟩
  have HF := hid (Touch.pre hf)
  have hb1 := hf.blk (Blk.new _ _ _) (fun h => h)
  have HB := hid hb1
  obtain ⟨q0, q1, q2, q3, _, _, _, _, hg⟩ := Blk.four hb1
  clear hf hb1
  have HEM := hid (rows_em w1 w1.heap.size (w1.heap.size + 1) _ n (Nat.le_refl _) (by have := HC.out; omega) HROW.out sl (HR.out.fresh HF.out) _ _ _ (PSt.new w1) (row_fits n HROW.out HC.out))
  go_wp2_with (refine wpList_build_kind [] built_pr _ rfl rfl rfl (.agg prCells) rfl ?_)
  refine HEM.out.mono ?_
  rintro _ w2 ⟨rfl, h2⟩
  obtain ⟨vt, vb, cs, hpr, htc⟩ := h2
  rw [adds_wtext] at hpr
  have HF2 := hid (show Fresh w w2 from HF.out.trans' ((((Touch.refl (fun k => w1.heap.size ≤ k) w1).alloc (.cells prCells 103))).trans (htc.mono (fun k hk => by rcases hk with rfl | ⟨h, _⟩ <;> omega))) (fun i hi => .inr (by have := HF.out.size; omega)))
  have HPR := hid hpr
  clear hpr htc q0 q1 q2 q3
  go_wp2_with fail
  refine (bstring_any HPR.out.bld).mono ?_
  rintro _ w3 ⟨rfl, h3⟩
  have HF3 := hid (show Fresh w w3 from HF2.out.trans' h3 (fun i hi => .inr (by have := (owns_type HPR.out.bld.own hi).1; have := HF.out.size; omega)))
  clear h3
  go_wp2_with fail
  go_ret2
  exact ⟨rfl, HF3.out⟩
set_option maxRecDepth 100000 in
set_option maxHeartbeats 1000000 in
theorem ptokens_any (n : Nd) (sl : Value) (w : World) (hr : RepL w n.kids sl) (ht : n.text.length ≤ maxLen) (hc : Tr.count n ≤ 1000) :
  Calls Tryz.prog 67 #[nv n sl] w (TokensOf n w) := by
 have HV := hid (fun (w : World) (hr : RepL w n.kids sl) => valid_call n sl w hr ht (by omega))
 have HR := hid hr
 have HC := hid hc
 clear hr hc
 cases hv : Tr.valid n with
 | false =>
  have HS := hid (show printT n = [] from by unfold printT; rw [hv]; rfl)
  have HE := hid (show printE n = 1 from by unfold printE; rw [hv]; rfl)
  go_enter Tryz.func67, Tryz.ntmps67
  go_wp2_with fail
  refine (HV.out _ (HR.out.fresh ((Touch.refl _ _).alloc _))).mono ?_
  rintro _ w1 ⟨rfl, hf⟩
  have HF := hid (Touch.pre hf)
  clear hf
  go_wp2_with fail
  go_ret2
  exact ⟨.slice none 0 0, by rw [HE.out]; rfl, by rw [HS.out]; exact World.ownsRow_nil _ _ _ _, HF.out⟩
 | true =>
  have HS := hid (show printT n = Lx.placed 0 (Tr.sepd none (rowT n.kids)) from by unfold printT; rw [hv]; rfl)
  have HE := hid (show printE n = 0 from by unfold printE; rw [hv]; rfl)
  have HROW := hid (Tr.valid_row n hv)
  go_enter Tryz.func67, Tryz.ntmps67
  go_wp2_with fail
  refine (HV.out _ (HR.out.fresh ((Touch.refl _ _).alloc _))).mono ?_
  rintro _ w1 ⟨rfl, hf⟩
  have HF := hid (Touch.pre hf)
  have hb1 := hf.blk (Blk.new _ _ _) (fun h => h)
  have HB := hid hb1
  obtain ⟨q0, q1, q2, q3, _, _, _, _, hg⟩ := Blk.four hb1
  clear hf hb1
  have HEM := hid (rows_em w1 w1.heap.size (w1.heap.size + 1) _ n (Nat.le_refl _) (by have := HC.out; omega) HROW.out sl (HR.out.fresh HF.out) _ _ _ (PSt.new w1) (row_fits n HROW.out HC.out))
  go_wp2_with (refine wpList_build_kind [] built_pr _ rfl rfl rfl (.agg prCells) rfl ?_)
  refine HEM.out.mono ?_
  rintro _ w2 ⟨rfl, h2⟩
  obtain ⟨vt, vb, cs, hpr, htc⟩ := h2
  rw [adds_wtext] at hpr
  have HF2 := hid (show Fresh w w2 from HF.out.trans' ((((Touch.refl (fun k => w1.heap.size ≤ k) w1).alloc (.cells prCells 103))).trans (htc.mono (fun k hk => by rcases hk with rfl | ⟨h, _⟩ <;> omega))) (fun i hi => .inr (by have := HF.out.size; omega)))
  have HPR := hid hpr
  have r0 : w2.cell? ⟨w1.heap.size, 0, none⟩ = some vt := (hpr.bld.blk.cell 0).trans hpr.tok
  clear hpr htc q0 q1 q2 q3
  go_wp2_with fail
  go_ret2
  exact ⟨vt, by rw [HE.out]; rfl, by
   rw [HS.out]
   exact ownsRow_low HPR.out.own (by have := HF.out.size; omega), HF2.out⟩
end Go.Proofs.YtdacpbdamliafaaGreat

/- The walk over a row that calls closures: words for its contracts. -/
namespace Go.Proofs.YtdacpbdamliafaaGreat
open Go.RowKit
open Tr (Nd Clo runRow runSegs rowT itemT segs)
abbrev up (p : List Nat) : List Int := p.map fun n : Nat => (n : Int)
structure Mv (g : Nat) (S S' : Nat → Prop) (w w' : World) : Prop where
 touch : Touch (fun b => S b ∨ b = g) w w'
 grow : ∀ b, S' b → S b ∨ w.heap.size ≤ b
theorem Mv.trans {g : Nat} {S S' S'' : Nat → Prop} {a b c : World} (h : Mv g S S' a b) (k : Mv g S' S'' b c) : Mv g S S'' a c :=
 ⟨h.touch.trans' k.touch fun i hi => by
   rcases hi with hi | rfl
   ·exact (h.grow i hi).imp .inl id
   ·exact .inl (.inr rfl),
  fun i hi => by
   rcases k.grow i hi with h1 | h1
   ·exact h.grow i h1
   ·exact .inr (Nat.le_trans h.touch.size h1)⟩
theorem Mv.fresh {g : Nat} {S : Nat → Prop} {a b : World} (h : Fresh a b) : Mv g S S a b := ⟨h.mono fun _ hf => hf.elim, fun _ h => .inl h⟩
theorem Mv.refl (g : Nat) (S : Nat → Prop) (a : World) : Mv g S S a a := Mv.fresh (Touch.refl _ _)
structure Mc (S S' : Nat → Prop) (w w' : World) : Prop where
 touch : Touch S w w'
 grow : ∀ b, S' b → S b ∨ w.heap.size ≤ b
theorem Mc.mv {g : Nat} {S S' : Nat → Prop} {w w' : World} (h : Mc S S' w w') : Mv g S S' w w' := ⟨h.touch.mono fun _ => .inl, h.grow⟩
theorem Mv.blk {g : Nat} {S S' : Nat → Prop} {w w' : World} (h : Mv g S S' w w') {k : Nat} {t : TypeId} {cs : Array Value} (hb : Blk w k t cs) (h1 : ¬ S k) (h2 : k ≠ g) : Blk w' k t cs ∧ ¬ S' k :=
 ⟨h.touch.blk hb (fun e => e.elim h1 h2), fun e => (h.grow k e).elim h1 fun hle => by have := hb.lt; omega⟩
def PathIn (g : Nat) (S : Nat → Prop) (w : World) (v : Value) (p : List Nat) : Prop :=
 ∃ A cap, v = .slice A p.length cap ∧ (p = [] ∨ ∃ b o, A = some ⟨b, o, none⟩ ∧ b < w.heap.size ∧ ¬ S b ∧ b ≠ g ∧ ∀ i (h : i < p.length), w.cell? ⟨b, o + i, none⟩ = some (.int .i64 (p[i] : Nat)))
theorem PathIn.ints {g : Nat} {S : Nat → Prop} {w : World} {v : Value} {p : List Nat} (h : PathIn g S w v p) : Ints w v (up p) := by
 obtain ⟨A, cap, rfl, h⟩ := h
 refine ⟨A, cap, by simp, ?_⟩
 rcases h with rfl | ⟨b, o, rfl, h1, _, _, h2⟩
 ·exact .inl rfl
 ·exact .inr ⟨b, o, rfl, h1, fun i hi => by rw [List.getElem_map]; exact h2 i (by simpa using hi)⟩
theorem PathIn.slice {g : Nat} {S : Nat → Prop} {w : World} {v : Value} {p : List Nat} (h : PathIn g S w v p) : ∃ A cap, v = .slice A p.length cap := by
 obtain ⟨A, cap, h, _⟩ := h
 exact ⟨A, cap, h⟩
theorem PathIn.mv {g : Nat} {S S' : Nat → Prop} {w w' : World} {v : Value} {p : List Nat} (h : PathIn g S w v p) (k : Mv g S S' w w') : PathIn g S' w' v p := by
 obtain ⟨A, cap, rfl, h⟩ := h
 refine ⟨A, cap, rfl, h.imp id ?_⟩
 rintro ⟨b, o, rfl, h1, h2, h3, h4⟩
 exact ⟨b, o, rfl, Nat.lt_of_lt_of_le h1 k.touch.size, fun e => (k.grow b e).elim h2 (by omega), h3, fun i hi => k.touch.cell (h4 i hi) (fun e => e.elim h2 h3)⟩
theorem PathIn.nil (g : Nat) (S : Nat → Prop) (w : World) : PathIn g S w (.slice none 0 0) [] := ⟨none, 0, rfl, .inl rfl⟩
theorem PathIn.new {g : Nat} {S : Nat → Prop} {w w' : World} {v : Value} {p : List Nat} (hS : ∀ b, S b → b < w.heap.size) (hg : g < w.heap.size) (h : w'.ownsRow w.heap.size 3 1 v (up p).length (intVs (up p))) : PathIn g S w' v p := by
 rcases h.2 with ⟨h1, h2⟩ | ⟨b, cap, cur, h1, hB, _⟩
 ·rw [List.length_map] at h2
  rw [List.length_eq_zero_iff.1 h2, h1]
  exact PathIn.nil _ _ _
 ·rw [List.length_map] at h1
  refine ⟨_, cap, h1, .inr ⟨b, 0, rfl, (h.lt b (by rw [h1]; rfl)).2, fun e => by have := hS b e; omega, by omega, fun i hi => ?_⟩⟩
  have := h.cells (g := b) (by rw [h1]; rfl) i (.int .i64 (p[i] : Nat)) (by simp [hi])
  rw [Addr.add_mid, Nat.zero_add] at this
  rw [Nat.zero_add]
  exact this
theorem path_cat {g : Nat} {S : Nat → Prop} {W : World} {A : Option Addr} {cap : Nat} {p : List Nat} (hp : PathIn g S W (.slice A p.length cap) p) (hS : ∀ b, S b → b < W.heap.size) (hg : g < W.heap.size) (hl : p.length ≤ 1000) (i n : Nat) :
  Calls Tryz.prog 98 #[.slice (some ⟨W.heap.size + 1, 0, none⟩) 2 2] (((W.drewN n).alloc (.cells #[.int .i64 (i : Int)] 3)).alloc (.cells #[.slice A p.length cap, .slice (some ⟨W.heap.size, 0, none⟩) 1 1] 25))
   fun e w' => ∃ A' cap', e = .returned (.slice A' (p.length + 1) cap') ∧ PathIn g S w' (.slice A' (p.length + 1) cap') (p ++ [i]) ∧ Fresh W w' := by
 have hb1 : Blk (((W.drewN n).alloc (.cells #[.int .i64 (i : Int)] 3)).alloc (.cells #[.slice A p.length cap, .slice (some ⟨W.heap.size, 0, none⟩) 1 1] 25)) W.heap.size 3 #[.int .i64 (i : Int)] := (Blk.new (W.drewN n) _ _).alloc _
 have hb2 : Blk (((W.drewN n).alloc (.cells #[.int .i64 (i : Int)] 3)).alloc (.cells #[.slice A p.length cap, .slice (some ⟨W.heap.size, 0, none⟩) 1 1] 25)) (W.heap.size + 1) 25 #[.slice A p.length cap, .slice (some ⟨W.heap.size, 0, none⟩) 1 1] := Blk.new2 (W.drewN n) _ _ _
 have hf : Fresh W (((W.drewN n).alloc (.cells #[.int .i64 (i : Int)] 3)).alloc (.cells #[.slice A p.length cap, .slice (some ⟨W.heap.size, 0, none⟩) 1 1] 25)) := (((Touch.refl _ W).drewN n).alloc _).alloc _
 generalize (((W.drewN n).alloc (.cells #[.int .i64 (i : Int)] 3)).alloc (.cells #[.slice A p.length cap, .slice (some ⟨W.heap.size, 0, none⟩) 1 1] 25)) = X at *
 refine (concat2 (up p) (up [i]) _ _ _ X (hp.ints.fresh hf) ⟨some ⟨W.heap.size, 0, none⟩, 1, rfl, .inr ⟨W.heap.size, 0, rfl, hb1.lt, fun j hj => ?_⟩⟩ (hb2.cell 0) (hb2.cell 1) (by simp) (by simp; omega)).mono ?_
 ·have : j = 0 := by simpa using hj
  subst this
  exact hb1.cell 0
 ·rintro _ w' ⟨v', rfl, ho, hf'⟩
  rw [← List.map_append] at ho
  have hP := PathIn.new (g := g) (S := S) (p := p ++ [i]) (fun b hb => Nat.lt_of_lt_of_le (hS b hb) hf.size) (Nat.lt_of_lt_of_le hg hf.size) ho
  obtain ⟨A', cap', rfl⟩ := hP.slice
  rw [List.length_append] at hP ⊢
  exact ⟨A', cap', rfl, hP, hf.trans hf'⟩
structure Wk (σ κ : Type) where
 W0 : World
 g : Nat
 tg : Nat
 tv : Value
 T : List Lx.PTok
 C : Clo σ κ
 fi : Nat
 ci : Array Value
 fo : Nat
 co : Array Value
 St : σ → (Nat → Prop) → World → Prop
 Dn : κ → (Nat → Prop) → World → Nat → Array Value → Prop
 Lim : σ → Prop
 Kp : κ → σ → Prop
variable {σ κ : Type}
structure Wk.Good (k : Wk σ κ) : Prop where
 len : k.T.length ≤ 100000
 place : ∀ t ∈ k.T, t.from_ ≤ 1000000 ∧ t.to_ ≤ 1000000
 far : k.W0.heap.size ≤ k.g
 lt : ∀ s S w b, k.St s S w → S b → k.W0.heap.size ≤ b ∧ b < w.heap.size ∧ b ≠ k.g ∧ b ≠ k.tg
 stmv : ∀ s S w w', k.St s S w → Touch (fun b => b = k.g) w w' → k.St s S w'
 dnmv : ∀ q S S' w w' d cd, k.Dn q S w d cd → Mv k.g S S' w w' → k.Dn q S' w' d cd
 off : ∀ s S w p v (pl : Nat), k.St s S w → PathIn k.g S w v p → p.length ≤ 1000 → pl ≤ 1000000 → k.Lim (k.C.off s p pl) → Calls Tryz.prog k.fo (#[v, .int .i64 (pl : Int)] ++ k.co) w fun e w' => e = .returned (.tuple #[]) ∧ ∃ S', k.St (k.C.off s p pl) S' w' ∧ Mc S S' w w'
 item : ∀ s S w p v (pl : Nat), k.St s S w → PathIn k.g S w v p → p.length ≤ 1000 → pl ≤ 1000000 → k.Lim (k.C.item s p pl) → Calls Tryz.prog k.fi (#[v, .int .i64 (pl : Int)] ++ k.ci) w fun e w' => ∃ d cd S', e = .returned (.func (.func d) #[] cd) ∧ k.St (k.C.item s p pl) S' w' ∧ Mc S S' w w' ∧ k.Dn (k.C.key s) S' w' d cd
 done : ∀ s S w q d cd (pl : Nat), k.St s S w → k.Dn q S w d cd → k.Kp q s → pl ≤ 1000000 → k.Lim (k.C.done s q pl) → Calls Tryz.prog d (#[.int .i64 (pl : Int)] ++ cd) w fun e w' => e = .returned (.tuple #[]) ∧ ∃ S', k.St (k.C.done s q pl) S' w' ∧ Mc S S' w w'
 kp0 : ∀ s p pl, k.Kp (k.C.key s) (k.C.item s p pl)
 kpo : ∀ q s p pl, k.Kp q s → k.Kp q (k.C.off s p pl)
 kpi : ∀ q s p pl, k.Kp q s → k.Kp q (k.C.item s p pl)
 kpd : ∀ q s q' pl, k.Kp q s → k.Kp q (k.C.done s q' pl)
 limo : ∀ s p pl, k.Lim (k.C.off s p pl) → k.Lim s
 limi : ∀ s p pl, k.Lim (k.C.item s p pl) → k.Lim s
 limd : ∀ s q pl, k.Lim (k.C.done s q pl) → k.Lim s
 callo : ∀ (a : Array Value) (w : World), (callFunc k.fo a).run Tryz.prog w = .ok (.enter k.fo a) w
 calli : ∀ (a : Array Value) (w : World), (callFunc k.fi a).run Tryz.prog w = .ok (.enter k.fi a) w
 calld : ∀ q S w d cd, k.Dn q S w d cd → ∀ (a : Array Value) (w : World), (callFunc d a).run Tryz.prog w = .ok (.enter d a) w
structure Wk.At (k : Wk σ κ) (S : Nat → Prop) (f : Nat) (s : σ) (w : World) : Prop where
 low : Low k.W0 w
 box : Blk w k.g 112 #[k.tv, .int .i64 (f : Int), .func (.func k.fi) #[] k.ci, .func (.func k.fo) #[] k.co]
 tok : ∃ A cap, k.tv = .slice A k.T.length cap ∧ ∀ i (h : i < k.T.length), A = some ⟨k.tg, 0, none⟩ ∧ k.tg < w.heap.size ∧ k.tg ≠ k.g ∧ w.cell? ⟨k.tg, i * 4 + 2, none⟩ = some (.int .i64 (k.T[i].from_ : Nat)) ∧ w.cell? ⟨k.tg, i * 4 + 3, none⟩ = some (.int .i64 (k.T[i].to_ : Nat))
 st : k.St s S w
theorem Wk.At.mc {k : Wk σ κ} (hk : k.Good) {S S' : Nat → Prop} {f : Nat} {s s' : σ} {w w' : World} (h : k.At S f s w) (m : Mc S S' w w') (hs : k.St s' S' w') : k.At S' f s' w' := by
 refine ⟨h.low.trans' m.touch fun i hi => .inl (hk.lt s S w i h.st hi).1, m.touch.blk h.box fun e => (hk.lt s S w _ h.st e).2.2.1 rfl, ?_, hs⟩
 obtain ⟨A, cap, h1, h2⟩ := h.tok
 refine ⟨A, cap, h1, fun i hi => ?_⟩
 obtain ⟨a, b, c, d, e⟩ := h2 i hi
 exact ⟨a, Nat.lt_of_lt_of_le b m.touch.size, c, m.touch.cell d fun e => (hk.lt s S w _ h.st e).2.2.2 rfl, m.touch.cell e fun e => (hk.lt s S w _ h.st e).2.2.2 rfl⟩
theorem Wk.At.fresh {k : Wk σ κ} (hk : k.Good) {S : Nat → Prop} {f : Nat} {s : σ} {w w' : World} (h : k.At S f s w) (hf : Fresh w w') : k.At S f s w' :=
 h.mc hk ⟨hf.mono fun _ hf => hf.elim, fun _ h => .inl h⟩ (hk.stmv s S w w' h.st (hf.mono fun _ hf => hf.elim))
theorem Wk.At.next {k : Wk σ κ} (hk : k.Good) {S : Nat → Prop} {f f' : Nat} {s : σ} {w : World} (h : k.At S f s w) (x : Int) (hx : x = (f' : Int)) : k.At S f' s (w.setCell ⟨k.g, 1, none⟩ (.int .i64 x)) ∧ Mv k.g S S w (w.setCell ⟨k.g, 1, none⟩ (.int .i64 x)) := by
 subst hx
 have ht : Touch (fun b => b = k.g) w (w.setCell ⟨k.g, 1, none⟩ (.int .i64 (f' : Int))) := (Touch.refl (fun b => b = k.g) w).setCell (p := ⟨k.g, 1, none⟩) (.inl rfl) _
 refine ⟨⟨h.low.trans' ht fun i hi => by subst hi; exact .inl hk.far, ?_, ?_, hk.stmv s S w _ h.st ht⟩, ⟨ht.mono fun _ => .inr, fun _ h => .inl h⟩⟩
 ·have := h.box.put 1 (.int .i64 (f' : Int))
  exact this
 ·obtain ⟨A, cap, h1, h2⟩ := h.tok
  refine ⟨A, cap, h1, fun i hi => ?_⟩
  obtain ⟨a, b, c, d, e⟩ := h2 i hi
  exact ⟨a, Nat.lt_of_lt_of_le b ht.size, c, ht.cell d c, ht.cell e c⟩
theorem Wk.At.glt {k : Wk σ κ} {S : Nat → Prop} {f : Nat} {s : σ} {w : World} (h : k.At S f s w) : k.g < w.heap.size := h.box.lt
theorem Wk.At.slt {k : Wk σ κ} (hk : k.Good) {S : Nat → Prop} {f : Nat} {s : σ} {w : World} (h : k.At S f s w) : ∀ b, S b → b < w.heap.size := fun b hb => (hk.lt s S w b h.st hb).2.1
theorem Wk.At.cells {k : Wk σ κ} {S : Nat → Prop} {f : Nat} {s : σ} {w : World} (h : k.At S f s w) :
  w.cell? ⟨k.g, 0, none⟩ = some k.tv ∧ w.cell? ⟨k.g, 1, none⟩ = some (.int .i64 (f : Int)) ∧ w.cell? ⟨k.g, 2, none⟩ = some (.func (.func k.fi) #[] k.ci) ∧ w.cell? ⟨k.g, 3, none⟩ = some (.func (.func k.fo) #[] k.co) ∧ w.frozen? ⟨k.g, 1, none⟩ = false :=
 ⟨h.box.cell 0, h.box.cell 1, h.box.cell 2, h.box.cell 3, h.box.frozen 1⟩
theorem Wk.Good.lim {k : Wk σ κ} (hk : k.Good) : (∀ ks p i f s, k.Lim (runRow k.C k.T ks p i f s) → k.Lim s) ∧ ∀ l p j f s, k.Lim (runSegs k.C k.T l p j f s) → k.Lim s := by
 refine Tr.rows_ind (P := fun ks => ∀ p i f s, k.Lim (runRow k.C k.T ks p i f s) → k.Lim s) (Q := fun l => ∀ p j f s, k.Lim (runSegs k.C k.T l p j f s) → k.Lim s) ?_ ?_ ?_ ?_
 ·intro p i f s h; rw [runRow] at h; exact hk.limo _ _ _ h
 ·intro n ns h1 h2 p i f s h
  rw [runRow] at h
  exact hk.limo _ _ _ (hk.limi _ _ _ (h1 _ _ _ _ (hk.limd _ _ _ (h2 _ _ _ _ h))))
 ·intro p j f s h; rw [runSegs] at h; exact h
 ·intro q b a r h1 h2 p j f s h
  rw [runSegs] at h
  exact h1 _ _ _ _ (h2 _ _ _ _ h)
theorem Wk.Good.kp {k : Wk σ κ} (hk : k.Good) (q : κ) : (∀ ks p i f s, k.Kp q s → k.Kp q (runRow k.C k.T ks p i f s)) ∧ ∀ l p j f s, k.Kp q s → k.Kp q (runSegs k.C k.T l p j f s) := by
 refine Tr.rows_ind (P := fun ks => ∀ p i f s, k.Kp q s → k.Kp q (runRow k.C k.T ks p i f s)) (Q := fun l => ∀ p j f s, k.Kp q s → k.Kp q (runSegs k.C k.T l p j f s)) ?_ ?_ ?_ ?_
 ·intro p i f s h; rw [runRow]; exact hk.kpo _ _ _ _ h
 ·intro n ns h1 h2 p i f s h
  rw [runRow]
  exact h2 _ _ _ _ (hk.kpd _ _ _ _ (h1 _ _ _ _ (hk.kpi _ _ _ _ (hk.kpo _ _ _ _ h))))
 ·intro p j f s h; rw [runSegs]; exact h
 ·intro q' b a r h1 h2 p j f s h
  rw [runSegs]
  exact h2 _ _ _ _ (h1 _ _ _ _ h)
def Wk.Ends (k : Wk σ κ) (S : Nat → Prop) (f : Nat) (s : σ) (w : World) (e : Ending) (w' : World) : Prop := e = .returned (.tuple #[]) ∧ ∃ S', k.At S' f s w' ∧ Mv k.g S S' w w'
def Wk.RowS (k : Wk σ κ) (a : Nd) : Prop := ∀ (S : Nat → Prop) (f : Nat) (s : σ) (w : World) (p : List Nat) (v sl kd tx cl : Value), k.At S f s w → RepL k.W0 a.kids sl → PathIn k.g S w v p → p.length + 2 * Tr.depth a ≤ 500 → f + (rowT a.kids).length ≤ k.T.length → k.Lim (runRow k.C k.T a.kids p 0 f s) →
 Calls Tryz.prog 68 #[.pointer (some ⟨k.g, 0, none⟩), .agg #[kd, tx, cl, sl], v] w (k.Ends S (f + (rowT a.kids).length) (runRow k.C k.T a.kids p 0 f s) w)
def Wk.TreeS (k : Wk σ κ) (n : Nd) : Prop := ∀ (S : Nat → Prop) (f : Nat) (s : σ) (w : World) (p : List Nat) (v sl : Value), k.At S f s w → RepL k.W0 n.kids sl → PathIn k.g S w v p → p.length + 2 * Tr.depth n ≤ 500 → f + (itemT n).length ≤ k.T.length → k.Lim (runSegs k.C k.T (segs n) p 0 f s) →
 Calls Tryz.prog 99 #[.pointer (some ⟨k.g, 0, none⟩), nv n sl, v] w (k.Ends S (f + (itemT n).length) (runSegs k.C k.T (segs n) p 0 f s) w)
end Go.Proofs.YtdacpbdamliafaaGreat

/- Slices of trees as rows of cells: their parts may be appended. -/
namespace Go.Proofs.YtdacpbdamliafaaGreat
open Go.RowKit
def NodesAt (W : World) : List Tr.Nd → List Value → Prop
 | [], cs => cs = []
 | k :: ks, cs => ∃ sl ds, cs = .int .i64 k.kind :: .string ⟨k.text.toArray⟩ :: .int .i64 k.cols :: sl :: ds ∧ RepL W k.kids sl ∧ k.text.length ≤ maxLen ∧ NodesAt W ks ds
theorem NodesAt.length {W : World} : ∀ {ks : List Tr.Nd} {cs : List Value}, NodesAt W ks cs → cs.length = ks.length * 4
 | [], cs, h => by rw [show cs = [] from h]; rfl
 | k :: ks, cs, ⟨sl, ds, h, _, _, hd⟩ => by
  have := NodesAt.length hd
  rw [h]
  simp only [List.length_cons]
  omega
theorem NodesAt.fresh {W W' : World} (hf : Fresh W W') : ∀ {ks : List Tr.Nd} {cs : List Value}, NodesAt W ks cs → NodesAt W' ks cs
 | [], _, h => h
 | _ :: _, _, ⟨sl, ds, h, hr, ht, hd⟩ => ⟨sl, ds, h, hr.fresh hf, ht, hd.fresh hf⟩
theorem NodesAt.append {W : World} : ∀ {ks ms : List Tr.Nd} {cs ds : List Value}, NodesAt W ks cs → NodesAt W ms ds → NodesAt W (ks ++ ms) (cs ++ ds)
 | [], _, cs, _, h, h' => by rw [show cs = [] from h]; exact h'
 | _ :: _, _, _, _, ⟨sl, es, h, hr, ht, hd⟩, h' => ⟨sl, es ++ _, by rw [h]; rfl, hr, ht, hd.append h'⟩
theorem RepL.oneCell {W : World} {ks : List Tr.Nd} {v : Value} (h : RepL W ks v) : v.oneCell' = true := by
 obtain ⟨A, cap, rfl⟩ := h.slice
 rfl
theorem NodesAt.oneCell {W : World} : ∀ {ks : List Tr.Nd} {cs : List Value}, NodesAt W ks cs → ∀ u ∈ cs, u.oneCell' = true
 | [], cs, h, u, hu => by rw [show cs = [] from h] at hu; cases hu
 | _ :: _, _, ⟨sl, ds, h, hr, _, hd⟩, u, hu => by
  rw [h] at hu
  rcases List.mem_cons.1 hu with rfl | hu
  ·rfl
  ·rcases List.mem_cons.1 hu with rfl | hu
   ·rfl
   ·rcases List.mem_cons.1 hu with rfl | hu
    ·rfl
    ·rcases List.mem_cons.1 hu with rfl | hu
     ·exact hr.oneCell
     ·exact hd.oneCell u hu
theorem nodes_of {W : World} {g : Nat} : ∀ (ks : List Tr.Nd) (o : Nat) (sl : Nat → Value), (∀ i (hi : i < ks.length), ks[i].text.length ≤ maxLen) → (∀ i (hi : i < ks.length), W.cell? ⟨g, o + i * 4, none⟩ = some (.int .i64 ks[i].kind)) →
  (∀ i (hi : i < ks.length), W.cell? ⟨g, o + i * 4 + 1, none⟩ = some (.string ⟨ks[i].text.toArray⟩)) → (∀ i (hi : i < ks.length), W.cell? ⟨g, o + i * 4 + 2, none⟩ = some (.int .i64 ks[i].cols)) → (∀ i, i < ks.length → W.cell? ⟨g, o + i * 4 + 3, none⟩ = some (sl i)) →
  (∀ i (hi : i < ks.length), RepL W ks[i].kids (sl i)) → ∃ cs, NodesAt W ks cs ∧ ∀ j u, cs[j]? = some u → W.cell? ⟨g, o + j, none⟩ = some u
 | [], o, sl, _, _, _, _, _, _ => ⟨[], rfl, fun j u hu => by simp at hu⟩
 | k :: ks, o, sl, ht, h0, h1, h2, h3, hk => by
  have e : ∀ i, o + (i + 1) * 4 = o + 4 + i * 4 := fun i => by omega
  obtain ⟨cs, hc, hx⟩ := nodes_of ks (o + 4) (fun i => sl (i + 1)) (fun i hi => ht (i + 1) (by simpa using hi)) (fun i hi => by rw [← e]; exact h0 (i + 1) (by simpa using hi)) (fun i hi => by rw [← e]; exact h1 (i + 1) (by simpa using hi))
   (fun i hi => by rw [← e]; exact h2 (i + 1) (by simpa using hi)) (fun i hi => by rw [← e]; exact h3 (i + 1) (by simpa using hi)) (fun i hi => hk (i + 1) (by simpa using hi))
  refine ⟨_, ⟨sl 0, cs, rfl, hk 0 (by simp), ht 0 (by simp), hc⟩, fun j u hu => ?_⟩
  match j, hu with
  | 0, hu => have := h0 0 (by simp); simp at hu this; rw [← hu]; exact this
  | 1, hu => have := h1 0 (by simp); simp at hu this; rw [← hu]; exact this
  | 2, hu => have := h2 0 (by simp); simp at hu this; rw [← hu]; exact this
  | 3, hu => have := h3 0 (by simp); simp at hu this; rw [← hu]; exact this
  | j + 4, hu =>
   have := hx j u (by simpa using hu)
   rw [show o + (j + 4) = o + 4 + j by omega]
   exact this
theorem RepL.cells {W : World} {ks : List Tr.Nd} {A : Option Addr} {n cap : Nat} (h : RepL W ks (.slice A n cap)) :
  n = ks.length ∧ ∃ cs, NodesAt W ks cs ∧ (ks = [] ∨ ∃ g o, A = some ⟨g, o, none⟩ ∧ g < W.heap.size ∧ ∀ j u, cs[j]? = some u → W.cell? ⟨g, o + j, none⟩ = some u) := by
 generalize hv : Value.slice A n cap = v at h
 cases h with
 | nil A' cap' => cases hv; exact ⟨rfl, [], rfl, .inl rfl⟩
 | row g o cap' _ sl hg hl ht h0 h1 h2 h3 hk =>
  cases hv
  obtain ⟨cs, h1', h2'⟩ := nodes_of ks o sl ht h0 h1 h2 h3 hk
  exact ⟨rfl, cs, h1', .inr ⟨g, o, rfl, hg, h2'⟩⟩
theorem NodesAt.get {W : World} : ∀ {ks : List Tr.Nd} {cs : List Value}, NodesAt W ks cs → ∀ i (hi : i < ks.length), ∃ sl, cs[i * 4]? = some (.int .i64 ks[i].kind) ∧ cs[i * 4 + 1]? = some (.string ⟨ks[i].text.toArray⟩) ∧ cs[i * 4 + 2]? = some (.int .i64 ks[i].cols) ∧ cs[i * 4 + 3]? = some sl ∧
  RepL W ks[i].kids sl ∧ ks[i].text.length ≤ maxLen
 | [], _, _, i, hi => by simp at hi
 | k :: ks, cs, ⟨sl, ds, h, hr, ht, hd⟩, i, hi => by
  subst h
  cases i with
  | zero => exact ⟨sl, rfl, rfl, rfl, rfl, hr, ht⟩
  | succ i =>
   obtain ⟨s, g0, g1, g2, g3, g4, g5⟩ := hd.get i (by simpa using hi)
   refine ⟨s, ?_, ?_, ?_, ?_, g4, g5⟩
   ·rw [show (i + 1) * 4 = i * 4 + 4 by omega]; exact g0
   ·rw [show (i + 1) * 4 + 1 = i * 4 + 1 + 4 by omega]; exact g1
   ·rw [show (i + 1) * 4 + 2 = i * 4 + 2 + 4 by omega]; exact g2
   ·rw [show (i + 1) * 4 + 3 = i * 4 + 3 + 4 by omega]; exact g3
theorem NodesAt.rep {W : World} {ks : List Tr.Nd} {cs : List Value} {g cap : Nat} (h : NodesAt W ks cs) (hg : g < W.heap.size) (hl : ks.length ≤ maxLen) (hc : ∀ j u, cs[j]? = some u → W.cell? ⟨g, j, none⟩ = some u) : RepL W ks (.slice (some ⟨g, 0, none⟩) ks.length cap) := by
 refine RepL.row g 0 cap ks (fun i => (cs[i * 4 + 3]?).getD (.bool false)) hg hl ?_ ?_ ?_ ?_ ?_ ?_
 all_goals (intro i hi; obtain ⟨sl, g0, g1, g2, g3, g4, g5⟩ := h.get i hi)
 ·exact g5
 ·rw [Nat.zero_add]; exact hc _ _ g0
 ·rw [Nat.zero_add]; exact hc _ _ g1
 ·rw [Nat.zero_add]; exact hc _ _ g2
 ·rw [Nat.zero_add, g3]; exact hc _ _ g3
 ·rw [g3]; exact g4
theorem NodesAt.own {W : World} {ks : List Tr.Nd} {cs : List Value} {B e : Nat} {v : Value} (h : NodesAt W ks cs) (ho : W.ownsRow B e 4 v ks.length cs) : RepL W ks v := by
 rcases ho.2 with ⟨rfl, h0⟩ | ⟨g, cap, cur, rfl, hB, hb, h1, h2, _⟩
 ·rw [List.length_eq_zero_iff.1 h0]
  exact .nil _ _
 ·exact h.rep (ho.lt g rfl).2 (Nat.le_trans h1 h2) fun j u hu => by
   have := ho.cells (g := g) rfl j u hu
   rw [Addr.add_mid, Nat.zero_add] at this
   exact this
end Go.Proofs.YtdacpbdamliafaaGreat

/- The parser of the notation in memory, and what its calls may turn. -/
namespace Go.Proofs.YtdacpbdamliafaaGreat
open Go.RowKit
open Tr (Nd)
open Lx (PTok)
def PT (g B : Nat) (w : World) (b : Nat) : Prop := b = g ∨ (B ≤ b ∧ ∃ cs fr, w.heap[b]? = some (.cells cs 3 fr))
abbrev Mp (g B : Nat) (w w' : World) : Prop := Touch (PT g B w) w w'
theorem Mp.trans {g B : Nat} {a b c : World} (h : Mp g B a b) (k : Mp g B b c) : Mp g B a c := by
 refine ⟨k.os.trans h.os, k.tape.trans h.tape, k.output.trans h.output, Nat.le_trans h.size k.size, fun i hi hn => ?_⟩
 have h1 := h.block i hi hn
 refine (k.block i (Nat.lt_of_lt_of_le hi h.size) fun hs => hn ?_).trans h1
 rcases hs with hs | ⟨h2, cs, fr, h3⟩
 ·exact .inl hs
 ·exact .inr ⟨h2, cs, fr, by rw [← h1]; exact h3⟩
theorem Mp.fresh {g B : Nat} {a b : World} (h : Fresh a b) : Mp g B a b := h.mono fun _ h => h.elim
theorem Mp.blk {g B : Nat} {a b : World} {k : Nat} {t : TypeId} {cs : Array Value} (h : Mp g B a b) (hb : Blk a k t cs) (hk : k ≠ g) (ht : t ≠ 3) : Blk b k t cs := by
 refine Touch.blk h hb ?_
 rintro (e | ⟨_, cur, fr, h3⟩)
 ·exact hk e
 ·unfold Blk at hb
  rw [hb] at h3
  cases h3
  exact ht rfl
theorem Mp.put {g B : Nat} (w : World) (i : Nat) (v : Value) : Mp g B w (w.setCell ⟨g, i, none⟩ v) := (Touch.refl _ _).setCell (.inl (.inl rfl)) v
theorem Mp.grown {g B : Nat} {a b c : World} {n : Nat} {v : Value} {xs : List Value} (h : Mp g B a b) (ho : b.ownsRow B 3 1 v n xs) (hg : b.grownBy c v.ownBlock) : Mp g B a c :=
 Mp.trans h (Touch.grown (S := PT g B b) (Touch.refl _ b) hg fun k hk => .inl (by
  obtain ⟨h1, cur, h2⟩ := owns_type ho hk
  exact .inr ⟨h1, cur, _, h2⟩))
inductive TreT (B : Nat) (W : World) : List Nd → Value → Prop
 | nil (A : Option Addr) (cap : Nat) : TreT B W [] (.slice A 0 cap)
 | row (g cap : Nat) (ks : List Nd) (sl : Nat → Value) (hB : B ≤ g) (hg : ∃ cs fr, W.heap[g]? = some (.cells cs 24 fr)) (hl : ks.length ≤ maxLen)
   (ht : ∀ i (hi : i < ks.length), ks[i].text.length ≤ maxLen)
   (h0 : ∀ i (hi : i < ks.length), W.cell? ⟨g, i * 4, none⟩ = some (.int .i64 ks[i].kind))
   (h1 : ∀ i (hi : i < ks.length), W.cell? ⟨g, i * 4 + 1, none⟩ = some (.string ⟨ks[i].text.toArray⟩))
   (h2 : ∀ i (hi : i < ks.length), W.cell? ⟨g, i * 4 + 2, none⟩ = some (.int .i64 ks[i].cols))
   (h3 : ∀ i (_hi : i < ks.length), W.cell? ⟨g, i * 4 + 3, none⟩ = some (sl i))
   (hk : ∀ i (hi : i < ks.length), TreT B W ks[i].kids (sl i)) : TreT B W ks (.slice (some ⟨g, 0, none⟩) ks.length cap)
theorem TreT.slice {B : Nat} {W : World} {ks : List Nd} {v : Value} (h : TreT B W ks v) : ∃ A cap, v = .slice A ks.length cap := by
 cases h with
 | nil A cap => exact ⟨A, cap, rfl⟩
 | row g cap _ sl => exact ⟨_, _, rfl⟩
theorem TreT.len {B : Nat} {W : World} {ks : List Nd} {v : Value} (h : TreT B W ks v) : ks.length ≤ maxLen := by
 cases h with
 | nil A cap => exact Nat.zero_le _
 | row g cap _ sl hB hg hl => exact hl
theorem TreT.mv {B : Nat} {W W' : World} {S : Nat → Prop} {ks : List Nd} {v : Value} (h : TreT B W ks v) (ht : Touch S W W') (hS : ∀ k cs fr, S k → B ≤ k → W.heap[k]? ≠ some (.cells cs 24 fr)) : TreT B W' ks v := by
 induction h with
 | nil A cap => exact .nil A cap
 | row g cap ks sl hB hg hl hx h0 h1 h2 h3 hk ih =>
  obtain ⟨cs, fr, hg⟩ := hg
  have hn : ¬ S g := fun hs => hS g cs fr hs hB hg
  exact .row g cap ks sl hB ⟨cs, fr, (ht.block g (Array.getElem?_eq_some_iff.1 hg).1 hn).trans hg⟩ hl hx (fun i hi => ht.cell (h0 i hi) hn) (fun i hi => ht.cell (h1 i hi) hn) (fun i hi => ht.cell (h2 i hi) hn) (fun i hi => ht.cell (h3 i hi) hn) ih
theorem TreT.base {B B' : Nat} {W : World} {ks : List Nd} {v : Value} (h : TreT B W ks v) (hb : B' ≤ B) : TreT B' W ks v := by
 induction h with
 | nil A cap => exact .nil A cap
 | row g cap ks sl hB hg hl hx h0 h1 h2 h3 hk ih => exact .row g cap ks sl (Nat.le_trans hb hB) hg hl hx h0 h1 h2 h3 ih
theorem TreT.fresh {B : Nat} {W W' : World} {ks : List Nd} {v : Value} (h : TreT B W ks v) (hf : Fresh W W') : TreT B W' ks v := h.mv hf fun _ _ _ h _ => h.elim
theorem TreT.rep {B : Nat} {W : World} {ks : List Nd} {v : Value} (h : TreT B W ks v) : RepL W ks v := by
 induction h with
 | nil A cap => exact .nil A cap
 | row g cap ks sl hB hg hl hx h0 h1 h2 h3 hk ih =>
  obtain ⟨cs, fr, hg⟩ := hg
  exact RepL.row g 0 cap ks sl (Array.getElem?_eq_some_iff.1 hg).1 hl hx (by simpa using h0) (by simpa using h1) (by simpa using h2) (by simpa using h3) ih
def NodeT (B : Nat) (W : World) (n : Nd) (v : Value) : Prop := ∃ sl, v = .agg #[.int .i64 n.kind, .string ⟨n.text.toArray⟩, .int .i64 n.cols, sl] ∧ TreT B W n.kids sl ∧ n.text.length ≤ maxLen
def NodesT (B : Nat) (W : World) : List Nd → List Value → Prop
 | [], cs => cs = []
 | n :: ks, cs => ∃ sl ds, cs = .int .i64 n.kind :: .string ⟨n.text.toArray⟩ :: .int .i64 n.cols :: sl :: ds ∧ (TreT B W n.kids sl ∧ n.text.length ≤ maxLen) ∧ NodesT B W ks ds
theorem NodesT.length {B : Nat} {W : World} : ∀ {ks : List Nd} {cs : List Value}, NodesT B W ks cs → cs.length = ks.length * 4
 | [], _, h => by rw [show _ = [] from h]; rfl
 | _ :: _, _, ⟨_, _, h, _, hd⟩ => by subst h; simp [hd.length]; omega
theorem NodesT.mv {B : Nat} {W W' : World} {S : Nat → Prop} (ht : Touch S W W') (hS : ∀ k cs fr, S k → B ≤ k → W.heap[k]? ≠ some (.cells cs 24 fr)) : ∀ {ks : List Nd} {cs : List Value}, NodesT B W ks cs → NodesT B W' ks cs
 | [], _, h => h
 | _ :: _, _, ⟨sl, ds, h, h1, hd⟩ => ⟨sl, ds, h, ⟨h1.1.mv ht hS, h1.2⟩, hd.mv ht hS⟩
theorem NodesT.base {B B' : Nat} {W : World} (hb : B' ≤ B) : ∀ {ks : List Nd} {cs : List Value}, NodesT B W ks cs → NodesT B' W ks cs
 | [], _, h => h
 | _ :: _, _, ⟨sl, ds, h, h1, hd⟩ => ⟨sl, ds, h, ⟨h1.1.base hb, h1.2⟩, hd.base hb⟩
theorem NodesT.fresh {B : Nat} {W W' : World} (hf : Fresh W W') {ks : List Nd} {cs : List Value} (h : NodesT B W ks cs) : NodesT B W' ks cs := h.mv hf fun _ _ _ h _ => h.elim
theorem NodesT.append {B : Nat} {W : World} : ∀ {ks ms : List Nd} {cs ds : List Value}, NodesT B W ks cs → NodesT B W ms ds → NodesT B W (ks ++ ms) (cs ++ ds)
 | [], _, _, _, h, hm => by rw [show _ = [] from h]; exact hm
 | _ :: _, _, _, _, ⟨sl, es, h, h1, hd⟩, hm => by subst h; exact ⟨sl, es ++ _, by simp, h1, hd.append hm⟩
theorem TreT.oneCell {B : Nat} {W : World} {ks : List Nd} {v : Value} (h : TreT B W ks v) : v.oneCell' = true := by
 obtain ⟨A, c, rfl⟩ := h.slice
 rfl
theorem NodesT.oneCell {B : Nat} {W : World} : ∀ {ks : List Nd} {cs : List Value}, NodesT B W ks cs → ∀ u ∈ cs, u.oneCell' = true
 | [], _, h, u, hu => by rw [show _ = [] from h] at hu; cases hu
 | _ :: _, _, ⟨sl, ds, h, h1, hd⟩, u, hu => by
  subst h
  rcases List.mem_cons.1 hu with rfl | hu
  ·rfl
  ·rcases List.mem_cons.1 hu with rfl | hu
   ·rfl
   ·rcases List.mem_cons.1 hu with rfl | hu
    ·rfl
    ·rcases List.mem_cons.1 hu with rfl | hu
     ·exact h1.1.oneCell
     ·exact hd.oneCell u hu
theorem NodesT.get {B : Nat} {W : World} : ∀ {ks : List Nd} {cs : List Value}, NodesT B W ks cs → ∀ i (hi : i < ks.length), ∃ sl, cs[i * 4]? = some (.int .i64 ks[i].kind) ∧ cs[i * 4 + 1]? = some (.string ⟨ks[i].text.toArray⟩) ∧ cs[i * 4 + 2]? = some (.int .i64 ks[i].cols) ∧ cs[i * 4 + 3]? = some sl ∧
  TreT B W ks[i].kids sl ∧ ks[i].text.length ≤ maxLen
 | [], _, _, i, hi => by simp at hi
 | n :: ks, _, ⟨sl, ds, h, h1, hd⟩, i, hi => by
  subst h
  cases i with
  | zero => exact ⟨sl, rfl, rfl, rfl, rfl, h1.1, h1.2⟩
  | succ i =>
   obtain ⟨sl', e0, e1, e2, e3, e4, e5⟩ := hd.get i (by simpa using hi)
   have hx : ∀ j, (.int .i64 n.kind :: .string ⟨n.text.toArray⟩ :: .int .i64 n.cols :: sl :: ds : List Value)[(i + 1) * 4 + j]? = ds[i * 4 + j]? := fun j => by
    rw [show (i + 1) * 4 + j = (i * 4 + j) + 4 by omega]
    rfl
   exact ⟨sl', (hx 0).trans e0, (hx 1).trans e1, (hx 2).trans e2, (hx 3).trans e3, e4, e5⟩
theorem NodesT.own {B B' : Nat} {W : World} {ks : List Nd} {cs : List Value} {v : Value} (h : NodesT B W ks cs) (hBB : B ≤ B') (ho : W.ownsRow B' 24 4 v ks.length cs) : TreT B W ks v := by
 rcases ho.2 with ⟨h1, h2⟩ | ⟨g, cap, cur, h1, hB', hg, h2, h3, _⟩
 ·rw [List.length_eq_zero_iff] at h2
  subst h2
  rw [h1]
  exact .nil _ _
 ·have hc : ∀ j u, cs[j]? = some u → W.cell? ⟨g, j, none⟩ = some u := fun j u hu => by
   have := ho.cells (g := g) (by rw [h1]; rfl) j u hu
   rwa [Addr.add_mid, Nat.zero_add] at this
  have hsl : ∀ i, ∃ sl, ∀ (hi : i < ks.length), cs[i * 4 + 3]? = some sl ∧ TreT B W ks[i].kids sl := fun i => by
   by_cases hi : i < ks.length
   ·obtain ⟨sl, _, _, _, e3, e4, _⟩ := h.get i hi
    exact ⟨sl, fun _ => ⟨e3, e4⟩⟩
   ·exact ⟨.bool false, fun h => absurd h hi⟩
  rw [h1]
  refine .row g cap ks (fun i => Classical.choose (hsl i)) (Nat.le_trans hBB hB') ⟨_, _, hg⟩ (Nat.le_trans h2 h3) (fun i hi => (h.get i hi).elim fun _ e => e.2.2.2.2.2) (fun i hi => ?_) (fun i hi => ?_) (fun i hi => ?_) (fun i hi => hc _ _ (Classical.choose_spec (hsl i) hi).1) (fun i hi => (Classical.choose_spec (hsl i) hi).2)
  ·obtain ⟨_, e0, _⟩ := h.get i hi; exact hc _ _ e0
  ·obtain ⟨_, _, e1, _⟩ := h.get i hi; exact hc _ _ e1
  ·obtain ⟨_, _, _, e2, _⟩ := h.get i hi; exact hc _ _ e2
theorem TreT.src {B : Nat} {W : World} {ks : List Nd} {v : Value} (h : TreT B W ks v) : ∃ cs, NodesT B W ks cs ∧ Src W 4 v ks.length cs := by
 cases h with
 | nil A cap => 
  refine ⟨[], rfl, A, cap, rfl, rfl, ?_⟩
  cases A with
  | none => exact .inl ⟨rfl, rfl, rfl⟩
  | some a => exact .inr ⟨a, rfl, fun j u hu => by simp at hu⟩
 | row g cap _ sl hB hg hl hx h0 h1 h2 h3 hk =>
  have : ∀ (l : List Nd) (o : Nat), (∀ i (hi : i < l.length), ∃ hq : o + i < ks.length, l[i] = ks[o + i]) → ∃ cs, NodesT B W l cs ∧ ∀ j u, cs[j]? = some u → W.cell? ⟨g, o * 4 + j, none⟩ = some u := by
   intro l
   induction l with
   | nil => intro o _; exact ⟨[], rfl, fun j u hu => by simp at hu⟩
   | cons n l ih =>
    intro o hl
    obtain ⟨ds, d1, d2⟩ := ih (o + 1) fun i hi => by
     obtain ⟨hq, e⟩ := hl (i + 1) (by simpa using hi)
     refine ⟨by omega, ?_⟩
     have e' : l[i] = ks[o + (i + 1)] := by simpa using e
     rw [e']
     congr 1
     omega
    obtain ⟨hq, e⟩ := hl 0 (by simp)
    simp only [List.getElem_cons_zero, Nat.add_zero] at e hq
    refine ⟨.int .i64 n.kind :: .string ⟨n.text.toArray⟩ :: .int .i64 n.cols :: sl o :: ds, ⟨sl o, ds, rfl, ⟨by rw [e]; exact hk o hq, by rw [e]; exact hx o hq⟩, d1⟩, fun j u hu => ?_⟩
    match j, hu with
    | 0, hu => cases hu; rw [e]; exact h0 o hq
    | 1, hu => cases hu; rw [e]; exact h1 o hq
    | 2, hu => cases hu; rw [e]; exact h2 o hq
    | 3, hu => cases hu; exact h3 o hq
    | j + 4, hu =>
     have := d2 j u hu
     rw [show o * 4 + (j + 4) = (o + 1) * 4 + j by omega]
     exact this
  obtain ⟨cs, d1, d2⟩ := this ks 0 fun i hi => ⟨by simpa using hi, by simp⟩
  refine ⟨cs, d1, _, cap, rfl, d1.length, .inr ⟨_, rfl, fun j u hu => ?_⟩⟩
  rw [Addr.add_mid, Nat.zero_add]
  simpa using d2 j u hu
end Go.Proofs.YtdacpbdamliafaaGreat

/- A law on regions that draw their order: plain operations beside lone ones, which keep a class of worlds in which the plain ones yield the same; each stretch is shut by an operation that waits for all of it. -/
namespace Go.Proofs.YtdacpbdamliafaaGreat
open Go.RowKit
section
variable {P : Program} {ops : Array Oper} {md : Region.Mode} {C : World → Prop} {Q : Exit → Act → World → Prop}
def stillUpon (w : World) (v : Value) : Result Next → Prop
 | .ok (.value u) w' => w' = w ∧ u = v
 | _ => False
def stillV (P : Program) (o : Oper) (a : Act) (C : World → Prop) (next : Act → Prop) : Prop := ∃ v, (∀ w, C w → stillUpon w v ((execOp a.eval o).run P w)) ∧ next (a.put o.dst v)
theorem stillUpon_ok {w : World} {v : Value} {r : Result Next} (h : stillUpon w v r) : r = .ok (.value v) w := by
 cases r with
 | ok n w' =>
  cases n <;> simp only [stillUpon] at h
  obtain ⟨rfl, rfl⟩ := h
  rfl
 | halt x w' => exact h.elim
def wpAnyU (P : Program) (md : Region.Mode) (ops : Array Oper) (Q : Exit → Act → World → Prop) (C : World → Prop) (ns : List Nat) (L : Array Bool → Act → World → Prop) : Nat → Array Bool → Act → World → Prop
 | 0, listed, a, w => L listed a w
 | f + 1, listed, a, w => Region.ready md ops listed ≠ [] ∧ ∀ i ∈ Region.ready md ops listed, i ∈ ns ∧ wpOp P ops Q i (fun a' w' => C w' ∧ wpAnyU P md ops Q C ns L f (listed.setIfInBounds i true) a' w') a w
theorem wpAny_of_U {ns : List Nat} {g : Nat} {L : Array Bool → Act → World → Prop} (hL : ∀ listed a w, C w → L listed a w → wpAny P md ops Q g listed a w) :
  ∀ (f : Nat) (listed : Array Bool) (a : Act) (w : World), C w → wpAnyU P md ops Q C ns L f listed a w → wpAny P md ops Q (f + g) listed a w
 | 0, listed, a, w, hC, h => by rw [Nat.zero_add]; exact hL _ _ _ hC h
 | f + 1, listed, a, w, _, h => by
  rw [show f + 1 + g = (f + g) + 1 by omega]
  exact ⟨fun h0 => absurd h0 h.1, fun i hi => wpOp_mono (fun a' w' h' => wpAny_of_U hL f _ a' w' h'.1 h'.2) (h.2 i hi).2⟩
theorem wpAnyU_first {ns : List Nat} {t : Option Nat} {listed0 : Array Bool} {i : Nat} {oi : Oper} {v : Value} {L : Array Bool → Act → World → Prop} (hi : ops[i]? = some oi) (hsel : ∀ (j : Nat) (o : Oper) cs b, ops[j]? = some o → o.op ≠ .select cs b)
  (hQ : ∀ c a w, Q (.panic c) (a.put oi.dst v) w → Q (.panic c) a w)
  (hs : shutB md ops ns t listed0 = true) (hin : i ∈ ns) (hdone : ∀ listed a w, L listed a w → ∀ j ∈ Region.ready md ops listed, j ∉ ns) :
  ∀ (f : Nat) (listed : Array Bool) (a : Act) (w : World), ZInv md ops ns listed0 listed →
   (∀ j oj, ops[j]? = some oj → j ≠ i → listed.getD j true = false → (∀ e ∈ oj.after, Region.binds md e = true → e.on ≠ i) → oi.apart ops oj = true) →
   i ∈ Region.ready md ops listed → YieldsIf P ops C oi v a → C w →
   wpAnyU P md ops Q C ns L f (listed.setIfInBounds i true) (a.put oi.dst v) w → wpAnyU P md ops Q C ns L (f + 1) listed a w := by
 intro f
 induction f with
 | zero =>
  intro listed a w inv _ hr hy hC H
  have hun := (mem_ready.1 hr).1
  refine ⟨fun h => (by rw [h] at hr; cases hr), fun j hj => ?_⟩
  have hjn := shut_spec hs inv.closed inv.sub inv.sup ⟨i, hin, getD_both hun⟩ j hj
  refine ⟨hjn, ?_⟩
  by_cases hji : j = i
  ·subst hji; exact hy.wpOp hi hC ⟨hC, H⟩
  ·exact absurd hjn (hdone _ _ _ H j (ready_mono hj hji))
 | succ f ih =>
  intro listed a w inv hfree hr hy hC H
  have hun := (mem_ready.1 hr).1
  refine ⟨fun h => (by rw [h] at hr; cases hr), fun j hj => ?_⟩
  have hjn := shut_spec hs inv.closed inv.sub inv.sup ⟨i, hin, getD_both hun⟩ j hj
  refine ⟨hjn, ?_⟩
  by_cases hji : j = i
  ·subst hji; exact hy.wpOp hi hC ⟨hC, H⟩
  ·have h1 := (H.2 j (ready_mono hj hji)).2
   obtain ⟨hjun, oj, hoj, hall⟩ := mem_ready.1 hj
   have hnot : ∀ e ∈ oj.after, Region.binds md e = true → e.on ≠ i := fun e he hb heq => by
    have h1 := hall e he hb
    rw [heq, getD_both hun] at h1
    cases h1
   have h2 := wpOp_putIf hoj (hfree j oj hoj hji hjun hnot) (fun cs b => hsel i oi cs b hi) (fun cs b => hsel j oj cs b hoj) hQ hy h1
   have hfree' : ∀ k ok, ops[k]? = some ok → k ≠ i → (listed.setIfInBounds j true).getD k true = false →
     (∀ e ∈ ok.after, Region.binds md e = true → e.on ≠ i) → oi.apart ops ok = true := fun k ok hk hki hun hno => by
    refine hfree k ok hk hki ?_ hno
    by_cases hjk : j = k
    ·subst hjk; exact hjun
    ·rw [getD_set_ne true hjk] at hun; exact hun
   refine wpOp_mono (fun a' w' h3 => ⟨h3.2.1, ih (listed.setIfInBounds j true) a' w' (inv.put hj hjn) hfree' (ready_mono hr (Ne.symm hji)) h3.1 h3.2.1 ?_⟩) h2
   rw [Array.setIfInBounds_comm _ _ hji]
   exact h3.2.2
def wpSeq (P : Program) (l : List Oper) (Q : Exit → Act → World → Prop) (C : World → Prop) (L : Act → World → Prop) : List (Nat × Bool) → Act → World → Prop
 | [], a, w => L a w
 | (i, true) :: r, a, w => match l[i]? with
  | some o => if Region.wanted o (yielded l.toArray a.tmps) then stillV P o a C (fun a' => wpSeq P l Q C L r a' w) else wpSeq P l Q C L r (a.put o.dst undef) w
  | none => wpSeq P l Q C L r a w
 | (i, false) :: r, a, w => wpList P l.toArray (Exit.then (fun a' w' => C w' ∧ wpSeq P l Q C L r a' w') Q) (pick l [i]) a w
theorem wpSeq_plain {l : List Oper} {L : Act → World → Prop} {i : Nat} {o : Oper} {r : List (Nat × Bool)} {a : Act} {w : World} (ho : l[i]? = some o)
  (h : ∀ K : Act → Prop, (∀ a, wpSeq P l Q C L r a w → K a) → if Region.wanted o (yielded l.toArray a.tmps) then stillV P o a C K else K (a.put o.dst undef)) : wpSeq P l Q C L ((i, true) :: r) a w := by
 unfold wpSeq
 rw [ho]
 exact h _ (fun _ h => h)
theorem wpSeq_lone {l : List Oper} {L : Act → World → Prop} {i : Nat} {o : Oper} {r : List (Nat × Bool)} {a : Act} {w : World} (ho : l[i]? = some o)
  (h : ∀ K : Act → World → Prop, (∀ a w, C w → wpSeq P l Q C L r a w → K a w) → wpList P l.toArray (Exit.then K Q) [o] a w) : wpSeq P l Q C L ((i, false) :: r) a w := by
 unfold wpSeq
 have hp : pick l [i] = [o] := by simp [pick, ho]
 rw [hp]
 exact h _ (fun _ _ h1 h2 => ⟨h1, h2⟩)
def wpMix (Cl : World → World → Prop) (P : Program) (l : List Oper) (Q : Exit → Act → World → Prop) : List (List (Nat × Bool) × Nat) → List (Nat × Bool) → Act → World → World → Prop
 | [], last, a, w0, w => wpSeq P l Q (Cl w0) (fun a' w' => Q .normal a' w') last a w
 | (s, t) :: segs, last, a, w0, w => wpSeq P l Q (Cl w0) (fun a' w' => wpList P l.toArray (Exit.then (fun a'' w'' => wpMix Cl P l Q segs last a'' w'' w'') Q) (pick l [t]) a' w') s a w
theorem wpSeq_shut {l : List Oper} {Cl : World → World → Prop} {t : Nat} {o : Oper} {segs : List (List (Nat × Bool) × Nat)} {last : List (Nat × Bool)} {a : Act} {w : World} (ho : l[t]? = some o)
  (h : ∀ K : Act → World → Prop, (∀ a w, wpMix Cl P l Q segs last a w w → K a w) → wpList P l.toArray (Exit.then K Q) [o] a w) : wpSeq P l Q C (fun a' w' => wpList P l.toArray (Exit.then (fun a'' w'' => wpMix Cl P l Q segs last a'' w'' w'') Q) (pick l [t]) a' w') [] a w := by
 unfold wpSeq
 have hp : pick l [t] = [o] := by simp [pick, ho]
 rw [hp]
 exact h _ (fun _ _ h1 => h1)
def seqB (md : Region.Mode) (ops : Array Oper) : List (Nat × Bool) → Array Bool → Bool
 | [], _ => true
 | (k, true) :: r, listed => (Region.ready md ops listed).contains k && Region.free md ops listed k && seqB md ops r (listed.setIfInBounds k true)
 | (k, false) :: r, listed => decide (Region.ready md ops listed = [k]) && seqB md ops r (listed.setIfInBounds k true)
theorem wpAnyU_seq {l0 : List Oper} {ns : List Nat} {t : Option Nat} {listed0 : Array Bool} {Lq : Act → World → Prop} {fin : Array Bool} (hsel : Region.noSelect l0.toArray = true) (hQ : ∀ c a d v w, Q (.panic c) (Act.put a d v) w → Q (.panic c) a w)
  (hs : shutB md l0.toArray ns t listed0 = true) (hfin : ∀ j ∈ Region.ready md l0.toArray fin, j ∉ ns) :
  ∀ (s : List (Nat × Bool)) (listed : Array Bool) (a : Act) (w : World), (∀ k ∈ s, k.1 ∈ ns) → ZInv md l0.toArray ns listed0 listed → seqB md l0.toArray s listed = true → setAll (s.map (·.1)) listed = fin → C w →
  wpSeq P l0 Q C Lq s a w → wpAnyU P md l0.toArray Q C ns (fun listed' a' w' => listed' = fin ∧ Lq a' w') s.length listed a w
 | [], listed, a, w, _, _, _, hf, _, h => ⟨hf, h⟩
 | (k, true) :: r, listed, a, w, hq, inv, hB, hf, hC, h => by
  simp only [seqB, Bool.and_eq_true] at hB
  obtain ⟨⟨hr, hfr⟩, hB'⟩ := hB
  have hr' : k ∈ Region.ready md l0.toArray listed := by simpa using hr
  obtain ⟨_, o, ho, _⟩ := mem_ready.1 hr'
  have ho' : l0[k]? = some o := by simpa using ho
  unfold wpSeq at h
  rw [ho'] at h
  have hkq := hq (k, true) (by simp)
  obtain ⟨v, hy, hK⟩ : ∃ v, YieldsIf P l0.toArray C o v a ∧ wpSeq P l0 Q C Lq r (a.put o.dst v) w := by
   by_cases hw : Region.wanted o (yielded l0.toArray a.tmps) = true
   ·simp only [hw, if_true] at h
    obtain ⟨v, h1, h2⟩ := h
    exact ⟨v, .inl ⟨hw, fun w hw => stillUpon_ok (h1 w hw)⟩, h2⟩
   ·simp only [hw] at h
    exact ⟨undef, .inr ⟨by simpa using hw, rfl⟩, h⟩
  exact wpAnyU_first ho (Region.noSelect_spec hsel) (fun c a w => hQ c a o.dst v w) hs hkq (fun listed' a' w' hL => by rw [hL.1]; exact hfin) r.length listed a w inv (Region.free_spec ho hfr) hr' hy hC
   (wpAnyU_seq hsel hQ hs hfin r _ _ w (fun x hx => hq x (by simp [hx])) (inv.put hr' hkq) hB' hf hC hK)
 | (k, false) :: r, listed, a, w, hq, inv, hB, hf, hC, h => by
  simp only [seqB, Bool.and_eq_true, decide_eq_true_eq] at hB
  obtain ⟨hr, hB'⟩ := hB
  have hr' : k ∈ Region.ready md l0.toArray listed := by rw [hr]; simp
  obtain ⟨_, o, ho, _⟩ := mem_ready.1 hr'
  have hkq := hq (k, false) (by simp)
  refine ⟨by rw [hr]; simp, fun i hi => ?_⟩
  rw [hr] at hi
  rw [List.mem_singleton.1 hi]
  unfold wpSeq at h
  exact ⟨hkq, wpOp_mono (fun a' w' h' => ⟨h'.1, wpAnyU_seq hsel hQ hs hfin r _ a' w' (fun x hx => hq x (by simp [hx])) (inv.put hr' hkq) hB' hf h'.1 h'.2⟩) (wpOp_of_single ho h)⟩
theorem seq_inv {ns : List Nat} {listed0 : Array Bool} : ∀ (s : List (Nat × Bool)) (listed : Array Bool), (∀ k ∈ s, k.1 ∈ ns) → ZInv md ops ns listed0 listed → seqB md ops s listed = true → ZInv md ops ns listed0 (setAll (s.map (·.1)) listed)
 | [], _, _, inv, _ => inv
 | (k, true) :: r, listed, hq, inv, hB => by
  simp only [seqB, Bool.and_eq_true] at hB
  exact seq_inv r _ (fun x hx => hq x (by simp [hx])) (inv.put (by simpa using hB.1.1) (hq (k, true) (by simp))) hB.2
 | (k, false) :: r, listed, hq, inv, hB => by
  simp only [seqB, Bool.and_eq_true, decide_eq_true_eq] at hB
  exact seq_inv r _ (fun x hx => hq x (by simp [hx])) (inv.put (by rw [hB.1]; simp) (hq (k, false) (by simp))) hB.2
def mixB (md : Region.Mode) (ops : Array Oper) : List (List (Nat × Bool) × Nat) → List (Nat × Bool) → Array Bool → Bool
 | [], last, listed => shutB md ops (last.map (·.1)) none listed && seqB md ops last listed && (Region.ready md ops (setAll (last.map (·.1)) listed)).isEmpty
 | (s, t) :: segs, last, listed => shutB md ops (s.map (·.1)) (some t) listed && seqB md ops s listed && decide (Region.ready md ops (setAll (s.map (·.1)) listed) = [t]) && !(s.map (·.1)).contains t &&
   mixB md ops segs last ((setAll (s.map (·.1)) listed).setIfInBounds t true)
def mixN : List (List (Nat × Bool) × Nat) → List (Nat × Bool) → Nat
 | [], last => last.length
 | (s, _) :: segs, last => s.length + (mixN segs last + 1)
theorem wpMix_seg {Cl : World → World → Prop} {l : List Oper} {a : Act} {w0 w : World} {s : List (Nat × Bool)} {t : Nat} {segs : List (List (Nat × Bool) × Nat)} {last : List (Nat × Bool)}
  (h : wpSeq P l Q (Cl w0) (fun a' w' => wpList P l.toArray (Exit.then (fun a'' w'' => wpMix Cl P l Q segs last a'' w'' w'') Q) (pick l [t]) a' w') s a w) : wpMix Cl P l Q ((s, t) :: segs) last a w0 w := h
theorem wpMix_last {Cl : World → World → Prop} {l : List Oper} {a : Act} {w0 w : World} {last : List (Nat × Bool)} (h : wpSeq P l Q (Cl w0) (fun a' w' => Q .normal a' w') last a w) : wpMix Cl P l Q [] last a w0 w := h
theorem wpSeq_end {l : List Oper} {L : Act → World → Prop} {a : Act} {w : World} (h : L a w) : wpSeq P l Q C L [] a w := h
theorem wpMix_end {Cl : World → World → Prop} {l : List Oper} {a : Act} {w0 w : World} (h : Q .normal a w) : wpMix Cl P l Q [] [] a w0 w := h
theorem wpAny_of_mix {Cl : World → World → Prop} (hrefl : ∀ w, Cl w w) {l : List Oper} (hsel : Region.noSelect l.toArray = true) (hQ : ∀ c a d v w, Q (.panic c) (Act.put a d v) w → Q (.panic c) a w) :
  ∀ (segs : List (List (Nat × Bool) × Nat)) (last : List (Nat × Bool)) (listed : Array Bool) (a : Act) (w0 w : World),
  Closed md l.toArray listed → mixB md l.toArray segs last listed = true → Cl w0 w → wpMix Cl P l Q segs last a w0 w → wpAny P md l.toArray Q (mixN segs last) listed a w
 | [], last, listed, a, w0, w, inv, hB, hC, h => by
  simp only [mixB, Bool.and_eq_true, List.isEmpty_iff] at hB
  obtain ⟨⟨hs, hl⟩, hr⟩ := hB
  have hz : ZInv md l.toArray (last.map (·.1)) listed listed := ⟨inv, fun _ h => h, fun _ h => .inl h⟩
  have := wpAnyU_seq (P := P) (C := Cl w0) (Q := Q) (fin := setAll (last.map (·.1)) listed) (Lq := fun a' w' => Q .normal a' w') hsel hQ hs (by rw [hr]; simp) last listed a w (fun k hk => List.mem_map.2 ⟨k, hk, rfl⟩) hz hl rfl hC h
  exact wpAny_of_U (g := 0) (fun listed' a' w' _ hL => wpAny_done (by rw [hL.1]; exact hr) hL.2 0) last.length listed a w hC this
 | (s, t) :: segs, last, listed, a, w0, w, inv, hB, hC, h => by
  simp only [mixB, Bool.and_eq_true, decide_eq_true_eq, Bool.not_eq_true'] at hB
  obtain ⟨⟨⟨⟨hs, hl⟩, hr⟩, ht⟩, hB'⟩ := hB
  have hz : ZInv md l.toArray (s.map (·.1)) listed listed := ⟨inv, fun _ h => h, fun _ h => .inl h⟩
  have hmem : ∀ k ∈ s, k.1 ∈ s.map (·.1) := fun k hk => List.mem_map.2 ⟨k, hk, rfl⟩
  have hz' := seq_inv s listed hmem hz hl
  have htr : t ∈ Region.ready md l.toArray (setAll (s.map (·.1)) listed) := by rw [hr]; simp
  have htn : t ∉ s.map (·.1) := by
   intro hx
   rw [List.contains_iff_mem.2 hx] at ht
   cases ht
  obtain ⟨_, ot, hot, _⟩ := mem_ready.1 htr
  have := wpAnyU_seq (P := P) (C := Cl w0) (Q := Q) (fin := setAll (s.map (·.1)) listed) (Lq := fun a' w' => wpList P l.toArray (Exit.then (fun a'' w'' => wpMix Cl P l Q segs last a'' w'' w'') Q) (pick l [t]) a' w') hsel hQ hs
   (by rw [hr]; intro j hj; rw [List.mem_singleton.1 hj]; exact htn) s listed a w hmem hz hl rfl hC h
  refine wpAny_of_U (g := mixN segs last + 1) (fun listed' a' w' _ hL => ?_) s.length listed a w hC this
  refine wpAny_all (rs := [t]) (by rw [hL.1]; exact hr) (by simp) (fun i hi => ?_)
  rw [List.mem_singleton.1 hi, hL.1]
  exact wpOp_mono (fun a'' w'' h'' => wpAny_of_mix hrefl hsel hQ segs last _ a'' w'' w'' (hz'.closed.put htr) hB' (hrefl w'') h'') (wpOp_of_single hot hL.2)
theorem wp_region_mix {id : Nat} {a : Act} {w : World} {l : List Oper} (segs : List (List (Nat × Bool) × Nat)) (last : List (Nat × Bool)) (hm : P.follows .mixedOrders = true) (hQ : ∀ c a d v w, Q (.panic c) (Act.put a d v) w → Q (.panic c) a w)
  (hB : (Region.noSelect l.toArray && decide (mixN segs last = l.toArray.size) && mixB .any l.toArray segs last (Array.replicate l.toArray.size false)) = true)
  (h : wpMix (fun w w' => ∃ p : Regrown, w' = Go.Sort.grow (redrawn w p.d) p.os) P l Q segs last a w (w.drewN 1)) : (Code.region id l.toArray true).wp P Q a w := by
 simp only [Bool.and_eq_true, decide_eq_true_eq] at hB
 obtain ⟨⟨hsel, hn⟩, hB⟩ := hB
 refine wp_region_any hm ?_
 rw [← hn]
 rw [← hn] at hB
 exact wpAny_of_mix Growing.refl hsel hQ segs last _ a w _ ⟨by simp [hn], fun j oj _ hl => by rw [getD_repl] at hl; cases hl⟩ hB (Growing.drew w) h
end
theorem growing_fresh {w w' : World} (h : Fresh w w') : ∃ p : Regrown, w' = Go.Sort.grow (redrawn w p.d) p.os := regrown_of_below h.below
end Go.Proofs.YtdacpbdamliafaaGreat

/- The parser's state, and its small methods. -/
namespace Go.Proofs.YtdacpbdamliafaaGreat
open Go.RowKit
open Tr (Nd)
open Lx (PTok)
attribute [local go_sem] stillV stillUpon
theorem TreT.one {B : Nat} {W : World} {g cap : Nat} {n : Nd} {sl : Value} (hB : B ≤ g) (hg : ∃ cs fr, W.heap[g]? = some (.cells cs 24 fr)) (h0 : W.cell? ⟨g, 0, none⟩ = some (.int .i64 n.kind)) (h1 : W.cell? ⟨g, 1, none⟩ = some (.string ⟨n.text.toArray⟩))
  (h2 : W.cell? ⟨g, 2, none⟩ = some (.int .i64 n.cols)) (h3 : W.cell? ⟨g, 3, none⟩ = some sl) (hk : TreT B W n.kids sl) (ht : n.text.length ≤ maxLen) : TreT B W [n] (.slice (some ⟨g, 0, none⟩) 1 cap) :=
 TreT.row g cap [n] (fun _ => sl) hB hg (by simp [maxLen]) (fun i hi => match i, hi with | 0, _ => ht) (fun i hi => match i, hi with | 0, _ => h0) (fun i hi => match i, hi with | 0, _ => h1) (fun i hi => match i, hi with | 0, _ => h2) (fun i hi => match i, hi with | 0, _ => h3) (fun i hi => match i, hi with | 0, _ => hk)
structure Cf where
 g : Nat
 W0 : World
 tv : Value
 mv : Value
 en : Nat
 T : List PTok
def pp0 (c : Cf) : Value := .pointer (some ⟨c.g, 0, none⟩)
structure Cf.Good (c : Cf) : Prop where
 tok : TokRow c.W0 c.tv c.T
 glt : c.g < c.W0.heap.size
 far : ∀ gt o n cap, c.tv = .slice (some ⟨gt, o, none⟩) n cap → gt ≠ c.g
 tl : c.T.length ≤ 100000
 enl : c.en ≤ 1000000000
 txt : ∀ t ∈ c.T, t.text.length ≤ maxLen
 knz : ∀ t ∈ c.T, t.kind ≠ 0
 par : ∀ t ∈ c.T, t.kind = 6 → ∃ b : UInt8, t.text = [b] ∧ 49 ≤ b ∧ b ≤ 57
structure Ps (c : Cf) (k : Nat) (op : List Nat) (w : World) : Prop where
 low : Touch (fun b => b = c.g) c.W0 w
 box : ∃ ov, Blk w c.g 130 #[c.tv, .int .i64 (k : Int), .int .i64 (c.en : Int), ov, .pointer none, .int .i64 0, c.mv, .int .i64 0, .bool false] ∧ w.ownsRow c.W0.heap.size 3 1 ov op.length (intVs (up op))
 le : k ≤ c.T.length
theorem Ps.fresh {c : Cf} {k : Nat} {op : List Nat} {w w' : World} (h : Ps c k op w) (hf : Fresh w w') : Ps c k op w' := by
 obtain ⟨ov, hb, ho⟩ := h.box
 exact ⟨h.low.trans (hf.mono fun _ h => h.elim), ⟨ov, hf.blk hb (fun h => h), ownsRow_touch ho hf (fun _ _ h => h)⟩, h.le⟩
theorem Ps.glt {c : Cf} {k : Nat} {op : List Nat} {w : World} (h : Ps c k op w) : c.g < w.heap.size := by
 obtain ⟨ov, hb, _⟩ := h.box
 exact hb.lt
def tokV (en : Nat) : List PTok → Value
 | [] => .agg #[.int .i64 0, .string ⟨#[]⟩, .int .i64 (en : Int), .int .i64 (en : Int)]
 | t :: _ => .agg #[.int .i64 t.kind, .string ⟨t.text.toArray⟩, .int .i64 (t.from_ : Int), .int .i64 (t.to_ : Int)]
set_option maxRecDepth 100000 in
set_option maxHeartbeats 400000 in
theorem tok_any_n (c : Cf) (hc : c.Good) (k : Nat) (op : List Nat) (w : World) (h : Ps c k op w) :
  Calls Tryz.prog 111 #[pp0 c] w fun e w' => e = .returned (tokV c.en (c.T.drop k)) ∧ Fresh w w' := by
 obtain ⟨ov, hb, ho⟩ := h.box
 obtain ⟨At, ct, htv, htk⟩ := hc.tok
 have hlow := h.low
 have hgl := hc.glt
 have htl := hc.tl
 have hle := h.le
 have hfar := hc.far
 clear h hc
 obtain ⟨g, W0, tv, mv, en, T⟩ := c
 unfold pp0
 simp only at *
 subst htv
 have HTK := hid htk
 have HLOW := hid hlow
 have hgw := hb.lt
 have q0 := hb.cell 0
 have q1 := hb.cell 1
 have q2 := hb.cell 2
 have hk4 : k ≤ 100000 := by omega
 clear htk hb ho hlow
 by_cases c1 : k < T.length
 ·have d1 : decide ((k : Int) < (T.length : Int)) = true := by simp; omega
  have d1n : decide (k < T.length) = true := by simp; omega
  have d1' : (k : Int) < (T.length : Int) := by omega
  obtain ⟨gt, o, hA, hgt, h0, h1, h2, h3⟩ := HTK.out k c1
  cases hA
  have HE := hid (show tokV en (T.drop k) = .agg #[.int .i64 T[k].kind, .string ⟨T[k].text.toArray⟩, .int .i64 (T[k].from_ : Int), .int .i64 (T[k].to_ : Int)] from by rw [List.drop_eq_getElem_cons c1]; rfl)
  generalize T[k] = t at h0 h1 h2 h3 HE
  have hne : gt ≠ g := hfar gt o _ _ rfl
  have a0 := HLOW.out.cell h0 (by exact hne)
  have a1 := HLOW.out.cell h1 (by exact hne)
  have a2 := HLOW.out.cell h2 (by exact hne)
  have a3 := HLOW.out.cell h3 (by exact hne)
  have hgt' : gt < w.heap.size := block_lt_of_cell a0
  clear h0 h1 h2 h3
  clear hfar
  go_enter Tryz.func111, Tryz.ntmps111
  go_wp2_with fail
  go_quiet (fail)
  go_wp2_with fail
  have hf1 : Fresh w ((w.alloc (.cells #[.int .i64 0, .string ⟨#[]⟩, .int .i64 0, .int .i64 0] 150)).drewN nq) := ((Touch.refl _ _).alloc _).drewN _
  have hb1 : Blk ((w.alloc (.cells #[.int .i64 0, .string ⟨#[]⟩, .int .i64 0, .int .i64 0] 150)).drewN nq) w.heap.size 150 #[.int .i64 0, .string ⟨#[]⟩, .int .i64 0, .int .i64 0] := (Blk.new _ _ _).drewN _
  generalize ((w.alloc (.cells #[.int .i64 0, .string ⟨#[]⟩, .int .i64 0, .int .i64 0] 150)).drewN nq) = W1 at hf1 hb1 ⊢
  have r0 := cell_regrown (hf1.cell (q0.trans rfl) (fun h => h))
  have r1 := cell_regrown (hf1.cell (q1.trans rfl) (fun h => h))
  have s0 := cell_regrown (hf1.cell a0 (fun h => h))
  have s1 := cell_regrown (hf1.cell a1 (fun h => h))
  have s2 := cell_regrown (hf1.cell a2 (fun h => h))
  have s3 := cell_regrown (hf1.cell a3 (fun h => h))
  have hlt1 := hb1.lt
  have hgt1 : gt < W1.heap.size := Nat.lt_of_lt_of_le hgt' hf1.size
  have hgg1 : g < W1.heap.size := Nat.lt_of_lt_of_le hgw hf1.size
  have HF1 := hid hf1
  have HB1 := hid hb1
  clear q0 q1 q2 a0 a1 a2 a3 hf1 hb1
  refine wp_region_mix [([(0, true), (1, true), (2, true), (3, true), (4, true), (5, true), (6, true), (7, true), (8, true), (9, true)], 10)] [] (by kernel_rfl) (fun _ _ d _ _ h => by cases d <;> exact h) (by kernel_rfl) ?_
  refine wpMix_seg ?_
  repeat (refine wpSeq_plain rfl (fun K hK => ?_); go_simp; refine hK _ ?_; clear hK K)
  have hb2 := HB1.out.drewN 1
  obtain ⟨p0, p1, p2, p3, z0, z1, z2, z3, _⟩ := Blk.four hb2
  refine wpSeq_shut rfl (fun K hK => ?_)
  go_wp2_with fail
  refine wpMix_end ?_
  go_wp2_with fail
  refine bodyPost_ret (v := .agg #[.int .i64 t.kind, .string ⟨t.text.toArray⟩, .int .i64 (t.from_ : Int), .int .i64 (t.to_ : Int)]) (by simp [results, Tryz.results111, go_sem, p0, p1, p2, p3]) rfl ?_
  exact ⟨by rw [HE.out], Touch.put4 (HF1.out.drewN 1) (.inr (Nat.le_refl _)) _ _ _ _⟩
 ·have d1 : decide ((k : Int) < (T.length : Int)) = false := by simp; omega
  have d1n : decide (k < T.length) = false := by simp; omega
  have HE := hid (show tokV en (T.drop k) = .agg #[.int .i64 0, .string ⟨#[]⟩, .int .i64 (en : Int), .int .i64 (en : Int)] from by rw [List.drop_eq_nil_of_le (by omega)]; rfl)
  clear hfar
  go_enter Tryz.func111, Tryz.ntmps111
  go_wp2_with fail
  go_quiet (fail)
  go_wp2_with fail
  have hf1 : Fresh w ((w.alloc (.cells #[.int .i64 0, .string ⟨#[]⟩, .int .i64 0, .int .i64 0] 150)).drewN nq) := ((Touch.refl _ _).alloc _).drewN _
  have hb1 : Blk ((w.alloc (.cells #[.int .i64 0, .string ⟨#[]⟩, .int .i64 0, .int .i64 0] 150)).drewN nq) w.heap.size 150 #[.int .i64 0, .string ⟨#[]⟩, .int .i64 0, .int .i64 0] := (Blk.new _ _ _).drewN _
  generalize ((w.alloc (.cells #[.int .i64 0, .string ⟨#[]⟩, .int .i64 0, .int .i64 0] 150)).drewN nq) = W1 at hf1 hb1 ⊢
  have r2 := cell_regrown (hf1.cell (q2.trans rfl) (fun h => h))
  have hlt1 := hb1.lt
  have hgg1 : g < W1.heap.size := Nat.lt_of_lt_of_le hgw hf1.size
  have HF1 := hid hf1
  have HB1 := hid hb1
  clear q0 q1 q2 hf1 hb1
  refine wp_region_mix [([(0, true), (1, true), (2, true), (3, true), (4, true), (5, true), (6, true), (7, true), (8, true)], 9)] [] (by kernel_rfl) (fun _ _ d _ _ h => by cases d <;> exact h) (by kernel_rfl) ?_
  refine wpMix_seg ?_
  repeat (refine wpSeq_plain rfl (fun K hK => ?_); go_simp; refine hK _ ?_; clear hK K)
  have hb2 := HB1.out.drewN 1
  obtain ⟨p0, p1, p2, p3, z0, z1, z2, z3, _⟩ := Blk.four hb2
  refine wpSeq_shut rfl (fun K hK => ?_)
  go_wp2_with fail
  refine wpMix_end ?_
  go_wp2_with fail
  refine bodyPost_ret (v := .agg #[.int .i64 0, .string ⟨#[]⟩, .int .i64 (en : Int), .int .i64 (en : Int)]) (by simp [results, Tryz.results111, go_sem, p0, p1, p2, p3]) rfl ?_
  exact ⟨by rw [HE.out], Touch.put4 (HF1.out.drewN 1) (.inr (Nat.le_refl _)) _ _ _ _⟩
set_option maxRecDepth 100000 in
set_option maxHeartbeats 400000 in
theorem at_any_n (c : Cf) (hc : c.Good) (k : Nat) (op : List Nat) (b : UInt8) (w : World) (h : Ps c k op w) :
  Calls Tryz.prog 112 #[pp0 c, .string ⟨#[b]⟩] w fun e w' => e = .returned (.bool (Np.isM b (c.T.drop k))) ∧ Fresh w w' := by
 have HT := hid (tok_any_n c hc k op w h)
 clear hc h
 generalize c.T.drop k = l at HT ⊢
 go_enter Tryz.func112, Tryz.ntmps112
 go_wp2_with fail
 refine HT.out.mono ?_
 rintro _ w1 ⟨rfl, hf⟩
 have HF := hid hf
 clear hf
 cases l with
 | nil =>
  unfold tokV
  go_wp2_with fail
  go_ret
  exact ⟨rfl, HF.out.alloc _⟩
 | cons t r =>
  unfold tokV
  have HI := hid (show Np.isM b (t :: r) = ((t.kind == 7) && (t.text == [b])) from rfl)
  have hs : ((⟨t.text.toArray⟩ : ByteArray) == (⟨#[b]⟩ : ByteArray)) = (t.text == [b]) := by rw [str_eq']
  cases hk : (t.kind == 7) with
  | false =>
   have hkI : ((t.kind : Int) == (7 : Int)) = false := by
    have : t.kind ≠ 7 := by simpa using hk
    rw [beq_eq_false_iff_ne]
    omega
   go_wp2_with fail
   go_ret
   exact ⟨by rw [HI.out, hk]; rfl, HF.out.alloc _⟩
  | true =>
   have hkI : ((t.kind : Int) == (7 : Int)) = true := by
    have : t.kind = 7 := by simpa using hk
    rw [this]
    rfl
   go_wp2_with fail
   go_ret
   exact ⟨by rw [HI.out, hk]; rfl, HF.out.alloc _⟩
def failV (i e : Nat) : Value := .agg #[.int .i64 (i : Int), .int .i64 (e : Int)]
theorem field_tok0 (a b c d : Value) (w : World) : (Instr.field 150 (.agg #[a, b, c, d]) 0).run Tryz.prog w = .ok a w := by
 simp [Instr.field, run_underlying Tryz.underlying150, part, isAgg, asAgg, run_underlying Tryz.underlying3]
theorem field_tok1 (a b c d : Value) (w : World) : (Instr.field 150 (.agg #[a, b, c, d]) 1).run Tryz.prog w = .ok b w := by
 simp [Instr.field, run_underlying Tryz.underlying150, part, isAgg, asAgg, run_underlying Tryz.underlying9]
theorem field_tok2 (a b c d : Value) (w : World) : (Instr.field 150 (.agg #[a, b, c, d]) 2).run Tryz.prog w = .ok c w := by
 simp [Instr.field, run_underlying Tryz.underlying150, part, isAgg, asAgg, run_underlying Tryz.underlying3]
theorem Blk.two {w : World} {g : Nat} {t : TypeId} {x0 x1 : Value} (h : Blk w g t #[x0, x1]) :
  w.cell? ⟨g, 0, none⟩ = some x0 ∧ w.cell? ⟨g, 1, none⟩ = some x1 ∧ w.frozen? ⟨g, 0, none⟩ = false ∧ w.frozen? ⟨g, 1, none⟩ = false ∧ g < w.heap.size := ⟨h.cell 0, h.cell 1, h.frozen 0, h.frozen 1, h.lt⟩
theorem tok_place (en : Nat) (l : List PTok) : ∃ (r0 r1 r3 : Value) (r2 : Nat), tokV en l = .agg #[r0, r1, .int .i64 (r2 : Int), r3] ∧ r2 = Np.place en l := by
 cases l with
 | nil => exact ⟨_, _, _, _, rfl, rfl⟩
 | cons t r => exact ⟨_, _, _, _, rfl, rfl⟩
set_option maxRecDepth 100000 in
set_option maxHeartbeats 400000 in
theorem refuse_any_n (c : Cf) (hc : c.Good) (k : Nat) (op : List Nat) (w : World) (h : Ps c k op w) :
  Calls Tryz.prog 82 #[pp0 c] w fun e w' => e = .returned (failV (Np.place c.en (c.T.drop k)) 3) ∧ Fresh w w' := by
 have HT := hid (fun (w' : World) (hf : Fresh w w') => tok_any_n c hc k op w' (h.fresh hf))
 clear hc h
 generalize c.T.drop k = l at HT ⊢
 obtain ⟨r0, r1, r3, r2, hr, hp⟩ := tok_place c.en l
 rw [← hp]
 rw [hr] at HT
 have hfd := field_tok2
 clear hr hp
 go_enter Tryz.func82, Tryz.ntmps82
 go_wp2_with fail
 refine (HT.out _ ((Touch.refl _ _).alloc _)).mono ?_
 rintro _ w1 ⟨rfl, hf⟩
 have HF := hid (show Fresh w w1 from Touch.pre hf)
 obtain ⟨p0, p1, z0, z1, hlt⟩ := Blk.two (hf.blk (Blk.new w 88 #[.int .i64 0, .int .i64 0]) (fun h => h))
 clear hf
 go_wp2_with fail
 (try simp only [Exit.inBlock, Exit.then])
 refine bodyPost_ret (v := failV r2 3) (by simp [failV, results, Tryz.results82, go_sem, p0, p1]) rfl ?_
 exact ⟨rfl, (HF.out.setCell (p := ⟨w.heap.size, 0, none⟩) (.inr (Nat.le_refl _)) _).setCell (p := ⟨w.heap.size, 1, none⟩) (.inr (Nat.le_refl _)) _⟩
set_option maxRecDepth 100000 in
set_option maxHeartbeats 400000 in
theorem slot_any_n (A : Option Addr) (n cap : Nat) (w : World) :
  Calls Tryz.prog 83 #[.slice A n cap] w fun e w' => e = .returned (.agg #[.int .i64 1, .string ⟨#[]⟩, .int .i64 0, .slice A n cap]) ∧ Fresh w w' := by
 go_enter Tryz.func83, Tryz.ntmps83
 go_wp2_with fail
 (try simp only [Exit.inBlock, Exit.then])
 obtain ⟨p0, p1, p2, p3, _⟩ := Blk.four (Blk.new w 24 #[.int .i64 1, .string ⟨#[]⟩, .int .i64 0, .slice A n cap])
 refine bodyPost_ret (v := .agg #[.int .i64 1, .string ⟨#[]⟩, .int .i64 0, .slice A n cap]) (by simp [results, Tryz.results83, go_sem, p0, p1, p2, p3]) rfl ?_
 exact ⟨rfl, (Touch.refl _ _).alloc _⟩
theorem Ps.next {c : Cf} {k : Nat} {op : List Nat} {w : World} (h : Ps c k op w) (hk : k < c.T.length) (x : Int) (hx : x = ((k + 1 : Nat) : Int)) : Ps c (k + 1) op (w.setCell ⟨c.g, 1, none⟩ (.int .i64 x)) ∧ Mp c.g c.W0.heap.size w (w.setCell ⟨c.g, 1, none⟩ (.int .i64 x)) := by
 obtain ⟨ov, hb, ho⟩ := h.box
 have hne : ∀ b, ov.ownBlock = some b → b ≠ c.g := fun b hb' => by
  obtain ⟨h1, cur, h2⟩ := owns_type ho hb'
  intro e
  subst e
  unfold Blk at hb
  rw [hb] at h2
  cases h2
 refine ⟨⟨h.low.setCell (p := ⟨c.g, 1, none⟩) (.inl rfl) _, ⟨ov, ?_, ownsRow_touch ho ((Touch.refl (fun b => b = c.g) w).setCell (p := ⟨c.g, 1, none⟩) (.inl rfl) _) hne⟩, hk⟩, Mp.put w 1 _⟩
 have := hb.put 1 (.int .i64 x)
 rw [hx] at this ⊢
 exact this
set_option maxRecDepth 100000 in
set_option maxHeartbeats 400000 in
theorem single_any_n (c : Cf) (hc : c.Good) (k : Nat) (op : List Nat) (kd : Int) (tx : List UInt8) (w : World) (h : Ps c k op w) (hk : k < c.T.length) (htx : tx.length ≤ maxLen) :
  Calls Tryz.prog 193 #[pp0 c, .int .i64 kd, .string ⟨tx.toArray⟩] w fun e w' => ∃ b, e = .returned (.tuple #[.slice (some ⟨b, 0, none⟩) 1 1, failV 0 0]) ∧ TreT w.heap.size w' [.mk kd tx 0 []] (.slice (some ⟨b, 0, none⟩) 1 1) ∧ Ps c (k + 1) op w' ∧ Mp c.g c.W0.heap.size w w' := by
 have htl := hc.tl
 have hk4 : k ≤ 100000 := by omega
 obtain ⟨ov, hb, ho⟩ := h.box
 have hgw := hb.lt
 have q1 := hb.cell 1
 have z1 := hb.frozen 1
 have H := hid h
 clear hc hb ho h
 unfold pp0
 have e1 : ((k : Int) + 1) = ((k + 1 : Nat) : Int) := by simp
 have HE := hid e1
 clear e1
 go_enter Tryz.func193, Tryz.ntmps193
 go_wp2_with fail
 have hn := H.out.next hk ((k : Int) + 1) HE.out
 have hs : (w.setCell ⟨c.g, 1, none⟩ (.int .i64 ((k : Int) + 1))).heap.size = w.heap.size := by simp
 generalize (w.setCell ⟨c.g, 1, none⟩ (.int .i64 ((k : Int) + 1))) = W1 at hn hs ⊢
 rw [← hs]
 (try simp only [Exit.inBlock, Exit.then])
 have hbf : Blk ((W1.alloc (.cells #[.int .i64 0, .int .i64 0] 88)).alloc (.cells #[.int .i64 kd, .string ⟨tx.toArray⟩, .int .i64 0, .slice none 0 0] 24)) W1.heap.size 88 #[.int .i64 0, .int .i64 0] := (Blk.new _ _ _).alloc _
 have hbn : Blk ((W1.alloc (.cells #[.int .i64 0, .int .i64 0] 88)).alloc (.cells #[.int .i64 kd, .string ⟨tx.toArray⟩, .int .i64 0, .slice none 0 0] 24)) (W1.heap.size + 1) 24 #[.int .i64 kd, .string ⟨tx.toArray⟩, .int .i64 0, .slice none 0 0] := Blk.new2 _ _ _ _
 have hf2 : Fresh W1 ((W1.alloc (.cells #[.int .i64 0, .int .i64 0] 88)).alloc (.cells #[.int .i64 kd, .string ⟨tx.toArray⟩, .int .i64 0, .slice none 0 0] 24)) := ((Touch.refl _ _).alloc _).alloc _
 generalize ((W1.alloc (.cells #[.int .i64 0, .int .i64 0] 88)).alloc (.cells #[.int .i64 kd, .string ⟨tx.toArray⟩, .int .i64 0, .slice none 0 0] 24)) = W2 at hbf hbn hf2 ⊢
 obtain ⟨p0, p1, _⟩ := Blk.two hbf
 refine bodyPost_ret (v := .tuple #[.slice (some ⟨W1.heap.size + 1, 0, none⟩) 1 1, failV 0 0]) (by simp [failV, results, Tryz.results193, go_sem, p0, p1]) rfl ?_
 refine ⟨_, rfl, ?_, hn.1.fresh hf2, hn.2.trans (Mp.fresh hf2)⟩
 obtain ⟨n0, n1, n2, n3, _⟩ := Blk.four hbn
 exact TreT.one (by omega) ⟨_, _, hbn⟩ n0 n1 n2 n3 (.nil _ _) htx
end Go.Proofs.YtdacpbdamliafaaGreat

/- A law on regions that draw their order: operations that hang on no world first, then stretches. -/
namespace Go.Proofs.YtdacpbdamliafaaGreat
open Go.RowKit
section
variable {P : Program} {md : Region.Mode} {Q : Exit → Act → World → Prop}
def wpPre (P : Program) (l : List Oper) (L : Act → Prop) : List Nat → Act → Prop
 | [], a => L a
 | i :: r, a => match l[i]? with
  | some o => if Region.wanted o (yielded l.toArray a.tmps) then stillV P o a (fun _ => True) (fun a' => wpPre P l L r a') else wpPre P l L r (a.put o.dst undef)
  | none => wpPre P l L r a
theorem wpPre_step {l : List Oper} {L : Act → Prop} {i : Nat} {o : Oper} {r : List Nat} {a : Act} (ho : l[i]? = some o)
  (h : ∀ K : Act → Prop, (∀ a, wpPre P l L r a → K a) → if Region.wanted o (yielded l.toArray a.tmps) then stillV P o a (fun _ => True) K else K (a.put o.dst undef)) : wpPre P l L (i :: r) a := by
 unfold wpPre
 rw [ho]
 exact h _ (fun _ h => h)
theorem wpPre_end {l : List Oper} {L : Act → Prop} {a : Act} (h : L a) : wpPre P l L [] a := h
def preB (md : Region.Mode) (ops : Array Oper) : List Nat → Array Bool → Bool
 | [], _ => true
 | k :: r, listed => (Region.ready md ops listed).contains k && Region.free md ops listed k && preB md ops r (listed.setIfInBounds k true)
theorem pre_closed {l : List Oper} : ∀ (pre : List Nat) (listed : Array Bool), Closed md l.toArray listed → preB md l.toArray pre listed = true → Closed md l.toArray (setAll pre listed)
 | [], _, inv, _ => inv
 | k :: r, listed, inv, hB => by
  simp only [preB, Bool.and_eq_true] at hB
  exact pre_closed r _ (inv.put (by simpa using hB.1.1)) hB.2
theorem wpAny_pre {l : List Oper} (hsel : Region.noSelect l.toArray = true) (hQ : ∀ c a d v w, Q (.panic c) (Act.put a d v) w → Q (.panic c) a w) {w : World} {f : Nat} {L : Act → Prop} :
  ∀ (pre : List Nat) (listed : Array Bool) (a : Act), preB md l.toArray pre listed = true → (∀ a', L a' → wpAny P md l.toArray Q f (setAll pre listed) a' w) → wpPre P l L pre a → wpAny P md l.toArray Q (pre.length + f) listed a w
 | [], listed, a, _, hL, h => by rw [List.length_nil, Nat.zero_add]; exact hL a h
 | k :: r, listed, a, hB, hL, h => by
  simp only [preB, Bool.and_eq_true] at hB
  obtain ⟨⟨hr, hfr⟩, hB'⟩ := hB
  have hr' : k ∈ Region.ready md l.toArray listed := by simpa using hr
  obtain ⟨_, o, ho, _⟩ := mem_ready.1 hr'
  have ho' : l[k]? = some o := by simpa using ho
  unfold wpPre at h
  rw [ho'] at h
  obtain ⟨v, hy, hK⟩ : ∃ v, Yields P l.toArray o v a ∧ wpPre P l L r (a.put o.dst v) := by
   by_cases hw : Region.wanted o (yielded l.toArray a.tmps) = true
   ·simp only [hw, if_true] at h
    obtain ⟨v, h1, h2⟩ := h
    exact ⟨v, .inl ⟨hw, fun w => stillUpon_ok (h1 w trivial)⟩, h2⟩
   ·simp only [hw] at h
    exact ⟨undef, .inr ⟨by simpa using hw, rfl⟩, h⟩
  rw [List.length_cons, show r.length + 1 + f = (r.length + f) + 1 by omega]
  exact wpAny_take ho hsel hfr hr (fun c a w => hQ c a o.dst v w) hy (wpAny_pre hsel hQ r _ _ hB' hL hK)
theorem wp_region_pre {id : Nat} {a : Act} {w : World} {l : List Oper} (pre : List Nat) (segs : List (List (Nat × Bool) × Nat)) (last : List (Nat × Bool)) (hm : P.follows .mixedOrders = true) (hQ : ∀ c a d v w, Q (.panic c) (Act.put a d v) w → Q (.panic c) a w)
  (hB : (Region.noSelect l.toArray && decide (pre.length + mixN segs last = l.toArray.size) && preB .any l.toArray pre (Array.replicate l.toArray.size false) && mixB .any l.toArray segs last (setAll pre (Array.replicate l.toArray.size false))) = true)
  (h : wpPre P l (fun a' => wpMix (fun w w' => ∃ p : Regrown, w' = Go.Sort.grow (redrawn w p.d) p.os) P l Q segs last a' w (w.drewN 1)) pre a) : (Code.region id l.toArray true).wp P Q a w := by
 simp only [Bool.and_eq_true, decide_eq_true_eq] at hB
 obtain ⟨⟨⟨hsel, hn⟩, hp⟩, hB⟩ := hB
 refine wp_region_any hm ?_
 rw [← hn]
 rw [← hn] at hp hB
 refine wpAny_pre hsel hQ pre _ a hp (fun a' h' => ?_) h
 exact wpAny_of_mix Growing.refl hsel hQ segs last _ a' w _ (pre_closed pre _ ⟨by simp [hn], fun j oj _ hl => by rw [getD_repl] at hl; cases hl⟩ hp) hB (Growing.drew w) h'
end
end Go.Proofs.YtdacpbdamliafaaGreat

/- The parser's brackets: begin, finish. -/
namespace Go.Proofs.YtdacpbdamliafaaGreat
open Go.RowKit
open Tr (Nd)
open Lx (PTok)
attribute [local go_sem] stillV stillUpon
theorem own_slc {W : World} {B e size n : Nat} {v : Value} {xs : List Value} (h : W.ownsRow B e size v n xs) : ∃ A c, v = .slice A n c := by
 rcases h.2 with ⟨h1, h2⟩ | ⟨g, cap, cur, h1, _⟩
 ·exact ⟨none, 0, by rw [h1, h2]⟩
 ·exact ⟨_, _, h1⟩
theorem own_shrink {W : World} {B e g n cap : Nat} {xs : List Value} {u : Value} (h : W.ownsRow B e 1 (.slice (some ⟨g, 0, none⟩) (n + 1) cap) (n + 1) (xs ++ [u])) : W.ownsRow B e 1 (.slice (some ⟨g, 0, none⟩) n cap) n xs := by
 have hl := h.1
 rw [List.length_append, List.length_singleton] at hl
 refine ⟨by omega, ?_⟩
 rcases h.2 with ⟨h1, _⟩ | ⟨g', cap', cur, h1, h2, h3, h4, h5, h6, h7⟩
 ·cases h1
 ·cases h1
  refine .inr ⟨g, cap, cur, rfl, h2, h3, by omega, h5, h6, ?_⟩
  have h8 : (cur.toList.take ((n + 1) * 1)).take (n * 1) = (xs ++ [u]).take (n * 1) := by rw [h7]
  rw [List.take_take, show min (n * 1) ((n + 1) * 1) = n * 1 by omega] at h8
  rw [h8, List.take_append_of_le_length (by omega), List.take_of_length_le (by omega)]
theorem Ps.put {c : Cf} {k : Nat} {op : List Nat} {w : World} (h : Ps c k op w) {b : Nat} {t : TypeId} {cs : Array Value} (hb : Blk w b t cs) (ht : t ≠ 3) (hne : b ≠ c.g) (hB : c.W0.heap.size ≤ b) (i : Nat) (v : Value) : Ps c k op (w.setCell ⟨b, i, none⟩ v) := by
 obtain ⟨ov, hbx, ho⟩ := h.box
 refine ⟨h.low.setCell (p := ⟨b, i, none⟩) (.inr hB) v, ⟨ov, hbx.far (p := ⟨b, i, none⟩) (fun e => hne e.symm) v, ownsRow_touch ho ((Touch.refl (fun k => k = b) w).setCell (p := ⟨b, i, none⟩) (.inl rfl) v) fun k hk e => ?_⟩, h.le⟩
 obtain ⟨_, cur, h2⟩ := owns_type ho hk
 subst e
 unfold Blk at hb
 rw [hb] at h2
 cases h2
 exact ht rfl
theorem up_snoc' (L : List Nat) (x : Nat) : intVs (up L) ++ [.int .i64 (x : Int)] = intVs (up (L ++ [x])) := by simp
set_option maxRecDepth 100000 in
set_option maxHeartbeats 400000 in
theorem begin_any_n (c : Cf) (hc : c.Good) (k : Nat) (op : List Nat) (w : World) (h : Ps c k op w) (hk : k < c.T.length) (hop : op.length ≤ 100000) :
  Calls Tryz.prog 152 #[pp0 c] w fun e w' => e = .returned (.tuple #[]) ∧ Ps c (k + 1) (op ++ [Np.place c.en (c.T.drop k)]) w' ∧ Mp c.g c.W0.heap.size w w' := by
 obtain ⟨i, hi, hz0, hz1, hz2⟩ := info_parts infoInt
 have HT := hid (fun (w' : World) (hf : Fresh w w') => tok_any_n c hc k op w' (h.fresh hf))
 obtain ⟨ov, hb, ho⟩ := h.box
 obtain ⟨Ao, co, rfl⟩ : ∃ A cp, ov = .slice A op.length cp := by
  rcases ho.2 with ⟨h1, h2⟩ | ⟨g, cap, cur, h1, _⟩
  ·exact ⟨none, 0, by rw [h1, h2]⟩
  ·exact ⟨_, _, h1⟩
 have htl := hc.tl
 have hk4 : k ≤ 100000 := by omega
 have hgw := hb.lt
 have hne : ∀ b, (Value.slice Ao op.length co).ownBlock = some b → b ≠ c.g := fun b hb' => by
  obtain ⟨h1, cur, h2⟩ := owns_type ho hb'
  intro e
  subst e
  unfold Blk at hb
  rw [hb] at h2
  cases h2
 have H := hid h
 have HB := hid hb
 have HO := hid ho
 have HNE := hid hne
 have HOP := hid hop
 have HK := hid hk
 have hW0 := hid (show c.W0.heap.size ≤ w.heap.size from h.low.size)
 clear hc hb ho h hne
 generalize c.T.drop k = l at HT ⊢
 obtain ⟨r0, r1, r3, r2, hr, hp⟩ := tok_place c.en l
 rw [← hp]
 rw [hr] at HT
 clear hr hp
 have hfd := field_tok2
 have r3' := cell_regrown ((HB.out.cell 3).trans rfl)
 have e1 : ((k : Int) + 1) = ((k + 1 : Nat) : Int) := by simp
 have HE := hid e1
 clear e1
 unfold pp0 at HT ⊢
 go_enter Tryz.func152, Tryz.ntmps152
 go_wp2_with fail
 refine wp_region_pre [0] [([(1, true), (2, true), (3, true), (4, true), (5, true), (6, false), (7, true), (8, false)], 9), ([(10, true), (11, true)], 12)] [] (by kernel_rfl) (fun _ _ d _ _ h => by cases d <;> exact h) (by kernel_rfl) ?_
 repeat (refine wpPre_step rfl (fun K hK => ?_); go_simp; refine hK _ ?_; clear hK K)
 refine wpPre_end ?_
 refine wpMix_seg ?_
 repeat (refine wpSeq_plain rfl (fun K hK => ?_); go_simp; refine hK _ ?_; clear hK K)
 refine wpSeq_lone rfl (fun K hK => ?_)
 go_wp2_with fail
 refine (HT.out _ ((Touch.refl _ _).drewN _)).mono ?_
 rintro _ w1 ⟨rfl, hf⟩
 have HF1 := hid (show Fresh w w1 from Touch.ofN hf)
 clear hf r3'
 go_wp2_with fail
 refine hK _ _ (growing_fresh HF1.out) ?_
 clear hK K
 repeat (refine wpSeq_plain rfl (fun K hK => ?_); go_simp; refine hK _ ?_; clear hK K)
 refine wpSeq_lone rfl (fun K hK => ?_)
 go_wp2_with fail
 refine hK _ _ (growing_fresh (HF1.out.alloc _)) ?_
 clear hK K
 refine wpSeq_shut rfl (fun K hK => ?_)
 go_wp2_with (at_builtin; refine wpList_append_src _ rfl (.tmp 6) (.tmp 10) 25 rfl c.W0.heap.size 3 i _ 1 8 rfl hi hz0 hz1 hz2 rfl (by decide) (.slice Ao op.length co) op.length (intVs (up op)) (by simp [Act.eval]) (ownsRow_touch HO.out (HF1.out.alloc _) (fun _ _ h => h)) (.slice (some ⟨w1.heap.size, 0, none⟩) 1 1) 1 [.int .i64 (r2 : Int)] (by simp [Act.eval]) (Src.of_blk (Blk.new _ _ _) rfl) (by intro u hu; simp at hu; rw [hu]; rfl) (by have := HOP.out; unfold maxLen; omega) (by have := HOP.out; omega) (by have h1 := hW0.out; have h2 := HF1.out.size; simp; omega) ?_; intro v8 W8 ho8 hg8 hv8; refine Stay.mk ?_)
 have HM8 := hid (show Mp c.g c.W0.heap.size w W8 from Mp.grown (Mp.fresh (HF1.out.alloc _)) (ownsRow_touch HO.out (HF1.out.alloc _) (fun _ _ h => h)) hg8)
 have HLOW8 := hid (show Touch (fun b => b = c.g) c.W0 W8 from ((H.out.low.trans ((HF1.out.alloc _).mono fun _ h => h.elim)).grown hg8 fun b hb => .inr (by
  have := (HO.out.lt b hb).1
  exact this)))
 have HB8 := hid (show Blk W8 c.g 130 #[c.tv, .int .i64 (k : Int), .int .i64 (c.en : Int), .slice Ao op.length co, .pointer none, .int .i64 0, c.mv, .int .i64 0, .bool false] from
  ((Touch.refl (fun b => (Value.slice Ao op.length co).ownBlock = some b) _).grown hg8 fun b hb => .inl hb).blk ((HF1.out.alloc _).blk HB.out (fun h => h)) fun hb => HNE.out _ hb rfl)
 rw [up_snoc'] at ho8
 have HO8 := hid (show W8.ownsRow c.W0.heap.size 3 1 v8 (op ++ [r2]).length (intVs (up (op ++ [r2]))) from by rw [List.length_append]; exact ho8)
 obtain ⟨A8, c8, rfl⟩ := own_slc ho8
 clear ho8 hg8 hv8
 refine Stay.go ?_
 go_wp2_with fail
 refine wpMix_seg ?_
 repeat (refine wpSeq_plain rfl (fun K hK => ?_); go_simp; refine hK _ ?_; clear hK K)
 have z3 := HB8.out.frozen 3
 have y3 := HB8.out.cell 3
 have hg8 := HB8.out.lt
 refine wpSeq_shut rfl (fun K hK => ?_)
 go_wp2_with fail
 refine wpMix_end ?_
 have hne8 : ∀ b, (Value.slice A8 (op.length + 1) c8).ownBlock = some b → b ≠ c.g := fun b hb' => by
  obtain ⟨h1, cur, h2⟩ := owns_type HO8.out hb'
  intro e
  subst e
  have hb := HB8.out
  unfold Blk at hb
  rw [hb] at h2
  cases h2
 have HP9 := hid (show Ps c k (op ++ [r2]) (W8.setCell ⟨c.g, 3, none⟩ (.slice A8 (op.length + 1) c8)) from
  ⟨HLOW8.out.setCell (p := ⟨c.g, 3, none⟩) (.inl rfl) _, ⟨.slice A8 (op.length + 1) c8, HB8.out.put 3 _, ownsRow_touch HO8.out ((Touch.refl (fun b => b = c.g) W8).setCell (p := ⟨c.g, 3, none⟩) (.inl rfl) _) hne8⟩, H.out.le⟩)
 have HM9 := hid (show Mp c.g c.W0.heap.size w (W8.setCell ⟨c.g, 3, none⟩ (.slice A8 (op.length + 1) c8)) from HM8.out.trans (Mp.put W8 3 _))
 generalize (W8.setCell ⟨c.g, 3, none⟩ (.slice A8 (op.length + 1) c8)) = W9 at HP9 HM9 ⊢
 obtain ⟨ov9, hb9, _⟩ := HP9.out.box
 have q1 := hb9.cell 1
 have z1 := hb9.frozen 1
 have hg9 := hb9.lt
 clear hb9 z3 y3 hg8 hne8
 go_wp2_with fail
 obtain ⟨n1, n2⟩ := HP9.out.next HK.out _ HE.out
 (try simp only [Exit.inBlock, Exit.then])
 first | go_end0 | refine bodyPost_ret (v := .tuple #[]) (results_none rfl _ _ _) rfl ?_
 exact ⟨rfl, n1, HM9.out.trans n2⟩
set_option maxRecDepth 100000 in
set_option maxHeartbeats 400000 in
theorem finish_any_n (c : Cf) (hc : c.Good) (k : Nat) (op : List Nat) (x : Nat) (b : UInt8) (w : World) (h : Ps c k (op ++ [x]) w) (hk : k < c.T.length ∨ Np.isM b (c.T.drop k) = false) :
  Calls Tryz.prog 153 #[pp0 c, .string ⟨#[b]⟩] w fun e w' =>
   (Np.isM b (c.T.drop k) = true ∧ e = .returned (failV 0 0) ∧ Ps c (k + 1) op w' ∧ Mp c.g c.W0.heap.size w w') ∨
   (Np.isM b (c.T.drop k) = false ∧ e = .returned (failV (Np.place c.en (c.T.drop k)) 3) ∧ Mp c.g c.W0.heap.size w w') := by
 have HA := hid (fun (w' : World) (hf : Fresh w w') => at_any_n c hc k (op ++ [x]) b w' (h.fresh hf))
 have HR := hid (fun (w' : World) (hf : Fresh w w') => refuse_any_n c hc k (op ++ [x]) w' (h.fresh hf))
 have H := hid h
 have htl := hc.tl
 clear hc h
 generalize hm : Np.isM b (c.T.drop k) = mb at HA hk ⊢
 generalize Np.place c.en (c.T.drop k) = pl at HR ⊢
 clear hm
 cases mb with
 | false =>
  go_enter Tryz.func153, Tryz.ntmps153
  go_wp2_with fail
  refine (HA.out _ ((Touch.refl _ _).alloc _)).mono ?_
  rintro _ w1 ⟨rfl, hf⟩
  have HF1 := hid (show Fresh w w1 from Touch.pre hf)
  have HB1 := hid (hf.blk (Blk.new w 88 #[.int .i64 0, .int .i64 0]) (fun h => h))
  clear hf
  go_wp2_with fail
  refine (HR.out _ HF1.out).mono ?_
  rintro _ w2 ⟨rfl, hf⟩
  have HF2 := hid (HF1.out.trans hf)
  obtain ⟨p0, p1, z0, z1, hlt⟩ := Blk.two (hf.blk HB1.out (fun h => h))
  clear hf
  unfold failV
  go_wp2_with fail
  (try simp only [Exit.inBlock, Exit.then])
  refine bodyPost_ret (v := failV pl 3) (by simp [failV, results, Tryz.results153, go_sem, p0, p1]) rfl ?_
  refine .inr ⟨trivial, rfl, Mp.fresh ((HF2.out.setCell (p := ⟨w.heap.size, 0, none⟩) (.inr (Nat.le_refl _)) _).setCell (p := ⟨w.heap.size, 1, none⟩) (.inr (Nat.le_refl _)) _)⟩
 | true =>
  have hk1 : k < c.T.length := by
   rcases hk with hk | hk
   ·exact hk
   ·cases hk
  have HK1 := hid hk1
  clear hk
  have hk4 : k ≤ 100000 := by omega
  go_enter Tryz.func153, Tryz.ntmps153
  go_wp2_with fail
  refine (HA.out _ ((Touch.refl _ _).alloc _)).mono ?_
  rintro _ w1 ⟨rfl, hf⟩
  have HF1 := hid (show Fresh w w1 from Touch.pre hf)
  have HB1 := hid (hf.blk (Blk.new w 88 #[.int .i64 0, .int .i64 0]) (fun h => h))
  clear hf
  have HP1 := hid (H.out.fresh HF1.out)
  obtain ⟨ov, hb1, ho1⟩ := HP1.out.box
  have HBP := hid hb1
  have HOV := hid ho1
  obtain ⟨go, co, rfl, hco⟩ : ∃ go cp, ov = .slice (some ⟨go, 0, none⟩) (op.length + 1) cp ∧ op.length + 1 ≤ cp := by
   rcases ho1.2 with ⟨_, h2⟩ | ⟨g, cap, cur, h1, _, _, h2, _⟩
   ·simp at h2
   ·rw [List.length_append, List.length_singleton] at h1 h2
    exact ⟨_, _, h1, h2⟩
  have hne : go ≠ c.g := fun e => by
   obtain ⟨h1, cur, h2⟩ := owns_type ho1 (g := go) rfl
   subst e
   unfold Blk at hb1
   rw [hb1] at h2
   cases h2
  have hmax : op.length + 1 ≤ maxLen := by
   rcases ho1.2 with ⟨_, h2⟩ | ⟨g, cap, cur, _, _, _, h2, h3, _⟩
   ·simp at h2
   ·rw [List.length_append, List.length_singleton] at h2
    exact Nat.le_trans h2 h3
  unfold maxLen at hmax
  have HNE := hid hne
  have r3 := cell_regrown ((hb1.cell 3).trans rfl)
  have e1 : ((op.length : Int) + 1) - 1 = (op.length : Int) := by omega
  have e2 : IntKind.i64.wrap ((op.length : Int)) = (op.length : Int) := IntWalk.i64_in _ (by omega)
  have hcl : op.length ≤ co := by omega
  have hgp := hb1.lt
  have z3 := hb1.frozen 3
  have y3 := hb1.cell 3
  clear hb1 ho1 hne
  unfold pp0 at HA HR ⊢
  go_wp2_with fail
  refine wp_region_mix [([(0, true), (1, true), (2, true), (3, true), (4, true), (5, true), (6, true), (7, true), (8, true), (9, true), (10, true), (11, true), (12, true), (13, true)], 14)] [] (by kernel_rfl) (fun _ _ d _ _ h => by cases d <;> exact h) (by kernel_rfl) ?_
  refine wpMix_seg ?_
  repeat (refine wpSeq_plain rfl (fun K hK => ?_); go_simp; refine hK _ ?_; clear hK K)
  clear r3
  have y3' : (w1.drewN 1).cell? ⟨c.g, 3, none⟩ = some (.slice (some ⟨go, 0, none⟩) (op.length + 1) co) := y3.trans rfl
  have z3' : (w1.drewN 1).frozen? ⟨c.g, 3, none⟩ = false := z3
  refine wpSeq_shut rfl (fun K hK => ?_)
  go_wp2_with fail
  refine wpMix_end ?_
  have HP2 := hid (show Ps c k op ((w1.drewN 1).setCell ⟨c.g, 3, none⟩ (.slice (some ⟨go, 0, none⟩) op.length co)) from
   ⟨(HP1.out.low.drewN 1).setCell (p := ⟨c.g, 3, none⟩) (.inl rfl) _, ⟨_, (HBP.out.drewN 1).put 3 _, ownsRow_touch (own_shrink (by
    have h1 := HOV.out
    rw [List.length_append, List.length_singleton] at h1
    have e : intVs (up (op ++ [x])) = intVs (up op) ++ [.int .i64 (x : Int)] := by simp
    rw [e] at h1
    exact h1)) (((Touch.refl (fun b => b = c.g) w1).drewN 1).setCell (p := ⟨c.g, 3, none⟩) (.inl rfl) _) (fun b hb => by
     simp only [Value.ownBlock, Option.some.injEq] at hb
     rw [← hb]
     exact HNE.out)⟩, HP1.out.le⟩)
  have HM2 := hid (show Mp c.g c.W0.heap.size w ((w1.drewN 1).setCell ⟨c.g, 3, none⟩ (.slice (some ⟨go, 0, none⟩) op.length co)) from (Mp.fresh (HF1.out.drewN 1)).trans (Mp.put _ 3 _))
  have HBF := hid (show Blk ((w1.drewN 1).setCell ⟨c.g, 3, none⟩ (.slice (some ⟨go, 0, none⟩) op.length co)) w.heap.size 88 #[.int .i64 0, .int .i64 0] from (HB1.out.drewN 1).far (p := ⟨c.g, 3, none⟩) (fun e => by have h1 := H.out.glt; have h2 : w.heap.size = c.g := e; omega) _)
  generalize ((w1.drewN 1).setCell ⟨c.g, 3, none⟩ (.slice (some ⟨go, 0, none⟩) op.length co)) = W2 at HP2 HM2 HBF ⊢
  obtain ⟨ov2, hb2, _⟩ := HP2.out.box
  have q1 := hb2.cell 1
  have z1 := hb2.frozen 1
  have hg2 := hb2.lt
  have e3 : ((k : Int) + 1) = ((k + 1 : Nat) : Int) := by simp
  have HE := hid e3
  obtain ⟨p0, p1, y0, y1, hlt⟩ := Blk.two HBF.out
  have hgl : c.g < w.heap.size := H.out.glt
  clear hb2 e3 y3 z3 y3' z3' e1 e2
  go_wp2_with fail
  obtain ⟨n1, n2⟩ := HP2.out.next HK1.out _ HE.out
  have hbf3 := HBF.out.far (p := ⟨c.g, 1, none⟩) (fun e => by have h2 : w.heap.size = c.g := e; omega) (.int .i64 ((k : Int) + 1))
  have hne3 : w.heap.size ≠ c.g := fun e => by omega
  have hB3 : c.W0.heap.size ≤ w.heap.size := H.out.low.size
  have hp4 := n1.put hbf3 (by decide) hne3 hB3 0 (.int .i64 0)
  have hb4 := hbf3.put 0 (.int .i64 0)
  have hp5 := hp4.put hb4 (by decide) hne3 hB3 1 (.int .i64 0)
  have hb5 : Blk _ _ 88 #[.int .i64 0, .int .i64 0] := hb4.put 1 (.int .i64 0)
  have hm5 := (HM2.out.trans n2).setCell (p := ⟨w.heap.size, 0, none⟩) (.inr (Nat.le_refl _)) (.int .i64 0) |>.setCell (p := ⟨w.heap.size, 1, none⟩) (.inr (Nat.le_refl _)) (.int .i64 0)
  obtain ⟨f0, f1, _⟩ := Blk.two hb5
  (try simp only [Exit.inBlock, Exit.then])
  refine bodyPost_ret (v := failV 0 0) (by simp [failV, results, Tryz.results153, go_sem, f0, f1]) rfl ?_
  exact .inl ⟨trivial, rfl, hp5, hm5⟩
end Go.Proofs.YtdacpbdamliafaaGreat
