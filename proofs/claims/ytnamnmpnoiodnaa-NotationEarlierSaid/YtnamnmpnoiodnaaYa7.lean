/- Part 7 of 31 of a proof; its texts, joined: NdG, NdH, NdI, NdJ. No condition. -/
import Derived.Test.YtnamnmpnoiodnaaYa6
set_option maxRecDepth 100000
set_option maxHeartbeats 4000000
namespace Go.Proofs.Ytnamnmpnoiodnaa
open Go.RowKit
def ownF (n : Tr.Nd) : Bool := decide (1 ≤ n.kind) && (decide (n.kind ≤ 12) && (Tr.textOK n.kind n.text && Tr.kidsOK n.kind n.cols n.kids.length))
theorem own_lo (n : Tr.Nd) (c g o : Nat) (w : World) (hk : n.kind < 1)
  (a0 : w.cell? ⟨g, o, none⟩ = some (.int .i64 n.kind)) :
  Calls Try.prog 51 #[.pointer (some ⟨c, 0, none⟩), .pointer (some ⟨g, o, none⟩)] w fun e w' => e = .returned (.bool false) ∧ Fresh w w' := by
 have e1 : decide (n.kind < (1 : Int)) = true := dT (by omega);have e2 : decide ((12 : Int) < n.kind) = false := dF (by omega);clear hk;go_enter Try.func51, Try.ntmps51;go_wp2_with fail
 go_quiet (fail)
 go_wp2_with fail
 go_ret;exact ⟨rfl, frR⟩
theorem own_hi (n : Tr.Nd) (c g o : Nat) (w : World) (hk : 12 < n.kind)
  (a0 : w.cell? ⟨g, o, none⟩ = some (.int .i64 n.kind)) :
  Calls Try.prog 51 #[.pointer (some ⟨c, 0, none⟩), .pointer (some ⟨g, o, none⟩)] w fun e w' => e = .returned (.bool false) ∧ Fresh w w' := by
 have e1 : decide (n.kind < (1 : Int)) = false := dF (by omega);have e2 : decide ((12 : Int) < n.kind) = true := dT (by omega);clear hk;go_enter Try.func51, Try.ntmps51;go_wp2_with fail
 go_quiet (fail)
 go_wp2_with fail
 go_ret;exact ⟨rfl, frR⟩
theorem dec_len (a b : Nat) : decide ((a : Int) ≤ (b : Int)) = decide (a ≤ b) := by rw [Bool.eq_iff_iff, decide_eq_true_iff, decide_eq_true_iff]; omega
theorem plain_text (t : List UInt8) : Tr.textOK ((4 : Nat) : Int) t = (t.all plainB && decide ((ByteArray.size ⟨t.toArray⟩ : Int) ≤ (200 : Int))) := by
 show (decide (t.length ≤ 200) && Tr.printable t) = _;have : (ByteArray.size ⟨t.toArray⟩) = t.length := by show t.toArray.size = _; simp
 rw [this, show decide ((t.length : Int) ≤ (200 : Int)) = decide (t.length ≤ 200) from dec_len t.length 200, Bool.and_comm];rfl
theorem ownF_at (k : Nat) (n : Tr.Nd) (tx : Bool) (slots : Int) (hk : n.kind = k) (h1 : 1 ≤ k) (h2 : k ≤ 12) (ht : Tr.textOK n.kind n.text = tx)
  (hs : (k = 5 ∨ k = 6 ∨ k = 7 ∨ k = 8 → slots = 2) ∧ (k = 9 → slots = 3) ∧ (k = 10 ∨ k = 11 → slots = 1) ∧ (k = 2 ∨ k = 3 ∨ k = 4 → slots = 0)) : ownF n = (tx && ownRest k n.cols n.kids.length slots) := by
 unfold ownF;rw [ht, hk];have e1 : decide ((1 : Int) ≤ (k : Int)) = true := by simp; omega
 have e2 : decide ((k : Int) ≤ 12) = true := by simp; omega
 rw [e1, e2, Bool.true_and, Bool.true_and]
 congr 1
 unfold Tr.kidsOK ownRest;generalize n.kids.length = m;generalize n.cols = c;obtain ⟨s1, s2, s3, s4⟩ := hs
 by_cases k12 : k = 12
 ·subst k12
  rw [if_pos (show ((12 : Nat) : Int) = 12 from rfl), if_neg (show ¬ (((12 : Nat) : Int) == 1) = true by decide), if_pos (show (((12 : Nat) : Int) == 12) = true by decide)];have f1 : decide ((1 : Int) ≤ (m : Int)) = decide (1 ≤ m) := dec_len 1 m;have f2 : decide ((m : Int) ≤ (256 : Int)) = decide (m ≤ 256) := dec_len m 256;show (decide (1 ≤ c) && decide (c ≤ 16) && decide (1 ≤ m) && decide (m ≤ 256) && decide ((m : Int) % c = 0)) = (decide (1 ≤ c) && (decide (c ≤ 16) && (decide ((1 : Int) ≤ (m : Int)) && (decide ((m : Int) ≤ (256 : Int)) && ((m : Int) % c == 0)))));rw [f1, f2];simp only [Bool.and_assoc];rfl
 ·have k12' : ¬ (k : Int) = 12 := by omega
  have k12'' : ((k : Int) == 12) = false := by simpa using k12'
  rw [if_neg k12', k12'']
  by_cases hc : c = 0
  ·subst hc
   simp only [ne_eq, not_true_eq_false, if_false, Bool.false_eq_true]
   by_cases k1 : k = 1
   ·subst k1
    rw [if_pos (show ((1 : Nat) : Int) = 1 from rfl), if_pos (show (((1 : Nat) : Int) == 1) = true by decide)];exact (dec_len m 200).symm
   ·have k1' : ¬ (k : Int) = 1 := by omega
    have k1'' : ((k : Int) == 1) = false := by simpa using k1'
    rw [if_neg k1', k1''];simp only [Bool.false_eq_true, if_false, BEq.rfl, Bool.true_and]
    have dn : ∀ (j : Nat) (sl : Int), sl = j → decide (m = j) = ((m : Int) == sl) := by
     intro j sl h; subst h; rw [Bool.eq_iff_iff, decide_eq_true_iff, beq_iff_eq]; omega
    split
    ·exact dn 0 slots (s4 (by omega))
    ·split
     ·exact dn 2 slots (s1 (by omega))
     ·split
      ·exact dn 3 slots (s2 (by omega))
      ·split
       ·exact dn 1 slots (s3 (by omega))
       ·omega
  ·have hc' : (c == 0) = false := by simpa using hc
   rw [if_pos hc, hc'];simp
theorem own_any (n : Tr.Nd) (A : Option Addr) (cap c g o : Nat) (m : Int) (w : World) (hc : Blk w c 86 (checkCells m)) (hm : n.text.length ≤ 9223372036854775807)
  (a0 : w.cell? ⟨g, o, none⟩ = some (.int .i64 n.kind)) (a1 : w.cell? ⟨g, o + 1, none⟩ = some (.string ⟨n.text.toArray⟩)) (a2 : w.cell? ⟨g, o + 2, none⟩ = some (.int .i64 n.cols)) (a3 : w.cell? ⟨g, o + 3, none⟩ = some (.slice A n.kids.length cap)) :
  Calls Try.prog 51 #[.pointer (some ⟨c, 0, none⟩), .pointer (some ⟨g, o, none⟩)] w fun e w' => e = .returned (.bool (ownF n)) ∧ Fresh w w' := by
 by_cases h1 : n.kind < 1
 ·have e : ownF n = false := by
   unfold ownF;have : decide (1 ≤ n.kind) = false := by simp; omega
   rw [this]; rfl
  rw [e];exact own_lo n c g o w h1 a0
 by_cases h2 : 12 < n.kind
 ·have e : ownF n = false := by
   unfold ownF;have : decide (n.kind ≤ 12) = false := by simp; omega
   rw [this, Bool.false_and, Bool.and_false]
  rw [e];exact own_hi n c g o w h2 a0
 obtain ⟨k, hk⟩ : ∃ k : Nat, n.kind = k := ⟨n.kind.toNat, by omega⟩;have k1 : 1 ≤ k := by omega
 have k2 : k ≤ 12 := by omega
 rw [hk] at a0
 match k, k1, k2, hk, a0 with
 | 1, k1, k2, hk, a0 =>
  rw [ownF_at 1 n (n.text.isEmpty) 0 hk k1 k2 (by rw [hk]; rfl) (by decide)];exact own_gen n.text n.cols 0 1 n.kids.length 46 _ A cap c g o w k1 k2 (fun _ _ => by kernel_rfl) (fun w' => same_fresh (empty_any ⟨n.text.toArray⟩ w')) a0 a1 a2 a3 (hc.cell 4) (hc.cell 5)
 | 2, k1, k2, hk, a0 =>
  rw [ownF_at 2 n (Tr.symbol n.text) 0 hk k1 k2 (by rw [hk]; rfl) (by decide)];exact own_gen n.text n.cols 0 2 n.kids.length 33 _ A cap c g o w k1 k2 (fun _ _ => by kernel_rfl) (fun w' => same_fresh (symbol_any ⟨n.text.toArray⟩ w' (by show n.text.toArray.size ≤ _; simpa using hm))) a0 a1 a2 a3 (hc.cell 7) (hc.cell 8)
 | 3, k1, k2, hk, a0 =>
  rw [ownF_at 3 n (Tr.isNum n.text) 0 hk k1 k2 (by rw [hk]; rfl) (by decide)];exact own_gen n.text n.cols 0 3 n.kids.length 47 _ A cap c g o w k1 k2 (fun _ _ => by kernel_rfl) (fun w' => numText_any ⟨n.text.toArray⟩ w' (by show n.text.toArray.size ≤ _; simpa using hm)) a0 a1 a2 a3 (hc.cell 10) (hc.cell 11)
 | 4, k1, k2, hk, a0 =>
  rw [ownF_at 4 n ((n.text.all plainB && decide ((ByteArray.size ⟨n.text.toArray⟩ : Int) ≤ (200 : Int)))) 0 hk k1 k2 (by rw [hk]; exact plain_text n.text) (by decide)];exact own_gen n.text n.cols 0 4 n.kids.length 48 _ A cap c g o w k1 k2 (fun _ _ => by kernel_rfl) (fun w' => same_fresh (plain_any ⟨n.text.toArray⟩ w' (by show n.text.toArray.size ≤ _; simpa using hm))) a0 a1 a2 a3 (hc.cell 13) (hc.cell 14)
 | 5, k1, k2, hk, a0 =>
  rw [ownF_at 5 n (n.text.isEmpty) 2 hk k1 k2 (by rw [hk]; rfl) (by decide)];exact own_gen n.text n.cols 2 5 n.kids.length 46 _ A cap c g o w k1 k2 (fun _ _ => by kernel_rfl) (fun w' => same_fresh (empty_any ⟨n.text.toArray⟩ w')) a0 a1 a2 a3 (hc.cell 16) (hc.cell 17)
 | 6, k1, k2, hk, a0 =>
  rw [ownF_at 6 n (n.text.isEmpty) 2 hk k1 k2 (by rw [hk]; rfl) (by decide)];exact own_gen n.text n.cols 2 6 n.kids.length 46 _ A cap c g o w k1 k2 (fun _ _ => by kernel_rfl) (fun w' => same_fresh (empty_any ⟨n.text.toArray⟩ w')) a0 a1 a2 a3 (hc.cell 19) (hc.cell 20)
 | 7, k1, k2, hk, a0 =>
  rw [ownF_at 7 n (n.text.isEmpty) 2 hk k1 k2 (by rw [hk]; rfl) (by decide)];exact own_gen n.text n.cols 2 7 n.kids.length 46 _ A cap c g o w k1 k2 (fun _ _ => by kernel_rfl) (fun w' => same_fresh (empty_any ⟨n.text.toArray⟩ w')) a0 a1 a2 a3 (hc.cell 22) (hc.cell 23)
 | 8, k1, k2, hk, a0 =>
  rw [ownF_at 8 n (n.text.isEmpty) 2 hk k1 k2 (by rw [hk]; rfl) (by decide)];exact own_gen n.text n.cols 2 8 n.kids.length 46 _ A cap c g o w k1 k2 (fun _ _ => by kernel_rfl) (fun w' => same_fresh (empty_any ⟨n.text.toArray⟩ w')) a0 a1 a2 a3 (hc.cell 25) (hc.cell 26)
 | 9, k1, k2, hk, a0 =>
  rw [ownF_at 9 n (n.text.isEmpty) 3 hk k1 k2 (by rw [hk]; rfl) (by decide)];exact own_gen n.text n.cols 3 9 n.kids.length 46 _ A cap c g o w k1 k2 (fun _ _ => by kernel_rfl) (fun w' => same_fresh (empty_any ⟨n.text.toArray⟩ w')) a0 a1 a2 a3 (hc.cell 28) (hc.cell 29)
 | 10, k1, k2, hk, a0 =>
  rw [ownF_at 10 n (Tr.accents.contains n.text) 1 hk k1 k2 (by rw [hk]; rfl) (by decide)];exact own_gen n.text n.cols 1 10 n.kids.length 49 _ A cap c g o w k1 k2 (fun _ _ => by kernel_rfl) (fun w' => same_fresh (accent_any ⟨n.text.toArray⟩ w')) a0 a1 a2 a3 (hc.cell 31) (hc.cell 32)
 | 11, k1, k2, hk, a0 =>
  rw [ownF_at 11 n (Tr.fence n.text) 1 hk k1 k2 (by rw [hk]; rfl) (by decide)];exact own_gen n.text n.cols 1 11 n.kids.length 50 _ A cap c g o w k1 k2 (fun _ _ => by kernel_rfl) (fun w' => same_fresh (fence_any ⟨n.text.toArray⟩ w')) a0 a1 a2 a3 (hc.cell 34) (hc.cell 35)
 | 12, k1, k2, hk, a0 =>
  rw [ownF_at 12 n (n.text.isEmpty) 0 hk k1 k2 (by rw [hk]; rfl) (by decide)];exact own_gen n.text n.cols 0 12 n.kids.length 46 _ A cap c g o w k1 k2 (fun _ _ => by kernel_rfl) (fun w' => same_fresh (empty_any ⟨n.text.toArray⟩ w')) a0 a1 a2 a3 (hc.cell 37) (hc.cell 38)
mutual
def chkN : Nat → Tr.Nd → Bool
 | d, .mk k t c ks => decide (d ≤ 24) && (ownF (.mk k t c ks) && chkL (k == 1) (d + 1) ks)
def chkL : Bool → Nat → List Tr.Nd → Bool
 | _, _, [] => true
 | r, d, n :: ns => (!((n.kind == 1) == r)) && (chkN d n && chkL r d ns)
end
theorem chkN_eq (d : Nat) (n : Tr.Nd) : chkN d n = (decide (d ≤ 24) && (ownF n && chkL (n.kind == 1) (d + 1) n.kids)) := by cases n; rw [chkN]; rfl
theorem chkL_take (r : Bool) (d : Nat) : ∀ (l : List Tr.Nd) (i : Nat) (h : i < l.length), chkL r d (l.take (i + 1)) = (chkL r d (l.take i) && ((!((l[i].kind == 1) == r)) && chkN d l[i]))
 | [], i, h => by simp at h
 | x :: l, 0, h => by simp [chkL]
 | x :: l, i + 1, h => by
  simp only [List.take_succ_cons, chkL, List.getElem_cons_succ];rw [chkL_take r d l i (by simpa using h)];simp only [Bool.and_assoc]
theorem chkL_no (r : Bool) (d : Nat) : ∀ (l : List Tr.Nd) (i : Nat) (h : i < l.length), ((!((l[i].kind == 1) == r)) && chkN d l[i]) = false → chkL r d l = false
 | [], i, h, _ => by simp at h
 | x :: l, 0, h, hn => by
  simp only [List.getElem_cons_zero] at hn;rw [chkL, ← Bool.and_assoc, hn, Bool.false_and]
 | x :: l, i + 1, h, hn => by
  simp only [List.getElem_cons_succ] at hn;rw [chkL, chkL_no r d l i (by simpa using h) hn, Bool.and_false, Bool.and_false]
def NodeEnd (c : Nat) (d m : Nat) (n : Tr.Nd) (w : World) (e : Ending) (w' : World) : Prop :=
 ∃ m' : Nat, e = .returned (.bool (chkN d n && decide (m + Tr.count n ≤ 1000))) ∧ Blk w' c 86 (checkCells m') ∧ Touch (· = c) w w' ∧ ((chkN d n && decide (m + Tr.count n ≤ 1000)) = true → m' = m + Tr.count n)
theorem check_put (m : Nat) : (checkCells (m : Int)).setIfInBounds 39 (.int .i64 ((m : Int) + 1)) = checkCells ((m + 1 : Nat) : Int) := by rfl
theorem check_39 (m : Int) : (checkCells m)[39]? = some (.int .i64 m) := by rfl
theorem node_any (W0 : World) (c : Nat) (hcW : W0.heap.size ≤ c) (k : Nat) : ∀ (n : Tr.Nd) (A : Option Addr) (g o cap d m : Nat) (dd : Int) (w : World), dd = d → Tr.count n ≤ k →
  W0.cell? ⟨g, o, none⟩ = some (.int .i64 n.kind) → W0.cell? ⟨g, o + 1, none⟩ = some (.string ⟨n.text.toArray⟩) → W0.cell? ⟨g, o + 2, none⟩ = some (.int .i64 n.cols) → W0.cell? ⟨g, o + 3, none⟩ = some (.slice A n.kids.length cap) →
  RepL W0 n.kids (.slice A n.kids.length cap) → n.text.length ≤ maxLen → Blk w c 86 (checkCells m) → Touch (· = c) W0 w → m ≤ 1000 → d ≤ 1000 →
  Calls Try.prog 31 #[.pointer (some ⟨c, 0, none⟩), .pointer (some ⟨g, o, none⟩), .int .i64 dd] w (NodeEnd c d m n w) := by
 induction k with
 | zero => intro n _ _ _ _ _ _ _ _ _ h; have := Tr.count_pos n; omega
 | succ k ih =>
  intro n A g o cap d m dd w hdd hcn a0 a1 a2 a3 hrep htx hb htw hm hd;subst hdd;have hgc : g < W0.heap.size := bL a0;have hne : g ≠ c := by omega
  have hlen := hrep.len;unfold maxLen at htx hlen;have hck := Tr.count_kids n;have hnl := Tr.countL_len n.kids;have HIH := hid ih;have HREP := hid hrep;have HCE := hid (chkN_eq d n);have HTW := hid htw;have HB := hid hb;have ht1 : Touch (· = c) w (w.setCell ⟨c, 39, none⟩ (.int .i64 ((m : Int) + 1))) := Touch.setCell (S := (· = c)) (Touch.refl _ w) (p := ⟨c, 39, none⟩) (.inl rfl) _
  have hb1 : Blk (w.setCell ⟨c, 39, none⟩ (.int .i64 ((m : Int) + 1))) c 86 (checkCells ((m + 1 : Nat) : Int)) := by
   rw [← check_put]; exact hb.put 39 _
  have q39 : w.cell? ⟨c, 39, none⟩ = some (.int .i64 (m : Int)) := (hb.cell 39).trans (check_39 m);have z39 : w.frozen? ⟨c, 39, none⟩ = false := hb.frozen 39;have r39 : (w.setCell ⟨c, 39, none⟩ (.int .i64 ((m : Int) + 1))).cell? ⟨c, 39, none⟩ = some (.int .i64 ((m : Int) + 1)) := (hb1.cell 39).trans (check_39 _);have HT1 := hid ht1;have HB1 := hid hb1;clear ih hrep htw hb ht1 hb1
  by_cases hm1 : m = 1000
  ·have lim : decide ((1000 : Int) < (m : Int) + 1) = true := dT (by omega)
   have limp : (1000 : Int) < (m : Int) + 1 := by omega
   have HCH := hid (show (chkN d n && decide (m + Tr.count n ≤ 1000)) = false by
    have := Tr.count_pos n;have e : decide (m + Tr.count n ≤ 1000) = false := dF (by omega);rw [e, Bool.and_false])
   clear hm1 HCE;go_enter Try.func31, Try.ntmps31;go_wp2_with fail
   go_ret;exact ⟨m + 1, by rw [HCH.out]; rfl, HB1.out, HT1.out, fun h => by rw [HCH.out] at h; cases h⟩
  have lim : decide ((1000 : Int) < (m : Int) + 1) = false := dF (by omega)
  by_cases hd24 : 24 < d
  ·have dl : decide ((24 : Int) < (d : Int)) = true := dT (by omega)
   have dln : decide (24 < d) = true := dT (by omega)
   have hch : chkN d n = false := by
    rw [HCE.out];have : decide (d ≤ 24) = false := dF (by omega);rw [this]; rfl
   have HCH := hid (show (chkN d n && decide (m + Tr.count n ≤ 1000)) = false by rw [hch]; rfl);clear hch HCE;go_enter Try.func31, Try.ntmps31;go_wp2_with fail
   go_ret;exact ⟨m + 1, by rw [HCH.out]; rfl, HB1.out, HT1.out, fun h => by rw [HCH.out] at h; cases h⟩
  ·have dl : decide ((24 : Int) < (d : Int)) = false := dF (by omega)
   have dln : decide (24 < d) = false := dF (by omega);have b0 := (HTW.out.trans HT1.out).cell a0 hne;have b1 := (HTW.out.trans HT1.out).cell a1 hne;have b2 := (HTW.out.trans HT1.out).cell a2 hne;have b3 := (HTW.out.trans HT1.out).cell a3 hne;have HOWN := hid (own_any n A cap c g o _ _ HB1.out htx b0 b1 b2 b3);have hd24' : decide (d ≤ 24) = true := dT (by omega);have HC2 := hid (show chkN d n = (ownF n && chkL (n.kind == 1) (d + 1) n.kids) by rw [HCE.out, hd24']; rfl);clear HCE hd24' b0 b1 b2 b3;go_enter Try.func31, Try.ntmps31;go_wp2_with fail
   refine HOWN.out.mono ?_;rintro _ w2 ⟨rfl, hf2⟩;have hb2 := hf2.blk HB1.out (fun h => h);have ht2 : Touch (· = c) w w2 := HT1.out.trans (hf2.mono (fun _ h => h.elim));have HB2 := hid hb2;have HT2 := hid ht2;have b0 := (HTW.out.trans ht2).cell a0 hne;have b3 := (HTW.out.trans ht2).cell a3 hne;clear hf2 hb2 ht2 r39 q39 z39;cases how : ownF n with
   | false =>
    have HCH := hid (show (chkN d n && decide (m + Tr.count n ≤ 1000)) = false by rw [HC2.out, how]; rfl);go_wp2_with fail
    go_ret;exact ⟨m + 1, by rw [HCH.out]; rfl, HB2.out, HT2.out, fun h => by rw [HCH.out] at h; cases h⟩
   | true =>
    have HC3 := hid (show chkN d n = chkL (n.kind == 1) (d + 1) n.kids by rw [HC2.out, how]; rfl);clear HC2 how;go_wp2_with fail
    go_loopw [35] (fun i wr => ∃ (j m' : Nat), i = .int .i64 j ∧ j ≤ n.kids.length ∧ Hid (Blk wr c 86 (checkCells m')) ∧ Hid (Touch (· = c) w wr) ∧ Hid (m' = m + 1 + Tr.countL (n.kids.take j) ∧ m' ≤ 1000) ∧ Hid (chkL (n.kind == 1) (d + 1) (n.kids.take j) = true)) (fun i _ => n.kids.length - (intOf i).toNat)
    case atStart => exact ⟨0, m + 1, rfl, Nat.zero_le _, HB2.out, HT2.out, ⟨by simp [Tr.countL], by omega⟩, by simp [chkL, Hid]⟩
    case round =>
     obtain ⟨j, m', rfl, hj, HB3, HT3, HM, HL⟩ := hrel
     by_cases c1 : j < n.kids.length
     ·have d1 : decide ((j : Int) < (n.kids.length : Int)) = true := dT (by omega)
      have d1n : decide (j < n.kids.length) = true := dT (by omega);have d1' : (j : Int) < (n.kids.length : Int) := by omega
      obtain ⟨g', o', sl, rfl, hg', n0, n1, n2, n3, hrk⟩ := HREP.out.get j c1;have htx' := HREP.out.texts j c1;obtain ⟨A', cap', rfl⟩ := hrk.slice;have hne' : g' ≠ c := by omega
      have e0 := (HTW.out.trans HT3.out).cell a0 hne;have e3 := (HTW.out.trans HT3.out).cell a3 hne;have x0 := (HTW.out.trans HT3.out).cell n0 hne';have hcm := Tr.count_mem (List.getElem_mem (l := n.kids) (n := j) c1);have hct := Tr.countL_take n.kids j c1;have hcl := Tr.countL_le n.kids (j + 1);have hcj := Tr.countL_le n.kids j;have HS := hid (chkL_take (n.kind == 1) (d + 1) n.kids j c1);have HN := hid (chkL_no (n.kind == 1) (d + 1) n.kids j c1);have HM0 := HM.out.1;have HM1 := HM.out.2;have HX := hid (fun (w' : World) (hb' : Blk w' c 86 (checkCells m')) (ht' : Touch (· = c) W0 w') => HIH.out n.kids[j] A' g' (o' + j * 4) cap' (d + 1) m' ((d : Int) + 1) w' (by omega) (by omega) n0 n1 n2 n3 hrk htx' hb' ht' (by omega) (by omega));have HCT := hid hct;clear n0 n1 n2 n3 hrk HIH HREP hct;generalize n.kids[j] = x at *;cases p1 : (n.kind == 1) with
      | false =>
       rw [p1] at HS HN;cases p2 : (x.kind == 1) with
       | false =>
        have HCH := hid (show (chkN d n && decide (m + Tr.count n ≤ 1000)) = false by rw [HC3.out, p1, HN.out (by rw [p2]; rfl)]; rfl);go_wp2_with fail
        go_quiet (fail)
        go_wp2_with fail
        go_ret;exact ⟨m', by rw [HCH.out]; rfl, HB3.out, HT3.out.drewN _, fun h => by rw [HCH.out] at h; cases h⟩
       | true =>
        go_wp2_with fail
        refine wp_region_segs [([0,1,2,3,4,5,6,7,8,9,10,11,12,13,14,15,16,17,18,19,20,21,22,23,24],25)] [26,27] (by kernel_rfl) (by kernel_rfl) ?_;simp only [wpSegs, pick, List.getElem?_cons_zero, List.getElem?_cons_succ]
        repeat (quiet_step (fail))
        refine wpQuiet_nil ?_;rintro _ ⟨nq, rfl⟩;go_wp2_with fail
        refine (HX.out _ (HB3.out.drewN nq) ((HTW.out.trans HT3.out).drewN nq)).mono ?_;rintro _ w5 ⟨m5, rfl, hb5, ht5, hm5'⟩;have HB5 := hid hb5;have HT5 := hid (HT3.out.trans (Touch.ofN ht5));clear hb5 ht5 e0 e3 x0;cases hx : (chkN (d + 1) x && decide (m' + Tr.count x ≤ 1000)) with
        | false =>
         have HCH := hid (show (chkN d n && decide (m + Tr.count n ≤ 1000)) = false by
          rcases Bool.and_eq_false_iff.1 hx with hx1 | hx1
          ·rw [HC3.out, p1, HN.out (by rw [hx1, Bool.and_false]), Bool.false_and]
          ·rw [decide_eq_false_iff_not] at hx1
           have := HCT.out;have e : decide (m + Tr.count n ≤ 1000) = false := dF (by omega);rw [e, Bool.and_false])
         rw [hx] at hm5';go_wp2_with fail
         repeat (quiet_step (fail))
         refine wpQuiet_nil ?_;rintro _ ⟨nq2, rfl⟩;go_wp2_with fail
         go_ret;exact ⟨m5, by rw [HCH.out]; rfl, HB5.out.drewN _, HT5.out.drewN _, fun h => by rw [HCH.out] at h; cases h⟩
        | true =>
         rw [hx] at hm5';have hm6 := hm5' rfl;clear hm5';obtain ⟨hx1, hx2⟩ := Bool.and_eq_true_iff.1 hx;rw [decide_eq_true_eq] at hx2
         have HL5 := hid (show chkL false (d + 1) (n.kids.take (j + 1)) = true by
          have hl := HL.out;rw [p1] at hl;rw [HS.out, hl, p2, hx1]; rfl)
         go_wp2_with fail
         repeat (quiet_step (fail))
         refine wpQuiet_nil ?_;rintro _ ⟨nq2, rfl⟩;go_wp2_with fail
         go_roundw
         case rel => exact ⟨j + 1, m5, by go_num, by omega, HB5.out.drewN _, HT5.out.drewN _, ⟨by rw [HCT.out]; omega, by omega⟩, HL5⟩
         case measure => simp [intOf]; omega
      | true =>
       rw [p1] at HS HN;cases p2 : (x.kind == 1) with
       | false =>
        go_wp2_with fail
        refine wp_region_segs [([0,1,2,3,4,5,6,7,8,9,10,11,12,13,14,15,16,17,18,19,20,21,22,23,24],25)] [26,27] (by kernel_rfl) (by kernel_rfl) ?_;simp only [wpSegs, pick, List.getElem?_cons_zero, List.getElem?_cons_succ]
        repeat (quiet_step (fail))
        refine wpQuiet_nil ?_;rintro _ ⟨nq, rfl⟩;go_wp2_with fail
        refine (HX.out _ (HB3.out.drewN nq) ((HTW.out.trans HT3.out).drewN nq)).mono ?_;rintro _ w5 ⟨m5, rfl, hb5, ht5, hm5'⟩;have HB5 := hid hb5;have HT5 := hid (HT3.out.trans (Touch.ofN ht5));clear hb5 ht5 e0 e3 x0;cases hx : (chkN (d + 1) x && decide (m' + Tr.count x ≤ 1000)) with
        | false =>
         have HCH := hid (show (chkN d n && decide (m + Tr.count n ≤ 1000)) = false by
          rcases Bool.and_eq_false_iff.1 hx with hx1 | hx1
          ·rw [HC3.out, p1, HN.out (by rw [hx1, Bool.and_false]), Bool.false_and]
          ·rw [decide_eq_false_iff_not] at hx1
           have := HCT.out;have e : decide (m + Tr.count n ≤ 1000) = false := dF (by omega);rw [e, Bool.and_false])
         rw [hx] at hm5';go_wp2_with fail
         repeat (quiet_step (fail))
         refine wpQuiet_nil ?_;rintro _ ⟨nq2, rfl⟩;go_wp2_with fail
         go_ret;exact ⟨m5, by rw [HCH.out]; rfl, HB5.out.drewN _, HT5.out.drewN _, fun h => by rw [HCH.out] at h; cases h⟩
        | true =>
         rw [hx] at hm5';have hm6 := hm5' rfl;clear hm5';obtain ⟨hx1, hx2⟩ := Bool.and_eq_true_iff.1 hx;rw [decide_eq_true_eq] at hx2
         have HL5 := hid (show chkL true (d + 1) (n.kids.take (j + 1)) = true by
          have hl := HL.out;rw [p1] at hl;rw [HS.out, hl, p2, hx1]; rfl)
         go_wp2_with fail
         repeat (quiet_step (fail))
         refine wpQuiet_nil ?_;rintro _ ⟨nq2, rfl⟩;go_wp2_with fail
         go_roundw
         case rel => exact ⟨j + 1, m5, by go_num, by omega, HB5.out.drewN _, HT5.out.drewN _, ⟨by rw [HCT.out]; omega, by omega⟩, HL5⟩
         case measure => simp [intOf]; omega
       | true =>
        have HCH := hid (show (chkN d n && decide (m + Tr.count n ≤ 1000)) = false by rw [HC3.out, p1, HN.out (by rw [p2]; rfl)]; rfl);go_wp2_with fail
        go_quiet (fail)
        go_wp2_with fail
        go_ret;exact ⟨m', by rw [HCH.out]; rfl, HB3.out, HT3.out.drewN _, fun h => by rw [HCH.out] at h; cases h⟩
     ·have d1 : decide ((j : Int) < (n.kids.length : Int)) = false := dF (by omega)
      have d1n : decide (j < n.kids.length) = false := dF (by omega);obtain rfl : j = n.kids.length := by omega
      have hl := HL.out;rw [List.take_length] at hl;obtain ⟨hmm, hmx⟩ := HM.out;rw [List.take_length] at hmm
      have HCH := hid (show (chkN d n && decide (m + Tr.count n ≤ 1000)) = true by
       have e : decide (m + Tr.count n ≤ 1000) = true := dT (by omega);rw [HC3.out, hl, e]; rfl)
      clear hl;go_wp2_with fail
      go_ret;exact ⟨m', by rw [HCH.out]; rfl, HB3.out, HT3.out, fun _ => by omega⟩
end Go.Proofs.Ytnamnmpnoiodnaa
namespace Go.Proofs.Ytnamnmpnoiodnaa
open Go.RowKit
attribute [local go_sem] Oper.semAt_some
theorem built_check : Try.prog.built 86 [(0, .agg kindCells)] = some (checkCells 0) := by kernel_rfl
theorem valid_any (n : Tr.Nd) (sl : Value) (w : World) (hr : RepL w n.kids sl) (ht : n.text.length ≤ maxLen) :
  Calls Try.prog 18 #[.agg #[.int .i64 n.kind, .string ⟨n.text.toArray⟩, .int .i64 n.cols, sl]] w fun e w' => e = .returned (.bool ((n.kind == 1) && (chkN 1 n && decide (Tr.count n ≤ 1000)))) ∧ Fresh w w' := by
 obtain ⟨A, cap, rfl⟩ := hr.slice;have HR := hid hr;clear hr;go_enter Try.func18, Try.ntmps18;go_wp2_with fail
 refine (kinds_any _).mono ?_;rintro _ w1 ⟨rfl, hf1⟩;have hf1' : Fresh w w1 := hf1.pre;have hb1 := hf1.blk (Blk.new w 32 #[.int .i64 n.kind, .string ⟨n.text.toArray⟩, .int .i64 n.cols, .slice A n.kids.length cap]) (fun h => h);obtain ⟨q0, q1, q2, q3, _, _, _, _, hg⟩ := Blk.four hb1;have HN := hid (node_any w1 w1.heap.size (Nat.le_refl _) _ n A w.heap.size 0 cap 1 0 1 (w1.alloc (.cells (checkCells 0) 86)) rfl (Nat.le_refl _) q0 q1 q2 q3 (HR.out.fresh hf1') ht (Blk.new _ _ _) ((Touch.refl _ _).alloc _) (by omega) (by decide));have HF1 := hid hf1';have hb2 := hb1.alloc (.cells (checkCells 0) 86);obtain ⟨r0, r1, r2, r3, _, _, _, _, hg2⟩ := Blk.four hb2;clear hf1 hf1' hb1 hb2;cases hk : (n.kind == 1) with
 | false =>
  go_wp2_with (refine wpList_build_kind [(0, .agg kindCells)] built_check _ rfl rfl rfl (.agg (checkCells 0)) rfl ?_)
  go_ret;exact ⟨ret_bool' _ _ (by rw [hk]; rfl), HF1.out.alloc _⟩
 | true =>
  go_wp2_with (refine wpList_build_kind [(0, .agg kindCells)] built_check _ rfl rfl rfl (.agg (checkCells 0)) rfl ?_)
  refine HN.out.mono ?_;rintro _ w2 ⟨m', rfl, hb3, ht3, _⟩;rw [Nat.zero_add];have hf2 : Fresh w w2 := HF1.out.trans' (Touch.pre ht3) (fun i hi => by right; have := HF1.out.size; omega);have HF2 := hid hf2;clear hf2 hb3 ht3 q0 q1 q2 q3 r0 r1 r2 r3;go_wp2_with fail
  go_ret;exact ⟨ret_bool' _ _ (by rw [hk]; rfl), HF2.out⟩
end Go.Proofs.Ytnamnmpnoiodnaa
namespace Go.Proofs.Ytnamnmpnoiodnaa
open Go.RowKit
theorem ownF_form (n : Tr.Nd) : ownF n = (Tr.textOK n.kind n.text && Tr.kidsOK n.kind n.cols n.kids.length) := by
 unfold ownF
 by_cases h1 : 1 ≤ n.kind
 ·by_cases h2 : n.kind ≤ 12
  ·simp [h1, h2]
  ·have : Tr.kidsOK n.kind n.cols n.kids.length = false := by
    unfold Tr.kidsOK;rw [if_neg (by omega)];split
    ·rfl
    ·rw [if_neg (by omega), if_neg (by omega), if_neg (by omega), if_neg (by omega), if_neg (by omega)]
   simp [this]
 ·have : Tr.kidsOK n.kind n.cols n.kids.length = false := by
   unfold Tr.kidsOK;rw [if_neg (by omega)];split
   ·rfl
   ·rw [if_neg (by omega), if_neg (by omega), if_neg (by omega), if_neg (by omega), if_neg (by omega)]
  simp [this]
theorem chk_form (n : Tr.Nd) : ∀ d, chkN d n = (Tr.form n && decide (d + Tr.depth n ≤ 25)) := by
 induction n using Tr.Nd.ind with
 | h n ih =>
  have hL : ∀ (r : Bool) (l : List Tr.Nd) (d : Nat), d ≤ 25 → (∀ x ∈ l, ∀ d, chkN d x = (Tr.form x && decide (d + Tr.depth x ≤ 25))) → chkL r d l = (Tr.formL r l && decide (d + Tr.depthL l ≤ 25)) := by
   intro r l
   induction l with
   | nil => intro d hd _; simp [chkL, Tr.formL, Tr.depthL, hd]
   | cons x l ihl =>
    intro d hd h;rw [chkL, Tr.formL, Tr.depthL, h x (by simp) d, ihl d hd (fun y hy => h y (by simp [hy]))]
    have e : decide (d + max (Tr.depth x) (Tr.depthL l) ≤ 25) = (decide (d + Tr.depth x ≤ 25) && decide (d + Tr.depthL l ≤ 25)) := by
     rw [Bool.eq_iff_iff, Bool.and_eq_true, decide_eq_true_iff, decide_eq_true_iff, decide_eq_true_iff]; omega
    rw [e, bne];generalize (!((x.kind == 1) == r)) = a;generalize Tr.form x = b;generalize Tr.formL r l = c;generalize decide (d + Tr.depth x ≤ 25) = p;generalize decide (d + Tr.depthL l ≤ 25) = q;cases a <;> cases b <;> cases c <;> cases p <;> cases q <;> rfl
  intro d;rw [chkN_eq, ownF_form, Tr.form_eq, Tr.depth_kids]
  by_cases hd : d ≤ 24
  ·rw [hL _ _ (d + 1) (by omega) ih]
   have e : decide (d + 1 + Tr.depthL n.kids ≤ 25) = decide (d + (Tr.depthL n.kids + 1) ≤ 25) := by
    rw [Bool.eq_iff_iff, decide_eq_true_iff, decide_eq_true_iff]; omega
   rw [e];simp [hd, Bool.and_assoc]
  ·have e : decide (d + (Tr.depthL n.kids + 1) ≤ 25) = false := dF (by omega)
   rw [e];simp [hd]
theorem valid_is (n : Tr.Nd) : ((n.kind == 1) && (chkN 1 n && decide (Tr.count n ≤ 1000))) = Tr.valid n := by
 rw [chk_form];unfold Tr.valid;have e2 : decide (1 + Tr.depth n ≤ 25) = decide (Tr.depth n ≤ 24) := by rw [Bool.eq_iff_iff, decide_eq_true_iff, decide_eq_true_iff]; omega
 rw [e2];cases (n.kind == 1) <;> cases Tr.form n <;> cases decide (Tr.depth n ≤ 24) <;> cases decide (Tr.count n ≤ 1000) <;> rfl
theorem valid_all (n : Tr.Nd) (sl : Value) (w : World) (hr : RepL w n.kids sl) (ht : n.text.length ≤ maxLen) :
  Calls Try.prog 18 #[.agg #[.int .i64 n.kind, .string ⟨n.text.toArray⟩, .int .i64 n.cols, sl]] w fun e w' => e = .returned (.bool (Tr.valid n)) ∧ Fresh w w' := by
 rw [← valid_is n]; exact valid_any n sl w hr ht
end Go.Proofs.Ytnamnmpnoiodnaa
