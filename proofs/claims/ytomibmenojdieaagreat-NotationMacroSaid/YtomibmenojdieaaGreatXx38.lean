/- Part 38 of 42 of a proof; its texts, joined: NzF, NyU, NmR, NmS. No condition. -/
import Derived.Test.YtomibmenojdieaaGreatXx37
import Derived.Test.YtomibmenojdieaaGreatXx7
import Derived.Test.YtomibmenojdieaaGreatXx17
import Derived.Test.YtomibmenojdieaaGreatXx30
import Derived.Test.YtomibmenojdieaaGreatXx2
set_option maxRecDepth 100000
set_option maxHeartbeats 2000000
namespace Go.Proofs.YtomibmenojdieaaGreat
open Go.RowKit
open Tr (Nd)
attribute [local go_sem] stillV stillUpon
def few20 (l : List MacD) : Bool := (l.all fun m => decide (m.1.size ≤ 40) && decide (m.2.2.size ≤ 200)) && decide (l.length ≤ 70)
theorem all_from {α : Type} (p : α → Bool) (l : List α) (q : Nat) (hq : q < l.length) : (l.drop q).all p = (p l[q] && (l.drop (q + 1)).all p) := by
 rw [List.drop_eq_getElem_cons hq, List.all_cons]
theorem few20_any (l : List MacD) (A : Option Addr) (cp : Nat) (w : World) (h : MacRow w A l) (hl : l.length ≤ maxLen) : Calls Tryz.prog 5 #[.slice A l.length cp] w fun e w' => e = .returned (.bool (few20 l)) ∧ Fresh w w' := by
 have H := hid h;have HL := hid hl;clear h hl;refine Calls.via fun Q hQ => ?_
 have HQ := hid hQ;clear hQ;obtain ⟨X, hX⟩ : ∃ X, X = few20 l := ⟨_, rfl⟩;rw [← hX] at HQ;have HX := hid (show X = ((l.drop 0).all (fun m => decide (m.1.size ≤ 40) && decide (m.2.2.size ≤ 200)) && decide (l.length ≤ 70)) from hX);clear hX;obtain ⟨n, hn⟩ : ∃ n, n = l.length := ⟨_, rfl⟩;have HN := hid hn;rw [← hn] at HX ⊢;clear hn;go_enter Tryz.func5, Tryz.ntmps5;go_wp2_with fail
 go_loopw [3] (fun i wr0 => ∃ (wr : World) (q : Nat), wr = wr0 ∧ i = .int .i64 q ∧ q ≤ n ∧ Hid (Fresh w wr) ∧ Hid (X = ((l.drop q).all (fun m => decide (m.1.size ≤ 40) && decide (m.2.2.size ≤ 200)) && decide (n ≤ 70)))) (fun i _ => n - (intOf i).toNat)
 case atStart => exact ⟨_, 0, rfl, rfl, Nat.zero_le _, hid (Touch.refl _ _), HX⟩
 case round =>
  clear HX;obtain ⟨wr, q, rfl, rfl, hq, HF, HX⟩ := hrel
  by_cases c1 : q < n
  ·have d1 : decide ((q : Int) < (n : Int)) = true := dT (by omega)
   have d1n : decide (q < n) = true := dT c1;have d1' : (q : Int) < (n : Int) := by omega
   have hql : q < l.length := by have := HN.out; omega
   have hnl : n ≤ maxLen := by have := HN.out; have := HL.out; omega
   unfold maxLen at hnl;obtain ⟨g, f, rfl, hg, q0, q1, q2⟩ := (H.out.fresh HF.out) q hql;have HXS := hid (show X = (((decide (l[q].1.size ≤ 40) && decide (l[q].2.2.size ≤ 200)) && (l.drop (q + 1)).all (fun m => decide (m.1.size ≤ 40) && decide (m.2.2.size ≤ 200))) && decide (n ≤ 70)) from by rw [HX.out, all_from _ l q hql]);generalize l[q] = m at q0 q1 q2 HXS;obtain ⟨ms, mp, mb⟩ := m;simp only at q0 q1 q2 HXS
   by_cases c2 : ms.size ≤ 40
   ·have d2 : decide ((ms.size : Int) > 40) = false := dF (by omega)
    have d2n : decide ((40 : Int) < (ms.size : Int)) = false := dF (by omega);have d2' : decide (40 < ms.size) = false := dF (by omega);have d2'' : ¬ (40 : Int) < (ms.size : Int) := by omega
    by_cases c3 : mb.size ≤ 200
    ·have d3 : decide ((mb.size : Int) > 200) = false := dF (by omega)
     have d3n : decide ((200 : Int) < (mb.size : Int)) = false := dF (by omega);have d3' : decide (200 < mb.size) = false := dF (by omega);have d3'' : ¬ (200 : Int) < (mb.size : Int) := by omega
     have HXN := hid (show X = ((l.drop (q + 1)).all (fun m => decide (m.1.size ≤ 40) && decide (m.2.2.size ≤ 200)) && decide (n ≤ 70)) from by rw [HXS.out, dT c2, dT c3]; rfl);go_wp2_with fail
     exact ⟨⟨_, q + 1, rfl, by simp, by omega, HF, HXN⟩, by simp [intOf]; omega⟩
    ·have d3 : decide ((mb.size : Int) > 200) = true := dT (by omega)
     have d3n : decide ((200 : Int) < (mb.size : Int)) = true := dT (by omega);have d3' : decide (200 < mb.size) = true := dT (by omega);have d3'' : (200 : Int) < (mb.size : Int) := by omega
     have HXN := hid (show X = false from by rw [HXS.out, dT c2, dF c3]; rfl);rw [HXN.out] at HQ;go_wp2_with fail
     exact HQ.out _ _ ⟨rfl, HF.out⟩
   ·have d2 : decide ((ms.size : Int) > 40) = true := dT (by omega)
    have d2n : decide ((40 : Int) < (ms.size : Int)) = true := dT (by omega);have d2' : decide (40 < ms.size) = true := dT (by omega);have d2'' : (40 : Int) < (ms.size : Int) := by omega
    have HXN := hid (show X = false from by rw [HXS.out, dF c2]; rfl);rw [HXN.out] at HQ;go_wp2_with fail
    exact HQ.out _ _ ⟨rfl, HF.out⟩
  ·have d1 : decide ((q : Int) < (n : Int)) = false := dF (by omega)
   have d1n : decide (q < n) = false := dF c1;have d1' : ¬ (q : Int) < (n : Int) := by omega
   obtain rfl : q = n := by omega
   have HXE := hid (show X = decide ((q : Int) ≤ 70) from by
    rw [HX.out, List.drop_eq_nil_of_le (by have := HN.out; omega)];show decide (q ≤ 70) = _;rw [Bool.eq_iff_iff, decide_eq_true_iff, decide_eq_true_iff];omega)
   rw [HXE.out] at HQ;go_wp2_with fail
   exact HQ.out _ _ ⟨rfl, HF.out⟩
end Go.Proofs.YtomibmenojdieaaGreat
namespace Go.Proofs.YtomibmenojdieaaGreat
open Go.RowKit
open Tr (Nd)
open Lx (PTok)
open Mcr (R)
attribute [local go_sem] stillV stillUpon
theorem parse_over (s : ByteArray) (P : Nat) (tp : Option Addr) (w : World) (hm : s.size ≤ 140737488355328) (hc : 8000 < (Lx.lexAll s.data.toList).1.length) : Calls Tryz.prog 14 #[.string s, .pointer tp, .int .i64 (P : Int)] w (fun e w' => ∃ p, ParseE w (.err p 6) e w') := by
 have HER := hid (show (6 : Nat) ≠ 0 by decide);have HTK := hid (fun (w' : World) => Tokens_over s w' hm hc);clear hm hc;refine Calls.via fun Q hQ => ?_
 have HQ := hid hQ;clear hQ;go_enter Tryz.func14, Tryz.ntmps14;go_wp2_with fail
 refine (HTK.out _).mono ?_;rintro _ w1 ⟨hf, p, rfl⟩;have HF := hid (Touch.pre (Touch.pre hf));have HBN := hid (hf.blk ((Blk.new w 35 zeroN).alloc (.cells #[.int .i64 0, .int .i64 0] 48)) (fun h => h));have HBF := hid (hf.blk (Blk.new2 w (.cells zeroN 35) 48 #[.int .i64 0, .int .i64 0]) (fun h => h));clear hf;obtain ⟨p0, p1, p2, p3, y0, y1, y2, y3, hlt0⟩ := Blk.four HBN.out;obtain ⟨q0, q1, z0, z1, hlt1⟩ := Blk.two HBF.out;go_wp2_with fail
 have hne : w.heap.size ≠ w.heap.size + 1 := by omega
 have n1 := (HBN.out.self4 (.int .i64 0) (.string ⟨#[]⟩) (.int .i64 0) (.slice none 0 0)).far2 hne (.int .i64 (p : Int)) (.int .i64 6);have n2 := (HBF.out.far4 (Ne.symm hne) (.int .i64 0) (.string ⟨#[]⟩) (.int .i64 0) (.slice none 0 0)).self2 (.int .i64 (p : Int)) (.int .i64 6);have hf5 : Fresh w _ := (HF.out.put4 (g := w.heap.size) (.inr (Nat.le_refl _)) (.int .i64 0) (.string ⟨#[]⟩) (.int .i64 0) (.slice none 0 0)).put2 (g := w.heap.size + 1) (.inr (by omega)) (.int .i64 (p : Int)) (.int .i64 6);obtain ⟨g0, g1, g2, g3, _⟩ := Blk.four n1;obtain ⟨f0, f1, _⟩ := Blk.two n2;simp only [put2, put4] at g0 g1 g2 g3 f0 f1 hf5
 (try simp only [Exit.inBlock, Exit.then])
 refine bodyPost_ret (v := .tuple #[.agg zeroN, .bool false, failV p 6]) (by simp [failV, results, Tryz.results14, go_sem, f0, f1, g0, g1, g2, g3]) rfl ?_;exact HQ.out _ _ ⟨p, HER.out, rfl, hf5⟩
theorem parseX_over (s : ByteArray) (tp : Option Addr) (w : World) (hm : s.size ≤ 140737488355328) (hc : 8000 < (Lx.lexAll s.data.toList).1.length) : Calls Tryz.prog 7 #[.string s, .pointer tp] w (fun e w' => ∃ p : Nat, ParseXE w (Mcr.nilNd, p, 6) e w') := by
 have HP := hid (fun w' => parse_over s 0 tp w' hm hc);clear hm hc;refine Calls.via fun Q hQ => ?_
 have HQ := hid hQ;clear hQ;go_enter Tryz.func7, Tryz.ntmps7;go_wp2_with fail
 refine (HP.out _).mono ?_;rintro _ w2 ⟨i, he0, rfl, hf⟩;have HE0 := hid he0;have e0 := fail_ne he0;have hb2 := hf.blk (Blk.new w 35 #[.int .i64 0, .string ⟨#[]⟩, .int .i64 0, .slice none 0 0]) (fun h => h);have hf2 : Fresh w w2 := Touch.pre hf;clear hf he0;unfold failV zeroN;go_wp2_with fail
 have hb3 := (hb2.alloc (.cells #[.int .i64 0, .string ⟨#[]⟩, .int .i64 0, .slice none 0 0] 35)).alloc (.cells #[.int .i64 (i : Int), .int .i64 6] 48);have hf3 := (hf2.alloc (.cells #[.int .i64 0, .string ⟨#[]⟩, .int .i64 0, .slice none 0 0] 35)).alloc (.cells #[.int .i64 (i : Int), .int .i64 6] 48);have h93 : Blk ((w2.alloc (.cells #[.int .i64 0, .string ⟨#[]⟩, .int .i64 0, .slice none 0 0] 35)).alloc (.cells #[.int .i64 (i : Int), .int .i64 6] 48)) (w2.heap.size + 1) 48 #[.int .i64 (i : Int), .int .i64 6] := Blk.new2 _ _ _ _;generalize ((w2.alloc (.cells #[.int .i64 0, .string ⟨#[]⟩, .int .i64 0, .slice none 0 0] 35)).alloc (.cells #[.int .i64 (i : Int), .int .i64 6] 48)) = W3 at hb3 hf3 h93 ⊢;have HS2 := hid (show w.heap.size < w2.heap.size from hb2.lt);have HB3 := hid hb3;have HF3 := hid hf3;have H93 := hid h93;clear hb2 hf2 hb3 hf3 h93;refine wp_region_in (fun W => Blk W (w2.heap.size + 1) 48 #[.int .i64 (i : Int), .int .i64 6] ∧ Blk W w.heap.size 35 #[.int .i64 0, .string ⟨#[]⟩, .int .i64 0, .slice none 0 0]) [(0, true), (1, true), (2, true), (3, true), (4, true), (5, false), (6, true), (7, true)] (by kernel_rfl) (fun _ _ d _ _ h => by cases d <;> exact h) (by kernel_rfl) ⟨H93.out.drewN 1, HB3.out.drewN 1⟩ ?_;refine wpSeq_plain rfl (fun K hK => ?_);rw [if_pos (by rfl)];refine ⟨.agg #[.int .i64 0, .string ⟨#[]⟩, .int .i64 0, .slice none 0 0], fun W hW => ?_, hK _ ?_⟩
 ·go_simp
 clear hK K;refine wpSeq_plain rfl (fun K hK => ?_);rw [if_pos (by rfl)];refine ⟨.pointer (some ⟨w2.heap.size + 1, 0, none⟩), fun W hW => ?_, hK _ ?_⟩
 ·go_simp
 clear hK K;refine wpSeq_plain rfl (fun K hK => ?_);rw [if_pos (by rfl)];refine ⟨.int .i64 (i : Int), fun W hW => ?_, hK _ ?_⟩
 ·obtain ⟨h1, _⟩ := hW
  obtain ⟨p0, p1, _⟩ := Blk.two h1;go_simp
 clear hK K;refine wpSeq_plain rfl (fun K hK => ?_);rw [if_pos (by rfl)];refine ⟨.pointer (some ⟨w2.heap.size + 1, 1, none⟩), fun W hW => ?_, hK _ ?_⟩
 ·go_simp
 clear hK K;refine wpSeq_plain rfl (fun K hK => ?_);rw [if_pos (by rfl)];refine ⟨.int .i64 6, fun W hW => ?_, hK _ ?_⟩
 ·obtain ⟨h1, _⟩ := hW
  obtain ⟨p0, p1, _⟩ := Blk.two h1;go_simp
 clear hK K;obtain ⟨p0, p1, p2, p3, y0, y1, y2, y3, hlt0⟩ := Blk.four (HB3.out.drewN 1);refine wpSeq_lone rfl (fun K hK => ?_);go_wp2_with fail
 have n1 := (HB3.out.drewN 1).self4 (.int .i64 0) (.string ⟨#[]⟩) (.int .i64 0) (.slice none 0 0);have n2 := (H93.out.drewN 1).far4 (L := w2.heap.size + 1) (g := w.heap.size) (by have := HS2.out; omega) (.int .i64 0) (.string ⟨#[]⟩) (.int .i64 0) (.slice none 0 0);have hm7 : Fresh w _ := (HF3.out.drewN 1).put4 (g := w.heap.size) (.inr (Nat.le_refl _)) (.int .i64 0) (.string ⟨#[]⟩) (.int .i64 0) (.slice none 0 0);simp only [put4] at n1 n2 hm7;generalize (World.setCell (World.setCell (World.setCell (World.setCell (W3.drewN 1) ⟨w.heap.size, 0, none⟩ _) ⟨w.heap.size, 1, none⟩ _) ⟨w.heap.size, 2, none⟩ _) ⟨w.heap.size, 3, none⟩ _) = W7 at n1 n2 hm7 ⊢;refine hK _ _ ⟨n2, n1⟩ ?_;clear hK K p0 p1 p2 p3 y0 y1 y2 y3 hlt0;refine wpSeq_plain rfl (fun K hK => ?_);rw [if_pos (by rfl)];refine ⟨.int .i64 (i : Int), fun W hW => ?_, hK _ ?_⟩
 ·go_simp
 clear hK K;refine wpSeq_plain rfl (fun K hK => ?_);rw [if_pos (by rfl)];refine ⟨.int .i64 6, fun W hW => ?_, hK _ ?_⟩
 ·go_simp
 clear hK K;refine wpSeq_end ?_;go_wp2_with fail
 obtain ⟨g0, g1, g2, g3, _⟩ := Blk.four n1
 (try simp only [Exit.inBlock, Exit.then])
 refine bodyPost_ret (v := .tuple #[.agg zeroN, .int .i64 (i : Int), .int .i64 6]) (by simp [results, Tryz.results7, go_sem, g0, g1, g2, g3]) rfl ?_;exact HQ.out _ _ ⟨i, none, 0, rfl, .nil _ _, hm7⟩
end Go.Proofs.YtomibmenojdieaaGreat
namespace Go.Proofs.YtomibmenojdieaaGreat.Mcr
open Lx (PTok)
open Tr (Nd sFrac sRoot sMatrix)
open Np (place isM leafOf slot accented special isBreak colN stops)
def Acc {α : Type} (c : Nat) (v : α → Nat) (s : St) (x : R α) : Prop := ∀ a r, x = .ok a r → s.n ≤ r.n ∧ (s.b = true → r.b = true) ∧ (r.b = false → r.n + c ≤ s.n + v a)
theorem Acc.err {α : Type} {c : Nat} {v : α → Nat} {s : St} (i e : Nat) : Acc c v s (.err i e : R α) := fun a r h => by cases h
theorem Acc.out {α : Type} {c : Nat} {v : α → Nat} {s : St} : Acc c v s (.out : R α) := fun a r h => by cases h
theorem Acc.here {α : Type} {c : Nat} {v : α → Nat} {s r : St} {a : α} (hn : r.n = s.n) (hb : r.b = s.b) (h : c ≤ v a) : Acc c v s (.ok a r) := fun _ _ e => by
 cases e;exact ⟨by omega, fun h => by rw [hb]; exact h, fun _ => by omega⟩
theorem Acc.bind {α β : Type} {c : Nat} {w : α → Nat} {v : β → Nat} {s : St} {x : R α} {k : α → St → R β} (h : Acc c w s x) (hk : ∀ a r, Acc (w a) v r (k a r)) : Acc c v s (x.bind k) := fun b t e => by
 cases x with
 | ok a r =>
  obtain ⟨h1, h2, h3⟩ := h a r rfl;obtain ⟨k1, k2, k3⟩ := hk a r b t e;refine ⟨by omega, fun h => k2 (h2 h), fun ht => ?_⟩
  have hr : r.b = false := by
   cases hb : r.b with
   | false => rfl
   | true => rw [k2 hb] at ht; cases ht
  have := h3 hr;have := k3 ht;omega
 | err i e' => cases e
 | out => cases e
theorem Acc.map {α β : Type} {w : α → Nat} {v : β → Nat} {s : St} {x : R α} {g : α → β} (d : Nat) (h : Acc 0 w s x) (hv : ∀ a, w a + d ≤ v (g a)) : Acc d v s (x.map g) := by
 refine Acc.bind (w := fun a => d + w a) (fun a r e => ?_) fun a r => Acc.here rfl rfl (by have := hv a; show d + w a ≤ v (g a); omega)
 obtain ⟨h1, h2, h3⟩ := h a r e;exact ⟨h1, h2, fun hr => by have := h3 hr; show r.n + d ≤ s.n + (d + w a); omega⟩
theorem Acc.add {α : Type} {w : α → Nat} {s : St} {x : R α} (d : Nat) (h : Acc 0 w s x) : Acc d (fun a => d + w a) s x := fun a r e => by
 obtain ⟨h1, h2, h3⟩ := h a r e;exact ⟨h1, h2, fun hr => by have := h3 hr; show r.n + d ≤ s.n + (d + w a); omega⟩
theorem Acc.refuse {α : Type} {c : Nat} {v : α → Nat} {s t : St} (E : En) : Acc c v s (refuse E t : R α) := Acc.err _ _
def optC (o : Option Nd) : Nat := match o with | some n => Tr.count n | none => 0
theorem acc_scripts (g : Bool) (E : En) (base : List Nd) (x y : Option Nd) (s : St) : Acc (Tr.countL base + optC x + optC y) Tr.countL s (scripts g E base x y s) := by
 unfold scripts;split
 ·exact Acc.here rfl rfl (by simp [optC, slot, Tr.count, Tr.countL]; omega)
 ·exact Acc.here rfl rfl (by simp [optC, slot, Tr.count, Tr.countL]; omega)
 ·exact Acc.here rfl rfl (by simp [optC, slot, Tr.count, Tr.countL]; omega)
 ·split
  ·exact Acc.refuse E
  ·exact Acc.here rfl rfl (by simp [optC])
theorem acc_expandS (E : En) (t : PTok) (z : Bool) (as_ : List Nd) (s r : St) : Acc 0 Tr.countL s (expandS E t s.n s.b z as_ r) := by
 unfold expandS;split
 ·exact Acc.err _ _
 ·split
  ·exact Acc.err _ _
  ·split
   ·intro a q e
    cases e;exact ⟨by show s.n ≤ s.n + _; omega, fun _ => rfl, fun h => by cases h⟩
   ·intro a q e
    cases e;refine ⟨by show s.n ≤ s.n + _; omega, fun h => h, fun _ => ?_⟩;show s.n + _ + 0 ≤ s.n + _;rw [Tr.count_kids];omega
theorem acc_plain (t : PTok) (s : St) : Acc 0 Tr.countL s (plainName t s) := by
 unfold plainName;split
 ·exact Acc.err _ _
 ·exact Acc.here rfl rfl (Nat.zero_le _)
structure AccAll (E : En) (f : Nat) : Prop where
 row : ∀ op s, Acc 0 Tr.countL s (pRow E f op s)
 within : ∀ b op s, Acc 0 Tr.countL s (pIn E f b op s)
 script : ∀ b op s, Acc 0 optC s (pScript E f b op s)
 item : ∀ op s, Acc 0 Tr.countL s (pItem E f op s)
 prim : ∀ op s, Acc 0 Tr.countL s (pPrim E f op s)
 args : ∀ n op s, Acc 0 Tr.countL s (pArgs E f n op s)
 mac : ∀ n op t s, Acc 0 Tr.countL s (pMac E f n op t s)
 name : ∀ op t s, Acc 0 Tr.countL s (pName E f op t s)
 cells : ∀ op ks b c s, Acc (Tr.countL ks) (fun p => Tr.countL p.1) s (pCells E f op ks b c s)
 arg : ∀ op s, Acc 0 Tr.count s (pArg E f op s)
theorem countL_app' (l m : List Nd) : Tr.countL (l ++ m) = Tr.countL l + Tr.countL m := by
 induction l with
 | nil => simp [Tr.countL]
 | cons x l ih => rw [List.cons_append, Tr.countL, Tr.countL, ih]; omega
theorem count_mk (k : Int) (t : List UInt8) (c : Int) (ks : List Nd) : Tr.count (.mk k t c ks) = Tr.countL ks + 1 := by rw [Tr.count]; omega
theorem acc_all (E : En) : ∀ f, AccAll E f
 | 0 => by
  constructor
  ·intro op s; rw [pRow]; exact Acc.out
  ·intro b op s; rw [pIn]; exact Acc.out
  ·intro b op s; rw [pScript]; exact Acc.out
  ·intro op s; rw [pItem]; exact Acc.out
  ·intro op s; rw [pPrim]; exact Acc.out
  ·intro n op s; rw [pArgs]; exact Acc.out
  ·intro n op t s; rw [pMac]; exact Acc.out
  ·intro op t s; rw [pName]; exact Acc.out
  ·intro op ks b c s; rw [pCells]; exact Acc.out
  ·intro op s; rw [pArg]; exact Acc.out
 | f + 1 => by
  have ih := acc_all E f;have one : ∀ (k : Int) (t : List UInt8) (c : Int) (ks : List Nd), Tr.countL [.mk k t c ks] = Tr.countL ks + 1 := fun k t c ks => by rw [Tr.countL, count_mk, Tr.countL]
  constructor
  ·intro op s
   rw [pRow];split
   ·exact Acc.err _ _
   ·split
    ·exact Acc.here rfl rfl (Nat.zero_le _)
    ·exact (ih.item op s).bind fun more r => (ih.row op r).map _ fun items => by rw [countL_app']; omega
  ·intro b op s
   rw [pIn];refine Acc.bind (w := Tr.countL) (ih.row _ s.up) fun items r => ?_
   split
   ·exact Acc.here rfl rfl (Nat.le_refl _)
   ·exact Acc.refuse E
  ·intro b op s
   rw [pScript];split
   ·exact (ih.arg op s.up).map 0 fun a => Nat.le_refl _
   ·exact Acc.here rfl rfl (Nat.zero_le _)
  ·intro op s
   rw [pItem];refine (ih.prim op s).bind fun base r => Acc.bind (w := fun sub => Tr.countL base + optC sub) ((ih.script 95 op r).add _) fun sub r => Acc.bind (w := fun sup => Tr.countL base + optC sub + optC sup) ((ih.script 94 op r).add _) fun sup r => ?_
   split
   ·rename_i hc
    have hn : optC sub = 0 := by
     cases sub with
     | none => rfl
     | some x => simp at hc
    refine Acc.bind (w := fun sub' => Tr.countL base + optC sub + optC sup + optC sub') ((ih.script 95 op r).add _) fun sub' r => ?_
    intro a q e;obtain ⟨h1, h2, h3⟩ := acc_scripts _ E base sub' sup r a q e;exact ⟨h1, h2, fun h => by have := h3 h; omega⟩
   ·exact acc_scripts _ E base sub sup r
  ·intro op s
   rw [pPrim.eq_def];obtain ⟨l, n, b⟩ := s;cases l with
   | nil => exact Acc.refuse E
   | cons t l =>
    simp only
    split
    ·exact Acc.here rfl rfl (Nat.zero_le _)
    ·split
     ·exact ih.name op t (St.mk (t :: l) n b).up
     ·split
      ·exact Acc.map 0 (ih.args 1 op (St.mk (t :: l) n b).up) fun ks => by rw [one]; omega
      ·split
       ·exact (ih.within 41 op _).map 0 fun ks => by rw [one, Tr.countL, slot, count_mk, Tr.countL]; omega
       ·split
        ·exact (ih.within 93 op _).map 0 fun ks => by rw [one, Tr.countL, slot, count_mk, Tr.countL]; omega
        ·split
         ·exact ih.within 125 op _
         ·exact Acc.refuse E
  ·intro n op s
   cases n with
   | zero => rw [pArgs]; exact Acc.here rfl rfl (Nat.zero_le _)
   | succ n =>
    rw [pArgs];exact (ih.arg op s).bind fun a r => (ih.args n op r).map _ fun ks => by rw [Tr.countL]; omega
  ·intro n op t s
   rw [pMac];intro a r e;cases hx : pFill E f n op true [] s with
   | ok p q =>
    rw [hx] at e;exact acc_expandS E t p.1 p.2 s q a r e
   | err i e' => rw [hx] at e; cases e
   | out => rw [hx] at e; cases e
  ·intro op t s
   rw [pName];split
   ·exact (ih.args 2 op s).map 0 fun ks => by rw [one]; omega
   ·split
    ·split
     ·exact (ih.within 93 op s).bind fun d r' => (ih.args 1 op r').map _ fun ks => by rw [one, Tr.countL, slot, count_mk]; omega
     ·exact (ih.args 1 op s).map 0 fun ks => by rw [one, Tr.countL]; omega
    ·split
     ·split
      ·have h := ih.cells (op ++ [place E.en s.l]) [] 0 0 s.up
       rw [Tr.countL] at h;exact Acc.map (w := fun p => Tr.countL p.1) 0 h fun p => by rw [one]; omega
      ·exact Acc.refuse E
     ·split
      ·exact (ih.args 1 op s).map 0 fun ks => by rw [one]; omega
      ·split
       ·exact ih.mac _ op t s
       ·exact acc_plain t s
  ·intro op ks b c s
   rw [pCells];refine Acc.bind (w := fun items => Tr.countL ks + Tr.countL items) ((ih.row op s).add _) fun items r => ?_
   have hks : Tr.countL (ks ++ [slot items]) = Tr.countL ks + Tr.countL items + 1 := by rw [countL_app', slot, one]; omega
   have low : ∀ (x : R (List Nd × Nat)), Acc (Tr.countL (ks ++ [slot items])) (fun p => Tr.countL p.1) r x → Acc (Tr.countL ks + Tr.countL items) (fun p => Tr.countL p.1) r x := fun x h a q e => by
    obtain ⟨h1, h2, h3⟩ := h a q e;exact ⟨h1, h2, fun hq => by have := h3 hq; omega⟩
   split
   ·exact low _ (ih.cells op _ _ _ r.up)
   ·split
    ·exact Acc.refuse E
    ·split
     ·exact Acc.err _ _
     ·split
      ·exact Acc.here rfl rfl (by show _ ≤ Tr.countL (ks ++ [slot items]); omega)
      ·exact low _ (ih.cells op _ _ _ r.up)
  ·intro op s
   rw [pArg.eq_def];obtain ⟨l, n, b⟩ := s;cases l with
   | nil => exact Acc.refuse E
   | cons t l =>
    simp only
    split
    ·exact Acc.here rfl rfl (Nat.zero_le _)
    ·split
     ·exact (ih.within 125 op _).map 0 fun ks => by rw [slot, count_mk]; omega
     ·split
      ·split
       ·split
        ·exact Acc.refuse E
        ·exact Acc.map (w := Tr.countL) 0 (ih.mac 0 op t (St.mk (t :: l) n b).up) fun ks => by rw [slot, count_mk]; omega
       ·exact Acc.map (w := Tr.countL) 0 (acc_plain t (St.mk (t :: l) n b).up) fun ks => by rw [slot, count_mk]; omega
      ·exact Acc.refuse E
end Go.Proofs.YtomibmenojdieaaGreat.Mcr
namespace Go.Proofs.YtomibmenojdieaaGreat.Mcr
open Lx (PTok)
open Tr (Nd sFrac sRoot sMatrix)
open Np (place isM leafOf slot accented special isBreak colN stops Al)
structure Join (m : List PTok) (d : Nat) (s s' : St) : Prop where
 al : Al (s.l ++ m) s'.l
 n : s'.n = s.n + d
 b : s.b = false
 b' : s'.b = false
def Cond (d : Nat) (r : St) : Prop := r.b = false ∧ (d = 0 ∨ r.n + d ≤ 1000)
def JR {α : Type} (m : List PTok) (d : Nat) (x y : R α) : Prop := ∀ a r, x = .ok a r → Cond d r → ∃ r', y = .ok a r' ∧ Join m d r r'
def Up {α : Type} (s : St) (x : R α) : Prop := ∀ a r, x = .ok a r → s.n ≤ r.n ∧ (s.b = true → r.b = true)
theorem Acc.up {α : Type} {c : Nat} {v : α → Nat} {s : St} {x : R α} (h : Acc c v s x) : Up s x := fun a r e => ⟨(h a r e).1, (h a r e).2.1⟩
theorem Up.err {α : Type} {s : St} (i e : Nat) : Up s (.err i e : R α) := fun a r h => by cases h
theorem Up.refuse {α : Type} {s : St} (E : En) (t : St) : Up s (refuse E t : R α) := Up.err _ _
theorem Up.here {α : Type} {s r : St} {a : α} (hn : r.n = s.n) (hb : r.b = s.b) : Up s (.ok a r) := fun _ _ e => by
 cases e;exact ⟨by omega, fun h => by rw [hb]; exact h⟩
theorem Up.bind {α β : Type} {s : St} {x : R α} {k : α → St → R β} (h : Up s x) (hk : ∀ a r, Up r (k a r)) : Up s (x.bind k) := fun b t e => by
 cases x with
 | ok a r =>
  obtain ⟨h1, h2⟩ := h a r rfl;obtain ⟨k1, k2⟩ := hk a r b t e;exact ⟨by omega, fun h => k2 (h2 h)⟩
 | err i e' => cases e
 | out => cases e
theorem Up.map {α β : Type} {s : St} {x : R α} {g : α → β} (h : Up s x) : Up s (x.map g) := h.bind fun _ _ => Up.here rfl rfl
theorem JR.bind {α β : Type} {m : List PTok} {d : Nat} {x y : R α} {k k' : α → St → R β} (h : JR m d x y) (hu : ∀ a r, x = .ok a r → Up r (k a r)) (hk : ∀ a r r', x = .ok a r → Join m d r r' → JR m d (k a r) (k' a r')) : JR m d (x.bind k) (y.bind k') := fun b t e hc => by
 cases x with
 | ok a r =>
  obtain ⟨u1, u2⟩ := hu a r rfl b t e
  have hr : Cond d r := by
   refine ⟨?_, hc.2.imp id fun h => by omega⟩;cases hb : r.b with
   | false => rfl
   | true => have := u2 hb; rw [hc.1] at this; cases this
  obtain ⟨r', rfl, hj⟩ := h a r rfl hr;exact hk a r r' rfl hj b t e hc
 | err i e' => cases e
 | out => cases e
theorem JR.map {α β : Type} {m : List PTok} {d : Nat} {x y : R α} {g : α → β} (h : JR m d x y) : JR m d (x.map g) (y.map g) :=
 h.bind (fun _ _ _ => Up.here rfl rfl) fun _ _ _ _ hj _ _ e _ => by cases e; exact ⟨_, rfl, hj⟩
theorem JR.ok {α : Type} {m : List PTok} {d : Nat} {a : α} {s s' : St} (h : Join m d s s') : JR m d (.ok a s) (.ok a s') := fun _ _ e _ => by cases e; exact ⟨_, rfl, h⟩
theorem JR.err {α : Type} {m : List PTok} {d : Nat} {i e : Nat} {y : R α} : JR m d (.err i e) y := fun _ _ h _ => by cases h
theorem JR.out {α : Type} {m : List PTok} {d : Nat} {y : R α} : JR m d .out y := fun _ _ h _ => by cases h
theorem JR.refuse {α : Type} {m : List PTok} {d : Nat} {E : En} {s : St} {y : R α} : JR m d (refuse E s : R α) y := JR.err
theorem Join.cons {m : List PTok} {d : Nat} {s s' : St} {t : PTok} {l : List PTok} (h : Join m d s s') (hl : s.l = t :: l) : ∃ t' l', s'.l = t' :: l' ∧ t.kind = t'.kind ∧ t.text = t'.text ∧ Join m d s.up s'.up := by
 have := h.al;rw [hl, List.cons_append] at this;obtain ⟨t', l', e, h1, h2, h3⟩ := Np.Al.cons this;refine ⟨t', l', e, h1, h2, ?_, h.n, h.b, h.b'⟩;show Al (s.l.tail ++ m) s'.l.tail;rw [hl, e];exact h3
theorem Join.isM {m : List PTok} {d : Nat} {s s' : St} (h : Join m d s s') (hne : s.l ≠ []) (b : UInt8) : isM b s'.l = isM b s.l := by
 obtain ⟨t, l, e⟩ := List.exists_cons_of_ne_nil hne;obtain ⟨t', l', e', h1, h2, _⟩ := h.cons e;rw [e, e'];simp only [Np.isM, h1, h2]
theorem Join.isBreak {m : List PTok} {d : Nat} {s s' : St} (h : Join m d s s') (hne : s.l ≠ []) : isBreak s'.l = isBreak s.l := by
 obtain ⟨t, l, e⟩ := List.exists_cons_of_ne_nil hne;obtain ⟨t', l', e', h1, h2, _⟩ := h.cons e;rw [e, e'];simp only [Np.isBreak, h1]
theorem Join.stops {m : List PTok} {d : Nat} {s s' : St} (h : Join m d s s') (hne : s.l ≠ []) : stops s'.l = stops s.l := by
 unfold Np.stops;rw [h.isBreak hne, h.isM hne, h.isM hne, h.isM hne, h.isM hne]
theorem Join.ne {m : List PTok} {d : Nat} {s s' : St} (h : Join m d s s') (hne : s.l ≠ []) : s'.l ≠ [] := by
 obtain ⟨t, l, e⟩ := List.exists_cons_of_ne_nil hne;obtain ⟨t', l', e', _⟩ := h.cons e;rw [e'];simp
theorem Join.up {m : List PTok} {d : Nat} {s s' : St} (h : Join m d s s') (hne : s.l ≠ []) : Join m d s.up s'.up := by
 obtain ⟨t, l, e⟩ := List.exists_cons_of_ne_nil hne;obtain ⟨_, _, _, _, _, h⟩ := h.cons e;exact h
theorem isM_has {b : UInt8} {l : List PTok} (h : isM b l = true) : l ≠ [] := by
 rintro rfl;cases h
theorem leafP_al {P : Nat} {t t' : PTok} (h1 : t.kind = t'.kind) (h2 : t.text = t'.text) : leafP P t = leafP P t' := by
 unfold leafP;rw [Np.leafOf_al h1 h2, h1, h2]
theorem JR.scripts {m : List PTok} {d : Nat} {E E' : En} {g : Bool} {b : List Nd} {x y : Option Nd} {s s' : St} (h : Join m d s s') : JR m d (scripts g E b x y s) (scripts g E' b x y s') := by
 unfold Mcr.scripts;split
 ·exact JR.ok h
 ·exact JR.ok h
 ·exact JR.ok h
 ·cases g with
  | true => exact JR.refuse
  | false => exact JR.ok h
theorem JR.plain {m : List PTok} {d : Nat} {t t' : PTok} {s s' : St} (h2 : t.text = t'.text) (h : Join m d s s') : JR m d (plainName t s) (plainName t' s') := by
 unfold plainName;rw [h2];split
 ·exact JR.err
 ·exact JR.ok h
theorem JR.expandS {m : List PTok} {d : Nat} {E E' : En} (ht : E'.tb = E.tb) {t t' : PTok} (h2 : t.text = t'.text) {n : Nat} {z : Bool} {as_ : List Nd} {q q' : St} (hq : Al (q.l ++ m) q'.l) : JR m d (expandS E t n false z as_ q) (expandS E' t' (n + d) false z as_ q') := by
 unfold Mcr.expandS;rw [h2, ht];split
 ·exact JR.err
 ·split
  ·exact JR.err
  ·split
   ·intro a r e hc
    cases e;cases hc.1
   ·rename_i hn
    intro a r e hc;cases e;rw [if_neg (by rcases hc.2 with h | h; subst h; exact hn; simp only at h; omega)];exact ⟨_, rfl, hq, by simp only; omega, rfl, rfl⟩
def NoMark (m : List PTok) : Prop := isM 95 m = false ∧ isM 94 m = false
structure Ext (E E' : En) (m : List PTok) (f : Nat) : Prop where
 row : ∀ d f' op op' s s', f ≤ f' → op ≠ [] → op' ≠ [] → Join m d s s' → JR m d (pRow E f op s) (pRow E' f' op' s')
 within : ∀ d f' b op op' s s', f ≤ f' → s.l ≠ [] → Join m d s s' → JR m d (pIn E f b op s) (pIn E' f' b op' s')
 script : ∀ d f' b op op' s s', f ≤ f' → (b = 95 ∨ b = 94) → Join m d s s' → JR m d (pScript E f b op s) (pScript E' f' b op' s')
 item : ∀ d f' op op' s s', f ≤ f' → s.l ≠ [] → Join m d s s' → JR m d (pItem E f op s) (pItem E' f' op' s')
 prim : ∀ d f' op op' s s', f ≤ f' → Join m d s s' → JR m d (pPrim E f op s) (pPrim E' f' op' s')
 args : ∀ d f' n op op' s s', f ≤ f' → Join m d s s' → JR m d (pArgs E f n op s) (pArgs E' f' n op' s')
 fill : ∀ f' n op op' z as_ s s' zs q, f ≤ f' → Al (s.l ++ m) s'.l → pFill E f n op z as_ s = .ok (true, zs) q → ∃ q', pFill E' f' n op' z as_ s' = .ok (true, zs) q' ∧ Al (q.l ++ m) q'.l
 mac : ∀ d f' n op op' t t' s s', f ≤ f' → t.text = t'.text → Join m d s s' → JR m d (pMac E f n op t s) (pMac E' f' n op' t' s')
 name : ∀ d f' op op' t t' s s', f ≤ f' → t.text = t'.text → Join m d s s' → JR m d (pName E f op t s) (pName E' f' op' t' s')
 cells : ∀ d f' op op' ks b c s s', f ≤ f' → op ≠ [] → op' ≠ [] → Join m d s s' → JR m d (pCells E f op ks b c s) (pCells E' f' op' ks b c s')
 arg : ∀ d f' op op' s s', f ≤ f' → Join m d s s' → JR m d (pArg E f op s) (pArg E' f' op' s')
theorem ext_zero (E E' : En) (m : List PTok) : Ext E E' m 0 := by
 constructor
 ·intro d f' op op' s s' _ _ _ _; rw [pRow]; exact JR.out
 ·intro d f' b op op' s s' _ _ _; rw [pIn]; exact JR.out
 ·intro d f' b op op' s s' _ _ _; rw [pScript]; exact JR.out
 ·intro d f' op op' s s' _ _ _; rw [pItem]; exact JR.out
 ·intro d f' op op' s s' _ _; rw [pPrim]; exact JR.out
 ·intro d f' n op op' s s' _ _; rw [pArgs]; exact JR.out
 ·intro f' n op op' z as_ s s' zs q _ _ h; rw [pFill] at h; cases h
 ·intro d f' n op op' t t' s s' _ _ _; rw [pMac]; exact JR.out
 ·intro d f' op op' t t' s s' _ _ _; rw [pName]; exact JR.out
 ·intro d f' op op' ks b c s s' _ _ _ _; rw [pCells]; exact JR.out
 ·intro d f' op op' s s' _ _; rw [pArg]; exact JR.out
theorem bind_got {α β : Type} {x : R α} {k : α → St → R β} {b : β} {r : St} (h : x.bind k = .ok b r) : ∃ a s, x = .ok a s ∧ k a s = .ok b r := by
 cases x with
 | ok a s => exact ⟨a, s, rfl, h⟩
 | err i e => cases h
 | out => cases h
theorem map_got {α β : Type} {x : R α} {k : α → β} {b : β} {r : St} (h : x.map k = .ok b r) : ∃ a, x = .ok a r ∧ k a = b := by
 obtain ⟨a, s, h1, h2⟩ := bind_got h;cases h2;exact ⟨a, h1, rfl⟩
theorem row_ne {E : En} : ∀ {f : Nat} {op : List Nat} {s : St} {a : List Nd} {r : St}, op ≠ [] → pRow E f op s = .ok a r → r.l ≠ []
 | 0, _, _, _, _, _, h => by rw [pRow] at h; cases h
 | f + 1, op, s, a, r, ho, h => by
  rw [pRow] at h;split at h
  ·cases h
  ·rename_i h1
   split at h
   ·rename_i h2
    cases h;intro e;exact h1 ⟨by rw [e]; rfl, ho⟩
   ·obtain ⟨x, q, _, h3⟩ := bind_got h
    obtain ⟨y, h4, _⟩ := map_got h3;exact row_ne ho h4
theorem fill_z {E : En} : ∀ {f n : Nat} {op : List Nat} {z : Bool} {as_ zs : List Nd} {s q : St}, pFill E f n op z as_ s = .ok (true, zs) q → z = true
 | 0, _, _, _, _, _, _, _, h => by rw [pFill] at h; cases h
 | f + 1, 0, _, _, _, _, _, _, h => by rw [pFill] at h; cases h; rfl
 | f + 1, n + 1, op, z, as_, zs, s, q, h => by
  rw [pFill] at h;obtain ⟨a, r, _, h2⟩ := bind_got h;have := fill_z h2;simp only [Bool.and_eq_true] at this;exact this.1
theorem args_nil {E : En} {f : Nat} {op : List Nat} {s : St} (hl : s.l = []) {a : List Nd} {r : St} (h : pArgs E f 1 op s = .ok a r) : False := by
 cases f with
 | zero => rw [pArgs] at h; cases h
 | succ f =>
  rw [pArgs] at h;obtain ⟨y, q, h4, _⟩ := bind_got h;cases f with
  | zero => rw [pArg] at h4; cases h4
  | succ f =>
   rw [pArg.eq_def] at h4;simp only [hl] at h4;cases h4
theorem ext (E E' : En) (m : List PTok) (hP : E'.P = E.P) (ht : E'.tb = E.tb) (hm : NoMark m) : ∀ f, Ext E E' m f
 | 0 => ext_zero E E' m
 | f + 1 => by
  have ih := ext E E' m hP ht hm f;have ac := acc_all E f;have suc : ∀ {f' : Nat}, f + 1 ≤ f' → ∃ g, f' = g + 1 ∧ f ≤ g := fun {f'} h => ⟨f' - 1, by omega, by omega⟩
  constructor
  ·intro d f' op op' s s' hf ho ho' hj
   obtain ⟨g, rfl, hg⟩ := suc hf;rw [pRow, pRow]
   by_cases he : s.l = []
   ·rw [if_pos ⟨by rw [he]; rfl, ho⟩]
    exact JR.err
   ·have he' := hj.ne he
    have e1 : ¬ (s.l.isEmpty = true ∧ op ≠ []) := fun h => he (List.isEmpty_iff.1 h.1)
    have e2 : ¬ (s'.l.isEmpty = true ∧ op' ≠ []) := fun h => he' (List.isEmpty_iff.1 h.1)
    rw [if_neg e1, if_neg e2, hj.stops he]
    by_cases hs : stops s.l = true
    ·have e3 : s.l.isEmpty = true ∨ stops s.l = true := .inr hs
     have e4 : s'.l.isEmpty = true ∨ stops s.l = true := .inr hs;rw [if_pos e3, if_pos e4];exact JR.ok hj
    ·have e3 : ¬ (s.l.isEmpty = true ∨ stops s.l = true) := fun h => h.elim (fun h => he (List.isEmpty_iff.1 h)) hs
     have e4 : ¬ (s'.l.isEmpty = true ∨ stops s.l = true) := fun h => h.elim (fun h => he' (List.isEmpty_iff.1 h)) hs
     rw [if_neg e3, if_neg e4];exact (ih.item d g op op' s s' hg he hj).bind (fun a r _ => (ac.row op r).up.map) fun a r r' _ hj' => (ih.row d g op op' r r' hg ho ho' hj').map
  ·intro d f' b op op' s s' hf hne hj
   obtain ⟨g, rfl, hg⟩ := suc hf;rw [pIn, pIn];refine (ih.row d g _ _ s.up s'.up hg (by simp) (by simp) (hj.up hne)).bind (fun a r _ => ?_) fun a r r' e hj' => ?_
   ·split
    ·exact Up.here rfl rfl
    ·exact Up.refuse _ _
   ·have hr := row_ne (by simp) e
    rw [hj'.isM hr];split
    ·exact JR.ok (hj'.up hr)
    ·exact JR.refuse
  ·intro d f' b op op' s s' hf hb hj
   obtain ⟨g, rfl, hg⟩ := suc hf;rw [pScript, pScript]
   by_cases h1 : isM b s.l = true
   ·have hne := isM_has h1
    rw [if_pos h1, if_pos (by rw [hj.isM hne]; exact h1)];exact (ih.arg d g op op' s.up s'.up hg (hj.up hne)).map
   ·rw [if_neg h1, if_neg]
    ·exact JR.ok hj
    ·by_cases hl : s.l = []
     ·have := hj.al
      rw [hl, List.nil_append] at this;rw [← this.isM b]
      rcases hb with rfl | rfl
      ·rw [hm.1]; simp
      ·rw [hm.2]; simp
     ·rw [hj.isM hl]; exact h1
  ·intro d f' op op' s s' hf hne hj
   obtain ⟨g, rfl, hg⟩ := suc hf;rw [pItem, pItem, hj.isM hne];have uc : ∀ base sub sup r, Up r (scripts (isM 123 s.l) E base sub sup r) := fun base sub sup r => (acc_scripts _ E base sub sup r).up
   have uf : ∀ base sub sup r, Up r (if (sup.isSome && sub.isNone) = true then (pScript E f 95 op r).bind fun sub r => scripts (isM 123 s.l) E base sub sup r else scripts (isM 123 s.l) E base sub sup r) := fun base sub sup r => by
    split
    ·exact (ac.script 95 op r).up.bind fun _ _ => uc _ _ _ _
    ·exact uc _ _ _ _
   refine (ih.prim d g op op' s s' hg hj).bind (fun base r _ => (ac.script 95 op r).up.bind fun _ _ => (ac.script 94 op _).up.bind fun _ _ => uf _ _ _ _) fun base r r' _ hj => ?_
   refine (ih.script d g 95 op op' r r' hg (.inl rfl) hj).bind (fun _ _ _ => (ac.script 94 op _).up.bind fun _ _ => uf _ _ _ _) fun sub r r' _ hj => ?_
   refine (ih.script d g 94 op op' r r' hg (.inr rfl) hj).bind (fun _ _ _ => uf _ _ _ _) fun sup r r' _ hj => ?_
   split
   ·exact (ih.script d g 95 op op' r r' hg (.inl rfl) hj).bind (fun _ _ _ => uc _ _ _ _) fun _ _ _ _ hj => JR.scripts hj
   ·exact JR.scripts hj
  ·intro d f' op op' s s' hf hj
   obtain ⟨g, rfl, hg⟩ := suc hf;rw [pPrim.eq_def, pPrim.eq_def];cases hl : s.l with
   | nil => simp only [hl]; exact JR.refuse
   | cons t l =>
    obtain ⟨t', l', e', h1, h2, hu⟩ := hj.cons hl;have hne : s.l ≠ [] := by rw [hl]; simp
    have hM : ∀ b, isM b (t' :: l') = isM b (t :: l) := fun b => by rw [← e', ← hl]; exact hj.isM hne b
    simp only [hl, e', hP, ← leafP_al h1 h2, hM, ← h1, ← h2];split
    ·exact JR.ok hu
    ·split
     ·exact ih.name d g op op' t t' s.up s'.up hg h2 hu
     ·split
      ·exact (ih.args d g 1 op op' s.up s'.up hg hu).map
      ·split
       ·exact (ih.within d g 41 op op' s s' hg hne hj).map
       ·split
        ·exact (ih.within d g 93 op op' s s' hg hne hj).map
        ·split
         ·exact ih.within d g 125 op op' s s' hg hne hj
         ·exact JR.refuse
  ·intro d f' n op op' s s' hf hj
   obtain ⟨g, rfl, hg⟩ := suc hf;cases n with
   | zero => rw [pArgs, pArgs]; exact JR.ok hj
   | succ n =>
    rw [pArgs, pArgs];exact (ih.arg d g op op' s s' hg hj).bind (fun a r _ => (ac.args n op r).up.map) fun a r r' _ hj => (ih.args d g n op op' r r' hg hj).map
  ·intro f' n op op' z as_ s s' zs q hf ha h
   obtain ⟨g, rfl, hg⟩ := suc hf;cases n with
   | zero =>
    rw [pFill] at h ⊢;cases h;exact ⟨_, rfl, ha⟩
   | succ n =>
    rw [pFill] at h ⊢;obtain ⟨a, r, h1, h2⟩ := bind_got h;have hz := fill_z h2;simp only [Bool.and_eq_true, Bool.not_eq_true'] at hz;obtain ⟨r', e', hj⟩ := ih.arg 0 g op op' ⟨s.l, 0, false⟩ ⟨s'.l, 0, false⟩ hg ⟨ha, rfl, rfl, rfl⟩ a r h1 ⟨hz.2, .inl rfl⟩;obtain ⟨q', e2, h3⟩ := ih.fill g n op op' _ _ r r' zs q hg hj.al h2;rw [e'];refine ⟨q', ?_, h3⟩;rw [hz.2] at e2;show pFill E' g n op' (z && !r'.b) (as_ ++ [a]) r' = _;rw [hj.b'];exact e2
  ·intro d f' n op op' t t' s s' hf h2 hj
   obtain ⟨g, rfl, hg⟩ := suc hf;rw [pMac, pMac];intro a r e hc;obtain ⟨⟨z, zs⟩, q, h3, h4⟩ := bind_got e;cases z with
   | false => unfold Mcr.expandS at h4; rw [if_pos rfl] at h4; cases h4
   | true =>
    obtain ⟨q', e', hq⟩ := ih.fill g n op op' true [] s s' zs q hg hj.al h3;rw [e'];show ∃ r', expandS E' t' s'.n s'.b true zs q' = _ ∧ _;rw [hj.n, hj.b'];simp only at h4;rw [hj.b] at h4;exact JR.expandS ht h2 hq a r h4 hc
  ·intro d f' op op' t t' s s' hf h2 hj
   obtain ⟨g, rfl, hg⟩ := suc hf;rw [pName, pName, ← h2];split
   ·exact (ih.args d g 2 op op' s s' hg hj).map
   ·split
    ·by_cases hb : isM 91 s.l = true
     ·have hne := isM_has hb
      rw [if_pos hb, if_pos (by rw [hj.isM hne]; exact hb)];exact (ih.within d g 93 op op' s s' hg hne hj).bind (fun a r _ => (ac.args 1 op r).up.map) fun a r r' _ hj => (ih.args d g 1 op op' r r' hg hj).map
     ·rw [if_neg hb]
      by_cases hl : s.l = []
      ·intro a r e _
       obtain ⟨x, h3, _⟩ := map_got e;exact (args_nil hl h3).elim
      ·rw [if_neg (by rw [hj.isM hl]; exact hb)]
       exact (ih.args d g 1 op op' s s' hg hj).map
    ·split
     ·by_cases hb : isM 123 s.l = true
      ·have hne := isM_has hb
       rw [if_pos hb, if_pos (by rw [hj.isM hne]; exact hb)];exact (ih.cells d g _ _ [] 0 0 s.up s'.up hg (by simp) (by simp) (hj.up hne)).map
      ·rw [if_neg hb]
       exact JR.refuse
     ·split
      ·exact (ih.args d g 1 op op' s s' hg hj).map
      ·rw [ht]
       split
       ·exact ih.mac d g _ op op' t t' s s' hg h2 hj
       ·exact JR.plain h2 hj
  ·intro d f' op op' ks b c s s' hf ho ho' hj
   obtain ⟨g, rfl, hg⟩ := suc hf;rw [pCells, pCells];refine (ih.row d g op op' s s' hg ho ho' hj).bind (fun items r _ => ?_) fun items r r' e hj' => ?_
   ·split
    ·exact (ac.cells op _ _ _ r.up).up
    ·split
     ·exact Up.refuse _ _
     ·split
      ·exact Up.err _ _
      ·split
       ·exact Up.here rfl rfl
       ·exact (ac.cells op _ _ _ r.up).up
   ·have hr := row_ne ho e
    rw [hj'.isM hr, hj'.isM hr, hj'.isBreak hr];split
    ·exact ih.cells d g op op' _ _ _ r.up r'.up hg ho ho' (hj'.up hr)
    ·split
     ·exact JR.refuse
     ·split
      ·exact JR.err
      ·split
       ·exact JR.ok (hj'.up hr)
       ·exact ih.cells d g op op' _ _ _ r.up r'.up hg ho ho' (hj'.up hr)
  ·intro d f' op op' s s' hf hj
   obtain ⟨g, rfl, hg⟩ := suc hf;rw [pArg.eq_def, pArg.eq_def];cases hl : s.l with
   | nil => simp only [hl]; exact JR.refuse
   | cons t l =>
    obtain ⟨t', l', e', h1, h2, hu⟩ := hj.cons hl;have hne : s.l ≠ [] := by rw [hl]; simp
    have hM : ∀ b, isM b (t' :: l') = isM b (t :: l) := fun b => by rw [← e', ← hl]; exact hj.isM hne b
    simp only [hl, e', hP, ht, ← leafP_al h1 h2, hM, ← h1, ← h2];split
    ·exact JR.ok hu
    ·split
     ·exact (ih.within d g 125 op op' s s' hg hne hj).map
     ·split
      ·split
       ·split
        ·exact JR.refuse
        ·exact (ih.mac d g 0 op op' t t' s.up s'.up hg h2 hu).map
       ·exact (JR.plain h2 hu).map
      ·exact JR.refuse
end Go.Proofs.YtomibmenojdieaaGreat.Mcr
