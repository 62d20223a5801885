/- Part 19 of 42 of a proof; its texts, joined: NyB, NyC, NyD. No condition. -/
import Derived.Test.YtomibmenojdieaaGreatXx18
import Derived.Test.YtomibmenojdieaaGreatXx7
import Derived.Test.YtomibmenojdieaaGreatXx5
set_option maxRecDepth 100000
set_option maxHeartbeats 400000
namespace Go.Proofs.YtomibmenojdieaaGreat
open Go.RowKit
open Tr (Nd)
open Lx (PTok)
attribute [local go_sem] stillV stillUpon
theorem TreT.one {B : Nat} {W : World} {g cap : Nat} {n : Nd} {sl : Value} (hB : B ≤ g) (hg : ∃ cs fr, W.heap[g]? = some (.cells cs 35 fr)) (h0 : W.cell? ⟨g, 0, none⟩ = some (.int .i64 n.kind)) (h1 : W.cell? ⟨g, 1, none⟩ = some (.string ⟨n.text.toArray⟩))
  (h2 : W.cell? ⟨g, 2, none⟩ = some (.int .i64 n.cols)) (h3 : W.cell? ⟨g, 3, none⟩ = some sl) (hk : TreT B W n.kids sl) (ht : n.text.length ≤ maxLen) : TreT B W [n] (.slice (some ⟨g, 0, none⟩) 1 cap) :=
 TreT.row g cap [n] (fun _ => sl) hB hg (by simp [maxLen]) (fun i hi => match i, hi with | 0, _ => ht) (fun i hi => match i, hi with | 0, _ => h0) (fun i hi => match i, hi with | 0, _ => h1) (fun i hi => match i, hi with | 0, _ => h2) (fun i hi => match i, hi with | 0, _ => h3) (fun i hi => match i, hi with | 0, _ => hk)
structure Kp where
 p : Nat
 n : Nat
 b : Bool
def Kp.up (k : Kp) : Kp := ⟨k.p + 1, k.n, k.b⟩
@[simp] theorem Kp.up_p (k : Kp) : k.up.p = k.p + 1 := rfl
structure Cf where
 g : Nat
 W0 : World
 tv : Value
 mv : Value
 en : Nat
 T : List PTok
 P : Nat
 tb : Mcr.Table
 tp : Value
abbrev Cf.E (c : Cf) : Mcr.En := ⟨c.en, c.P, c.tb⟩
def Cf.at (c : Cf) (k : Kp) : Mcr.St := ⟨c.T.drop k.p, k.n, k.b⟩
theorem Cf.at_l (c : Cf) (k : Kp) : (c.at k).l = c.T.drop k.p := rfl
theorem Cf.at_up (c : Cf) (k : Kp) : (c.at k).up = c.at k.up := by
 show (⟨(c.T.drop k.p).tail, k.n, k.b⟩ : Mcr.St) = _;rw [List.tail_drop];rfl
def pp0 (c : Cf) : Value := .pointer (some ⟨c.g, 0, none⟩)
def macV (m : Mcr.Mac) (sl : Value) : Value := .agg #[.int .i64 (m.params : Int), .int .i64 m.tree.kind, .string ⟨m.tree.text.toArray⟩, .int .i64 m.tree.cols, sl]
def macEs (tb : Mcr.Table) (sls : Nat → Value) : List MapEntry := tb.zipIdx.map fun x => ⟨.string ⟨x.1.name.toArray⟩, macV x.1 (sls x.2), x.2⟩
structure TabAt (W : World) (g : Nat) (tb : Mcr.Table) (gt bm : Nat) (nv : Value) (sls : Nat → Value) : Prop where
 blk : Blk W gt 57 #[nv, .map (some bm)]
 map : W.heap[bm]? = some (.map (macEs tb sls).toArray tb.length)
 tree : ∀ i (hi : i < tb.length), TreT 0 W tb[i].tree.kids (sls i)
 txt : ∀ m ∈ tb, m.tree.text.length ≤ maxLen ∧ m.params ≤ 4 ∧ Tr.count m.tree ≤ 1000
 ng : gt ≠ g
 nm : bm ≠ g
def TabV (W : World) (g : Nat) (tb : Mcr.Table) (tp : Value) : Prop := (tp = .pointer none ∧ tb = []) ∨ ∃ gt bm nv sls, tp = .pointer (some ⟨gt, 0, none⟩) ∧ TabAt W g tb gt bm nv sls
structure Cf.Good (c : Cf) : Prop where
 tok : TokRow c.W0 c.tv c.T
 glt : c.g < c.W0.heap.size
 far : ∀ gt o n cap, c.tv = .slice (some ⟨gt, o, none⟩) n cap → gt ≠ c.g
 tl : c.T.length ≤ 100000
 enl : c.en ≤ 140737488355328
 txt : ∀ t ∈ c.T, t.text.length ≤ maxLen
 knz : ∀ t ∈ c.T, t.kind ≠ 0
 par : ∀ t ∈ c.T, t.kind = 6 → ∃ b : UInt8, t.text = [b] ∧ 49 ≤ b ∧ b ≤ 57
 par4 : c.P ≤ 4
 tab : TabV c.W0 c.g c.tb c.tp
 gty : ∃ cs, Blk c.W0 c.g 78 cs
structure Ps (c : Cf) (k : Kp) (op : List Nat) (w : World) : Prop where
 low : Touch (fun b => b = c.g) c.W0 w
 box : ∃ ov, Blk w c.g 78 #[c.tv, .int .i64 (k.p : Int), .int .i64 (c.en : Int), ov, c.tp, .int .i64 (c.P : Int), c.mv, .int .i64 (k.n : Int), .bool k.b] ∧ w.ownsRow c.W0.heap.size 3 1 ov op.length (intVs (up op))
 le : k.p ≤ c.T.length
 nl : k.n ≤ 1000 * k.p
theorem Ps.fresh {c : Cf} {k : Kp} {op : List Nat} {w w' : World} (h : Ps c k op w) (hf : Fresh w w') : Ps c k op w' := by
 obtain ⟨ov, hb, ho⟩ := h.box;exact ⟨h.low.trans (hf.mono fun _ h => h.elim), ⟨ov, hf.blk hb (fun h => h), ownsRow_touch ho hf (fun _ _ h => h)⟩, h.le, h.nl⟩
theorem Ps.glt {c : Cf} {k : Kp} {op : List Nat} {w : World} (h : Ps c k op w) : c.g < w.heap.size := by
 obtain ⟨ov, hb, _⟩ := h.box;exact hb.lt
def tokV (en : Nat) : List PTok → Value
 | [] => .agg #[.int .i64 0, .string ⟨#[]⟩, .int .i64 (en : Int), .int .i64 (en : Int)]
 | t :: _ => .agg #[.int .i64 t.kind, .string ⟨t.text.toArray⟩, .int .i64 (t.from_ : Int), .int .i64 (t.to_ : Int)]
theorem tok_any_n (c : Cf) (hc : c.Good) (k : Kp) (op : List Nat) (w : World) (h : Ps c k op w) :
  Calls Tryz.prog 46 #[pp0 c] w fun e w' => e = .returned (tokV c.en (c.at k).l) ∧ Fresh w w' := by
 obtain ⟨ov, hb, ho⟩ := h.box;obtain ⟨At, ct, htv, htk⟩ := hc.tok;have hlow := h.low;have hgl := hc.glt;have htl := hc.tl;have hle := h.le;have hfar := hc.far;clear h hc;obtain ⟨g, W0, tv, mv, en, T, P, tb, tp⟩ := c;obtain ⟨k, kn, kb⟩ := k;unfold Cf.at;unfold pp0;simp only at *;subst htv;have HTK := hid htk;have HLOW := hid hlow;have hgw := hb.lt;have q0 := hb.cell 0;have q1 := hb.cell 1;have q2 := hb.cell 2;have hk4 : k ≤ 100000 := by omega
 clear htk hb ho hlow
 by_cases c1 : k < T.length
 ·have d1 : decide ((k : Int) < (T.length : Int)) = true := by simp; omega
  have d1n : decide (k < T.length) = true := by simp; omega
  have d1' : (k : Int) < (T.length : Int) := by omega
  obtain ⟨gt, o, hA, hgt, h0, h1, h2, h3⟩ := HTK.out k c1;cases hA;have HE := hid (show tokV en (T.drop k) = .agg #[.int .i64 T[k].kind, .string ⟨T[k].text.toArray⟩, .int .i64 (T[k].from_ : Int), .int .i64 (T[k].to_ : Int)] from by rw [List.drop_eq_getElem_cons c1]; rfl);generalize T[k] = t at h0 h1 h2 h3 HE;have hne : gt ≠ g := hfar gt o _ _ rfl;have a0 := HLOW.out.cell h0 (by exact hne);have a1 := HLOW.out.cell h1 (by exact hne);have a2 := HLOW.out.cell h2 (by exact hne);have a3 := HLOW.out.cell h3 (by exact hne);have hgt' : gt < w.heap.size := bL a0;clear h0 h1 h2 h3;clear hfar;go_enter Tryz.func46, Tryz.ntmps46;go_wp2_with fail
  go_quiet (fail)
  go_wp2_with fail
  have hf1 : Fresh w ((w.alloc (.cells #[.int .i64 0, .string ⟨#[]⟩, .int .i64 0, .int .i64 0] 107)).drewN nq) := ((Touch.refl _ _).alloc _).drewN _;have hb1 : Blk ((w.alloc (.cells #[.int .i64 0, .string ⟨#[]⟩, .int .i64 0, .int .i64 0] 107)).drewN nq) w.heap.size 107 #[.int .i64 0, .string ⟨#[]⟩, .int .i64 0, .int .i64 0] := (Blk.new _ _ _).drewN _;generalize ((w.alloc (.cells #[.int .i64 0, .string ⟨#[]⟩, .int .i64 0, .int .i64 0] 107)).drewN nq) = W1 at hf1 hb1 ⊢;have r0 := cR (hf1.cell (q0.trans rfl) (fun h => h));have r1 := cR (hf1.cell (q1.trans rfl) (fun h => h));have s0 := cR (hf1.cell a0 (fun h => h));have s1 := cR (hf1.cell a1 (fun h => h));have s2 := cR (hf1.cell a2 (fun h => h));have s3 := cR (hf1.cell a3 (fun h => h));have hlt1 := hb1.lt;have hgt1 : gt < W1.heap.size := Nat.lt_of_lt_of_le hgt' hf1.size;have hgg1 : g < W1.heap.size := Nat.lt_of_lt_of_le hgw hf1.size;have HF1 := hid hf1;have HB1 := hid hb1;clear q0 q1 q2 a0 a1 a2 a3 hf1 hb1;refine wp_region_mix [([(0, true), (1, true), (2, true), (3, true), (4, true), (5, true), (6, true), (7, true), (8, true), (9, true)], 10)] [] (by kernel_rfl) (fun _ _ d _ _ h => by cases d <;> exact h) (by kernel_rfl) ?_;refine wpMix_seg ?_
  repeat (refine wpSeq_plain rfl (fun K hK => ?_); go_simp; refine hK _ ?_; clear hK K)
  have hb2 := HB1.out.drewN 1;obtain ⟨p0, p1, p2, p3, z0, z1, z2, z3, _⟩ := Blk.four hb2;refine wpSeq_shut rfl (fun K hK => ?_);go_wp2_with fail
  refine wpMix_end ?_;go_wp2_with fail
  refine bodyPost_ret (v := .agg #[.int .i64 t.kind, .string ⟨t.text.toArray⟩, .int .i64 (t.from_ : Int), .int .i64 (t.to_ : Int)]) (by simp [results, Tryz.results46, go_sem, p0, p1, p2, p3]) rfl ?_;exact ⟨by rw [HE.out], Touch.put4 (HF1.out.drewN 1) (.inr (Nat.le_refl _)) _ _ _ _⟩
 ·have d1 : decide ((k : Int) < (T.length : Int)) = false := by simp; omega
  have d1n : decide (k < T.length) = false := by simp; omega
  have HE := hid (show tokV en (T.drop k) = .agg #[.int .i64 0, .string ⟨#[]⟩, .int .i64 (en : Int), .int .i64 (en : Int)] from by rw [List.drop_eq_nil_of_le (by omega)]; rfl);clear hfar;go_enter Tryz.func46, Tryz.ntmps46;go_wp2_with fail
  go_quiet (fail)
  go_wp2_with fail
  have hf1 : Fresh w ((w.alloc (.cells #[.int .i64 0, .string ⟨#[]⟩, .int .i64 0, .int .i64 0] 107)).drewN nq) := ((Touch.refl _ _).alloc _).drewN _;have hb1 : Blk ((w.alloc (.cells #[.int .i64 0, .string ⟨#[]⟩, .int .i64 0, .int .i64 0] 107)).drewN nq) w.heap.size 107 #[.int .i64 0, .string ⟨#[]⟩, .int .i64 0, .int .i64 0] := (Blk.new _ _ _).drewN _;generalize ((w.alloc (.cells #[.int .i64 0, .string ⟨#[]⟩, .int .i64 0, .int .i64 0] 107)).drewN nq) = W1 at hf1 hb1 ⊢;have r2 := cR (hf1.cell (q2.trans rfl) (fun h => h));have hlt1 := hb1.lt;have hgg1 : g < W1.heap.size := Nat.lt_of_lt_of_le hgw hf1.size;have HF1 := hid hf1;have HB1 := hid hb1;clear q0 q1 q2 hf1 hb1;refine wp_region_mix [([(0, true), (1, true), (2, true), (3, true), (4, true), (5, true), (6, true), (7, true), (8, true)], 9)] [] (by kernel_rfl) (fun _ _ d _ _ h => by cases d <;> exact h) (by kernel_rfl) ?_;refine wpMix_seg ?_
  repeat (refine wpSeq_plain rfl (fun K hK => ?_); go_simp; refine hK _ ?_; clear hK K)
  have hb2 := HB1.out.drewN 1;obtain ⟨p0, p1, p2, p3, z0, z1, z2, z3, _⟩ := Blk.four hb2;refine wpSeq_shut rfl (fun K hK => ?_);go_wp2_with fail
  refine wpMix_end ?_;go_wp2_with fail
  refine bodyPost_ret (v := .agg #[.int .i64 0, .string ⟨#[]⟩, .int .i64 (en : Int), .int .i64 (en : Int)]) (by simp [results, Tryz.results46, go_sem, p0, p1, p2, p3]) rfl ?_;exact ⟨by rw [HE.out], Touch.put4 (HF1.out.drewN 1) (.inr (Nat.le_refl _)) _ _ _ _⟩
theorem at_any_n (c : Cf) (hc : c.Good) (k : Kp) (op : List Nat) (b : UInt8) (w : World) (h : Ps c k op w) :
  Calls Tryz.prog 47 #[pp0 c, .string ⟨#[b]⟩] w fun e w' => e = .returned (.bool (Np.isM b (c.at k).l)) ∧ Fresh w w' := by
 have HT := hid (tok_any_n c hc k op w h);clear hc h;generalize (c.at k).l = l at HT ⊢;go_enter Tryz.func47, Tryz.ntmps47;go_wp2_with fail
 refine HT.out.mono ?_;rintro _ w1 ⟨rfl, hf⟩;have HF := hid hf;clear hf;cases l with
 | nil =>
  unfold tokV;go_wp2_with fail
  go_ret;exact ⟨rfl, HF.out.alloc _⟩
 | cons t r =>
  unfold tokV;have HI := hid (show Np.isM b (t :: r) = ((t.kind == 7) && (t.text == [b])) from rfl);have hs : ((⟨t.text.toArray⟩ : ByteArray) == (⟨#[b]⟩ : ByteArray)) = (t.text == [b]) := by rw [str_eq']
  cases hk : (t.kind == 7) with
  | false =>
   have hkI : ((t.kind : Int) == (7 : Int)) = false := by
    have : t.kind ≠ 7 := by simpa using hk
    rw [beq_eq_false_iff_ne];omega
   go_wp2_with fail
   go_ret;exact ⟨by rw [HI.out, hk]; rfl, HF.out.alloc _⟩
  | true =>
   have hkI : ((t.kind : Int) == (7 : Int)) = true := by
    have : t.kind = 7 := by simpa using hk
    rw [this];rfl
   go_wp2_with fail
   go_ret;exact ⟨by rw [HI.out, hk]; rfl, HF.out.alloc _⟩
def failV (i e : Nat) : Value := .agg #[.int .i64 (i : Int), .int .i64 (e : Int)]
theorem field_tok0 (a b c d : Value) (w : World) : (Instr.field 107 (.agg #[a, b, c, d]) 0).run Tryz.prog w = .ok a w := by
 simp [Instr.field, run_underlying Tryz.underlying107, part, isAgg, asAgg, run_underlying Tryz.underlying3]
theorem field_tok1 (a b c d : Value) (w : World) : (Instr.field 107 (.agg #[a, b, c, d]) 1).run Tryz.prog w = .ok b w := by
 simp [Instr.field, run_underlying Tryz.underlying107, part, isAgg, asAgg, run_underlying Tryz.underlying9]
theorem field_tok2 (a b c d : Value) (w : World) : (Instr.field 107 (.agg #[a, b, c, d]) 2).run Tryz.prog w = .ok c w := by
 simp [Instr.field, run_underlying Tryz.underlying107, part, isAgg, asAgg, run_underlying Tryz.underlying3]
theorem Blk.two {w : World} {g : Nat} {t : TypeId} {x0 x1 : Value} (h : Blk w g t #[x0, x1]) :
  w.cell? ⟨g, 0, none⟩ = some x0 ∧ w.cell? ⟨g, 1, none⟩ = some x1 ∧ w.frozen? ⟨g, 0, none⟩ = false ∧ w.frozen? ⟨g, 1, none⟩ = false ∧ g < w.heap.size := ⟨h.cell 0, h.cell 1, h.frozen 0, h.frozen 1, h.lt⟩
theorem tok_place (en : Nat) (l : List PTok) : ∃ (r0 r1 r3 : Value) (r2 : Nat), tokV en l = .agg #[r0, r1, .int .i64 (r2 : Int), r3] ∧ r2 = Np.place en l := by
 cases l with
 | nil => exact ⟨_, _, _, _, rfl, rfl⟩
 | cons t r => exact ⟨_, _, _, _, rfl, rfl⟩
theorem refuse_any_n (c : Cf) (hc : c.Good) (k : Kp) (op : List Nat) (w : World) (h : Ps c k op w) :
  Calls Tryz.prog 29 #[pp0 c] w fun e w' => e = .returned (failV (Np.place c.en (c.at k).l) 3) ∧ Fresh w w' := by
 have HT := hid (fun (w' : World) (hf : Fresh w w') => tok_any_n c hc k op w' (h.fresh hf));clear hc h;generalize (c.at k).l = l at HT ⊢;obtain ⟨r0, r1, r3, r2, hr, hp⟩ := tok_place c.en l;rw [← hp];rw [hr] at HT;have hfd := field_tok2;clear hr hp;go_enter Tryz.func29, Tryz.ntmps29;go_wp2_with fail
 refine (HT.out _ ((Touch.refl _ _).alloc _)).mono ?_;rintro _ w1 ⟨rfl, hf⟩;have HF := hid (show Fresh w w1 from Touch.pre hf);obtain ⟨p0, p1, z0, z1, hlt⟩ := Blk.two (hf.blk (Blk.new w 48 #[.int .i64 0, .int .i64 0]) (fun h => h));clear hf;go_wp2_with fail
 (try simp only [Exit.inBlock, Exit.then])
 refine bodyPost_ret (v := failV r2 3) (by simp [failV, results, Tryz.results29, go_sem, p0, p1]) rfl ?_;exact ⟨rfl, (HF.out.setCell (p := ⟨w.heap.size, 0, none⟩) (.inr (Nat.le_refl _)) _).setCell (p := ⟨w.heap.size, 1, none⟩) (.inr (Nat.le_refl _)) _⟩
theorem slot_any_n (A : Option Addr) (n cap : Nat) (w : World) :
  Calls Tryz.prog 30 #[.slice A n cap] w fun e w' => e = .returned (.agg #[.int .i64 1, .string ⟨#[]⟩, .int .i64 0, .slice A n cap]) ∧ Fresh w w' := by
 go_enter Tryz.func30, Tryz.ntmps30;go_wp2_with fail
 (try simp only [Exit.inBlock, Exit.then])
 obtain ⟨p0, p1, p2, p3, _⟩ := Blk.four (Blk.new w 35 #[.int .i64 1, .string ⟨#[]⟩, .int .i64 0, .slice A n cap]);refine bodyPost_ret (v := .agg #[.int .i64 1, .string ⟨#[]⟩, .int .i64 0, .slice A n cap]) (by simp [results, Tryz.results30, go_sem, p0, p1, p2, p3]) rfl ?_;exact ⟨rfl, (Touch.refl _ _).alloc _⟩
theorem Ps.next {c : Cf} {k : Kp} {op : List Nat} {w : World} (h : Ps c k op w) (hk : k.p < c.T.length) (x : Int) (hx : x = ((k.p + 1 : Nat) : Int)) : Ps c k.up op (w.setCell ⟨c.g, 1, none⟩ (.int .i64 x)) ∧ Mp c.g c.W0.heap.size w (w.setCell ⟨c.g, 1, none⟩ (.int .i64 x)) := by
 obtain ⟨ov, hb, ho⟩ := h.box
 have hne : ∀ b, ov.ownBlock = some b → b ≠ c.g := fun b hb' => by
  obtain ⟨h1, cur, h2⟩ := owns_type ho hb';intro e;subst e;unfold Blk at hb;rw [hb] at h2;cases h2
 refine ⟨⟨h.low.setCell (p := ⟨c.g, 1, none⟩) (.inl rfl) _, ⟨ov, ?_, ownsRow_touch ho ((Touch.refl (fun b => b = c.g) w).setCell (p := ⟨c.g, 1, none⟩) (.inl rfl) _) hne⟩, hk, by have := h.nl; show k.n ≤ 1000 * (k.p + 1); omega⟩, Mp.put w 1 _⟩;have := hb.put 1 (.int .i64 x);rw [hx] at this ⊢;exact this
theorem single_any_n (c : Cf) (hc : c.Good) (k : Kp) (op : List Nat) (kd : Int) (tx : List UInt8) (w : World) (h : Ps c k op w) (hk : k.p < c.T.length) (htx : tx.length ≤ maxLen) :
  Calls Tryz.prog 101 #[pp0 c, .int .i64 kd, .string ⟨tx.toArray⟩] w fun e w' => ∃ b, e = .returned (.tuple #[.slice (some ⟨b, 0, none⟩) 1 1, failV 0 0]) ∧ TreT w.heap.size w' [.mk kd tx 0 []] (.slice (some ⟨b, 0, none⟩) 1 1) ∧ Ps c k.up op w' ∧ Mp c.g c.W0.heap.size w w' := by
 have htl := hc.tl;have hk4 : k.p ≤ 100000 := by omega
 obtain ⟨ov, hb, ho⟩ := h.box;have hgw := hb.lt;have q1 := hb.cell 1;have z1 := hb.frozen 1;have H := hid h;clear hc hb ho h;unfold pp0;have e1 : ((k.p : Int) + 1) = ((k.p + 1 : Nat) : Int) := by simp
 have HE := hid e1;clear e1;go_enter Tryz.func101, Tryz.ntmps101;go_wp2_with fail
 have hn := H.out.next hk ((k.p : Int) + 1) HE.out;have hs : (w.setCell ⟨c.g, 1, none⟩ (.int .i64 ((k.p : Int) + 1))).heap.size = w.heap.size := by simp
 generalize (w.setCell ⟨c.g, 1, none⟩ (.int .i64 ((k.p : Int) + 1))) = W1 at hn hs ⊢;rw [← hs]
 (try simp only [Exit.inBlock, Exit.then])
 have hbf : Blk ((W1.alloc (.cells #[.int .i64 0, .int .i64 0] 48)).alloc (.cells #[.int .i64 kd, .string ⟨tx.toArray⟩, .int .i64 0, .slice none 0 0] 35)) W1.heap.size 48 #[.int .i64 0, .int .i64 0] := (Blk.new _ _ _).alloc _;have hbn : Blk ((W1.alloc (.cells #[.int .i64 0, .int .i64 0] 48)).alloc (.cells #[.int .i64 kd, .string ⟨tx.toArray⟩, .int .i64 0, .slice none 0 0] 35)) (W1.heap.size + 1) 35 #[.int .i64 kd, .string ⟨tx.toArray⟩, .int .i64 0, .slice none 0 0] := Blk.new2 _ _ _ _;have hf2 : Fresh W1 ((W1.alloc (.cells #[.int .i64 0, .int .i64 0] 48)).alloc (.cells #[.int .i64 kd, .string ⟨tx.toArray⟩, .int .i64 0, .slice none 0 0] 35)) := ((Touch.refl _ _).alloc _).alloc _;generalize ((W1.alloc (.cells #[.int .i64 0, .int .i64 0] 48)).alloc (.cells #[.int .i64 kd, .string ⟨tx.toArray⟩, .int .i64 0, .slice none 0 0] 35)) = W2 at hbf hbn hf2 ⊢;obtain ⟨p0, p1, _⟩ := Blk.two hbf;refine bodyPost_ret (v := .tuple #[.slice (some ⟨W1.heap.size + 1, 0, none⟩) 1 1, failV 0 0]) (by simp [failV, results, Tryz.results101, go_sem, p0, p1]) rfl ?_;refine ⟨_, rfl, ?_, hn.1.fresh hf2, hn.2.trans (Mp.fresh hf2)⟩;obtain ⟨n0, n1, n2, n3, _⟩ := Blk.four hbn;exact TreT.one (by omega) ⟨_, _, hbn⟩ n0 n1 n2 n3 (.nil _ _) htx
theorem own_slc {W : World} {B e size n : Nat} {v : Value} {xs : List Value} (h : W.ownsRow B e size v n xs) : ∃ A c, v = .slice A n c := by
 rcases h.2 with ⟨h1, h2⟩ | ⟨g, cap, cur, h1, _⟩
 ·exact ⟨none, 0, by rw [h1, h2]⟩
 ·exact ⟨_, _, h1⟩
theorem own_shrink {W : World} {B e g n cap : Nat} {xs : List Value} {u : Value} (h : W.ownsRow B e 1 (.slice (some ⟨g, 0, none⟩) (n + 1) cap) (n + 1) (xs ++ [u])) : W.ownsRow B e 1 (.slice (some ⟨g, 0, none⟩) n cap) n xs := by
 have hl := h.1;rw [List.length_append, List.length_singleton] at hl;refine ⟨by omega, ?_⟩
 rcases h.2 with ⟨h1, _⟩ | ⟨g', cap', cur, h1, h2, h3, h4, h5, h6, h7⟩
 ·cases h1
 ·cases h1
  refine .inr ⟨g, cap, cur, rfl, h2, h3, by omega, h5, h6, ?_⟩;have h8 : (cur.toList.take ((n + 1) * 1)).take (n * 1) = (xs ++ [u]).take (n * 1) := by rw [h7]
  rw [List.take_take, show min (n * 1) ((n + 1) * 1) = n * 1 by omega] at h8;rw [h8, List.take_append_of_le_length (by omega), List.take_of_length_le (by omega)]
theorem Ps.put {c : Cf} {k : Kp} {op : List Nat} {w : World} (h : Ps c k op w) {b : Nat} {t : TypeId} {cs : Array Value} (hb : Blk w b t cs) (ht : t ≠ 3) (hne : b ≠ c.g) (hB : c.W0.heap.size ≤ b) (i : Nat) (v : Value) : Ps c k op (w.setCell ⟨b, i, none⟩ v) := by
 obtain ⟨ov, hbx, ho⟩ := h.box;refine ⟨h.low.setCell (p := ⟨b, i, none⟩) (.inr hB) v, ⟨ov, hbx.far (p := ⟨b, i, none⟩) (fun e => hne e.symm) v, ownsRow_touch ho ((Touch.refl (fun k => k = b) w).setCell (p := ⟨b, i, none⟩) (.inl rfl) v) fun k hk e => ?_⟩, h.le, h.nl⟩;obtain ⟨_, cur, h2⟩ := owns_type ho hk;subst e;unfold Blk at hb;rw [hb] at h2;cases h2;exact ht rfl
theorem up_snoc' (L : List Nat) (x : Nat) : intVs (up L) ++ [.int .i64 (x : Int)] = intVs (up (L ++ [x])) := by simp
theorem begin_any_n (c : Cf) (hc : c.Good) (k : Kp) (op : List Nat) (w : World) (h : Ps c k op w) (hk : k.p < c.T.length) (hop : op.length ≤ 100000) :
  Calls Tryz.prog 68 #[pp0 c] w fun e w' => e = .returned (.tuple #[]) ∧ Ps c k.up (op ++ [Np.place c.en (c.at k).l]) w' ∧ Mp c.g c.W0.heap.size w w' := by
 obtain ⟨i, hi, hz0, hz1, hz2⟩ := info_parts infoInt;have HT := hid (fun (w' : World) (hf : Fresh w w') => tok_any_n c hc k op w' (h.fresh hf));obtain ⟨ov, hb, ho⟩ := h.box
 obtain ⟨Ao, co, rfl⟩ : ∃ A cp, ov = .slice A op.length cp := by
  rcases ho.2 with ⟨h1, h2⟩ | ⟨g, cap, cur, h1, _⟩
  ·exact ⟨none, 0, by rw [h1, h2]⟩
  ·exact ⟨_, _, h1⟩
 have htl := hc.tl;have hk4 : k.p ≤ 100000 := by omega
 have hgw := hb.lt
 have hne : ∀ b, (Value.slice Ao op.length co).ownBlock = some b → b ≠ c.g := fun b hb' => by
  obtain ⟨h1, cur, h2⟩ := owns_type ho hb';intro e;subst e;unfold Blk at hb;rw [hb] at h2;cases h2
 have H := hid h;have HB := hid hb;have HO := hid ho;have HNE := hid hne;have HOP := hid hop;have HK := hid hk;have hW0 := hid (show c.W0.heap.size ≤ w.heap.size from h.low.size);clear hc hb ho h hne;generalize (c.at k).l = l at HT ⊢;obtain ⟨r0, r1, r3, r2, hr, hp⟩ := tok_place c.en l;rw [← hp];rw [hr] at HT;clear hr hp;have hfd := field_tok2;have r3' := cR ((HB.out.cell 3).trans rfl);have e1 : ((k.p : Int) + 1) = ((k.p + 1 : Nat) : Int) := by simp
 have HE := hid e1;clear e1;unfold pp0 at HT ⊢;go_enter Tryz.func68, Tryz.ntmps68;go_wp2_with fail
 refine wp_region_pre [0] [([(1, true), (2, true), (3, true), (4, true), (5, true), (6, false), (7, true), (8, false)], 9), ([(10, true), (11, true)], 12)] [] (by kernel_rfl) (fun _ _ d _ _ h => by cases d <;> exact h) (by kernel_rfl) ?_
 repeat (refine wpPre_step rfl (fun K hK => ?_); go_simp; refine hK _ ?_; clear hK K)
 refine wpPre_end ?_;refine wpMix_seg ?_
 repeat (refine wpSeq_plain rfl (fun K hK => ?_); go_simp; refine hK _ ?_; clear hK K)
 refine wpSeq_lone rfl (fun K hK => ?_);go_wp2_with fail
 refine (HT.out _ ((Touch.refl _ _).drewN _)).mono ?_;rintro _ w1 ⟨rfl, hf⟩;have HF1 := hid (show Fresh w w1 from Touch.ofN hf);clear hf r3';go_wp2_with fail
 refine hK _ _ (growing_fresh HF1.out) ?_;clear hK K
 repeat (refine wpSeq_plain rfl (fun K hK => ?_); go_simp; refine hK _ ?_; clear hK K)
 refine wpSeq_lone rfl (fun K hK => ?_);go_wp2_with fail
 refine hK _ _ (growing_fresh (HF1.out.alloc _)) ?_;clear hK K;refine wpSeq_shut rfl (fun K hK => ?_)
 go_wp2_with (at_builtin; refine wpList_append_src _ rfl (.tmp 6) (.tmp 10) 75 rfl c.W0.heap.size 3 i _ 1 8 rfl hi hz0 hz1 hz2 rfl (by decide) (.slice Ao op.length co) op.length (intVs (up op)) (by simp [Act.eval]) (ownsRow_touch HO.out (HF1.out.alloc _) (fun _ _ h => h)) (.slice (some ⟨w1.heap.size, 0, none⟩) 1 1) 1 [.int .i64 (r2 : Int)] (by simp [Act.eval]) (Src.of_blk (Blk.new _ _ _) rfl) (by intro u hu; simp at hu; rw [hu]; rfl) (by have := HOP.out; unfold maxLen; omega) (by have := HOP.out; omega) (by have h1 := hW0.out; have h2 := HF1.out.size; simp; omega) ?_; intro v8 W8 ho8 hg8 hv8; refine Stay.mk ?_)
 have HM8 := hid (show Mp c.g c.W0.heap.size w W8 from Mp.grown (Mp.fresh (HF1.out.alloc _)) (ownsRow_touch HO.out (HF1.out.alloc _) (fun _ _ h => h)) hg8)
 have HLOW8 := hid (show Touch (fun b => b = c.g) c.W0 W8 from ((H.out.low.trans ((HF1.out.alloc _).mono fun _ h => h.elim)).grown hg8 fun b hb => .inr (by
  have := (HO.out.lt b hb).1;exact this)))
 have HB8 := hid (show Blk W8 c.g 78 #[c.tv, .int .i64 (k.p : Int), .int .i64 (c.en : Int), .slice Ao op.length co, c.tp, .int .i64 (c.P : Int), c.mv, .int .i64 (k.n : Int), .bool k.b] from
  ((Touch.refl (fun b => (Value.slice Ao op.length co).ownBlock = some b) _).grown hg8 fun b hb => .inl hb).blk ((HF1.out.alloc _).blk HB.out (fun h => h)) fun hb => HNE.out _ hb rfl)
 rw [up_snoc'] at ho8;have HO8 := hid (show W8.ownsRow c.W0.heap.size 3 1 v8 (op ++ [r2]).length (intVs (up (op ++ [r2]))) from by rw [List.length_append]; exact ho8);obtain ⟨A8, c8, rfl⟩ := own_slc ho8;clear ho8 hg8 hv8;refine Stay.go ?_;go_wp2_with fail
 refine wpMix_seg ?_
 repeat (refine wpSeq_plain rfl (fun K hK => ?_); go_simp; refine hK _ ?_; clear hK K)
 have z3 := HB8.out.frozen 3;have y3 := HB8.out.cell 3;have hg8 := HB8.out.lt;refine wpSeq_shut rfl (fun K hK => ?_);go_wp2_with fail
 refine wpMix_end ?_
 have hne8 : ∀ b, (Value.slice A8 (op.length + 1) c8).ownBlock = some b → b ≠ c.g := fun b hb' => by
  obtain ⟨h1, cur, h2⟩ := owns_type HO8.out hb';intro e;subst e;have hb := HB8.out;unfold Blk at hb;rw [hb] at h2;cases h2
 have HP9 := hid (show Ps c k (op ++ [r2]) (W8.setCell ⟨c.g, 3, none⟩ (.slice A8 (op.length + 1) c8)) from
  ⟨HLOW8.out.setCell (p := ⟨c.g, 3, none⟩) (.inl rfl) _, ⟨.slice A8 (op.length + 1) c8, HB8.out.put 3 _, ownsRow_touch HO8.out ((Touch.refl (fun b => b = c.g) W8).setCell (p := ⟨c.g, 3, none⟩) (.inl rfl) _) hne8⟩, H.out.le, H.out.nl⟩)
 have HM9 := hid (show Mp c.g c.W0.heap.size w (W8.setCell ⟨c.g, 3, none⟩ (.slice A8 (op.length + 1) c8)) from HM8.out.trans (Mp.put W8 3 _));generalize (W8.setCell ⟨c.g, 3, none⟩ (.slice A8 (op.length + 1) c8)) = W9 at HP9 HM9 ⊢;obtain ⟨ov9, hb9, _⟩ := HP9.out.box;have q1 := hb9.cell 1;have z1 := hb9.frozen 1;have hg9 := hb9.lt;clear hb9 z3 y3 hg8 hne8;go_wp2_with fail
 obtain ⟨n1, n2⟩ := HP9.out.next HK.out _ HE.out
 (try simp only [Exit.inBlock, Exit.then])
 first | go_end0 | refine bodyPost_ret (v := .tuple #[]) (results_none rfl _ _ _) rfl ?_
 exact ⟨rfl, n1, HM9.out.trans n2⟩
theorem finish_any_n (c : Cf) (hc : c.Good) (k : Kp) (op : List Nat) (x : Nat) (b : UInt8) (w : World) (h : Ps c k (op ++ [x]) w) (hk : k.p < c.T.length ∨ Np.isM b (c.at k).l = false) :
  Calls Tryz.prog 69 #[pp0 c, .string ⟨#[b]⟩] w fun e w' =>
   (Np.isM b (c.at k).l = true ∧ e = .returned (failV 0 0) ∧ Ps c k.up op w' ∧ Mp c.g c.W0.heap.size w w') ∨
   (Np.isM b (c.at k).l = false ∧ e = .returned (failV (Np.place c.en (c.at k).l) 3) ∧ Mp c.g c.W0.heap.size w w') := by
 have HA := hid (fun (w' : World) (hf : Fresh w w') => at_any_n c hc k (op ++ [x]) b w' (h.fresh hf));have HR := hid (fun (w' : World) (hf : Fresh w w') => refuse_any_n c hc k (op ++ [x]) w' (h.fresh hf));have H := hid h;have htl := hc.tl;clear hc h;generalize hm : Np.isM b (c.at k).l = mb at HA hk ⊢;generalize Np.place c.en (c.at k).l = pl at HR ⊢;clear hm;cases mb with
 | false =>
  go_enter Tryz.func69, Tryz.ntmps69;go_wp2_with fail
  refine (HA.out _ ((Touch.refl _ _).alloc _)).mono ?_;rintro _ w1 ⟨rfl, hf⟩;have HF1 := hid (show Fresh w w1 from Touch.pre hf);have HB1 := hid (hf.blk (Blk.new w 48 #[.int .i64 0, .int .i64 0]) (fun h => h));clear hf;go_wp2_with fail
  refine (HR.out _ HF1.out).mono ?_;rintro _ w2 ⟨rfl, hf⟩;have HF2 := hid (HF1.out.trans hf);obtain ⟨p0, p1, z0, z1, hlt⟩ := Blk.two (hf.blk HB1.out (fun h => h));clear hf;unfold failV;go_wp2_with fail
  (try simp only [Exit.inBlock, Exit.then])
  refine bodyPost_ret (v := failV pl 3) (by simp [failV, results, Tryz.results69, go_sem, p0, p1]) rfl ?_;refine .inr ⟨trivial, rfl, Mp.fresh ((HF2.out.setCell (p := ⟨w.heap.size, 0, none⟩) (.inr (Nat.le_refl _)) _).setCell (p := ⟨w.heap.size, 1, none⟩) (.inr (Nat.le_refl _)) _)⟩
 | true =>
  have hk1 : k.p < c.T.length := by
   rcases hk with hk | hk
   ·exact hk
   ·cases hk
  have HK1 := hid hk1;clear hk;have hk4 : k.p ≤ 100000 := by omega
  go_enter Tryz.func69, Tryz.ntmps69;go_wp2_with fail
  refine (HA.out _ ((Touch.refl _ _).alloc _)).mono ?_;rintro _ w1 ⟨rfl, hf⟩;have HF1 := hid (show Fresh w w1 from Touch.pre hf);have HB1 := hid (hf.blk (Blk.new w 48 #[.int .i64 0, .int .i64 0]) (fun h => h));clear hf;have HP1 := hid (H.out.fresh HF1.out);obtain ⟨ov, hb1, ho1⟩ := HP1.out.box;have HBP := hid hb1;have HOV := hid ho1
  obtain ⟨go, co, rfl, hco⟩ : ∃ go cp, ov = .slice (some ⟨go, 0, none⟩) (op.length + 1) cp ∧ op.length + 1 ≤ cp := by
   rcases ho1.2 with ⟨_, h2⟩ | ⟨g, cap, cur, h1, _, _, h2, _⟩
   ·simp at h2
   ·rw [List.length_append, List.length_singleton] at h1 h2
    exact ⟨_, _, h1, h2⟩
  have hne : go ≠ c.g := fun e => by
   obtain ⟨h1, cur, h2⟩ := owns_type ho1 (g := go) rfl;subst e;unfold Blk at hb1;rw [hb1] at h2;cases h2
  have hmax : op.length + 1 ≤ maxLen := by
   rcases ho1.2 with ⟨_, h2⟩ | ⟨g, cap, cur, _, _, _, h2, h3, _⟩
   ·simp at h2
   ·rw [List.length_append, List.length_singleton] at h2
    exact Nat.le_trans h2 h3
  unfold maxLen at hmax;have HNE := hid hne;have r3 := cR ((hb1.cell 3).trans rfl);have e1 : ((op.length : Int) + 1) - 1 = (op.length : Int) := by omega
  have e2 : IntKind.i64.wrap ((op.length : Int)) = (op.length : Int) := IntWalk.i64_in _ (by omega);have hcl : op.length ≤ co := by omega
  have hgp := hb1.lt;have z3 := hb1.frozen 3;have y3 := hb1.cell 3;clear hb1 ho1 hne;unfold pp0 at HA HR ⊢;go_wp2_with fail
  refine wp_region_mix [([(0, true), (1, true), (2, true), (3, true), (4, true), (5, true), (6, true), (7, true), (8, true), (9, true), (10, true), (11, true), (12, true), (13, true)], 14)] [] (by kernel_rfl) (fun _ _ d _ _ h => by cases d <;> exact h) (by kernel_rfl) ?_;refine wpMix_seg ?_
  repeat (refine wpSeq_plain rfl (fun K hK => ?_); go_simp; refine hK _ ?_; clear hK K)
  clear r3;have y3' : (w1.drewN 1).cell? ⟨c.g, 3, none⟩ = some (.slice (some ⟨go, 0, none⟩) (op.length + 1) co) := y3.trans rfl;have z3' : (w1.drewN 1).frozen? ⟨c.g, 3, none⟩ = false := z3;refine wpSeq_shut rfl (fun K hK => ?_);go_wp2_with fail
  refine wpMix_end ?_
  have HP2 := hid (show Ps c k op ((w1.drewN 1).setCell ⟨c.g, 3, none⟩ (.slice (some ⟨go, 0, none⟩) op.length co)) from
   ⟨(HP1.out.low.drewN 1).setCell (p := ⟨c.g, 3, none⟩) (.inl rfl) _, ⟨_, (HBP.out.drewN 1).put 3 _, ownsRow_touch (own_shrink (by
    have h1 := HOV.out;rw [List.length_append, List.length_singleton] at h1;have e : intVs (up (op ++ [x])) = intVs (up op) ++ [.int .i64 (x : Int)] := by simp
    rw [e] at h1
    exact h1)) (((Touch.refl (fun b => b = c.g) w1).drewN 1).setCell (p := ⟨c.g, 3, none⟩) (.inl rfl) _) (fun b hb => by
     simp only [Value.ownBlock, Option.some.injEq] at hb;rw [← hb];exact HNE.out)⟩, HP1.out.le, HP1.out.nl⟩)
  have HM2 := hid (show Mp c.g c.W0.heap.size w ((w1.drewN 1).setCell ⟨c.g, 3, none⟩ (.slice (some ⟨go, 0, none⟩) op.length co)) from (Mp.fresh (HF1.out.drewN 1)).trans (Mp.put _ 3 _));have HBF := hid (show Blk ((w1.drewN 1).setCell ⟨c.g, 3, none⟩ (.slice (some ⟨go, 0, none⟩) op.length co)) w.heap.size 48 #[.int .i64 0, .int .i64 0] from (HB1.out.drewN 1).far (p := ⟨c.g, 3, none⟩) (fun e => by have h1 := H.out.glt; have h2 : w.heap.size = c.g := e; omega) _);generalize ((w1.drewN 1).setCell ⟨c.g, 3, none⟩ (.slice (some ⟨go, 0, none⟩) op.length co)) = W2 at HP2 HM2 HBF ⊢;obtain ⟨ov2, hb2, _⟩ := HP2.out.box;have q1 := hb2.cell 1;have z1 := hb2.frozen 1;have hg2 := hb2.lt;have e3 : ((k.p : Int) + 1) = ((k.p + 1 : Nat) : Int) := by simp
  have HE := hid e3;obtain ⟨p0, p1, y0, y1, hlt⟩ := Blk.two HBF.out;have hgl : c.g < w.heap.size := H.out.glt;clear hb2 e3 y3 z3 y3' z3' e1 e2;go_wp2_with fail
  obtain ⟨n1, n2⟩ := HP2.out.next HK1.out _ HE.out;have hbf3 := HBF.out.far (p := ⟨c.g, 1, none⟩) (fun e => by have h2 : w.heap.size = c.g := e; omega) (.int .i64 ((k.p : Int) + 1));have hne3 : w.heap.size ≠ c.g := fun e => by omega
  have hB3 : c.W0.heap.size ≤ w.heap.size := H.out.low.size;have hp4 := n1.put hbf3 (by decide) hne3 hB3 0 (.int .i64 0);have hb4 := hbf3.put 0 (.int .i64 0);have hp5 := hp4.put hb4 (by decide) hne3 hB3 1 (.int .i64 0);have hb5 : Blk _ _ 48 #[.int .i64 0, .int .i64 0] := hb4.put 1 (.int .i64 0);have hm5 := (HM2.out.trans n2).setCell (p := ⟨w.heap.size, 0, none⟩) (.inr (Nat.le_refl _)) (.int .i64 0) |>.setCell (p := ⟨w.heap.size, 1, none⟩) (.inr (Nat.le_refl _)) (.int .i64 0)
  obtain ⟨f0, f1, _⟩ := Blk.two hb5
  (try simp only [Exit.inBlock, Exit.then])
  refine bodyPost_ret (v := failV 0 0) (by simp [failV, results, Tryz.results69, go_sem, f0, f1]) rfl ?_;exact .inl ⟨trivial, rfl, hp5, hm5⟩
end Go.Proofs.YtomibmenojdieaaGreat
namespace Go.Proofs.YtomibmenojdieaaGreat
open Go.RowKit
open Tr (Nd)
open Lx (PTok)
def namedL : List (List UInt8 × FuncId) := [(Tr.sFrac, 42), (Tr.sRoot, 43), (Tr.sMatrix, 44), ([104, 97, 116], 45), ([98, 97, 114], 45), ([118, 101, 99], 45), ([100, 111, 116], 45), ([116, 105, 108, 100, 101], 45), ([99, 104, 101, 99, 107], 45)]
def methodV (g : Nat) (f : FuncId) : Value := .func (.func f) #[.pointer (some ⟨g, 0, none⟩)] #[]
def namedF (s : List UInt8) : Option FuncId := (namedL.find? fun x => x.1 == s).map (·.2)
def namedEs (g : Nat) : List MapEntry := namedL.zipIdx.map fun x => ⟨.string ⟨x.1.1.toArray⟩, methodV g x.1.2, x.2⟩
theorem findNow_str (s : List UInt8) : ∀ (l : List ((List UInt8 × Value) × Nat)) (i : Nat), ∃ j, Instr.findNow .string (.string ⟨s.toArray⟩) (l.map fun x => ⟨.string ⟨x.1.1.toArray⟩, x.1.2, x.2⟩) i = some ((l.find? fun x => x.1.1 == s).map fun x => (j, x.1.2))
 | [], i => ⟨0, rfl⟩
 | x :: l, i => by
  rw [List.map_cons, Instr.findNow, List.find?_cons]
  have hs : Instr.sameNow .string (.string ⟨s.toArray⟩) (.string ⟨x.1.1.toArray⟩) = some (x.1.1 == s) := by
   show some ((⟨s.toArray⟩ : ByteArray) == (⟨x.1.1.toArray⟩ : ByteArray)) = _;rw [str_eq']
   congr 1
   by_cases h : s = x.1.1
   ·rw [h]
   ·rw [beq_eq_false_iff_ne.2 h, beq_eq_false_iff_ne.2 (fun e => h e.symm)]
  simp only [hs];cases h : (x.1.1 == s) with
  | true => exact ⟨i, rfl⟩
  | false => exact findNow_str s l (i + 1)
theorem findNow_named (g : Nat) (s : List UInt8) : ∃ j, Instr.findNow .string (.string ⟨s.toArray⟩) (namedEs g) 0 = some ((namedF s).map fun f => (j, methodV g f)) := by
 have h := findNow_str s (namedL.zipIdx.map fun x => ((x.1.1, methodV g x.1.2), x.2)) 0;obtain ⟨j, h⟩ := h;refine ⟨j, ?_⟩;have e : (namedL.zipIdx.map fun x => ((x.1.1, methodV g x.1.2), x.2)).map (fun x => (⟨.string ⟨x.1.1.toArray⟩, x.1.2, x.2⟩ : MapEntry)) = namedEs g := by rw [List.map_map]; rfl
 rw [e] at h;rw [h]
 congr 1
 unfold namedF;rw [List.find?_map];simp only [Option.map_map]
 have e2 : ∀ (l : List (List UInt8 × FuncId)) (n : Nat), ((l.zipIdx n).find? fun x => x.1.1 == s).map (fun x => (j, methodV g x.1.2)) = (l.find? fun x => x.1 == s).map fun x => (j, methodV g x.2) := by
  intro l
  induction l with
  | nil => intro n; rfl
  | cons y l ih =>
   intro n;rw [List.zipIdx_cons, List.find?_cons, List.find?_cons];cases hy : (y.1 == s) with
   | true => rfl
   | false => exact ih (n + 1)
 exact e2 namedL 0
theorem zero_method (w : World) : (zeroValue 74).run Tryz.prog w = .ok .nilFunc w := by
 have := Tryz.zeroValue74 w;exact this
theorem check_str (e : Bool) (s : ByteArray) (w : World) : (Instr.checkKey e 10000 9 (.string s)).run Tryz.prog w = .ok () w := by
 rw [show (10000 : Nat) = 9999 + 1 from rfl];unfold Instr.checkKey;simp [run_underlying Tryz.underlying9]
theorem findKey_named (g : Nat) (s : List UInt8) (w : World) : ∃ j, (Instr.findKey 9 (.string ⟨s.toArray⟩) (namedEs g)).run Tryz.prog w = .ok ((namedF s).map fun f => (j, methodV g f)) w := by
 obtain ⟨j, hj⟩ := findNow_named g s;refine ⟨j, ?_⟩;unfold Instr.findKey;simp [run_underlying Tryz.underlying9, hj]
theorem run_named {w : World} {bm g clock : Nat} (hb : w.heap[bm]? = some (.map (namedEs g).toArray clock)) (s : List UInt8) (ok : Bool) :
  (Instr.lookup 76 (.map (some bm)) (.string ⟨s.toArray⟩) ok).run Tryz.prog w = .ok (match namedF s with
   | some f => if ok then .tuple #[methodV g f, .bool true] else methodV g f
   | none => if ok then .tuple #[.nilFunc, .bool false] else .nilFunc) w := by
 obtain ⟨j, hj⟩ := findKey_named g s w;have hg : (getObj bm).run Tryz.prog w = .ok (.map (namedEs g).toArray clock) w := by simp [getObj, Sem.run, hb]
 have hc := check_str;have hz := zero_method w;unfold Instr.lookup;cases hf : namedF s with
 | none =>
  rw [hf] at hj;cases ok <;> simp [run_underlying Tryz.underlying76, hg, hc, hj, hz]
 | some f =>
  rw [hf] at hj;cases ok <;> simp [run_underlying Tryz.underlying76, hg, hc, hj]
def Cf.Named (c : Cf) (bm : Nat) : Prop := c.mv = .map (some bm) ∧ c.W0.heap[bm]? = some (.map (namedEs c.g).toArray 9) ∧ bm ≠ c.g
theorem Cf.Named.at {c : Cf} {bm : Nat} (h : c.Named bm) {k : Kp} {op : List Nat} {w : World} (hp : Ps c k op w) : w.heap[bm]? = some (.map (namedEs c.g).toArray 9) :=
 (hp.low.block bm (Array.getElem?_eq_some_iff.1 h.2.1).1 h.2.2).trans h.2.1
theorem namedF_eq (s : List UInt8) : namedF s = if s = Tr.sFrac then some 42 else if s = Tr.sRoot then some 43 else if s = Tr.sMatrix then some 44 else if Np.accented s = true then some 45 else none := by
 by_cases h1 : s = Tr.sFrac
 ·subst h1; rfl
 ·by_cases h2 : s = Tr.sRoot
  ·subst h2; rfl
  ·by_cases h3 : s = Tr.sMatrix
   ·subst h3; rfl
   ·rw [if_neg h1, if_neg h2, if_neg h3]
    have b1 : (Tr.sFrac == s) = false := by simpa using fun e => h1 e.symm
    have b2 : (Tr.sRoot == s) = false := by simpa using fun e => h2 e.symm
    have b3 : (Tr.sMatrix == s) = false := by simpa using fun e => h3 e.symm
    unfold namedF namedL Np.accented Tr.accents;simp only [List.find?_cons, b1, b2, b3, List.contains_cons, List.find?_nil, List.contains_nil]
    have hc : ∀ x : List UInt8, (x == s) = (s == x) := fun x => by
     by_cases e : x = s
     ·subst e; simp
     ·rw [beq_eq_false_iff_ne.2 e, beq_eq_false_iff_ne.2 (fun h => e h.symm)]
    simp only [hc];cases (s == ([104, 97, 116] : List UInt8)) <;> cases (s == ([98, 97, 114] : List UInt8)) <;> cases (s == ([118, 101, 99] : List UInt8)) <;> cases (s == ([100, 111, 116] : List UInt8)) <;> cases (s == ([116, 105, 108, 100, 101] : List UInt8)) <;> cases (s == ([99, 104, 101, 99, 107] : List UInt8)) <;> rfl
theorem namedF_special (s : List UInt8) : namedF s = none ↔ Np.special s = false := by
 rw [namedF_eq];unfold Np.special
 by_cases h1 : s = Tr.sFrac
 ·rw [if_pos h1]
  exact ⟨fun h => (by cases h), fun h => by rw [h1] at h; revert h; decide⟩
 ·by_cases h2 : s = Tr.sRoot
  ·rw [if_neg h1, if_pos h2]
   exact ⟨fun h => (by cases h), fun h => by rw [h2] at h; revert h; decide⟩
  ·by_cases h3 : s = Tr.sMatrix
   ·rw [if_neg h1, if_neg h2, if_pos h3]
    exact ⟨fun h => (by cases h), fun h => by rw [h3] at h; revert h; decide⟩
   ·have b1 : (s == Tr.sFrac) = false := by simpa using h1
    have b2 : (s == Tr.sRoot) = false := by simpa using h2
    have b3 : (s == Tr.sMatrix) = false := by simpa using h3
    rw [if_neg h1, if_neg h2, if_neg h3, b1, b2, b3];cases Np.accented s <;> simp
end Go.Proofs.YtomibmenojdieaaGreat
