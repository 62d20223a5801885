/- Part 25 of 42 of a proof; its texts, joined: NmE, NmG. No condition. -/
import Derived.Test.YtomibmenojdieaaGreatXx24
import Derived.Test.YtomibmenojdieaaGreatXx19
import Derived.Laws.CopyOwn
import Derived.Laws.MakeOwn
import Derived.Test.YtomibmenojdieaaGreatXx5
set_option maxRecDepth 100000
set_option maxHeartbeats 4000000
namespace Go.Proofs.YtomibmenojdieaaGreat
open Go.RowKit
open Tr (Nd)
theorem snoc_of {α : Type} {L : List α} {m : Nat} (h : L.length = m + 1) : ∃ M x, L = M ++ [x] ∧ M.length = m := by
 rcases List.eq_nil_or_concat L with rfl | ⟨M, x, rfl⟩
 ·cases h
 ·refine ⟨M, x, List.concat_eq_append, ?_⟩
  rw [List.concat_eq_append, List.length_append] at h;simpa using h
open Classical in
noncomputable def least (R : Nat → Prop) : Nat := Classical.epsilon fun m => R m ∧ ∀ k, R k → m ≤ k
theorem least_ex {R : Nat → Prop} {m : Nat} (h : R m) : ∃ m, R m ∧ ∀ k, R k → m ≤ k := by
 induction m using Nat.strongRecOn with
 | _ m ih =>
  by_cases h2 : ∃ k, k < m ∧ R k
  ·obtain ⟨k, hk, hr⟩ := h2
   exact ih k hk hr
  ·exact ⟨m, h, fun k hr => by
    rcases Nat.lt_or_ge k m with h3 | h3
    ·exact absurd ⟨k, h3, hr⟩ h2
    ·exact h3⟩
theorem least_spec {R : Nat → Prop} {m : Nat} (h : R m) : R (least R) := (Classical.epsilon_spec (least_ex h)).1
theorem least_le {R : Nat → Prop} {m : Nat} (h : R m) : least R ≤ m := (Classical.epsilon_spec (least_ex h)).2 m h
theorem countL_app (a b : List Nd) : Tr.countL (a ++ b) = Tr.countL a + Tr.countL b := by
 induction a with
 | nil => rw [List.nil_append, Tr.countL]; omega
 | cons x a ih => rw [List.cons_append, Tr.countL, Tr.countL, ih]; omega
theorem run_copy_nodes (w : World) (ty : TypeId) (g n dCap sCap : Nat) (ad : Addr) (cur : Array Value) (hg : Blk w g 35 cur) (hcur : cur.size = n * 4) (cs : List Value) (hcs : cs.length = n * 4)
  (hsrc : ∀ j v, cs[j]? = some v → w.cell? (ad.add j) = some v) (h1 : ∀ v ∈ cs, v.oneCell' = true) :
  ∃ w', (Builtin.copy_ #[33, 33] ty #[.slice (some ⟨g, 0, none⟩) n dCap, .slice (some ad) n sCap]).run Tryz.prog w = .ok (.int .i64 (n : Int)) w' ∧ Blk w' g 35 cs.toArray ∧ Touch (fun k => k = g) w w' := by
 obtain ⟨i, hi, hz0, hz1, hz2⟩ := info_parts (show (Tryz.prog.info? 35).map (fun i => (i.zero, i.size, i.bytes)) = some (some (.agg #[.int .i64 0, .string ⟨#[]⟩, .int .i64 0, .slice none 0 0]), 4, 56) by kernel_rfl);have hl := run_loadCells_list (P := Tryz.prog) w ad cs hsrc;have hst := run_storeCells_at Tryz.prog g 0 35 cs 0 cur w hg (by omega) h1
 have hrow : w.setRow g (cur.toList.take (0 + 0) ++ cs ++ cur.toList.drop (0 + 0 + cs.length)).toArray = w.setRow g cs.toArray := by
  have : cur.toList.drop cs.length = [] := List.drop_eq_nil_of_le (by simp; omega);simp [this]
 rw [hrow] at hst;rw [hcs] at hl;refine ⟨w.setRow g cs.toArray, ?_, setRow_heap w g cur _ _ _ hg, ⟨rfl, rfl, rfl, by simp [World.setRow], fun k hk hn => setRow_other w g k _ hn⟩⟩;simp [Result.andThen, Builtin.copy_, run_underlying Tryz.underlying33, Builtin.lenOf, Builtin.firstCells, sizeOf, typeInfo, hi, hz1, hl, hst]
 rfl
theorem run_copy_no (w : World) (ty : TypeId) (A : Option Addr) (c : Nat) : (Builtin.copy_ #[33, 33] ty #[.slice none 0 0, .slice A 0 c]).run Tryz.prog w = .ok (.int .i64 0) w := by
 obtain ⟨i, hi, hz0, hz1, hz2⟩ := info_parts (show (Tryz.prog.info? 35).map (fun i => (i.zero, i.size, i.bytes)) = some (some (.agg #[.int .i64 0, .string ⟨#[]⟩, .int .i64 0, .slice none 0 0]), 4, 56) by kernel_rfl);have hl : ∀ (x : Addr), (loadCells x 0).run Tryz.prog w = .ok #[] w := fun x => by simpa using run_loadCells_list (P := Tryz.prog) w x [] (by simp)
 cases A <;> simp [Builtin.copy_, run_underlying Tryz.underlying33, Builtin.lenOf, Builtin.firstCells, sizeOf, typeInfo, hi, hl] <;> rfl
def nodeCs (sl : Nat → Value) : Nat → List Nd → List Value
 | _, [] => []
 | i, y :: ys => .int .i64 y.kind :: .string ⟨y.text.toArray⟩ :: .int .i64 y.cols :: sl i :: nodeCs sl (i + 1) ys
theorem nodeCs_len (sl : Nat → Value) : ∀ (i : Nat) (ks : List Nd), (nodeCs sl i ks).length = ks.length * 4
 | _, [] => rfl
 | i, y :: ys => by simp only [nodeCs, List.length_cons, nodeCs_len sl (i + 1) ys]; omega
theorem nodeCs_one {sl : Nat → Value} : ∀ (i : Nat) (ks : List Nd), (∀ j, j < ks.length → (sl (i + j)).oneCell' = true) → ∀ u ∈ nodeCs sl i ks, u.oneCell' = true
 | _, [], _, u, hu => by cases hu
 | i, y :: ys, h, u, hu => by
  simp only [nodeCs, List.mem_cons] at hu
  rcases hu with rfl | rfl | rfl | rfl | hu
  ·rfl
  ·rfl
  ·rfl
  ·exact h 0 (by simp)
  ·exact nodeCs_one (i + 1) ys (fun j hj => by have := h (j + 1) (by simpa using hj); rwa [show i + (j + 1) = i + 1 + j by omega] at this) u hu
theorem nodeCs_get (sl : Nat → Value) : ∀ (i : Nat) (ks : List Nd) (j : Nat) (hj : j < ks.length), (nodeCs sl i ks)[j * 4]? = some (.int .i64 ks[j].kind) ∧ (nodeCs sl i ks)[j * 4 + 1]? = some (.string ⟨ks[j].text.toArray⟩) ∧ (nodeCs sl i ks)[j * 4 + 2]? = some (.int .i64 ks[j].cols) ∧ (nodeCs sl i ks)[j * 4 + 3]? = some (sl (i + j))
 | _, [], j, hj => by simp at hj
 | i, y :: ys, 0, _ => ⟨rfl, rfl, rfl, rfl⟩
 | i, y :: ys, j + 1, hj => by
  obtain ⟨h0, h1, h2, h3⟩ := nodeCs_get sl (i + 1) ys j (by simpa using hj)
  have e : ∀ d, (nodeCs sl i (y :: ys))[(j + 1) * 4 + d]? = (nodeCs sl (i + 1) ys)[j * 4 + d]? := fun d => by
   rw [show (j + 1) * 4 + d = (j * 4 + d) + 4 by omega];rfl
  refine ⟨(e 0).trans h0, (e 1).trans h1, (e 2).trans h2, (e 3).trans ?_⟩;rw [h3, show i + 1 + j = i + (j + 1) by omega]
theorem nodeCs_src {W : World} {g : Nat} {sl : Nat → Value} : ∀ (ks : List Nd) (i f : Nat), (∀ j (hj : j < ks.length), W.cell? ⟨g, f + j * 4, none⟩ = some (.int .i64 ks[j].kind) ∧ W.cell? ⟨g, f + j * 4 + 1, none⟩ = some (.string ⟨ks[j].text.toArray⟩) ∧ W.cell? ⟨g, f + j * 4 + 2, none⟩ = some (.int .i64 ks[j].cols) ∧ W.cell? ⟨g, f + j * 4 + 3, none⟩ = some (sl (i + j))) →
  ∀ j u, (nodeCs sl i ks)[j]? = some u → W.cell? ⟨g, f + j, none⟩ = some u
 | [], _, _, _, j, u, hu => by simp [nodeCs] at hu
 | y :: ys, i, f, h, j, u, hu => by
  obtain ⟨h0, h1, h2, h3⟩ := h 0 (by simp);simp only [List.getElem_cons_zero, Nat.zero_mul, Nat.add_zero] at h0 h1 h2 h3
  match j, hu with
  | 0, hu => cases hu; exact h0
  | 1, hu => cases hu; exact h1
  | 2, hu => cases hu; exact h2
  | 3, hu => cases hu; exact h3
  | j + 4, hu =>
   have := nodeCs_src (W := W) (g := g) (sl := sl) ys (i + 1) (f + 4) (fun k hk => by
    have h := h (k + 1) (by simpa using hk);rw [show i + (k + 1) = i + 1 + k by omega, show f + (k + 1) * 4 = f + 4 + k * 4 by omega] at h;exact h) j u hu
   rwa [show f + 4 + j = f + (j + 4) by omega] at this
theorem PRow.top {w0 w : World} {M : List (Nd × Addr)} {x : Nd} {p : Addr} {A : Option Addr} {m cp : Nat} (h : PRow w0 w (M ++ [(x, p)]) (.slice A (m + 1) cp)) (hm : M.length = m) : m + 1 ≤ cp ∧ ∃ s, A = some ⟨s, 0, none⟩ ∧ s < w.heap.size ∧ w.cell? ⟨s, m, none⟩ = some (.pointer (some p)) ∧ PRow w0 w M (.slice A m cp) := by
 unfold PRow at h;rw [List.map_append, List.length_append, hm] at h;simp only [List.map_cons, List.map_nil, List.length_cons, List.length_nil, Nat.zero_add] at h
 rcases h.2 with ⟨hv, _⟩ | ⟨s, cap, cur, hv, _, _, hc, _⟩
 ·cases hv
 ·cases hv
  have hcell := h.cells (g := s) rfl m (.pointer (some p)) (by rw [List.getElem?_append_right (by simp; omega)]; simp [hm]);rw [Addr.add_mid, Nat.zero_add] at hcell;refine ⟨hc, s, rfl, (h.lt s rfl).2, hcell, ?_⟩;unfold PRow;rw [hm];exact own_shrink h
theorem PRow.mv {w0 w w' : World} {L : List (Nd × Addr)} {v : Value} {S : Nat → Prop} (h : PRow w0 w L v) (ht : Touch S w w') (hS : ∀ k, S k → ∀ cs, ¬ Blk w k 89 cs) : PRow w0 w' L v :=
 ownsRow_touch h ht fun k hk hs => by
  obtain ⟨_, cur, h2⟩ := owns_type h hk;exact hS k hs cur h2
theorem RepL.parts {W : World} {ks : List Nd} {v : Value} (h : RepL W ks v) (hne : ks ≠ []) : ∃ (g f cap : Nat) (sl : Nat → Value), v = .slice (some ⟨g, f, none⟩) ks.length cap ∧ g < W.heap.size ∧ ks.length ≤ maxLen ∧
  ∀ i (hi : i < ks.length), ks[i].text.length ≤ maxLen ∧ W.cell? ⟨g, f + i * 4, none⟩ = some (.int .i64 ks[i].kind) ∧ W.cell? ⟨g, f + i * 4 + 1, none⟩ = some (.string ⟨ks[i].text.toArray⟩) ∧
   W.cell? ⟨g, f + i * 4 + 2, none⟩ = some (.int .i64 ks[i].cols) ∧ W.cell? ⟨g, f + i * 4 + 3, none⟩ = some (sl i) ∧ RepL W ks[i].kids (sl i) := by
 cases h with
 | nil A cap => exact absurd rfl hne
 | row g f cap _ sl hg hl ht h0 h1 h2 h3 hk => exact ⟨g, f, cap, sl, rfl, hg, hl, fun i hi => ⟨ht i hi, h0 i hi, h1 i hi, h2 i hi, h3 i hi, hk i hi⟩⟩
theorem infoPNode : (Tryz.prog.info? 89).map (fun i => (i.zero, i.size, i.bytes)) = some (some (.pointer none), 1, 8) := by kernel_rfl
def CpSt (w0 : World) (n : Nd) (v : Value) (wr : World) (m : Nat) : Prop := ∃ (L : List (Nd × Addr)) (A : Option Addr) (k cp : Nat), v = .slice A k cp ∧ L.length = k ∧ Cpy w0 n wr L ∧ PRow w0 wr L (.slice A k cp) ∧ Tr.countL (L.map Prod.fst) = m ∧ m ≤ 1000000
noncomputable def cpMu (w0 : World) (n : Nd) (v : Value) (wr : World) : Nat := least (CpSt w0 n v wr)
def CopyE (n : Nd) (w : World) (e : Ending) (w' : World) : Prop := ∃ sl, e = .returned (nv n sl) ∧ TreT w.heap.size w' n.kids sl ∧ Fresh w w'
theorem dnode_any (n : Nd) (sl : Value) (w : World) (hcnt : Tr.count n ≤ 1000000) (hr : RepL w n.kids sl) : Calls Tryz.prog 39 #[nv n sl] w (CopyE n w) := by
 obtain ⟨A0, c0, hsl⟩ := hr.slice;subst hsl
 have HS0 := hid (show CpSt w n (.slice (some ⟨w.heap.size + 1 + 1, 0, none⟩) 1 1) (((w.alloc (.cells #[.int .i64 n.kind, .string ⟨n.text.toArray⟩, .int .i64 n.cols, .slice A0 n.kids.length c0] 35)).alloc (.cells #[.int .i64 0, .string ⟨#[]⟩, .int .i64 0, .slice none 0 0] 35)).alloc (.cells #[.pointer (some ⟨w.heap.size, 0, none⟩)] 89)) (Tr.count n) from by
  have hs1 : (w.alloc (.cells #[.int .i64 n.kind, .string ⟨n.text.toArray⟩, .int .i64 n.cols, .slice A0 n.kids.length c0] 35)).heap.size = w.heap.size + 1 := by simp
  have hb0 := (Blk.new w 35 #[.int .i64 n.kind, .string ⟨n.text.toArray⟩, .int .i64 n.cols, .slice A0 n.kids.length c0]).alloc (.cells #[.int .i64 0, .string ⟨#[]⟩, .int .i64 0, .slice none 0 0] 35) |>.alloc (.cells #[.pointer (some ⟨w.heap.size, 0, none⟩)] 89)
  have hb1 := (Blk.new2 w (.cells #[.int .i64 n.kind, .string ⟨n.text.toArray⟩, .int .i64 n.cols, .slice A0 n.kids.length c0] 35) 35 #[.int .i64 0, .string ⟨#[]⟩, .int .i64 0, .slice none 0 0]).alloc (.cells #[.pointer (some ⟨w.heap.size, 0, none⟩)] 89);have hf : Fresh w (((w.alloc (.cells #[.int .i64 n.kind, .string ⟨n.text.toArray⟩, .int .i64 n.cols, .slice A0 n.kids.length c0] 35)).alloc (.cells #[.int .i64 0, .string ⟨#[]⟩, .int .i64 0, .slice none 0 0] 35)).alloc (.cells #[.pointer (some ⟨w.heap.size, 0, none⟩)] 89)) := (((Touch.refl _ w).alloc _).alloc _).alloc _;refine ⟨[(n, ⟨w.heap.size, 0, none⟩)], _, 1, 1, rfl, rfl, ⟨hf, ⟨A0, c0, hb0, .wait _ _ _ (by simp) hr⟩, hb1, fun x hx => ?_, by simp⟩, ?_, by simp [Tr.countL], hcnt⟩
  ·obtain rfl := List.mem_singleton.1 hx
   exact ⟨rfl, Nat.le_refl _, (by show w.heap.size ≠ _; omega), _, A0, c0, hb0, rfl, hr⟩
  ·unfold PRow
   have := World.ownsRow_lit (base := w.heap.size) (e := 89) (size := 1) ((w.alloc (.cells #[.int .i64 n.kind, .string ⟨n.text.toArray⟩, .int .i64 n.cols, .slice A0 n.kids.length c0] 35)).alloc (.cells #[.int .i64 0, .string ⟨#[]⟩, .int .i64 0, .slice none 0 0] 35)) #[.pointer (some ⟨w.heap.size, 0, none⟩)] 1 (by simp; omega) (by simp only [maxLen]; omega) (by simp);simpa using this)
 clear hr hcnt;unfold nv;go_enter Tryz.func39, Tryz.ntmps39;go_wp2_with fail
 generalize (((w.alloc (.cells #[.int .i64 n.kind, .string ⟨n.text.toArray⟩, .int .i64 n.cols, .slice A0 n.kids.length c0] 35)).alloc (.cells #[.int .i64 0, .string ⟨#[]⟩, .int .i64 0, .slice none 0 0] 35)).alloc (.cells #[.pointer (some ⟨w.heap.size, 0, none⟩)] 89)) = W1 at HS0 ⊢
 go_loopw [3] (fun v wr0 => ∃ (wr : World) (m : Nat), wr = wr0 ∧ Hid (CpSt w n v wr m)) (fun v wr => cpMu w n v wr)
 case atStart => exact ⟨_, _, rfl, HS0⟩
 case round =>
  clear HS0;obtain ⟨wr, m0, rfl, hst0⟩ := hrel;obtain ⟨L, A, k, cp, rfl, hlen, hcp, hpr, hm, hmle⟩ := least_spec hst0.out;have HLE := hid hmle;cases k with
  | zero =>
   have d1 : decide ((0 : Int) < (0 : Int)) = false := by decide
   obtain ⟨Ab, cb, hbb, htb⟩ := hcp.box;obtain ⟨p0, p1, p2, p3, _, _, _, _, hl0⟩ := Blk.four hbb;obtain ⟨q0, q1, q2, q3, z0, z1, z2, z3, hl1⟩ := Blk.four hcp.res;have HBR := hid hcp.res;rw [List.length_eq_zero_iff.1 hlen, List.map_nil] at htb;have HTB := hid htb;have HFR := hid hcp.fr;clear hst0 hlen hcp hpr hm hmle hbb htb;go_wp2_with fail
   have n1 := HBR.out.self4 (.int .i64 n.kind) (.string ⟨n.text.toArray⟩) (.int .i64 n.cols) (.slice Ab n.kids.length cb);have hf := HFR.out.put4 (g := w.heap.size + 1) (.inr (by omega)) (.int .i64 n.kind) (.string ⟨n.text.toArray⟩) (.int .i64 n.cols) (.slice Ab n.kids.length cb);simp only [put4] at n1 hf;obtain ⟨g0, g1, g2, g3, _⟩ := Blk.four n1
   (try simp only [Exit.inBlock, Exit.then])
   refine bodyPost_ret (v := .agg #[.int .i64 n.kind, .string ⟨n.text.toArray⟩, .int .i64 n.cols, .slice Ab n.kids.length cb]) (by simp [results, Tryz.results39, go_sem, g0, g1, g2, g3]) rfl ?_;have ht := (Touch.refl (fun k => k = w.heap.size + 1) wr).put4 (.inl rfl) (.int .i64 n.kind) (.string ⟨n.text.toArray⟩) (.int .i64 n.cols) (.slice Ab n.kids.length cb);simp only [put4] at ht;exact ⟨_, rfl, (HTB.out.mv ht (fun k hk => .inl (by omega))).done rfl, hf⟩
  | succ m =>
   obtain ⟨M, ⟨x, p⟩, rfl, hM⟩ := snoc_of hlen;obtain ⟨hcp1, s, rfl, hs, hc, hpr2⟩ := hpr.top hM;obtain ⟨hsp, hpb, hpne, cs, Ax, cx, hb, hsl, hox⟩ := hcp.it (x, p) (by simp);obtain ⟨pb, po, sp⟩ := p;simp only at hsp hpb hpne hb hsl hox hc;subst hsp;have HCP := hid hcp;have HPR := hid hpr2;have HBX := hid hb;have HSL := hid hsl;have HOX := hid hox;have HMM := hid hM;have HPB := hid (And.intro hpb hpne)
   have hmm0 : Tr.countL (M.map Prod.fst) + Tr.countL x.kids + 1 ≤ 1000000 := by
    rw [List.map_append, countL_app] at hm;simp only [List.map_cons, List.map_nil, Tr.countL, Tr.count_kids] at hm;omega
   have HMB0 := hid hmm0
   have HM0 := hid (show Tr.countL (M.map Prod.fst) + Tr.countL x.kids + 1 = cpMu w n (.slice (some ⟨s, 0, none⟩) (m + 1) cp) wr by
    rw [List.map_append, countL_app] at hm;simp only [List.map_cons, List.map_nil, Tr.countL, Tr.count_kids] at hm;unfold cpMu;omega)
   have hmu : cpMu w n (.slice (some ⟨s, 0, none⟩) (m + 1) cp) wr ≤ 1000000 := hmle;have hkl := Tr.countL_len x.kids;have hml := Tr.countL_len (M.map Prod.fst);rw [List.length_map, hM] at hml;have HBD := hid (show x.kids.length ≤ 1000000 ∧ m ≤ 1000000 ∧ m + x.kids.length ≤ 1000000 by have := HM0.out; omega);obtain ⟨q, hq⟩ : ∃ q, q = x.kids.length := ⟨_, rfl⟩;have HQ := hid hq;rw [← hq] at HSL HOX HBD hsl hox;have hqb := HBD.out.1;have hmb := HBD.out.2.1;have y3 : wr.cell? ⟨pb, po + 3, none⟩ = some (.slice Ax q cx) := by rw [hb.cell]; exact hsl
   have z3 : wr.frozen? ⟨pb, po + 3, none⟩ = false := hb.frozen _;have hpl : pb < wr.heap.size := hb.lt
   have HNE := hid (show s ≠ pb from fun e => by
    subst e;have h1 := HPR.out;obtain ⟨_, cur, h2⟩ := owns_type h1 rfl;unfold Blk at hb;rw [hb] at h2;cases h2)
   have d1 : decide ((0 : Int) < ((m + 1 : Nat) : Int)) = true := dT (by omega);have d1' : decide ((0 : Int) < (m : Int) + 1) = true := dT (by omega);have d1n : decide (0 < m + 1) = true := dT (by omega);have w1 : IntKind.i64.wrap (m : Int) = (m : Int) := IntWalk.i64_in _ (by omega);have w2 : (m : Int) + 1 - 1 = (m : Int) := by omega
   have w3 : (m : Int) < (m : Int) + 1 := by omega
   have w5 : (m : Int) ≤ (cp : Int) := by omega
   have w6 : m ≤ cp := by omega
   clear hst0 hlen hcp hpr hm hmle hM hpr2 hpb hpne hb hsl hox hq hmu hkl hml hcp1 HLE hmm0;have hways : q = 0 ∨ 0 < q := by omega
   rcases hways with rfl | hq0
   focus
    have e1 : decide ((0 : Int) < (0 : Int)) = false := by decide
    have hcpy := fun W : World => run_copy_no W 3 Ax cx
    have hx0 : x.kids = [] := List.length_eq_zero_iff.1 HQ.out.symm;have htt : Touch (fun k => k = pb) wr (wr.setCell ⟨pb, po + 3, none⟩ (.slice none 0 0)) := (Touch.refl (fun k => k = pb) wr).setCell (p := ⟨pb, po + 3, none⟩) (.inl rfl) (.slice none 0 0)
    have HC3 := hid (show Cpy w n (wr.setCell ⟨pb, po + 3, none⟩ (.slice none 0 0)) M by
     have h := Cpy.step (p := ⟨pb, po, none⟩) HCP.out HBX.out (by rw [hx0]; exact HSL.out) (by rw [hx0, List.length_nil, ← hx0]; exact HOX.out) (HBX.out.put (po + 3) (.slice none 0 0)) htt (g := 0) (ds := #[]) (cap := 0) (sl := fun _ => .nilFunc) (.inl ⟨hx0, rfl⟩);rw [hx0] at h;simpa [kidsP] using h)
    have HR3 := hid (show PRow w (wr.setCell ⟨pb, po + 3, none⟩ (.slice none 0 0)) M (.slice (some ⟨s, 0, none⟩) m cp) from HPR.out.mv htt fun k hk cs' h => by subst hk; exact absurd (HBX.out.inj h).1 (by decide));have HM1 := hid (show Tr.countL (M.map Prod.fst) + 1 = cpMu w n (.slice (some ⟨s, 0, none⟩) (m + 1) cp) wr by have h := HM0.out; rw [hx0, Tr.countL] at h; omega);have HMB := hid (show Tr.countL (M.map Prod.fst) ≤ 1000000 by have := HMB0.out; omega);clear hx0 htt;go_wp2_with fail
    clear y3 z3 hpl hc hs d1 d1' d1n w1 w2 w3 w5 w6 hcpy e1;generalize (wr.setCell ⟨pb, po + 3, none⟩ (.slice none 0 0)) = W3 at HC3 HR3 ⊢;have HNEW0 := hid (show CpSt w n (.slice (some ⟨s, 0, none⟩) m cp) W3 (Tr.countL (M.map Prod.fst)) from ⟨M, _, m, cp, rfl, HMM.out, HC3.out, HR3.out, rfl, HMB.out⟩)
    go_loopw [3, 49] (fun a i wr0 => ∃ wr' : World, wr' = wr0 ∧ Hid (CpSt w n (.slice (some ⟨s, 0, none⟩) m cp) wr' (Tr.countL (M.map Prod.fst))) ∧ a = .slice (some ⟨s, 0, none⟩) m cp ∧ i = .int .i64 0) (fun _ _ _ => 0)
    case atStart => exact ⟨_, rfl, HNEW0, rfl, rfl⟩
    case round =>
     clear HC3 HR3 HNEW0;obtain ⟨wr', rfl, HNEW, rfl, rfl⟩ := hrel;have d1 : decide ((0 : Int) < (0 : Int)) = false := by decide
     go_wp2_with fail
     go_roundw
     case rel => exact ⟨_, _, rfl, HNEW⟩
     case measure =>
      have h1 : cpMu w n (.slice (some ⟨s, 0, none⟩) m cp) wr' ≤ Tr.countL (M.map Prod.fst) := least_le HNEW.out;have h2 := HM1.out;omega
   focus
    have e1 : decide ((0 : Int) < (q : Int)) = true := dT (by omega);have e1n : decide (0 < q) = true := dT hq0;have e2 : (0 : Int) < (q : Int) := by omega
    have hmk : ∀ W : World, (Instr.makeSlice 33 (.int .i64 (q : Int)) (.int .i64 (q : Int))).run Tryz.prog W = .ok (.slice (some ⟨W.heap.size, 0, none⟩) q q) (W.alloc (.cells (madeCells #[.int .i64 0, .string ⟨#[]⟩, .int .i64 0, .slice none 0 0] (q * 4)) 35)) := fun W => by
     obtain ⟨i, hi, hz0, hz1, hz2⟩ := info_parts (show (Tryz.prog.info? 35).map (fun i => (i.zero, i.size, i.bytes)) = some (some (.agg #[.int .i64 0, .string ⟨#[]⟩, .int .i64 0, .slice none 0 0]), 4, 56) by kernel_rfl);have h := run_make (P := Tryz.prog) W 33 35 i _ Tryz.underlying33 hi hz0 .i64 .i64 (q : Int) (q : Int) (by omega) (Int.le_refl _) (by rw [hz2]; omega) (by omega);rw [hz1, Int.toNat_natCast] at h;exact h
    have hmx : q ≤ maxLen := by simp only [maxLen]; omega
    have hne0 : x.kids ≠ [] := fun e => by have := HQ.out; rw [e] at this; simp at this; omega
    obtain ⟨go, f, cap, sl, hv, hgo, _, hi⟩ := HOX.out.parts hne0;rw [← HQ.out] at hv;have hAx : Ax = some ⟨go, f, none⟩ := by injection hv
    subst hAx;have HI := hid hi;have hsz2 : ((wr.setCell ⟨pb, po + 3, none⟩ (.slice none 0 0)).setCell ⟨pb, po + 3, none⟩ (.slice (some ⟨wr.heap.size, 0, none⟩) q q)).heap.size = wr.heap.size := by simp
    have HB2 := hid (show Blk (((wr.setCell ⟨pb, po + 3, none⟩ (.slice none 0 0)).setCell ⟨pb, po + 3, none⟩ (.slice (some ⟨wr.heap.size, 0, none⟩) q q)).alloc (.cells (madeCells #[.int .i64 0, .string ⟨#[]⟩, .int .i64 0, .slice none 0 0] (q * 4)) 35)) wr.heap.size 35 (madeCells #[.int .i64 0, .string ⟨#[]⟩, .int .i64 0, .slice none 0 0] (q * 4)) by
     have h := Blk.new ((wr.setCell ⟨pb, po + 3, none⟩ (.slice none 0 0)).setCell ⟨pb, po + 3, none⟩ (.slice (some ⟨wr.heap.size, 0, none⟩) q q)) 35 (madeCells #[.int .i64 0, .string ⟨#[]⟩, .int .i64 0, .slice none 0 0] (q * 4));rw [hsz2] at h;exact h)
    have HP2 := hid (((HBX.out.put (po + 3) (.slice none 0 0)).put (po + 3) (.slice (some ⟨wr.heap.size, 0, none⟩) q q)).alloc (.cells (madeCells #[.int .i64 0, .string ⟨#[]⟩, .int .i64 0, .slice none 0 0] (q * 4)) 35));have HT2 := hid ((((Touch.refl (fun k => k = pb) wr).setCell (p := ⟨pb, po + 3, none⟩) (.inl rfl) (.slice none 0 0)).setCell (p := ⟨pb, po + 3, none⟩) (.inl rfl) (.slice (some ⟨wr.heap.size, 0, none⟩) q q)).alloc (.cells (madeCells #[.int .i64 0, .string ⟨#[]⟩, .int .i64 0, .slice none 0 0] (q * 4)) 35));have HPB2 := hid hpl;clear hi hv hmx hne0 hsz2 hgo;go_wp2_with fail
    generalize (((wr.setCell ⟨pb, po + 3, none⟩ (.slice none 0 0)).setCell ⟨pb, po + 3, none⟩ (.slice (some ⟨wr.heap.size, 0, none⟩) q q)).alloc (.cells (madeCells #[.int .i64 0, .string ⟨#[]⟩, .int .i64 0, .slice none 0 0] (q * 4)) 35)) = W2 at HB2 HP2 HT2 ⊢;have HF2 := hid (HCP.out.fr.trans' HT2.out fun k hk => .inr (by rw [hk]; exact HPB.out.1))
    obtain ⟨W3, hcpy, hb3, ht3⟩ := run_copy_nodes W2 3 wr.heap.size q q cx ⟨go, f, none⟩ _ HB2.out (size_madeCells _ _) (nodeCs sl 0 x.kids) (by rw [nodeCs_len, HQ.out]) (fun j u hu => by
     have := nodeCs_src (W := W2) (g := go) (sl := sl) x.kids 0 f (fun j hj => by
      obtain ⟨_, h0, h1, h2, h3, _⟩ := HI.out j hj;rw [Nat.zero_add];exact ⟨HF2.out.cell h0 (fun h => h), HF2.out.cell h1 (fun h => h), HF2.out.cell h2 (fun h => h), HF2.out.cell h3 (fun h => h)⟩) j u hu
     rwa [Addr.add_mid]) (nodeCs_one 0 x.kids fun j hj => by
      obtain ⟨_, _, e⟩ := ((HI.out j hj).2.2.2.2.2).slice;rw [Nat.zero_add, e];rfl)
    rw [hcpy]
    have hpb3 : Blk W3 pb 35 (cs.setIfInBounds (po + 3) (.slice (some ⟨wr.heap.size, 0, none⟩) q q)) := by
     have h := ht3.blk HP2.out (by have := HPB2.out; omega);rw [Array.setIfInBounds_setIfInBounds] at h;exact h
    have htt : Touch (fun k => k = pb) wr W3 := HT2.out.trans' ht3 fun k hk => .inr (by omega)
    have HC3 := hid (show Cpy w n W3 (M ++ kidsP wr.heap.size x.kids) from
     Cpy.step (p := ⟨pb, po, none⟩) HCP.out HBX.out (by rw [← HQ.out]; exact HSL.out) (by rw [← HQ.out]; exact HOX.out) hpb3 htt (g := wr.heap.size) (cap := q) (sl := sl) (.inr ⟨by rw [← HQ.out], Nat.le_refl _, hb3, by rw [← HQ.out]; simp only [maxLen]; omega, fun i hi => by
      obtain ⟨h0, _, _, _, _, h5⟩ := HI.out i hi;obtain ⟨k0, k1, k2, k3⟩ := nodeCs_get sl 0 x.kids i hi;rw [Nat.zero_add] at k3;exact ⟨h0, by simpa using k0, by simpa using k1, by simpa using k2, by simpa using k3, h5⟩⟩))
    have HR3 := hid (show PRow w W3 M (.slice (some ⟨s, 0, none⟩) m cp) from HPR.out.mv htt fun k hk cs' h => by subst hk; exact absurd (HBX.out.inj h).1 (by decide))
    have hcl : (cs.setIfInBounds (po + 3) (.slice (some ⟨wr.heap.size, 0, none⟩) q q))[po + 3]? = some (.slice (some ⟨wr.heap.size, 0, none⟩) q q) := by
     have := (Array.getElem?_eq_some_iff.1 HSL.out).1;simp [this]
    have hA3 : 0 < q → (some ⟨wr.heap.size, 0, none⟩ : Option Addr) = some ⟨wr.heap.size, 0, none⟩ := fun _ => rfl
    obtain ⟨cs3, hcs3⟩ : ∃ cs3, cs3 = cs.setIfInBounds (po + 3) (.slice (some ⟨wr.heap.size, 0, none⟩) q q) := ⟨_, rfl⟩;rw [← hcs3] at hpb3 hcl;have HPB3 := hid hpb3;have HCL := hid hcl;have HA3 := hid hA3;obtain ⟨A3, hA⟩ : ∃ A3, A3 = (some ⟨wr.heap.size, 0, none⟩ : Option Addr) := ⟨_, rfl⟩;clear hA;have y4 : W3.cell? ⟨pb, po + 3, none⟩ = some (.slice (some ⟨wr.heap.size, 0, none⟩) q q) := by rw [hpb3.cell]; exact hcl
    clear y3 z3 hpl hcpy hb3 ht3 htt hcs3 hpb3 hcl hA3 HB2 HP2 HT2 HF2 HI HPB2 hmk e1 e1n e2 hc hs d1 d1' d1n w1 w2 w3 w5 w6;go_wp2_with fail
    go_loopw [3, 49] (fun a i wr0 => ∃ (wr' : World) (A' : Option Addr) (n' cp' j : Nat), wr' = wr0 ∧ a = .slice A' n' cp' ∧ i = .int .i64 j ∧ j ≤ q ∧ Hid (n' = m + j) ∧ Hid (Cpy w n wr' (M ++ kidsP wr.heap.size x.kids)) ∧ Hid (PRow w wr' (M ++ (kidsP wr.heap.size x.kids).take j) (.slice A' n' cp')) ∧ Hid (Blk wr' pb 35 cs3)) (fun _ i _ => q - (intOf i).toNat)
    case atStart => exact ⟨_, _, m, cp, 0, rfl, rfl, rfl, Nat.zero_le _, hid rfl, HC3, hid (by rw [List.take_zero, List.append_nil]; exact HR3.out), HPB3⟩
    case round =>
     clear HC3 HR3 HPB3 y4;obtain ⟨wr', A', n', cp', j, rfl, rfl, rfl, hj, HN, HC, HR, HP⟩ := hrel;have y4 : wr'.cell? ⟨pb, po + 3, none⟩ = some (.slice (some ⟨wr.heap.size, 0, none⟩) q q) := by rw [HP.out.cell]; exact HCL.out
     by_cases c1 : j < q
     ·have d1 : decide ((j : Int) < (q : Int)) = true := dT (by omega)
      have d1n : decide (j < q) = true := dT c1;have d1' : (j : Int) < (q : Int) := by omega
      have hjb : j ≤ 1000000 := by omega
      have hwl : wr.heap.size < wr'.heap.size := by
       obtain ⟨_, _, _, ds, _, _, h1, _⟩ := HC.out.it (x.kids[j]'(by rw [← HQ.out]; exact c1), ⟨wr.heap.size, j * 4, none⟩) (List.mem_append_right _ (List.mem_of_getElem? (kidsP_get wr.heap.size x.kids j (by rw [← HQ.out]; exact c1))));exact h1.lt
      have HLN := hid (show (M ++ (kidsP wr.heap.size x.kids).take j).length = n' ∧ n' ≤ 1000000 by
       have h1 := HQ.out;have h2 := HMM.out;have h3 := HN.out;have h4 := HBD.out.2.2;rw [List.length_append, List.length_take, kidsP_len];omega)
      have HTK := hid (show M ++ (kidsP wr.heap.size x.kids).take (j + 1) = (M ++ (kidsP wr.heap.size x.kids).take j) ++ [(x.kids[j]'(by rw [← HQ.out]; exact c1), ⟨wr.heap.size, j * 4, none⟩)] by
       rw [List.take_add_one, kidsP_get wr.heap.size x.kids j (by rw [← HQ.out]; exact c1), List.append_assoc];rfl)
      obtain ⟨i, hi, hz0, hz1, hz2⟩ := info_parts infoPNode;have HBV := hid (Blk.new wr' 89 #[.pointer (some ⟨wr.heap.size, j * 4, none⟩)]);have HRA := hid (HR.out.mv ((Touch.refl (fun _ => False) wr').alloc (.cells #[.pointer (some ⟨wr.heap.size, j * 4, none⟩)] 89)) fun _ h => h.elim);have HFA := hid (show Fresh wr' (wr'.alloc (.cells #[.pointer (some ⟨wr.heap.size, j * 4, none⟩)] 89)) from (Touch.refl _ wr').alloc _)
      go_wp2_with (at_builtin; go_loud (refine wpList_append_src _ rfl (.tmp 52) (.tmp 59) 114 rfl w.heap.size 89 i _ 1 8 Tryz.underlying114 hi hz0 hz1 hz2 rfl (by decide) (.slice A' n' cp') n' _ (by simp [Act.eval]) (by have h := HRA.out; unfold PRow at h; rw [HLN.out.1] at h; exact h) (.slice (some ⟨wr'.heap.size, 0, none⟩) 1 1) 1 [.pointer (some ⟨wr.heap.size, j * 4, none⟩)] (by simp [Act.eval]) (Src.of_blk HBV.out rfl) (by intro u hu; simp at hu; rw [hu]; rfl) (by have := HLN.out.2; simp only [maxLen]; omega) (by have := HLN.out.2; omega) (by have := HC.out.fr.size; simp; omega) ?_); intro v8 w8 ho8 hg8 hv8; refine Stay.mk ?_)
      have HR8 := hid (show PRow w w8 (M ++ (kidsP wr.heap.size x.kids).take (j + 1)) v8 by
       unfold PRow;rw [HTK.out, List.map_append, List.length_append, HLN.out.1];exact ho8)
      have HT8 := hid (show Touch (fun k => (Value.slice A' n' cp').ownBlock = some k) wr' w8 from Touch.grown (HFA.out.mono fun _ h => h.elim) hg8 fun k hk => .inl hk)
      have hty : ∀ k, (Value.slice A' n' cp').ownBlock = some k → w.heap.size ≤ k ∧ ∀ cs fr, wr'.heap[k]? ≠ some (.cells cs 35 fr) := fun k hk => by
       obtain ⟨h1, cur, h2⟩ := owns_type HR.out hk;refine ⟨h1, fun cs fr e => ?_⟩;rw [h2] at e;cases e
      have HC8 := hid (HC.out.mv HT8.out hty);have HP8 := hid (HT8.out.blk HP.out fun hk => (hty pb hk).2 _ _ HP.out);obtain ⟨A8, c8, rfl⟩ := own_slc ho8;clear ho8 hg8 hv8 hty;refine Stay.go ?_;go_wp2_with fail
      go_roundw
      case rel => exact ⟨_, A8, n' + 1, c8, j + 1, rfl, rfl, by go_num, by omega, hid (by have := HN.out; omega), HC8, HR8, HP8⟩
      case measure => simp [intOf]; omega
     ·have d1 : decide ((j : Int) < (q : Int)) = false := dF (by omega)
      have d1n : decide (j < q) = false := dF c1;obtain rfl : j = q := by omega
      have hall : (kidsP wr.heap.size x.kids).take j = kidsP wr.heap.size x.kids := List.take_of_length_le (by rw [kidsP_len, HQ.out]; exact Nat.le_refl _)
      have HNEW := hid (show CpSt w n (.slice A' n' cp') wr' (Tr.countL (M.map Prod.fst) + Tr.countL x.kids) from ⟨M ++ kidsP wr.heap.size x.kids, _, n', cp', rfl, by
       have h1 := HQ.out;have h2 := HMM.out;have h3 := HN.out;rw [List.length_append, kidsP_len];omega, HC.out, by have h := HR.out; rw [hall] at h; exact h, by rw [List.map_append, kidsP_fst, countL_app], by have := HMB0.out; omega⟩)
      clear hall;go_wp2_with fail
      go_roundw
      case rel => exact ⟨_, _, rfl, HNEW⟩
      case measure =>
       have h1 : cpMu w n (.slice A' n' cp') wr' ≤ Tr.countL (M.map Prod.fst) + Tr.countL x.kids := least_le HNEW.out;have h2 := HM0.out;omega
end Go.Proofs.YtomibmenojdieaaGreat
namespace Go.Proofs.YtomibmenojdieaaGreat
open Go.RowKit
open Tr (Nd)
attribute [local go_sem] stillV stillUpon
theorem zip_mem {α : Type} {l : List α} {x : α × Nat} (h : x ∈ l.zipIdx) : ∃ hi : x.2 < l.length, l[x.2] = x.1 := by
 obtain ⟨_, h2, h3⟩ := List.mem_zipIdx h;refine ⟨by omega, ?_⟩;rw [h3];simp
theorem find_zip (s : List UInt8) : ∀ (tb : Mcr.Table) (n : Nat), ((tb.zipIdx n).find? fun x => x.1.name == s).map Prod.fst = Mcr.getF tb s
 | [], _ => rfl
 | m :: tb, n => by
  unfold Mcr.getF;rw [List.zipIdx_cons, List.find?_cons, List.find?_cons];cases hy : (m.name == s) with
  | true => rfl
  | false => exact find_zip s tb (n + 1)
theorem findNow_mac (s : List UInt8) (tb : Mcr.Table) (sls : Nat → Value) : ∃ j, Instr.findNow .string (.string ⟨s.toArray⟩) (macEs tb sls) 0 = some ((tb.zipIdx.find? fun x => x.1.name == s).map fun x => (j, macV x.1 (sls x.2))) := by
 obtain ⟨j, h⟩ := findNow_str s (tb.zipIdx.map fun x => ((x.1.name, macV x.1 (sls x.2)), x.2)) 0;refine ⟨j, ?_⟩;have e : (tb.zipIdx.map fun x => ((x.1.name, macV x.1 (sls x.2)), x.2)).map (fun x => (⟨.string ⟨x.1.1.toArray⟩, x.1.2, x.2⟩ : MapEntry)) = macEs tb sls := by rw [List.map_map]; rfl
 rw [e] at h;rw [h]
 congr 1
 rw [List.find?_map];simp only [Option.map_map];rfl
abbrev zeroMac : Value := .agg #[.int .i64 0, .int .i64 0, .string ⟨#[]⟩, .int .i64 0, .slice none 0 0]
theorem zero_mac (w : World) : (zeroValue 53).run Tryz.prog w = .ok zeroMac w := by
 have := Tryz.zeroValue53 w;exact this
theorem run_macro {w : World} {g gt bm : Nat} {tb : Mcr.Table} {nv : Value} {sls : Nat → Value} (h : TabAt w g tb gt bm nv sls) (s : List UInt8) :
  (∃ m i, Mcr.getF tb s = some m ∧ ∃ hi : i < tb.length, tb[i] = m ∧ (Instr.lookup 55 (.map (some bm)) (.string ⟨s.toArray⟩) true).run Tryz.prog w = .ok (.tuple #[macV m (sls i), .bool true]) w) ∨
  (Mcr.getF tb s = none ∧ (Instr.lookup 55 (.map (some bm)) (.string ⟨s.toArray⟩) true).run Tryz.prog w = .ok (.tuple #[zeroMac, .bool false]) w) := by
 obtain ⟨j, hj⟩ := findNow_mac s tb sls;have hg : (getObj bm).run Tryz.prog w = .ok (.map (macEs tb sls).toArray tb.length) w := MapKept.run_getObj_map h.map;have hf : (Instr.findKey 9 (.string ⟨s.toArray⟩) (macEs tb sls)).run Tryz.prog w = .ok ((tb.zipIdx.find? fun x => x.1.name == s).map fun x => (j, macV x.1 (sls x.2))) w := MapKept.run_findKey Tryz.underlying9 hj;have hz := find_zip s tb 0;have hc := check_str;have hzz := zero_mac;cases hx : tb.zipIdx.find? fun x => x.1.name == s with
 | none =>
  rw [hx] at hz hf;refine .inr ⟨hz.symm, ?_⟩;unfold Instr.lookup;simp [run_underlying Tryz.underlying55, hg, hc, hf, hzz]
 | some x =>
  rw [hx] at hz hf;obtain ⟨hi, he⟩ := zip_mem (List.mem_of_find?_eq_some hx);refine .inl ⟨x.1, x.2, hz.symm, hi, he, ?_⟩;unfold Instr.lookup;simp [run_underlying Tryz.underlying55, hg, hc, hf]
def getV (tb : Mcr.Table) (s : List UInt8) : Nat × Bool := match Mcr.getF tb s with
 | some m => (m.params, true)
 | none => (0, false)
def GetE (tb : Mcr.Table) (s : List UInt8) (w : World) (e : Ending) (w' : World) : Prop := ∃ (x0 x2 : Int) (x1 : ByteArray) (A : Option Addr) (n cp : Nat), e = .returned (.tuple #[.int .i64 ((getV tb s).1 : Int), .agg #[.int .i64 x0, .string x1, .int .i64 x2, .slice A n cp], .bool (getV tb s).2]) ∧ Fresh w w'
theorem TabAt.mv {W W' : World} {g g' gt bm : Nat} {tb : Mcr.Table} {nv : Value} {sls : Nat → Value} {S : Nat → Prop} (h : TabAt W g tb gt bm nv sls) (ht : Touch S W W') (h1 : ¬ S gt) (h2 : ¬ S bm) (hS : ∀ k cs fr, S k → W.heap[k]? ≠ some (.cells cs 35 fr)) (hg : gt ≠ g') (hb : bm ≠ g') : TabAt W' g' tb gt bm nv sls :=
 ⟨ht.blk h.blk h1, (ht.block bm (Array.getElem?_eq_some_iff.1 h.map).1 h2).trans h.map, fun i hi => (h.tree i hi).mv ht fun k cs fr hk _ => hS k cs fr hk, h.txt, hg, hb⟩
theorem TabAt.fresh {W W' : World} {g gt bm : Nat} {tb : Mcr.Table} {nv : Value} {sls : Nat → Value} (h : TabAt W g tb gt bm nv sls) (ht : Fresh W W') : TabAt W' g tb gt bm nv sls := h.mv ht (fun h => h) (fun h => h) (fun _ _ _ h => h.elim) h.ng h.nm
theorem TabV.fresh {W W' : World} {g : Nat} {tb : Mcr.Table} {tp : Value} (h : TabV W g tb tp) (ht : Fresh W W') : TabV W' g tb tp := h.imp id fun ⟨gt, bm, nv, sls, h1, h2⟩ => ⟨gt, bm, nv, sls, h1, h2.fresh ht⟩
theorem Blk.five {w : World} {g : Nat} {t : TypeId} {x0 x1 x2 x3 x4 : Value} (h : Blk w g t #[x0, x1, x2, x3, x4]) :
  w.cell? ⟨g, 0, none⟩ = some x0 ∧ w.cell? ⟨g, 1, none⟩ = some x1 ∧ w.cell? ⟨g, 2, none⟩ = some x2 ∧ w.cell? ⟨g, 3, none⟩ = some x3 ∧ w.cell? ⟨g, 4, none⟩ = some x4 ∧ g < w.heap.size := ⟨h.cell 0, h.cell 1, h.cell 2, h.cell 3, h.cell 4, h.lt⟩
theorem get_any (g : Nat) (tb : Mcr.Table) (tp : Value) (s : List UInt8) (w : World) (h : TabV w g tb tp) : Calls Tryz.prog 108 #[tp, .string ⟨s.toArray⟩] w (GetE tb s w) := by
 rcases h with ⟨rfl, rfl⟩ | ⟨gt, bm, nrow, sls, rfl, h⟩
 focus
  go_enter Tryz.func108, Tryz.ntmps108;go_wp2_with fail
  (try simp only [Exit.inBlock, Exit.then])
  obtain ⟨p0, p1, p2, p3, _⟩ := Blk.four (Blk.new w 35 #[.int .i64 0, .string ⟨#[]⟩, .int .i64 0, .slice none 0 0]);refine bodyPost_ret (v := .tuple #[.int .i64 0, .agg #[.int .i64 0, .string ⟨#[]⟩, .int .i64 0, .slice none 0 0], .bool false]) (by simp [results, Tryz.results108, go_sem, p0, p1, p2, p3]) rfl ?_;exact ⟨_, _, _, _, _, _, rfl, (Touch.refl _ _).alloc _⟩
 focus
  have hf0 := (Touch.refl (fun _ => False) w).alloc (.cells #[.int .i64 0, .string ⟨#[]⟩, .int .i64 0, .slice none 0 0] 35);have H0 := h.fresh hf0;have q1 := H0.blk.cell 1;have hlt := H0.blk.lt
  obtain ⟨n, pz, sl, hlk, htr, hcnt, hres⟩ : ∃ (n : Nd) (pz : Nat × Bool), ∃ sl, (Instr.lookup 55 (.map (some bm)) (.string ⟨s.toArray⟩) true).run Tryz.prog (w.alloc (.cells #[.int .i64 0, .string ⟨#[]⟩, .int .i64 0, .slice none 0 0] 35)) = .ok (.tuple #[.agg #[.int .i64 (pz.1 : Int), .int .i64 n.kind, .string ⟨n.text.toArray⟩, .int .i64 n.cols, sl], .bool pz.2]) (w.alloc (.cells #[.int .i64 0, .string ⟨#[]⟩, .int .i64 0, .slice none 0 0] 35)) ∧ TreT 0 (w.alloc (.cells #[.int .i64 0, .string ⟨#[]⟩, .int .i64 0, .slice none 0 0] 35)) n.kids sl ∧ Tr.count n ≤ 1000000 ∧ getV tb s = pz := by
   rcases run_macro H0 s with ⟨m, i, e1, hi, e2, e3⟩ | ⟨e1, e3⟩
   ·refine ⟨m.tree, (m.params, true), sls i, e3, by rw [← e2]; exact H0.tree i hi, ?_, by unfold getV; rw [e1]⟩
    have := (h.txt m (by rw [← e2]; exact List.getElem_mem hi)).2.2;omega
   ·exact ⟨.mk 0 [] 0 [], (0, false), .slice none 0 0, e3, .nil _ _, by simp [Tr.count, Tr.countL], by unfold getV; rw [e1]⟩
  obtain ⟨A, c, rfl⟩ := htr.slice;have HF0 := hid hf0;have HTR := hid htr;have HCN := hid hcnt;have HRS := hid hres;have HBN := hid (Blk.new w 35 #[.int .i64 0, .string ⟨#[]⟩, .int .i64 0, .slice none 0 0]);clear h H0 hf0 htr hcnt hres;go_enter Tryz.func108, Tryz.ntmps108;go_wp2_with fail
  have hb5 := Blk.new2 w (.cells #[.int .i64 0, .string ⟨#[]⟩, .int .i64 0, .slice none 0 0] 35) 53 #[.int .i64 (pz.1 : Int), .int .i64 n.kind, .string ⟨n.text.toArray⟩, .int .i64 n.cols, .slice A n.kids.length c];have hf1 := HF0.out.alloc (.cells #[.int .i64 (pz.1 : Int), .int .i64 n.kind, .string ⟨n.text.toArray⟩, .int .i64 n.cols, .slice A n.kids.length c] 53);have ht1 := HTR.out.fresh ((Touch.refl (fun _ => False) _).alloc (.cells #[.int .i64 (pz.1 : Int), .int .i64 n.kind, .string ⟨n.text.toArray⟩, .int .i64 n.cols, .slice A n.kids.length c] 53));have hn1 := HBN.out.alloc (.cells #[.int .i64 (pz.1 : Int), .int .i64 n.kind, .string ⟨n.text.toArray⟩, .int .i64 n.cols, .slice A n.kids.length c] 53);clear hlk q1;generalize ((w.alloc (.cells #[.int .i64 0, .string ⟨#[]⟩, .int .i64 0, .slice none 0 0] 35)).alloc (.cells #[.int .i64 (pz.1 : Int), .int .i64 n.kind, .string ⟨n.text.toArray⟩, .int .i64 n.cols, .slice A n.kids.length c] 53)) = W1 at hb5 hf1 ht1 hn1 ⊢;have HF1 := hid hf1;have HT1 := hid ht1;have HN1 := hid hn1;obtain ⟨p0, p1, p2, p3, p4, hl5⟩ := Blk.five hb5;have r0 := cR (p0.trans rfl);have r1 := cR (p1.trans rfl);have r2 := cR (p2.trans rfl);have r3 := cR (p3.trans rfl);have r4 := cR (p4.trans rfl);clear p0 p1 p2 p3 p4 hf1 ht1 hn1 hb5 HF0 HTR HBN;refine wp_region_pre [5] [([(0, true), (1, true), (2, true), (3, true), (4, false), (6, true)], 7)] [(8, true)] (by kernel_rfl) (fun _ _ d _ _ h => by cases d <;> exact h) (by kernel_rfl) ?_
  repeat (refine wpPre_step rfl (fun K hK => ?_); go_simp; refine hK _ ?_; clear hK K)
  refine wpPre_end ?_;refine wpMix_seg ?_
  repeat (refine wpSeq_plain rfl (fun K hK => ?_); go_simp; refine hK _ ?_; clear hK K)
  refine wpSeq_lone rfl (fun K hK => ?_);go_wp2_with fail
  have hdn := dnode_any n (.slice A n.kids.length c) (W1.drewN 1) HCN.out (HT1.out.fresh ((Touch.refl _ W1).drewN 1)).rep;refine hdn.mono ?_;rintro _ w2 ⟨sl2, rfl, ht2, hf2⟩;have HF2 := hid (HF1.out.trans (Touch.ofN hf2));have HN2 := hid ((Touch.ofN hf2).blk HN1.out fun h => h);obtain ⟨A2, c2, rfl⟩ := ht2.slice;have hfk := growing_fresh (Touch.ofN hf2);clear hdn ht2 hf2;unfold nv;go_wp2_with fail
  refine hK _ _ hfk ?_;clear hK K hfk r0 r1 r2 r3 r4 hl5
  repeat (refine wpSeq_plain rfl (fun K hK => ?_); go_simp; refine hK _ ?_; clear hK K)
  obtain ⟨p0, p1, p2, p3, z0, z1, z2, z3, hlt2⟩ := Blk.four HN2.out;refine wpSeq_shut rfl (fun K hK => ?_);go_wp2_with fail
  refine wpMix_last ?_
  repeat (refine wpSeq_plain rfl (fun K hK => ?_); go_simp; refine hK _ ?_; clear hK K)
  refine wpSeq_end ?_;go_wp2_with fail
  have n1 := HN2.out.self4 (.int .i64 n.kind) (.string ⟨n.text.toArray⟩) (.int .i64 n.cols) (.slice A2 n.kids.length c2);have hf := HF2.out.put4 (g := w.heap.size) (.inr (Nat.le_refl _)) (.int .i64 n.kind) (.string ⟨n.text.toArray⟩) (.int .i64 n.cols) (.slice A2 n.kids.length c2);obtain ⟨g0, g1, g2, g3, _⟩ := Blk.four n1;simp only [put4] at g0 g1 g2 g3 hf
  (try simp only [Exit.inBlock, Exit.then])
  refine bodyPost_ret (v := .tuple #[.int .i64 (pz.1 : Int), .agg #[.int .i64 n.kind, .string ⟨n.text.toArray⟩, .int .i64 n.cols, .slice A2 n.kids.length c2], .bool pz.2]) (by simp [results, Tryz.results108, go_sem, g0, g1, g2, g3]) rfl ?_;unfold GetE;rw [HRS.out];exact ⟨_, _, _, _, _, _, rfl, hf⟩
theorem TabV.at {c : Cf} (hc : c.Good) {k : Kp} {op : List Nat} {w : World} (h : Ps c k op w) : TabV w c.g c.tb c.tp := by
 obtain ⟨cs, hg⟩ := hc.gty;refine hc.tab.imp id fun ⟨gt, bm, nv, sls, h1, h2⟩ => ⟨gt, bm, nv, sls, h1, h2.mv h.low h2.ng h2.nm (fun k cs' fr hk e => ?_) h2.ng h2.nm⟩
 rw [hk] at e;unfold Blk at hg;rw [hg] at e;cases e
theorem macro_any_n (c : Cf) (hc : c.Good) (k : Kp) (op : List Nat) (s : List UInt8) (w : World) (h : Ps c k op w) :
  Calls Tryz.prog 100 #[pp0 c, .string ⟨s.toArray⟩] w fun e w' => e = .returned (.tuple #[.int .i64 ((getV c.tb s).1 : Int), .bool (getV c.tb s).2]) ∧ Fresh w w' := by
 have HG := hid (fun w' (hf : Fresh w w') => get_any c.g c.tb c.tp s w' ((TabV.at hc h).fresh hf));obtain ⟨ov, hb, _⟩ := h.box;have q4 := hb.cell 4;have hgw := hb.lt;unfold GetE at HG;generalize getV c.tb s = gv at *;clear hb h hc;unfold pp0;go_enter Tryz.func100, Tryz.ntmps100;go_wp2_with fail
 refine (HG.out _ (Touch.refl _ _)).mono ?_;rintro _ w1 ⟨x0, x2, x1, A, n, cp, rfl, hf⟩;have HF := hid hf;clear hf q4;go_wp2_with fail
 go_ret2;exact ⟨rfl, HF.out.alloc _⟩
end Go.Proofs.YtomibmenojdieaaGreat
