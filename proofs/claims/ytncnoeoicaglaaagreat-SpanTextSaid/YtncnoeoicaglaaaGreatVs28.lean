/- Part 28 of 42 of a proof; its texts, joined: SnY, SnP, SnA. No condition. -/
import Derived.Test.YtncnoeoicaglaaaGreatVs27
import Derived.Test.YtncnoeoicaglaaaGreatVs2
set_option maxRecDepth 100000
set_option maxHeartbeats 2000000
namespace Go.Proofs.YtncnoeoicaglaaaGreat
open Go.RowKit
open Tr (Nd Clo runRow rowT)
variable {σ κ : Type}
structure Cls (σ κ : Type) where
 C : Clo σ κ
 fi : Nat
 ci : Array Value
 fo : Nat
 co : Array Value
 St : Nat → Nat → σ → (Nat → Prop) → World → Prop
 Dn : Nat → Nat → κ → (Nat → Prop) → World → Nat → Array Value → Prop
 Lim : σ → Prop
 Kp : κ → σ → Prop
def Cls.wk (c : Cls σ κ) (W0 : World) (g tg : Nat) (tv : Value) (T : List Lx.PTok) : Wk σ κ := ⟨W0, g, tg, tv, T, c.C, c.fi, c.ci, c.fo, c.co, c.St g tg, c.Dn g tg, c.Lim, c.Kp⟩
theorem built_walker (A : Option Addr) (n cap fi fo : Nat) (ci co : Array Value) : Tryz.prog.built 118 [(0, .slice A n cap), (2, .func (.func fi) #[] ci), (3, .func (.func fo) #[] co)] = some #[.slice A n cap, .int .i64 0, .func (.func fi) #[] ci, .func (.func fo) #[] co] := by kernel_rfl
theorem own_tokens {W : World} {B : Nat} {v : Value} {ts : List Lx.PTok} (h : W.ownsRow B 134 4 v ts.length (ts.flatMap ptokCellsP)) (hB0 : B ≤ W.heap.size) : ∃ tg A cap, B ≤ tg ∧ tg ≤ W.heap.size ∧ v = .slice A ts.length cap ∧
  ∀ i (h : i < ts.length), A = some ⟨tg, 0, none⟩ ∧ tg < W.heap.size ∧ W.cell? ⟨tg, i * 4 + 2, none⟩ = some (.int .i64 (ts[i].from_ : Nat)) ∧ W.cell? ⟨tg, i * 4 + 3, none⟩ = some (.int .i64 (ts[i].to_ : Nat)) := by
 rcases h.2 with ⟨h1, h2⟩ | ⟨g, cap, cur, hv, hB, _⟩
 ·exact ⟨B, none, 0, Nat.le_refl _, hB0, by rw [h1, h2], fun i hi => by omega⟩
 ·refine ⟨g, _, cap, hB, Nat.le_of_lt (h.lt g (by rw [hv]; rfl)).2, hv, fun i hi => ⟨rfl, (h.lt g (by rw [hv]; rfl)).2, ?_, ?_⟩⟩
  all_goals
   have hget : ∀ (l : List Lx.PTok) (i j : Nat) (hi : i < l.length), j < 4 → (l.flatMap ptokCellsP)[i * 4 + j]? = (ptokCellsP l[i])[j]? := by
    intro l
    induction l with
    | nil => intro i j hi; simp at hi
    | cons x l ih =>
     intro i j hi hj;cases i with
     | zero => rw [List.flatMap_cons, List.getElem?_append_left (by simp [ptokCellsP]; omega)]; simp
     | succ i =>
      rw [List.flatMap_cons, List.getElem?_append_right (by simp [ptokCellsP]; omega), List.getElem_cons_succ, ← ih i j (by simpa using hi) hj]
      congr 1
      simp [ptokCellsP]; omega
  ·have := h.cells (g := g) (by rw [hv]; rfl) (i * 4 + 2) _ (by rw [hget ts i 2 hi (by decide)]; rfl)
   rw [Addr.add_mid, Nat.zero_add] at this;exact this
  ·have := h.cells (g := g) (by rw [hv]; rfl) (i * 4 + 3) _ (by rw [hget ts i 3 hi (by decide)]; rfl)
   rw [Addr.add_mid, Nat.zero_add] at this;exact this
theorem walk_err (n : Nd) (sl : Value) (fi fo : Nat) (ci co : Array Value) (w : World) (hr : RepL w n.kids sl) (ht : n.text.length ≤ maxLen) (hc : Tr.count n ≤ 1000) (hv : Tr.valid n = false) :
  Calls Tryz.prog 34 #[nv n sl, .func (.func fi) #[] ci, .func (.func fo) #[] co] w fun e w' => e = .returned (.int .i64 1) ∧ Fresh w w' := by
 have HT := hid (fun (w : World) (hr : RepL w n.kids sl) => ptokens_any n sl w hr ht hc);have HR := hid hr;have HE := hid (show printE n = 1 from by unfold printE; rw [hv]; rfl);clear hr hc hv;go_enter Tryz.func34, Tryz.ntmps34;go_wp2_with fail
 refine (HT.out _ (HR.out.fresh ((Touch.refl _ _).alloc _))).mono ?_;rintro _ w1 ⟨v, rfl, ho, hf⟩;have HF := hid (Touch.pre hf);rw [HE.out];clear hf ho;go_wp2_with fail
 go_ret;exact ⟨rfl, HF.out⟩
theorem walk_ok (c : Cls σ κ) (W0 : World) (n : Nd) (sl : Value) (w : World) (s : σ) (S : Nat → Prop) (hv : Tr.valid n = true) (hc : Tr.count n ≤ 1000) (ht : n.text.length ≤ maxLen) (hl : Low W0 w) (hsl : RepL W0 n.kids sl)
  (hG : ∀ g tg tv, W0.heap.size ≤ g → (c.wk W0 g tg tv (printT n)).Good) (hst : ∀ g tg w', w.heap.size ≤ g → w.heap.size ≤ tg → g < w'.heap.size → tg < w'.heap.size → Fresh w w' → c.St g tg s S w') (hlim : c.Lim (runRow c.C (printT n) n.kids [] 0 0 s)) :
  Calls Tryz.prog 34 #[nv n sl, .func (.func c.fi) #[] c.ci, .func (.func c.fo) #[] c.co] w fun e w' => e = .returned (.int .i64 0) ∧ ∃ g tg S', w.heap.size ≤ g ∧ c.St g tg (runRow c.C (printT n) n.kids [] 0 0 s) S' w' ∧ Low W0 w' ∧ Mv g S S' w w' := by
 obtain ⟨A, cap, rfl⟩ := hsl.slice;have HT := hid (fun (w : World) (hr : RepL w n.kids (.slice A n.kids.length cap)) => ptokens_any n _ w hr ht hc);have HSL := hid hsl;have HLOW := hid hl;have HE := hid (show printE n = 0 from by unfold printE; rw [hv]; rfl);have HV := hid hv;have HC := hid hc;have HG := hid hG;have HST := hid hst;have HLIM := hid hlim;clear hlim;clear hsl hl hv hc hG hst;go_enter Tryz.func34, Tryz.ntmps34;go_wp2_with fail
 refine (HT.out _ ((HSL.out.low HLOW.out).fresh ((Touch.refl _ _).alloc _))).mono ?_;rintro _ w1 ⟨v, rfl, ho, hf⟩;have HF := hid (Touch.pre hf);have hb1 := hf.blk (Blk.new _ _ _) (fun h => h);have HB := hid hb1;obtain ⟨q0, q1, q2, q3, _, _, _, _, hg⟩ := Blk.four hb1;obtain ⟨tg, At, capt, hB, hB2, rfl, htok⟩ := own_tokens ho hf.size;have HTK := hid htok;have hB' : w.heap.size ≤ tg := by simp at hB; omega
 rw [HE.out];clear hf hb1 ho htok
 go_wp2_with (refine wpList_build_kind [(0, .slice At (printT n).length capt), (2, .func (.func c.fi) #[] c.ci), (3, .func (.func c.fo) #[] c.co)] (built_walker At (printT n).length capt c.fi c.fo c.ci c.co) _ rfl rfl rfl (.agg #[.slice At (printT n).length capt, .int .i64 0, .func (.func c.fi) #[] c.ci, .func (.func c.fo) #[] c.co]) rfl ?_)
 have hfa : Fresh w (w1.alloc (.cells #[.slice At (printT n).length capt, .int .i64 0, .func (.func c.fi) #[] c.ci, .func (.func c.fo) #[] c.co] 118)) := HF.out.alloc _;have HK := hid (HG.out w1.heap.size tg (.slice At (printT n).length capt) (Nat.le_trans HLOW.out.size HF.out.size))
 have HAT := hid (show (c.wk W0 w1.heap.size tg (.slice At (printT n).length capt) (printT n)).At S 0 s (w1.alloc (.cells #[.slice At (printT n).length capt, .int .i64 0, .func (.func c.fi) #[] c.ci, .func (.func c.fo) #[] c.co] 118)) from
  ⟨HLOW.out.fresh hfa, Blk.new _ _ _, ⟨At, capt, rfl, fun i hi => by
   obtain ⟨t1, t2, t3, t4⟩ := HTK.out i hi;have hfn : Fresh w1 (w1.alloc (.cells #[.slice At (printT n).length capt, .int .i64 0, .func (.func c.fi) #[] c.ci, .func (.func c.fo) #[] c.co] 118)) := (Touch.refl _ _).alloc _;exact ⟨t1, Nat.lt_of_lt_of_le t2 hfn.size, Nat.ne_of_lt t2, hfn.cell t3 (fun h => h), hfn.cell t4 (fun h => h)⟩⟩, HST.out _ _ _ HF.out.size hB' (by simp) (by simp; omega) hfa⟩)
 have hdep : Tr.depth n ≤ 24 := by
  have := HV.out;unfold Tr.valid at this;simp only [Bool.and_eq_true, decide_eq_true_eq] at this;exact this.2
 refine (rows_any HK.out (Tr.count n) n (Nat.le_refl _) (Tr.valid_row n HV.out) S 0 s _ [] _ _ _ _ _ HAT.out HSL.out (PathIn.nil _ _ _) (by simp; omega) (by rw [show (c.wk W0 w1.heap.size tg (.slice At (printT n).length capt) (printT n)).T = printT n from rfl, printT_len n HV.out]; omega) HLIM.out).mono ?_;rintro _ w2 ⟨rfl, S2, hat, hmv⟩;have HST2 := hid hat.st;have HL2 := hid hat.low;have HMV2 := hid ((Mv.fresh hfa).trans hmv);have hgw : w.heap.size ≤ w1.heap.size := HF.out.size;clear hat hmv hfa HAT HK q0 q1 q2 q3 hB hB2;go_wp2_with fail
 go_ret;exact ⟨rfl, _, _, S2, hgw, HST2.out, HL2.out, HMV2.out⟩
end Go.Proofs.YtncnoeoicaglaaaGreat
namespace Go.Proofs.YtncnoeoicaglaaaGreat.Tr
open Lx (Tok PTok)
def offG (P : Path → Bool) (s : Nat × Bool) (p : Path) (pl : Nat) : Nat × Bool := if s.2 = false ∧ P p = true then (pl, true) else s
theorem off_fold (P : Path → Bool) : ∀ l : List (Path × Nat), l.foldl (fun s x => offG P s x.1 x.2) (0, false) = match l.find? fun x => P x.1 with | some x => (x.2, true) | none => (0, false) := by
 have ht : ∀ (l : List (Path × Nat)) v, l.foldl (fun s x => offG P s x.1 x.2) (v, true) = (v, true) := by
  intro l v
  induction l with
  | nil => rfl
  | cons y l ih => rw [List.foldl_cons, show offG P (v, true) y.1 y.2 = (v, true) from by unfold offG; rw [if_neg (by simp)]]; exact ih
 intro l
 induction l with
 | nil => rfl
 | cons y l ih =>
  rw [List.foldl_cons, List.find?_cons];cases h : P y.1 with
  | true => rw [show offG P (0, false) y.1 y.2 = (y.2, true) from by unfold offG; rw [if_pos ⟨rfl, h⟩], ht]
  | false => rw [show offG P (0, false) y.1 y.2 = (0, false) from by unfold offG; rw [if_neg (by simp [h])], ih]
def atG (k : Int) (s : Path × Int) (p : Path) (pl : Nat) : Path × Int :=
 if k < (pl : Int) ∨ (pl : Int) < s.2 then s else if s.2 < (pl : Int) ∨ cmp p s.1 < 0 then (p, pl) else s
structure RSp where
 path : Path
 row : Bool
 from_ : Nat
 to_ : Nat
 first : Nat
 count : Nat
section
variable (T : List PTok)
end
def RSp.item (x : RSp) : Option (Path × Nat × Nat) := if x.row then none else some (x.path, x.from_, x.to_)
end Go.Proofs.YtncnoeoicaglaaaGreat.Tr
namespace Go.Proofs.YtncnoeoicaglaaaGreat
open Go.RowKit
open Tr (Nd Clo runRow rowT offC offG posRow)
theorem noItem_any (v : Value) (pl : Nat) (w : World) : Calls Tryz.prog 56 (#[v, .int .i64 (pl : Int)] ++ #[]) w fun e w' => e = .returned (.func (.func 85) #[] #[]) ∧ w' = w := by
 have e : (#[v, .int .i64 (pl : Int)] ++ #[] : Array Value) = #[v, .int .i64 (pl : Int)] := by simp
 rw [e];go_enter Tryz.func56, Tryz.ntmps56;go_wp2_with fail
 go_ret;exact ⟨rfl, rfl⟩
theorem noItem1_any (pl : Nat) (w : World) : Calls Tryz.prog 85 (#[.int .i64 (pl : Int)] ++ #[]) w fun e w' => e = .returned (.tuple #[]) ∧ w' = w := by
 have e : (#[.int .i64 (pl : Int)] ++ #[] : Array Value) = #[.int .i64 (pl : Int)] := by simp
 rw [e];go_enter Tryz.func85, Tryz.ntmps85;go_wp2_with fail
 first | go_end0 | refine bodyPost_ret (v := .tuple #[]) (results_none rfl _ _ _) rfl ?_
 exact ⟨rfl, rfl⟩
theorem Mc.refl (S : Nat → Prop) (w : World) : Mc S S w w := ⟨Touch.refl _ _, fun _ h => .inl h⟩
def IntsB (B : Nat) (w : World) (v : Value) (l : List Int) : Prop :=
 ∃ A cap, v = .slice A l.length cap ∧ (l = [] ∨ ∃ g o, A = some ⟨g, o, none⟩ ∧ g < B ∧ ∀ i (h : i < l.length), w.cell? ⟨g, o + i, none⟩ = some (.int .i64 l[i]))
theorem Ints.old {w : World} {v : Value} {l : List Int} (h : Ints w v l) {B : Nat} (hB : w.heap.size ≤ B) : IntsB B w v l := by
 obtain ⟨A, cap, h, h'⟩ := h;exact ⟨A, cap, h, h'.imp id fun ⟨g, o, h1, h2, h3⟩ => ⟨g, o, h1, Nat.lt_of_lt_of_le h2 hB, h3⟩⟩
theorem IntsB.touch {B : Nat} {S : Nat → Prop} {w w' : World} {v : Value} {l : List Int} (h : IntsB B w v l) (ht : Touch S w w') (hS : ∀ b, S b → B ≤ b) : IntsB B w' v l := by
 obtain ⟨A, cap, h, h'⟩ := h;exact ⟨A, cap, h, h'.imp id fun ⟨g, o, h1, h2, h3⟩ => ⟨g, o, h1, h2, fun i hi => ht.cell (h3 i hi) fun e => by have := hS _ e; have h2' : g < B := h2; simp only at this; omega⟩⟩
theorem IntsB.ints {B : Nat} {w : World} {v : Value} {l : List Int} (h : IntsB B w v l) : Ints w v l := by
 obtain ⟨A, cap, h, h'⟩ := h;refine ⟨A, cap, h, ?_⟩
 rcases h' with h' | ⟨g, o, h1, h2, h3⟩
 ·exact .inl h'
 ·cases l with
  | nil => exact .inl rfl
  | cons x l => exact .inr ⟨g, o, h1, bL (h3 0 (by simp)), h3⟩
def posIs (pos : List Int) (p : List Nat) : Bool := decide (up p = pos)
structure OffSt (W0 : World) (B rb fb pb : Nat) (posv : Value) (pos : List Int) (g tg : Nat) (s : Nat × Bool) (S : Nat → Prop) (w : World) : Prop where
 own : ∀ b, S b ↔ b = rb ∨ b = fb
 res : Blk w rb 3 #[.int .i64 (s.1 : Int)]
 found : Blk w fb 4 #[.bool s.2]
 posc : w.cell? ⟨pb, 0, none⟩ = some posv
 ints : IntsB W0.heap.size w posv pos
 lo : W0.heap.size ≤ rb ∧ W0.heap.size ≤ fb ∧ rb < B ∧ fb < B ∧ pb < B ∧ rb ≠ fb ∧ pb ≠ rb ∧ pb ≠ fb ∧ W0.heap.size ≤ B
 hg : B ≤ g
 htg : B ≤ tg
theorem OffSt.touch {W0 : World} {B rb fb pb : Nat} {posv : Value} {pos : List Int} {g tg : Nat} {s : Nat × Bool} {S : Nat → Prop} {w w' : World} (h : OffSt W0 B rb fb pb posv pos g tg s S w) {Q : Nat → Prop} (ht : Touch Q w w') (hQ : ∀ b, Q b → B ≤ b) : OffSt W0 B rb fb pb posv pos g tg s S w' := by
 obtain ⟨h1, h2, h3, h4, h5, h6, h7⟩ := h.lo;refine ⟨h.own, ht.blk h.res fun e => by have := hQ _ e; omega, ht.blk h.found fun e => by have := hQ _ e; omega, ht.cell h.posc fun e => by have := hQ _ e; simp only at this; omega, h.ints.touch ht fun b hb => ?_, h.lo, h.hg, h.htg⟩;have := hQ b hb;omega
theorem off1_any {W0 : World} {B rb fb pb : Nat} {posv : Value} {pos : List Int} {g tg : Nat} {s : Nat × Bool} {S : Nat → Prop} {w : World} (h : OffSt W0 B rb fb pb posv pos g tg s S w) {p : List Nat} {v : Value} (pl : Nat) (hp : PathIn g S w v p) (hpl : p.length ≤ 1000) (hl : pos.length ≤ maxLen) :
  Calls Tryz.prog 54 (#[v, .int .i64 (pl : Int)] ++ #[.pointer (some ⟨fb, 0, none⟩), .pointer (some ⟨pb, 0, none⟩), .pointer (some ⟨rb, 0, none⟩)]) w
   fun e w' => e = .returned (.tuple #[]) ∧ ∃ S', OffSt W0 B rb fb pb posv pos g tg (offG (posIs pos) s p pl) S' w' ∧ Mc S S' w w' := by
 have e : (#[v, .int .i64 (pl : Int)] ++ #[.pointer (some ⟨fb, 0, none⟩), .pointer (some ⟨pb, 0, none⟩), .pointer (some ⟨rb, 0, none⟩)] : Array Value) = #[v, .int .i64 (pl : Int), .pointer (some ⟨fb, 0, none⟩), .pointer (some ⟨pb, 0, none⟩), .pointer (some ⟨rb, 0, none⟩)] := by simp
 rw [e];clear e;obtain ⟨r, f⟩ := s;have HS := hid h;have q0 : w.cell? ⟨rb, 0, none⟩ = some (.int .i64 (r : Int)) := h.res.cell 0;have z0 : w.frozen? ⟨rb, 0, none⟩ = false := h.res.frozen 0;have q1 : w.cell? ⟨fb, 0, none⟩ = some (.bool f) := h.found.cell 0;have z1 : w.frozen? ⟨fb, 0, none⟩ = false := h.found.frozen 0;have q2 := h.posc;obtain ⟨_, _, _, _, _, hne, _⟩ := h.lo;obtain ⟨A, cap, rfl⟩ := h.ints.ints.slice;have HP := hid hp;have HPL := hid hpl;have HL := hid hl;obtain ⟨Ap, capp, rfl⟩ := hp.slice;clear h hp hpl hl;cases f with
 | true =>
  have HR := hid (show offG (posIs pos) (r, true) p pl = (r, true) from by unfold offG; rw [if_neg (by simp)]);go_enter Tryz.func54, Tryz.ntmps54;go_wp2_with fail
  go_end0
  exact ⟨rfl, S, by rw [HR.out]; exact HS.out, Mc.refl _ _⟩
 | false =>
  cases hd : posIs pos p with
  | false =>
   have HR := hid (show offG (posIs pos) (r, false) p pl = (r, false) from by unfold offG; rw [if_neg (by simp [hd])]);have HD := hid (show decide (up p = pos) = false from hd);clear hd;go_enter Tryz.func54, Tryz.ntmps54;go_wp2_with fail
   refine (equal_ints (up p) pos _ _ _ HP.out.ints HS.out.ints.ints (by have := HPL.out; simp only [List.length_map]; unfold maxLen; omega) HL.out).mono ?_;rintro _ w1 ⟨rfl, hf⟩;rw [HD.out];have HF := hid hf;clear hf;go_wp2_with fail
   go_end0
   exact ⟨rfl, S, by rw [HR.out]; exact HS.out.touch HF.out (fun _ h => h.elim), ⟨HF.out.mono fun _ h => h.elim, fun _ h => .inl h⟩⟩
  | true =>
   have HR := hid (show offG (posIs pos) (r, false) p pl = (pl, true) from by unfold offG; rw [if_pos ⟨rfl, hd⟩]);have HD := hid (show decide (up p = pos) = true from hd);clear hd;go_enter Tryz.func54, Tryz.ntmps54;go_wp2_with fail
   refine (equal_ints (up p) pos _ _ _ HP.out.ints HS.out.ints.ints (by have := HPL.out; simp only [List.length_map]; unfold maxLen; omega) HL.out).mono ?_;rintro _ w1 ⟨rfl, hf⟩;rw [HD.out];have HF := hid hf;have HS1 := hid (HS.out.touch hf (fun _ h => h.elim));have r0 : w1.cell? ⟨rb, 0, none⟩ = some (.int .i64 (r : Int)) := HS1.out.res.cell 0;have y0 : w1.frozen? ⟨rb, 0, none⟩ = false := HS1.out.res.frozen 0;have r1 : w1.cell? ⟨fb, 0, none⟩ = some (.bool false) := HS1.out.found.cell 0;have y1 : w1.frozen? ⟨fb, 0, none⟩ = false := HS1.out.found.frozen 0;clear hf q0 q1 q2 z0 z1;go_wp2_with fail
   go_end0
   refine ⟨rfl, S, ?_, ⟨((HF.out.mono fun _ h => h.elim).setCell (p := ⟨rb, 0, none⟩) (.inl ((HS.out.own _).2 (.inl rfl))) _).setCell (p := ⟨fb, 0, none⟩) (.inl ((HS.out.own _).2 (.inr rfl))) _, fun _ h => .inl h⟩⟩;rw [HR.out];obtain ⟨l1, l2, l3, l4, l5, l6, l7, l8, l9⟩ := HS1.out.lo;have ht : Touch (fun b => b = rb ∨ b = fb) w1 ((w1.setCell ⟨rb, 0, none⟩ (.int .i64 (pl : Int))).setCell ⟨fb, 0, none⟩ (.bool true)) := ((Touch.refl (fun b => b = rb ∨ b = fb) w1).setCell (p := ⟨rb, 0, none⟩) (.inl (.inl rfl)) _).setCell (p := ⟨fb, 0, none⟩) (.inl (.inr rfl)) _;exact ⟨HS1.out.own, ((HS1.out.res.put 0 _).far (p := ⟨fb, 0, none⟩) l6 _), ((HS1.out.found.far (p := ⟨rb, 0, none⟩) (Ne.symm l6) _).put 0 _), ht.cell HS1.out.posc (fun e => e.elim l7 l8), HS1.out.ints.touch ht (fun b hb => by rcases hb with rfl | rfl <;> assumption), HS1.out.lo, HS1.out.hg, HS1.out.htg⟩
def offCls (W0 : World) (B rb fb pb : Nat) (posv : Value) (pos : List Int) : Cls (Nat × Bool) Unit :=
 ⟨offC (offG (posIs pos)), 56, #[], 54, #[.pointer (some ⟨fb, 0, none⟩), .pointer (some ⟨pb, 0, none⟩), .pointer (some ⟨rb, 0, none⟩)], OffSt W0 B rb fb pb posv pos, fun _ _ _ _ _ d cd => d = 85 ∧ cd = #[], fun _ => True, fun _ _ => True⟩
theorem printT_len_le (n : Nd) (hc : Tr.count n ≤ 1000) : (printT n).length ≤ 100000 := by
 cases h : Tr.valid n with
 | true =>
  rw [printT_len n h];have := row_len n (Tr.valid_row n h);omega
 | false =>
  unfold printT;rw [h];exact Nat.zero_le _
theorem offCls_good (W0 : World) (B rb fb pb : Nat) (posv : Value) (pos : List Int) (hl : pos.length ≤ maxLen) (n : Nd) (hc : Tr.count n ≤ 1000) (g tg : Nat) (tv : Value) (hg : W0.heap.size ≤ g) : ((offCls W0 B rb fb pb posv pos).wk W0 g tg tv (printT n)).Good where
 len := printT_len_le n hc
 place := printT_place n hc
 far := hg
 lt := fun s S w b h hb => by
  have h' : OffSt W0 B rb fb pb posv pos g tg s S w := h;obtain ⟨l1, l2, l3, l4, _⟩ := h'.lo;have h1 := h'.res.lt;have h2 := h'.found.lt;have h3 := h'.hg;have h4 := h'.htg;show W0.heap.size ≤ b ∧ b < w.heap.size ∧ b ≠ g ∧ b ≠ tg
  rcases (h'.own b).1 hb with rfl | rfl <;> omega
 stmv := fun s S w w' h ht => by
  have h' : OffSt W0 B rb fb pb posv pos g tg s S w := h;exact h'.touch ht fun b hb => by have : b = g := hb; have := h'.hg; omega
 dnmv := fun q S S' w w' d cd h _ => h
 off := fun s S w p v pl h hp hpl _ _ => off1_any h pl hp hpl hl
 item := fun s S w p v pl h hp hpl _ _ => (noItem_any v pl w).mono fun e w' ⟨he, hw⟩ => by
  subst hw;exact ⟨_, _, S, he, h, Mc.refl _ _, rfl, rfl⟩
 done := fun s S w q d cd pl h hd _ _ _ => by
  obtain ⟨rfl, rfl⟩ := hd;exact (noItem1_any pl w).mono fun e w' ⟨he, hw⟩ => by subst hw; exact ⟨he, S, h, Mc.refl _ _⟩
 kp0 := fun _ _ _ => trivial
 kpo := fun _ _ _ _ _ => trivial
 kpi := fun _ _ _ _ _ => trivial
 kpd := fun _ _ _ _ _ => trivial
 limo := fun _ _ _ _ => trivial
 limi := fun _ _ _ _ => trivial
 limd := fun _ _ _ _ => trivial
 callo := fun _ _ => by kernel_rfl
 calli := fun _ _ => by kernel_rfl
 calld := fun q S w d cd hd => by
  obtain ⟨rfl, rfl⟩ := hd;exact fun _ _ => by kernel_rfl
def offR (n : Nd) (pos : List Int) : Nat × Int :=
 if Tr.valid n then match (posRow (printT n) n.kids [] 0 0).find? fun x => posIs pos x.1 with | some x => (x.2, 0) | none => (0, 2) else (0, 1)
theorem low_fresh {W0 w : World} (h : Low W0 w) : Fresh W0 w := ⟨h.os, h.tape, h.output, h.size, fun k hk _ => h.block k hk (by omega)⟩
theorem Blk.new4 (w : World) (o o' o'' : Obj) (t : TypeId) (cs : Array Value) : Blk ((((w.alloc o).alloc o').alloc o'').alloc (.cells cs t)) (w.heap.size + 1 + 1 + 1) t cs := by
 have := Blk.new3 (w.alloc o) o' o'' t cs;simpa using this
theorem offset_any (n : Nd) (sl posv : Value) (pos : List Int) (w : World) (hsl : RepL w n.kids sl) (ht : n.text.length ≤ maxLen) (hc : Tr.count n ≤ 1000) (hpos : Ints w posv pos) (hl : pos.length ≤ maxLen) :
  Calls Tryz.prog 27 #[nv n sl, posv] w fun e w' => e = .returned (.tuple #[.int .i64 ((offR n pos).1 : Nat), .int .i64 (offR n pos).2]) ∧ Fresh w w' := by
 obtain ⟨A, cap, rfl⟩ := hsl.slice;obtain ⟨Ap, capp, rfl⟩ := hpos.slice;have HSL := hid hsl;have HP := hid hpos;have HL := hid hl;have HC := hid hc;clear hsl hpos hl hc;have hmf : ∀ (fn : Fn) (first cap : Array Value) (w : World), (Instr.makeFunc fn first cap).run Tryz.prog w = .ok (.func fn first cap) w := fun _ _ _ _ => rfl
 cases hv : Tr.valid n with
 | false =>
  have HR := hid (show offR n pos = (0, 1) from by unfold offR; rw [hv]; rfl);have HV := hid hv;clear hv;go_enter Tryz.func27, Tryz.ntmps27;go_wp2_with fail
  have hf1 : Fresh w ((((w.alloc (.cells #[.int .i64 n.kind, .string ⟨n.text.toArray⟩, .int .i64 n.cols, .slice A n.kids.length cap] 26)).alloc (.cells #[.slice Ap pos.length capp] 46)).alloc (.cells #[.int .i64 0] 3)).alloc (.cells #[.bool false] 4)) := ((((Touch.refl _ _).alloc _).alloc _).alloc _).alloc _;generalize ((((w.alloc (.cells #[.int .i64 n.kind, .string ⟨n.text.toArray⟩, .int .i64 n.cols, .slice A n.kids.length cap] 26)).alloc (.cells #[.slice Ap pos.length capp] 46)).alloc (.cells #[.int .i64 0] 3)).alloc (.cells #[.bool false] 4)) = W1 at hf1 ⊢;have HF1 := hid hf1;clear hf1;refine (walk_err n _ 56 54 #[] _ W1 (HSL.out.fresh HF1.out) ht HC.out HV.out).mono ?_;rintro _ w2 ⟨rfl, hf⟩;have HF2 := hid (HF1.out.trans hf);clear hf;go_wp2_with fail
  go_ret2;exact ⟨by rw [HR.out]; rfl, HF2.out⟩
 | true =>
  have HV := hid hv;clear hv;go_enter Tryz.func27, Tryz.ntmps27;go_wp2_with fail
  have hf1 : Fresh w ((((w.alloc (.cells #[.int .i64 n.kind, .string ⟨n.text.toArray⟩, .int .i64 n.cols, .slice A n.kids.length cap] 26)).alloc (.cells #[.slice Ap pos.length capp] 46)).alloc (.cells #[.int .i64 0] 3)).alloc (.cells #[.bool false] 4)) := ((((Touch.refl _ _).alloc _).alloc _).alloc _).alloc _;have hbf : Blk ((((w.alloc (.cells #[.int .i64 n.kind, .string ⟨n.text.toArray⟩, .int .i64 n.cols, .slice A n.kids.length cap] 26)).alloc (.cells #[.slice Ap pos.length capp] 46)).alloc (.cells #[.int .i64 0] 3)).alloc (.cells #[.bool false] 4)) (w.heap.size + 1 + 1 + 1) 4 #[.bool false] := Blk.new4 _ _ _ _ _ _;have hbr : Blk ((((w.alloc (.cells #[.int .i64 n.kind, .string ⟨n.text.toArray⟩, .int .i64 n.cols, .slice A n.kids.length cap] 26)).alloc (.cells #[.slice Ap pos.length capp] 46)).alloc (.cells #[.int .i64 0] 3)).alloc (.cells #[.bool false] 4)) (w.heap.size + 1 + 1) 3 #[.int .i64 0] := (Blk.new3 _ _ _ _ _).alloc _;have hbp : Blk ((((w.alloc (.cells #[.int .i64 n.kind, .string ⟨n.text.toArray⟩, .int .i64 n.cols, .slice A n.kids.length cap] 26)).alloc (.cells #[.slice Ap pos.length capp] 46)).alloc (.cells #[.int .i64 0] 3)).alloc (.cells #[.bool false] 4)) (w.heap.size + 1) 46 #[.slice Ap pos.length capp] := ((Blk.new2 _ _ _ _).alloc _).alloc _;generalize ((((w.alloc (.cells #[.int .i64 n.kind, .string ⟨n.text.toArray⟩, .int .i64 n.cols, .slice A n.kids.length cap] 26)).alloc (.cells #[.slice Ap pos.length capp] 46)).alloc (.cells #[.int .i64 0] 3)).alloc (.cells #[.bool false] 4)) = W1 at hf1 hbf hbr hbp ⊢;have HF1 := hid hf1
  have HOS := hid (fun (g tg : Nat) (w' : World) (h1 : W1.heap.size ≤ g) (h2 : W1.heap.size ≤ tg) (hf : Fresh W1 w') => (show OffSt w W1.heap.size (w.heap.size + 1 + 1) (w.heap.size + 1 + 1 + 1) (w.heap.size + 1) (.slice Ap pos.length capp) pos g tg (0, false) (fun b => b = w.heap.size + 1 + 1 ∨ b = w.heap.size + 1 + 1 + 1) w' from
   ⟨fun b => Iff.rfl, hf.blk hbr (fun h => h), hf.blk hbf (fun h => h), (hf.blk hbp (fun h => h)).cell 0, (HP.out.old (Nat.le_refl _)).touch (HF1.out.trans hf) (fun _ h => h.elim), by have := hbf.lt; refine ⟨?_, ?_, ?_, ?_, ?_, ?_, ?_, ?_, ?_⟩ <;> omega, h1, h2⟩))
  clear hf1 hbf hbr hbp;refine (walk_ok (offCls w W1.heap.size (w.heap.size + 1 + 1) (w.heap.size + 1 + 1 + 1) (w.heap.size + 1) (.slice Ap pos.length capp) pos) w n _ W1 (0, false) _ HV.out HC.out ht ((Low.fresh (Touch.refl _ _) HF1.out)) HSL.out (fun g tg tv hg => offCls_good _ _ _ _ _ _ _ HL.out n HC.out g tg tv hg) (fun g tg w' h1 h2 _ _ hf => HOS.out g tg w' h1 h2 hf) trivial).mono ?_;rintro _ w2 ⟨rfl, g, tg, S2, hg, hst, hlow, hmv⟩;have hst' : OffSt w W1.heap.size (w.heap.size + 1 + 1) (w.heap.size + 1 + 1 + 1) (w.heap.size + 1) (.slice Ap pos.length capp) pos g tg (runRow (offC (offG (posIs pos))) (printT n) n.kids [] 0 0 (0, false)) S2 w2 := hst;rw [(Tr.off_run (offG (posIs pos)) (printT n)).1, Tr.off_fold] at hst';have HF2 := hid (low_fresh hlow);cases hfd : (posRow (printT n) n.kids [] 0 0).find? fun x => posIs pos x.1 with
  | none =>
   rw [hfd] at hst';have HR := hid (show offR n pos = (0, 2) from by unfold offR; rw [if_pos HV.out, hfd]);have r0 : w2.cell? ⟨w.heap.size + 1 + 1, 0, none⟩ = some (.int .i64 0) := hst'.res.cell 0;have r1 : w2.cell? ⟨w.heap.size + 1 + 1 + 1, 0, none⟩ = some (.bool false) := hst'.found.cell 0;clear hst' hst hmv hlow hfd;go_wp2_with fail
   go_ret2;exact ⟨by rw [HR.out]; rfl, HF2.out⟩
  | some x =>
   rw [hfd] at hst';have HR := hid (show offR n pos = (x.2, 0) from by unfold offR; rw [if_pos HV.out, hfd]);have r0 : w2.cell? ⟨w.heap.size + 1 + 1, 0, none⟩ = some (.int .i64 (x.2 : Int)) := hst'.res.cell 0;have r1 : w2.cell? ⟨w.heap.size + 1 + 1 + 1, 0, none⟩ = some (.bool true) := hst'.found.cell 0;clear hst' hst hmv hlow hfd;go_wp2_with fail
   go_ret2;exact ⟨by rw [HR.out]; rfl, HF2.out⟩
end Go.Proofs.YtncnoeoicaglaaaGreat
