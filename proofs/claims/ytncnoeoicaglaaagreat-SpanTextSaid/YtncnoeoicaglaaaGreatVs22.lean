/- Part 22 of 42 of a proof; its texts, joined: PrK, PrL, PrO. No condition. -/
import Derived.Test.YtncnoeoicaglaaaGreatVs21
import Derived.Test.YtncnoeoicaglaaaGreatVs2
set_option maxRecDepth 100000
set_option maxHeartbeats 1000000
namespace Go.Proofs.YtncnoeoicaglaaaGreat
open Go.RowKit
def PrAdd (w w' : World) (p B : Nat) (toks : List Lx.PTok) (txt : List UInt8) (l : List Lx.Tok) : Prop :=
 ∃ vt' vb' cs', Pr w' p B vt' vb' cs' (adds l toks txt).1 (adds l toks txt).2 ∧ Touch (PS p B w) w w'
theorem PrAdd.app {a b c : World} {p B : Nat} {toks : List Lx.PTok} {txt : List UInt8} {l m : List Lx.Tok} (h : PrAdd a b p B toks txt l) (k : PrAdd b c p B (adds l toks txt).1 (adds l toks txt).2 m) : PrAdd a c p B toks txt (l ++ m) := by
 obtain ⟨_, _, _, _, ht⟩ := h;obtain ⟨vt, vb, cs, hp, ht'⟩ := k;rw [← adds_app] at hp;exact ⟨vt, vb, cs, hp, PS.trans ht ht'⟩
theorem add_one {w : World} {p B : Nat} {vt vb : Value} {cs : Array Value} {txt : List UInt8} {toks : List Lx.PTok} (h : Pr w p B vt vb cs toks txt) (k : Nat) (t : List UInt8) (hB : B ≤ w.heap.size) (hl : txt.length ≤ 2000000) (ht : t.length ≤ 2000000) (hn : toks.length ≤ 2000000) :
  Calls Tryz.prog 123 #[.pointer (some ⟨p, 0, none⟩), .int .i64 (k : Int), .string ⟨t.toArray⟩] w fun e w' => e = .returned (.tuple #[]) ∧ PrAdd w w' p B toks txt [⟨k, t⟩] :=
 add_any h k t hB hl ht hn
theorem pmark_any {w : World} {p B : Nat} {vt vb : Value} {cs : Array Value} {txt : List UInt8} {toks : List Lx.PTok} (h : Pr w p B vt vb cs toks txt) (t : List UInt8) (hB : B ≤ w.heap.size) (hl : txt.length ≤ 2000000) (ht : t.length ≤ 2000000) (hn : toks.length ≤ 2000000) :
  Calls Tryz.prog 125 #[.pointer (some ⟨p, 0, none⟩), .string ⟨t.toArray⟩] w fun e w' => e = .returned (.tuple #[]) ∧ PrAdd w w' p B toks txt [⟨7, t⟩] := by
 have H := hid (add_one h 7 t hB hl ht hn);clear h;go_enter Tryz.func125, Tryz.ntmps125;go_wp2_with fail
 refine H.out.mono ?_;rintro _ w1 ⟨rfl, h1⟩;have H1 := hid h1;clear h1;go_wp2_with fail
 go_end0
 exact ⟨rfl, H1.out⟩
theorem PrAdd.freshL {a b c : World} {p B : Nat} {toks : List Lx.PTok} {txt : List UInt8} {l : List Lx.Tok} (hf : Fresh a b) (k : PrAdd b c p B toks txt l) : PrAdd a c p B toks txt l := by
 obtain ⟨vt, vb, cs, hp, ht'⟩ := k;exact ⟨vt, vb, cs, hp, PS.freshL hf ht'⟩
theorem number_pr {w : World} {p B : Nat} {vt vb : Value} {cs : Array Value} {txt : List UInt8} {toks : List Lx.PTok} (h : Pr w p B vt vb cs toks txt) (x c : Value) (kd : Value) (t : List UInt8) (hB : B ≤ w.heap.size) (hl : txt.length ≤ 2000000) (ht : t.length ≤ 2000000) (hn : toks.length ≤ 2000000) :
  Calls Tryz.prog 91 #[.pointer (some ⟨p, 0, none⟩), .agg #[kd, .string ⟨t.toArray⟩, c, x]] w fun e w' => e = .returned (.tuple #[]) ∧ PrAdd w w' p B toks txt [⟨2, t⟩] := by
 have hf : ∀ o, Fresh w (w.alloc o) := fun o => (Touch.refl _ w).alloc o
 have H := hid (fun o => add_one (h.fresh (hf o)) 2 t (Nat.le_trans hB (hf o).size) hl ht hn);clear h;go_enter Tryz.func91, Tryz.ntmps91;go_wp2_with fail
 refine (H.out _).mono ?_;rintro _ w1 ⟨rfl, h1⟩;have H1 := hid (PrAdd.freshL (hf _) h1);clear h1;go_wp2_with fail
 go_end0
 exact ⟨rfl, H1.out⟩
theorem quoted_pr {w : World} {p B : Nat} {vt vb : Value} {cs : Array Value} {txt : List UInt8} {toks : List Lx.PTok} (h : Pr w p B vt vb cs toks txt) (x c : Value) (kd : Value) (t : List UInt8) (hB : B ≤ w.heap.size) (hl : txt.length ≤ 2000000) (ht : t.length ≤ 2000000) (hn : toks.length ≤ 2000000) :
  Calls Tryz.prog 92 #[.pointer (some ⟨p, 0, none⟩), .agg #[kd, .string ⟨t.toArray⟩, c, x]] w fun e w' => e = .returned (.tuple #[]) ∧ PrAdd w w' p B toks txt [⟨3, t⟩] := by
 have hf : ∀ o, Fresh w (w.alloc o) := fun o => (Touch.refl _ w).alloc o
 have H := hid (fun o => add_one (h.fresh (hf o)) 3 t (Nat.le_trans hB (hf o).size) hl ht hn);clear h;go_enter Tryz.func92, Tryz.ntmps92;go_wp2_with fail
 refine (H.out _).mono ?_;rintro _ w1 ⟨rfl, h1⟩;have H1 := hid (PrAdd.freshL (hf _) h1);clear h1;go_wp2_with fail
 go_end0
 exact ⟨rfl, H1.out⟩
theorem symbol_pr {w : World} {p B : Nat} {vt vb : Value} {cs : Array Value} {txt : List UInt8} {toks : List Lx.PTok} (h : Pr w p B vt vb cs toks txt) (x c : Value) (kd : Value) (t : List UInt8) (hB : B ≤ w.heap.size) (hl : txt.length ≤ 2000000) (ht : t.length ≤ 2000000) (hn : toks.length ≤ 2000000) :
  Calls Tryz.prog 90 #[.pointer (some ⟨p, 0, none⟩), .agg #[kd, .string ⟨t.toArray⟩, c, x]] w fun e w' => e = .returned (.tuple #[]) ∧ PrAdd w w' p B toks txt [⟨if t.length = 1 then 1 else 4, t⟩] := by
 have hf : ∀ o, Fresh w (w.alloc o) := fun o => (Touch.refl _ w).alloc o
 have H := hid (fun k o => add_one (h.fresh (hf o)) k t (Nat.le_trans hB (hf o).size) hl ht hn);clear h;have hsz : (ByteArray.mk t.toArray).size = t.length := by show t.toArray.size = _; simp
 by_cases h1 : t.length = 1
 ·have d1 : ((ByteArray.mk t.toArray).size : Int) = 1 := by omega
  have HE := hid (if_pos h1 : (if t.length = 1 then 1 else 4) = (1 : Nat));rw [HE.out];clear h1;go_enter Tryz.func90, Tryz.ntmps90;go_wp2_with fail
  refine (H.out 1 _).mono ?_;rintro _ w1 ⟨rfl, h1⟩;have H1 := hid (PrAdd.freshL (hf _) h1);clear h1;go_wp2_with fail
  go_end0
  exact ⟨rfl, H1.out⟩
 ·have d1 : (((ByteArray.mk t.toArray).size : Int) == 1) = false := by simp; omega
  have d2 : ¬ ((ByteArray.mk t.toArray).size : Int) = 1 := by omega
  have HE := hid (if_neg h1 : (if t.length = 1 then 1 else 4) = (4 : Nat));rw [HE.out];clear h1;go_enter Tryz.func90, Tryz.ntmps90;go_wp2_with fail
  refine (H.out 4 _).mono ?_;rintro _ w1 ⟨rfl, h1⟩;have H1 := hid (PrAdd.freshL (hf _) h1);clear h1;go_wp2_with fail
  go_end0
  exact ⟨rfl, H1.out⟩
structure PSt (W0 : World) (p B : Nat) (w : World) (toks : List Lx.PTok) (txt : List UInt8) : Prop where
 low : Low W0 w
 hp : W0.heap.size ≤ p
 hB : B ≤ w.heap.size
 pr : ∃ vt vb cs, Pr w p B vt vb cs toks txt
theorem PSt.lt {W0 : World} {p B : Nat} {w : World} {toks : List Lx.PTok} {txt : List UInt8} (h : PSt W0 p B w toks txt) : p < B := by
 obtain ⟨_, _, _, h⟩ := h.pr;exact h.lt
theorem PS.low {W0 : World} {p B : Nat} {w w' : World} (hl : Low W0 w) (hp : W0.heap.size ≤ p) (hB : p < B) (ht : Touch (PS p B w) w w') : Low W0 w' :=
 hl.trans' ht fun k hk => .inl (by
  rcases hk with rfl | ⟨h, _⟩
  ·exact hp
  ·omega)
theorem PSt.add {W0 : World} {p B : Nat} {w w' : World} {toks : List Lx.PTok} {txt : List UInt8} {l : List Lx.Tok} (h : PSt W0 p B w toks txt) (k : PrAdd w w' p B toks txt l) : PSt W0 p B w' (adds l toks txt).1 (adds l toks txt).2 := by
 obtain ⟨vt, vb, cs, hp, ht⟩ := k;exact ⟨PS.low h.low h.hp h.lt ht, h.hp, Nat.le_trans h.hB ht.size, vt, vb, cs, hp⟩
theorem PSt.add2 {W0 : World} {p B : Nat} {w w' : World} {toks : List Lx.PTok} {txt : List UInt8} {l m : List Lx.Tok} (h : PSt W0 p B w (adds l toks txt).1 (adds l toks txt).2) (k : PrAdd w w' p B (adds l toks txt).1 (adds l toks txt).2 m) : PSt W0 p B w' (adds (l ++ m) toks txt).1 (adds (l ++ m) toks txt).2 := by
 rw [adds_app];exact h.add k
theorem PSt.fresh {W0 : World} {p B : Nat} {w w' : World} {toks : List Lx.PTok} {txt : List UInt8} (h : PSt W0 p B w toks txt) (hf : Fresh w w') : PSt W0 p B w' toks txt := by
 obtain ⟨vt, vb, cs, hp⟩ := h.pr;exact ⟨h.low.fresh hf, h.hp, Nat.le_trans h.hB hf.size, vt, vb, cs, hp.fresh hf⟩
def Fits (l : List Lx.Tok) (toks : List Lx.PTok) (txt : List UInt8) : Prop := (adds l toks txt).1.length ≤ 2000000 ∧ (adds l toks txt).2.length ≤ 2000000
theorem adds_mono : ∀ (l : List Lx.Tok) (toks : List Lx.PTok) (txt : List UInt8), toks.length ≤ (adds l toks txt).1.length ∧ txt.length ≤ (adds l toks txt).2.length
 | [], _, _ => ⟨Nat.le_refl _, Nat.le_refl _⟩
 | t :: l, toks, txt => by
  have := adds_mono l (added toks txt t) (txt ++ gap toks t ++ Lx.spell t);simp only [adds, added, List.length_append, List.length_singleton] at this ⊢;omega
theorem Fits.left {l m : List Lx.Tok} {toks : List Lx.PTok} {txt : List UInt8} (h : Fits (l ++ m) toks txt) : Fits l toks txt := by
 unfold Fits at h ⊢;rw [adds_app] at h;have := adds_mono m (adds l toks txt).1 (adds l toks txt).2;omega
theorem Fits.right {l m : List Lx.Tok} {toks : List Lx.PTok} {txt : List UInt8} (h : Fits (l ++ m) toks txt) : Fits m (adds l toks txt).1 (adds l toks txt).2 := by
 unfold Fits at h ⊢;rw [adds_app] at h;exact h
theorem Fits.right2 {k l m : List Lx.Tok} {toks : List Lx.PTok} {txt : List UInt8} (h : Fits (l ++ m) (adds k toks txt).1 (adds k toks txt).2) : Fits m (adds (k ++ l) toks txt).1 (adds (k ++ l) toks txt).2 := by
 rw [adds_app];exact h.right
theorem Fits.start {l : List Lx.Tok} {toks : List Lx.PTok} {txt : List UInt8} (h : Fits l toks txt) : toks.length ≤ 2000000 ∧ txt.length ≤ 2000000 := by
 unfold Fits at h;have := adds_mono l toks txt;omega
theorem spell_le (t : Lx.Tok) : t.text.length ≤ (Lx.spell t).length := Lx.spellL_len _ _
theorem Fits.one {t : Lx.Tok} {toks : List Lx.PTok} {txt : List UInt8} (h : Fits [t] toks txt) : t.text.length ≤ 2000000 := by
 unfold Fits at h;simp only [adds, List.length_append] at h;have := spell_le t;omega
def Emits (f : Nat) (args : Array Value) (W0 : World) (p B : Nat) (l : List Lx.Tok) : Prop :=
 ∀ (w : World) (toks : List Lx.PTok) (txt : List UInt8), PSt W0 p B w toks txt → Fits l toks txt → Calls Tryz.prog f args w fun e w' => e = .returned (.tuple #[]) ∧ PrAdd w w' p B toks txt l
abbrev pp (p : Nat) : Value := .pointer (some ⟨p, 0, none⟩)
theorem add_em (W0 : World) (p B k : Nat) (t : List UInt8) : Emits 123 #[pp p, .int .i64 (k : Int), .string ⟨t.toArray⟩] W0 p B [⟨k, t⟩] := by
 intro w toks txt h hf;obtain ⟨vt, vb, cs, hp⟩ := h.pr;exact add_one hp k t h.hB hf.start.2 hf.one hf.start.1
theorem mark_em (W0 : World) (p B : Nat) (t : List UInt8) : Emits 125 #[pp p, .string ⟨t.toArray⟩] W0 p B [⟨7, t⟩] := by
 intro w toks txt h hf;obtain ⟨vt, vb, cs, hp⟩ := h.pr;exact pmark_any hp t h.hB hf.start.2 hf.one hf.start.1
theorem number_em (W0 : World) (p B : Nat) (n : Tr.Nd) (sl : Value) : Emits 91 #[pp p, nv n sl] W0 p B [⟨2, n.text⟩] := by
 intro w toks txt h hf;obtain ⟨vt, vb, cs, hp⟩ := h.pr;exact number_pr hp _ _ _ n.text h.hB hf.start.2 hf.one hf.start.1
theorem quoted_em (W0 : World) (p B : Nat) (n : Tr.Nd) (sl : Value) : Emits 92 #[pp p, nv n sl] W0 p B [⟨3, n.text⟩] := by
 intro w toks txt h hf;obtain ⟨vt, vb, cs, hp⟩ := h.pr;exact quoted_pr hp _ _ _ n.text h.hB hf.start.2 hf.one hf.start.1
theorem symbol_em (W0 : World) (p B : Nat) (n : Tr.Nd) (sl : Value) : Emits 90 #[pp p, nv n sl] W0 p B [⟨if n.text.length = 1 then 1 else 4, n.text⟩] := by
 intro w toks txt h hf;obtain ⟨vt, vb, cs, hp⟩ := h.pr;exact symbol_pr hp _ _ _ n.text h.hB hf.start.2 hf.one hf.start.1
def RowE (W0 : World) (p B : Nat) (n : Tr.Nd) : Prop := ∀ sl, RepL W0 n.kids sl → Emits 36 #[pp p, nv n sl] W0 p B (Tr.rowT n.kids)
def GroupE (W0 : World) (p B : Nat) (n : Tr.Nd) : Prop := ∀ sl, RepL W0 n.kids sl → Emits 127 #[pp p, nv n sl] W0 p B ([Tr.mk7 123] ++ (Tr.rowT n.kids ++ [Tr.mk7 125]))
def ArgE (W0 : World) (p B : Nat) (n : Tr.Nd) : Prop := ∀ sl, RepL W0 n.kids sl → Emits 124 #[pp p, nv n sl] W0 p B (Tr.argT n)
end Go.Proofs.YtncnoeoicaglaaaGreat
namespace Go.Proofs.YtncnoeoicaglaaaGreat
open Go.RowKit
open Tr (Nd argT baseT rowT itemT)
theorem PrAdd.cast {w w' : World} {p B : Nat} {toks : List Lx.PTok} {txt : List UInt8} {l l' : List Lx.Tok} (h : PrAdd w w' p B toks txt l) (e : l = l') : PrAdd w w' p B toks txt l' := e ▸ h
theorem PrAdd.freshR {a b c : World} {p B : Nat} {toks : List Lx.PTok} {txt : List UInt8} {l : List Lx.Tok} (k : PrAdd a b p B toks txt l) (hf : Fresh b c) : PrAdd a c p B toks txt l := by
 obtain ⟨vt, vb, cs, hp, ht⟩ := k;exact ⟨vt, vb, cs, hp.fresh hf, PS.freshR ht hf⟩
theorem PrAdd.blk {a b : World} {p B g : Nat} {t : TypeId} {cs : Array Value} {toks : List Lx.PTok} {txt : List UInt8} {l : List Lx.Tok} (k : PrAdd a b p B toks txt l) (hb : Blk a g t cs) (hp : g ≠ p) (h1 : t ≠ 134) (h2 : t ≠ 5) : Blk b g t cs := by
 obtain ⟨vt, vb, cs', _, ht⟩ := k;exact PS.blk ht hb hp h1 h2
theorem PrAdd.bk {a b : World} {p B g : Nat} {cs : Array Value} {toks : List Lx.PTok} {txt : List UInt8} {l : List Lx.Tok} (k : PrAdd a b p B toks txt l) (hb : Blk a g 26 cs) {W0 w0 : World} {t0 : List Lx.PTok} {x0 : List UInt8} (h : PSt W0 p B w0 t0 x0) (hg : w0.heap.size ≤ g) : Blk b g 26 cs := k.blk hb (by have := h.lt; have := h.hB; omega) (by decide) (by decide)
theorem RepL.one {W : World} {x : Nd} {v : Value} (h : RepL W [x] v) : ∃ g o cap sx, v = .slice (some ⟨g, o, none⟩) 1 cap ∧
  W.cell? ⟨g, o, none⟩ = some (.int .i64 x.kind) ∧ W.cell? ⟨g, o + 1, none⟩ = some (.string ⟨x.text.toArray⟩) ∧ W.cell? ⟨g, o + 2, none⟩ = some (.int .i64 x.cols) ∧ W.cell? ⟨g, o + 3, none⟩ = some sx ∧ RepL W x.kids sx := by
 obtain ⟨A, cap, rfl⟩ := h.slice;obtain ⟨g, o, sx, rfl, _, h0, h1, h2, h3, hr⟩ := h.get 0 (by simp);simp only [Nat.zero_mul, Nat.add_zero] at h0 h1 h2 h3;exact ⟨g, o, cap, sx, rfl, h0, h1, h2, h3, hr⟩
theorem RepL.two {W : World} {x y : Nd} {v : Value} (h : RepL W [x, y] v) : ∃ g o cap sx sy, v = .slice (some ⟨g, o, none⟩) 2 cap ∧
  W.cell? ⟨g, o, none⟩ = some (.int .i64 x.kind) ∧ W.cell? ⟨g, o + 1, none⟩ = some (.string ⟨x.text.toArray⟩) ∧ W.cell? ⟨g, o + 2, none⟩ = some (.int .i64 x.cols) ∧ W.cell? ⟨g, o + 3, none⟩ = some sx ∧ RepL W x.kids sx ∧
  W.cell? ⟨g, o + 4, none⟩ = some (.int .i64 y.kind) ∧ W.cell? ⟨g, o + 4 + 1, none⟩ = some (.string ⟨y.text.toArray⟩) ∧ W.cell? ⟨g, o + 4 + 2, none⟩ = some (.int .i64 y.cols) ∧ W.cell? ⟨g, o + 4 + 3, none⟩ = some sy ∧ RepL W y.kids sy := by
 obtain ⟨A, cap, rfl⟩ := h.slice;obtain ⟨g, o, sx, rfl, _, h0, h1, h2, h3, hr⟩ := h.get 0 (by simp);obtain ⟨g', o', sy, hg, _, k0, k1, k2, k3, kr⟩ := h.get 1 (by simp);cases hg;simp only [Nat.zero_mul, Nat.add_zero] at h0 h1 h2 h3;simp only [Nat.one_mul] at k0 k1 k2 k3;exact ⟨g, o, cap, sx, sy, rfl, h0, h1, h2, h3, hr, k0, k1, k2, k3, kr⟩
theorem RepL.three {W : World} {x y z : Nd} {v : Value} (h : RepL W [x, y, z] v) : ∃ g o cap sx sy sz, v = .slice (some ⟨g, o, none⟩) 3 cap ∧
  W.cell? ⟨g, o, none⟩ = some (.int .i64 x.kind) ∧ W.cell? ⟨g, o + 1, none⟩ = some (.string ⟨x.text.toArray⟩) ∧ W.cell? ⟨g, o + 2, none⟩ = some (.int .i64 x.cols) ∧ W.cell? ⟨g, o + 3, none⟩ = some sx ∧ RepL W x.kids sx ∧
  W.cell? ⟨g, o + 4, none⟩ = some (.int .i64 y.kind) ∧ W.cell? ⟨g, o + 4 + 1, none⟩ = some (.string ⟨y.text.toArray⟩) ∧ W.cell? ⟨g, o + 4 + 2, none⟩ = some (.int .i64 y.cols) ∧ W.cell? ⟨g, o + 4 + 3, none⟩ = some sy ∧ RepL W y.kids sy ∧
  W.cell? ⟨g, o + 8, none⟩ = some (.int .i64 z.kind) ∧ W.cell? ⟨g, o + 8 + 1, none⟩ = some (.string ⟨z.text.toArray⟩) ∧ W.cell? ⟨g, o + 8 + 2, none⟩ = some (.int .i64 z.cols) ∧ W.cell? ⟨g, o + 8 + 3, none⟩ = some sz ∧ RepL W z.kids sz := by
 obtain ⟨A, cap, rfl⟩ := h.slice;obtain ⟨g, o, sx, rfl, _, h0, h1, h2, h3, hr⟩ := h.get 0 (by simp);obtain ⟨g', o', sy, hg, _, k0, k1, k2, k3, kr⟩ := h.get 1 (by simp);cases hg;obtain ⟨g', o', sz, hg, _, l0, l1, l2, l3, lr⟩ := h.get 2 (by simp);cases hg;simp only [Nat.zero_mul, Nat.add_zero] at h0 h1 h2 h3;simp only [Nat.one_mul] at k0 k1 k2 k3;simp only [Nat.reduceMul] at l0 l1 l2 l3;exact ⟨g, o, cap, sx, sy, sz, rfl, h0, h1, h2, h3, hr, k0, k1, k2, k3, kr, l0, l1, l2, l3, lr⟩
theorem group_em (W0 : World) (p B : Nat) (n : Nd) (hr : RowE W0 p B n) : GroupE W0 p B n := by
 intro sl hsl w toks txt hp hf;have PST0 := hid hp;have FIT0 := hid hf;have ROWn := hid (hr sl hsl);clear hp hf hr hsl;go_enter Tryz.func127, Tryz.ntmps127;go_wp2_with fail
 refine Calls.mono ((mark_em W0 p B [123]) _ _ _ (PSt.fresh PST0.out frR) FIT0.out.left) ?_;rintro _ w1 ⟨rfl, htw1⟩;have PSTw1 := hid (PSt.add (PSt.fresh PST0.out frR) htw1);have ACCw1 := hid (PrAdd.freshL (show Fresh w _ from frR) htw1);have FITw1 := hid (Fits.right FIT0.out);have B0_w1 : Blk w1 (w.heap.size) 26 #[.int .i64 n.kind, .string (⟨n.text.toArray⟩ : ByteArray), .int .i64 n.cols, sl] := PrAdd.bk htw1 (by first | exact blkN | assumption | exact blkA (by assumption)) PST0.out (by omega);obtain ⟨q0_0_w1, q0_1_w1, q0_2_w1, q0_3_w1, _⟩ := Blk.four B0_w1;clear htw1;go_wp2_with fail
 refine Calls.mono ((ROWn.out) _ _ _ (PSt.fresh PSTw1.out frR) FITw1.out.left) ?_;rintro _ w2 ⟨rfl, htw2⟩;have PSTw2 := hid (PSt.add2 (PSt.fresh PSTw1.out frR) htw2);have ACCw2 := hid (PrAdd.app ACCw1.out (PrAdd.freshL (show Fresh w1 _ from frR) htw2));have FITw2 := hid (Fits.right2 FITw1.out);have B0_w2 : Blk w2 (w.heap.size) 26 #[.int .i64 n.kind, .string (⟨n.text.toArray⟩ : ByteArray), .int .i64 n.cols, sl] := PrAdd.bk htw2 (by first | exact blkN | assumption | exact blkA (by assumption)) PST0.out (by omega);clear q0_0_w1 q0_1_w1 q0_2_w1 q0_3_w1 B0_w1;obtain ⟨q0_0_w2, q0_1_w2, q0_2_w2, q0_3_w2, _⟩ := Blk.four B0_w2;clear htw2;go_wp2_with fail
 refine Calls.mono ((mark_em W0 p B [125]) _ _ _ (PSt.fresh PSTw2.out frR) FITw2.out) ?_;rintro _ w3 ⟨rfl, htw3⟩;have PSTw3 := hid (PSt.add2 (PSt.fresh PSTw2.out frR) htw3);have ACCw3 := hid (PrAdd.app ACCw2.out (PrAdd.freshL (show Fresh w2 _ from frR) htw3));have B0_w3 : Blk w3 (w.heap.size) 26 #[.int .i64 n.kind, .string (⟨n.text.toArray⟩ : ByteArray), .int .i64 n.cols, sl] := PrAdd.bk htw3 (by first | exact blkN | assumption | exact blkA (by assumption)) PST0.out (by omega);clear q0_0_w2 q0_1_w2 q0_2_w2 q0_3_w2 B0_w2;obtain ⟨q0_0_w3, q0_1_w3, q0_2_w3, q0_3_w3, _⟩ := Blk.four B0_w3;clear htw3;go_wp2_with fail
 first | go_end0 | refine bodyPost_ret (v := .tuple #[]) (results_none rfl _ _ _) rfl ?_
 exact ⟨rfl, PrAdd.cast ACCw3.out (by first | rfl | (simp only [List.append_assoc] <;> rfl))⟩
theorem argT_leaf (n x : Nd) (h : n.kids = [x]) (hx : Tr.leaf x = true) : argT n = rowT n.kids := by
 rw [Tr.argT_eq, h]; simp [hx, Tr.rowT_cons, Tr.rowT_nil]
theorem argT_grp (n x : Nd) (h : n.kids = [x]) (hx : Tr.leaf x = false) : argT n = [Tr.mk7 123] ++ (rowT n.kids ++ [Tr.mk7 125]) := by
 rw [Tr.argT_eq, h]; simp [hx]
theorem argT_len1 (n : Nd) (h : n.kids.length ≠ 1) : argT n = [Tr.mk7 123] ++ (rowT n.kids ++ [Tr.mk7 125]) := by
 rw [Tr.argT_eq];split
 ·rename_i x hx; rw [hx] at h; simp at h
 ·rfl
theorem baseT_row (n x : Nd) (h : n.kids = [x]) (hx : Tr.scripted x = false) : baseT n = rowT n.kids := by
 rw [Tr.baseT_eq, h]; simp [hx, Tr.rowT_cons, Tr.rowT_nil]
theorem baseT_grp (n x : Nd) (h : n.kids = [x]) (hx : Tr.scripted x = true) : baseT n = [Tr.mk7 123] ++ (rowT n.kids ++ [Tr.mk7 125]) := by
 rw [Tr.baseT_eq, h]; simp [hx]
theorem baseT_len1 (n : Nd) (h : n.kids.length ≠ 1) : baseT n = [Tr.mk7 123] ++ (rowT n.kids ++ [Tr.mk7 125]) := by
 rw [Tr.baseT_eq];split
 ·rename_i x hx; rw [hx] at h; simp at h
 ·rfl
theorem argument_row (W0 : World) (p B : Nat) (n x : Nd) (hx : n.kids = [x]) (hl : Tr.leaf x = true) (hr : RowE W0 p B n) : ArgE W0 p B n := by
 intro sl hsl w toks txt hp hf;rw [argT_leaf n x hx hl] at hf ⊢;have ROWn := hid (hr sl hsl);rw [hx] at hsl;obtain ⟨g, o, cap, sx, rfl, x0, x1, x2, x3, hrx⟩ := hsl.one;have PST0 := hid hp;have FIT0 := hid hf;clear hp hf hr hsl hrx;have XX0 := hid x0;have XX1 := hid x1;have XX2 := hid x2;have XX3 := hid x3;clear x0 x1 x2 x3;simp only [Tr.leaf, Bool.or_eq_true, beq_iff_eq] at hl
 rcases hl with (hl | hl) | hl
 ·have k2 : x.kind = 2 := hl
  clear hl;have d2 : (x.kind == (2 : Int)) = true := by rw [k2]; rfl
  have d3 : (x.kind == (3 : Int)) = false := by rw [k2]; rfl
  have d4 : (x.kind == (4 : Int)) = false := by rw [k2]; rfl
  clear k2;obtain ⟨xx0_w, xx1_w, xx2_w, xx3_w⟩ := low4 (PSt.low PST0.out) XX0.out XX1.out XX2.out XX3.out;have hlt_g_w : g < w.heap.size := bL xx0_w;go_enter Tryz.func124, Tryz.ntmps124;go_wp2_with fail
  refine Calls.mono ((ROWn.out) _ _ _ (PSt.fresh PST0.out frR) FIT0.out) ?_;rintro _ w1 ⟨rfl, htw1⟩;have PSTw1 := hid (PSt.add (PSt.fresh PST0.out frR) htw1);have ACCw1 := hid (PrAdd.freshL (show Fresh w _ from frR) htw1);have B0_w1 : Blk w1 (w.heap.size) 26 #[.int .i64 n.kind, .string (⟨n.text.toArray⟩ : ByteArray), .int .i64 n.cols, .slice (some ⟨g, o, none⟩) 1 cap] := PrAdd.bk htw1 (by first | exact blkN | assumption | exact blkA (by assumption)) PST0.out (by omega);obtain ⟨q0_0_w1, q0_1_w1, q0_2_w1, q0_3_w1, _⟩ := Blk.four B0_w1;clear xx0_w xx1_w xx2_w xx3_w;obtain ⟨xx0_w1, xx1_w1, xx2_w1, xx3_w1⟩ := low4 (PSt.low PSTw1.out) XX0.out XX1.out XX2.out XX3.out;have hlt_g_w1 : g < w1.heap.size := bL xx0_w1;clear htw1;go_wp2_with fail
  first | go_end0 | refine bodyPost_ret (v := .tuple #[]) (results_none rfl _ _ _) rfl ?_
  exact ⟨rfl, PrAdd.cast ACCw1.out (by first | rfl | (simp only [List.append_assoc] <;> rfl))⟩
 ·have k2 : x.kind = 3 := hl
  clear hl;have d2 : (x.kind == (2 : Int)) = false := by rw [k2]; rfl
  have d3 : (x.kind == (3 : Int)) = true := by rw [k2]; rfl
  have d4 : (x.kind == (4 : Int)) = false := by rw [k2]; rfl
  clear k2;obtain ⟨xx0_w, xx1_w, xx2_w, xx3_w⟩ := low4 (PSt.low PST0.out) XX0.out XX1.out XX2.out XX3.out;have hlt_g_w : g < w.heap.size := bL xx0_w;go_enter Tryz.func124, Tryz.ntmps124;go_wp2_with fail
  refine Calls.mono ((ROWn.out) _ _ _ (PSt.fresh PST0.out frR) FIT0.out) ?_;rintro _ w1 ⟨rfl, htw1⟩;have PSTw1 := hid (PSt.add (PSt.fresh PST0.out frR) htw1);have ACCw1 := hid (PrAdd.freshL (show Fresh w _ from frR) htw1);have B0_w1 : Blk w1 (w.heap.size) 26 #[.int .i64 n.kind, .string (⟨n.text.toArray⟩ : ByteArray), .int .i64 n.cols, .slice (some ⟨g, o, none⟩) 1 cap] := PrAdd.bk htw1 (by first | exact blkN | assumption | exact blkA (by assumption)) PST0.out (by omega);obtain ⟨q0_0_w1, q0_1_w1, q0_2_w1, q0_3_w1, _⟩ := Blk.four B0_w1;clear xx0_w xx1_w xx2_w xx3_w;obtain ⟨xx0_w1, xx1_w1, xx2_w1, xx3_w1⟩ := low4 (PSt.low PSTw1.out) XX0.out XX1.out XX2.out XX3.out;have hlt_g_w1 : g < w1.heap.size := bL xx0_w1;clear htw1;go_wp2_with fail
  first | go_end0 | refine bodyPost_ret (v := .tuple #[]) (results_none rfl _ _ _) rfl ?_
  exact ⟨rfl, PrAdd.cast ACCw1.out (by first | rfl | (simp only [List.append_assoc] <;> rfl))⟩
 ·have k2 : x.kind = 4 := hl
  clear hl;have d2 : (x.kind == (2 : Int)) = false := by rw [k2]; rfl
  have d3 : (x.kind == (3 : Int)) = false := by rw [k2]; rfl
  have d4 : (x.kind == (4 : Int)) = true := by rw [k2]; rfl
  clear k2;obtain ⟨xx0_w, xx1_w, xx2_w, xx3_w⟩ := low4 (PSt.low PST0.out) XX0.out XX1.out XX2.out XX3.out;have hlt_g_w : g < w.heap.size := bL xx0_w;go_enter Tryz.func124, Tryz.ntmps124;go_wp2_with fail
  refine Calls.mono ((ROWn.out) _ _ _ (PSt.fresh PST0.out frR) FIT0.out) ?_;rintro _ w1 ⟨rfl, htw1⟩;have PSTw1 := hid (PSt.add (PSt.fresh PST0.out frR) htw1);have ACCw1 := hid (PrAdd.freshL (show Fresh w _ from frR) htw1);have B0_w1 : Blk w1 (w.heap.size) 26 #[.int .i64 n.kind, .string (⟨n.text.toArray⟩ : ByteArray), .int .i64 n.cols, .slice (some ⟨g, o, none⟩) 1 cap] := PrAdd.bk htw1 (by first | exact blkN | assumption | exact blkA (by assumption)) PST0.out (by omega);obtain ⟨q0_0_w1, q0_1_w1, q0_2_w1, q0_3_w1, _⟩ := Blk.four B0_w1;clear xx0_w xx1_w xx2_w xx3_w;obtain ⟨xx0_w1, xx1_w1, xx2_w1, xx3_w1⟩ := low4 (PSt.low PSTw1.out) XX0.out XX1.out XX2.out XX3.out;have hlt_g_w1 : g < w1.heap.size := bL xx0_w1;clear htw1;go_wp2_with fail
  first | go_end0 | refine bodyPost_ret (v := .tuple #[]) (results_none rfl _ _ _) rfl ?_
  exact ⟨rfl, PrAdd.cast ACCw1.out (by first | rfl | (simp only [List.append_assoc] <;> rfl))⟩
theorem argument_grp (W0 : World) (p B : Nat) (n x : Nd) (hx : n.kids = [x]) (hl : Tr.leaf x = false) (hr : GroupE W0 p B n) : ArgE W0 p B n := by
 intro sl hsl w toks txt hp hf;rw [argT_grp n x hx hl] at hf ⊢;have GRPn := hid (hr sl hsl);rw [hx] at hsl;obtain ⟨g, o, cap, sx, rfl, x0, x1, x2, x3, hrx⟩ := hsl.one;have PST0 := hid hp;have FIT0 := hid hf;clear hp hf hr hsl hrx;have XX0 := hid x0;have XX1 := hid x1;have XX2 := hid x2;have XX3 := hid x3;clear x0 x1 x2 x3;simp only [Tr.leaf, Bool.or_eq_false_iff] at hl;obtain ⟨⟨d2, d3⟩, d4⟩ := hl;obtain ⟨xx0_w, xx1_w, xx2_w, xx3_w⟩ := low4 (PSt.low PST0.out) XX0.out XX1.out XX2.out XX3.out;have hlt_g_w : g < w.heap.size := bL xx0_w;go_enter Tryz.func124, Tryz.ntmps124;go_wp2_with fail
 refine Calls.mono ((GRPn.out) _ _ _ (PSt.fresh PST0.out frR) FIT0.out) ?_;rintro _ w1 ⟨rfl, htw1⟩;have PSTw1 := hid (PSt.add (PSt.fresh PST0.out frR) htw1);have ACCw1 := hid (PrAdd.freshL (show Fresh w _ from frR) htw1);have B0_w1 : Blk w1 (w.heap.size) 26 #[.int .i64 n.kind, .string (⟨n.text.toArray⟩ : ByteArray), .int .i64 n.cols, .slice (some ⟨g, o, none⟩) 1 cap] := PrAdd.bk htw1 (by first | exact blkN | assumption | exact blkA (by assumption)) PST0.out (by omega);obtain ⟨q0_0_w1, q0_1_w1, q0_2_w1, q0_3_w1, _⟩ := Blk.four B0_w1;clear xx0_w xx1_w xx2_w xx3_w;obtain ⟨xx0_w1, xx1_w1, xx2_w1, xx3_w1⟩ := low4 (PSt.low PSTw1.out) XX0.out XX1.out XX2.out XX3.out;have hlt_g_w1 : g < w1.heap.size := bL xx0_w1;clear htw1;go_wp2_with fail
 first | go_end0 | refine bodyPost_ret (v := .tuple #[]) (results_none rfl _ _ _) rfl ?_
 exact ⟨rfl, PrAdd.cast ACCw1.out (by first | rfl | (simp only [List.append_assoc] <;> rfl))⟩
theorem argument_len (W0 : World) (p B : Nat) (n : Nd) (hx : n.kids.length ≠ 1) (hr : GroupE W0 p B n) : ArgE W0 p B n := by
 intro sl hsl w toks txt hp hf;rw [argT_len1 n hx] at hf ⊢;obtain ⟨A, cap, rfl⟩ := hsl.slice;have GRPn := hid (hr _ hsl);have PST0 := hid hp;have FIT0 := hid hf;have d1 : ((n.kids.length : Int) == 1) = false := by simp only [beq_eq_false_iff_ne]; omega
 have d2 : ¬ (n.kids.length : Int) = 1 := by omega
 clear hp hf hr hsl;go_enter Tryz.func124, Tryz.ntmps124;go_wp2_with fail
 refine Calls.mono ((GRPn.out) _ _ _ (PSt.fresh PST0.out frR) FIT0.out) ?_;rintro _ w1 ⟨rfl, htw1⟩;have PSTw1 := hid (PSt.add (PSt.fresh PST0.out frR) htw1);have ACCw1 := hid (PrAdd.freshL (show Fresh w _ from frR) htw1);have B0_w1 : Blk w1 (w.heap.size) 26 #[.int .i64 n.kind, .string (⟨n.text.toArray⟩ : ByteArray), .int .i64 n.cols, .slice A n.kids.length cap] := PrAdd.bk htw1 (by first | exact blkN | assumption | exact blkA (by assumption)) PST0.out (by omega);obtain ⟨q0_0_w1, q0_1_w1, q0_2_w1, q0_3_w1, _⟩ := Blk.four B0_w1;clear htw1;go_wp2_with fail
 first | go_end0 | refine bodyPost_ret (v := .tuple #[]) (results_none rfl _ _ _) rfl ?_
 exact ⟨rfl, PrAdd.cast ACCw1.out (by first | rfl | (simp only [List.append_assoc] <;> rfl))⟩
theorem argument_em (W0 : World) (p B : Nat) (n : Nd) (hr : RowE W0 p B n) : ArgE W0 p B n := by
 by_cases h1 : n.kids.length = 1
 ·obtain ⟨x, hx⟩ := List.length_eq_one_iff.1 h1
  cases hl : Tr.leaf x with
  | true => exact argument_row W0 p B n x hx hl hr
  | false => exact argument_grp W0 p B n x hx hl (group_em W0 p B n hr)
 ·exact argument_len W0 p B n h1 (group_em W0 p B n hr)
theorem fraction_em (W0 : World) (p B : Nat) (kd tx cl : Value) (a b : Nd) (ha : ArgE W0 p B a) (hb : ArgE W0 p B b) (sl : Value) (hsl : RepL W0 [a, b] sl) : Emits 93 #[pp p, .agg #[kd, tx, cl, sl]] W0 p B ([Tr.name Tr.sFrac] ++ (argT a ++ argT b)) := by
 intro w toks txt hp hf;obtain ⟨g, o, cap, sa, sb, rfl, a0, a1, a2, a3, hra, b0, b1, b2, b3, hrb⟩ := hsl.two;have ARGa := hid (ha sa hra);have ARGb := hid (hb sb hrb);have PST0 := hid hp;have FIT0 := hid hf;clear hp hf ha hb hsl hra hrb;have XA0 := hid a0;have XA1 := hid a1;have XA2 := hid a2;have XA3 := hid a3;have XB0 := hid b0;have XB1 := hid b1;have XB2 := hid b2;have XB3 := hid b3;clear a0 a1 a2 a3 b0 b1 b2 b3;obtain ⟨xa0_w, xa1_w, xa2_w, xa3_w⟩ := low4 (PSt.low PST0.out) XA0.out XA1.out XA2.out XA3.out;obtain ⟨xb0_w, xb1_w, xb2_w, xb3_w⟩ := low4 (PSt.low PST0.out) XB0.out XB1.out XB2.out XB3.out;have hlt_g_w : g < w.heap.size := bL xa0_w;go_enter Tryz.func93, Tryz.ntmps93;go_wp2_with fail
 refine Calls.mono ((add_em W0 p B 4 [102, 114, 97, 99]) _ _ _ (PSt.fresh PST0.out frR) FIT0.out.left) ?_;rintro _ w1 ⟨rfl, htw1⟩;have PSTw1 := hid (PSt.add (PSt.fresh PST0.out frR) htw1);have ACCw1 := hid (PrAdd.freshL (show Fresh w _ from frR) htw1);have FITw1 := hid (Fits.right FIT0.out);have B0_w1 : Blk w1 (w.heap.size) 26 #[kd, tx, cl, .slice (some ⟨g, o, none⟩) 2 cap] := PrAdd.bk htw1 (by first | exact blkN | assumption | exact blkA (by assumption)) PST0.out (by omega);obtain ⟨q0_0_w1, q0_1_w1, q0_2_w1, q0_3_w1, _⟩ := Blk.four B0_w1;clear xa0_w xa1_w xa2_w xa3_w xb0_w xb1_w xb2_w xb3_w;obtain ⟨xa0_w1, xa1_w1, xa2_w1, xa3_w1⟩ := low4 (PSt.low PSTw1.out) XA0.out XA1.out XA2.out XA3.out;obtain ⟨xb0_w1, xb1_w1, xb2_w1, xb3_w1⟩ := low4 (PSt.low PSTw1.out) XB0.out XB1.out XB2.out XB3.out;have hlt_g_w1 : g < w1.heap.size := bL xa0_w1;clear htw1;go_wp2_with fail
 refine Calls.mono ((ARGa.out) _ _ _ (PSt.fresh PSTw1.out frR) FITw1.out.left) ?_;rintro _ w2 ⟨rfl, htw2⟩;have PSTw2 := hid (PSt.add2 (PSt.fresh PSTw1.out frR) htw2);have ACCw2 := hid (PrAdd.app ACCw1.out (PrAdd.freshL (show Fresh w1 _ from frR) htw2));have FITw2 := hid (Fits.right2 FITw1.out);have B0_w2 : Blk w2 (w.heap.size) 26 #[kd, tx, cl, .slice (some ⟨g, o, none⟩) 2 cap] := PrAdd.bk htw2 (by first | exact blkN | assumption | exact blkA (by assumption)) PST0.out (by omega);clear q0_0_w1 q0_1_w1 q0_2_w1 q0_3_w1 B0_w1;obtain ⟨q0_0_w2, q0_1_w2, q0_2_w2, q0_3_w2, _⟩ := Blk.four B0_w2;clear xa0_w1 xa1_w1 xa2_w1 xa3_w1 xb0_w1 xb1_w1 xb2_w1 xb3_w1;obtain ⟨xa0_w2, xa1_w2, xa2_w2, xa3_w2⟩ := low4 (PSt.low PSTw2.out) XA0.out XA1.out XA2.out XA3.out;obtain ⟨xb0_w2, xb1_w2, xb2_w2, xb3_w2⟩ := low4 (PSt.low PSTw2.out) XB0.out XB1.out XB2.out XB3.out;have hlt_g_w2 : g < w2.heap.size := bL xa0_w2;clear htw2;go_wp2_with fail
 refine Calls.mono ((ARGb.out) _ _ _ (PSt.fresh PSTw2.out frR) FITw2.out) ?_;rintro _ w3 ⟨rfl, htw3⟩;have PSTw3 := hid (PSt.add2 (PSt.fresh PSTw2.out frR) htw3);have ACCw3 := hid (PrAdd.app ACCw2.out (PrAdd.freshL (show Fresh w2 _ from frR) htw3));have B0_w3 : Blk w3 (w.heap.size) 26 #[kd, tx, cl, .slice (some ⟨g, o, none⟩) 2 cap] := PrAdd.bk htw3 (by first | exact blkN | assumption | exact blkA (by assumption)) PST0.out (by omega);clear q0_0_w2 q0_1_w2 q0_2_w2 q0_3_w2 B0_w2;obtain ⟨q0_0_w3, q0_1_w3, q0_2_w3, q0_3_w3, _⟩ := Blk.four B0_w3;clear xa0_w2 xa1_w2 xa2_w2 xa3_w2 xb0_w2 xb1_w2 xb2_w2 xb3_w2;obtain ⟨xa0_w3, xa1_w3, xa2_w3, xa3_w3⟩ := low4 (PSt.low PSTw3.out) XA0.out XA1.out XA2.out XA3.out;obtain ⟨xb0_w3, xb1_w3, xb2_w3, xb3_w3⟩ := low4 (PSt.low PSTw3.out) XB0.out XB1.out XB2.out XB3.out;have hlt_g_w3 : g < w3.heap.size := bL xa0_w3;clear htw3;go_wp2_with fail
 first | go_end0 | refine bodyPost_ret (v := .tuple #[]) (results_none rfl _ _ _) rfl ?_
 exact ⟨rfl, PrAdd.cast ACCw3.out (by first | rfl | (simp only [List.append_assoc] <;> rfl))⟩
theorem root_full (W0 : World) (p B : Nat) (kd tx cl : Value) (a b : Nd) (hk : a.kids ≠ []) (ha : RowE W0 p B a) (hb : ArgE W0 p B b) (sl : Value) (hsl : RepL W0 [a, b] sl) : Emits 94 #[pp p, .agg #[kd, tx, cl, sl]] W0 p B ([Tr.name Tr.sRoot] ++ ([Tr.mk7 91] ++ (rowT a.kids ++ ([Tr.mk7 93] ++ argT b)))) := by
 intro w toks txt hp hf;obtain ⟨g, o, cap, sa, sb, rfl, a0, a1, a2, a3, hra, b0, b1, b2, b3, hrb⟩ := hsl.two;obtain ⟨Aa, capa, rfl⟩ := hra.slice;have ROWa := hid (ha _ hra);clear ha;have ARGb := hid (hb sb hrb);have PST0 := hid hp;have FIT0 := hid hf;have hpos : 0 < a.kids.length := by exact List.length_pos_iff.2 hk
 have d1 : decide ((0 : Int) < (a.kids.length : Int)) = true := dT (by omega);have d1n : decide (0 < a.kids.length) = true := dT (by omega);have d1' : (0 : Int) < (a.kids.length : Int) := by omega
 clear hpos;clear hp hf hb hsl hra hrb hk;have XA0 := hid a0;have XA1 := hid a1;have XA2 := hid a2;have XA3 := hid a3;have XB0 := hid b0;have XB1 := hid b1;have XB2 := hid b2;have XB3 := hid b3;clear a0 a1 a2 a3 b0 b1 b2 b3;obtain ⟨xa0_w, xa1_w, xa2_w, xa3_w⟩ := low4 (PSt.low PST0.out) XA0.out XA1.out XA2.out XA3.out;obtain ⟨xb0_w, xb1_w, xb2_w, xb3_w⟩ := low4 (PSt.low PST0.out) XB0.out XB1.out XB2.out XB3.out;have hlt_g_w : g < w.heap.size := bL xa0_w;go_enter Tryz.func94, Tryz.ntmps94;go_wp2_with fail
 refine Calls.mono ((add_em W0 p B 4 [114, 111, 111, 116]) _ _ _ (PSt.fresh PST0.out frR) FIT0.out.left) ?_;rintro _ w1 ⟨rfl, htw1⟩;have PSTw1 := hid (PSt.add (PSt.fresh PST0.out frR) htw1);have ACCw1 := hid (PrAdd.freshL (show Fresh w _ from frR) htw1);have FITw1 := hid (Fits.right FIT0.out);have B0_w1 : Blk w1 (w.heap.size) 26 #[kd, tx, cl, .slice (some ⟨g, o, none⟩) 2 cap] := PrAdd.bk htw1 (by first | exact blkN | assumption | exact blkA (by assumption)) PST0.out (by omega);obtain ⟨q0_0_w1, q0_1_w1, q0_2_w1, q0_3_w1, _⟩ := Blk.four B0_w1;clear xa0_w xa1_w xa2_w xa3_w xb0_w xb1_w xb2_w xb3_w;obtain ⟨xa0_w1, xa1_w1, xa2_w1, xa3_w1⟩ := low4 (PSt.low PSTw1.out) XA0.out XA1.out XA2.out XA3.out;obtain ⟨xb0_w1, xb1_w1, xb2_w1, xb3_w1⟩ := low4 (PSt.low PSTw1.out) XB0.out XB1.out XB2.out XB3.out;have hlt_g_w1 : g < w1.heap.size := bL xa0_w1;clear htw1;go_wp2_with fail
 refine Calls.mono ((mark_em W0 p B [91]) _ _ _ (PSt.fresh PSTw1.out frR) FITw1.out.left) ?_;rintro _ w2 ⟨rfl, htw2⟩;have PSTw2 := hid (PSt.add2 (PSt.fresh PSTw1.out frR) htw2);have ACCw2 := hid (PrAdd.app ACCw1.out (PrAdd.freshL (show Fresh w1 _ from frR) htw2));have FITw2 := hid (Fits.right2 FITw1.out);have B0_w2 : Blk w2 (w.heap.size) 26 #[kd, tx, cl, .slice (some ⟨g, o, none⟩) 2 cap] := PrAdd.bk htw2 (by first | exact blkN | assumption | exact blkA (by assumption)) PST0.out (by omega);clear q0_0_w1 q0_1_w1 q0_2_w1 q0_3_w1 B0_w1;obtain ⟨q0_0_w2, q0_1_w2, q0_2_w2, q0_3_w2, _⟩ := Blk.four B0_w2;clear xa0_w1 xa1_w1 xa2_w1 xa3_w1 xb0_w1 xb1_w1 xb2_w1 xb3_w1;obtain ⟨xa0_w2, xa1_w2, xa2_w2, xa3_w2⟩ := low4 (PSt.low PSTw2.out) XA0.out XA1.out XA2.out XA3.out;obtain ⟨xb0_w2, xb1_w2, xb2_w2, xb3_w2⟩ := low4 (PSt.low PSTw2.out) XB0.out XB1.out XB2.out XB3.out;have hlt_g_w2 : g < w2.heap.size := bL xa0_w2;clear htw2;go_wp2_with fail
 refine Calls.mono ((ROWa.out) _ _ _ (PSt.fresh PSTw2.out frR) FITw2.out.left) ?_;rintro _ w3 ⟨rfl, htw3⟩;have PSTw3 := hid (PSt.add2 (PSt.fresh PSTw2.out frR) htw3);have ACCw3 := hid (PrAdd.app ACCw2.out (PrAdd.freshL (show Fresh w2 _ from frR) htw3));have FITw3 := hid (Fits.right2 FITw2.out);have B0_w3 : Blk w3 (w.heap.size) 26 #[kd, tx, cl, .slice (some ⟨g, o, none⟩) 2 cap] := PrAdd.bk htw3 (by first | exact blkN | assumption | exact blkA (by assumption)) PST0.out (by omega);clear q0_0_w2 q0_1_w2 q0_2_w2 q0_3_w2 B0_w2;obtain ⟨q0_0_w3, q0_1_w3, q0_2_w3, q0_3_w3, _⟩ := Blk.four B0_w3;clear xa0_w2 xa1_w2 xa2_w2 xa3_w2 xb0_w2 xb1_w2 xb2_w2 xb3_w2;obtain ⟨xa0_w3, xa1_w3, xa2_w3, xa3_w3⟩ := low4 (PSt.low PSTw3.out) XA0.out XA1.out XA2.out XA3.out;obtain ⟨xb0_w3, xb1_w3, xb2_w3, xb3_w3⟩ := low4 (PSt.low PSTw3.out) XB0.out XB1.out XB2.out XB3.out;have hlt_g_w3 : g < w3.heap.size := bL xa0_w3;clear htw3;go_wp2_with fail
 refine Calls.mono ((mark_em W0 p B [93]) _ _ _ (PSt.fresh PSTw3.out frR) FITw3.out.left) ?_;rintro _ w4 ⟨rfl, htw4⟩;have PSTw4 := hid (PSt.add2 (PSt.fresh PSTw3.out frR) htw4);have ACCw4 := hid (PrAdd.app ACCw3.out (PrAdd.freshL (show Fresh w3 _ from frR) htw4));have FITw4 := hid (Fits.right2 FITw3.out);have B0_w4 : Blk w4 (w.heap.size) 26 #[kd, tx, cl, .slice (some ⟨g, o, none⟩) 2 cap] := PrAdd.bk htw4 (by first | exact blkN | assumption | exact blkA (by assumption)) PST0.out (by omega);clear q0_0_w3 q0_1_w3 q0_2_w3 q0_3_w3 B0_w3;obtain ⟨q0_0_w4, q0_1_w4, q0_2_w4, q0_3_w4, _⟩ := Blk.four B0_w4;clear xa0_w3 xa1_w3 xa2_w3 xa3_w3 xb0_w3 xb1_w3 xb2_w3 xb3_w3;obtain ⟨xa0_w4, xa1_w4, xa2_w4, xa3_w4⟩ := low4 (PSt.low PSTw4.out) XA0.out XA1.out XA2.out XA3.out;obtain ⟨xb0_w4, xb1_w4, xb2_w4, xb3_w4⟩ := low4 (PSt.low PSTw4.out) XB0.out XB1.out XB2.out XB3.out;have hlt_g_w4 : g < w4.heap.size := bL xa0_w4;clear htw4;go_wp2_with fail
 refine Calls.mono ((ARGb.out) _ _ _ (PSt.fresh PSTw4.out frR) FITw4.out) ?_;rintro _ w5 ⟨rfl, htw5⟩;have PSTw5 := hid (PSt.add2 (PSt.fresh PSTw4.out frR) htw5);have ACCw5 := hid (PrAdd.app ACCw4.out (PrAdd.freshL (show Fresh w4 _ from frR) htw5));have B0_w5 : Blk w5 (w.heap.size) 26 #[kd, tx, cl, .slice (some ⟨g, o, none⟩) 2 cap] := PrAdd.bk htw5 (by first | exact blkN | assumption | exact blkA (by assumption)) PST0.out (by omega);clear q0_0_w4 q0_1_w4 q0_2_w4 q0_3_w4 B0_w4;obtain ⟨q0_0_w5, q0_1_w5, q0_2_w5, q0_3_w5, _⟩ := Blk.four B0_w5;clear xa0_w4 xa1_w4 xa2_w4 xa3_w4 xb0_w4 xb1_w4 xb2_w4 xb3_w4;obtain ⟨xa0_w5, xa1_w5, xa2_w5, xa3_w5⟩ := low4 (PSt.low PSTw5.out) XA0.out XA1.out XA2.out XA3.out;obtain ⟨xb0_w5, xb1_w5, xb2_w5, xb3_w5⟩ := low4 (PSt.low PSTw5.out) XB0.out XB1.out XB2.out XB3.out;have hlt_g_w5 : g < w5.heap.size := bL xa0_w5;clear htw5;go_wp2_with fail
 first | go_end0 | refine bodyPost_ret (v := .tuple #[]) (results_none rfl _ _ _) rfl ?_
 exact ⟨rfl, PrAdd.cast ACCw5.out (by first | rfl | (simp only [List.append_assoc] <;> rfl))⟩
theorem root_bare (W0 : World) (p B : Nat) (kd tx cl : Value) (a b : Nd) (hk : a.kids = []) (hb : ArgE W0 p B b) (sl : Value) (hsl : RepL W0 [a, b] sl) : Emits 94 #[pp p, .agg #[kd, tx, cl, sl]] W0 p B ([Tr.name Tr.sRoot] ++ argT b) := by
 intro w toks txt hp hf;obtain ⟨g, o, cap, sa, sb, rfl, a0, a1, a2, a3, hra, b0, b1, b2, b3, hrb⟩ := hsl.two;obtain ⟨Aa, capa, rfl⟩ := hra.slice;have ARGb := hid (hb sb hrb);have PST0 := hid hp;have FIT0 := hid hf;have hpos : a.kids.length = 0 := by rw [hk]; rfl
 have d1 : decide ((0 : Int) < (a.kids.length : Int)) = false := dF (by omega);have d1n : decide (0 < a.kids.length) = false := dF (by omega);have HPOS := hid hpos;clear hpos;clear hp hf hb hsl hra hrb hk;have XA0 := hid a0;have XA1 := hid a1;have XA2 := hid a2;have XA3 := hid a3;have XB0 := hid b0;have XB1 := hid b1;have XB2 := hid b2;have XB3 := hid b3;clear a0 a1 a2 a3 b0 b1 b2 b3;obtain ⟨xa0_w, xa1_w, xa2_w, xa3_w⟩ := low4 (PSt.low PST0.out) XA0.out XA1.out XA2.out XA3.out;obtain ⟨xb0_w, xb1_w, xb2_w, xb3_w⟩ := low4 (PSt.low PST0.out) XB0.out XB1.out XB2.out XB3.out;have hlt_g_w : g < w.heap.size := bL xa0_w;go_enter Tryz.func94, Tryz.ntmps94;go_wp2_with fail
 refine Calls.mono ((add_em W0 p B 4 [114, 111, 111, 116]) _ _ _ (PSt.fresh PST0.out frR) FIT0.out.left) ?_;rintro _ w1 ⟨rfl, htw1⟩;have PSTw1 := hid (PSt.add (PSt.fresh PST0.out frR) htw1);have ACCw1 := hid (PrAdd.freshL (show Fresh w _ from frR) htw1);have FITw1 := hid (Fits.right FIT0.out);have B0_w1 : Blk w1 (w.heap.size) 26 #[kd, tx, cl, .slice (some ⟨g, o, none⟩) 2 cap] := PrAdd.bk htw1 (by first | exact blkN | assumption | exact blkA (by assumption)) PST0.out (by omega);obtain ⟨q0_0_w1, q0_1_w1, q0_2_w1, q0_3_w1, _⟩ := Blk.four B0_w1;clear xa0_w xa1_w xa2_w xa3_w xb0_w xb1_w xb2_w xb3_w;obtain ⟨xa0_w1, xa1_w1, xa2_w1, xa3_w1⟩ := low4 (PSt.low PSTw1.out) XA0.out XA1.out XA2.out XA3.out;obtain ⟨xb0_w1, xb1_w1, xb2_w1, xb3_w1⟩ := low4 (PSt.low PSTw1.out) XB0.out XB1.out XB2.out XB3.out;have hlt_g_w1 : g < w1.heap.size := bL xa0_w1;clear htw1;go_wp2_with fail
 refine Calls.mono ((ARGb.out) _ _ _ (PSt.fresh PSTw1.out frR) FITw1.out) ?_;rintro _ w2 ⟨rfl, htw2⟩;have PSTw2 := hid (PSt.add2 (PSt.fresh PSTw1.out frR) htw2);have ACCw2 := hid (PrAdd.app ACCw1.out (PrAdd.freshL (show Fresh w1 _ from frR) htw2));have B0_w2 : Blk w2 (w.heap.size) 26 #[kd, tx, cl, .slice (some ⟨g, o, none⟩) 2 cap] := PrAdd.bk htw2 (by first | exact blkN | assumption | exact blkA (by assumption)) PST0.out (by omega);clear q0_0_w1 q0_1_w1 q0_2_w1 q0_3_w1 B0_w1;obtain ⟨q0_0_w2, q0_1_w2, q0_2_w2, q0_3_w2, _⟩ := Blk.four B0_w2;clear xa0_w1 xa1_w1 xa2_w1 xa3_w1 xb0_w1 xb1_w1 xb2_w1 xb3_w1;obtain ⟨xa0_w2, xa1_w2, xa2_w2, xa3_w2⟩ := low4 (PSt.low PSTw2.out) XA0.out XA1.out XA2.out XA3.out;obtain ⟨xb0_w2, xb1_w2, xb2_w2, xb3_w2⟩ := low4 (PSt.low PSTw2.out) XB0.out XB1.out XB2.out XB3.out;have hlt_g_w2 : g < w2.heap.size := bL xa0_w2;clear htw2;go_wp2_with fail
 first | go_end0 | refine bodyPost_ret (v := .tuple #[]) (results_none rfl _ _ _) rfl ?_
 exact ⟨rfl, PrAdd.cast ACCw2.out (by first | rfl | (simp only [List.append_assoc] <;> rfl))⟩
theorem accent_em (W0 : World) (p B : Nat) (kd cl : Value) (t : List UInt8) (a : Nd) (ha : ArgE W0 p B a) (sl : Value) (hsl : RepL W0 [a] sl) : Emits 96 #[pp p, .agg #[kd, .string ⟨t.toArray⟩, cl, sl]] W0 p B ([Tr.name t] ++ argT a) := by
 intro w toks txt hp hf;obtain ⟨g, o, cap, sa, rfl, a0, a1, a2, a3, hra⟩ := hsl.one;have ARGa := hid (ha sa hra);have PST0 := hid hp;have FIT0 := hid hf;clear hp hf ha hsl hra;have XA0 := hid a0;have XA1 := hid a1;have XA2 := hid a2;have XA3 := hid a3;clear a0 a1 a2 a3;obtain ⟨xa0_w, xa1_w, xa2_w, xa3_w⟩ := low4 (PSt.low PST0.out) XA0.out XA1.out XA2.out XA3.out;have hlt_g_w : g < w.heap.size := bL xa0_w;go_enter Tryz.func96, Tryz.ntmps96;go_wp2_with fail
 refine Calls.mono ((add_em W0 p B 4 t) _ _ _ (PSt.fresh PST0.out frR) FIT0.out.left) ?_;rintro _ w1 ⟨rfl, htw1⟩;have PSTw1 := hid (PSt.add (PSt.fresh PST0.out frR) htw1);have ACCw1 := hid (PrAdd.freshL (show Fresh w _ from frR) htw1);have FITw1 := hid (Fits.right FIT0.out);have B0_w1 : Blk w1 (w.heap.size) 26 #[kd, .string (⟨t.toArray⟩ : ByteArray), cl, .slice (some ⟨g, o, none⟩) 1 cap] := PrAdd.bk htw1 (by first | exact blkN | assumption | exact blkA (by assumption)) PST0.out (by omega);obtain ⟨q0_0_w1, q0_1_w1, q0_2_w1, q0_3_w1, _⟩ := Blk.four B0_w1;clear xa0_w xa1_w xa2_w xa3_w;obtain ⟨xa0_w1, xa1_w1, xa2_w1, xa3_w1⟩ := low4 (PSt.low PSTw1.out) XA0.out XA1.out XA2.out XA3.out;have hlt_g_w1 : g < w1.heap.size := bL xa0_w1;clear htw1;go_wp2_with fail
 refine Calls.mono ((ARGa.out) _ _ _ (PSt.fresh PSTw1.out frR) FITw1.out) ?_;rintro _ w2 ⟨rfl, htw2⟩;have PSTw2 := hid (PSt.add2 (PSt.fresh PSTw1.out frR) htw2);have ACCw2 := hid (PrAdd.app ACCw1.out (PrAdd.freshL (show Fresh w1 _ from frR) htw2));have B0_w2 : Blk w2 (w.heap.size) 26 #[kd, .string (⟨t.toArray⟩ : ByteArray), cl, .slice (some ⟨g, o, none⟩) 1 cap] := PrAdd.bk htw2 (by first | exact blkN | assumption | exact blkA (by assumption)) PST0.out (by omega);clear q0_0_w1 q0_1_w1 q0_2_w1 q0_3_w1 B0_w1;obtain ⟨q0_0_w2, q0_1_w2, q0_2_w2, q0_3_w2, _⟩ := Blk.four B0_w2;clear xa0_w1 xa1_w1 xa2_w1 xa3_w1;obtain ⟨xa0_w2, xa1_w2, xa2_w2, xa3_w2⟩ := low4 (PSt.low PSTw2.out) XA0.out XA1.out XA2.out XA3.out;have hlt_g_w2 : g < w2.heap.size := bL xa0_w2;clear htw2;go_wp2_with fail
 first | go_end0 | refine bodyPost_ret (v := .tuple #[]) (results_none rfl _ _ _) rfl ?_
 exact ⟨rfl, PrAdd.cast ACCw2.out (by first | rfl | (simp only [List.append_assoc] <;> rfl))⟩
theorem scripted_any (n : Nd) (sl : Value) (w : World) : Calls Tryz.prog 126 #[nv n sl] w fun e w' => e = .returned (.bool (Tr.scripted n)) ∧ Fresh w w' := by
 cases k7 : (n.kind == 7) with
 | true =>
  go_enter Tryz.func126, Tryz.ntmps126;go_wp2_with fail
  go_ret;exact ⟨ret_bool' _ _ (by simp [Tr.scripted, k7]), (Touch.refl _ _).alloc _⟩
 | false =>
  cases k8 : (n.kind == 8) with
  | true =>
   go_enter Tryz.func126, Tryz.ntmps126;go_wp2_with fail
   go_ret;exact ⟨ret_bool' _ _ (by simp [Tr.scripted, k8]), (Touch.refl _ _).alloc _⟩
  | false =>
   go_enter Tryz.func126, Tryz.ntmps126;go_wp2_with fail
   go_ret;exact ⟨ret_bool' _ _ (by simp [Tr.scripted, k7, k8]), (Touch.refl _ _).alloc _⟩
end Go.Proofs.YtncnoeoicaglaaaGreat
