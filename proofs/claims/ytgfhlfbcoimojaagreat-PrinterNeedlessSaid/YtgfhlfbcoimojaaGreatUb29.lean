/- Part 29 of 53 of a proof; its texts, joined: PrL. No condition. -/
import Derived.Test.YtgfhlfbcoimojaaGreatUb28
import Derived.Test.YtgfhlfbcoimojaaGreatUb16

/- The printer's methods: words for their contracts. -/
namespace Go.Proofs.YtgfhlfbcoimojaaGreat
open Go.RowKit
abbrev Low (W0 w : World) : Prop := Touch (fun k => W0.heap.size ≤ k) W0 w
theorem low_no {W0 : World} {q : Addr} {v : Value} (h : W0.cell? q = some v) : ¬ W0.heap.size ≤ q.block := by
 have := block_lt_of_cell (a := q) (v := v) h
 omega
theorem Low.cell {W0 w : World} (hl : Low W0 w) {q : Addr} {v : Value} (h : W0.cell? q = some v) : w.cell? q = some v := Touch.cell hl h (low_no h)
theorem low4 {w w' : World} {a b c d : Addr} {x y z u : Value} (h : Low w w') (h0 : w.cell? a = some x) (h1 : w.cell? b = some y) (h2 : w.cell? c = some z) (h3 : w.cell? d = some u) :
  w'.cell? a = some x ∧ w'.cell? b = some y ∧ w'.cell? c = some z ∧ w'.cell? d = some u := ⟨h.cell h0, h.cell h1, h.cell h2, h.cell h3⟩
theorem Low.fresh {W0 w w' : World} (hl : Low W0 w) (hf : Fresh w w') : Low W0 w' := hl.trans' hf fun _ h => h.elim
theorem RepL.low {W0 w : World} {ks : List Tr.Nd} {v : Value} (h : RepL W0 ks v) (hl : Low W0 w) : RepL w ks v := by
 induction h with
 | nil A cap => exact .nil A cap
 | row g o cap ks sl hg hln ht h0 h1 h2 h3 hk ih =>
  exact .row g o cap ks sl (Nat.lt_of_lt_of_le hg hl.size) hln ht (fun i hi => hl.cell (h0 i hi)) (fun i hi => hl.cell (h1 i hi)) (fun i hi => hl.cell (h2 i hi)) (fun i hi => hl.cell (h3 i hi)) ih
structure PSt (W0 : World) (p B : Nat) (w : World) (toks : List Lx.PTok) (txt : List UInt8) : Prop where
 low : Low W0 w
 hp : W0.heap.size ≤ p
 hB : B ≤ w.heap.size
 pr : ∃ vt vb cs, Pr w p B vt vb cs toks txt
theorem PSt.lt {W0 : World} {p B : Nat} {w : World} {toks : List Lx.PTok} {txt : List UInt8} (h : PSt W0 p B w toks txt) : p < B := by
 obtain ⟨_, _, _, h⟩ := h.pr
 exact h.lt
theorem PS.low {W0 : World} {p B : Nat} {w w' : World} (hl : Low W0 w) (hp : W0.heap.size ≤ p) (hB : p < B) (ht : Touch (PS p B w) w w') : Low W0 w' :=
 hl.trans' ht fun k hk => .inl (by
  rcases hk with rfl | ⟨h, _⟩
  ·exact hp
  ·omega)
theorem PSt.add {W0 : World} {p B : Nat} {w w' : World} {toks : List Lx.PTok} {txt : List UInt8} {l : List Lx.Tok} (h : PSt W0 p B w toks txt) (k : PrAdd w w' p B toks txt l) : PSt W0 p B w' (adds l toks txt).1 (adds l toks txt).2 := by
 obtain ⟨vt, vb, cs, hp, ht⟩ := k
 exact ⟨PS.low h.low h.hp h.lt ht, h.hp, Nat.le_trans h.hB ht.size, vt, vb, cs, hp⟩
theorem PSt.add2 {W0 : World} {p B : Nat} {w w' : World} {toks : List Lx.PTok} {txt : List UInt8} {l m : List Lx.Tok} (h : PSt W0 p B w (adds l toks txt).1 (adds l toks txt).2) (k : PrAdd w w' p B (adds l toks txt).1 (adds l toks txt).2 m) : PSt W0 p B w' (adds (l ++ m) toks txt).1 (adds (l ++ m) toks txt).2 := by
 rw [adds_app]
 exact h.add k
theorem PSt.fresh {W0 : World} {p B : Nat} {w w' : World} {toks : List Lx.PTok} {txt : List UInt8} (h : PSt W0 p B w toks txt) (hf : Fresh w w') : PSt W0 p B w' toks txt := by
 obtain ⟨vt, vb, cs, hp⟩ := h.pr
 exact ⟨h.low.fresh hf, h.hp, Nat.le_trans h.hB hf.size, vt, vb, cs, hp.fresh hf⟩
def Fits (l : List Lx.Tok) (toks : List Lx.PTok) (txt : List UInt8) : Prop := (adds l toks txt).1.length ≤ 2000000 ∧ (adds l toks txt).2.length ≤ 2000000
theorem adds_mono : ∀ (l : List Lx.Tok) (toks : List Lx.PTok) (txt : List UInt8), toks.length ≤ (adds l toks txt).1.length ∧ txt.length ≤ (adds l toks txt).2.length
 | [], _, _ => ⟨Nat.le_refl _, Nat.le_refl _⟩
 | t :: l, toks, txt => by
  have := adds_mono l (added toks txt t) (txt ++ gap toks t ++ Lx.spell t)
  simp only [adds, added, List.length_append, List.length_singleton] at this ⊢
  omega
theorem Fits.left {l m : List Lx.Tok} {toks : List Lx.PTok} {txt : List UInt8} (h : Fits (l ++ m) toks txt) : Fits l toks txt := by
 unfold Fits at h ⊢
 rw [adds_app] at h
 have := adds_mono m (adds l toks txt).1 (adds l toks txt).2
 omega
theorem Fits.right {l m : List Lx.Tok} {toks : List Lx.PTok} {txt : List UInt8} (h : Fits (l ++ m) toks txt) : Fits m (adds l toks txt).1 (adds l toks txt).2 := by
 unfold Fits at h ⊢
 rw [adds_app] at h
 exact h
theorem Fits.right2 {k l m : List Lx.Tok} {toks : List Lx.PTok} {txt : List UInt8} (h : Fits (l ++ m) (adds k toks txt).1 (adds k toks txt).2) : Fits m (adds (k ++ l) toks txt).1 (adds (k ++ l) toks txt).2 := by
 rw [adds_app]
 exact h.right
theorem Fits.start {l : List Lx.Tok} {toks : List Lx.PTok} {txt : List UInt8} (h : Fits l toks txt) : toks.length ≤ 2000000 ∧ txt.length ≤ 2000000 := by
 unfold Fits at h
 have := adds_mono l toks txt
 omega
theorem spell_le (t : Lx.Tok) : t.text.length ≤ (Lx.spell t).length := Lx.spellL_len _ _
theorem Fits.one {t : Lx.Tok} {toks : List Lx.PTok} {txt : List UInt8} (h : Fits [t] toks txt) : t.text.length ≤ 2000000 := by
 unfold Fits at h
 simp only [adds, List.length_append] at h
 have := spell_le t
 omega
def Emits (f : Nat) (args : Array Value) (W0 : World) (p B : Nat) (l : List Lx.Tok) : Prop :=
 ∀ (w : World) (toks : List Lx.PTok) (txt : List UInt8), PSt W0 p B w toks txt → Fits l toks txt → Calls Tryz.prog f args w fun e w' => e = .returned (.tuple #[]) ∧ PrAdd w w' p B toks txt l
abbrev nv (n : Tr.Nd) (sl : Value) : Value := .agg #[.int .i64 n.kind, .string ⟨n.text.toArray⟩, .int .i64 n.cols, sl]
abbrev pp (p : Nat) : Value := .pointer (some ⟨p, 0, none⟩)
theorem add_em (W0 : World) (p B k : Nat) (t : List UInt8) : Emits 131 #[pp p, .int .i64 (k : Int), .string ⟨t.toArray⟩] W0 p B [⟨k, t⟩] := by
 intro w toks txt h hf
 obtain ⟨vt, vb, cs, hp⟩ := h.pr
 exact add_one hp k t h.hB hf.start.2 hf.one hf.start.1
theorem mark_em (W0 : World) (p B : Nat) (t : List UInt8) : Emits 133 #[pp p, .string ⟨t.toArray⟩] W0 p B [⟨7, t⟩] := by
 intro w toks txt h hf
 obtain ⟨vt, vb, cs, hp⟩ := h.pr
 exact pmark_any hp t h.hB hf.start.2 hf.one hf.start.1
theorem number_em (W0 : World) (p B : Nat) (n : Tr.Nd) (sl : Value) : Emits 97 #[pp p, nv n sl] W0 p B [⟨2, n.text⟩] := by
 intro w toks txt h hf
 obtain ⟨vt, vb, cs, hp⟩ := h.pr
 exact number_pr hp _ _ _ n.text h.hB hf.start.2 hf.one hf.start.1
theorem quoted_em (W0 : World) (p B : Nat) (n : Tr.Nd) (sl : Value) : Emits 98 #[pp p, nv n sl] W0 p B [⟨3, n.text⟩] := by
 intro w toks txt h hf
 obtain ⟨vt, vb, cs, hp⟩ := h.pr
 exact quoted_pr hp _ _ _ n.text h.hB hf.start.2 hf.one hf.start.1
theorem symbol_em (W0 : World) (p B : Nat) (n : Tr.Nd) (sl : Value) : Emits 96 #[pp p, nv n sl] W0 p B [⟨if n.text.length = 1 then 1 else 4, n.text⟩] := by
 intro w toks txt h hf
 obtain ⟨vt, vb, cs, hp⟩ := h.pr
 exact symbol_pr hp _ _ _ n.text h.hB hf.start.2 hf.one hf.start.1
def RowE (W0 : World) (p B : Nat) (n : Tr.Nd) : Prop := ∀ sl, RepL W0 n.kids sl → Emits 34 #[pp p, nv n sl] W0 p B (Tr.rowT n.kids)
def GroupE (W0 : World) (p B : Nat) (n : Tr.Nd) : Prop := ∀ sl, RepL W0 n.kids sl → Emits 135 #[pp p, nv n sl] W0 p B ([Tr.mk7 123] ++ (Tr.rowT n.kids ++ [Tr.mk7 125]))
def ArgE (W0 : World) (p B : Nat) (n : Tr.Nd) : Prop := ∀ sl, RepL W0 n.kids sl → Emits 132 #[pp p, nv n sl] W0 p B (Tr.argT n)
end Go.Proofs.YtgfhlfbcoimojaaGreat
